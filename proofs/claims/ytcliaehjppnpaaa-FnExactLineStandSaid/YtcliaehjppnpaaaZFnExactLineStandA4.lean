/- The program's LineStand answers as the reference's, for every text, line, base, width and way of standing; it writes into no argument. No condition beyond the statement's own. (text 5 of 6 of this claim: functions of the program and of the reference as plain Lean functions, what a call of each comes to, and what follows.) -/
import Derived.Test.YtcliaehjppnpaaaZFnExactLineStandA0
import Derived.Test.YtcliaehjppnpaaaZFnExactLineStandA2
import Derived.Test.YtcliaehjppnpaaaZFnExactLineStandA1
import Derived.Test.YtcliaehjppnpaaaZFnExactLineStandA3
/- What the laws' own helpers answer: a copy, equality, a row written with 1, 2, 3 .., and whether it still holds that. -/
set_option maxHeartbeats 16000000
set_option maxRecDepth 100000
set_option linter.unusedVariables false
set_option linter.unusedSimpArgs false
namespace Go.Proofs.Ytcliaehjppnpaaa.Pure
open Go.RowKit Go.Proofs.Ytcliaehjppnpaaa.S Go.Proofs.YtcliaehjppnpaaaW.PrintWords Go.Proofs.YtcliaehjppnpaaaW.PrintLast
theorem w64 {x : Int} (h0 : -9223372036854775808 ≤ x) (h1 : x ≤ 9223372036854775807) : wrap64 x = x := by
 unfold wrap64; omega
theorem rd_get {l : List Int} {i : Nat} (h : i < l.length) : rd l (i : Int) = l[i] := by simp [rd, List.getD_eq_getElem?_getD, h]
theorem copy_l (l : List Int) (hn : l.length ≤ 1099511627776) : ∀ (d k i : Nat), l.length - i = d → i ≤ l.length → d < k →
  laws_toIntS.l0 k l (l.take i ++ List.replicate (l.length - i) 0) (i : Int) = some l
 | 0, k, i, hd, hi, hk => by
  obtain ⟨k, rfl⟩ : ∃ m, k = m + 1 := ⟨k - 1, by omega⟩
  have e : i = l.length := by omega
  subst e
  rw [laws_toIntS.l0, if_neg (by omega)]
  simp
 | d + 1, k, i, hd, hi, hk => by
  obtain ⟨k, rfl⟩ : ∃ m, k = m + 1 := ⟨k - 1, by omega⟩
  have hlt : i < l.length := by omega
  rw [laws_toIntS.l0, if_pos (by omega), if_pos (by omega), if_pos (by simp; omega), w64 (by omega) (by omega)]
  have e : (l.take i ++ List.replicate (l.length - i) 0).set (i : Int).toNat (rd l i) = l.take (i + 1) ++ List.replicate (l.length - (i + 1)) 0 := by
   rw [Int.toNat_natCast, rd_get hlt, List.set_append_right _ _ (by simp; omega)]
   have h1 : i - (l.take i).length = 0 := by simp; omega
   rw [h1, show l.length - i = (l.length - (i + 1)) + 1 by omega, List.replicate_succ, List.set_cons_zero, List.take_succ_eq_append_getElem hlt, List.append_assoc]
   rfl
  rw [e]
  exact copy_l l hn d k (i + 1) (by omega) (by omega) (by omega)
theorem copy_p {l : List Int} {k : Nat} (hn : l.length ≤ 1099511627776) (hk : l.length < k) : laws_toIntS.f k l = some l := by
 unfold laws_toIntS.f
 rw [if_pos (by omega), if_pos (by omega)]
 simpa using copy_l l hn l.length k 0 (by omega) (by omega) hk
theorem eq_l (a b : List Int) (hab : a.length = b.length) (hn : a.length ≤ 1099511627776) : ∀ (d k i : Nat), a.length - i = d → i ≤ a.length → d < k →
  laws_eqIntS.l0 k a b (i : Int) = some (decide (a.drop i = b.drop i))
 | 0, k, i, hd, hi, hk => by
  obtain ⟨k, rfl⟩ : ∃ m, k = m + 1 := ⟨k - 1, by omega⟩
  have e : i = a.length := by omega
  subst e
  rw [laws_eqIntS.l0, if_neg (by omega), List.drop_length, hab, List.drop_length]
  simp
 | d + 1, k, i, hd, hi, hk => by
  obtain ⟨k, rfl⟩ : ∃ m, k = m + 1 := ⟨k - 1, by omega⟩
  have hlt : i < a.length := by omega
  have hlb : i < b.length := by omega
  rw [laws_eqIntS.l0, if_pos (by omega), if_pos (by omega), if_pos (by omega), w64 (by omega) (by omega), rd_get hlt, rd_get hlb, List.drop_eq_getElem_cons hlt, List.drop_eq_getElem_cons hlb]
  have := eq_l a b hab hn d k (i + 1) (by omega) (by omega) (by omega)
  rw [show ((i : Int) + 1) = ((i + 1 : Nat) : Int) by omega, this]
  by_cases h : a[i] = b[i]
  ·
   rw [if_pos h, h]
   simp only [List.cons.injEq, true_and]
  ·
   rw [if_neg h]
   simp only [List.cons.injEq, h, false_and, decide_false]
theorem eq_p {a b : List Int} {k : Nat} (hn : a.length ≤ 1099511627776) (hk : a.length < k) : laws_eqIntS.f k a b = some (decide (a = b)) := by
 unfold laws_eqIntS.f
 by_cases hab : a.length = b.length
 ·
  rw [if_pos (by omega)]
  simpa using eq_l a b hab hn a.length k 0 (by omega) (by omega) hk
 ·
  rw [if_neg (by omega)]
  simp only [Option.some.injEq]
  exact (decide_eq_false (fun h => hab (by rw [h]))).symm
def iota (a : Int) : Nat → List Int
 | 0 => []
 | n + 1 => a :: iota (a + 1) n
theorem mark_l : ∀ (d k i : Nat) (l : List Int) (a : Int), l.length ≤ 1099511627776 → -1099511627776 ≤ a → a ≤ 1099511627776 * 4 → a + d ≤ 1099511627776 * 4 → l.length - i = d → i ≤ l.length → d < k →
  laws_markIntS.l0 k l a (i : Int) = some (a + d, l.take i ++ iota a d)
 | 0, k, i, l, a, hn, h0, h1, h2, hd, hi, hk => by
  obtain ⟨k, rfl⟩ : ∃ m, k = m + 1 := ⟨k - 1, by omega⟩
  have e : i = l.length := by omega
  subst e
  rw [laws_markIntS.l0, if_neg (by omega)]
  simp [iota]
 | d + 1, k, i, l, a, hn, h0, h1, h2, hd, hi, hk => by
  obtain ⟨k, rfl⟩ : ∃ m, k = m + 1 := ⟨k - 1, by omega⟩
  have hlt : i < l.length := by omega
  rw [laws_markIntS.l0, if_pos (by omega), if_pos (by omega), w64 (x := (i : Int) + 1) (by omega) (by omega), w64 (by omega) (by omega), Int.toNat_natCast]
  have := mark_l d k (i + 1) (l.set i a) (a + 1) (by simpa using hn) (by omega) (by omega) (by omega) (by simp; omega) (by simp; omega) (by omega)
  rw [show ((i : Int) + 1) = ((i + 1 : Nat) : Int) by omega, this]
  simp only [Option.some.injEq, Prod.mk.injEq, iota]
  refine ⟨by omega, ?_⟩
  rw [List.take_succ_eq_append_getElem (by simpa using hlt)]
  simp [List.take_set_of_le]
theorem mark_p {l : List Int} {a : Int} {k : Nat} (hn : l.length ≤ 1099511627776) (h0 : -1099511627776 ≤ a) (h1 : a ≤ 1099511627776) (hk : l.length < k) : laws_markIntS.f k l a = some (a + l.length, iota a l.length) := by
 unfold laws_markIntS.f
 simpa using mark_l l.length k 0 l a hn h0 (by omega) (by omega) (by omega) (by omega) hk
end Go.Proofs.Ytcliaehjppnpaaa.Pure
/- Letters that are ok, by both texts. -/
namespace Go.Proofs.Ytcliaehjppnpaaa.Pure
open Go.RowKit Go.Proofs.Ytcliaehjppnpaaa.S Go.Proofs.YtcliaehjppnpaaaW.PrintWords Go.Proofs.YtcliaehjppnpaaaW.PrintLast
theorem l1In_p (a b c : Int) : spec_l1In.f a b c = some (decide (b ≤ a) && decide (a ≤ c)) := by
 unfold spec_l1In.f
 by_cases h : b ≤ a <;> simp [h]
def sizeV (a : Int) : Int := if 0 ≤ a ∧ a ≤ 127 then 1 else if 128 ≤ a ∧ a ≤ 2047 then 2 else if 55296 ≤ a ∧ a ≤ 57343 then 0 else if 2048 ≤ a ∧ a ≤ 65535 then 3 else if 65536 ≤ a ∧ a ≤ 1114111 then 4 else 0
theorem size_f (a : Int) : spec_l1Size.f a = some (sizeV a) := by
 simp only [spec_l1Size.f, l1In_p, Option.bind_some, sizeV]
 grind
theorem size_let (a : Int) : sizeV a = 0 ↔ isLetV a = false := by
 simp only [isLetV, sizeV]
 grind
theorem size_p (a : Int) : ∃ s, spec_l1Size.f a = some s ∧ (s = 0 ↔ isLetV a = false) := ⟨_, size_f a, size_let a⟩
theorem ok_l (l : List Int) (hn : l.length ≤ 1099511627776) : ∀ (d k i : Nat), l.length - i = d → i ≤ l.length → d < k →
  spec_l1Ok.l0 k l (i : Int) = some ((l.drop i).all isLetV && decide (l.length ≤ 80))
 | 0, k, i, hd, hi, hk => by
  obtain ⟨k, rfl⟩ : ∃ m, k = m + 1 := ⟨k - 1, by omega⟩
  have e : i = l.length := by omega
  subst e
  rw [spec_l1Ok.l0, if_neg (by omega), List.drop_length]
  simp only [List.all_nil, Bool.true_and, Option.some.injEq, decide_eq_decide]
  omega
 | d + 1, k, i, hd, hi, hk => by
  obtain ⟨k, rfl⟩ : ∃ m, k = m + 1 := ⟨k - 1, by omega⟩
  have hlt : i < l.length := by omega
  obtain ⟨s, hs, hz⟩ := size_p l[i]
  rw [spec_l1Ok.l0, if_pos (by omega), if_pos (by omega), w64 (by omega) (by omega), rd_get hlt, hs, Option.bind_some, List.drop_eq_getElem_cons hlt, List.all_cons]
  have := ok_l l hn d k (i + 1) (by omega) (by omega) (by omega)
  rw [show ((i : Int) + 1) = ((i + 1 : Nat) : Int) by omega, this]
  by_cases h : s = 0
  · rw [if_pos h, hz.1 h]; simp
  ·
   have : isLetV l[i] = true := by
    cases e : isLetV l[i]
    · exact absurd (hz.2 e) h
    · rfl
   rw [if_neg h, this, Bool.true_and]
theorem ok_p {l : List Int} {k : Nat} (hn : l.length ≤ 1099511627776) (hk : l.length < k) : spec_l1Ok.f k l = some (okV l) := by
 unfold spec_l1Ok.f
 have := ok_l l hn l.length k 0 (by omega) (by omega) hk
 rw [show ((0 : Nat) : Int) = 0 from rfl] at this
 rw [this, List.drop_zero, okV, Bool.and_comm]
end Go.Proofs.Ytcliaehjppnpaaa.Pure
/- A line made ready, by both texts, and the laws' own helpers on lines. -/
namespace Go.Proofs.Ytcliaehjppnpaaa.Pure
open Go.RowKit Go.Proofs.Ytcliaehjppnpaaa.S Go.Proofs.YtcliaehjppnpaaaW.PrintWords Go.Proofs.YtcliaehjppnpaaaW.PrintLast
abbrev GL := S64
abbrev GI := S42
def toG (x : GL) : GI := ⟨x.f0, x.f1, x.f2, x.f3, x.f4⟩
theorem rdGL_get {l : List GL} {i : Nat} (h : i < l.length) : rd_T64 l (i : Int) = l[i] := by simp [rd_T64, List.getD_eq_getElem?_getD, h]
theorem rdGI_get {l : List GI} {i : Nat} (h : i < l.length) : rd_T42 l (i : Int) = l[i] := by simp [rd_T42, List.getD_eq_getElem?_getD, h]
theorem copyG_l (l : List GL) (hn : l.length ≤ 1099511627776) : ∀ (d k i : Nat), l.length - i = d → i ≤ l.length → d < k →
  laws_toGlyphS.l0 k l ((l.take i).map toG ++ List.replicate (l.length - i) z42) (i : Int) = some (l.map toG)
 | 0, k, i, hd, hi, hk => by
  obtain ⟨k, rfl⟩ : ∃ m, k = m + 1 := ⟨k - 1, by omega⟩
  have e : i = l.length := by omega
  subst e
  rw [laws_toGlyphS.l0, if_neg (by omega)]
  simp
 | d + 1, k, i, hd, hi, hk => by
  obtain ⟨k, rfl⟩ : ∃ m, k = m + 1 := ⟨k - 1, by omega⟩
  have hlt : i < l.length := by omega
  rw [laws_toGlyphS.l0, if_pos (by omega), if_pos (by omega), rdGL_get hlt, laws_toGlyph.f, Option.bind_some, if_pos (by simp; omega), w64 (by omega) (by omega), Int.toNat_natCast]
  have e : ((l.take i).map toG ++ List.replicate (l.length - i) z42).set i (toG l[i]) = (l.take (i + 1)).map toG ++ List.replicate (l.length - (i + 1)) z42 := by
   rw [List.set_append_right _ _ (by simp; omega)]
   have h1 : i - ((l.take i).map toG).length = 0 := by simp; omega
   rw [h1, show l.length - i = (l.length - (i + 1)) + 1 by omega, List.replicate_succ, List.set_cons_zero, List.take_succ_eq_append_getElem hlt, List.map_append, List.append_assoc]
   rfl
  have := copyG_l l hn d k (i + 1) (by omega) (by omega) (by omega)
  rw [← e] at this
  exact this
theorem copyG_p {l : List GL} {k : Nat} (hn : l.length ≤ 1099511627776) (hk : l.length < k) : laws_toGlyphS.f k l = some (l.map toG) := by
 unfold laws_toGlyphS.f
 rw [if_pos (by omega), if_pos (by omega)]
 simpa using copyG_l l hn l.length k 0 (by omega) (by omega) hk
theorem eqG_l (l : List GI) (hn : l.length ≤ 1099511627776) : ∀ (d k i : Nat), l.length - i = d → i ≤ l.length → d < k → laws_eqGlyphS.l0 k l l (i : Int) = some true
 | 0, k, i, hd, hi, hk => by
  obtain ⟨k, rfl⟩ : ∃ m, k = m + 1 := ⟨k - 1, by omega⟩
  rw [laws_eqGlyphS.l0, if_neg (by omega)]
 | d + 1, k, i, hd, hi, hk => by
  obtain ⟨k, rfl⟩ : ∃ m, k = m + 1 := ⟨k - 1, by omega⟩
  have := eqG_l l hn d k (i + 1) (by omega) (by omega) (by omega)
  rw [laws_eqGlyphS.l0, if_pos (by omega), if_pos (by omega), if_pos (by omega), laws_eqGlyph.f, if_pos rfl, if_pos rfl, if_pos rfl, if_pos rfl, if_pos rfl, Option.bind_some, if_pos rfl, w64 (by omega) (by omega)]
  exact this
theorem eqG_p {l : List GI} {k : Nat} (hn : l.length ≤ 1099511627776) (hk : l.length < k) : laws_eqGlyphS.f k l l = some true := by
 unfold laws_eqGlyphS.f
 rw [if_pos rfl]
 exact eqG_l l hn l.length k 0 (by omega) (by omega) hk
theorem rdGI_set {l : List GI} {i : Nat} (h : i < l.length) (g : GI) : rd_T42 (l.set i g) (i : Int) = g := by
 rw [rdGI_get (by simpa using h)]; simp
def giota (a : Int) : Nat → List GI
 | 0 => []
 | n + 1 => ⟨a, a + 1, a + 1 + 1, a + 1 + 1 + 1, a + 1 + 1 + 1 + 1⟩ :: giota (a + 1 + 1 + 1 + 1 + 1) n
theorem giota_length : ∀ (n : Nat) (a : Int), (giota a n).length = n
 | 0, _ => rfl
 | n + 1, a => by simp [giota, giota_length n]
theorem markG_s {l : List GI} {i k : Nat} {a : Int} (hlt : i < l.length) (hn : l.length ≤ 1099511627776) (h0 : 0 ≤ a) (h1 : a ≤ 1099511627776 * 16) :
  laws_markGlyphS.l0 (k + 1) l a (i : Int) = laws_markGlyphS.l0 k (l.set i ⟨a, a + 1, a + 1 + 1, a + 1 + 1 + 1, a + 1 + 1 + 1 + 1⟩) (a + 1 + 1 + 1 + 1 + 1) ((i + 1 : Nat) : Int) := by
 have e1 : wrap64 (a + 1) = a + 1 := w64 (by omega) (by omega)
 have e2 : wrap64 (a + 1 + 1) = a + 1 + 1 := w64 (by omega) (by omega)
 have e3 : wrap64 (a + 1 + 1 + 1) = a + 1 + 1 + 1 := w64 (by omega) (by omega)
 have e4 : wrap64 (a + 1 + 1 + 1 + 1) = a + 1 + 1 + 1 + 1 := w64 (by omega) (by omega)
 have e5 : wrap64 (a + 1 + 1 + 1 + 1 + 1) = a + 1 + 1 + 1 + 1 + 1 := w64 (by omega) (by omega)
 have e6 : wrap64 ((i : Int) + 1) = ((i + 1 : Nat) : Int) := (w64 (by omega) (by omega)).trans (by omega)
 rw [laws_markGlyphS.l0, if_pos (by omega), if_pos (by omega), e1, e2, e3, e4, e5, e6, Int.toNat_natCast]
 rw [Option.bind_some, rdGI_set hlt, List.set_set]; dsimp only
 rw [Option.bind_some, rdGI_set hlt, List.set_set]; dsimp only
 rw [Option.bind_some, rdGI_set hlt, List.set_set]; dsimp only
 rw [Option.bind_some, rdGI_set hlt, List.set_set]
theorem markG_l : ∀ (d k i : Nat) (l : List GI) (a : Int), l.length ≤ 1099511627776 → 0 ≤ a → a + 5 * d ≤ 1099511627776 * 16 → l.length - i = d → i ≤ l.length → d < k →
  laws_markGlyphS.l0 k l a (i : Int) = some (a + 5 * d, l.take i ++ giota a d)
 | 0, k, i, l, a, hn, h0, h1, hd, hi, hk => by
  obtain ⟨k, rfl⟩ : ∃ m, k = m + 1 := ⟨k - 1, by omega⟩
  have e : i = l.length := by omega
  subst e
  rw [laws_markGlyphS.l0, if_neg (by omega)]
  simp [giota]
 | d + 1, k, i, l, a, hn, h0, h1, hd, hi, hk => by
  obtain ⟨k, rfl⟩ : ∃ m, k = m + 1 := ⟨k - 1, by omega⟩
  have hlt : i < l.length := by omega
  rw [markG_s hlt hn (by omega) (by omega)]
  have := markG_l d k (i + 1) (l.set i ⟨a, a + 1, a + 1 + 1, a + 1 + 1 + 1, a + 1 + 1 + 1 + 1⟩) (a + 1 + 1 + 1 + 1 + 1) (by rw [List.length_set]; exact hn) (by omega) (by omega) (by rw [List.length_set]; omega) (by rw [List.length_set]; omega) (by omega)
  refine this.trans ?_
  simp only [Option.some.injEq, Prod.mk.injEq, giota]
  refine ⟨by omega, ?_⟩
  rw [List.take_succ_eq_append_getElem (by simpa using hlt)]
  simp [List.take_set_of_le]
theorem markG_p {l : List GI} {a : Int} {k : Nat} (hn : l.length ≤ 1099511627776) (h0 : 0 ≤ a) (h1 : a ≤ 1099511627776) (hk : l.length < k) : laws_markGlyphS.f k l a = some (a + 5 * l.length, giota a l.length) := by
 unfold laws_markGlyphS.f
 simpa using markG_l l.length k 0 l a hn h0 (by omega) (by omega) (by omega) hk
theorem heldG_s {l : List GI} {i k : Nat} {a : Int} (hlt : i < l.length) (hn : l.length ≤ 1099511627776) (h0 : 0 ≤ a) (h1 : a ≤ 1099511627776 * 16) (hg : l[i] = ⟨a, a + 1, a + 1 + 1, a + 1 + 1 + 1, a + 1 + 1 + 1 + 1⟩) :
  laws_heldGlyphS.l0 (k + 1) l a (i : Int) = laws_heldGlyphS.l0 k l (a + 1 + 1 + 1 + 1 + 1) ((i + 1 : Nat) : Int) := by
 have e1 : wrap64 (a + 1) = a + 1 := w64 (by omega) (by omega)
 have e2 : wrap64 (a + 1 + 1) = a + 1 + 1 := w64 (by omega) (by omega)
 have e3 : wrap64 (a + 1 + 1 + 1) = a + 1 + 1 + 1 := w64 (by omega) (by omega)
 have e4 : wrap64 (a + 1 + 1 + 1 + 1) = a + 1 + 1 + 1 + 1 := w64 (by omega) (by omega)
 have e5 : wrap64 (a + 1 + 1 + 1 + 1 + 1) = a + 1 + 1 + 1 + 1 + 1 := w64 (by omega) (by omega)
 have e6 : wrap64 ((i : Int) + 1) = ((i + 1 : Nat) : Int) := (w64 (by omega) (by omega)).trans (by omega)
 rw [laws_heldGlyphS.l0, if_pos (by omega), if_pos (by omega), e1, e2, e3, e4, e5, e6, rdGI_get hlt, hg, if_pos rfl, if_pos rfl, if_pos rfl, if_pos rfl, if_pos rfl]
theorem heldG_l : ∀ (d k i : Nat) (l : List GI) (a : Int), l.length ≤ 1099511627776 → 0 ≤ a → a + 5 * d ≤ 1099511627776 * 16 → l.length - i = d → i ≤ l.length → d < k → l.drop i = giota a d →
  laws_heldGlyphS.l0 k l a (i : Int) = some (a + 5 * d)
 | 0, k, i, l, a, hn, h0, h1, hd, hi, hk, he => by
  obtain ⟨k, rfl⟩ : ∃ m, k = m + 1 := ⟨k - 1, by omega⟩
  rw [laws_heldGlyphS.l0, if_neg (by omega)]
  simp
 | d + 1, k, i, l, a, hn, h0, h1, hd, hi, hk, he => by
  obtain ⟨k, rfl⟩ : ∃ m, k = m + 1 := ⟨k - 1, by omega⟩
  have hlt : i < l.length := by omega
  rw [List.drop_eq_getElem_cons hlt, giota] at he
  obtain ⟨g1, g2⟩ := List.cons.inj he
  rw [heldG_s hlt hn (by omega) (by omega) g1]
  have := heldG_l d k (i + 1) l (a + 1 + 1 + 1 + 1 + 1) hn (by omega) (by omega) (by omega) (by omega) (by omega) g2
  refine this.trans ?_
  congr 1; omega
theorem heldG_p {n : Nat} {a : Int} {k : Nat} (hn : n ≤ 1099511627776) (h0 : 0 ≤ a) (h1 : a ≤ 1099511627776) (hk : n < k) : laws_heldGlyphS.f k (giota a n) a = some (a + 5 * n) := by
 unfold laws_heldGlyphS.f
 have hl := giota_length n a
 simpa using heldG_l n k 0 (giota a n) a (by omega) h0 (by omega) (by omega) (by omega) hk rfl
theorem glyphs_l (l : List GI) (hn : l.length ≤ 1099511627776) (a b c : Int) (hb : -1099511627776 ≤ b) (hb1 : b ≤ 1099511627776) : ∀ (d k i : Nat), l.length - i = d → i ≤ l.length → d < k →
  spec_l8Ok.l0 k (i : Int) a b c l = some (!((l.drop i).any (badG a b)))
 | 0, k, i, hd, hi, hk => by
  obtain ⟨k, rfl⟩ : ∃ m, k = m + 1 := ⟨k - 1, by omega⟩
  have e : i = l.length := by omega
  subst e
  rw [spec_l8Ok.l0, if_neg (by omega), List.drop_length]
  rfl
 | d + 1, k, i, hd, hi, hk => by
  obtain ⟨k, rfl⟩ : ∃ m, k = m + 1 := ⟨k - 1, by omega⟩
  have hlt : i < l.length := by omega
  have := glyphs_l l hn a b c hb hb1 d k (i + 1) (by omega) (by omega) (by omega)
  rw [spec_l8Ok.l0, if_pos (by omega), if_pos (by omega), w64 (x := (i : Int) + 1) (by omega) (by omega), w64 (x := b - 1) (by omega) (by omega), rdGI_get hlt, List.drop_eq_getElem_cons hlt, List.any_cons, show ((i : Int) + 1) = ((i + 1 : Nat) : Int) by omega, this]
  simp only [l1In_p, Option.bind_some]
  generalize (l.drop (i + 1)).any (badG a b) = R
  generalize l[i] = g
  unfold badG
  by_cases h1 : a ≤ g.f0
  ·
   by_cases h2 : g.f0 ≤ b - 1
   ·
    by_cases h3 : -20000 ≤ g.f2
    ·
     by_cases h4 : g.f2 ≤ 40000
     ·
      by_cases h5 : 0 ≤ g.f3
      ·
       by_cases h6 : g.f3 ≤ 20000
       ·
        by_cases h7 : 0 ≤ g.f4
        ·
         by_cases h8 : g.f4 ≤ 22
         · simp [h1, h2, h3, h4, h5, h6, h7, h8, show ¬ g.f0 < a by omega, show ¬ b ≤ g.f0 by omega, show ¬ g.f4 < 0 by omega, show ¬ 22 < g.f4 by omega]
         · simp [h1, h2, h3, h4, h5, h6, h7, h8, show 22 < g.f4 by omega]
        · simp [h1, h2, h3, h4, h5, h6, h7, show g.f4 < 0 by omega]
       · simp [h1, h2, h3, h4, h5, h6]
      · simp [h1, h2, h3, h4, h5]
     · simp [h1, h2, h3, h4]
    · simp [h1, h2, h3]
   · simp [h1, h2, show b ≤ g.f0 by omega]
  · simp [h1, show g.f0 < a by omega]
theorem ok8_p {l : List GI} {l1 : List Int} (hn : l.length ≤ 1099511627776) (hn1 : l1.length ≤ 1099511627776) (a b c : Int) {k : Nat} (hk : l.length + 1 < k) (hk1 : l1.length < k) : spec_l8Ok.f k l1 a b c l = some (mayV a b c l l1) := by
 obtain ⟨k, rfl⟩ : ∃ m, k = m + 1 := ⟨k - 1, by omega⟩
 have J : ∀ x, spec_l8Ok.j0 (k + 1) x a b c l = if x = true then some false else spec_l8Ok.l0 k 0 a b c l := fun x => by rw [spec_l8Ok.j0]
 unfold spec_l8Ok.f mayV lineB wideB
 rw [ok_p hn1 (by omega)]
 simp only [l1In_p, Option.bind_some, J, if_true]
 cases okV l1
 · simp
 ·
  by_cases h1 : 0 ≤ a
  ·
   by_cases h2 : a ≤ b
   ·
    by_cases h3 : b ≤ (l1.length : Int)
    ·
     have := glyphs_l l hn a b c (by omega) (by omega) l.length k 0 (by omega) (by omega) (by omega)
     rw [show ((0 : Nat) : Int) = 0 from rfl, List.drop_zero] at this
     rw [this]
     generalize l.any (badG a b) = R
     by_cases h4 : 0 ≤ c
     ·
      by_cases h5 : c ≤ 20000
      ·
       by_cases h6 : l.length ≤ 80
       · simp [h1, h2, h3, h4, h5, h6, show a ≤ (l1.length : Int) by omega, show ¬ (80 : Int) < (l.length : Int) by omega]
       · simp [h1, h2, h3, h4, h5, h6, show a ≤ (l1.length : Int) by omega, show (80 : Int) < (l.length : Int) by omega]
      · simp [h1, h2, h3, h4, h5, show a ≤ (l1.length : Int) by omega]
     · simp [h1, h2, h3, h4, show a ≤ (l1.length : Int) by omega]
    · by_cases h4 : a ≤ (l1.length : Int) <;> simp [h1, h2, h3, h4]
   · by_cases h4 : a ≤ (l1.length : Int) <;> simp [h1, h2, h4]
  · simp [h1]
theorem moved_s : ∀ (k : Nat) (x : Int) (i : Int) (a b c : Int) (l : List GI), spec_l8Copy.l0 k x i a b c l = impl_Line_moved.l0 k x (l.length : Int) i a b c l
 | 0, _, _, _, _, _, _ => by rw [spec_l8Copy.l0, impl_Line_moved.l0]
 | k + 1, x, i, a, b, c, l => by
  rw [spec_l8Copy.l0, impl_Line_moved.l0]
  by_cases h : i < (l.length : Int)
  ·
   rw [if_pos h, if_pos h, moved_s k, List.length_set]
   by_cases h1 : 0 ≤ i
   · rw [if_pos h1, if_pos h1, if_pos h]
   · rw [if_neg h1, if_neg h1]
  · rw [if_neg h, if_neg h]
theorem moved_t : ∀ (d k i : Nat) (x a b c : Int) (l : List GI), l.length ≤ 1099511627776 → l.length - i = d → i ≤ l.length → d < k →
  ∃ L : List GI, L.length = l.length ∧ impl_Line_moved.l0 k x (l.length : Int) (i : Int) a b c l = some (a, b, c, L)
 | 0, k, i, x, a, b, c, l, hn, hd, hi, hk => by
  obtain ⟨k, rfl⟩ : ∃ m, k = m + 1 := ⟨k - 1, by omega⟩
  exact ⟨l, rfl, by rw [impl_Line_moved.l0, if_neg (by omega)]⟩
 | d + 1, k, i, x, a, b, c, l, hn, hd, hi, hk => by
  obtain ⟨k, rfl⟩ : ∃ m, k = m + 1 := ⟨k - 1, by omega⟩
  rw [impl_Line_moved.l0, if_pos (by omega), if_pos (by omega), if_pos (by omega), w64 (x := (i : Int) + 1) (by omega) (by omega), Int.toNat_natCast]
  obtain ⟨L, h1, h2⟩ := moved_t d k (i + 1) x a b c (l.set i ⟨(rd_T42 l (i : Int)).f0, (rd_T42 l (i : Int)).f1, wrap64 ((rd_T42 l (i : Int)).f2 + x), (rd_T42 l (i : Int)).f3, (rd_T42 l (i : Int)).f4⟩) (by simpa using hn) (by simp; omega) (by simp; omega) (by omega)
  rw [List.length_set] at h1 h2
  exact ⟨L, h1, h2⟩
theorem full_s : ∀ (k : Nat) (x i : Int) (a b c : Int) (l : List GI), spec_l8Full.l0 k x i a b c l = impl_Line_glyphsWide.l0 k x l (l.length : Int) i
 | 0, _, _, _, _, _, _ => by rw [spec_l8Full.l0, impl_Line_glyphsWide.l0]
 | k + 1, x, i, a, b, c, l => by
  rw [spec_l8Full.l0, impl_Line_glyphsWide.l0]
  by_cases h : i < (l.length : Int)
  · rw [if_pos h, if_pos h, full_s k, if_pos h]
  · rw [if_neg h, if_neg h]
theorem full_t : ∀ (d k i : Nat) (x : Int) (l : List GI), l.length ≤ 1099511627776 → l.length - i = d → i ≤ l.length → d < k → ∃ n, impl_Line_glyphsWide.l0 k x l (l.length : Int) (i : Int) = some n
 | 0, k, i, x, l, hn, hd, hi, hk => by
  obtain ⟨k, rfl⟩ : ∃ m, k = m + 1 := ⟨k - 1, by omega⟩
  exact ⟨x, by rw [impl_Line_glyphsWide.l0, if_neg (by omega)]⟩
 | d + 1, k, i, x, l, hn, hd, hi, hk => by
  obtain ⟨k, rfl⟩ : ∃ m, k = m + 1 := ⟨k - 1, by omega⟩
  rw [impl_Line_glyphsWide.l0, if_pos (by omega), if_pos (by omega), if_pos (by omega), w64 (x := (i : Int) + 1) (by omega) (by omega)]
  exact full_t d k (i + 1) _ l hn (by omega) (by omega) (by omega)
theorem copy8_p {l : List GI} (hn : l.length ≤ 80) (a b c x : Int) {k : Nat} (hk : l.length < k) : ∃ L : List GI, L.length = l.length ∧ spec_l8Copy.f k a b c l x = some (a, b, c, L) ∧ impl_Line_moved.f k a b c l x = some (a, b, c, L) := by
 obtain ⟨L, h1, h2⟩ := moved_t l.length k 0 x a b c l (by omega) (by omega) (by omega) hk
 rw [show ((0 : Nat) : Int) = 0 from rfl] at h2
 refine ⟨L, h1, ?_, ?_⟩
 ·
  unfold spec_l8Copy.f
  rw [Option.bind_some, List.nil_append, if_pos (by simp; omega), moved_s]
  exact h2
 ·
  unfold impl_Line_moved.f impl_copyLine.f impl_Glyph_63.f
  rw [if_pos (by omega)]
  exact h2
theorem full8_p {l : List GI} (hn : l.length ≤ 1099511627776) (a b c : Int) {k : Nat} (hk : l.length < k) : ∃ n, spec_l8Full.f k a b c l = some n ∧ impl_Line_glyphsWide.f k a b c l = some n := by
 obtain ⟨n, h⟩ := full_t l.length k 0 0 l hn (by omega) (by omega) hk
 refine ⟨n, ?_, h⟩
 unfold spec_l8Full.f
 rw [full_s]
 exact h
theorem left8_p (a b c : Int) (l : List GI) (a1 a2 a3 : Int) (h0 : a1 = 0 ∨ a1 = 1) (hc : 0 ≤ c) (hc1 : c ≤ 20000) (hw : 0 ≤ a2) (hw1 : a2 ≤ 20000) {k : Nat} (hk : 0 < k) :
  spec_l8Left.f k a b c l a1 a2 a3 = some (if a1 = 0 then shL a3 (if c < a2 then a2 - c else 0) else shR a3 (if c < a2 then a2 - c else 0)) := by
 obtain ⟨k, rfl⟩ : ∃ m, k = m + 1 := ⟨k - 1, by omega⟩
 have hj : ∀ r : Int, 0 ≤ r → r ≤ 20000 → spec_l8Left.j0 (k + 1) a1 a3 r = some (if a1 = 0 then shL a3 r else shR a3 r) := by
  intro r r0 r1
  rw [spec_l8Left.j0]
  unfold shL shR
  have hd : wrap64 (Int.tdiv r 2) = Int.tdiv r 2 := by
   rw [Int.tdiv_eq_ediv_of_nonneg r0]
   exact w64 (by omega) (by omega)
  rw [hd]
  by_cases e2 : a3 = 2
  · subst e2; simp
  ·
   by_cases e1 : a3 = 1
   ·
    subst e1
    rcases h0 with h | h <;> subst h <;> simp
   · rcases h0 with h | h <;> subst h <;> simp [e1, e2]
 unfold spec_l8Left.f
 rw [w64 (by omega) (by omega)]
 by_cases h : a2 - c < 0
 · rw [if_pos h, hj 0 (by omega) (by omega), if_neg (show ¬ c < a2 by omega)]
 ·
  rw [if_neg h, hj _ (by omega) (by omega)]
  by_cases h2 : c < a2
  · rw [if_pos h2]
  · rw [if_neg h2, show a2 - c = 0 by omega]
theorem stand_eq {l : List GI} {l1 : List Int} (hn : l.length ≤ 1099511627776) (hn1 : l1.length ≤ 1099511627776) (a b c a2 a3 a4 : Int) {k : Nat} (hk : l.length + 1 < k) (hk1 : l1.length < k) :
  ∃ (x y z : Int) (L : List GI), L.length ≤ l.length ∧ spec_LineStand.f k l1 a b c l a2 a3 a4 = some (x, y, z, L) ∧ impl_LineStand.f k l1 a b c l a2 a3 a4 = some (x, y, z, L) := by
 unfold spec_LineStand.f impl_LineStand.f impl_Line_mayBe.f
 rw [ok8_p hn hn1 a b c hk hk1]
 simp only [l1In_p, Option.bind_some]
 have nope : ∃ (x y z : Int) (L : List GI), L.length ≤ l.length ∧ (some (0, 0, 0, ([] : List GI)) : Option (Int × Int × Int × List GI)) = some (x, y, z, L) ∧ (some (0, 0, 0, ([] : List GI)) : Option (Int × Int × Int × List GI)) = some (x, y, z, L) := ⟨0, 0, 0, [], by simp, rfl, rfl⟩
 cases hV : mayV a b c l l1
 · simpa using nope
 ·
  have hw : (0 ≤ c ∧ c ≤ 20000) ∧ l.length ≤ 80 := by
   simp only [mayV, wideB, Bool.and_eq_true, decide_eq_true_eq] at hV
   omega
  obtain ⟨hw, hl80⟩ := hw
  have eb : impl_isBase.f a2 = some (decide (a2 = 0 ∨ a2 = 1)) := by
   unfold impl_isBase.f
   by_cases h : a2 = 0
   · simp [h]
   · by_cases h2 : a2 = 1 <;> simp [h, h2]
  have es : (decide (0 ≤ a2) && decide (a2 ≤ 1)) = decide (a2 = 0 ∨ a2 = 1) := by
   rw [← Bool.decide_and]
   exact decide_eq_decide.2 (by omega)
  rw [eb, es, wideB_f]
  simp only [Option.bind_some, if_true]
  by_cases h0 : a2 = 0 ∨ a2 = 1
  ·
   rw [decide_eq_true h0]
   simp only [if_true]
   rw [show (decide (0 ≤ a3) && decide (a3 ≤ 20000)) = wideB a3 from rfl]
   cases hW : wideB a3
   · simpa using nope
   ·
    have hw3 : 0 ≤ a3 ∧ a3 ≤ 20000 := by
     simp only [wideB, Bool.and_eq_true, decide_eq_true_eq] at hW
     exact hW
    simp only [if_true]
    by_cases h4 : a4 < 0
    · rw [if_neg (by simp; omega), if_pos h4]; exact nope
    ·
     by_cases h5 : a4 > 3
     · rw [if_neg (by simp; omega), if_neg h4, if_pos h5]; exact nope
     ·
      rw [if_pos (by simp; omega), if_neg h4, if_neg h5]
      unfold spec_l8Stand.f impl_Line_stand.f
      rw [left8_p a b c l a2 a3 a4 h0 hw.1 hw.2 hw3.1 hw3.2 (by omega), if_pos (show 0 ≤ c ∧ c ≤ 20000 ∧ 0 ≤ a3 ∧ a3 ≤ 20000 by omega), Option.bind_some]
      rcases h0 with h0 | h0
      ·
       subst h0
       rw [if_neg (show ¬ (0 : Int) = 1 by omega), if_pos rfl, if_pos rfl]
       obtain ⟨L, hL, e1, e2⟩ := copy8_p hl80 a b c (shL a4 (if c < a3 then a3 - c else 0)) (k := k) (by omega)
       rw [e1, e2]
       exact ⟨a, b, c, L, by omega, rfl, rfl⟩
      ·
       subst h0
       rw [if_pos rfl, if_neg (show ¬ (1 : Int) = 0 by omega), if_neg (show ¬ (1 : Int) = 0 by omega)]
       obtain ⟨n, f1, f2⟩ := full8_p hn a b c (k := k) (by omega)
       rw [f1, f2]
       simp only [Option.bind_some]
       obtain ⟨L, hL, e1, e2⟩ := copy8_p hl80 a b c (wrap64 (wrap64 (shR a4 (if c < a3 then a3 - c else 0) - n) + c)) (k := k) (by omega)
       rw [e1, e2]
       exact ⟨a, b, c, L, by omega, rfl, rfl⟩
  ·
   rw [decide_eq_false h0]
   simpa using nope
end Go.Proofs.Ytcliaehjppnpaaa.Pure
/- The program's LineStand answers as the reference's, for every text, line, base, width and way of standing; it writes into no argument. No condition beyond the statement's own. -/
namespace Go.Proofs.Ytcliaehjppnpaaa.Pure
open Go.RowKit Go.Proofs.Ytcliaehjppnpaaa.S Go.Proofs.YtcliaehjppnpaaaW.PrintWords Go.Proofs.YtcliaehjppnpaaaW.PrintLast
theorem eqL_p (a b c : Int) {l : List GI} {k : Nat} (hn : l.length ≤ 1099511627776) (hk : l.length < k) : laws_eqLine.f k a b c l a b c l = some true := by
 unfold laws_eqLine.f
 rw [if_pos rfl, if_pos rfl, if_pos rfl, eqG_p hn hk, Option.bind_some, if_pos rfl]
theorem FnExactLineStand_p (l0 : List Int) (a b c : Int) (l : List GL) (a2 a3 a4 : Int) (hm0 : l0.length ≤ maxLen) (_ : ∀ n ∈ l0, (Lit.int .i64 n).wf = true) (_ : (Lit.int .i64 a).wf = true) (_ : (Lit.int .i64 b).wf = true) (_ : (Lit.int .i64 c).wf = true) (hm : l.length ≤ maxLen) (_ : (Lit.int .i64 a2).wf = true) (_ : (Lit.int .i64 a3).wf = true) (_ : (Lit.int .i64 a4).wf = true) :
  ∃ k, laws_FnExactLineStand.f k l0 a b c l a2 a3 a4 = some true := by
 unfold maxLen at hm hm0
 refine ⟨l.length + l0.length + 3, ?_⟩
 unfold laws_FnExactLineStand.f
 by_cases hc : (l0.length : Int) > 1048576
 · rw [if_pos hc]
 rw [if_neg hc]
 unfold laws_szLine.f laws_szGlyphS.f
 rw [w64 (by omega) (by omega)]
 by_cases h : (1048576 : Int) - l.length < 0
 ·
  rw [if_pos h, Option.bind_some, if_pos (by decide)]
  rfl
 obtain ⟨x, y, z, L, hL, e1, e2⟩ := stand_eq (l := l.map toG) (l1 := l0) (by rw [List.length_map]; omega) (by omega) a b c a2 a3 a4 (k := l.length + l0.length + 3) (by rw [List.length_map]; omega) (by omega)
 rw [List.length_map] at hL
 rw [if_neg h, Option.bind_some, if_neg h, Option.bind_some, if_neg h]
 have eC : laws_toLine.f (l.length + l0.length + 3) a b c l = some (a, b, c, l.map toG) := by
  unfold laws_toLine.f
  rw [copyG_p (by omega) (by omega)]; rfl
 have eC' : laws_toLine.f (l.length + l0.length + 2) a b c l = some (a, b, c, l.map toG) := by
  unfold laws_toLine.f
  rw [copyG_p (by omega) (by omega)]; rfl
 obtain ⟨x', y', z', L', hL', e1', e2'⟩ := stand_eq (l := l.map toG) (l1 := l0) (by rw [List.length_map]; omega) (by omega) a b c a2 a3 a4 (k := l.length + l0.length + 2) (by rw [List.length_map]; omega) (by omega)
 have em : (x', y', z', L') = (x, y, z, L) := by
  have := impl_LineStand.mono l0 a b c (l.map toG) a2 a3 a4 (l.length + l0.length + 2) _ e2'
  rw [show l.length + l0.length + 2 + 1 = l.length + l0.length + 3 from rfl, e2] at this
  exact (Option.some.inj this).symm
 rw [em] at e2'
 have J : laws_FnExactLineStand.j0 (l.length + l0.length + 3) l0 a2 a3 a4 false a b c l x y z L x y z L = some true := by
  rw [laws_FnExactLineStand.j0, if_neg (by simp)]
  unfold laws_markLine.f laws_heldLine.f
  rw [markG_p (by omega) (by omega) (by omega) (by omega)]
  simp only [Option.bind_some]
  rw [heldG_p (by omega) (by omega) (by omega) (by omega)]
  simp only [Option.bind_some]
  rw [if_neg (by omega), Option.bind_some, if_neg (by omega), if_pos rfl, copy_p (by omega) (by omega), Option.bind_some, eC', Option.bind_some]
  simp only []
  rw [e2', Option.bind_some]
  simp only []
  rw [eqL_p _ _ _ (by omega) (by omega), Option.bind_some, if_pos rfl, Option.bind_some]
  exact (if_neg (by omega)).trans (if_pos rfl)
 rw [copy_p (by omega) (by omega), Option.bind_some, eC, Option.bind_some]
 simp only []
 rw [e1, Option.bind_some, Option.bind_some, Option.bind_some]
 simp only []
 rw [e2, Option.bind_some]
 simp only []
 rw [eqL_p _ _ _ (by omega) (by omega), Option.bind_some, if_pos rfl, Option.bind_some, eq_p (by omega) (by omega), Option.bind_some, decide_eq_true rfl, if_pos rfl, Option.bind_some]
 simp only []
 rw [eqL_p _ _ _ (by rw [List.length_map]; omega) (by rw [List.length_map]; omega), Option.bind_some, if_pos rfl, mark_p (by omega) (by omega) (by omega) (by omega), Option.bind_some]
 unfold laws_markLine.f
 rw [markG_p (by rw [List.length_map]; omega) (by simp only []; omega) (by simp only []; omega) (by rw [List.length_map]; omega), Option.bind_some]
 simp only [Option.bind_some]
 rw [if_neg (by omega)]
 exact J
end Go.Proofs.Ytcliaehjppnpaaa.Pure
