/- From each place that WordStarts names up to the next goes the word that WordAt tells of every letter between, for every text that the reference draws. No condition beyond the statement's own. (text 4 of 5 of this claim: functions of the program and of the reference as plain Lean functions, what a call of each comes to, and what follows.) -/
import Derived.Test.YtoafenblaioopaaZFnWordStartsA2
import Derived.Test.YtoafenblaioopaaZFnWordStartsA1
import Derived.Test.YtoafenblaioopaaZFnWordStartsA0
/- What the reference's drawing answers always: something, and of bounded length. -/
namespace Go.Proofs.Ytoafenblaioopaa.Pure
open Go.RowKit Go.Proofs.Ytoafenblaioopaa.S Go.Proofs.YtoafenblaioopaaW.PrintWords Go.Proofs.YtoafenblaioopaaW.PrintLast
theorem xor_k {x y : Int} (hx : 0 ≤ x) (hx' : x < 4611686018427387904) (hy : 0 ≤ y) (hy' : y < 4611686018427387904) : 0 ≤ Go.bits .xor .i64 x y := by
  obtain ⟨a, rfl⟩ : ∃ a : Nat, x = (a : Int) := ⟨x.toNat, by omega⟩
  obtain ⟨b, rfl⟩ : ∃ b : Nat, y = (b : Int) := ⟨y.toNat, by omega⟩
  have e : (BitVec.ofInt 64 (a : Int) ^^^ BitVec.ofInt 64 (b : Int)).toNat < 2 ^ 62 := by
    rw [BitVec.toNat_xor, BitVec.ofInt_natCast, BitVec.ofInt_natCast, BitVec.toNat_ofNat, BitVec.toNat_ofNat, Nat.mod_eq_of_lt (by omega), Nat.mod_eq_of_lt (by omega)]
    exact Nat.xor_lt_two_pow (by omega) (by omega)
  show 0 ≤ IntKind.wrap .i64 ((BitVec.ofInt 64 (a : Int) ^^^ BitVec.ofInt 64 (b : Int)).toNat : Int)
  generalize (BitVec.ofInt 64 (a : Int) ^^^ BitVec.ofInt 64 (b : Int)).toNat = n at e
  rw [IntWalk.i64_in _ (by omega)]
  omega
def DS (s : List Int) : Prop := s.length ≤ 2000 ∧ ∀ x ∈ s, 0 ≤ x ∧ x ≤ 255
theorem rd_byte {s : List Int} (h : DS s) (i : Int) : 0 ≤ rd s i ∧ rd s i ≤ 255 := by
  unfold rd
  by_cases hi : i.toNat < s.length
  · have := h.2 s[i.toNat] (List.getElem_mem hi)
    simpa [List.getD_eq_getElem?_getD, hi] using this
  · simp [List.getD_eq_getElem?_getD, hi]
set_option maxHeartbeats 8000000 in
theorem pick_k {s : List Int} (hs : DS s) {p n : Int} {k : Nat} (h0 : 0 ≤ p) (h1 : p ≤ 1000000) (hn : 1 ≤ n) (hn' : n ≤ 1000000) (hk : 1 ≤ k) : ∃ v, spec_l1Rd_pick.f k s p n = some (v, p + 1) ∧ 0 ≤ v ∧ v < n := by
  obtain ⟨k, rfl⟩ : ∃ m, k = m + 1 := ⟨k - 1, by omega⟩
  have hl := hs.1
  unfold spec_l1Rd_pick.f
  rw [if_neg (by omega), w64 (by omega) (by omega), spec_l1Rd_pick.j0]
  by_cases hz : s.length = 0
  · rw [if_pos (by simp [hz])]
    exact ⟨0, rfl, by omega, by omega⟩
  · rw [if_neg (by simpa using hz), w64 (x := p + 1 - 1) (by omega) (by omega), show p + 1 - 1 = p by omega]
    by_cases hp : p < (s.length : Int)
    · have hb := rd_byte hs p
      rw [if_pos hp, if_pos h0, if_neg (by omega), w64 (by omega) (by omega)]
      refine ⟨_, rfl, Int.tmod_nonneg _ hb.1, Int.tmod_lt_of_pos _ (by omega)⟩
    · have hd := Int.tdiv_eq_ediv_of_nonneg (b := (s.length : Int)) h0
      have hd0 : 0 ≤ p / (s.length : Int) := Int.ediv_nonneg h0 (by omega)
      have hd1 : p / (s.length : Int) ≤ p := Int.ediv_le_self _ h0
      have e1 := Int.tmod_nonneg (s.length : Int) h0
      have e2 := Int.tmod_lt_of_pos p (show 0 < (s.length : Int) by omega)
      have e3 := Int.tmod_nonneg (s.length : Int) (show 0 ≤ p * 7 + 3 by omega)
      have e4 := Int.tmod_lt_of_pos (p * 7 + 3) (show 0 < (s.length : Int) by omega)
      rw [hd, w64 (x := p * 7) (by omega) (by omega), w64 (x := p * 7 + 3) (by omega) (by omega), w64 (x := p * 29) (by omega) (by omega)]
      generalize p / (s.length : Int) = dv at hd0 hd1
      generalize Int.tmod p (s.length : Int) = i1 at e1 e2
      generalize Int.tmod (p * 7 + 3) (s.length : Int) = i2 at e3 e4
      have b1 := rd_byte hs i1
      have b2 := rd_byte hs i2
      generalize rd s i1 = c1 at b1
      generalize rd s i2 = c2 at b2
      rw [if_neg hp, if_neg (by omega), if_pos e1, if_pos e2, if_pos e3, if_pos e4, if_neg (by omega), w64 (x := dv) (by omega) (by omega), w64 (x := c1) (by omega) (by omega), w64 (x := c2) (by omega) (by omega), w64 (x := c1 * 131) (by omega) (by omega), w64 (x := c2 * 1117) (by omega) (by omega),
        w64 (x := dv * 53) (by omega) (by omega), w64 (x := c1 * 131 + c2 * 1117) (by omega) (by omega), w64 (x := c1 * 131 + c2 * 1117 + p * 29) (by omega) (by omega), w64 (x := c1 * 131 + c2 * 1117 + p * 29 + dv * 53) (by omega) (by omega)]
      have hh : 0 ≤ c1 * 131 + c2 * 1117 + p * 29 + dv * 53 ∧ c1 * 131 + c2 * 1117 + p * 29 + dv * 53 ≤ 1099511627776 := by omega
      generalize c1 * 131 + c2 * 1117 + p * 29 + dv * 53 = hv at hh
      rw [Int.tdiv_eq_ediv_of_nonneg hh.1, w64 (x := hv / 64) (by omega) (by omega)]
      exact ⟨_, rfl, Int.tmod_nonneg _ (xor_k hh.1 (by omega) (by omega) (by omega)), Int.tmod_lt_of_pos _ (by omega)⟩
theorem one_k {s L : List Int} (hs : DS s) {p : Int} {k : Nat} (h0 : 0 ≤ p) (h1 : p ≤ 1000000) (hn : 1 ≤ L.length) (hn' : L.length ≤ 100) (hk : 1 ≤ k) : ∃ v, spec_l1Rd_one.f k s p L = some (v, p + 1) := by
  obtain ⟨v, hv, v0, v1⟩ := pick_k hs (p := p) (n := (L.length : Int)) h0 h1 (by omega) (by omega) hk
  refine ⟨rd L v, ?_⟩
  unfold spec_l1Rd_one.f
  rw [hv, Option.bind_some, if_pos v0, if_pos v1]
def Ok1 (o : Option (Int × Int)) (q : Int) : Prop := ∃ v p', o = some (v, p') ∧ q ≤ p' ∧ p' ≤ q + 2
theorem one_b {s L : List Int} (hs : DS s) {p q : Int} {k : Nat} (h0 : 0 ≤ p) (h1 : p ≤ 1000000) (hq : q ≤ p) (hq' : p ≤ q + 1) (hn : 1 ≤ L.length ∧ L.length ≤ 100) (hk : 1 ≤ k) :
    Ok1 ((spec_l1Rd_one.f k s p L).bind fun (bt : Int × Int) => (some (bt.1, bt.2))) q := by
  obtain ⟨v, hv⟩ := one_k hs (L := L) h0 h1 hn.1 hn.2 hk
  exact ⟨v, p + 1, by rw [hv]; rfl, by omega, by omega⟩
theorem ok_ite {c : Prop} [Decidable c] {a b : Option (Int × Int)} {q : Int} (h1 : Ok1 a q) (h2 : Ok1 b q) : Ok1 (if c then a else b) q := by
  split <;> assumption
set_option maxHeartbeats 8000000 in
theorem rune_k {s : List Int} (hs : DS s) {p : Int} {k : Nat} (h0 : 0 ≤ p) (h1 : p ≤ 900000) (hk : 4 ≤ k) : Ok1 (spec_l13Rune.f k s p) p := by
  obtain ⟨k, rfl⟩ : ∃ m, k = m + 4 := ⟨k - 4, by omega⟩
  obtain ⟨n, hv, v0, v1⟩ := pick_k hs (p := p) (n := 16) (k := k + 4) h0 (by omega) (by omega) (by omega) (by omega)
  unfold spec_l13Rune.f
  rw [hv, Option.bind_some]
  simp only [spec_l13Rune.j0, spec_l13Rune.j1, spec_l13Rune.j2]
  have leaf : Ok1 (some (32, p + 1)) p := ⟨_, _, rfl, by omega, by omega⟩
  repeat' first
    | exact leaf
    | exact one_b hs (by omega) (by omega) (by omega) (by omega) (by decide) (by omega)
    | refine ok_ite ?_ ?_
theorem runes1_k {s : List Int} (hs : DS s) : ∀ (d k : Nat) (x : List Int) (p : Int), 80 - x.length = d → 0 ≤ p → p + d ≤ 900000 → x.length ≤ 200 → d + 4 < k →
    ∃ y p', spec_l13Runes.l1 k x s p = some (y, p') ∧ p ≤ p' ∧ p' ≤ p + d ∧ y.length ≤ 200
  | 0, k, x, p, hd, h0, h1, hx, hk => by
    obtain ⟨k, rfl⟩ : ∃ m, k = m + 1 := ⟨k - 1, by omega⟩
    rw [spec_l13Runes.l1, if_neg (by omega)]
    exact ⟨_, _, rfl, by omega, by omega, hx⟩
  | d + 1, k, x, p, hd, h0, h1, hx, hk => by
    obtain ⟨k, rfl⟩ : ∃ m, k = m + 1 := ⟨k - 1, by omega⟩
    obtain ⟨v, hv⟩ := one_k hs (L := [8235, 8238, 8295, 1488, 97]) (p := p) (k := k) h0 (by omega) (by decide) (by decide) (by omega)
    rw [spec_l13Runes.l1, if_pos (by omega), hv, Option.bind_some, if_pos (by omega)]
    obtain ⟨y, p', e, e1, e2, e3⟩ := runes1_k hs d k (x ++ [v]) (p + 1) (by simp; omega) (by omega) (by omega) (by simp; omega) (by omega)
    exact ⟨y, p', e, by omega, by omega, e3⟩
theorem runes0_k {s : List Int} (hs : DS s) : ∀ (d k : Nat) (x : List Int) (p : Int), 0 ≤ p → p + 2 * d ≤ 800000 → x.length + d ≤ 100 → d + 90 < k →
    ∃ y p', spec_l13Runes.l0 k x (d : Int) s p = some (y, p') ∧ p ≤ p' ∧ p' ≤ p + 2 * d + 90 ∧ y.length ≤ 200
  | 0, k, x, p, h0, h1, hx, hk => by
    obtain ⟨k, rfl⟩ : ∃ m, k = m + 1 := ⟨k - 1, by omega⟩
    obtain ⟨n, hv, v0, v1⟩ := pick_k hs (p := p) (n := 24) (k := k) h0 (by omega) (by omega) (by omega) (by omega)
    rw [spec_l13Runes.l0, if_neg (by omega), hv, Option.bind_some]
    by_cases hn : n = 0
    · rw [if_pos hn]
      obtain ⟨y, p', e, e1, e2, e3⟩ := runes1_k hs (80 - x.length) k x (p + 1) rfl (by omega) (by omega) (by omega) (by omega)
      exact ⟨y, p', e, by omega, by omega, e3⟩
    · rw [if_neg hn]
      exact ⟨_, _, rfl, by omega, by omega, by omega⟩
  | d + 1, k, x, p, h0, h1, hx, hk => by
    obtain ⟨k, rfl⟩ : ∃ m, k = m + 1 := ⟨k - 1, by omega⟩
    obtain ⟨v, q, hv, hq, hq'⟩ := rune_k hs (p := p) (k := k) h0 (by omega) (by omega)
    rw [spec_l13Runes.l0, if_pos (by omega), hv, Option.bind_some, if_pos (by omega), w64 (by omega) (by omega), show ((d + 1 : Nat) : Int) - 1 = (d : Int) by omega]
    obtain ⟨y, p', e, e1, e2, e3⟩ := runes0_k hs d k (x ++ [v]) q (by omega) (by omega) (by simp; omega) (by omega)
    exact ⟨y, p', e, by omega, by omega, e3⟩
theorem runes_k {s : List Int} (hs : DS s) {p : Int} {k : Nat} (h0 : 0 ≤ p) (h1 : p ≤ 700000) (hk : 200 ≤ k) : ∃ y p', spec_l13Runes.f k s p = some (y, p') ∧ p ≤ p' ∧ p' ≤ p + 200 ∧ y.length ≤ 200 := by
  obtain ⟨n, hv, v0, v1⟩ := pick_k hs (p := p) (n := 24) (k := k) h0 (by omega) (by omega) (by omega) (by omega)
  unfold spec_l13Runes.f
  rw [hv, Option.bind_some]
  obtain ⟨m, rfl⟩ : ∃ m : Nat, n = (m : Int) := ⟨n.toNat, by omega⟩
  obtain ⟨y, p', e, e1, e2, e3⟩ := runes0_k hs m k [] (p + 1) (by omega) (by omega) (by simp; omega) (by omega)
  exact ⟨y, p', e, by omega, by omega, e3⟩
theorem any0_k {s : List Int} : ∀ (d k : Nat) (x : List Int) (p : Int), 81 - x.length = d → x.length ≤ 300 → d < k → ∃ y, spec_l13Any.l0 k x s p = some (y, p) ∧ y.length ≤ 300
  | 0, k, x, p, hd, hx, hk => by
    obtain ⟨k, rfl⟩ : ∃ m, k = m + 1 := ⟨k - 1, by omega⟩
    rw [spec_l13Any.l0, if_neg (by omega)]
    exact ⟨_, rfl, hx⟩
  | d + 1, k, x, p, hd, hx, hk => by
    obtain ⟨k, rfl⟩ : ∃ m, k = m + 1 := ⟨k - 1, by omega⟩
    rw [spec_l13Any.l0, if_pos (by omega), if_pos (by omega)]
    exact any0_k d k (x ++ [97]) p (by simp; omega) (by simp; omega) (by omega)
theorem any_k {s : List Int} (hs : DS s) {p : Int} {k : Nat} (h0 : 0 ≤ p) (h1 : p ≤ 600000) (hk : 300 ≤ k) : ∃ y p', spec_l13Any.f k s p = some (y, p') ∧ p ≤ p' ∧ p' ≤ p + 300 ∧ y.length ≤ 300 := by
  obtain ⟨y, q, hr, q0, q1, hy⟩ := runes_k hs (p := p) (k := k) h0 (by omega) (by omega)
  obtain ⟨n, hv, v0, v1⟩ := pick_k hs (p := q) (n := 24) (k := k) (by omega) (by omega) (by omega) (by omega) (by omega)
  unfold spec_l13Any.f
  rw [hr, Option.bind_some, hv, Option.bind_some]
  by_cases hn : n = 0
  · obtain ⟨v, hv2⟩ := one_k hs (L := [-1, 55296, 57343, 1114112]) (p := q + 1) (k := k) (by omega) (by omega) (by decide) (by decide) (by omega)
    rw [if_pos hn, hv2, Option.bind_some, if_pos (by simp only; omega)]
    exact ⟨_, _, rfl, by omega, by omega, by simp; omega⟩
  · rw [if_neg hn]
    by_cases hn1 : n = 1
    · rw [if_pos hn1]
      obtain ⟨z, e, hz⟩ := any0_k (s := s) (81 - y.length) k y (q + 1) rfl (by omega) (by omega)
      exact ⟨z, q + 1, e, by omega, by omega, hz⟩
    · rw [if_neg hn1]
      exact ⟨_, _, rfl, by omega, by omega, by simp; omega⟩
theorem open_k {l : List Int} (hl : ∀ x ∈ l, (Lit.int .u8 x).wf = true) : ∃ s, spec_l1Open.f l = some (s, 0) ∧ DS s := by
  have hb : ∀ x ∈ l, 0 ≤ x ∧ x ≤ 255 := by
    intro x hx
    have := hl x hx
    simp [Lit.wf, IntKind.min, IntKind.max, IntKind.bits, IntKind.signed] at this
    omega
  unfold spec_l1Open.f
  by_cases h : (l.length : Int) > 2000
  · rw [if_pos h, if_pos (by omega)]
    exact ⟨_, rfl, by simp; omega, fun x hx => hb x (List.mem_of_mem_take hx)⟩
  · rw [if_neg h]
    exact ⟨_, rfl, by omega, hb⟩
end Go.Proofs.Ytoafenblaioopaa.Pure

/- The drawing of letters for words answers always. -/
namespace Go.Proofs.Ytoafenblaioopaa.Pure
open Go.RowKit Go.Proofs.Ytoafenblaioopaa.S Go.Proofs.YtoafenblaioopaaW.PrintWords Go.Proofs.YtoafenblaioopaaW.PrintLast
def W0 (s : List Int) (d : Nat) : Prop := ∀ (k : Nat) (x : List Int) (p : Int), 0 ≤ p → p + 10 * d ≤ 800000 → x.length + 5 * d ≤ 100 → 10 * d + 2 < k → ∃ y p', spec_l13Words.l0 k x (d : Int) s p = some (y, p') ∧ p ≤ p' ∧ p' ≤ p + 10 * d ∧ y.length ≤ 100
theorem words1_k {s : List Int} (hs : DS s) {d : Nat} (h : W0 s d) : ∀ (e k : Nat) (x : List Int) (p : Int), 0 ≤ p → p + e + 1 + 10 * d ≤ 800000 → x.length + e + 1 + 5 * d ≤ 100 → 10 * d + e + 4 < k →
    ∃ y p', spec_l13Words.l1 k x ((d + 1 : Nat) : Int) (e : Int) s p = some (y, p') ∧ p ≤ p' ∧ p' ≤ p + e + 1 + 10 * d ∧ y.length ≤ 100
  | 0, k, x, p, h0, h1, hx, hk => by
    obtain ⟨k, rfl⟩ : ∃ m, k = m + 1 := ⟨k - 1, by omega⟩
    obtain ⟨v, hv⟩ := one_k hs (L := [32, 32, 32, 32, 45, 10, 19968]) (p := p) (k := k) h0 (by omega) (by decide) (by decide) (by omega)
    rw [spec_l13Words.l1, if_neg (by omega), hv, Option.bind_some, if_pos (by omega), w64 (by omega) (by omega), show ((d + 1 : Nat) : Int) - 1 = (d : Int) by omega]
    obtain ⟨y, p', e, e1, e2, e3⟩ := h k (x ++ [v]) (p + 1) (by omega) (by omega) (by simp; omega) (by omega)
    exact ⟨y, p', e, by omega, by omega, e3⟩
  | e + 1, k, x, p, h0, h1, hx, hk => by
    obtain ⟨k, rfl⟩ : ∃ m, k = m + 1 := ⟨k - 1, by omega⟩
    obtain ⟨v, hv⟩ := one_k hs (L := [97, 109, 105, 1488, 1610, 55, 768]) (p := p) (k := k) h0 (by omega) (by decide) (by decide) (by omega)
    rw [spec_l13Words.l1, if_pos (by omega), hv, Option.bind_some, if_pos (by omega), w64 (by omega) (by omega), show ((e + 1 : Nat) : Int) - 1 = (e : Int) by omega]
    obtain ⟨y, p', e, e1, e2, e3⟩ := words1_k hs h e k (x ++ [v]) (p + 1) (by omega) (by omega) (by simp; omega) (by omega)
    exact ⟨y, p', e, by omega, by omega, e3⟩
theorem words0_k {s : List Int} (hs : DS s) : ∀ d, W0 s d
  | 0 => by
    intro k x p h0 h1 hx hk
    obtain ⟨k, rfl⟩ : ∃ m, k = m + 1 := ⟨k - 1, by omega⟩
    rw [spec_l13Words.l0, if_neg (by omega)]
    exact ⟨_, _, rfl, by omega, by omega, by omega⟩
  | d + 1 => by
    intro k x p h0 h1 hx hk
    obtain ⟨k, rfl⟩ : ∃ m, k = m + 1 := ⟨k - 1, by omega⟩
    obtain ⟨n, hv, v0, v1⟩ := pick_k hs (p := p) (n := 4) (k := k) h0 (by omega) (by omega) (by omega) (by omega)
    rw [spec_l13Words.l0, if_pos (by omega), hv, Option.bind_some, w64 (by omega) (by omega)]
    obtain ⟨m, hm⟩ : ∃ m : Nat, 1 + n = (m : Int) := ⟨(1 + n).toNat, by omega⟩
    rw [hm]
    obtain ⟨y, p', e, e1, e2, e3⟩ := words1_k hs (words0_k hs d) m k x (p + 1) (by omega) (by omega) (by omega) (by omega)
    exact ⟨y, p', e, by omega, by omega, e3⟩
theorem drawWords_k {l : List Int} (hl : ∀ x ∈ l, (Lit.int .u8 x).wf = true) {k : Nat} (hk : 400 ≤ k) : ∃ y, spec_DrawWordStarts.f k l = some y ∧ y.length ≤ 300 := by
  obtain ⟨s, hs, ds⟩ := open_k hl
  obtain ⟨n, hv, v0, v1⟩ := pick_k ds (p := 0) (n := 4) (k := k) (by omega) (by omega) (by omega) (by omega) (by omega)
  unfold spec_DrawWordStarts.f
  rw [hs, Option.bind_some, hv, Option.bind_some]
  by_cases hn : n = 0
  · obtain ⟨y, p', e, e1, e2, e3⟩ := any_k ds (p := 0 + 1) (k := k) (by omega) (by omega) (by omega)
    rw [if_pos hn, e, Option.bind_some]
    exact ⟨_, rfl, e3⟩
  · rw [if_neg hn]
    unfold spec_l13Words.f
    obtain ⟨n2, hv2, v20, v21⟩ := pick_k ds (p := 0 + 1) (n := 3) (k := k) (by omega) (by omega) (by omega) (by omega) (by omega)
    rw [hv2, Option.bind_some]
    by_cases hn2 : n2 = 0
    · obtain ⟨y, p', e, e1, e2, e3⟩ := runes_k ds (p := 0 + 1 + 1) (k := k) (by omega) (by omega) (by omega)
      rw [if_pos hn2, e, Option.bind_some, Option.bind_some]
      exact ⟨_, rfl, by simp only; omega⟩
    · obtain ⟨n3, hv3, v30, v31⟩ := pick_k ds (p := 0 + 1 + 1) (n := 9) (k := k) (by omega) (by omega) (by omega) (by omega) (by omega)
      rw [if_neg hn2, hv3, Option.bind_some, w64 (by omega) (by omega)]
      obtain ⟨m, hm⟩ : ∃ m : Nat, 1 + n3 = (m : Int) := ⟨(1 + n3).toNat, by omega⟩
      rw [hm]
      obtain ⟨y, p', e, e1, e2, e3⟩ := words0_k ds m k [] (0 + 1 + 1 + 1) (by omega) (by omega) (by simp; omega) (by omega)
      rw [e, Option.bind_some]
      exact ⟨_, rfl, by simp only; omega⟩
end Go.Proofs.Ytoafenblaioopaa.Pure

namespace Go.Proofs.Ytoafenblaioopaa.S
open Go.RowKit Go.Proofs.YtoafenblaioopaaW.PrintWords Go.Proofs.YtoafenblaioopaaW.PrintLast Go.Proofs.YtoafenblaioopaaW.PrintMore
attribute [local go_sem] max2_int min2_int max_two min_two max_three min_three max_four min_four   -- for this text's walks alone
set_option linter.unusedVariables false
set_option linter.unusedSimpArgs false

/-! ### spec_l1Put: function 103 -/
def spec_l1Put.f (a0 : Int) : Option (ByteArray) := (spec_l1Size.f a0).bind fun t679 => (if t679 = 1 then (some (strOfNums (([(a0) % 256] : List Int)))) else (if t679 = 2 then (some (strOfNums (([(wrap64 (192 + (wrap64 (Int.tdiv a0 64)))) % 256, (wrap64 (128 + (Int.tmod a0 64))) % 256] : List Int)))) else (if t679 = 3 then (some (strOfNums (([(wrap64 (224 + (wrap64 (Int.tdiv a0 4096)))) % 256, (wrap64 (128 + (Int.tmod (wrap64 (Int.tdiv a0 64)) 64))) % 256, (wrap64 (128 + (Int.tmod a0 64))) % 256] : List Int)))) else (if t679 = 4 then (some (strOfNums (([(wrap64 (240 + (wrap64 (Int.tdiv a0 262144)))) % 256, (wrap64 (128 + (Int.tmod (wrap64 (Int.tdiv a0 4096)) 64))) % 256, (wrap64 (128 + (Int.tmod (wrap64 (Int.tdiv a0 64)) 64))) % 256, (wrap64 (128 + (Int.tmod a0 64))) % 256] : List Int)))) else (some (⟨#[]⟩ : ByteArray))))))
set_option maxHeartbeats 8000000 in
set_option maxRecDepth 100000 in
theorem spec_l1Put.calls (a0 : Int) (r : ByteArray) (w : World) (h : spec_l1Put.f a0 = some r) :
    Calls Try.prog 103 #[.int .i64 a0] w fun e w' => e = .returned (.string r) ∧ Below w.heap.size w w' := by
  have HB := Aside0.mk (Below.refl w.heap.size w)
  have H : ((spec_l1Size.f a0).bind fun t679 => (if t679 = 1 then (some (strOfNums (([(a0) % 256] : List Int)))) else (if t679 = 2 then (some (strOfNums (([(wrap64 (192 + (wrap64 (Int.tdiv a0 64)))) % 256, (wrap64 (128 + (Int.tmod a0 64))) % 256] : List Int)))) else (if t679 = 3 then (some (strOfNums (([(wrap64 (224 + (wrap64 (Int.tdiv a0 4096)))) % 256, (wrap64 (128 + (Int.tmod (wrap64 (Int.tdiv a0 64)) 64))) % 256, (wrap64 (128 + (Int.tmod a0 64))) % 256] : List Int)))) else (if t679 = 4 then (some (strOfNums (([(wrap64 (240 + (wrap64 (Int.tdiv a0 262144)))) % 256, (wrap64 (128 + (Int.tmod (wrap64 (Int.tdiv a0 4096)) 64))) % 256, (wrap64 (128 + (Int.tmod (wrap64 (Int.tdiv a0 64)) 64))) % 256, (wrap64 (128 + (Int.tmod a0 64))) % 256] : List Int)))) else (some (⟨#[]⟩ : ByteArray))))))) = some r := h
  clear h
  replace H := Option.bind_eq_some_iff.mp H
  obtain ⟨t679, A20, H⟩ := H
  replace H : (if t679 = 1 then (some (strOfNums (([(a0) % 256] : List Int)))) else (if t679 = 2 then (some (strOfNums (([(wrap64 (192 + (wrap64 (Int.tdiv a0 64)))) % 256, (wrap64 (128 + (Int.tmod a0 64))) % 256] : List Int)))) else (if t679 = 3 then (some (strOfNums (([(wrap64 (224 + (wrap64 (Int.tdiv a0 4096)))) % 256, (wrap64 (128 + (Int.tmod (wrap64 (Int.tdiv a0 64)) 64))) % 256, (wrap64 (128 + (Int.tmod a0 64))) % 256] : List Int)))) else (if t679 = 4 then (some (strOfNums (([(wrap64 (240 + (wrap64 (Int.tdiv a0 262144)))) % 256, (wrap64 (128 + (Int.tmod (wrap64 (Int.tdiv a0 4096)) 64))) % 256, (wrap64 (128 + (Int.tmod (wrap64 (Int.tdiv a0 64)) 64))) % 256, (wrap64 (128 + (Int.tmod a0 64))) % 256] : List Int)))) else (some (⟨#[]⟩ : ByteArray)))))) = some r := H
  have A2 := Aside0.mk A20
  clear A20
  by_cases c3 : t679 = 1
  · rw [if_pos c3] at H
    have c3b0 : (t679 == 1) = true := beq_iff_eq.mpr c3
    have c3b1 : (t679 != 1) = false := bne_eq_false_iff_eq.mpr c3
    clear c3
    obtain ⟨y680, hy680⟩ : ∃ y_ : List Int, y_ = (([(a0) % 256] : List Int)) := ⟨_, rfl⟩
    replace H : (some (strOfNums y680)) = some r := by first | (rw [hy680]; with_reducible exact H) | (have H2_ := (Option.bind_some _ _).symm.trans H; rw [hy680]; with_reducible exact H2_) | (have H2_ := (Option.bind_some _ _).symm.trans H; with_reducible exact H2_) | with_reducible exact H | (rw [hy680]; exact H) | exact H
    have Ny680 := Aside0.mk hy680
    clear hy680
    obtain rfl := Option.some.inj H
    go_enter Try.func103, Try.ntmps103
    go_wp2_with (first | ((with_reducible refine gate_callee (f := 85) rfl ?_); refine goesL_ (some 4) rfl rfl Try.func85 (by kernel_rfl) rfl #[.int .i64 a0] rfl (by (try simp only [List.map_toArray, List.map_cons, List.map_nil]); first | done | rfl | (simp only [List.length_drop, List.length_take]; rfl)) ?_; (with_reducible refine (spec_l1Size.calls a0 t679 _ A2.out).mono ?_); rintro e w' ⟨rfl, ⟨nd, rfl⟩⟩; refine ⟨_, rfl, ?_⟩) | ((with_reducible refine gate_dst (N := 9) rfl ?_); refine Kd.R_lit (Kd.int .u8) _ 5 ?hg (N := 9) ?hd (xs := ([(a0) % 256] : List Int)) (inner := [.int .u8 ((a0) % 256)]) (ok := fun _ => True) (okp := fun _ => True) ?hr ?hp (fun _ hk => hk) trivial (Below.refl _ _) (Nat.le_refl _) (by simp) ?_; (case hd => rfl); (case hg => rfl); (case hr => first | (go_simp; done) | (go_simp; rfl)); (case hp => exact (Reps.one (show Kd.M (Kd.int .u8) _ _ _ ((a0) % 256) [.int .u8 ((a0) % 256)] from rfl) (Reps.none _ _))); intro v681 w4 ho5 hb hg_ hnew_; clear hg_ hnew_; (first | rw [← Ny680.out] at ho5 | (simp only [Int.reduceToNat] at ho5; rw [← Ny680.out] at ho5)); have n0_ := Aside0.mk (Kd.R_lower ho5 (below_size (by repeat (first | (with_reducible first | exact HB.out | apply below_alloc | apply pw_below_drewN | apply below_drew1) | exact HB.out)))); have n1_ := Aside0.mk (below_step (by repeat (first | (with_reducible first | exact HB.out | apply below_alloc | apply pw_below_drewN | apply below_drew1) | exact HB.out)) hb); clear HB; have HO682 := n0_; have HB := n1_; clear n0_ n1_; clear hb ho5; have hcv6 := own_string (P := Try.prog) Try.underlying45 Try.underlying5 Try.underlying9 (Kd.own_of_R HO682.out)))
    go_ret
    exact ⟨by first | rfl | (simp [errW_none, errW_some] <;> rfl) | (simp [*, errW_none, errW_some] <;> rfl), by repeat (first | (with_reducible first | exact HB.out | apply below_alloc | apply pw_below_drewN | apply below_drew1) | exact HB.out)⟩
  · rw [if_neg c3] at H
    have c3b0 : (t679 == 1) = false := beq_eq_false_iff_ne.mpr c3
    have c3b1 : (t679 != 1) = true := bne_iff_ne.mpr c3
    by_cases c7 : t679 = 2
    · rw [if_pos c7] at H
      have c7b0 : (t679 == 2) = true := beq_iff_eq.mpr c7
      have c7b1 : (t679 != 2) = false := bne_eq_false_iff_eq.mpr c7
      clear c7
      obtain ⟨y683, hy683⟩ : ∃ y_ : List Int, y_ = (([(wrap64 (192 + (wrap64 (Int.tdiv a0 64)))) % 256, (wrap64 (128 + (Int.tmod a0 64))) % 256] : List Int)) := ⟨_, rfl⟩
      replace H : (some (strOfNums y683)) = some r := by first | (rw [hy683]; with_reducible exact H) | (have H2_ := (Option.bind_some _ _).symm.trans H; rw [hy683]; with_reducible exact H2_) | (have H2_ := (Option.bind_some _ _).symm.trans H; with_reducible exact H2_) | with_reducible exact H | (rw [hy683]; exact H) | exact H
      have Ny683 := Aside0.mk hy683
      clear hy683
      obtain rfl := Option.some.inj H
      go_enter Try.func103, Try.ntmps103
      go_wp2_with (first | ((with_reducible refine gate_callee (f := 85) rfl ?_); refine goesL_ (some 4) rfl rfl Try.func85 (by kernel_rfl) rfl #[.int .i64 a0] rfl (by (try simp only [List.map_toArray, List.map_cons, List.map_nil]); first | done | rfl | (simp only [List.length_drop, List.length_take]; rfl)) ?_; (with_reducible refine (spec_l1Size.calls a0 t679 _ A2.out).mono ?_); rintro e w' ⟨rfl, ⟨nd, rfl⟩⟩; refine ⟨_, rfl, ?_⟩) | ((with_reducible refine gate_dst (N := 21) rfl ?_); refine Kd.R_lit (Kd.int .u8) _ 5 ?hg (N := 21) ?hd (xs := ([(wrap64 (192 + (wrap64 (Int.tdiv a0 64)))) % 256, (wrap64 (128 + (Int.tmod a0 64))) % 256] : List Int)) (inner := [.int .u8 ((wrap64 (192 + (wrap64 (Int.tdiv a0 64)))) % 256), .int .u8 ((wrap64 (128 + (Int.tmod a0 64))) % 256)]) (ok := fun _ => True) (okp := fun _ => True) ?hr ?hp (fun _ hk => hk) trivial (Below.refl _ _) (Nat.le_refl _) (by simp) ?_; (case hd => rfl); (case hg => rfl); (case hr => first | (go_simp; done) | (go_simp; rfl)); (case hp => exact (Reps.one (show Kd.M (Kd.int .u8) _ _ _ ((wrap64 (192 + (wrap64 (Int.tdiv a0 64)))) % 256) [.int .u8 ((wrap64 (192 + (wrap64 (Int.tdiv a0 64)))) % 256)] from rfl) (Reps.one (show Kd.M (Kd.int .u8) _ _ _ ((wrap64 (128 + (Int.tmod a0 64))) % 256) [.int .u8 ((wrap64 (128 + (Int.tmod a0 64))) % 256)] from rfl) (Reps.none _ _)))); intro v684 w8 ho9 hb hg_ hnew_; clear hg_ hnew_; (first | rw [← Ny683.out] at ho9 | (simp only [Int.reduceToNat] at ho9; rw [← Ny683.out] at ho9)); have n0_ := Aside0.mk (Kd.R_lower ho9 (below_size (by repeat (first | (with_reducible first | exact HB.out | apply below_alloc | apply pw_below_drewN | apply below_drew1) | exact HB.out)))); have n1_ := Aside0.mk (below_step (by repeat (first | (with_reducible first | exact HB.out | apply below_alloc | apply pw_below_drewN | apply below_drew1) | exact HB.out)) hb); clear HB; have HO685 := n0_; have HB := n1_; clear n0_ n1_; clear hb ho9; have hcv10 := own_string (P := Try.prog) Try.underlying45 Try.underlying5 Try.underlying9 (Kd.own_of_R HO685.out)))
      go_ret
      exact ⟨by first | rfl | (simp [errW_none, errW_some] <;> rfl) | (simp [*, errW_none, errW_some] <;> rfl), by repeat (first | (with_reducible first | exact HB.out | apply below_alloc | apply pw_below_drewN | apply below_drew1) | exact HB.out)⟩
    · rw [if_neg c7] at H
      have c7b0 : (t679 == 2) = false := beq_eq_false_iff_ne.mpr c7
      have c7b1 : (t679 != 2) = true := bne_iff_ne.mpr c7
      by_cases c11 : t679 = 3
      · rw [if_pos c11] at H
        have c11b0 : (t679 == 3) = true := beq_iff_eq.mpr c11
        have c11b1 : (t679 != 3) = false := bne_eq_false_iff_eq.mpr c11
        clear c11
        obtain ⟨y686, hy686⟩ : ∃ y_ : List Int, y_ = (([(wrap64 (224 + (wrap64 (Int.tdiv a0 4096)))) % 256, (wrap64 (128 + (Int.tmod (wrap64 (Int.tdiv a0 64)) 64))) % 256, (wrap64 (128 + (Int.tmod a0 64))) % 256] : List Int)) := ⟨_, rfl⟩
        replace H : (some (strOfNums y686)) = some r := by first | (rw [hy686]; with_reducible exact H) | (have H2_ := (Option.bind_some _ _).symm.trans H; rw [hy686]; with_reducible exact H2_) | (have H2_ := (Option.bind_some _ _).symm.trans H; with_reducible exact H2_) | with_reducible exact H | (rw [hy686]; exact H) | exact H
        have Ny686 := Aside0.mk hy686
        clear hy686
        obtain rfl := Option.some.inj H
        go_enter Try.func103, Try.ntmps103
        go_wp2_with (first | ((with_reducible refine gate_callee (f := 85) rfl ?_); refine goesL_ (some 4) rfl rfl Try.func85 (by kernel_rfl) rfl #[.int .i64 a0] rfl (by (try simp only [List.map_toArray, List.map_cons, List.map_nil]); first | done | rfl | (simp only [List.length_drop, List.length_take]; rfl)) ?_; (with_reducible refine (spec_l1Size.calls a0 t679 _ A2.out).mono ?_); rintro e w' ⟨rfl, ⟨nd, rfl⟩⟩; refine ⟨_, rfl, ?_⟩) | ((with_reducible refine gate_dst (N := 38) rfl ?_); refine Kd.R_lit (Kd.int .u8) _ 5 ?hg (N := 38) ?hd (xs := ([(wrap64 (224 + (wrap64 (Int.tdiv a0 4096)))) % 256, (wrap64 (128 + (Int.tmod (wrap64 (Int.tdiv a0 64)) 64))) % 256, (wrap64 (128 + (Int.tmod a0 64))) % 256] : List Int)) (inner := [.int .u8 ((wrap64 (224 + (wrap64 (Int.tdiv a0 4096)))) % 256), .int .u8 ((wrap64 (128 + (Int.tmod (wrap64 (Int.tdiv a0 64)) 64))) % 256), .int .u8 ((wrap64 (128 + (Int.tmod a0 64))) % 256)]) (ok := fun _ => True) (okp := fun _ => True) ?hr ?hp (fun _ hk => hk) trivial (Below.refl _ _) (Nat.le_refl _) (by simp) ?_; (case hd => rfl); (case hg => rfl); (case hr => first | (go_simp; done) | (go_simp; rfl)); (case hp => exact (Reps.one (show Kd.M (Kd.int .u8) _ _ _ ((wrap64 (224 + (wrap64 (Int.tdiv a0 4096)))) % 256) [.int .u8 ((wrap64 (224 + (wrap64 (Int.tdiv a0 4096)))) % 256)] from rfl) (Reps.one (show Kd.M (Kd.int .u8) _ _ _ ((wrap64 (128 + (Int.tmod (wrap64 (Int.tdiv a0 64)) 64))) % 256) [.int .u8 ((wrap64 (128 + (Int.tmod (wrap64 (Int.tdiv a0 64)) 64))) % 256)] from rfl) (Reps.one (show Kd.M (Kd.int .u8) _ _ _ ((wrap64 (128 + (Int.tmod a0 64))) % 256) [.int .u8 ((wrap64 (128 + (Int.tmod a0 64))) % 256)] from rfl) (Reps.none _ _))))); intro v687 w12 ho13 hb hg_ hnew_; clear hg_ hnew_; (first | rw [← Ny686.out] at ho13 | (simp only [Int.reduceToNat] at ho13; rw [← Ny686.out] at ho13)); have n0_ := Aside0.mk (Kd.R_lower ho13 (below_size (by repeat (first | (with_reducible first | exact HB.out | apply below_alloc | apply pw_below_drewN | apply below_drew1) | exact HB.out)))); have n1_ := Aside0.mk (below_step (by repeat (first | (with_reducible first | exact HB.out | apply below_alloc | apply pw_below_drewN | apply below_drew1) | exact HB.out)) hb); clear HB; have HO688 := n0_; have HB := n1_; clear n0_ n1_; clear hb ho13; have hcv14 := own_string (P := Try.prog) Try.underlying45 Try.underlying5 Try.underlying9 (Kd.own_of_R HO688.out)))
        go_ret
        exact ⟨by first | rfl | (simp [errW_none, errW_some] <;> rfl) | (simp [*, errW_none, errW_some] <;> rfl), by repeat (first | (with_reducible first | exact HB.out | apply below_alloc | apply pw_below_drewN | apply below_drew1) | exact HB.out)⟩
      · rw [if_neg c11] at H
        have c11b0 : (t679 == 3) = false := beq_eq_false_iff_ne.mpr c11
        have c11b1 : (t679 != 3) = true := bne_iff_ne.mpr c11
        by_cases c15 : t679 = 4
        · rw [if_pos c15] at H
          have c15b0 : (t679 == 4) = true := beq_iff_eq.mpr c15
          have c15b1 : (t679 != 4) = false := bne_eq_false_iff_eq.mpr c15
          clear c15
          obtain ⟨y689, hy689⟩ : ∃ y_ : List Int, y_ = (([(wrap64 (240 + (wrap64 (Int.tdiv a0 262144)))) % 256, (wrap64 (128 + (Int.tmod (wrap64 (Int.tdiv a0 4096)) 64))) % 256, (wrap64 (128 + (Int.tmod (wrap64 (Int.tdiv a0 64)) 64))) % 256, (wrap64 (128 + (Int.tmod a0 64))) % 256] : List Int)) := ⟨_, rfl⟩
          replace H : (some (strOfNums y689)) = some r := by first | (rw [hy689]; with_reducible exact H) | (have H2_ := (Option.bind_some _ _).symm.trans H; rw [hy689]; with_reducible exact H2_) | (have H2_ := (Option.bind_some _ _).symm.trans H; with_reducible exact H2_) | with_reducible exact H | (rw [hy689]; exact H) | exact H
          have Ny689 := Aside0.mk hy689
          clear hy689
          obtain rfl := Option.some.inj H
          go_enter Try.func103, Try.ntmps103
          go_wp2_with (first | ((with_reducible refine gate_callee (f := 85) rfl ?_); refine goesL_ (some 4) rfl rfl Try.func85 (by kernel_rfl) rfl #[.int .i64 a0] rfl (by (try simp only [List.map_toArray, List.map_cons, List.map_nil]); first | done | rfl | (simp only [List.length_drop, List.length_take]; rfl)) ?_; (with_reducible refine (spec_l1Size.calls a0 t679 _ A2.out).mono ?_); rintro e w' ⟨rfl, ⟨nd, rfl⟩⟩; refine ⟨_, rfl, ?_⟩) | ((with_reducible refine gate_dst (N := 60) rfl ?_); refine Kd.R_lit (Kd.int .u8) _ 5 ?hg (N := 60) ?hd (xs := ([(wrap64 (240 + (wrap64 (Int.tdiv a0 262144)))) % 256, (wrap64 (128 + (Int.tmod (wrap64 (Int.tdiv a0 4096)) 64))) % 256, (wrap64 (128 + (Int.tmod (wrap64 (Int.tdiv a0 64)) 64))) % 256, (wrap64 (128 + (Int.tmod a0 64))) % 256] : List Int)) (inner := [.int .u8 ((wrap64 (240 + (wrap64 (Int.tdiv a0 262144)))) % 256), .int .u8 ((wrap64 (128 + (Int.tmod (wrap64 (Int.tdiv a0 4096)) 64))) % 256), .int .u8 ((wrap64 (128 + (Int.tmod (wrap64 (Int.tdiv a0 64)) 64))) % 256), .int .u8 ((wrap64 (128 + (Int.tmod a0 64))) % 256)]) (ok := fun _ => True) (okp := fun _ => True) ?hr ?hp (fun _ hk => hk) trivial (Below.refl _ _) (Nat.le_refl _) (by simp) ?_; (case hd => rfl); (case hg => rfl); (case hr => first | (go_simp; done) | (go_simp; rfl)); (case hp => exact (Reps.one (show Kd.M (Kd.int .u8) _ _ _ ((wrap64 (240 + (wrap64 (Int.tdiv a0 262144)))) % 256) [.int .u8 ((wrap64 (240 + (wrap64 (Int.tdiv a0 262144)))) % 256)] from rfl) (Reps.one (show Kd.M (Kd.int .u8) _ _ _ ((wrap64 (128 + (Int.tmod (wrap64 (Int.tdiv a0 4096)) 64))) % 256) [.int .u8 ((wrap64 (128 + (Int.tmod (wrap64 (Int.tdiv a0 4096)) 64))) % 256)] from rfl) (Reps.one (show Kd.M (Kd.int .u8) _ _ _ ((wrap64 (128 + (Int.tmod (wrap64 (Int.tdiv a0 64)) 64))) % 256) [.int .u8 ((wrap64 (128 + (Int.tmod (wrap64 (Int.tdiv a0 64)) 64))) % 256)] from rfl) (Reps.one (show Kd.M (Kd.int .u8) _ _ _ ((wrap64 (128 + (Int.tmod a0 64))) % 256) [.int .u8 ((wrap64 (128 + (Int.tmod a0 64))) % 256)] from rfl) (Reps.none _ _)))))); intro v690 w16 ho17 hb hg_ hnew_; clear hg_ hnew_; (first | rw [← Ny689.out] at ho17 | (simp only [Int.reduceToNat] at ho17; rw [← Ny689.out] at ho17)); have n0_ := Aside0.mk (Kd.R_lower ho17 (below_size (by repeat (first | (with_reducible first | exact HB.out | apply below_alloc | apply pw_below_drewN | apply below_drew1) | exact HB.out)))); have n1_ := Aside0.mk (below_step (by repeat (first | (with_reducible first | exact HB.out | apply below_alloc | apply pw_below_drewN | apply below_drew1) | exact HB.out)) hb); clear HB; have HO691 := n0_; have HB := n1_; clear n0_ n1_; clear hb ho17; have hcv18 := own_string (P := Try.prog) Try.underlying45 Try.underlying5 Try.underlying9 (Kd.own_of_R HO691.out)))
          go_ret
          exact ⟨by first | rfl | (simp [errW_none, errW_some] <;> rfl) | (simp [*, errW_none, errW_some] <;> rfl), by repeat (first | (with_reducible first | exact HB.out | apply below_alloc | apply pw_below_drewN | apply below_drew1) | exact HB.out)⟩
        · rw [if_neg c15] at H
          have c15b0 : (t679 == 4) = false := beq_eq_false_iff_ne.mpr c15
          have c15b1 : (t679 != 4) = true := bne_iff_ne.mpr c15
          obtain rfl := Option.some.inj H
          go_enter Try.func103, Try.ntmps103
          go_wp2_with (first | ((with_reducible refine gate_callee (f := 85) rfl ?_); refine goesL_ (some 4) rfl rfl Try.func85 (by kernel_rfl) rfl #[.int .i64 a0] rfl (by (try simp only [List.map_toArray, List.map_cons, List.map_nil]); first | done | rfl | (simp only [List.length_drop, List.length_take]; rfl)) ?_; (with_reducible refine (spec_l1Size.calls a0 t679 _ A2.out).mono ?_); rintro e w' ⟨rfl, ⟨nd, rfl⟩⟩; refine ⟨_, rfl, ?_⟩))
          go_ret
          exact ⟨by first | rfl | (simp [errW_none, errW_some] <;> rfl) | (simp [*, errW_none, errW_some] <;> rfl), by repeat (first | (with_reducible first | exact HB.out | apply below_alloc | apply pw_below_drewN | apply below_drew1) | exact HB.out)⟩

end Go.Proofs.Ytoafenblaioopaa.S

namespace Go.Proofs.Ytoafenblaioopaa.S
open Go.RowKit Go.Proofs.YtoafenblaioopaaW.PrintWords Go.Proofs.YtoafenblaioopaaW.PrintLast Go.Proofs.YtoafenblaioopaaW.PrintMore
attribute [local go_sem] max2_int min2_int max_two min_two max_three min_three max_four min_four   -- for this text's walks alone
set_option linter.unusedVariables false
set_option linter.unusedSimpArgs false

/-! ### spec_Utf8Put: function 75 -/
def spec_Utf8Put.l0 : Nat → List Int → ByteArray → Int → Option (ByteArray)
  | 0, _, _, _ => none
  | k + 1, x0, x3, x4 => if x4 < (x0.length : Int) then (if 0 ≤ x4 then ((spec_l1Size.f (rd x0 x4)).bind fun t693 => (if t693 = 0 then (some (⟨#[]⟩ : ByteArray)) else (if x4 ≥ 80 then (some (⟨#[]⟩ : ByteArray)) else ((spec_l1Put.f (rd x0 x4)).bind fun t695 => (if x3.size + t695.size ≤ 9223372036854775807 then (spec_Utf8Put.l0 k x0 (x3 ++ t695) (wrap64 (x4 + 1))) else (none)))))) else (none)) else (some x3)
def spec_Utf8Put.f (k : Nat) (l0 : List Int) : Option (ByteArray) := spec_Utf8Put.l0 k l0 (⟨#[]⟩ : ByteArray) 0
theorem spec_Utf8Put.mono_l : ∀ k, (∀ y0 y1 y2, LeO (spec_Utf8Put.l0 k y0 y1 y2) (spec_Utf8Put.l0 (k + 1) y0 y1 y2))
  | 0 => fun _ _ _ r h => by simp [spec_Utf8Put.l0] at h
  | k + 1 => by
    have ih0 := spec_Utf8Put.mono_l k
    · intro y0 y1 y2
      unfold spec_Utf8Put.l0
      repeat' first
      | (with_reducible exact ih0 _ _ _)
      | (with_reducible exact LeO.refl _)
      | (with_reducible exact LeO.none _)
      | (with_reducible refine LeO.ite ?_ ?_)
      | (with_reducible refine LeO.bind ?_ (fun _ => ?_))
      | exact ih0 _ _ _
      | exact LeO.none _
      | refine LeO.ite ?_ ?_
      | refine LeO.bind ?_ (fun _ => ?_)
theorem spec_Utf8Put.mono : ∀ a0 k, LeO (spec_Utf8Put.f k a0) (spec_Utf8Put.f (k + 1) a0) := by
  intro a0 k
  have ih0 := spec_Utf8Put.mono_l k
  unfold spec_Utf8Put.f
  repeat' first
      | (with_reducible exact ih0 _ _ _)
      | (with_reducible exact LeO.refl _)
      | (with_reducible exact LeO.none _)
      | (with_reducible refine LeO.ite ?_ ?_)
      | (with_reducible refine LeO.bind ?_ (fun _ => ?_))
      | exact ih0 _ _ _
      | exact LeO.none _
      | refine LeO.ite ?_ ?_
      | refine LeO.bind ?_ (fun _ => ?_)
set_option maxHeartbeats 8000000 in
set_option maxRecDepth 100000 in
theorem spec_Utf8Put.calls (k : Nat) (A0 : Option Addr) (c0 : Nat) (l0 : List Int) (r : ByteArray) (w : World) (hr0 : Kd.C (Kd.int .i64) w A0 l0.length l0) (hc0 : l0.length ≤ c0) (h : spec_Utf8Put.f k l0 = some r) :
    Calls Try.prog 75 #[.slice A0 l0.length c0] w fun e w' => e = .returned (.string r) ∧ Below w.heap.size w w' := by
  have HR0 := Aside0.mk hr0
  have HC0 := Aside0.mk hc0
  clear hr0 hc0
  have HB := Aside0.mk (Below.refl w.heap.size w)
  have H : (spec_Utf8Put.l0 k l0 (⟨#[]⟩ : ByteArray) 0) = some r := h
  clear h
  have H' := Aside0.mk H
  clear H
  go_enter Try.func75, Try.ntmps75
  go_wp2
  go_loopg [3, 4] k (fun kq v3 v4 w' => ∃ (x3_1 : ByteArray) (x4_1 : Int), v3 = .string x3_1 ∧ v4 = .int .i64 x4_1 ∧ Aside0 (spec_Utf8Put.l0 kq l0 x3_1 x4_1 = some r) ∧ Aside0 (kq ≤ k) ∧ Aside0 (Below w.heap.size w w'))
  case atStart => exact ⟨((⟨#[]⟩ : ByteArray)), (0), (by first | rfl | (simp; done) | (simp [*]; done)), (by first | rfl | (simp; done) | (simp [*]; done)), H', ⟨Nat.le_refl _⟩, ⟨by repeat (first | (with_reducible first | exact HB.out | apply below_alloc | apply pw_below_drewN | apply below_drew1) | exact HB.out)⟩⟩
  case round =>
    clear H'
    obtain ⟨x3_1, x4_1, rfl, rfl, HA, HK1, HB⟩ := hrel
    cases gk with
    | zero => exact absurd HA.out (by simp [spec_Utf8Put.l0])
    | succ k1 =>
      have H := HA.out
      clear HA
      simp only [spec_Utf8Put.l0] at H
      by_cases c2 : x4_1 < (l0.length : Int)
      · rw [if_pos c2] at H
        have c2b0 : decide (x4_1 < (l0.length : Int)) = true := decide_eq_true c2
        clear c2
        by_cases c3 : 0 ≤ x4_1
        · rw [if_pos c3] at H
          have c3b0 : decide (0 ≤ x4_1) = true := decide_eq_true c3
          clear c3
          replace H := Option.bind_eq_some_iff.mp H
          obtain ⟨t693, A40, H⟩ := H
          replace H : (if t693 = 0 then (some (⟨#[]⟩ : ByteArray)) else (if x4_1 ≥ 80 then (some (⟨#[]⟩ : ByteArray)) else ((spec_l1Put.f (rd l0 x4_1)).bind fun t695 => (if x3_1.size + t695.size ≤ 9223372036854775807 then (spec_Utf8Put.l0 k1 l0 (x3_1 ++ t695) (wrap64 (x4_1 + 1))) else (none))))) = some r := H
          have A4 := Aside0.mk A40
          clear A40
          by_cases c5 : t693 = 0
          · rw [if_pos c5] at H
            have c5b0 : (t693 == 0) = true := beq_iff_eq.mpr c5
            have c5b1 : (t693 != 0) = false := bne_eq_false_iff_eq.mpr c5
            clear c5
            obtain rfl := Option.some.inj H
            have p692 : 0 ≤ (x4_1 : Int) := of_decide_eq_true (by first | (with_reducible assumption) | assumption)
            have q692 : x4_1 < (l0.length : Int) := of_decide_eq_true (by first | (with_reducible assumption) | assumption)
            obtain ⟨ad692, e692, hx692_0⟩ := Kd.at_int HR0.out x4_1 p692 q692
            cases e692
            replace hx692_0 := (HB.out.cell (World.block_lt_of_cell? w _ hx692_0)).trans hx692_0
            replace p692 := eq_true p692
            replace q692 := eq_true q692
            go_wp2_with (first | ((with_reducible refine gate_callee (f := 85) rfl ?_); refine goesL_ (some 15) rfl rfl Try.func85 (by kernel_rfl) rfl #[.int .i64 (rd l0 x4_1)] rfl (by (try simp only [List.map_toArray, List.map_cons, List.map_nil]); first | done | rfl | (simp only [List.length_drop, List.length_take]; rfl)) ?_; (with_reducible refine (spec_l1Size.calls (rd l0 x4_1) t693 _ A4.out).mono ?_); rintro e w' ⟨rfl, ⟨nd, rfl⟩⟩; refine ⟨_, rfl, ?_⟩))
            go_ret
            exact ⟨by first | rfl | (simp [errW_none, errW_some] <;> rfl) | (simp [*, errW_none, errW_some] <;> rfl), by repeat (first | (with_reducible first | exact HB.out | apply below_alloc | apply pw_below_drewN | apply below_drew1) | exact HB.out)⟩
          · rw [if_neg c5] at H
            have c5b0 : (t693 == 0) = false := beq_eq_false_iff_ne.mpr c5
            have c5b1 : (t693 != 0) = true := bne_iff_ne.mpr c5
            by_cases c6 : x4_1 ≥ 80
            · rw [if_pos c6] at H
              have c6b0 : decide (80 ≤ x4_1) = true := decide_eq_true c6
              clear c6
              obtain rfl := Option.some.inj H
              have p692 : 0 ≤ (x4_1 : Int) := of_decide_eq_true (by first | (with_reducible assumption) | assumption)
              have q692 : x4_1 < (l0.length : Int) := of_decide_eq_true (by first | (with_reducible assumption) | assumption)
              obtain ⟨ad692, e692, hx692_0⟩ := Kd.at_int HR0.out x4_1 p692 q692
              cases e692
              replace hx692_0 := (HB.out.cell (World.block_lt_of_cell? w _ hx692_0)).trans hx692_0
              replace p692 := eq_true p692
              replace q692 := eq_true q692
              go_wp2_with (first | ((with_reducible refine gate_callee (f := 85) rfl ?_); refine goesL_ (some 15) rfl rfl Try.func85 (by kernel_rfl) rfl #[.int .i64 (rd l0 x4_1)] rfl (by (try simp only [List.map_toArray, List.map_cons, List.map_nil]); first | done | rfl | (simp only [List.length_drop, List.length_take]; rfl)) ?_; (with_reducible refine (spec_l1Size.calls (rd l0 x4_1) t693 _ A4.out).mono ?_); rintro e w' ⟨rfl, ⟨nd, rfl⟩⟩; refine ⟨_, rfl, ?_⟩))
              go_ret
              exact ⟨by first | rfl | (simp [errW_none, errW_some] <;> rfl) | (simp [*, errW_none, errW_some] <;> rfl), by repeat (first | (with_reducible first | exact HB.out | apply below_alloc | apply pw_below_drewN | apply below_drew1) | exact HB.out)⟩
            · rw [if_neg c6] at H
              have c6b0 : decide (80 ≤ x4_1) = false := decide_eq_false c6
              clear c6
              replace H := Option.bind_eq_some_iff.mp H
              obtain ⟨t695, A70, H⟩ := H
              replace H : (if x3_1.size + t695.size ≤ 9223372036854775807 then (spec_Utf8Put.l0 k1 l0 (x3_1 ++ t695) (wrap64 (x4_1 + 1))) else (none)) = some r := H
              have A7 := Aside0.mk A70
              clear A70
              by_cases c8 : x3_1.size + t695.size ≤ 9223372036854775807
              · rw [if_pos c8] at H
                have c8b0 := eq_true c8
                have c8b1 : decide (x3_1.size + t695.size ≤ 9223372036854775807) = true := decide_eq_true c8
                try have c8b2 : (9223372036854775807 < x3_1.size + t695.size) = False := eq_false (Nat.not_lt.2 c8)
                have H' := Aside0.mk H
                clear H
                have p692 : 0 ≤ (x4_1 : Int) := of_decide_eq_true (by first | (with_reducible assumption) | assumption)
                have q692 : x4_1 < (l0.length : Int) := of_decide_eq_true (by first | (with_reducible assumption) | assumption)
                obtain ⟨ad692, e692, hx692_0⟩ := Kd.at_int HR0.out x4_1 p692 q692
                cases e692
                replace hx692_0 := (HB.out.cell (World.block_lt_of_cell? w _ hx692_0)).trans hx692_0
                replace p692 := eq_true p692
                replace q692 := eq_true q692
                go_wp2_with (first | ((with_reducible refine gate_callee (f := 85) rfl ?_); refine goesL_ (some 15) rfl rfl Try.func85 (by kernel_rfl) rfl #[.int .i64 (rd l0 x4_1)] rfl (by (try simp only [List.map_toArray, List.map_cons, List.map_nil]); first | done | rfl | (simp only [List.length_drop, List.length_take]; rfl)) ?_; (with_reducible refine (spec_l1Size.calls (rd l0 x4_1) t693 _ A4.out).mono ?_); rintro e w' ⟨rfl, ⟨nd, rfl⟩⟩; refine ⟨_, rfl, ?_⟩; have p694 : 0 ≤ (x4_1 : Int) := of_decide_eq_true (by first | (with_reducible assumption) | assumption); have q694 : x4_1 < (l0.length : Int) := of_decide_eq_true (by first | (with_reducible assumption) | assumption); obtain ⟨ad694, e694, hx694_0⟩ := Kd.at_int HR0.out x4_1 p694 q694; obtain rfl : ad692 = ad694 := (by injection e694); replace hx694_0 := (HB.out.cell (World.block_lt_of_cell? w _ hx694_0)).trans hx694_0; replace p694 := eq_true p694; replace q694 := eq_true q694) | ((with_reducible refine gate_callee (f := 103) rfl ?_); refine goesL_ (some 26) rfl rfl Try.func103 (by kernel_rfl) rfl #[.int .i64 (rd l0 x4_1)] rfl (by (try simp only [List.map_toArray, List.map_cons, List.map_nil]); first | done | rfl | (simp only [List.length_drop, List.length_take]; rfl)) ?_; (with_reducible refine (spec_l1Put.calls (rd l0 x4_1) t695 _ A7.out).mono ?_); rintro e w9 ⟨rfl, hb⟩; refine ⟨_, rfl, ?_⟩; have n0_ := Aside0.mk (below_step (by repeat (first | (with_reducible first | exact HB.out | apply below_alloc | apply pw_below_drewN | apply below_drew1) | exact HB.out)) hb); clear HB; have HB := n0_; clear n0_; (try clear hb); (try clear hb2); (try clear hk); (try clear hi)))
                go_roundg k1
                case measure => have := HK1.out; omega
                case rel => exact ⟨(x3_1 ++ t695), (wrap64 (x4_1 + 1)), (by first | rfl | (simp; done) | (simp [*]; done)), (by first | rfl | (simp; done) | (simp [*]; done)), H', ⟨by have := HK1.out; omega⟩, ⟨by repeat (first | (with_reducible first | exact HB.out | apply below_alloc | apply pw_below_drewN | apply below_drew1) | exact HB.out)⟩⟩
              · rw [if_neg c8] at H
                exact absurd H (by simp)
        · rw [if_neg c3] at H
          exact absurd H (by simp)
      · rw [if_neg c2] at H
        have c2b0 : decide (x4_1 < (l0.length : Int)) = false := decide_eq_false c2
        clear c2
        obtain rfl := Option.some.inj H
        go_wp2
        go_ret
        exact ⟨by first | rfl | (simp [errW_none, errW_some] <;> rfl) | (simp [*, errW_none, errW_some] <;> rfl), by repeat (first | (with_reducible first | exact HB.out | apply below_alloc | apply pw_below_drewN | apply below_drew1) | exact HB.out)⟩

end Go.Proofs.Ytoafenblaioopaa.S

namespace Go.Proofs.Ytoafenblaioopaa.S
open Go.RowKit Go.Proofs.YtoafenblaioopaaW.PrintWords Go.Proofs.YtoafenblaioopaaW.PrintLast Go.Proofs.YtoafenblaioopaaW.PrintMore
attribute [local go_sem] max2_int min2_int max_two min_two max_three min_three max_four min_four   -- for this text's walks alone
set_option linter.unusedVariables false
set_option linter.unusedSimpArgs false

/-! ### laws_wcOk: function 43: wcok.tpl -/
def laws_wcOk.f (k : Nat) (l0 : List Int) : Option Bool := if (l0.length : Int) = 0 then some true else (spec_Utf8Put.f k l0).bind fun t => some (!t.toList.isEmpty)
theorem laws_wcOk.mono : ∀ a0 k, LeO (laws_wcOk.f k a0) (laws_wcOk.f (k + 1) a0) := by
  intro a0 k
  unfold laws_wcOk.f
  exact LeO.ite (LeO.refl _) (LeO.bind (spec_Utf8Put.mono _ _) (fun _ => LeO.refl _))
set_option maxHeartbeats 8000000 in
set_option maxRecDepth 100000 in
theorem laws_wcOk.calls (k : Nat) (A0 : Option Addr) (c0 : Nat) (l0 : List Int) (r : Bool) (w : World) (hr0 : Kd.C (Kd.int .i64) w A0 l0.length l0) (hc0 : l0.length ≤ c0) (h : laws_wcOk.f k l0 = some r) :
    Calls Try.prog 43 #[.slice A0 l0.length c0] w fun e w' => e = .returned (.bool r) ∧ Below w.heap.size w w' := by
  have HR := Aside0.mk hr0
  have HC := Aside0.mk hc0
  clear hr0 hc0
  unfold laws_wcOk.f at h
  by_cases h0 : (l0.length : Int) = 0
  · rw [if_pos h0] at h
    obtain rfl := Option.some.inj h
    clear h
    have c0 : ((l0.length : Int) == 0) = true := beq_iff_eq.mpr h0
    clear h0
    go_enter Try.func43, Try.ntmps43
    go_wp2
    go_ret
    exact ⟨rfl, Below.refl _ _⟩
  · rw [if_neg h0] at h
    obtain ⟨t, ht, h⟩ := Option.bind_eq_some_iff.mp h
    obtain rfl := Option.some.inj h
    have HT := Aside0.mk ht
    have c0 : ((l0.length : Int) == 0) = false := beq_eq_false_iff_ne.mpr h0
    clear h h0 ht
    go_enter Try.func43, Try.ntmps43
    go_wp2_with (go_at_call 75; refine (spec_Utf8Put.calls k _ _ l0 t _ HR.out HC.out HT.out).mono ?_; rintro e w1 ⟨rfl, hb1⟩)
    go_ret
    exact ⟨by first | rfl | simp, hb1⟩


end Go.Proofs.Ytoafenblaioopaa.S

/- The laws' helpers: equal rows; letters that make a text. -/
namespace Go.Proofs.Ytoafenblaioopaa.Pure
open Go.RowKit Go.Proofs.Ytoafenblaioopaa.S Go.Proofs.YtoafenblaioopaaW.PrintWords Go.Proofs.YtoafenblaioopaaW.PrintLast
theorem wcInts_l (a : List Int) (hn : a.length ≤ 1099511627776) : ∀ (d k i : Nat), a.length - i = d → i ≤ a.length → d < k → laws_wcInts.l0 k a a (i : Int) = some true
  | 0, k, i, hd, hi, hk => by
    obtain ⟨k, rfl⟩ : ∃ m, k = m + 1 := ⟨k - 1, by omega⟩
    rw [laws_wcInts.l0, if_neg (by omega)]
  | d + 1, k, i, hd, hi, hk => by
    obtain ⟨k, rfl⟩ : ∃ m, k = m + 1 := ⟨k - 1, by omega⟩
    have := wcInts_l a hn d k (i + 1) (by omega) (by omega) (by omega)
    rw [laws_wcInts.l0, if_pos (by omega), if_pos (by omega), if_pos (by omega), if_pos rfl, w64 (by omega) (by omega)]
    exact this
theorem wcInts_p {a : List Int} {k : Nat} (hn : a.length ≤ 1099511627776) (hk : a.length < k) : laws_wcInts.f k a a = some true := by
  unfold laws_wcInts.f
  rw [if_pos rfl]
  exact wcInts_l a hn a.length k 0 (by omega) (by omega) hk
theorem nums_size (l : List Int) : (strOfNums l).size = l.length := by
  simp [strOfNums, ByteArray.size]
theorem nil_list : (⟨#[]⟩ : ByteArray).toList = [] := by
  unfold ByteArray.toList
  rw [ByteArray.toList.loop]
  rfl
theorem put_p (a : Int) : ∃ b, spec_l1Put.f a = some b ∧ b.size ≤ 4 := by
  unfold spec_l1Put.f
  rw [size_f, Option.bind_some]
  by_cases h1 : sizeV a = 1
  · rw [if_pos h1]; exact ⟨_, rfl, by rw [nums_size]; simp⟩
  rw [if_neg h1]
  by_cases h2 : sizeV a = 2
  · rw [if_pos h2]; exact ⟨_, rfl, by rw [nums_size]; simp⟩
  rw [if_neg h2]
  by_cases h3 : sizeV a = 3
  · rw [if_pos h3]; exact ⟨_, rfl, by rw [nums_size]; simp⟩
  rw [if_neg h3]
  by_cases h4 : sizeV a = 4
  · rw [if_pos h4]; exact ⟨_, rfl, by rw [nums_size]; simp⟩
  rw [if_neg h4]
  exact ⟨_, rfl, by simp [ByteArray.size]⟩
theorem utf_l (l : List Int) (hn : l.length ≤ 1000000) : ∀ (d k i : Nat) (x : ByteArray), l.length - i = d → i ≤ l.length → i ≤ 80 → d < k → x.size ≤ 4 * i →
    ∃ r, spec_Utf8Put.l0 k l x (i : Int) = some r ∧ (r.toList.isEmpty = false → (∀ y ∈ l.drop i, isLetV y = true) ∧ l.length ≤ 80)
  | 0, k, i, x, hd, hi, hi', hk, hx => by
    obtain ⟨k, rfl⟩ : ∃ m, k = m + 1 := ⟨k - 1, by omega⟩
    have e : i = l.length := by omega
    rw [spec_Utf8Put.l0, if_neg (by omega)]
    exact ⟨_, rfl, fun _ => ⟨by rw [e, List.drop_length]; simp, by omega⟩⟩
  | d + 1, k, i, x, hd, hi, hi', hk, hx => by
    obtain ⟨k, rfl⟩ : ∃ m, k = m + 1 := ⟨k - 1, by omega⟩
    have hlt : i < l.length := by omega
    rw [spec_Utf8Put.l0, if_pos (by omega), if_pos (by omega), rd_get hlt, size_f, Option.bind_some]
    have hz := size_let l[i]
    by_cases h0 : sizeV l[i] = 0
    · rw [if_pos h0]
      exact ⟨_, rfl, fun h => absurd h (by rw [nil_list]; decide)⟩
    · rw [if_neg h0]
      by_cases h8 : (i : Int) ≥ 80
      · rw [if_pos h8]
        exact ⟨_, rfl, fun h => absurd h (by rw [nil_list]; decide)⟩
      · obtain ⟨b, hb, hbs⟩ := put_p l[i]
        rw [if_neg h8, hb, Option.bind_some, if_pos (by omega), w64 (by omega) (by omega)]
        obtain ⟨r, hr, hrr⟩ := utf_l l hn d k (i + 1) (x ++ b) (by omega) (by omega) (by omega) (by omega) (by rw [ByteArray.size_append]; omega)
        refine ⟨r, hr, fun h => ?_⟩
        obtain ⟨h1, h2⟩ := hrr h
        refine ⟨?_, h2⟩
        rw [List.drop_eq_getElem_cons hlt]
        intro y hy
        rcases List.mem_cons.1 hy with hy | hy
        · rw [hy]
          cases e : isLetV l[i]
          · exact absurd (hz.2 e) h0
          · rfl
        · exact h1 y hy
theorem wcOk_p {l : List Int} {k : Nat} (hn : l.length ≤ 1000000) (hk : l.length < k) : ∃ b, laws_wcOk.f k l = some b ∧ (b = true → okV l = true) := by
  unfold laws_wcOk.f
  by_cases h0 : (l.length : Int) = 0
  · rw [if_pos h0]
    refine ⟨true, rfl, fun _ => ?_⟩
    have : l = [] := List.eq_nil_of_length_eq_zero (by omega)
    subst this; rfl
  · rw [if_neg h0]
    unfold spec_Utf8Put.f
    obtain ⟨r, hr, hrr⟩ := utf_l l hn l.length k 0 ⟨#[]⟩ (by omega) (by omega) (by omega) (by omega) (by simp [ByteArray.size])
    rw [show ((0 : Nat) : Int) = 0 from rfl] at hr
    rw [hr, Option.bind_some]
    refine ⟨_, rfl, fun h => ?_⟩
    obtain ⟨h1, h2⟩ := hrr (by simpa using h)
    rw [List.drop_zero] at h1
    unfold okV
    simp only [Bool.and_eq_true, List.all_eq_true, decide_eq_true_eq]
    exact ⟨h2, h1⟩
end Go.Proofs.Ytoafenblaioopaa.Pure

/- From each place that WordStarts names up to the next goes the word that WordAt tells of every letter between, for every text that the reference draws. No condition beyond the statement's own. -/
namespace Go.Proofs.Ytoafenblaioopaa.Pure
open Go.RowKit Go.Proofs.Ytoafenblaioopaa.S Go.Proofs.YtoafenblaioopaaW.PrintWords Go.Proofs.YtoafenblaioopaaW.PrintLast
theorem startOf_p {l : List Int} {i k : Nat} (hok : okV l = true) (hi : i < l.length) (hj : joinV l i = false) (hk : 100 ≤ k) : impl_startOf.f k l (i : Int) = some (i : Int) := by
  obtain ⟨k, rfl⟩ : ∃ m, k = m + 1 := ⟨k - 1, by omega⟩
  have hl := ok_len hok
  unfold impl_startOf.f
  rw [joined_p (by omega) (by omega), Option.bind_some, impl_startOf.l0, if_pos (by omega), if_pos (by rw [joinedV_len]; omega), joinedV_at hi, hj, if_neg (by simp)]
theorem clusterAt_p {l : List Int} {i k : Nat} (hok : okV l = true) (hi : i < l.length) (hj : joinV l i = false) (hk : 100 ≤ k) : impl_ClusterAt.f k l (i : Int) = some (i : Int) := by
  unfold impl_ClusterAt.f impl_lettersOk.f
  rw [hok, Option.bind_some, if_pos rfl, if_neg (by omega), if_neg (by omega), startOf_p hok hi hj hk, Option.bind_some]
theorem ints_len (s : List Nat) : (ints s).length = s.length := by simp [ints]
theorem rd_ints {s : List Nat} {i : Nat} (h : i < s.length) : rd (ints s) (i : Int) = (s[i] : Int) := by simp [ints, rd, List.getD_eq_getElem?_getD, h]
theorem wsIn_l {t : List Int} (hok : okV t = true) {S : List Int} {j u v : Nat} (hS : rd S (j : Int) = (u : Int)) (hj : j < S.length) (hw : WA t u u v) {K : Nat} : ∀ (d k i : Nat), v - i = d → u ≤ i → i ≤ v → d + K + 300 < k →
    ∃ k', K < k' ∧ laws_FnWordStarts.l1 k t S (j : Int) (v : Int) (i : Int) = laws_FnWordStarts.l0 k' t S (wrap64 ((j : Int) + 1))
  | 0, k, i, hd, hu, hi, hk => by
    obtain ⟨k, rfl⟩ : ∃ m, k = m + 1 := ⟨k - 1, by omega⟩
    refine ⟨k, by omega, ?_⟩
    rw [laws_FnWordStarts.l1, if_neg (by omega)]
  | d + 1, k, i, hd, hu, hi, hk => by
    obtain ⟨k, rfl⟩ : ∃ m, k = m + 1 := ⟨k - 1, by omega⟩
    obtain ⟨k', h1, h2⟩ := wsIn_l hok hS hj hw (K := K) d k (i + 1) (by omega) (by omega) (by omega) (by omega)
    have hl := ok_len hok
    have hv := hw.2.2.1
    refine ⟨k', h1, ?_⟩
    rw [laws_FnWordStarts.l1, if_pos (by omega), implWordAt_in hok (WA_move hw hu (by omega)) (by omega), Option.bind_some, if_pos (by omega), if_pos (by omega), if_pos (by simp only; rw [hS]), if_pos rfl, w64 (by omega) (by omega)]
    exact h2
set_option maxRecDepth 100000 in
theorem wsOut_l {t : List Int} (hok : okV t = true) (hn : t.length ≠ 0) : ∀ (d k u : Nat), t.length - u = d → u ≤ t.length → (u = t.length ∨ begV t u = true) → 500 * d + 1000 < k →
    laws_FnWordStarts.l0 k t (ints (begList t t.length)) ((begList t u).length : Int) = some true
  | 0, k, u, hd, hu, hb, hk => by
    obtain ⟨k, rfl⟩ : ∃ m, k = m + 1 := ⟨k - 1, by omega⟩
    have e : u = t.length := by omega
    subst e
    obtain ⟨w, w1, w2, w3⟩ := back_ex t (t.length - 1)
    have hl := ok_len hok
    have e : begList t t.length = begList t w ++ [w] := by
      have := begList_skip t (w + 1) (t.length - (w + 1)) (fun j h1 h2 => w3 j (by omega) (by omega))
      rw [show w + 1 + (t.length - (w + 1)) = t.length by omega] at this
      rw [this, begList_succ, w2, if_pos rfl]
    have hlen : (begList t t.length).length = (begList t w).length + 1 := by rw [e]; simp
    have hbw := begList_len t w
    have hlast : rd (ints (begList t t.length)) (((begList t w).length : Nat) : Int) = (w : Int) := by rw [e]; simp [ints, rd, List.getD_eq_getElem?_getD]
    have h0 : rd (ints (begList t t.length)) 0 = 0 := by
      obtain ⟨R, hR⟩ := begList_more t 1 (t.length - 1)
      rw [show 1 + (t.length - 1) = t.length by omega] at hR
      have e1 : begList t 1 = [0] := by simp [begList, begV_zero, List.range_succ]
      rw [hR, e1]; simp [ints, rd]
    have hj : joinV t w = false := by
      cases hj : joinV t w
      · rfl
      · rw [begV, hj] at w2; simp at w2
    rw [laws_FnWordStarts.l0, ints_len, if_neg (by omega), if_pos (by omega), h0, if_pos rfl, w64 (by omega) (by omega), if_pos (by omega), if_pos (by omega), hlen, show ((((begList t w).length + 1 : Nat) : Int) - 1) = (((begList t w).length : Nat) : Int) by omega, hlast,
      clusterAt_p hok (by omega) hj (by omega), Option.bind_some]
    simp
  | d + 1, k, u, hd, hu, hb, hk => by
    obtain ⟨k, rfl⟩ : ∃ m, k = m + 2 := ⟨k - 2, by omega⟩
    have hbu : begV t u = true := by rcases hb with hb | hb; omega; exact hb
    have hl := ok_len hok
    obtain ⟨u', v, hw⟩ := WA_ex (l := t) (a := u) (by omega)
    have eu : u' = u := by
      by_cases h : u' = u
      · exact h
      · have := hw.2.2.2.2.1 u (by have := hw.1; omega) hw.2.1
        rw [hbu] at this; exact absurd this (by simp)
    subst eu
    have hw' := hw
    obtain ⟨w1, w2, w3, w4, w5, w6⟩ := hw'
    have ev : begList t v = begList t u' ++ [u'] := by
      have := begList_skip t (u' + 1) (v - (u' + 1)) (fun j h7 h8 => w5 j (by omega) (by omega))
      rw [show u' + 1 + (v - (u' + 1)) = v by omega] at this
      rw [this, begList_succ, w4, if_pos rfl]
    have evl : (begList t v).length = (begList t u').length + 1 := by rw [ev]; simp
    have hbl := begList_len t u'
    have ih := fun k' h => wsOut_l hok hn (t.length - v) k' v rfl w3 w6 h
    obtain ⟨R, hR⟩ := begList_more t v (t.length - v)
    rw [show v + (t.length - v) = t.length by omega] at hR
    have hlen : (begList t t.length).length = (begList t u').length + 1 + R.length := by rw [hR, ev]; simp; omega
    have hS : rd (ints (begList t t.length)) ((begList t u').length : Int) = (u' : Int) := by rw [hR, ev]; simp [ints, rd, List.getD_eq_getElem?_getD]
    have hj2 : laws_FnWordStarts.j2 (k + 1) t (ints (begList t t.length)) ((begList t u').length : Int) (v : Int) = some true := by
      have hf : v - u' + (500 * (t.length - v) + 1000) + 300 < k := by
        have e1 : t.length - v + (v - u') = d + 1 := by omega
        have e2 : 1 ≤ v - u' := by omega
        have e3 : 500 * (d + 1) = 500 * (t.length - v) + 500 * (v - u') := by rw [← e1, Nat.mul_add]
        have e4 : v - u' + 499 ≤ 500 * (v - u') := by
          obtain ⟨y, hy⟩ : ∃ y, v - u' = y + 1 := ⟨v - u' - 1, by omega⟩
          rw [hy, Nat.mul_add]
          have := Nat.le_mul_of_pos_left y (show 0 < 500 by decide)
          generalize 500 * y = z at *
          omega
        rw [e3] at hk
        generalize 500 * (t.length - v) = A at *
        generalize 500 * (v - u') = X at *
        generalize v - u' = x at *
        omega
      obtain ⟨k', h1, h2⟩ := wsIn_l hok hS (by rw [ints_len]; omega) (WA_move hw (Nat.le_refl _) (by omega)) (K := 500 * (t.length - v) + 1000) (v - u') k u' rfl (Nat.le_refl _) (by omega) hf
      rw [laws_FnWordStarts.j2, if_pos (by omega), if_pos (by rw [ints_len]; omega), hS, h2, w64 (by omega) (by omega)]
      have := ih k' h1
      rw [evl] at this
      exact this
    rw [laws_FnWordStarts.l0, ints_len, if_pos (by omega), w64 (by omega) (by omega)]
    by_cases hv : v = t.length
    · have hR0 : R.length = 0 := by
        have := congrArg List.length hR
        rw [hv, List.length_append] at this; omega
      rw [if_neg (by omega)]
      rw [hv] at hj2
      exact hj2
    · have hbv : begV t v = true := by rcases w6 with h | h; exact absurd h hv; exact h
      obtain ⟨R', hR'⟩ := begList_more t (v + 1) (t.length - (v + 1))
      rw [show v + 1 + (t.length - (v + 1)) = t.length by omega, begList_succ, hbv, if_pos rfl] at hR'
      have hnext : rd (ints (begList t t.length)) ((begList t u').length + 1 : Int) = (v : Int) := by
        rw [hR', ev]
        have := rd_ints (s := begList t u' ++ [u'] ++ [v] ++ R') (i := (begList t u').length + 1) (by simp)
        rw [show (((begList t u').length + 1 : Nat) : Int) = ((begList t u').length : Int) + 1 by omega] at this
        rw [this]; simp
      have hlen' : (begList t t.length).length = (begList t u').length + 2 + R'.length := by rw [hR', ev]; simp; omega
      rw [if_pos (by omega), if_pos (by omega), hnext]
      exact hj2
theorem FnWordStarts : laws_FnWordStarts.Pure := by
  intro l _ _ hl
  refine ⟨300001, ?_⟩
  unfold laws_FnWordStarts.f
  by_cases h : (l.length : Int) > 1048576
  · rw [if_pos h]
  · obtain ⟨t, ht, htl⟩ := drawWords_k hl (k := 300001) (by omega)
    have hwl : (wordStartsV t).length ≤ 80 := by
      unfold wordStartsV
      by_cases hok : okV t = true
      · have h1 := ok_len hok
        have h2 := begList_len t t.length
        rw [if_pos hok, ints_len]; omega
      · rw [if_neg hok]; simp
    rw [if_neg h, ht, Option.bind_some, implWordStarts_p (by omega), Option.bind_some, specWordStarts_p (by omega) (by omega), Option.bind_some, wcInts_p (by omega) (by omega), Option.bind_some, if_pos rfl, laws_FnWordStarts.j0]
    by_cases h0 : (wordStartsV t).length = 0
    · rw [if_pos (by simp [h0]), specWordStarts_p (by omega) (by omega), Option.bind_some, wcInts_p (by omega) (by omega), Option.bind_some]
    · rw [if_neg (by simpa using h0)]
      unfold wordStartsV at h0 ⊢
      by_cases hok : okV t = true
      · have h1 := ok_len hok
        rw [if_pos hok, ints_len] at h0
        rw [if_pos hok]
        have h2 := begList_len t t.length
        exact wsOut_l hok (by omega) t.length _ 0 (by omega) (by omega) (.inr (begV_zero t)) (by omega)
      · rw [if_neg hok] at h0; simp at h0
end Go.Proofs.Ytoafenblaioopaa.Pure
