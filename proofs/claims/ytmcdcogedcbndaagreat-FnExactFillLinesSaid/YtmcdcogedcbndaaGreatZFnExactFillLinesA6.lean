/- The program's FillLines answers as the reference's, for every list of letters, of spans, every width and every way; it writes into no argument, and its answer is memory of its own. No condition beyond the statement's own. (text 7 of 7 of this claim: functions of the program and of the reference as plain Lean functions, what a call of each comes to, and what follows.) -/
import Derived.Test.YtmcdcogedcbndaaGreatRows
import Derived.Test.YtmcdcogedcbndaaGreatZFnExactFillLinesA4
import Derived.Test.YtmcdcogedcbndaaGreatZFnExactFillLinesA5
import Derived.WalkKit
import Derived.ProofKit
import Derived.OpenShut
import Derived.ShutString
import Derived.ChangeOld
import Derived.Below
import Derived.SizedLaws
import Derived.Deep.Slices
import Derived.ChangeSame
set_option maxHeartbeats 16000000
set_option maxRecDepth 100000
set_option linter.unusedVariables false
set_option linter.unusedSimpArgs false
namespace Go.Proofs.YtmcdcogedcbndaaGreat.fnExactFillLines
open Go.ChangeShapes Go.WideShapes Go.ChangeAt Go.RowKit Go.Proofs.YtmcdcogedcbndaaGreat.S Go.Proofs.YtmcdcogedcbndaaGreatW.PrintWords Go.Proofs.YtmcdcogedcbndaaGreatW.PrintLast
open Go.ChangeMaps (open_string shut_string)
set_option linter.unusedVariables false
theorem own : ownKnob Tryz.prog.godebug = none := by kernel_rfl
theorem laidOut : laidOutB Tryz.prog = true := by kernel_rfl
theorem cellsI : Tryz.prog.cellsOf 3 = 1 := by kernel_rfl
theorem readsS {H : Type} {enc : TypeId × Value → H} {P : Program} {W : World} {t e : TypeId} {fuel len cap : Nat} {A : Option Addr} {x : DataW H × List MemPlace} {α : Type} (z : α) (k : Kd α) (ht : P.underlying t = some (.slice e)) (hsz : P.cellsOf e = k.sz)
  (hel : ∀ n cs y, DataW.trod enc P W 0 (fun _ => true) true n e cs = some y → ∃ p, k.K W p cs)
  (h : DataW.trod enc P W 0 (fun _ => true) true fuel t [.slice A len cap] = some x) : len ≤ cap ∧ cap ≤ maxLen ∧ ∃ zs : List α, zs.length = len ∧ k.C W A len zs := by
 rcases Go.Deep.open_slice ht h with ⟨hcs, _⟩ | ⟨a, l, c, m, n, D, Pl, hcs, _, hl, hm, hmm, _, hx⟩
 ·
  cases hcs
  exact ⟨Nat.le_refl _, by decide, [], rfl, rfl, by omega, fun h => absurd h (by omega)⟩
 ·
  cases hcs
  have each : ∀ i, i < len → ∃ q : α × List Value, q.2.length = k.sz ∧ k.K W q.1 q.2 ∧ ∀ j u, q.2[j]? = some u → W.cell? (a.add (i * k.sz + j)) = some u := by
   intro i hi
   obtain ⟨cs', h1, h2⟩ := hx i (by rw [hmm]; simp; omega)
   obtain ⟨p, hp⟩ := hel _ _ _ h2
   rw [hsz] at h1
   obtain ⟨_, hlen, hcell⟩ := World.cells?_some h1
   refine ⟨(p, cs'), hlen, hp, fun j u hu => ?_⟩
   have hj : j < k.sz := by rw [← hlen]; exact (List.getElem?_eq_some_iff.1 hu).1
   have := hcell j hj
   rw [add_add] at this
   rw [this]; exact hu
  haveI : Inhabited (α × List Value) := ⟨(z, [])⟩
  obtain ⟨q, hq⟩ := Go.Deep.choose_lt each
  refine ⟨hl, hm, (List.range len).map fun i => (q i).1, by simp, by simp, by unfold maxLen at hm; omega, fun _ => ⟨a, rfl, fun j p hj => ?_⟩⟩
  obtain ⟨hj1, hj2⟩ := List.getElem?_eq_some_iff.1 hj
  simp at hj1 hj2
  obtain ⟨h1, h2, h3⟩ := hq j hj1
  exact ⟨(q j).2, h1, by rw [← hj2]; exact h2, h3⟩
theorem list4 {α : Type} {l : List α} (h : l.length = 4) : ∃ a0 a1 a2 a3, l = [a0, a1, a2, a3] := match l, h with | [a0, a1, a2, a3], _ => ⟨a0, a1, a2, a3, rfl⟩
theorem cellsE0 : Tryz.prog.cellsOf 52 = 4 := by kernel_rfl
theorem elem0 {H : Type} {enc : TypeId × Value → H} {W : World} (n : Nat) (cs : List Value) (y : DataW H × List MemPlace) (h : DataW.trod enc Tryz.prog W 0 (fun _ => true) true n 52 cs = some y) : ∃ p, k52.K W p cs := by
 obtain ⟨xs, m, _, _, hl, hxl, hf⟩ := DataW.trod_struct Tryz.underlying52 h
 rw [cellsE0] at hl
 obtain ⟨c0, c1, c2, c3, rfl⟩ := list4 hl
 obtain ⟨y0, y1, y2, y3, rfl⟩ := list4 (show xs.length = 4 from hxl)
 have g0 := hf 0 _ rfl
 change DataW.trod enc Tryz.prog W 0 (fun _ => true) true m 3 (List.take (Tryz.prog.cellsOf 3) [c0, c1, c2, c3]) = some y0 at g0
 rw [cellsI] at g0
 obtain ⟨a0, e0, _, _⟩ := DataW.trod_int Tryz.underlying3 g0
 obtain rfl : c0 = .int .i64 a0 := by injection e0
 have g1 := hf 1 _ rfl
 change DataW.trod enc Tryz.prog W 0 (fun _ => true) true m 3 (List.take (Tryz.prog.cellsOf 3) [c1, c2, c3]) = some y1 at g1
 rw [cellsI] at g1
 obtain ⟨a1, e1, _, _⟩ := DataW.trod_int Tryz.underlying3 g1
 obtain rfl : c1 = .int .i64 a1 := by injection e1
 have g2 := hf 2 _ rfl
 change DataW.trod enc Tryz.prog W 0 (fun _ => true) true m 3 (List.take (Tryz.prog.cellsOf 3) [c2, c3]) = some y2 at g2
 rw [cellsI] at g2
 obtain ⟨a2, e2, _, _⟩ := DataW.trod_int Tryz.underlying3 g2
 obtain rfl : c2 = .int .i64 a2 := by injection e2
 have g3 := hf 3 _ rfl
 change DataW.trod enc Tryz.prog W 0 (fun _ => true) true m 3 (List.take (Tryz.prog.cellsOf 3) [c3]) = some y3 at g3
 rw [cellsI] at g3
 obtain ⟨a3, e3, _, _⟩ := DataW.trod_int Tryz.underlying3 g3
 obtain rfl : c3 = .int .i64 a3 := by injection e3
 exact ⟨⟨a0, a1, a2, a3⟩, k52_mk W ⟨a0, a1, a2, a3⟩⟩
def IsRow (k : IntKind) (w : World) (a : Option Addr) (len cap : Nat) (zs : List Int) : Prop :=
 (a = none ∧ len = 0 ∧ cap = 0 ∧ zs = []) ∨
 ∃ x, a = some x ∧ len ≤ cap ∧ cap ≤ maxLen ∧ zs.length = cap ∧ (∀ i, i < zs.length → w.cell? (x.add i) = some (.int k (zs.getD i 0))) ∧ ∀ n ∈ zs, (Lit.int k n).wf = true
theorem lifted (os : Os) (started : os.Started) (H : Type) (enc : TypeId × Value → H) :
  ReturnsInHanded {} Tryz.checked os 3 .any (Rows.fnExactFillLinesSpec.pre6 enc Tryz.prog Tryz.f3 Rows.fnExactFillLinesRow.domain false) (Rows.fnExactFillLinesSpec.post enc Tryz.prog Tryz.f3 false true false false) := by
 refine returnsInHanded_of_change_sized (C := Tryz.checked) own started (by kernel_rfl) Tryz.func3
  (ChangeSpec.witness6 (enc := enc) (C := Tryz.checked) false ⟨#[], #[.slice none 0 0, .slice none 0 0, .int .i64 0, .int .i64 0], []⟩ 8 (by kernel_rfl) (by kernel_rfl) (by kernel_rfl) (by kernel_rfl)) ?_
 intro W base args ds gs before hval0 hW hcnd hsz0 _
 have hval : ∀ (j : Nat) t v, Tryz.f3.params[j]? = some t → args[j]? = some v → Value.okWide Tryz.prog W .any base t v := hval0
 have hW' := hW
 obtain ⟨p, q, hA0, hV, rfl, hfz, hnd⟩ := hW
 have hA : DataW.TrodAll enc Tryz.prog W 0 (fun _ => true) true Tryz.f3.params.toList args.toList ds p := hA0
 rw [Tryz.params3] at hA hval
 obtain ⟨v0, vs0, d0, ds0, p0, q0, hargs, rfl, rfl, h0, r0⟩ := trodAll_cons hA
 obtain ⟨v1, vs1, d1, ds1, p1, q1, rfl, rfl, rfl, h1, r1⟩ := trodAll_cons r0
 obtain ⟨v2, vs2, d2, ds2, p2, q2, rfl, rfl, rfl, h2, r2⟩ := trodAll_cons r1
 obtain ⟨v3, vs3, d3, ds3, p3, q3, rfl, rfl, rfl, h3, r3⟩ := trodAll_cons r2
 obtain ⟨rfl, rfl, rfl⟩ := trodAll_nil r3
 obtain rfl : args = #[v0, v1, v2, v3] := by cases args; simp_all
 obtain ⟨rfl, rfl⟩ := trodVars_none hV
 obtain ⟨a0, len0, cap0, rfl⟩ := okWide_slice Tryz.underlying22 (hval 0 22 v0 rfl rfl)
 have k0 := h0
 have lt0 : ∀ x ∈ p0, x.block < W.heap.size := by obtain ⟨m, hm⟩ := k0; exact DataW.trod_lt m _ _ _ hm
 obtain ⟨z0, w0⟩ : ∃ zs, IsRow .i64 W a0 len0 cap0 zs := by
  obtain ⟨fuel, hf⟩ := h0
  rcases open_ints Tryz.underlying22 Tryz.underlying3 (by kernel_rfl) hf with ⟨hcs, _⟩ | ⟨x, l, c, zs, hcs, _, hl, hm, hz, _, hcell, hwz⟩
  ·
   simp [Value.cells] at hcs
   obtain ⟨rfl, rfl, rfl⟩ := hcs
   exact ⟨[], .inl ⟨rfl, rfl, rfl, rfl⟩⟩
  ·
   simp [Value.cells] at hcs
   obtain ⟨rfl, rfl, rfl⟩ := hcs
   exact ⟨zs, .inr ⟨_, rfl, hl, hm, by simpa using hz, hcell, hwz⟩⟩
 obtain ⟨l0, rfl, hr0, hm0, hw0, hc0⟩ := ReadsInt.ofRowC w0
 obtain ⟨a1, len1, cap1, rfl⟩ := okWide_slice Tryz.underlying23 (hval 1 23 v1 rfl rfl)
 have k1 := h1
 have lt1 : ∀ x ∈ p1, x.block < W.heap.size := by obtain ⟨m, hm⟩ := k1; exact DataW.trod_lt m _ _ _ hm
 obtain ⟨fuel1, hf1⟩ := h1
 obtain ⟨hc1, hm1, l1, rfl, hr1⟩ := readsS z52 k52 Tryz.underlying23 cellsE0 elem0 (by simpa [Value.cells] using hf1)
 have hm1 := Nat.le_trans hc1 hm1
 obtain ⟨a2, rfl, rfl, rfl, w2⟩ := open_int Tryz.underlying3 (hval 2 3 v2 rfl rfl) h2
 obtain ⟨a3, rfl, rfl, rfl, w3⟩ := open_int Tryz.underlying3 (hval 3 3 v3 rfl rfl) h3
 clear hA0 hval0 hsz0
 obtain ⟨k, h⟩ := Pure.FnExactFillLines_p l0 l1 a2 a3 hm0 hw0 hm1 w2 w3
 refine (S.laws_FnExactFillLines.calls k _ _ l0 _ _ l1 a2 a3 true W (Kd.C_of_reads (d := (0 : Int)) (h1 := fun _ => rfl) hr0) hc0 hr1 hc1 h).mono fun e W' ⟨he, bel⟩ => ?_
 subst he
 exact ⟨_, rfl, _, _, _, [], _, [], hW', trodAll_mk1 (shut_bool Tryz.underlying4 _), (trodAll_cons_mk (Below.trod laidOut (by kernel_rfl) (of_decide_eq_true (by kernel_rfl)) k0 bel lt0) (trodAll_cons_mk (Below.trod laidOut (by kernel_rfl) (of_decide_eq_true (by kernel_rfl)) k1 bel lt1) (trodAll_cons_mk (shut_int Tryz.underlying3 w2) (trodAll_cons_mk (shut_int Tryz.underlying3 w3) trodAll_mk0)))), rfl, bel.frame _, fun h => by cases h⟩
theorem over : Rows.fnExactFillLinesRow.holds Tryz.pinned (OpenSpec.ofChange Rows.fnExactFillLinesSpec) :=
 OpenClaim.holds_of_wide 3 Tryz.f3 rfl rfl rfl rfl rfl rfl rfl ⟨rfl, rfl, rfl, rfl, rfl⟩ rfl rfl rfl rfl rfl (by kernel_rfl) Tryz.func3 (by kernel_rfl)
  (of_decide_eq_true (by kernel_rfl)) (by unfold Func.isWrapper; first | (rw [if_pos (by decide +kernel)]; kernel_rfl) | (rw [if_neg (by decide +kernel)]; exact ⟨rfl, rfl⟩))
  (fun os started H enc _ => lifted os started H enc)
theorem proved : Rows.FnExactFillLinesSaid := over
end Go.Proofs.YtmcdcogedcbndaaGreat.fnExactFillLines
namespace Go.Proofs.YtmcdcogedcbndaaGreat
theorem fnExactFillLines_holds : Rows.FnExactFillLinesSaid := fnExactFillLines.proved
end Go.Proofs.YtmcdcogedcbndaaGreat
