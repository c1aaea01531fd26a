/- The program's LineCaret answers as the reference's, for every line and every place; it writes into no argument. No condition beyond the statement's own. (text 3 of 3 of this claim: functions of the program and of the reference as plain Lean functions, what a call of each comes to, and what follows.) -/
import Derived.Test.YtoafenblaioopaaRows
import Derived.Test.YtoafenblaioopaaZFnExactLineCaretA1
import Derived.WalkKit
import Derived.ProofKit
import Derived.OpenShut
import Derived.ShutString
import Derived.ChangeOld
import Derived.Below
import Derived.SizedLaws
import Derived.Deep.Slices
import Derived.ChangeSame
namespace Go.Proofs.Ytoafenblaioopaa.fnExactLineCaret
open Go.ChangeShapes Go.WideShapes Go.ChangeAt Go.RowKit Go.Proofs.Ytoafenblaioopaa.S Go.Proofs.YtoafenblaioopaaW.PrintWords Go.Proofs.YtoafenblaioopaaW.PrintLast
open Go.ChangeMaps (open_string shut_string)
set_option linter.unusedVariables false
theorem own : ownKnob Try.prog.godebug = none := by kernel_rfl
theorem laidOut : laidOutB Try.prog = true := by kernel_rfl
theorem cellsI : Try.prog.cellsOf 3 = 1 := by kernel_rfl
theorem readsS {H : Type} {enc : TypeId × Value → H} {P : Program} {W : World} {t e : TypeId} {fuel len cap : Nat} {A : Option Addr} {x : DataW H × List MemPlace} {α : Type} (z : α) (k : Kd α) (ht : P.underlying t = some (.slice e)) (hsz : P.cellsOf e = k.sz)
    (hel : ∀ n cs y, DataW.trod enc P W 0 (fun _ => true) true n e cs = some y → ∃ p, k.K W p cs)
    (h : DataW.trod enc P W 0 (fun _ => true) true fuel t [.slice A len cap] = some x) : len ≤ cap ∧ cap ≤ maxLen ∧ ∃ zs : List α, zs.length = len ∧ k.C W A len zs := by
  rcases Go.Deep.open_slice ht h with ⟨hcs, _⟩ | ⟨a, l, c, m, n, D, Pl, hcs, _, hl, hm, hmm, _, hx⟩
  · cases hcs
    exact ⟨Nat.le_refl _, by decide, [], rfl, rfl, by omega, fun h => absurd h (by omega)⟩
  · cases hcs
    have each : ∀ i, i < len → ∃ q : α × List Value, q.2.length = k.sz ∧ k.K W q.1 q.2 ∧ ∀ j u, q.2[j]? = some u → W.cell? (a.add (i * k.sz + j)) = some u := by
      intro i hi
      obtain ⟨cs', h1, h2⟩ := hx i (by rw [hmm]; simp; omega)
      obtain ⟨p, hp⟩ := hel _ _ _ h2
      rw [hsz] at h1
      obtain ⟨_, hlen, hcell⟩ := World.cells?_some h1
      refine ⟨(p, cs'), hlen, hp, fun j u hu => ?_⟩
      have hj : j < k.sz := by rw [← hlen]; exact (List.getElem?_eq_some_iff.1 hu).1
      have := hcell j hj
      rw [add_add] at this
      rw [this]; exact hu
    haveI : Inhabited (α × List Value) := ⟨(z, [])⟩
    obtain ⟨q, hq⟩ := Go.Deep.choose_lt each
    refine ⟨hl, hm, (List.range len).map fun i => (q i).1, by simp, by simp, by unfold maxLen at hm; omega, fun _ => ⟨a, rfl, fun j p hj => ?_⟩⟩
    obtain ⟨hj1, hj2⟩ := List.getElem?_eq_some_iff.1 hj
    simp at hj1 hj2
    obtain ⟨h1, h2, h3⟩ := hq j hj1
    exact ⟨(q j).2, h1, by rw [← hj2]; exact h2, h3⟩
theorem list4 {α : Type} {l : List α} (h : l.length = 4) : ∃ a0 a1 a2 a3, l = [a0, a1, a2, a3] := match l, h with | [a0, a1, a2, a3], _ => ⟨a0, a1, a2, a3, rfl⟩
theorem list5 {α : Type} {l : List α} (h : l.length = 5) : ∃ a0 a1 a2 a3 a4, l = [a0, a1, a2, a3, a4] := match l, h with | [a0, a1, a2, a3, a4], _ => ⟨a0, a1, a2, a3, a4, rfl⟩
theorem cellsE0 : Try.prog.cellsOf 78 = 5 := by kernel_rfl
set_option maxHeartbeats 4000000 in
set_option maxRecDepth 100000 in
theorem elem0 {H : Type} {enc : TypeId × Value → H} {W : World} (n : Nat) (cs : List Value) (y : DataW H × List MemPlace) (h : DataW.trod enc Try.prog W 0 (fun _ => true) true n 78 cs = some y) : ∃ p, k78.K W p cs := by
  obtain ⟨xs, m, _, _, hl, hxl, hf⟩ := DataW.trod_struct Try.underlying78 h
  rw [cellsE0] at hl
  obtain ⟨c0, c1, c2, c3, c4, rfl⟩ := list5 hl
  obtain ⟨y0, y1, y2, y3, y4, rfl⟩ := list5 (show xs.length = 5 from hxl)
  have g0 := hf 0 _ rfl
  change DataW.trod enc Try.prog W 0 (fun _ => true) true m 3 (List.take (Try.prog.cellsOf 3) [c0, c1, c2, c3, c4]) = some y0 at g0
  rw [cellsI] at g0
  obtain ⟨a0, e0, _, _⟩ := DataW.trod_int Try.underlying3 g0
  obtain rfl : c0 = .int .i64 a0 := by injection e0
  have g1 := hf 1 _ rfl
  change DataW.trod enc Try.prog W 0 (fun _ => true) true m 3 (List.take (Try.prog.cellsOf 3) [c1, c2, c3, c4]) = some y1 at g1
  rw [cellsI] at g1
  obtain ⟨a1, e1, _, _⟩ := DataW.trod_int Try.underlying3 g1
  obtain rfl : c1 = .int .i64 a1 := by injection e1
  have g2 := hf 2 _ rfl
  change DataW.trod enc Try.prog W 0 (fun _ => true) true m 3 (List.take (Try.prog.cellsOf 3) [c2, c3, c4]) = some y2 at g2
  rw [cellsI] at g2
  obtain ⟨a2, e2, _, _⟩ := DataW.trod_int Try.underlying3 g2
  obtain rfl : c2 = .int .i64 a2 := by injection e2
  have g3 := hf 3 _ rfl
  change DataW.trod enc Try.prog W 0 (fun _ => true) true m 3 (List.take (Try.prog.cellsOf 3) [c3, c4]) = some y3 at g3
  rw [cellsI] at g3
  obtain ⟨a3, e3, _, _⟩ := DataW.trod_int Try.underlying3 g3
  obtain rfl : c3 = .int .i64 a3 := by injection e3
  have g4 := hf 4 _ rfl
  change DataW.trod enc Try.prog W 0 (fun _ => true) true m 3 (List.take (Try.prog.cellsOf 3) [c4]) = some y4 at g4
  rw [cellsI] at g4
  obtain ⟨a4, e4, _, _⟩ := DataW.trod_int Try.underlying3 g4
  obtain rfl : c4 = .int .i64 a4 := by injection e4
  exact ⟨⟨a0, a1, a2, a3, a4⟩, k78_mk W ⟨a0, a1, a2, a3, a4⟩⟩
theorem cellsS0 : Try.prog.cellsOf 26 = 4 := by kernel_rfl
set_option maxHeartbeats 4000000 in
set_option maxRecDepth 100000 in
theorem lifted (os : Os) (started : os.Started) (H : Type) (enc : TypeId × Value → H) :
    ReturnsInHanded {} Try.checked os 4 .any (Rows.fnExactLineCaretSpec.pre6 enc Try.prog Try.f4 Rows.fnExactLineCaretRow.domain false) (Rows.fnExactLineCaretSpec.post enc Try.prog Try.f4 false true false false) := by
  refine returnsInHanded_of_change_sized (C := Try.checked) own started (by kernel_rfl) Try.func4
    (ChangeSpec.witness6 (enc := enc) (C := Try.checked) false ⟨#[], #[.agg #[.int .i64 0, .int .i64 0, .int .i64 0, .slice none 0 0], .int .i64 0], []⟩ 8 (by kernel_rfl) (by kernel_rfl) (by kernel_rfl) (by kernel_rfl)) ?_
  intro W base args ds gs before hval0 hW hcnd hsz0 _
  have hval : ∀ (j : Nat) t v, Try.f4.params[j]? = some t → args[j]? = some v → Value.okWide Try.prog W .any base t v := hval0
  have hW' := hW
  obtain ⟨p, q, hA0, hV, rfl, hfz, hnd⟩ := hW
  have hA : DataW.TrodAll enc Try.prog W 0 (fun _ => true) true Try.f4.params.toList args.toList ds p := hA0
  rw [Try.params4] at hA hval
  obtain ⟨v0, vs0, d0, ds0, p0, q0, hargs, rfl, rfl, h0, r0⟩ := trodAll_cons hA
  obtain ⟨v1, vs1, d1, ds1, p1, q1, rfl, rfl, rfl, h1, r1⟩ := trodAll_cons r0
  obtain ⟨rfl, rfl, rfl⟩ := trodAll_nil r1
  obtain rfl : args = #[v0, v1] := by cases args; simp_all
  obtain ⟨rfl, rfl⟩ := trodVars_none hV
  obtain ⟨cs0, rfl, hsz0⟩ := okWide_struct Try.underlying26 (hval 0 26 v0 rfl rfl)
  rw [cellsS0] at hsz0
  have k0 := h0
  have lt0 : ∀ x ∈ p0, x.block < W.heap.size := by obtain ⟨m, hm⟩ := k0; exact DataW.trod_lt m _ _ _ hm
  obtain ⟨cl0⟩ := cs0
  obtain ⟨c0_0, c0_1, c0_2, c0_3, rfl⟩ := list4 (show cl0.length = 4 by simpa using hsz0)
  obtain ⟨fuel0, hf0⟩ := h0
  obtain ⟨xs0, m0, _, hx0, _, hxl0, hg0⟩ := DataW.trod_struct Try.underlying26 hf0
  obtain ⟨y0_0, y0_1, y0_2, y0_3, rfl⟩ := list4 (show xs0.length = 4 from hxl0)
  have g0_0 := hg0 0 _ rfl
  change DataW.trod enc Try.prog W 0 (fun _ => true) true m0 3 (List.take (Try.prog.cellsOf 3) [c0_0, c0_1, c0_2, c0_3]) = some y0_0 at g0_0
  rw [cellsI] at g0_0
  obtain ⟨a0_0, e0_0, _, w0_0⟩ := DataW.trod_int Try.underlying3 g0_0
  obtain rfl : c0_0 = .int .i64 a0_0 := by injection e0_0
  have g0_1 := hg0 1 _ rfl
  change DataW.trod enc Try.prog W 0 (fun _ => true) true m0 3 (List.take (Try.prog.cellsOf 3) [c0_1, c0_2, c0_3]) = some y0_1 at g0_1
  rw [cellsI] at g0_1
  obtain ⟨a0_1, e0_1, _, w0_1⟩ := DataW.trod_int Try.underlying3 g0_1
  obtain rfl : c0_1 = .int .i64 a0_1 := by injection e0_1
  have g0_2 := hg0 2 _ rfl
  change DataW.trod enc Try.prog W 0 (fun _ => true) true m0 3 (List.take (Try.prog.cellsOf 3) [c0_2, c0_3]) = some y0_2 at g0_2
  rw [cellsI] at g0_2
  obtain ⟨a0_2, e0_2, _, w0_2⟩ := DataW.trod_int Try.underlying3 g0_2
  obtain rfl : c0_2 = .int .i64 a0_2 := by injection e0_2
  have cs0_3 : Try.prog.cellsOf 24 = 1 := by kernel_rfl
  have hs0_3 := hg0 3 _ rfl
  change DataW.trod enc Try.prog W 0 (fun _ => true) true m0 24 (List.take (Try.prog.cellsOf 24) [c0_3]) = some y0_3 at hs0_3
  rw [cs0_3] at hs0_3
  change DataW.trod enc Try.prog W 0 (fun _ => true) true m0 24 [c0_3] = some y0_3 at hs0_3
  obtain ⟨A0_3, n0_3, cap0_3, rfl⟩ : ∃ A n c, c0_3 = .slice A n c := by
    rcases Go.Deep.open_slice Try.underlying24 hs0_3 with ⟨h, _⟩ | ⟨x1, x2, x3, _, _, _, _, h, _⟩
    · cases h; exact ⟨_, _, _, rfl⟩
    · cases h; exact ⟨_, _, _, rfl⟩
  obtain ⟨hc0_3, hm0_3, l0_3, rfl, hr0_3⟩ := readsS z78 k78 Try.underlying24 cellsE0 elem0 hs0_3
  have hm0_3 := Nat.le_trans hc0_3 hm0_3
  obtain ⟨a1, rfl, rfl, rfl, w1⟩ := open_int Try.underlying3 (hval 1 3 v1 rfl rfl) h1
  clear hA0 hval0 hsz0
  obtain ⟨k, h⟩ := Pure.FnExactLineCaret_p a0_0 a0_1 a0_2 l0_3 a1 w0_0 w0_1 w0_2 hm0_3 w1
  refine (S.laws_FnExactLineCaret.calls k a0_0 a0_1 a0_2 _ _ l0_3 a1 true W hr0_3 hc0_3 h).mono fun e W' ⟨he, bel⟩ => ?_
  subst he
  exact ⟨_, rfl, _, _, _, [], _, [], hW', trodAll_mk1 (shut_bool Try.underlying4 _), (trodAll_cons_mk (Below.trod laidOut (by kernel_rfl) (of_decide_eq_true (by kernel_rfl)) k0 bel lt0) (trodAll_cons_mk (shut_int Try.underlying3 w1) trodAll_mk0)), rfl, bel.frame _, fun h => by cases h⟩
theorem over : Rows.fnExactLineCaretRow.holds Try.pinned (OpenSpec.ofChange Rows.fnExactLineCaretSpec) :=
  OpenClaim.holds_of_wide 4 Try.f4 rfl rfl rfl rfl rfl rfl rfl ⟨rfl, rfl, rfl, rfl, rfl⟩ rfl rfl rfl rfl rfl (by kernel_rfl) Try.func4 (by kernel_rfl)
    (of_decide_eq_true (by kernel_rfl)) (by unfold Func.isWrapper; first | (rw [if_pos (by decide +kernel)]; kernel_rfl) | (rw [if_neg (by decide +kernel)]; exact ⟨rfl, rfl⟩))
    (fun os started H enc _ => lifted os started H enc)
theorem proved : Rows.FnExactLineCaretSaid := over
end Go.Proofs.Ytoafenblaioopaa.fnExactLineCaret
namespace Go.Proofs.Ytoafenblaioopaa
/-- The row, under a short name, for the claim. -/
theorem fnExactLineCaret_holds : Rows.FnExactLineCaretSaid := fnExactLineCaret.proved
end Go.Proofs.Ytoafenblaioopaa
