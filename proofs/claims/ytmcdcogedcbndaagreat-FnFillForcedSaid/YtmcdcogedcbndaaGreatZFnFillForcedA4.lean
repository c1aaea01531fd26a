/- Of drawn letters, spans, a width and a way: a line that is too wide is one cluster; one that ends within a word ends with a cluster, and the word has no room on it; the lines are the reference's. No condition beyond the statement's own. (text 5 of 7 of this claim: functions of the program and of the reference as plain Lean functions, what a call of each comes to, and what follows.) -/
import Derived.Test.YtmcdcogedcbndaaGreatZFnFillForcedA0
import Derived.Test.YtmcdcogedcbndaaGreatZFnFillForcedA1
import Derived.Test.YtmcdcogedcbndaaGreatZFnFillForcedA3
import Derived.Test.YtmcdcogedcbndaaGreatZFnFillForcedA2
set_option maxHeartbeats 16000000
set_option maxRecDepth 100000
set_option linter.unusedVariables false
set_option linter.unusedSimpArgs false
namespace Go.Proofs.YtmcdcogedcbndaaGreat.S
open Go.RowKit Go.Proofs.YtmcdcogedcbndaaGreatW.PrintWords Go.Proofs.YtmcdcogedcbndaaGreatW.PrintLast
set_option linter.unusedVariables false
set_option linter.unusedSimpArgs false
def downN (bs : List Int) (F : Nat → Nat → Bool) (fr : Nat) : Nat → Option Nat
 | 0 => none
 | g + 1 => if ¬ bs.getD (fr + g) 0 = 0 ∧ F fr (fr + g + 1) = true then some (fr + g + 1) else downN bs F fr g
def backN (F : Nat → Nat → Bool) (fr m : Nat) (all : List Int) : Option Int := all.reverse.find? fun t => decide ((fr : Int) < t) && decide (t ≤ (m : Int)) && F fr t.toNat
def nextI (bs : List Int) (F : Nat → Nat → Bool) (all : List Int) (fr m : Nat) : Option Int :=
 match downN bs F fr (m - fr) with
 | some t => some (t : Int)
 | none => match backN F fr m all with
  | some t => some t
  | none => all.find? fun t => decide ((fr : Int) < t)
theorem results_cell_int {P : Program} {fn : Func} {p : Tmp} (h : fn.results = #[.cell p 3]) (tmps : Array Value) (w : World) (g : Nat) (v : Int) (hp : tmps.getD p undef = .pointer (some ⟨g, 0, none⟩)) (hc : w.cell? ⟨g, 0, none⟩ = some (.int .i64 v)) (hu : P.underlying 3 = some (.int .i64)) : (results fn tmps).run P w = .ok (.int .i64 v) w := by
 have hp' : tmps[p]?.getD undef = .pointer (some ⟨g, 0, none⟩) := by simpa using hp
 have hagg : (isAgg 3).run P w = .ok false w := by simp [isAgg, run_underlying hu]
 simp [results, h, hp', asAddr, go_sem, hu, hc, hagg, Result.andThen]
theorem upto_back (zs : List Int) : ∀ k, k ≤ zs.length → (upto (backF zs zs.length) k).map (fun p => p.2) = zs.reverse.take k
 | 0, _ => rfl
 | k + 1, h => by
  rw [upto_succ, List.map_append, upto_back zs k (by omega), List.take_add_one, List.getElem?_reverse (by omega)]
  simp only [backF, List.map_cons, List.map_nil]
  rw [List.getElem?_eq_getElem (by omega)]
  rfl
theorem back_none {q : Int → Bool} (zs : List Int) (h : ∀ p ∈ upto (backF zs zs.length) zs.length, q p.2 = false) : zs.reverse.find? q = none := by
 rw [List.find?_eq_none]
 intro x hx
 have hm : x ∈ (upto (backF zs zs.length) zs.length).map (fun p => p.2) := by
  rw [upto_back _ _ (Nat.le_refl _), List.take_of_length_le (by simp)]
  exact hx
 obtain ⟨p, hp, rfl⟩ := List.mem_map.1 hm
 rw [h p hp]
 decide
theorem back_some {q : Int → Bool} (zs : List Int) (k : Nat) (hk : k ≤ zs.length) (ini : List (Nat × Int)) (last : Nat × Int) (he : upto (backF zs zs.length) k = ini ++ [last]) (h : ∀ p ∈ ini, q p.2 = false) (hl : q last.2 = true) : zs.reverse.find? q = some last.2 := by
 have e := upto_back zs k hk
 rw [he, List.map_append] at e
 have e2 : zs.reverse = (ini.map (fun p => p.2) ++ [last.2]) ++ zs.reverse.drop k := (List.take_append_drop k zs.reverse).symm.trans (by rw [← e]; rfl)
 rw [e2, List.append_assoc, List.find?_append]
 have e3 : (ini.map (fun p => p.2)).find? q = none := by
  rw [List.find?_eq_none]
  intro x hx
  obtain ⟨p, hp, rfl⟩ := List.mem_map.1 hx
  rw [h p hp]
  decide
 rw [e3]
 simp [hl]
theorem idx_find {q : Int → Bool} {zs : List Int} {t : Int} (h : zs.find? q = some t) : ∃ j : Nat, idxI q zs = j ∧ j < zs.length ∧ zs.getD j 0 = t := by
 obtain ⟨h1, i, hi, h2, h3⟩ := List.find?_eq_some_iff_getElem.mp h
 have hg : ∀ j (hj : j < zs.length), zs.getD j 0 = zs[j] := fun j hj => by simp [List.getD_eq_getElem?_getD, hj]
 refine ⟨i, idxI_hit hi (by rw [hg i hi, h2]; exact h1) (fun j hj => ?_), hi, by rw [hg i hi, h2]⟩
 have := h3 j hj
 rw [hg j (by omega)]
 simpa using this
theorem bodyPostM_ret {F : Fence} {n : Nat} {P : Program} {fn : Func} {R : Ending → World → Prop} {a : Act} {w : World} {v : Value} (hr : (results fn a.tmps).run P w = .ok v w) (hd : a.defers = []) (hR : R (.returned v) w) : bodyPostM F n P fn R .ret a w := by
 show LeavesInM F n P fn a.tmps R a.defers .returning w
 rw [hd]
 exact ⟨v, hr, hR⟩
theorem nextG_1_calls (b : Nat) (fr t : Int) (W : World) (hc : W.cell? ⟨b, 0, none⟩ = some (.int .i64 fr)) : Calls Tryz.prog 165 #[.int .i64 t, .pointer (some ⟨b, 0, none⟩)] W fun e w' => e = .returned (.bool (decide (fr < t))) ∧ Below W.heap.size W w' := by
 go_enter Tryz.func165, Tryz.ntmps165
 go_wp2
 go_ret
 exact ⟨rfl, Below.refl _ _⟩
def GnO (B gb : Nat) (A0 : Option Addr) (c0 : Nat) (rs : List Int) (A1 : Option Addr) (c1 : Nat) (ws : List Int) (A2 : Option Addr) (c2 : Nat) (bs : List Int) (wide : Int) (fr : Nat) (w W : World) : Prop :=
 W.heap[B]? = some (.cells #[.pointer (some ⟨gb, 0, none⟩)] 81 (0, 0)) ∧ W.heap[B + 1]? = some (.cells #[.int .i64 fr] 3 (0, 0)) ∧ W.heap[B + 1 + 1]? = some (.cells #[.int .i64 0] 3 (0, 0)) ∧ FlO 69 gb A0 c0 rs A1 c1 ws A2 c2 bs wide W ∧ Below B w W
theorem GnO.below {B gb : Nat} {A0 : Option Addr} {c0 : Nat} {rs : List Int} {A1 : Option Addr} {c1 : Nat} {ws : List Int} {A2 : Option Addr} {c2 : Nat} {bs : List Int} {wide : Int} {fr : Nat} {w W W' : World} (h : GnO B gb A0 c0 rs A1 c1 ws A2 c2 bs wide fr w W) (hB : B ≤ W.heap.size) (hb : Below W.heap.size W W') : GnO B gb A0 c0 rs A1 c1 ws A2 c2 bs wide fr w W' :=
 ⟨blk_below h.1 hb, blk_below h.2.1 hb, blk_below h.2.2.1 hb, h.2.2.2.1.below hb, below_then h.2.2.2.2 hB hb⟩
def GrO (B gb : Nat) (A0 : Option Addr) (c0 : Nat) (rs : List Int) (A1 : Option Addr) (c1 : Nat) (ws : List Int) (A2 : Option Addr) (c2 : Nat) (bs : List Int) (wide : Int) (fr : Nat) (w wo W : World) : Prop := GnO B gb A0 c0 rs A1 c1 ws A2 c2 bs wide fr w W ∧ Below wo.heap.size wo W ∧ B ≤ W.heap.size
abbrev GrI (B gb : Nat) (A0 : Option Addr) (c0 : Nat) (rs : List Int) (A1 : Option Addr) (c1 : Nat) (ws : List Int) (A2 : Option Addr) (c2 : Nat) (bs : List Int) (wide : Int) (fr : Nat) (w wo W : World) : Prop := W.cell? ⟨B, 0, none⟩ = some (.pointer (some ⟨gb, 0, none⟩)) ∧ W.cell? ⟨gb, 0, none⟩ = some (.slice A0 rs.length c0) ∧ Aside0 (GrO B gb A0 c0 rs A1 c1 ws A2 c2 bs wide fr w wo W)
theorem GrI.of {B gb : Nat} {A0 : Option Addr} {c0 : Nat} {rs : List Int} {A1 : Option Addr} {c1 : Nat} {ws : List Int} {A2 : Option Addr} {c2 : Nat} {bs : List Int} {wide : Int} {fr : Nat} {w wo W : World} (h : GrO B gb A0 c0 rs A1 c1 ws A2 c2 bs wide fr w wo W) : GrI B gb A0 c0 rs A1 c1 ws A2 c2 bs wide fr w wo W := ⟨(blk_cell h.1.1 0).trans rfl, (blk_cell h.1.2.2.2.1.1 0).trans rfl, ⟨h⟩⟩
theorem GrI.via {B gb : Nat} {A0 : Option Addr} {c0 : Nat} {rs : List Int} {A1 : Option Addr} {c1 : Nat} {ws : List Int} {A2 : Option Addr} {c2 : Nat} {bs : List Int} {wide : Int} {fr : Nat} {w wo W W' : World} (h : GrI B gb A0 c0 rs A1 c1 ws A2 c2 bs wide fr w wo W) (hb : Below W.heap.size W W') : GrI B gb A0 c0 rs A1 c1 ws A2 c2 bs wide fr w wo W' := GrI.of ⟨h.2.2.out.1.below h.2.2.out.2.2 hb, below_then h.2.2.out.2.1 h.2.2.out.2.1.size hb, Nat.le_trans h.2.2.out.2.2 hb.size⟩
theorem GrI.drew {B gb : Nat} {A0 : Option Addr} {c0 : Nat} {rs : List Int} {A1 : Option Addr} {c1 : Nat} {ws : List Int} {A2 : Option Addr} {c2 : Nat} {bs : List Int} {wide : Int} {fr : Nat} {w wo W : World} (h : GrI B gb A0 c0 rs A1 c1 ws A2 c2 bs wide fr w wo W) : GrI B gb A0 c0 rs A1 c1 ws A2 c2 bs wide fr w wo W.drew := h.via (below_drew (Below.refl _ _))
theorem GrI.alloc {B gb : Nat} {A0 : Option Addr} {c0 : Nat} {rs : List Int} {A1 : Option Addr} {c1 : Nat} {ws : List Int} {A2 : Option Addr} {c2 : Nat} {bs : List Int} {wide : Int} {fr : Nat} {w wo W : World} (h : GrI B gb A0 c0 rs A1 c1 ws A2 c2 bs wide fr w wo W) (o : Obj) : GrI B gb A0 c0 rs A1 c1 ws A2 c2 bs wide fr w wo (W.alloc o) := h.via (below_alloc (Below.refl _ _) _)
section
open Go.RowKit Go.Shelf
attribute [local go_sem] Oper.semAt_some
theorem nextG_calls (k : Nat) (gb : Nat) (A0 : Option Addr) (c0 : Nat) (rs : List Int) (A1 : Option Addr) (c1 : Nat) (ws : List Int) (A2 : Option Addr) (c2 : Nat) (bs : List Int) (wide : Int) (W : Nat → Nat → Int) (ss : List Int) (fr m : Nat) (x t : Int) (w : World) (hf : FlO 69 gb A0 c0 rs A1 c1 ws A2 c2 bs wide w) (hfr : fr < rs.length) (hn : rs.length ≤ 1000) (hbl : bs.length = rs.length) (hW : ∀ j : Nat, fr ≤ j → j ≤ rs.length → impl_lineWide.f k rs ws (fr : Int) (j : Int) = some (W fr j)) (hx : slices_Index_int_int.f k (bs.drop fr) 2 = some x) (hm : (fr : Int) + x + 1 = (m : Int)) (hmf : fr < m) (hmn : m ≤ rs.length) (hs : impl_starts.f k rs = some ss) (hsl : ss.length ≤ 999) (hss : ∀ t, t ∈ ss → 0 ≤ t ∧ t ≤ (rs.length : Int)) (ht : nextI bs (fitV W wide) (ss ++ [(rs.length : Int)]) fr m = some t) :
  Calls Tryz.prog 163 #[.agg #[.pointer (some ⟨gb, 0, none⟩)], .int .i64 fr] w fun e w' => e = .returned (.int .i64 t) ∧ Below w.heap.size w w' := by
 obtain ⟨W3, hW3⟩ : ∃ W3, ((w.alloc (.cells #[.pointer (some ⟨gb, 0, none⟩)] 81)).alloc (.cells #[.int .i64 fr] 3)).alloc (.cells #[.int .i64 0] 3) = W3 := ⟨_, rfl⟩
 have hB3 : Below w.heap.size w W3 := by rw [← hW3]; exact below_alloc (below_alloc (below_alloc (Below.refl _ _) _) _) _
 have hz3 : W3.heap.size = w.heap.size + 3 := by rw [← hW3]; simp
 have h1 : W3.heap[w.heap.size]? = some (.cells #[.pointer (some ⟨gb, 0, none⟩)] 81 (0, 0)) := by rw [← hW3]; exact blk_alloc (blk_alloc (blk_new w _) _) _
 have h2 : W3.heap[w.heap.size + 1]? = some (.cells #[.int .i64 fr] 3 (0, 0)) := by
  rw [← hW3]
  have h := blk_new (w.alloc (.cells #[.pointer (some ⟨gb, 0, none⟩)] 81)) (.cells #[.int .i64 fr] 3)
  rw [show (w.alloc (.cells #[.pointer (some ⟨gb, 0, none⟩)] 81)).heap.size = w.heap.size + 1 by simp] at h
  exact blk_alloc h _
 have h3 : W3.heap[w.heap.size + 1 + 1]? = some (.cells #[.int .i64 0] 3 (0, 0)) := by
  rw [← hW3]
  have h := blk_new ((w.alloc (.cells #[.pointer (some ⟨gb, 0, none⟩)] 81)).alloc (.cells #[.int .i64 fr] 3)) (.cells #[.int .i64 0] 3)
  rwa [show ((w.alloc (.cells #[.pointer (some ⟨gb, 0, none⟩)] 81)).alloc (.cells #[.int .i64 fr] 3)).heap.size = w.heap.size + 1 + 1 by simp] at h
 have HG := az (show GnO w.heap.size gb A0 c0 rs A1 c1 ws A2 c2 bs wide fr w W3 from ⟨h1, h2, h3, hf.below hB3, hB3⟩)
 have q1 := (blk_cell h1 0).trans (show _ = some (Value.pointer (some ⟨gb, 0, none⟩)) from rfl)
 have q2 := (blk_cell h2 0).trans (show _ = some (Value.int .i64 fr) from rfl)
 clear hf hB3 h1 h2 h3
 have HW := az hW
 have HX := az hx
 have HM := az hm
 have HS := az hs
 have HT := az ht
 have HSS := az hss
 clear hW hx hm hs ht hss
 refine callsIn_wide.1 (callsIn_of_wp_marks (F := Fence.wide) (n := 8) Tryz.func163 rfl trivial ?_)
 simp only [Tryz.ntmps163, List.size_toArray, List.length_cons, List.length_nil, Nat.reduceAdd, Nat.reduceSub, Array.replicate_succ, Array.replicate_zero, List.push_toArray, List.append_toArray, List.nil_append, List.cons_append]
 refine (wpIn_wide (n := 8)).2 ?_
 let BP := bodyPost Tryz.prog Tryz.f163
 go_upto_region 1 with fail
 clear hW3
 have HSZ := az (show w.heap.size ≤ W3.heap.size by omega)
 have HL := az (show fr ≤ bs.length ∧ bs.length ≤ 1000 ∧ -1 ≤ x ∧ x ≤ 1000 from (zE HM.out))
 clear hz3
 go_upto_region 2 with (go_at_call 52; go_must (refine (mustI_calls k gb A0 c0 rs A1 c1 ws A2 c2 bs wide fr x _ HG.out.2.2.2.1 HL.out.1 HL.out.2.1 HX.out HL.out.2.2.1 HL.out.2.2.2).mono ?_); rw [HM.out]; rintro e w4 ⟨rfl, hd4⟩; have HG4 := az (HG.out.below HSZ.out hd4.below); have HZ4 := az (Nat.le_trans HSZ.out hd4.below.size); clear hd4)
 clear q1 q2
 have HMC := az (blk_new w4 (.cells #[.int .i64 m] 3))
 have HG5 := az (HG4.out.below HZ4.out (below_alloc (Below.refl w4.heap.size w4) (.cells #[.int .i64 m] 3)))
 obtain ⟨M, hM⟩ : ∃ M, w4.heap.size = M := ⟨_, rfl⟩
 have HZ5 := az (show w.heap.size ≤ (w4.alloc (.cells #[.int .i64 m] 3)).heap.size by simp; have := HZ4.out; omega)
 rw [hM] at HMC ⊢
 clear HG4 HZ4 hM
 generalize w4.alloc (.cells #[.int .i64 m] 3) = w5 at HMC HG5 HZ5 ⊢
 have qm := (blk_cell HMC.out 0).trans (show _ = some (Value.int .i64 m) from rfl)
 go_wp2
 go_loopg [6] rs.length (fun gg s6 wr => ∃ g : Nat, s6 = .int .i64 ((fr + g : Nat) : Int) ∧ fr + g ≤ m ∧ g ≤ gg ∧ Aside0 (downN bs (fitV W wide) fr g = downN bs (fitV W wide) fr (m - fr)) ∧ Aside0 (GnO w.heap.size gb A0 c0 rs A1 c1 ws A2 c2 bs wide fr w wr) ∧ Aside0 (wr.heap[M]? = some (.cells #[.int .i64 m] 3 (0, 0))) ∧ Aside0 (w.heap.size ≤ wr.heap.size))
 case atStart => exact ⟨m - fr, by rw [show fr + (m - fr) = m by omega], by omega, by omega, ⟨rfl⟩, HG5, HMC, HZ5⟩
 case round =>
  clear HMC HG5 HZ5
  obtain ⟨g, rfl, hgm, hgg, HF, HQ, HMC, HZ⟩ := hrel
  have q1 := (blk_cell HQ.out.1 0).trans (show _ = some (Value.pointer (some ⟨gb, 0, none⟩)) from rfl)
  have q2 := (blk_cell HQ.out.2.1 0).trans (show _ = some (Value.int .i64 fr) from rfl)
  have q3 := (blk_cell HQ.out.2.2.1 0).trans (show _ = some (Value.int .i64 0) from rfl)
  have q4 := blk_frozen HQ.out.2.2.1 0
  have q5 := (blk_cell HQ.out.2.2.2.1.1 2).trans (show _ = some (Value.slice A2 bs.length c2) from rfl)
  have qm := (blk_cell HMC.out 0).trans (show _ = some (Value.int .i64 m) from rfl)
  cases g with
  | zero =>
   have HDN : Aside0 (downN bs (fitV W wide) fr (m - fr) = none) := ⟨by rw [← HF.out, downN]⟩
   have hez : ¬ (fr : Int) < ((fr + 0 : Nat) : Int) := by omega
   have qr := (blk_cell HQ.out.2.2.2.1.1 0).trans (show _ = some (Value.slice A0 rs.length c0) from rfl)
   clear HF hgm hgg q3 q4 q5
   obtain ⟨wo, hwo⟩ : ∃ wo, wo = wr := ⟨_, rfl⟩
   subst hwo
   go_upto_region 7 with fail
   obtain ⟨zs, hzs⟩ : ∃ zs : List Int, ss ++ [(rs.length : Int)] = zs := ⟨_, rfl⟩
   have HZS := az hzs
   have HZL : Aside0 (zs.length ≤ 1000) := ⟨by rw [← hzs, List.length_append]; simp; omega⟩
   clear hzs
   go_cut [7] (fun v7 wc => ∃ (A : Option Addr) (c : Nat), v7 = .slice A zs.length c ∧ Aside0 (Kd.R (Kd.int .i64) 3 wc wo.heap.size (fun _ => True) (.slice A zs.length c) zs) ∧ Aside0 (Below wo.heap.size wo wc))
   case first =>
    have hS : GrI w.heap.size gb A0 c0 rs A1 c1 ws A2 c2 bs wide fr w wo wo := GrI.of ⟨HQ.out, Below.refl _ _, HZ.out⟩
    unfold GrI at hS
    have HRC := az HQ.out.2.2.2.1.2.1
    have HCC := az HQ.out.2.2.2.1.2.2.1
    go_region_held3 (fun W' => W'.cell? ⟨w.heap.size, 0, none⟩ = some (.pointer (some ⟨gb, 0, none⟩)) ∧ W'.cell? ⟨gb, 0, none⟩ = some (.slice A0 rs.length c0) ∧ Aside0 (GrO w.heap.size gb A0 c0 rs A1 c1 ws A2 c2 bs wide fr w wo W')) (first | (with_reducible assumption) | (with_reducible exact GrI.via zH zH) | (with_reducible exact GrI.drew zH) | (with_reducible exact GrI.drew (GrI.alloc zH _)) | (with_reducible exact GrI.alloc zH _)) (first
     | (go_at_call 85; refine (impl_starts.calls k A0 c0 rs ss _ ?s1 ?s2 HS.out).mono ?_; (case s1 => exact (show GrI w.heap.size gb A0 c0 rs A1 c1 ws A2 c2 bs wide fr w wo _ from zH).2.2.out.1.2.2.2.1.2.1); (case s2 => exact HCC.out); rintro e w6 ⟨v6, rfl, ho6, p⟩; obtain ⟨A6, c6, e6⟩ := Kd.R_slice ho6; subst e6; have HO6L : Aside0 (Kd.R (Kd.int .i64) 3 w6 wo.heap.size (fun _ => True) (.slice A6 ss.length c6) ss) := ⟨Kd.R_lower ho6 (by simp)⟩; clear ho6)
     | (refine Kd.R_append_rows_step (Kd.int .i64) (w0 := wo) wo.heap.size (by rfl) (.tmp 43) (.tmp 50) 22 3 (.int .i64 0) 8 rfl Tryz.underlying22 info3 rfl (by decide) (by omega) (.slice A6 ss.length c6) ss [(rs.length : Int)] _ _ _ (fun _ => True) (fun _ => False) rfl rfl ?aO ?aR (fun _ _ h => h) (fun _ h => h.elim) (fun _ _ => trivial) ?aB ?aS ?aL ?_; (case aO => (with_reducible repeat (first | apply Kd.R_alloc | apply Kd.R_drewN | apply Kd.R_drew)); exact HO6L.out); (case aR => first | exact litC [(rs.length : Int)] #[.int .i64 rs.length] rfl | exact Kd.C_drew (litC [(rs.length : Int)] #[.int .i64 rs.length] rfl) | exact Kd.C_below (Kd.C_drew (litC [(rs.length : Int)] #[.int .i64 rs.length] rfl)) zH | exact Kd.C_below (litC [(rs.length : Int)] #[.int .i64 rs.length] rfl) zH | exact Kd.C_drew (Kd.C_below (litC [(rs.length : Int)] #[.int .i64 rs.length] rfl) zH)); (case aB => exact (show GrI w.heap.size gb A0 c0 rs A1 c1 ws A2 c2 bs wide fr w wo _ from zH).2.2.out.2.1); (case aS => exact (show GrI w.heap.size gb A0 c0 rs A1 c1 ws A2 c2 bs wide fr w wo _ from zH).2.2.out.2.1.size); (case aL => omega); intro v1 w1 ho_ hb_ hg_ hat_; have HO1 := az ho_; have hS1 : GrI w.heap.size gb A0 c0 rs A1 c1 ws A2 c2 bs wide fr w wo w1 := GrI.of ⟨HQ.out.below HZ.out hb_, hb_, Nat.le_trans HZ.out hb_.size⟩; clear ho_ hb_ hg_ hat_))
    all_goals
     go_wp2
     go_meet
     rw [HZS.out] at HO1
     obtain ⟨A9, c9, e9⟩ := Kd.R_slice HO1.out
     subst e9
     exact ⟨A9, c9, rfl, HO1, ⟨hS1.2.2.out.2.1⟩⟩
   case rest =>
    clear q1 q2 qm qr
    obtain ⟨A, c, rfl, HO, HBC⟩ := hcut
    obtain ⟨g1, cap1, he1, hg1b, hg1l, _⟩ := Kd.R_form HO.out (by rw [← HZS.out]; simp)
    injection he1 with e1 e2 e3
    subst e1
    subst e3
    clear hg1b
    have HQC := az (HQ.out.below HZ.out HBC.out)
    have HMC2 := az (blk_below HMC.out HBC.out)
    have HZ2 := az (Nat.le_trans HZ.out HBC.out.size)
    have HG1 := az hg1l
    clear hg1l
    go_wp2_with (go_at_call 164; go_must (refine (backward_calls _ _ _ _).mono ?_); rintro e w' ⟨rfl, rfl⟩)
    obtain ⟨W1, hW1⟩ : ∃ W1, wc.alloc (.cells #[.slice (some ⟨g1, 0, none⟩) zs.length c] 22) = W1 := ⟨_, rfl⟩
    have hB1 : Below wc.heap.size wc W1 := by rw [← hW1]; exact below_alloc (Below.refl _ _) _
    have hz1 : W1.heap.size = wc.heap.size + 1 := by rw [← hW1]; simp
    have hcell1 : W1.cell? ⟨wc.heap.size, 0, none⟩ = some (.slice (some ⟨g1, 0, none⟩) zs.length c) := by rw [← hW1]; exact (blk_cell (blk_new wc _) 0).trans rfl
    have HO1 := az (Kd.R_below HO.out hB1)
    have HQ1 := az (HQC.out.below HZ2.out hB1)
    have HMC3 := az (blk_below HMC2.out hB1)
    have HZ1 := az (Nat.le_trans HZ2.out hB1.size)
    have hgW : g1 < W1.heap.size := by have := HG1.out; omega
    have hcW : wc.heap.size < W1.heap.size := by omega
    rw [hW1]
    clear hW1 hB1 hz1 HQC HMC2 HMC HO HQ HG HSZ e2
    obtain ⟨q, hq⟩ : ∃ q : Int → Bool, (fun t => decide ((fr : Int) < t) && decide (t ≤ (m : Int)) && fitV W wide fr t.toNat) = q := ⟨_, rfl⟩
    have HQQ := az hq
    clear hq
    refine (wpIn_wide (n := 8)).1 ?_
    refine wpIn_rangeFunc_ownF rfl (by decide) (gf := 166) (lb := #[.pointer (some ⟨wc.heap.size, 0, none⟩)]) rfl trivial (enters_of Tryz.func166 (by kernel_rfl) rfl)
     (back_stops 7 (by decide) wc.heap.size W1.heap.size g1 0 c zs HZL.out W1 hcW hgW (Nat.le_refl _) hcell1 ?cells) belowK_t (belowK_b (Nat.le_refl _)) (Below.refl _ _) (fun _ => rfl)
     (fun pre V => (∀ p ∈ pre, q p.2 = false) ∧ Below W1.heap.size W1 V)
     (fun cd pre V => (cd = .ret ∧ ∃ ini last, pre = ini ++ [last] ∧ (∀ p ∈ ini, q p.2 = false) ∧ q last.2 = true ∧ V.cell? ⟨w.heap.size + 1 + 1, 0, none⟩ = some (.int .i64 last.2)) ∧ Below w.heap.size w V)
     (OwnFrom.and (ownFrom_pure _ _) (ownFrom_below (Nat.le_refl _) (Nat.le_refl _)))
     (fun cd => OwnFrom.and (Own.from (fun s A B row hs hg hr => by obtain ⟨hc, ini, last, e1, e2, e3, e4⟩ := hs; exact ⟨hc, ini, last, e1, e2, e3, cell_kept e4 hg hr⟩) _) (ownFrom_below (Nat.le_refl _) HZ1.out))
     ⟨by simp, Below.refl _ _⟩ ?a1 ?assign ?body ?done ?stop
    case cells =>
     intro j hj
     have h := (Kd.R_celln (0 : Int) HO1.out (j : Int) (by omega) (by omega)).1
     simpa [rdOf] using h
    case assign =>
     intro l x V K hK
     gi_wp2
     exact hK
    case body =>
     rintro l pre ⟨x1, x2⟩ V ⟨hp, hB⟩ _
     have HP := az hp
     have HBV := az hB
     have HQV := az (HQ1.out.below HZ1.out hB)
     have HMV := az (blk_below HMC3.out hB)
     have HZV := az (Nat.le_trans HZ1.out hB.size)
     have q1 := (blk_cell HQV.out.1 0).trans (show _ = some (Value.pointer (some ⟨gb, 0, none⟩)) from rfl)
     have q2 := (blk_cell HQV.out.2.1 0).trans (show _ = some (Value.int .i64 fr) from rfl)
     have qm := (blk_cell HMV.out 0).trans (show _ = some (Value.int .i64 m) from rfl)
     clear hp hB hcell1 hgW hcW hez hfr hmf
     by_cases hx1 : (fr : Int) < x2
     case neg =>
      have HN : Aside0 (q x2 = false) := ⟨by rw [← HQQ.out]; simp only [decide_eq_false hx1, Bool.false_and]⟩
      have d1 : ¬ (fr : Int) < x2 := hx1
      gi_wp2
      refine ⟨trivial, ?_⟩
      gi_wp2
      exact ⟨KeepsOthers.refl _, Below.refl _ _, fun p hp => (List.mem_append.1 hp).elim (HP.out p) (fun e => by rw [List.mem_singleton.1 e]; exact HN.out), HBV.out⟩
     case pos =>
      by_cases hx2 : x2 ≤ (m : Int)
      case neg =>
       have HN : Aside0 (q x2 = false) := ⟨by rw [← HQQ.out]; simp only [decide_eq_false hx2, Bool.false_and, Bool.and_false]⟩
       gi_wp2
       refine ⟨trivial, ?_⟩
       gi_wp2
       exact ⟨KeepsOthers.refl _, Below.refl _ _, fun p hp => (List.mem_append.1 hp).elim (HP.out p) (fun e => by rw [List.mem_singleton.1 e]; exact HN.out), HBV.out⟩
      case pos =>
       obtain ⟨e, rfl⟩ : ∃ e : Nat, x2 = (e : Int) := ⟨x2.toNat, by omega⟩
       have HE := az (show fr ≤ e ∧ e ≤ rs.length by omega)
       have HN : Aside0 (q (e : Int) = fitV W wide fr e) := ⟨by rw [← HQQ.out]; simp only [decide_eq_true hx1, decide_eq_true hx2, Bool.true_and, Int.toNat_natCast]⟩
       cases hfi : fitV W wide fr e
       case false =>
        have HFI := az hfi
        clear hfi
        gi_wp2_with (refine ⟨trivial, ?_⟩; gi_at_call 53; refine (CallsIn.inRound l (callsIn_wide.2 (fitsI_calls k gb A0 c0 rs A1 c1 ws A2 c2 bs wide (fr : Int) (e : Int) (W fr e) _ HQV.out.2.2.2.1 (HW.out e HE.out.1 HE.out.2)))).mono ?_; rw [show decide (W fr e ≤ wide) = false from HFI.out]; rintro e1 w2 ⟨rfl, hb2⟩; have HB2 := az hb2; clear hb2)
        exact ⟨KeepsOthers.of_grownBy (grown_of_below HB2.out none) (fun _ _ h => by cases h), HB2.out.mono HBV.out.size, fun p hp => (List.mem_append.1 hp).elim (HP.out p) (fun e => by rw [List.mem_singleton.1 e]; exact HN.out.trans HFI.out), below_then HBV.out HBV.out.size HB2.out⟩
       case true =>
        have HFI := az hfi
        clear hfi
        gi_wp2_with (refine ⟨trivial, ?_⟩; gi_at_call 53; refine (CallsIn.inRound l (callsIn_wide.2 (fitsI_calls k gb A0 c0 rs A1 c1 ws A2 c2 bs wide (fr : Int) (e : Int) (W fr e) _ HQV.out.2.2.2.1 (HW.out e HE.out.1 HE.out.2)))).mono ?_; rw [show decide (W fr e ≤ wide) = true from HFI.out]; rintro e1 w2 ⟨rfl, hb2⟩; have HB2 := az hb2; have HQ2 := az (HQV.out.below HZV.out hb2); have q3 := (blk_cell HQ2.out.2.2.1 0).trans (show _ = some (Value.int .i64 0) from rfl); have q4 := blk_frozen HQ2.out.2.2.1 0; clear hb2)
        exact ⟨(KeepsOthers.of_grownBy (grown_of_below HB2.out none) (fun _ _ h => by cases h)).trans (KeepsOthers.setCell _ _ _), ⟨rfl, pre, (x1, (e : Int)), rfl, HP.out, HN.out.trans HFI.out, (blk_cell (blk_set HQ2.out.2.2.1 0 (.int .i64 e)) 0).trans rfl⟩, HQ2.out.2.2.2.2.setCell (p := ⟨w.heap.size + 1 + 1, 0, none⟩) (Nat.le_trans (Nat.le_succ _) (Nat.le_succ _)) _⟩
    case done =>
     rintro D ys V hD rfl ⟨hp, hB⟩ hK
     have HTT : ∃ j : Nat, idxI (fun t => decide ((fr : Int) < t)) zs = j ∧ j < zs.length ∧ zs.getD j 0 = t := by
      have h := HT.out
      unfold nextI backN at h
      rw [HDN.out, HZS.out, HQQ.out, back_none zs hp] at h
      exact idx_find h
     obtain ⟨j, hj1, hj2, hj3⟩ := HTT
     have HDD := az hD
     have HKK := az hK
     have HQV := az (HQ1.out.below HZ1.out hB)
     have HOV := az (Kd.R_below HO1.out hB)
     have HZV := az (Nat.le_trans HZ1.out hB.size)
     have HJ1 := az hj1
     have HJ3 := az hj3
     clear hp hD hB hK hj1 hj3 hcell1
     have q3 := (blk_cell HQV.out.2.2.1 0).trans (show _ = some (Value.int .i64 0) from rfl)
     have q4 := blk_frozen HQV.out.2.2.1 0
     have hj2z : (j : Int) < (zs.length : Int) := by omega
     go_wp2_with (go_at_call 88; go_must (refine (idxI_calls (fun t => decide ((fr : Int) < t)) 165 #[.pointer (some ⟨w.heap.size + 1, 0, none⟩)] (enters_of Tryz.func165 (by kernel_rfl) rfl) (some ⟨g1, 0, none⟩) c zs _ (Kd.R_reads' HOV.out).2.2 (zE HZL.out) (fun W3 hb3 j3 _ => (nextG_1_calls (w.heap.size + 1) (fr : Int) _ W3 ((blk_cell (blk_below HQV.out.2.1 hb3) 0).trans rfl)).mono (fun e w' h => ⟨h.1, below_then hb3 hb3.size h.2⟩))).mono ?_); rw [HJ1.out]; rintro e1 w9 ⟨rfl, hb9⟩; have HQ9 := az (HQV.out.below HZV.out hb9); have HK9 := az (blk_below HKK.out hb9); have q3 := (blk_cell HQ9.out.2.2.1 0).trans (show _ = some (Value.int .i64 0) from rfl); have q4 := blk_frozen HQ9.out.2.2.1 0; have hx9 := (Kd.R_celln (0 : Int) (Kd.R_below HOV.out hb9) (j : Int) (by omega) hj2z).1; rw [show rdOf (0 : Int) zs (j : Int) = t from by rw [← HJ3.out]; simp [rdOf], Int.toNat_natCast] at hx9; clear hb9)
     have hK' := (KeepsOthers.setCell w9 ⟨w.heap.size + 1 + 1, 0, none⟩ (.int .i64 t)).same D _ HK9.out rfl
     refine ⟨by simp, .inl ⟨_, _, rfl, run_takeDeferred hK', ?_⟩⟩
     refine ⟨_, results_cell_int rfl _ _ (w.heap.size + 1 + 1) t rfl ?_ Tryz.underlying3, rfl, ?_⟩
     · exact cell_kept ((blk_cell (blk_set HQ9.out.2.2.1 0 (.int .i64 t)) 0).trans rfl) (grownBy_putObj' _ D (.deferred none)) (fun r e => by cases e; exact ⟨_, hK', rfl⟩)
     · exact (HQ9.out.2.2.2.2.setCell (p := ⟨w.heap.size + 1 + 1, 0, none⟩) (Nat.le_trans (Nat.le_succ _) (Nat.le_succ _)) _).trans (belowK_b (w := w) (Nat.le_refl _) _ D _ _ (Nat.le_trans HZ1.out HDD.out) hK' rfl rfl)
    case stop =>
     rintro D cd pre V hD ⟨k2, hk2, rfl⟩ ⟨⟨rfl, ini, last, e1, e2, e3, hcr⟩, hB⟩ hK
     have HTT : last.2 = t := by
      have h := HT.out
      unfold nextI backN at h
      rw [HDN.out, HZS.out, HQQ.out, back_some zs k2 hk2 ini last e1 e2 e3] at h
      exact Option.some.inj h
     rw [HTT] at hcr
     have HDD := az hD
     have HBB := az hB
     have HKK := az hK
     have HCR := az hcr
     clear e1 e2 e3 HTT hD hB hK hcr hcell1
     gi_wp2
     refine ⟨by simp, .inl ⟨_, _, rfl, run_takeDeferred HKK.out, ?_⟩⟩
     refine ⟨_, results_cell_int rfl _ _ (w.heap.size + 1 + 1) t rfl ?_ Tryz.underlying3, rfl, ?_⟩
     · exact cell_kept HCR.out (grownBy_putObj' _ D (.deferred none)) (fun r e => by cases e; exact ⟨_, HKK.out, rfl⟩)
     · exact HBB.out.trans (belowK_b (w := w) (Nat.le_refl _) V D _ _ (Nat.le_trans HZ1.out HDD.out) HKK.out rfl rfl)
  | succ g =>
   have hq := HF.out
   rw [downN] at hq
   obtain ⟨e, he⟩ : ∃ e : Nat, fr + g + 1 = e := ⟨_, rfl⟩
   rw [show fr + (g + 1) = e by omega]
   rw [he] at hq
   have hez : (fr : Int) < (e : Int) := by omega
   obtain ⟨n1, hn1⟩ : ∃ n1 : Nat, fr + g = n1 := ⟨_, rfl⟩
   rw [hn1] at hq
   have h0 : (0 : Int) ≤ (n1 : Int) := by omega
   have h1 : (n1 : Int) < (bs.length : Int) := by omega
   have hw1 : wrap64 ((e : Int) - 1) = (n1 : Int) := by unfold wrap64; omega
   have hw2 : IntKind.i64.wrap ((e : Int) - 1) = (n1 : Int) := by rw [i64_w]; exact hw1
   obtain ⟨ad5, hA5, hx5⟩ := Kd.at_int HQ.out.2.2.2.1.2.2.2.2.2.1 (n1 : Int) h0 h1
   have hxx : rd bs (n1 : Int) = bs.getD n1 0 := by simp [rd]
   rw [hxx, Int.toNat_natCast] at hx5
   obtain ⟨y, hy⟩ : ∃ y, bs.getD n1 0 = y := ⟨_, rfl⟩
   rw [hy] at hx5 hq
   subst hA5
   have HLE := az (show fr ≤ e ∧ e ≤ rs.length by omega)
   have HE := az (show e = fr + g + 1 ∧ n1 = fr + g by omega)
   have HGM := az hgm
   have HGG := az hgg
   clear hxx hy he hn1 HF hgm hgg
   by_cases hy0 : y = 0
   ·
    rw [if_neg (show ¬ (¬ y = 0 ∧ fitV W wide fr e = true) from fun h => h.1 hy0)] at hq
    have b0 : (y != 0) = false := bne_eq_false_iff_eq.mpr hy0
    have HQQ := az hq
    clear hq hy0
    go_wp2
    go_roundg g
    case measure => have := HGG.out; omega
    case rel => exact ⟨g, by have := HE.out.2; first | (rw [← this]; done) | (congr 1; omega), zE HGM.out, Nat.le_refl _, HQQ, HQ, HMC, HZ⟩
   ·
    have b0 : (y != 0) = true := bne_iff_ne.mpr hy0
    cases hfi : fitV W wide fr e
    case false =>
     rw [if_neg (show ¬ (¬ y = 0 ∧ fitV W wide fr e = true) from fun h => by rw [hfi] at h; exact absurd h.2 (by decide))] at hq
     have HFI := az hfi
     have HQQ := az hq
     clear hq hy0 hfi q3 q4
     go_wp2_with (go_at_call 53; go_must (refine (fitsI_calls k gb A0 c0 rs A1 c1 ws (some ad5) c2 bs wide (fr : Int) (e : Int) (W fr e) _ HQ.out.2.2.2.1 (HW.out e HLE.out.1 HLE.out.2)).mono ?_); rw [show decide (W fr e ≤ wide) = false from HFI.out]; rintro e1 w2 ⟨rfl, hb2⟩; have HQ2 := az (HQ.out.below HZ.out hb2); have HMC2 := az (blk_below HMC.out hb2); have HZ2 := az (Nat.le_trans HZ.out hb2.size); have q3 := (blk_cell HQ2.out.2.2.1 0).trans (show _ = some (Value.int .i64 0) from rfl); have q4 := blk_frozen HQ2.out.2.2.1 0; clear hb2)
     go_roundg g
     case measure => have := HGG.out; omega
     case rel => exact ⟨g, by have := HE.out.2; first | (rw [← this]; done) | (congr 1; omega), zE HGM.out, Nat.le_refl _, HQQ, HQ2, HMC2, HZ2⟩
    case true =>
     rw [if_pos ⟨hy0, hfi⟩] at hq
     have HTE : Aside0 ((e : Int) = t) := ⟨by have h := HT.out; unfold nextI at h; rw [← hq] at h; exact Option.some.inj h⟩
     have HFI := az hfi
     clear hq hy0 hfi q3 q4
     go_wp2_with (go_at_call 53; go_must (refine (fitsI_calls k gb A0 c0 rs A1 c1 ws (some ad5) c2 bs wide (fr : Int) (e : Int) (W fr e) _ HQ.out.2.2.2.1 (HW.out e HLE.out.1 HLE.out.2)).mono ?_); rw [show decide (W fr e ≤ wide) = true from HFI.out]; rintro e1 w2 ⟨rfl, hb2⟩; have HQ2 := az (HQ.out.below HZ.out hb2); have HMC2 := az (blk_below HMC.out hb2); have HZ2 := az (Nat.le_trans HZ.out hb2.size); have q3 := (blk_cell HQ2.out.2.2.1 0).trans (show _ = some (Value.int .i64 0) from rfl); have q4 := blk_frozen HQ2.out.2.2.1 0; clear hb2)
     refine bodyPostM_ret (results_cell_int rfl _ _ (w.heap.size + 1 + 1) t rfl ?_ Tryz.underlying3) rfl ?_
     ·
      rw [← HTE.out]
      exact (blk_cell (blk_set HQ2.out.2.2.1 0 (.int .i64 e)) 0).trans rfl
     · exact ⟨rfl, HQ2.out.2.2.2.2.setCell (p := ⟨w.heap.size + 1 + 1, 0, none⟩) (Nat.le_trans (Nat.le_succ _) (Nat.le_succ _)) _⟩
end
theorem endsG_calls (k : Nat) (gb : Nat) (A0 : Option Addr) (c0 : Nat) (rs : List Int) (A1 : Option Addr) (c1 : Nat) (ws : List Int) (A2 : Option Addr) (c2 : Nat) (bs : List Int) (wide : Int) (W : Nat → Nat → Int) (M : Nat → Nat) (N : Nat → Int) (ss r : List Int) (w : World) (hf : FlO 69 gb A0 c0 rs A1 c1 ws A2 c2 bs wide w) (hn : rs.length ≤ 1000) (hbl : bs.length = rs.length) (hW : ∀ i j : Nat, i ≤ j → j ≤ rs.length → impl_lineWide.f k rs ws (i : Int) (j : Int) = some (W i j)) (hM : ∀ i : Nat, i < rs.length → ∃ x, slices_Index_int_int.f k (bs.drop i) 2 = some x ∧ (i : Int) + x + 1 = (M i : Int) ∧ i < M i ∧ M i ≤ rs.length) (hs : impl_starts.f k rs = some ss) (hsl : ss.length ≤ 999) (hss : ∀ t, t ∈ ss → 0 ≤ t ∧ t ≤ (rs.length : Int)) (hN : ∀ i : Nat, i < rs.length → nextI bs (fitV W wide) (ss ++ [(rs.length : Int)]) i (M i) = some (N i)) (hr : greedyN N rs.length rs.length 0 = some r) :
  Calls Tryz.prog 162 #[.agg #[.pointer (some ⟨gb, 0, none⟩)]] w fun e w' => ∃ v0_ : Value, e = .returned v0_ ∧ Kd.R (Kd.int .i64) 3 w' w.heap.size (fun _ => True) v0_ r ∧ Below w.heap.size w w' := by
 obtain ⟨W3, hW3⟩ : ∃ W3, w.alloc (.cells #[.pointer (some ⟨gb, 0, none⟩)] 81) = W3 := ⟨_, rfl⟩
 have HB3 : Aside0 (Below w.heap.size w W3) := ⟨by rw [← hW3]; exact below_alloc (Below.refl _ _) _⟩
 have HX3 : Aside0 (W3.heap[w.heap.size]? = some (.cells #[.pointer (some ⟨gb, 0, none⟩)] 81 (0, 0))) := ⟨by rw [← hW3]; exact blk_new w _⟩
 have HFL := az hf
 have HW := az hW
 have HM := az hM
 have HBL := az hbl
 have HN := az hn
 have HNX := az hN
 have HST := az hs
 have HSL := az hsl
 have HSS := az hss
 have HRR := az hr
 clear hf hW hM hbl hN hs hsl hss hr
 go_enter Tryz.func162, Tryz.ntmps162
 go_upto_region 1 with fail
 clear hW3
 go_wp2
 go_loopg [3, 4] rs.length (fun gg s3 s4 wr => ∃ (i g : Nat) (out : List Int), s4 = .int .i64 i ∧ i ≤ rs.length ∧ g ≤ gg ∧ Aside0 (∃ rest, greedyN N rs.length g i = some rest ∧ out ++ rest = r) ∧ Aside0 (out.length + g ≤ rs.length) ∧ Aside0 (Kd.R (Kd.int .i64) 3 wr w.heap.size (fun _ => True) s3 out) ∧ Aside0 (Below w.heap.size w wr) ∧ Aside0 (wr.heap[w.heap.size]? = some (.cells #[.pointer (some ⟨gb, 0, none⟩)] 81 (0, 0))) ∧ Aside0 (w.heap.size < wr.heap.size))
 case atStart => exact ⟨0, rs.length, [], rfl, Nat.zero_le _, Nat.le_refl _, ⟨_, HRR.out, rfl⟩, ⟨by simp⟩, ⟨Kd.R_nil _ _ _ _ _⟩, HB3, HX3, ⟨(Array.getElem?_eq_some_iff.1 HX3.out).1⟩⟩
 case round =>
  clear HRR HB3 HX3
  obtain ⟨i, g, out, rfl, hi, hg, HF, HLO, HO, HB, HBX, HSZ⟩ := hrel
  obtain ⟨rest, hq, hrest⟩ := HF.out
  have HQ := az (HFL.out.below HB.out)
  have q0 := (blk_cell HQ.out.1 0).trans (show _ = some (Value.slice A0 rs.length c0) from rfl)
  have qb := (blk_cell HBX.out 0).trans (show _ = some (Value.pointer (some ⟨gb, 0, none⟩)) from rfl)
  by_cases hlt : i < rs.length
  ·
   have hltz : (i : Int) < (rs.length : Int) := by omega
   have HLT := az hlt
   cases g with
   | zero => rw [greedyN, if_pos hlt] at hq; cases hq
   | succ g =>
   rw [greedyN, if_pos hlt] at hq
   by_cases hb : 0 ≤ N i ∧ N i ≤ (rs.length : Int)
   case neg => rw [if_neg hb] at hq; cases hq
   case pos =>
   rw [if_pos hb] at hq
   replace hq := Option.bind_eq_some_iff.mp hq
   obtain ⟨l, hl, hq⟩ := hq
   obtain rfl := Option.some.inj hq
   have hni := HNX.out i hlt
   obtain ⟨x, hx⟩ : ∃ x : Nat, N i = x := ⟨(N i).toNat, by omega⟩
   rw [hx, Int.toNat_natCast] at hl
   rw [hx] at hb hrest hni
   obtain ⟨y, hy1, hy2, hy3, hy4⟩ := HM.out i hlt
   have HNI := az hni
   have HY := az (And.intro hy1 (And.intro hy2 (And.intro hy3 hy4)))
   have HXB := az hb.2
   have HLL := az hl
   have HRE := az hrest
   have HGG := az hg
   clear hx hb hl hrest hlt HF hg hni hy1 hy2 hy3 hy4 hi
   go_wp2_with (first
    | (go_at_call 163; go_must (refine (nextG_calls k gb A0 c0 rs A1 c1 ws A2 c2 bs wide W ss i (M i) y (x : Int) _ HQ.out HLT.out HN.out HBL.out (fun j h1 h2 => HW.out i j h1 h2) HY.out.1 HY.out.2.1 HY.out.2.2.1 HY.out.2.2.2 HST.out HSL.out HSS.out HNI.out).mono ?_); rintro e w2 ⟨rfl, hb2⟩; have HO2 := az (Kd.R_below HO.out hb2); have HB2 := az (below_then HB.out HB.out.size hb2); have HBX2 := az (blk_below HBX.out hb2); clear hb2)
    | ((with_reducible refine gate_builtin (b := .append) (xs := #[.tmp 16, .tmp 18]) rfl ?_); at_builtin; go_must (refine appI (w0 := w) (base := w.heap.size) Tryz.underlying22 info3 rfl (.tmp 16) (.tmp 18) rfl _ out (x : Int) rfl rfl HO2.out HB2.out HB2.out.size ?aL ?_); (case aL => have := HLO.out; have := HN.out; omega); intro v9 w9 ho9 hb9 hg9 hat9; have HO9 := az ho9; have HB9 := az hb9; have HBX9 : Aside0 (w9.heap[w.heap.size]? = some (.cells #[.pointer (some ⟨gb, 0, none⟩)] 81 (0, 0))) := ⟨blk_grown HBX2.out hg9 (Kd.R_ne HO2.out HBX2.out (by decide))⟩; clear ho9 hb9 hg9 hat9))
   go_roundg g
   case measure => have := HGG.out; omega
   case rel => exact ⟨x, g, _, rfl, zE HXB.out, Nat.le_refl _, ⟨l, HLL.out, by rw [List.append_assoc]; exact HRE.out⟩, ⟨by have := HLO.out; rw [List.length_append]; simp; omega⟩, HO9, HB9, HBX9, ⟨(Array.getElem?_eq_some_iff.1 HBX9.out).1⟩⟩
  ·
   have hltz : ¬ (i : Int) < (rs.length : Int) := by omega
   have HRE : Aside0 (out = r) := by
    have : rest = [] := by
     cases g with
     | zero => rw [greedyN, if_neg hlt] at hq; exact (Option.some.inj hq).symm
     | succ g => rw [greedyN, if_neg hlt] at hq; exact (Option.some.inj hq).symm
    subst this
    exact ⟨by rw [← hrest, List.append_nil]⟩
   clear hq hrest HF
   go_wp2
   go_ret
   exact ⟨_, rfl, by rw [← HRE.out]; exact HO.out, HB.out⟩
theorem costI_calls (k : Nat) (gb : Nat) (A0 : Option Addr) (c0 : Nat) (rs : List Int) (A1 : Option Addr) (c1 : Nat) (ws : List Int) (A2 : Option Addr) (c2 : Nat) (bs : List Int) (wide from_ to_ x : Int) (m : Nat) (w : World) (hf : FlO 69 gb A0 c0 rs A1 c1 ws A2 c2 bs wide w) (hm : to_ - 1 = (m : Int)) (hmb : m < bs.length) (hx : impl_lineWide.f k rs ws from_ to_ = some x) (hb : (wide - x).natAbs ≤ 1000000000) :
  Calls Tryz.prog 51 #[.pointer (some ⟨gb, 0, none⟩), .int .i64 from_, .int .i64 to_] w fun e w' => e = .returned (.int .i64 (if bs.getD m 0 = 2 then 0 else (wide - x) * (wide - x))) ∧ Below w.heap.size w w' := by
 have hm0 : (0 : Int) ≤ (m : Int) := by omega
 have hmz : (m : Int) < (bs.length : Int) := by omega
 have hl := hf.2.2.2.2.2.1.2.1
 obtain ⟨ad5, hA5, hx5⟩ := Kd.at_int hf.2.2.2.2.2.1 (m : Int) hm0 hmz
 subst hA5
 have hxx : rd bs (m : Int) = bs.getD m 0 := by simp [rd]
 rw [hxx, Int.toNat_natCast] at hx5
 obtain ⟨y, hy⟩ : ∃ y, bs.getD m 0 = y := ⟨_, rfl⟩
 rw [hy] at hx5 ⊢
 have hw1 : IntKind.i64.wrap (to_ - 1) = (m : Int) := by rw [i64_w]; unfold wrap64; omega
 have hw2 : wrap64 (to_ - 1) = (m : Int) := by unfold wrap64; omega
 obtain ⟨d, hd⟩ : ∃ d, wide - x = d := ⟨_, rfl⟩
 rw [hd] at hb ⊢
 have hs := sq_fit d hb
 have hw3 : wrap64 (wide - x) = d := by unfold wrap64; omega
 have hw4 : IntKind.i64.wrap (wide - x) = d := by rw [i64_w]; exact hw3
 have hw5 : wrap64 (d * d) = d * d := by unfold wrap64; omega
 have hw6 : IntKind.i64.wrap (d * d) = d * d := by rw [i64_w]; exact hw5
 clear hxx hy hm hs hb hd hmb
 have HX := az hx
 clear hx
 by_cases h2 : y = 2
 ·
  rw [if_pos h2]
  have b2 : (y == 2) = true := beq_iff_eq.mpr h2
  have q2 := (blk_cell hf.1 2).trans (show _ = some (Value.slice (some ad5) bs.length c2) from rfl)
  clear h2 hf
  go_enter Tryz.func51, Tryz.ntmps51
  go_wp2
  go_ret
  exact ⟨rfl, by repeat (first | exact Below.refl _ _ | apply pw_below_drewN | apply below_drew1)⟩
 ·
  rw [if_neg h2]
  have b2 : (y == 2) = false := beq_eq_false_iff_ne.mpr h2
  have hS := FlI.of (w0 := w) hf (Below.refl _ _)
  unfold FlI at hS
  clear h2 hf
  go_enter Tryz.func51, Tryz.ntmps51
  obtain ⟨q0, q1, q2, q3, q4⟩ := hS
  go_upto_region 3 with fail
  have hS : FlI 69 gb A0 c0 rs A1 c1 ws (some ad5) c2 bs wide w w := ⟨q0, q1, q2, q3, q4⟩
  unfold FlI at hS
  clear q0 q1 q2 q3 q4 hx5
  go_region_held3 (fun W => W.cell? ⟨gb, 0, none⟩ = some (.slice A0 rs.length c0) ∧ W.cell? ⟨gb, 1, none⟩ = some (.slice A1 ws.length c1) ∧ W.cell? ⟨gb, 2, none⟩ = some (.slice (some ad5) bs.length c2) ∧ W.cell? ⟨gb, 3, none⟩ = some (.int .i64 wide) ∧ Aside0 (FlO 69 gb A0 c0 rs A1 c1 ws (some ad5) c2 bs wide W ∧ Below w.heap.size w W)) (first | (with_reducible assumption) | (with_reducible refine FlI.below ?_ zH; with_reducible assumption) | (with_reducible exact FlI.drew zH)) (first
   | (go_at_call 60; refine (impl_lineWide.calls k A0 c0 rs A1 c1 ws from_ to_ x _ ?s1 ?s2 ?s3 ?s4 HX.out).mono ?_; (case s1 => exact (show FlI 69 gb A0 c0 rs A1 c1 ws (some ad5) c2 bs wide w _ from zH).2.2.2.2.out.1.2.1); (case s2 => exact (show FlI 69 gb A0 c0 rs A1 c1 ws (some ad5) c2 bs wide w _ from zH).2.2.2.2.out.1.2.2.1); (case s3 => exact (show FlI 69 gb A0 c0 rs A1 c1 ws (some ad5) c2 bs wide w _ from zH).2.2.2.2.out.1.2.2.2.1); (case s4 => exact (show FlI 69 gb A0 c0 rs A1 c1 ws (some ad5) c2 bs wide w _ from zH).2.2.2.2.out.1.2.2.2.2.1); rintro e w3 ⟨rfl, p⟩))
  all_goals
   go_wp2
   go_ret
   exact ⟨rfl, (show FlI 69 gb A0 c0 rs A1 c1 ws (some ad5) c2 bs wide w _ from zH).2.2.2.2.out.2⟩
theorem C_keptM {W W' : World} {A : Option Addr} {n mb : Nat} {xs : List Int} (h : Kd.C (Kd.int .i64) W A n xs) (hm : ∃ es c, W.heap[mb]? = some (.map es c)) (hg : W.grownBy W' (some mb)) : Kd.C (Kd.int .i64) W' A n xs := by
 have h2 := Kd.reads_of_C (enc := Value.int .i64) (d := (0 : Int)) (h1 := fun _ => rfl) h
 refine Kd.C_of_reads (d := (0 : Int)) (h1 := fun _ => rfl) ⟨h2.1, h2.2.1, fun hp => ?_⟩
 obtain ⟨ad, e, hc⟩ := h2.2.2 hp
 obtain ⟨es, c, hm⟩ := hm
 exact ⟨ad, e, fun j hj => cell_kept (hc j hj) hg (fun r e => by cases e; exact ⟨_, hm, rfl⟩)⟩
theorem blk_keptM {W W' : World} {g t mb : Nat} {cells : Array Value} (h : W.heap[g]? = some (.cells cells t (0, 0))) (hm : ∃ es c, W.heap[mb]? = some (.map es c)) (hg : W.grownBy W' (some mb)) : W'.heap[g]? = some (.cells cells t (0, 0)) := by
 obtain ⟨es, c, hm⟩ := hm
 refine blk_grown h hg (fun e => ?_)
 obtain rfl := Option.some.inj e
 rw [h] at hm
 cases hm
theorem FlO.keptM {t gb : Nat} {A0 : Option Addr} {c0 : Nat} {rs : List Int} {A1 : Option Addr} {c1 : Nat} {ws : List Int} {A2 : Option Addr} {c2 : Nat} {bs : List Int} {wide : Int} {mb : Nat} {W W' : World} (h : FlO t gb A0 c0 rs A1 c1 ws A2 c2 bs wide W) (hm : ∃ es c, W.heap[mb]? = some (.map es c)) (hg : W.grownBy W' (some mb)) : FlO t gb A0 c0 rs A1 c1 ws A2 c2 bs wide W' :=
 ⟨blk_keptM h.1 hm hg, C_keptM h.2.1 hm hg, h.2.2.1, C_keptM h.2.2.2.1 hm hg, h.2.2.2.2.1, C_keptM h.2.2.2.2.2.1 hm hg, h.2.2.2.2.2.2⟩
theorem gr_below {w W W' : World} {row : Option Nat} (h : w.grownBy W row) (hb : Below w.heap.size W W') : w.grownBy W' row :=
 ⟨hb.os.trans h.os, hb.tape.trans h.tape, hb.output.trans h.output, Nat.le_trans h.size hb.size, fun k hk hne => (hb.block k hk).trans (h.block k hk hne)⟩
theorem wf_nat {k : Nat} (h : k ≤ 1000) : (Lit.int .i64 (k : Int)).wf = true := by
 have := wrap64_wf (k : Int)
 rwa [show wrap64 (k : Int) = (k : Int) by unfold wrap64; omega] at this
theorem MapP.same {W W' : World} {b n : Nat} {f : Int → Option (Int × Int)} (h : MapP W b n f) (he : W'.heap[b]? = W.heap[b]?) : MapP W' b n f := by
 obtain ⟨D, ⟨es, c, h1, r⟩, h2, h3⟩ := h
 exact ⟨D, ⟨es, c, he.trans h1, r⟩, h2, h3⟩
theorem add_fit (a b : Int) (h1 : 0 ≤ a) (h2 : a ≤ 1000000000000000) (h3 : 0 ≤ b) (h4 : b ≤ 1000000000000000000) : wrap64 (a + b) = a + b := by
 unfold wrap64
 omega
theorem cost_fit (bs : List Int) (W : Nat → Nat → Int) (wide : Int) (i j : Nat) (h : (wide - W i j).natAbs ≤ 1000000000) : 0 ≤ costV bs W wide i j ∧ costV bs W wide i j ≤ 1000000000000000000 := by
 unfold costV
 split
 · omega
 · exact sq_fit _ h
theorem at_int_some {W : World} {ad : Addr} {n : Nat} {xs : List Int} (h : Kd.C (Kd.int .i64) W (some ad) n xs) (i : Int) (h0 : 0 ≤ i) (h1 : i < n) : W.cell? (ad.add i.toNat) = some (.int .i64 (rd xs i)) := by
 obtain ⟨ad', e, h⟩ := Kd.at_int h i h0 h1
 obtain rfl := Option.some.inj e
 exact h
def PlO (B gb : Nat) (P : Nat → Int × Int) (n mb fr : Nat) (f f0 : Int → Option (Int × Int)) (w W : World) : Prop :=
 W.heap[B]? = some (.cells #[.pointer (some ⟨gb, 0, none⟩), .map (some mb)] 84 (0, 0)) ∧ W.heap[B + 1]? = some (.cells #[.int .i64 0, .int .i64 0] 143 (0, 0)) ∧ KnO P n mb f W ∧ (∀ a : Int, a ≤ fr → f a = f0 a) ∧ w.grownBy W (some mb)
theorem PlO.below {B gb : Nat} {P : Nat → Int × Int} {n mb fr : Nat} {f f0 : Int → Option (Int × Int)} {w W W' : World} (h : PlO B gb P n mb fr f f0 w W) (hb : Below W.heap.size W W') : PlO B gb P n mb fr f f0 w W' :=
 ⟨blk_below h.1 hb, blk_below h.2.1 hb, h.2.2.1.below hb, h.2.2.2.1, gr_below h.2.2.2.2 (hb.mono h.2.2.2.2.size)⟩
theorem PlO.rec {B gb : Nat} {P : Nat → Int × Int} {n mb fr e : Nat} {f f0 f1 : Int → Option (Int × Int)} {w W W' : World} (h : PlO B gb P n mb fr f f0 w W) (hk : KnO P n mb f1 W') (ha : ∀ a : Int, a < (e : Int) → f1 a = f a) (he : fr < e) (hg : W.grownBy W' (some mb)) : PlO B gb P n mb fr f1 f0 w W' :=
 ⟨blk_keptM h.1 h.2.2.1.1.obj hg, blk_keptM h.2.1 h.2.2.1.1.obj hg, hk, fun a hle => (ha a (by omega)).trans (h.2.2.2.1 a hle), h.2.2.2.2.trans hg⟩
theorem PlO.set {B gb : Nat} {P : Nat → Int × Int} {n mb fr : Nat} {f f0 : Int → Option (Int × Int)} {w W : World} (h : PlO B gb P n mb fr f f0 w W) (hm : mb < w.heap.size) (p : Addr) (v : Value) (h1 : B ≠ p.block) (h2 : B + 1 ≠ p.block) (h3 : w.heap.size ≤ p.block) : PlO B gb P n mb fr f f0 w (W.setCell p v) :=
 ⟨blk_far h.1 h1 v, blk_far h.2.1 h2 v, ⟨h.2.2.1.1.same (Below.heap_setCell W p v mb (by omega)), h.2.2.1.2⟩, h.2.2.2.1, gr_below h.2.2.2.2 ((Below.refl _ _).setCell (p := p) h3 v)⟩
abbrev PcI (B gb R : Nat) (p : Int) (wo W : World) : Prop := W.cell? ⟨B, 0, none⟩ = some (.pointer (some ⟨gb, 0, none⟩)) ∧ W.cell? ⟨R, 0, none⟩ = some (.int .i64 p) ∧ Aside0 (Below wo.heap.size wo W)
theorem PcI.via {B gb R : Nat} {p : Int} {wo W W' : World} (h : PcI B gb R p wo W) (hb : Below W.heap.size W W') : PcI B gb R p wo W' :=
 ⟨(hb.cell (World.block_lt_of_cell? _ _ h.1)).trans h.1, (hb.cell (World.block_lt_of_cell? _ _ h.2.1)).trans h.2.1, ⟨below_then h.2.2.out h.2.2.out.size hb⟩⟩
theorem PcI.drew {B gb R : Nat} {p : Int} {wo W : World} (h : PcI B gb R p wo W) : PcI B gb R p wo W.drew := h.via (below_drew (Below.refl _ _))
theorem planI_end (gb : Nat) (A0 : Option Addr) (c0 : Nat) (rs : List Int) (A1 : Option Addr) (c1 : Nat) (ws : List Int) (A2 : Option Addr) (c2 : Nat) (bs : List Int) (wide : Int) (mb : Nat) (w : World) (hf : FlO 69 gb A0 c0 rs A1 c1 ws A2 c2 bs wide w) :
  Calls Tryz.prog 168 #[.agg #[.pointer (some ⟨gb, 0, none⟩), .map (some mb)], .int .i64 rs.length] w fun e w' => e = .returned (.agg #[.int .i64 0, .int .i64 rs.length]) ∧ Below w.heap.size w w' := by
 have q0 := (blk_cell hf.1 0).trans (show _ = some (Value.slice A0 rs.length c0) from rfl)
 have hlt := World.block_lt_of_cell? w _ q0
 clear hf
 go_enter Tryz.func168, Tryz.ntmps168
 go_wp2
 refine bodyPost_ret (results_cell_row rfl _ _ (w.heap.size + 1) 143 #[.int .i64 0, .int .i64 rs.length] (0, 0) _ rfl ?_ Tryz.underlying143 rfl (by kernel_rfl)) rfl ⟨rfl, below_alloc (below_alloc (Below.refl _ _) _) _⟩
 have h := blk_new (w.alloc (.cells #[.pointer (some ⟨gb, 0, none⟩), .map (some mb)] 84)) (.cells #[.int .i64 0, .int .i64 rs.length] 143)
 rwa [show (w.alloc (.cells #[.pointer (some ⟨gb, 0, none⟩), .map (some mb)] 84)).heap.size = w.heap.size + 1 by simp] at h
theorem planI_known (gb : Nat) (A0 : Option Addr) (c0 : Nat) (rs : List Int) (A1 : Option Addr) (c1 : Nat) (ws : List Int) (A2 : Option Addr) (c2 : Nat) (bs : List Int) (wide : Int) (P : Nat → Int × Int) (mb fr : Nat) (v : Int × Int) (f : Int → Option (Int × Int)) (w : World) (hn : rs.length ≤ 1000) (hfr : fr < rs.length) (hf : FlO 69 gb A0 c0 rs A1 c1 ws A2 c2 bs wide w) (hk : KnO P rs.length mb f w) (hv : f (fr : Int) = some v) :
  Calls Tryz.prog 168 #[.agg #[.pointer (some ⟨gb, 0, none⟩), .map (some mb)], .int .i64 fr] w fun e w' => e = .returned (.agg #[.int .i64 v.1, .int .i64 v.2]) ∧ Below w.heap.size w w' := by
 have q0 := (blk_cell hf.1 0).trans (show _ = some (Value.slice A0 rs.length c0) from rfl)
 have hlt := World.block_lt_of_cell? w _ q0
 have hlook := MapP.look (w := (w.alloc (.cells #[.pointer (some ⟨gb, 0, none⟩), .map (some mb)] 84)).alloc (.cells #[.int .i64 0, .int .i64 0] 143)) (hk.1.below (below_alloc (below_alloc (Below.refl _ _) _) _)) (fr : Int) (wf_nat (by omega))
 simp only [hv, Option.getD_some, Option.isSome_some] at hlook
 have hne : ¬ (fr : Int) = (rs.length : Int) := by omega
 have hne2 : ((fr : Int) == (rs.length : Int)) = false := beq_eq_false_iff_ne.mpr hne
 clear hf hk hv hfr hn
 go_enter Tryz.func168, Tryz.ntmps168
 go_wp2
 refine bodyPost_ret (results_cell_row rfl _ _ (w.heap.size + 1) 143 #[.int .i64 v.1, .int .i64 v.2] (0, 0) _ rfl (blk_alloc ?_ _) Tryz.underlying143 rfl (by kernel_rfl)) rfl ⟨rfl, below_alloc (below_alloc (below_alloc (Below.refl _ _) _) _) _⟩
 have h := blk_new (w.alloc (.cells #[.pointer (some ⟨gb, 0, none⟩), .map (some mb)] 84)) (.cells #[.int .i64 v.1, .int .i64 v.2] 143)
 rwa [show (w.alloc (.cells #[.pointer (some ⟨gb, 0, none⟩), .map (some mb)] 84)).heap.size = w.heap.size + 1 by simp] at h
theorem planI_body (k : Nat) (gb : Nat) (A0 : Option Addr) (c0 : Nat) (rs : List Int) (A1 : Option Addr) (c1 : Nat) (ws : List Int) (A2 : Option Addr) (c2 : Nat) (bs : List Int) (wide : Int) (W : Nat → Nat → Int) (M : Nat → Nat) (P : Nat → Int × Int) (mb : Nat) (hn : rs.length ≤ 1000) (hbl : bs.length = rs.length) (hW : ∀ i j : Nat, i ≤ j → j ≤ rs.length → impl_lineWide.f k rs ws (i : Int) (j : Int) = some (W i j)) (hM : ∀ i : Nat, i < rs.length → ∃ x, slices_Index_int_int.f k (bs.drop i) 2 = some x ∧ (i : Int) + x + 1 = (M i : Int) ∧ i < M i ∧ M i ≤ rs.length) (hP : IsPlan bs (fitV W wide) (costV bs W wide) M rs.length P) (hWb : ∀ i j : Nat, i ≤ j → j ≤ rs.length → (wide - W i j).natAbs ≤ 1000000000) (hPb : ∀ j, j ≤ rs.length → 0 ≤ (P j).1 ∧ (P j).1 ≤ 1000000000000000)
  (fr : Nat) (hfr : fr < rs.length) (ih : ∀ (e : Nat) (f1 : Int → Option (Int × Int)) (w1 : World), fr < e → e ≤ rs.length → FlO 69 gb A0 c0 rs A1 c1 ws A2 c2 bs wide w1 → KnO P rs.length mb f1 w1 → Calls Tryz.prog 168 #[.agg #[.pointer (some ⟨gb, 0, none⟩), .map (some mb)], .int .i64 e] w1 fun x w' => x = .returned (.agg #[.int .i64 (P e).1, .int .i64 (P e).2]) ∧ ∃ f', KnO P rs.length mb f' w' ∧ (∀ a : Int, a < (e : Int) → f' a = f1 a) ∧ w1.grownBy w' (some mb))
  (f : Int → Option (Int × Int)) (w : World) (hf : FlO 69 gb A0 c0 rs A1 c1 ws A2 c2 bs wide w) (hk : KnO P rs.length mb f w) (hv : f (fr : Int) = none) :
  Calls Tryz.prog 168 #[.agg #[.pointer (some ⟨gb, 0, none⟩), .map (some mb)], .int .i64 fr] w fun x w' => x = .returned (.agg #[.int .i64 (P fr).1, .int .i64 (P fr).2]) ∧ ∃ f', KnO P rs.length mb f' w' ∧ (∀ a : Int, a < (fr : Int) → f' a = f a) ∧ w.grownBy w' (some mb) := by
 have q0 := (blk_cell hf.1 0).trans (show _ = some (Value.slice A0 rs.length c0) from rfl)
 have hlt := World.block_lt_of_cell? w _ q0
 have hlook := MapP.look (w := (w.alloc (.cells #[.pointer (some ⟨gb, 0, none⟩), .map (some mb)] 84)).alloc (.cells #[.int .i64 0, .int .i64 0] 143)) (hk.1.below (below_alloc (below_alloc (Below.refl _ _) _) _)) (fr : Int) (wf_nat (by omega))
 simp only [hv, Option.getD_none, Option.isSome_none] at hlook
 have hne : ¬ (fr : Int) = (rs.length : Int) := by omega
 have hne2 : ((fr : Int) == (rs.length : Int)) = false := beq_eq_false_iff_ne.mpr hne
 obtain ⟨y, hy1, hy2, hy3, hy4⟩ := hM fr hfr
 have hz1 : wrap64 ((fr : Int) + 1) = ((fr + 1 : Nat) : Int) := by unfold wrap64; omega
 have hz2 : IntKind.i64.wrap ((fr : Int) + 1) = ((fr + 1 : Nat) : Int) := by rw [i64_w]; exact hz1
 have HFL := az hf
 have HW := az hW
 have HBL := az hbl
 have HN := az hn
 have HP := az hP
 have HWB := az hWb
 have HPB := az hPb
 have HV := az hv
 have HK := az hk
 have HY := az (And.intro hy1 (And.intro hy2 (And.intro hy3 hy4)))
 have HFR := az hfr
 have HMB := az hk.1.lt
 have HMO := az hk.1.obj
 have IH := az ih
 have HL := az (show fr ≤ bs.length ∧ bs.length ≤ 1000 ∧ -1 ≤ y ∧ y ≤ 1000 by omega)
 clear hf hk hv hfr hn hW hbl hM hP hWb hPb ih hy1 hy2 hy3 hy4
 obtain ⟨W4, hW4⟩ : ∃ W4, (((w.alloc (.cells #[.pointer (some ⟨gb, 0, none⟩), .map (some mb)] 84)).alloc (.cells #[.int .i64 0, .int .i64 0] 143)).alloc (.cells #[.int .i64 0, .int .i64 0] 143)).alloc (.cells #[.int .i64 0, .int .i64 0] 143) = W4 := ⟨_, rfl⟩
 have hB4 : Below w.heap.size w W4 := by rw [← hW4]; exact below_alloc (below_alloc (below_alloc (below_alloc (Below.refl _ _) _) _) _) _
 have b2 := blk_new (w.alloc (.cells #[.pointer (some ⟨gb, 0, none⟩), .map (some mb)] 84)) (.cells #[.int .i64 0, .int .i64 0] 143)
 rw [show (w.alloc (.cells #[.pointer (some ⟨gb, 0, none⟩), .map (some mb)] 84)).heap.size = w.heap.size + 1 by simp] at b2
 have b4 := blk_new (((w.alloc (.cells #[.pointer (some ⟨gb, 0, none⟩), .map (some mb)] 84)).alloc (.cells #[.int .i64 0, .int .i64 0] 143)).alloc (.cells #[.int .i64 0, .int .i64 0] 143)) (.cells #[.int .i64 0, .int .i64 0] 143)
 rw [show (((w.alloc (.cells #[.pointer (some ⟨gb, 0, none⟩), .map (some mb)] 84)).alloc (.cells #[.int .i64 0, .int .i64 0] 143)).alloc (.cells #[.int .i64 0, .int .i64 0] 143)).heap.size = w.heap.size + 1 + 1 + 1 by simp, hW4] at b4
 have hPL : PlO w.heap.size gb P rs.length mb fr f f w W4 := ⟨by rw [← hW4]; exact blk_alloc (blk_alloc (blk_alloc (blk_new w _) _) _) _, by rw [← hW4]; exact blk_alloc (blk_alloc b2 _) _, HK.out.below hB4, fun _ _ => rfl, grown_of_below hB4 _⟩
 have H4 := az hPL
 have HO4 := az b4
 clear hB4 b2 b4 hPL
 go_enter Tryz.func168, Tryz.ntmps168
 obtain ⟨m, hm⟩ : ∃ m, M fr = m := ⟨_, rfl⟩
 rw [hm] at HY
 have HPF := az (HP.out.2 fr HFR.out)
 rw [hm] at HPF
 clear hm
 go_wp2
 clear hW4 hlook
 go_loopg [8] rs.length (fun gg s8 wr => ∃ (e g : Nat) (cur : Int × Int) (f1 : Int → Option (Int × Int)), s8 = .int .i64 (e : Int) ∧ g ≤ gg ∧ Aside0 (fr < e ∧ e + g = m + 1) ∧ Aside0 (rowP bs (fitV W wide) (costV bs W wide) P fr g e cur = P fr) ∧ Aside0 (PlO w.heap.size gb P rs.length mb fr f1 f w wr) ∧ Aside0 (wr.heap[w.heap.size + 1 + 1 + 1]? = some (.cells #[.int .i64 cur.1, .int .i64 cur.2] 143 (0, 0))))
 case atStart => exact ⟨fr + 1, m - fr, (0, 0), f, by simp, by have := HY.out.2.2.2; omega, ⟨by omega, by have := HY.out.2.2.1; omega⟩, ⟨HPF.out.symm⟩, H4, HO4⟩
 case round =>
  clear H4 HO4 HPF
  obtain ⟨e, g, cur, f1, rfl, hg, HE, HF, HQ, HOB⟩ := hrel
  have q1 := (blk_cell HQ.out.1 0).trans (show _ = some (Value.pointer (some ⟨gb, 0, none⟩)) from rfl)
  have HFQ := az (HFL.out.keptM HMO.out HQ.out.2.2.2.2)
  cases g with
  | zero =>
   have hcu : cur = P fr := HF.out
   subst hcu
   have hgt : ¬ (e : Int) ≤ (m : Int) := by have := HE.out.2; omega
   clear HF hg
   go_wp2_with (go_at_call 52; go_must (refine (mustI_calls k gb A0 c0 rs A1 c1 ws A2 c2 bs wide fr y _ HFQ.out HL.out.1 HL.out.2.1 HY.out.1 HL.out.2.2.1 HL.out.2.2.2).mono ?_); rw [HY.out.2.1]; rintro e1 w4 ⟨rfl, hd4⟩; have HQ4 := az (HQ.out.below hd4.below); have HOB4 := az (blk_below HOB.out hd4.below); have HFQ4 := az (HFL.out.keptM HMO.out HQ4.out.2.2.2.2); obtain ⟨w5, hrun5, hm5, hg5⟩ := MapP.put HQ4.out.2.2.1.1 (by have := cntF_le f1 rs.length; have := HN.out; omega) (fr : Int) (P fr) (wf_nat (zL HN.out HFR.out)); have HM5 := az hm5; have HG5 := az hg5; have q1 := (blk_cell HQ4.out.1 1).trans (show _ = some (Value.map (some mb)) from rfl); have o1 := (blk_cell HOB4.out 0).trans (show _ = some (Value.int .i64 (P fr).1) from rfl); have o2 := (blk_cell HOB4.out 1).trans (show _ = some (Value.int .i64 (P fr).2) from rfl); have HOB5 := az (blk_keptM HOB4.out HQ4.out.2.2.1.1.obj hg5); have HB15 := az (blk_keptM HQ4.out.2.1 HQ4.out.2.2.1.1.obj hg5); have o3 := (blk_cell HOB5.out 0).trans (show _ = some (Value.int .i64 (P fr).1) from rfl); have o4 := (blk_cell HOB5.out 1).trans (show _ = some (Value.int .i64 (P fr).2) from rfl); have r1 := (blk_cell HB15.out 0).trans (show _ = some (Value.int .i64 0) from rfl); have r2 := (blk_cell HB15.out 1).trans (show _ = some (Value.int .i64 0) from rfl); have r3 := blk_frozen HB15.out 0; have r4 := blk_frozen HB15.out 1; clear hm5 hg5; clear hd4)
   refine bodyPost_ret (results_cell_row rfl _ _ (w.heap.size + 1) 143 #[.int .i64 (P fr).1, .int .i64 (P fr).2] (0, 0) _ rfl (blk_put (blk_put HB15.out 0 (.int .i64 (P fr).1) rfl) 1 (.int .i64 (P fr).2) rfl) Tryz.underlying143 rfl (by kernel_rfl)) rfl ⟨rfl, (fun a => if a = (fr : Int) then some (P fr) else f1 a), ?_, ?_, ?_⟩
   ·
    have hne : mb ≠ w.heap.size + 1 := by have := HMB.out; omega
    have hfn : f1 (fr : Int) = none := (HQ4.out.2.2.2.1 (fr : Int) (Int.le_refl _)).trans HV.out
    refine ⟨?_, fun a v hav => ?_⟩
    ·
     rw [cntF_put f1 fr (P fr) hfn rs.length HFR.out]
     exact HM5.out.same ((Below.heap_setCell _ _ _ mb hne).trans (Below.heap_setCell _ _ _ mb hne))
    ·
     replace hav : (if a = (fr : Int) then some (P fr) else f1 a) = some v := hav
     by_cases ha : a = (fr : Int)
     ·
      rw [if_pos ha] at hav
      exact ⟨fr, ha, HFR.out, (Option.some.inj hav).symm⟩
     ·
      rw [if_neg ha] at hav
      exact HQ4.out.2.2.1.2 a v hav
   ·
    intro a ha
    show (if a = (fr : Int) then some (P fr) else f1 a) = f a
    rw [if_neg (show ¬ a = (fr : Int) by omega)]
    exact HQ4.out.2.2.2.1 a (by omega)
   · exact gr_below (HQ4.out.2.2.2.2.trans HG5.out) (((Below.refl w.heap.size w5).setCell (p := ⟨w.heap.size + 1, 0, none⟩) (Nat.le_succ _) _).setCell (p := ⟨w.heap.size + 1, 1, none⟩) (Nat.le_succ _) _)
  | succ g =>
   have hle : (e : Int) ≤ (m : Int) := by have := HE.out.2; omega
   have HEN : Aside0 (fr < e + 1 ∧ e + 1 + g = m + 1) := ⟨zE HE.out⟩
   have HER : Aside0 (e ≤ rs.length) := ⟨by have := HE.out.2; have := HY.out.2.2.2; omega⟩
   obtain ⟨n1, hn1⟩ : ∃ n1 : Nat, e = n1 + 1 := ⟨e - 1, by have := HE.out.1; omega⟩
   have h0 : (0 : Int) ≤ (n1 : Int) := by omega
   have h1 : (n1 : Int) < (bs.length : Int) := by have := HER.out; have := HBL.out; omega
   have hw1 : wrap64 ((e : Int) - 1) = (n1 : Int) := by unfold wrap64; have := HER.out; have := HN.out; omega
   have hw2 : IntKind.i64.wrap ((e : Int) - 1) = (n1 : Int) := by rw [i64_w]; exact hw1
   have hw3 : wrap64 ((e : Int) + 1) = ((e + 1 : Nat) : Int) := by unfold wrap64; have := HER.out; have := HN.out; omega
   have hw4 : IntKind.i64.wrap ((e : Int) + 1) = ((e + 1 : Nat) : Int) := by rw [i64_w]; exact hw3
   obtain ⟨ad5, hA5, _⟩ := Kd.at_int HFL.out.2.2.2.2.2.1 (n1 : Int) h0 h1
   subst hA5
   have HN1 := az hn1
   clear hn1
   obtain ⟨z, hz⟩ : ∃ z, bs.getD n1 0 = z := ⟨_, rfl⟩
   have HZ5 : Aside0 (rd bs (n1 : Int) = z) := ⟨by rw [← hz]; simp [rd]⟩
   have HZZ : Aside0 (bs.getD (e - 1) 0 = z) := ⟨by rw [← hz, HN1.out]; simp⟩
   obtain ⟨p1, hp1⟩ : ∃ p1, (P e).1 = p1 := ⟨_, rfl⟩
   obtain ⟨p2, hp2⟩ : ∃ p2, (P e).2 = p2 := ⟨_, rfl⟩
   have HP1 := az hp1
   have HP2 := az hp2
   have HGG := az hg
   clear hz hp1 hp2 hg
   by_cases hz0 : z = 0
   ·
    have b0 : (z == 0) = true := beq_iff_eq.mpr hz0
    have HST : Aside0 (stepP bs (fitV W wide) (costV bs W wide) P fr e cur = cur) := ⟨if_pos (.inl (HZZ.out.trans hz0))⟩
    clear hz0
    go_wp2_with (go_at_call 52; go_must (refine (mustI_calls k gb A0 c0 rs A1 c1 ws (some ad5) c2 bs wide fr y _ HFQ.out HL.out.1 HL.out.2.1 HY.out.1 HL.out.2.2.1 HL.out.2.2.2).mono ?_); rw [HY.out.2.1]; rintro e1 w4 ⟨rfl, hd4⟩; have HQ4 := az (HQ.out.below hd4.below); have HOB4 := az (blk_below HOB.out hd4.below); have HFQ4 := az (HFL.out.keptM HMO.out HQ4.out.2.2.2.2); have q1 := (blk_cell HQ4.out.1 0).trans (show _ = some (Value.pointer (some ⟨gb, 0, none⟩)) from rfl); have q1b := (blk_cell HQ4.out.1 1).trans (show _ = some (Value.map (some mb)) from rfl); have q5 := (blk_cell HFQ4.out.1 2).trans (show _ = some (Value.slice (some ad5) bs.length c2) from rfl); have hx5 := at_int_some HFQ4.out.2.2.2.2.2.1 (n1 : Int) h0 h1; rw [HZ5.out, Int.toNat_natCast] at hx5; clear hd4)
    go_roundg g
    case measure => have := HGG.out; omega
    case rel => exact ⟨e + 1, g, cur, f1, by simp, Nat.le_refl _, HEN, ⟨by have h := HF.out; rw [rowP, HST.out] at h; exact h⟩, HQ4, HOB4⟩
   ·
    have b0 : (z == 0) = false := beq_eq_false_iff_ne.mpr hz0
    have HZ0 := az hz0
    clear hz0
    cases hfi : fitV W wide fr e
    case false =>
     have HFI := az hfi
     have HST : Aside0 (stepP bs (fitV W wide) (costV bs W wide) P fr e cur = cur) := ⟨if_pos (.inr (.inl hfi))⟩
     clear hfi
     go_wp2_with (first | (go_at_call 52; go_must (refine (mustI_calls k gb A0 c0 rs A1 c1 ws (some ad5) c2 bs wide fr y _ HFQ.out HL.out.1 HL.out.2.1 HY.out.1 HL.out.2.2.1 HL.out.2.2.2).mono ?_); rw [HY.out.2.1]; rintro e1 w4 ⟨rfl, hd4⟩; have HQ4 := az (HQ.out.below hd4.below); have HOB4 := az (blk_below HOB.out hd4.below); have HFQ4 := az (HFL.out.keptM HMO.out HQ4.out.2.2.2.2); have q1 := (blk_cell HQ4.out.1 0).trans (show _ = some (Value.pointer (some ⟨gb, 0, none⟩)) from rfl); have q1b := (blk_cell HQ4.out.1 1).trans (show _ = some (Value.map (some mb)) from rfl); have q5 := (blk_cell HFQ4.out.1 2).trans (show _ = some (Value.slice (some ad5) bs.length c2) from rfl); have hx5 := at_int_some HFQ4.out.2.2.2.2.2.1 (n1 : Int) h0 h1; rw [HZ5.out, Int.toNat_natCast] at hx5; clear hd4) | (go_at_call 53; go_must (refine (fitsI_calls k gb A0 c0 rs A1 c1 ws (some ad5) c2 bs wide (fr : Int) (e : Int) (W fr e) _ HFQ4.out (HW.out fr e (Nat.le_of_lt HE.out.1) HER.out)).mono ?_); rw [show decide (W fr e ≤ wide) = false from HFI.out]; rintro e1 w5 ⟨rfl, hb5⟩; have HQ5 := az (HQ4.out.below hb5); have HOB5 := az (blk_below HOB4.out hb5); have HFQ5 := az (HFL.out.keptM HMO.out HQ5.out.2.2.2.2); clear hb5))
     go_roundg g
     case measure => have := HGG.out; omega
     case rel => exact ⟨e + 1, g, cur, f1, by simp, Nat.le_refl _, HEN, ⟨by have h := HF.out; rw [rowP, HST.out] at h; exact h⟩, HQ5, HOB5⟩
    case true =>
     have HFI := az hfi
     clear hfi
     by_cases hp20 : p2 = 0
     ·
      have b2 : (p2 == 0) = true := beq_iff_eq.mpr hp20
      have HST : Aside0 (stepP bs (fitV W wide) (costV bs W wide) P fr e cur = cur) := ⟨if_pos (.inr (.inr (HP2.out.trans hp20)))⟩
      clear hp20
      go_wp2_with (first | (go_at_call 52; go_must (refine (mustI_calls k gb A0 c0 rs A1 c1 ws (some ad5) c2 bs wide fr y _ HFQ.out HL.out.1 HL.out.2.1 HY.out.1 HL.out.2.2.1 HL.out.2.2.2).mono ?_); rw [HY.out.2.1]; rintro e1 w4 ⟨rfl, hd4⟩; have HQ4 := az (HQ.out.below hd4.below); have HOB4 := az (blk_below HOB.out hd4.below); have HFQ4 := az (HFL.out.keptM HMO.out HQ4.out.2.2.2.2); have q1 := (blk_cell HQ4.out.1 0).trans (show _ = some (Value.pointer (some ⟨gb, 0, none⟩)) from rfl); have q1b := (blk_cell HQ4.out.1 1).trans (show _ = some (Value.map (some mb)) from rfl); have q5 := (blk_cell HFQ4.out.1 2).trans (show _ = some (Value.slice (some ad5) bs.length c2) from rfl); have hx5 := at_int_some HFQ4.out.2.2.2.2.2.1 (n1 : Int) h0 h1; rw [HZ5.out, Int.toNat_natCast] at hx5; clear hd4) | (go_at_call 53; go_must (refine (fitsI_calls k gb A0 c0 rs A1 c1 ws (some ad5) c2 bs wide (fr : Int) (e : Int) (W fr e) _ HFQ4.out (HW.out fr e (Nat.le_of_lt HE.out.1) HER.out)).mono ?_); rw [show decide (W fr e ≤ wide) = true from HFI.out]; rintro e1 w5 ⟨rfl, hb5⟩; have HQ5 := az (HQ4.out.below hb5); have HOB5 := az (blk_below HOB4.out hb5); have HFQ5 := az (HFL.out.keptM HMO.out HQ5.out.2.2.2.2); have q1 := (blk_cell HQ5.out.1 0).trans (show _ = some (Value.pointer (some ⟨gb, 0, none⟩)) from rfl); have q1b := (blk_cell HQ5.out.1 1).trans (show _ = some (Value.map (some mb)) from rfl); clear hb5) | (go_at_call 168; go_must (refine (IH.out e f1 _ HE.out.1 HER.out HFQ5.out HQ5.out.2.2.1).mono ?_); rw [HP1.out, HP2.out]; rintro e1 w6 ⟨rfl, f2, hk6, ha6, hg6⟩; have HQ6 := az (HQ5.out.rec hk6 ha6 HE.out.1 hg6); have HOB6 := az (blk_keptM HOB5.out HQ5.out.2.2.1.1.obj hg6); clear hk6 ha6 hg6))
      have HQ7 := az (HQ6.out.below (below_alloc (Below.refl w6.heap.size w6) (.cells #[.int .i64 p1, .int .i64 p2] 143)))
      have HOB7 := az (blk_alloc HOB6.out (.cells #[.int .i64 p1, .int .i64 p2] 143))
      go_roundg g
      case measure => have := HGG.out; omega
      case rel => exact ⟨e + 1, g, cur, f2, by simp, Nat.le_refl _, HEN, ⟨by have h := HF.out; rw [rowP, HST.out] at h; exact h⟩, HQ7, HOB7⟩
     ·
      have b2 : (p2 == 0) = false := beq_eq_false_iff_ne.mpr hp20
      have HP20 := az hp20
      clear hp20
      go_upto_region 13 with (first | (go_at_call 52; go_must (refine (mustI_calls k gb A0 c0 rs A1 c1 ws (some ad5) c2 bs wide fr y _ HFQ.out HL.out.1 HL.out.2.1 HY.out.1 HL.out.2.2.1 HL.out.2.2.2).mono ?_); rw [HY.out.2.1]; rintro e1 w4 ⟨rfl, hd4⟩; have HQ4 := az (HQ.out.below hd4.below); have HOB4 := az (blk_below HOB.out hd4.below); have HFQ4 := az (HFL.out.keptM HMO.out HQ4.out.2.2.2.2); have q1 := (blk_cell HQ4.out.1 0).trans (show _ = some (Value.pointer (some ⟨gb, 0, none⟩)) from rfl); have q1b := (blk_cell HQ4.out.1 1).trans (show _ = some (Value.map (some mb)) from rfl); have q5 := (blk_cell HFQ4.out.1 2).trans (show _ = some (Value.slice (some ad5) bs.length c2) from rfl); have hx5 := at_int_some HFQ4.out.2.2.2.2.2.1 (n1 : Int) h0 h1; rw [HZ5.out, Int.toNat_natCast] at hx5; clear hd4) | (go_at_call 53; go_must (refine (fitsI_calls k gb A0 c0 rs A1 c1 ws (some ad5) c2 bs wide (fr : Int) (e : Int) (W fr e) _ HFQ4.out (HW.out fr e (Nat.le_of_lt HE.out.1) HER.out)).mono ?_); rw [show decide (W fr e ≤ wide) = true from HFI.out]; rintro e1 w5 ⟨rfl, hb5⟩; have HQ5 := az (HQ4.out.below hb5); have HOB5 := az (blk_below HOB4.out hb5); have HFQ5 := az (HFL.out.keptM HMO.out HQ5.out.2.2.2.2); have q1 := (blk_cell HQ5.out.1 0).trans (show _ = some (Value.pointer (some ⟨gb, 0, none⟩)) from rfl); have q1b := (blk_cell HQ5.out.1 1).trans (show _ = some (Value.map (some mb)) from rfl); clear hb5) | (go_at_call 168; go_must (refine (IH.out e f1 _ HE.out.1 HER.out HFQ5.out HQ5.out.2.2.1).mono ?_); rw [HP1.out, HP2.out]; rintro e1 w6 ⟨rfl, f2, hk6, ha6, hg6⟩; have HQ6 := az (HQ5.out.rec hk6 ha6 HE.out.1 hg6); have HOB6 := az (blk_keptM HOB5.out HQ5.out.2.2.1.1.obj hg6); clear hk6 ha6 hg6))
      obtain ⟨R, hR⟩ : ∃ R, w6.heap.size = R := ⟨_, rfl⟩
      obtain ⟨wo, hwo⟩ : ∃ wo, w6.alloc (.cells #[.int .i64 p1, .int .i64 p2] 143) = wo := ⟨_, rfl⟩
      have hb6 : Below w6.heap.size w6 wo := by rw [← hwo]; exact below_alloc (Below.refl _ _) _
      have HQo := az (HQ6.out.below hb6)
      have HOBo := az (blk_below HOB6.out hb6)
      have HRo : Aside0 (wo.heap[R]? = some (.cells #[.int .i64 p1, .int .i64 p2] 143 (0, 0))) := ⟨by rw [← hwo, ← hR]; exact blk_new w6 _⟩
      have HFQo := az (HFL.out.keptM HMO.out HQo.out.2.2.2.2)
      rw [hwo, hR]
      clear hwo hR hb6 HQ6 HOB6 q1 q1b q5 hx5
      obtain ⟨cc, hcc⟩ : ∃ cc, costV bs W wide fr e = cc := ⟨_, rfl⟩
      have hw5 : wrap64 (p1 + cc) = p1 + cc := add_fit p1 cc (by rw [← HP1.out]; exact (HPB.out e HER.out).1) (by rw [← HP1.out]; exact (HPB.out e HER.out).2) (by rw [← hcc]; exact (cost_fit bs W wide fr e (HWB.out fr e (Nat.le_of_lt HE.out.1) HER.out)).1) (by rw [← hcc]; exact (cost_fit bs W wide fr e (HWB.out fr e (Nat.le_of_lt HE.out.1) HER.out)).2)
      have hw6 : IntKind.i64.wrap (p1 + cc) = p1 + cc := by rw [i64_w]; exact hw5
      have HCC : Aside0 ((if bs.getD n1 0 = 2 then 0 else (wide - W fr e) * (wide - W fr e)) = cc) := ⟨by rw [← hcc, costV, show e - 1 = n1 from by rw [HN1.out]; rfl]⟩
      have HCV := az hcc
      clear hcc
      go_cut [10] (fun v10 wc => v10 = .int .i64 (p1 + cc) ∧ Aside0 (Below wo.heap.size wo wc))
      case first =>
       have hS : PcI w.heap.size gb R p1 wo wo := ⟨(blk_cell HQo.out.1 0).trans rfl, (blk_cell HRo.out 0).trans rfl, ⟨Below.refl _ _⟩⟩
       unfold PcI at hS
       have HM1 := az (show (e : Int) - 1 = (n1 : Int) by rw [HN1.out]; omega)
       have HM2 := az (show n1 < bs.length by omega)
       go_region_held3 (fun V => V.cell? ⟨w.heap.size, 0, none⟩ = some (.pointer (some ⟨gb, 0, none⟩)) ∧ V.cell? ⟨R, 0, none⟩ = some (.int .i64 p1) ∧ Aside0 (Below wo.heap.size wo V)) (first | (with_reducible assumption) | (with_reducible exact PcI.via zH zH) | (with_reducible exact PcI.drew zH)) (first
        | (go_at_call 51; refine (costI_calls k gb A0 c0 rs A1 c1 ws (some ad5) c2 bs wide (fr : Int) (e : Int) (W fr e) n1 _ ?s1 HM1.out HM2.out (HW.out fr e (Nat.le_of_lt HE.out.1) HER.out) (HWB.out fr e (Nat.le_of_lt HE.out.1) HER.out)).mono ?_; (case s1 => exact HFQo.out.below (show PcI w.heap.size gb R p1 wo _ from zH).2.2.out); rw [HCC.out]; rintro e1 w7 ⟨rfl, p⟩))
       all_goals
        go_wp2
        go_meet
        exact ⟨rfl, (show PcI w.heap.size gb R p1 wo _ from zH).2.2⟩
      case rest =>
       obtain ⟨rfl, HBC⟩ := hcut
       have HQc := az (HQo.out.below HBC.out)
       have HOBc := az (blk_below HOBo.out HBC.out)
       obtain ⟨cu1, cu2⟩ := cur
       have o1 := (blk_cell HOBc.out 0).trans (show _ = some (Value.int .i64 cu1) from rfl)
       have o2 := (blk_cell HOBc.out 1).trans (show _ = some (Value.int .i64 cu2) from rfl)
       have o3 := blk_frozen HOBc.out 0
       have o4 := blk_frozen HOBc.out 1
       have HNE : Aside0 (¬ (bs.getD (e - 1) 0 = 0 ∨ fitV W wide fr e = false ∨ (P e).2 = 0)) := ⟨by
        rintro (h | h | h)
        · exact HZ0.out (HZZ.out.symm.trans h)
        · rw [HFI.out] at h; cases h
        · exact HP20.out (HP2.out.symm.trans h)⟩
       by_cases hc2 : cu2 = 0 ∨ p1 + cc < cu1
       ·
        have HST : Aside0 (stepP bs (fitV W wide) (costV bs W wide) P fr e (cu1, cu2) = (p1 + cc, (e : Int))) := ⟨by rw [stepP, if_neg HNE.out, HP1.out, HCV.out, if_pos hc2]⟩
        have HSQ := az ((HQc.out.set HMB.out ⟨w.heap.size + 1 + 1 + 1, 0, none⟩ (.int .i64 (p1 + cc)) (by simp; omega) (by simp) (by simp; omega)).set HMB.out ⟨w.heap.size + 1 + 1 + 1, 1, none⟩ (.int .i64 (e : Int)) (by simp; omega) (by simp) (by simp; omega))
        have HSO := az (blk_put (blk_put HOBc.out 0 (.int .i64 (p1 + cc)) rfl) 1 (.int .i64 (e : Int)) rfl)
        by_cases hc3 : cu2 = 0
        ·
         have b3 : (cu2 == 0) = true := beq_iff_eq.mpr hc3
         clear hc2 hc3
         go_wp2
         go_roundg g
         case measure => have := HGG.out; omega
         case rel => exact ⟨e + 1, g, (p1 + cc, (e : Int)), f2, by simp, Nat.le_refl _, HEN, ⟨by have h := HF.out; rw [rowP, HST.out] at h; exact h⟩, HSQ, HSO⟩
        ·
         have b3 : (cu2 == 0) = false := beq_eq_false_iff_ne.mpr hc3
         have hlt3 : p1 + cc < cu1 := hc2.resolve_left hc3
         clear hc2 hc3
         go_wp2
         go_roundg g
         case measure => have := HGG.out; omega
         case rel => exact ⟨e + 1, g, (p1 + cc, (e : Int)), f2, by simp, Nat.le_refl _, HEN, ⟨by have h := HF.out; rw [rowP, HST.out] at h; exact h⟩, HSQ, HSO⟩
       ·
        have HST : Aside0 (stepP bs (fitV W wide) (costV bs W wide) P fr e (cu1, cu2) = (cu1, cu2)) := ⟨by rw [stepP, if_neg HNE.out, HP1.out, HCV.out, if_neg hc2]⟩
        have b3 : (cu2 == 0) = false := beq_eq_false_iff_ne.mpr (fun h => hc2 (.inl h))
        have hlt3 : ¬ p1 + cc < cu1 := fun h => hc2 (.inr h)
        clear hc2
        go_wp2
        go_roundg g
        case measure => have := HGG.out; omega
        case rel => exact ⟨e + 1, g, (cu1, cu2), f2, by simp, Nat.le_refl _, HEN, ⟨by have h := HF.out; rw [rowP, HST.out] at h; exact h⟩, HQc, HOBc⟩
theorem planI_calls (k : Nat) (gb : Nat) (A0 : Option Addr) (c0 : Nat) (rs : List Int) (A1 : Option Addr) (c1 : Nat) (ws : List Int) (A2 : Option Addr) (c2 : Nat) (bs : List Int) (wide : Int) (W : Nat → Nat → Int) (M : Nat → Nat) (P : Nat → Int × Int) (mb : Nat) (hn : rs.length ≤ 1000) (hbl : bs.length = rs.length) (hW : ∀ i j : Nat, i ≤ j → j ≤ rs.length → impl_lineWide.f k rs ws (i : Int) (j : Int) = some (W i j)) (hM : ∀ i : Nat, i < rs.length → ∃ x, slices_Index_int_int.f k (bs.drop i) 2 = some x ∧ (i : Int) + x + 1 = (M i : Int) ∧ i < M i ∧ M i ≤ rs.length) (hP : IsPlan bs (fitV W wide) (costV bs W wide) M rs.length P) (hWb : ∀ i j : Nat, i ≤ j → j ≤ rs.length → (wide - W i j).natAbs ≤ 1000000000) (hPb : ∀ j, j ≤ rs.length → 0 ≤ (P j).1 ∧ (P j).1 ≤ 1000000000000000) : ∀ (d fr : Nat) (f : Int → Option (Int × Int)) (w : World), rs.length - fr ≤ d → fr ≤ rs.length → FlO 69 gb A0 c0 rs A1 c1 ws A2 c2 bs wide w → KnO P rs.length mb f w →
  Calls Tryz.prog 168 #[.agg #[.pointer (some ⟨gb, 0, none⟩), .map (some mb)], .int .i64 fr] w fun x w' => x = .returned (.agg #[.int .i64 (P fr).1, .int .i64 (P fr).2]) ∧ ∃ f', KnO P rs.length mb f' w' ∧ (∀ a : Int, a < (fr : Int) → f' a = f a) ∧ w.grownBy w' (some mb) := by
 have hend : ∀ (f : Int → Option (Int × Int)) (w : World), FlO 69 gb A0 c0 rs A1 c1 ws A2 c2 bs wide w → KnO P rs.length mb f w → Calls Tryz.prog 168 #[.agg #[.pointer (some ⟨gb, 0, none⟩), .map (some mb)], .int .i64 rs.length] w fun x w' => x = .returned (.agg #[.int .i64 (P rs.length).1, .int .i64 (P rs.length).2]) ∧ ∃ f', KnO P rs.length mb f' w' ∧ (∀ a : Int, a < (rs.length : Int) → f' a = f a) ∧ w.grownBy w' (some mb) := fun f w hf hk => by
  refine (planI_end gb A0 c0 rs A1 c1 ws A2 c2 bs wide mb w hf).mono ?_
  rintro e w' ⟨rfl, hb⟩
  rw [hP.1]
  exact ⟨rfl, f, hk.below hb, fun _ _ => rfl, grown_of_below hb _⟩
 intro d
 induction d with
 | zero =>
  intro fr f w hd hfr hf hk
  obtain rfl : fr = rs.length := by omega
  exact hend f w hf hk
 | succ d ih =>
  intro fr f w hd hfr hf hk
  by_cases he : fr = rs.length
  ·
   subst he
   exact hend f w hf hk
  ·
   have hlt : fr < rs.length := by omega
   cases hv : f (fr : Int) with
   | none => exact planI_body k gb A0 c0 rs A1 c1 ws A2 c2 bs wide W M P mb hn hbl hW hM hP hWb hPb fr hlt (fun e f1 w1 h1 h2 h3 h4 => ih e f1 w1 (by omega) h2 h3 h4) f w hf hk hv
   | some v =>
    obtain ⟨j, hj, _, hj2⟩ := hk.2 _ _ hv
    obtain rfl : fr = j := by omega
    subst hj2
    refine (planI_known gb A0 c0 rs A1 c1 ws A2 c2 bs wide P mb fr (P fr) f w hn hlt hf hk hv).mono ?_
    rintro e w' ⟨rfl, hb⟩
    exact ⟨rfl, f, hk.below hb, fun _ _ => rfl, grown_of_below hb _⟩
theorem R_keptM {W W' : World} {base mb : Nat} {ok : Nat → Prop} {v : Value} {xs : List Int} (h : Kd.R (Kd.int .i64) 3 W base ok v xs) (hm : ∃ es c, W.heap[mb]? = some (.map es c)) (hg : W.grownBy W' (some mb)) : Kd.R (Kd.int .i64) 3 W' base (fun _ => True) v xs := by
 obtain ⟨es, c, hm⟩ := hm
 refine Kd.R_mono (Kd.R_move (Kd.R_bound h) (fun k hk => hg.block k hk.2.2.1 (fun e => ?_))) (fun _ _ => trivial)
 obtain ⟨_, _, _, q, _, cells, hc⟩ := hk
 obtain rfl := Option.some.inj e
 rw [hm] at hc
 cases hc
def outP (P : Nat → Int × Int) (n : Nat) : Nat → Nat → Option (Option (List Int))
 | 0, at_ => if at_ < n then none else some (some [])
 | g + 1, at_ => if at_ < n then (if (P at_).2 = 0 then some none else if 0 ≤ (P at_).2 ∧ (P at_).2 ≤ (n : Int) then (outP P n g (P at_).2.toNat).bind fun l => some (l.map fun l => (P at_).2 :: l) else none) else some (some [])
theorem fldPlan (a b : Int) (w : World) : (Instr.field 143 (.agg #[.int .i64 a, .int .i64 b]) 1).run Tryz.prog w = .ok (.int .i64 b) w := by kernel_rfl
theorem endsB_calls (k : Nat) (gb : Nat) (A0 : Option Addr) (c0 : Nat) (rs : List Int) (A1 : Option Addr) (c1 : Nat) (ws : List Int) (A2 : Option Addr) (c2 : Nat) (bs : List Int) (wide : Int) (W : Nat → Nat → Int) (M : Nat → Nat) (N : Nat → Int) (P : Nat → Int × Int) (mb : Nat) (ss r : List Int) (w : World) (hf : FlO 69 gb A0 c0 rs A1 c1 ws A2 c2 bs wide w) (hk : KnO P rs.length mb (fun _ => none) w) (hn : rs.length ≤ 1000) (hbl : bs.length = rs.length) (hW : ∀ i j : Nat, i ≤ j → j ≤ rs.length → impl_lineWide.f k rs ws (i : Int) (j : Int) = some (W i j)) (hM : ∀ i : Nat, i < rs.length → ∃ x, slices_Index_int_int.f k (bs.drop i) 2 = some x ∧ (i : Int) + x + 1 = (M i : Int) ∧ i < M i ∧ M i ≤ rs.length) (hP : IsPlan bs (fitV W wide) (costV bs W wide) M rs.length P) (hWb : ∀ i j : Nat, i ≤ j → j ≤ rs.length → (wide - W i j).natAbs ≤ 1000000000) (hPb : ∀ j, j ≤ rs.length → 0 ≤ (P j).1 ∧ (P j).1 ≤ 1000000000000000) (hs : impl_starts.f k rs = some ss) (hsl : ss.length ≤ 999) (hss : ∀ t, t ∈ ss → 0 ≤ t ∧ t ≤ (rs.length : Int)) (hN : ∀ i : Nat, i < rs.length → nextI bs (fitV W wide) (ss ++ [(rs.length : Int)]) i (M i) = some (N i)) (hr : ((outP P rs.length rs.length 0).bind fun o => match o with | some l => some l | none => greedyN N rs.length rs.length 0) = some r) :
  Calls Tryz.prog 167 #[.agg #[.pointer (some ⟨gb, 0, none⟩), .map (some mb)]] w fun e w' => ∃ v0_ : Value, e = .returned v0_ ∧ Kd.R (Kd.int .i64) 3 w' w.heap.size (fun _ => True) v0_ r ∧ w.grownBy w' (some mb) := by
 obtain ⟨W3, hW3⟩ : ∃ W3, w.alloc (.cells #[.pointer (some ⟨gb, 0, none⟩), .map (some mb)] 84) = W3 := ⟨_, rfl⟩
 have hB3 : Below w.heap.size w W3 := by rw [← hW3]; exact below_alloc (Below.refl _ _) _
 have HX3 : Aside0 (W3.heap[w.heap.size]? = some (.cells #[.pointer (some ⟨gb, 0, none⟩), .map (some mb)] 84 (0, 0))) := ⟨by rw [← hW3]; exact blk_new w _⟩
 have HK3 := az (hk.below hB3)
 have HG3 := az (grown_of_below hB3 (some mb))
 replace hr := Option.bind_eq_some_iff.mp hr
 obtain ⟨o, ho, hr⟩ := hr
 have HOO := az ho
 have HRR := az hr
 have HFL := az hf
 have HMB := az hk.1.lt
 have HMO := az hk.1.obj
 have HW := az hW
 have HM := az hM
 have HBL := az hbl
 have HN := az hn
 have HNX := az hN
 have HP := az hP
 have HWB := az hWb
 have HPB := az hPb
 have HST := az hs
 have HSL := az hsl
 have HSS := az hss
 clear hf hk hW hM hbl hN hs hsl hss hr ho hP hWb hPb hB3
 have hfld := fldPlan
 go_enter Tryz.func167, Tryz.ntmps167
 go_upto_region 1 with fail
 clear hW3
 go_wp2
 go_loopg [3, 4] rs.length (fun gg s3 s4 wr => ∃ (i g : Nat) (out : List Int) (f1 : Int → Option (Int × Int)), s4 = .int .i64 i ∧ i ≤ rs.length ∧ g ≤ gg ∧ Aside0 (∃ ro, outP P rs.length g i = some ro ∧ o = ro.map (fun l => out ++ l)) ∧ Aside0 (out.length + g ≤ rs.length) ∧ Aside0 (Kd.R (Kd.int .i64) 3 wr w.heap.size (fun _ => True) s3 out) ∧ Aside0 (KnO P rs.length mb f1 wr) ∧ Aside0 (w.grownBy wr (some mb)) ∧ Aside0 (wr.heap[w.heap.size]? = some (.cells #[.pointer (some ⟨gb, 0, none⟩), .map (some mb)] 84 (0, 0))))
 case atStart => exact ⟨0, rs.length, [], fun _ => none, rfl, Nat.zero_le _, Nat.le_refl _, ⟨o, HOO.out, by cases o <;> rfl⟩, ⟨by simp⟩, ⟨Kd.R_nil _ _ _ _ _⟩, HK3, HG3, HX3⟩
 case round =>
  clear HOO HK3 HG3 HX3
  obtain ⟨i, g, out, f1, rfl, hi, hg, HF, HLO, HO, HK, HG, HBX⟩ := hrel
  obtain ⟨ro, hq, hro⟩ := HF.out
  have HQ := az (HFL.out.keptM HMO.out HG.out)
  have q0 := (blk_cell HQ.out.1 0).trans (show _ = some (Value.slice A0 rs.length c0) from rfl)
  have qb := (blk_cell HBX.out 0).trans (show _ = some (Value.pointer (some ⟨gb, 0, none⟩)) from rfl)
  have qb1 := (blk_cell HBX.out 1).trans (show _ = some (Value.map (some mb)) from rfl)
  have HLB := az (blk_lt HBX.out)
  by_cases hlt : i < rs.length
  ·
   have hltz : (i : Int) < (rs.length : Int) := by omega
   cases g with
   | zero => rw [outP, if_pos hlt] at hq; cases hq
   | succ g =>
   rw [outP, if_pos hlt] at hq
   have HIL := az hi
   have HGG := az hg
   clear hi hg HF
   by_cases hb : (P i).2 = 0
   ·
    rw [if_pos hb] at hq
    obtain rfl := Option.some.inj hq
    have HPI := az hb
    have hro2 : o = none := hro
    subst hro2
    clear hb hq hro hlt
    go_wp2_with (first
     | (go_at_call 168; go_must (refine (planI_calls k gb A0 c0 rs A1 c1 ws A2 c2 bs wide W M P mb HN.out HBL.out HW.out HM.out HP.out HWB.out HPB.out rs.length i f1 _ (Nat.sub_le _ _) HIL.out HQ.out HK.out).mono ?_); rw [HPI.out]; rintro e w2 ⟨rfl, f2, hk2, _, hg2⟩; have HG2 := az (HG.out.trans hg2); have HFQ2 := az (HFL.out.keptM HMO.out HG2.out); have HBX2 := az (blk_keptM HBX.out HK.out.1.obj hg2); have qc := (blk_cell HBX2.out 0).trans (show _ = some (Value.pointer (some ⟨gb, 0, none⟩)) from rfl); clear hk2 hg2)
     | (go_at_call 162; go_must (refine (endsG_calls k gb A0 c0 rs A1 c1 ws A2 c2 bs wide W M N ss r _ HFQ2.out HN.out HBL.out HW.out HM.out HST.out HSL.out HSS.out HNX.out HRR.out).mono ?_); rintro e w3 ⟨v3, rfl, ho3, hb3⟩; have HO3 := az ho3; have HB3 := az hb3; clear ho3 hb3))
    go_ret
    exact ⟨_, rfl, Kd.R_lower HO3.out HG2.out.size, gr_below HG2.out (HB3.out.mono HG2.out.size)⟩
   ·
    rw [if_neg hb] at hq
    by_cases hb2 : 0 ≤ (P i).2 ∧ (P i).2 ≤ (rs.length : Int)
    case neg => rw [if_neg hb2] at hq; cases hq
    case pos =>
    rw [if_pos hb2] at hq
    replace hq := Option.bind_eq_some_iff.mp hq
    obtain ⟨l, hl, hq⟩ := hq
    obtain rfl := Option.some.inj hq
    obtain ⟨x, hx⟩ : ∃ x : Nat, (P i).2 = x := ⟨(P i).2.toNat, by omega⟩
    rw [hx, Int.toNat_natCast] at hl
    rw [hx] at hb hb2 hro
    have hx0 : ((x : Int) == 0) = false := beq_eq_false_iff_ne.mpr hb
    have hx1 : ¬ x = 0 := by omega
    have HXV := az hx
    have HXB := az hb2.2
    have HLL := az hl
    have HRO := az hro
    clear hx hb2 hl hro hlt hb
    go_wp2_with (first
     | (go_at_call 168; go_must (refine (planI_calls k gb A0 c0 rs A1 c1 ws A2 c2 bs wide W M P mb HN.out HBL.out HW.out HM.out HP.out HWB.out HPB.out rs.length i f1 _ (Nat.sub_le _ _) HIL.out HQ.out HK.out).mono ?_); rw [HXV.out]; rintro e w2 ⟨rfl, f2, hk2, _, hg2⟩; have HG2 := az (HG.out.trans hg2); have HK2 := az hk2; have HBX2 := az (blk_keptM HBX.out HK.out.1.obj hg2); have HO2 := az (R_keptM HO.out HK.out.1.obj hg2); clear hk2 hg2)
     | ((with_reducible refine gate_builtin (b := .append) (xs := #[.tmp 23, .tmp 25]) rfl ?_); at_builtin; go_must (refine appI (w0 := w2) (base := w.heap.size) Tryz.underlying22 info3 rfl (.tmp 23) (.tmp 25) rfl _ out (x : Int) rfl rfl HO2.out (Below.refl _ _) HG2.out.size ?aL ?_); (case aL => have := HLO.out; have := HN.out; omega); intro v9 w9 ho9 hb9 hg9 hat9; have HO9 := az ho9; have HB9 := az hb9; have HBX9 := az (blk_grown HBX2.out hg9 (Kd.R_ne HO2.out HBX2.out (by decide))); clear ho9 hb9 hg9 hat9))
    go_roundg g
    case measure => have := HGG.out; omega
    case rel => exact ⟨x, g, _, f2, rfl, zE HXB.out, Nat.le_refl _, ⟨l, HLL.out, by rw [HRO.out]; cases l <;> simp⟩, ⟨by have := HLO.out; rw [List.length_append]; simp; omega⟩, HO9, ⟨HK2.out.1.same (HB9.out.block mb HMB.out), HK2.out.2⟩, ⟨gr_below HG2.out HB9.out⟩, HBX9⟩
  ·
   have hltz : ¬ (i : Int) < (rs.length : Int) := by omega
   have HRE : Aside0 (out = r) := by
    have h : ro = some [] := by
     cases g with
     | zero => rw [outP, if_neg hlt] at hq; exact (Option.some.inj hq).symm
     | succ g => rw [outP, if_neg hlt] at hq; exact (Option.some.inj hq).symm
    subst h
    subst hro
    have h2 := Option.some.inj HRR.out
    exact ⟨(List.append_nil out).symm.trans h2⟩
   clear hq hro HF
   go_wp2
   go_ret
   exact ⟨_, rfl, by rw [← HRE.out]; exact HO.out, HG.out⟩
def tabP (bs : List Int) (F : Nat → Nat → Bool) (C : Nat → Nat → Int) (M : Nat → Nat) (n : Nat) : Nat → Nat → Int × Int
 | 0 => fun _ => (0, (n : Int))
 | d + 1 => updV (tabP bs F C M n d) (n - 1 - d) (rowP bs F C (tabP bs F C M n d) (n - 1 - d) (M (n - 1 - d) - (n - 1 - d)) (n - 1 - d + 1) (0, 0))
theorem rowP_congr (bs : List Int) (F : Nat → Nat → Bool) (C : Nat → Nat → Int) {P Q : Nat → Int × Int} (a : Nat) : ∀ (g e : Nat) (cur : Int × Int), (∀ j, e ≤ j → j < e + g → P j = Q j) → rowP bs F C P a g e cur = rowP bs F C Q a g e cur
 | 0, _, _, _ => rfl
 | g + 1, e, cur, h => by
  rw [rowP, rowP, show stepP bs F C P a e cur = stepP bs F C Q a e cur by unfold stepP; rw [h e (Nat.le_refl _) (by omega)]]
  exact rowP_congr bs F C a g (e + 1) _ (fun j h1 h2 => h j (by omega) (by omega))
theorem tabP_keep (bs : List Int) (F : Nat → Nat → Bool) (C : Nat → Nat → Int) (M : Nat → Nat) (n d : Nat) (j : Nat) (hj : n - d ≤ j) : ∀ d', d + d' ≤ n → tabP bs F C M n (d + d') j = tabP bs F C M n d j
 | 0, _ => rfl
 | d' + 1, h => by
  rw [show d + (d' + 1) = d + d' + 1 from rfl, tabP, updV_ne _ _ (by omega)]
  exact tabP_keep bs F C M n d j hj d' (by omega)
theorem tabP_isPlan (bs : List Int) (F : Nat → Nat → Bool) (C : Nat → Nat → Int) (M : Nat → Nat) (n : Nat) (hM : ∀ i, i < n → M i ≤ n) : IsPlan bs F C M n (tabP bs F C M n n) := by
 refine ⟨?_, fun i hi => ?_⟩
 ·
  have h := tabP_keep bs F C M n 0 n (by omega) n (by omega)
  rw [Nat.zero_add] at h
  exact h
 ·
  have h1 := tabP_keep bs F C M n (n - 1 - i + 1) i (by omega) i (by omega)
  rw [show n - 1 - i + 1 + i = n by omega] at h1
  rw [h1, tabP, show n - 1 - (n - 1 - i) = i by omega, updV_at]
  refine rowP_congr bs F C i _ _ _ (fun j h2 h3 => ?_)
  have h4 := hM i hi
  have h5 := tabP_keep bs F C M n (n - 1 - i) j (by omega) (i + 1) (by omega)
  rw [show n - 1 - i + (i + 1) = n by omega] at h5
  exact h5.symm
def tabWI (k : Nat) (rs ws : List Int) : Nat → Nat → Int := fun i j => if i ≤ j ∧ j ≤ rs.length then (impl_lineWide.f k rs ws (i : Int) (j : Int)).getD 0 else 0
def okWI (k : Nat) (rs ws : List Int) : Prop := ∀ j, j ≤ rs.length → ∀ i, i ≤ j → (impl_lineWide.f k rs ws (i : Int) (j : Int)).isSome = true
instance (k : Nat) (rs ws : List Int) : Decidable (okWI k rs ws) := by unfold okWI; infer_instance
def tabMI (k : Nat) (bs : List Int) : Nat → Nat := fun i => if i < bs.length then ((i : Int) + (slices_Index_int_int.f k (bs.drop i) 2).getD 0 + 1).toNat else 0
def okMI (k : Nat) (bs : List Int) : Prop := ∀ i, i < bs.length → (slices_Index_int_int.f k (bs.drop i) 2).isSome = true ∧ 0 ≤ (slices_Index_int_int.f k (bs.drop i) 2).getD 0 ∧ tabMI k bs i ≤ bs.length
instance (k : Nat) (bs : List Int) : Decidable (okMI k bs) := by unfold okMI; infer_instance
def okI (bs : List Int) (W : Nat → Nat → Int) (M : Nat → Nat) (ss : List Int) (wide : Int) (n : Nat) : Prop :=
 n ≤ 1000 ∧ bs.length = n ∧ ss.length ≤ 999 ∧ (∀ t, t ∈ ss → 0 ≤ t ∧ t ≤ (n : Int)) ∧ (∀ j, j ≤ n → ∀ i, i ≤ j → (wide - W i j).natAbs ≤ 1000000000) ∧ (∀ j, j ≤ n → 0 ≤ (tabP bs (fitV W wide) (costV bs W wide) M n n j).1 ∧ (tabP bs (fitV W wide) (costV bs W wide) M n n j).1 ≤ 1000000000000000) ∧ ∀ i, i < n → (nextI bs (fitV W wide) (ss ++ [(n : Int)]) i (M i)).isSome = true
instance (bs : List Int) (W : Nat → Nat → Int) (M : Nat → Nat) (ss : List Int) (wide : Int) (n : Nat) : Decidable (okI bs W M ss wide n) := by unfold okI; infer_instance
def linesI (bs : List Int) (W : Nat → Nat → Int) (M : Nat → Nat) (ss : List Int) (wide : Int) (n : Nat) (mode : Int) : Option (List Int) :=
 if okI bs W M ss wide n then
  (if mode = 0 then greedyN (fun i => (nextI bs (fitV W wide) (ss ++ [(n : Int)]) i (M i)).getD 0) n n 0
  else if mode = 1 then (outP (tabP bs (fitV W wide) (costV bs W wide) M n n) n n 0).bind fun o => match o with | some l => some l | none => greedyN (fun i => (nextI bs (fitV W wide) (ss ++ [(n : Int)]) i (M i)).getD 0) n n 0
  else some [])
 else none
def impl_FillLines.f (k : Nat) (l0 : List Int) (l1 : List S50) (a2 a3 : Int) : Option (List Int) :=
 (impl_fillable.f k l0 l1 a2).bind fun a => if a = true then (impl_widesOf.f k l0 l1).bind fun ws => (impl_breaks.f k l0).bind fun bs => (impl_starts.f k l0).bind fun ss => if okWI k l0 ws then (if okMI k bs then linesI bs (tabWI k l0 ws) (tabMI k bs) ss a2 l0.length a3 else none) else none else some []
theorem tabWI_up {k : Nat} {rs ws : List Int} (h : okWI k rs ws) : okWI (k + 1) rs ws ∧ tabWI (k + 1) rs ws = tabWI k rs ws := by
 have e : ∀ j, j ≤ rs.length → ∀ i, i ≤ j → impl_lineWide.f (k + 1) rs ws (i : Int) (j : Int) = impl_lineWide.f k rs ws (i : Int) (j : Int) := fun j hj i hi => by
  obtain ⟨x, hx⟩ := Option.isSome_iff_exists.mp (h j hj i hi)
  rw [hx]
  exact impl_lineWide.mono _ _ _ _ _ _ hx
 refine ⟨fun j hj i hi => by rw [e j hj i hi]; exact h j hj i hi, ?_⟩
 funext i j
 unfold tabWI
 split
 ·
  rename_i hh
  rw [e j hh.2 i hh.1]
 · rfl
theorem tabMI_up {k : Nat} {bs : List Int} (h : okMI k bs) : okMI (k + 1) bs ∧ tabMI (k + 1) bs = tabMI k bs := by
 have e : ∀ i, i < bs.length → slices_Index_int_int.f (k + 1) (bs.drop i) 2 = slices_Index_int_int.f k (bs.drop i) 2 := fun i hi => by
  obtain ⟨x, hx⟩ := Option.isSome_iff_exists.mp (h i hi).1
  rw [hx]
  exact slices_Index_int_int.mono _ _ _ _ hx
 have e2 : tabMI (k + 1) bs = tabMI k bs := by
  funext i
  unfold tabMI
  split
  ·
   rename_i hh
   rw [e i hh]
  · rfl
 exact ⟨fun i hi => by rw [e i hi, e2]; exact h i hi, e2⟩
theorem impl_FillLines.mono : ∀ a0 a1 a2 a3 k, LeO (impl_FillLines.f k a0 a1 a2 a3) (impl_FillLines.f (k + 1) a0 a1 a2 a3) := by
 intro a0 a1 a2 a3 k
 unfold impl_FillLines.f
 refine LeO.bind (impl_fillable.mono _ _ _ _) (fun a => LeO.ite (LeO.bind (impl_widesOf.mono _ _ _) (fun ws => LeO.bind (impl_breaks.mono _ _) (fun bs => LeO.bind (impl_starts.mono _ _) (fun ss => ?_)))) (LeO.refl _))
 intro r hr
 by_cases h1 : okWI k a0 ws
 ·
  rw [if_pos h1] at hr
  by_cases h2 : okMI k bs
  ·
   rw [if_pos h2] at hr
   rw [if_pos (tabWI_up h1).1, if_pos (tabMI_up h2).1, (tabWI_up h1).2, (tabMI_up h2).2]
   exact hr
  · rw [if_neg h2] at hr; cases hr
 · rw [if_neg h1] at hr; cases hr
theorem methG (n : Nat) (v : Value) (w : World) : (method (n + 1) 81 v "loop.example/colophon/impl.ends").run Tryz.prog w = .ok (162, v) w := by kernel_rfl
theorem methB (n : Nat) (v : Value) (w : World) : (method (n + 1) 84 v "loop.example/colophon/impl.ends").run Tryz.prog w = .ok (167, v) w := by kernel_rfl
theorem cntF_none : ∀ m, cntF (fun _ => none) m = 0
 | 0 => rfl
 | m + 1 => by rw [cntF, cntF_none m]; rfl
theorem fillingG_calls (gb : Nat) (w : World) : Calls Tryz.prog 41 #[.pointer (some ⟨gb, 0, none⟩), .int .i64 0] w fun e w' => e = .returned (.iface 81 (.agg #[.pointer (some ⟨gb, 0, none⟩)])) ∧ w' = w := by
 go_enter Tryz.func41, Tryz.ntmps41
 go_wp2
 go_ret
 exact ⟨rfl, rfl⟩
theorem fillingB_calls (gb : Nat) (w : World) : Calls Tryz.prog 41 #[.pointer (some ⟨gb, 0, none⟩), .int .i64 1] w fun e w' => e = .returned (.iface 84 (.agg #[.pointer (some ⟨gb, 0, none⟩), .map (some w.heap.size)])) ∧ w' = w.alloc (.map #[] 0) := by
 have hmm := @run_makeMap Tryz.prog
 go_enter Tryz.func41, Tryz.ntmps41
 go_wp2
 go_ret
 exact ⟨rfl, rfl⟩
theorem fillingN_calls (gb : Nat) (m : Int) (w : World) (h0 : m ≠ 0) (h1 : m ≠ 1) : Calls Tryz.prog 41 #[.pointer (some ⟨gb, 0, none⟩), .int .i64 m] w fun e w' => e = .returned .nilIface ∧ w' = w := by
 have b0 : (m == 0) = false := beq_eq_false_iff_ne.mpr h0
 have b1 : (m == 1) = false := beq_eq_false_iff_ne.mpr h1
 clear h0 h1
 go_enter Tryz.func41, Tryz.ntmps41
 go_wp2
 go_ret
 exact ⟨rfl, rfl⟩
theorem impl_FillLines.calls (k : Nat) (A0 : Option Addr) (c0 : Nat) (l0 : List Int) (A1 : Option Addr) (c1 : Nat) (l1 : List S50) (a2 : Int) (a3 : Int) (r : List Int) (w : World) (hr0 : Kd.C (Kd.int .i64) w A0 l0.length l0) (hc0 : l0.length ≤ c0) (hr1 : Kd.C k50 w A1 l1.length l1) (hc1 : l1.length ≤ c1) (h : impl_FillLines.f k l0 l1 a2 a3 = some r) :
  Calls Tryz.prog 15 #[.slice A0 l0.length c0, .slice A1 l1.length c1, .int .i64 a2, .int .i64 a3] w fun e w' => ∃ v0_ : Value, e = .returned (v0_) ∧ Kd.R (Kd.int .i64) 3 w' w.heap.size (fun _ => True) v0_ r ∧ Below w.heap.size w w' := by
 have HR := az hr0
 have HC := az hc0
 have HR1 := az hr1
 have HC1 := az hc1
 clear hr0 hc0 hr1 hc1
 unfold impl_FillLines.f at h
 replace h := Option.bind_eq_some_iff.mp h
 obtain ⟨a, ha, h⟩ := h
 have HA := az ha
 clear ha
 cases a
 ·
  rw [if_neg (by decide)] at h
  obtain rfl := Option.some.inj h
  clear h
  go_enter Tryz.func15, Tryz.ntmps15
  go_wp2_with (go_at_call 39; go_must (refine (impl_fillable.calls k A0 c0 l0 A1 c1 l1 a2 false _ HR.out HC.out HR1.out HC1.out HA.out).mono ?_); rintro e w1 ⟨rfl, hb1⟩; have HB1 := az hb1; clear hb1)
  go_ret
  exact ⟨_, rfl, Kd.R_nil _ _ _ _ _, HB1.out⟩
 rw [if_pos rfl] at h
 replace h := Option.bind_eq_some_iff.mp h
 obtain ⟨ws, hws, h⟩ := h
 replace h := Option.bind_eq_some_iff.mp h
 obtain ⟨bs, hbs, h⟩ := h
 replace h := Option.bind_eq_some_iff.mp h
 obtain ⟨ss, hss, h⟩ := h
 by_cases h1 : okWI k l0 ws
 case neg => rw [if_neg h1] at h; cases h
 case pos =>
 rw [if_pos h1] at h
 by_cases h2 : okMI k bs
 case neg => rw [if_neg h2] at h; cases h
 case pos =>
 rw [if_pos h2] at h
 unfold linesI at h
 by_cases h3 : okI bs (tabWI k l0 ws) (tabMI k bs) ss a2 l0.length
 case neg => rw [if_neg h3] at h; cases h
 case pos =>
 rw [if_pos h3] at h
 have HW : Aside0 (∀ i j : Nat, i ≤ j → j ≤ l0.length → impl_lineWide.f k l0 ws (i : Int) (j : Int) = some (tabWI k l0 ws i j)) := ⟨fun i j hi hj => by
  obtain ⟨x, hx⟩ := Option.isSome_iff_exists.mp (h1 j hj i hi)
  unfold tabWI
  rw [if_pos ⟨hi, hj⟩, hx]
  rfl⟩
 have HM : Aside0 (∀ i : Nat, i < l0.length → ∃ x, slices_Index_int_int.f k (bs.drop i) 2 = some x ∧ (i : Int) + x + 1 = (tabMI k bs i : Int) ∧ i < tabMI k bs i ∧ tabMI k bs i ≤ l0.length) := ⟨fun i hi => by
  have hib : i < bs.length := by rw [h3.2.1]; exact hi
  obtain ⟨h4, h5, h6⟩ := h2 i hib
  obtain ⟨x, hx⟩ := Option.isSome_iff_exists.mp h4
  rw [h3.2.1] at h6
  rw [hx] at h5
  have e : tabMI k bs i = ((i : Int) + x + 1).toNat := by
   unfold tabMI
   rw [if_pos hib, hx]
   rfl
  rw [e] at h6 ⊢
  simp only [Option.getD_some] at h5
  exact ⟨x, hx, by omega, by omega, h6⟩⟩
 have HNX : Aside0 (∀ i : Nat, i < l0.length → nextI bs (fitV (tabWI k l0 ws) a2) (ss ++ [(l0.length : Int)]) i (tabMI k bs i) = some ((nextI bs (fitV (tabWI k l0 ws) a2) (ss ++ [(l0.length : Int)]) i (tabMI k bs i)).getD 0)) := ⟨fun i hi => by
  obtain ⟨x, hx⟩ := Option.isSome_iff_exists.mp (h3.2.2.2.2.2.2 i hi)
  rw [hx]
  rfl⟩
 have HP : Aside0 (IsPlan bs (fitV (tabWI k l0 ws) a2) (costV bs (tabWI k l0 ws) a2) (tabMI k bs) l0.length (tabP bs (fitV (tabWI k l0 ws) a2) (costV bs (tabWI k l0 ws) a2) (tabMI k bs) l0.length l0.length)) := ⟨tabP_isPlan _ _ _ _ _ (fun i hi => by obtain ⟨_, _, _, _, h4⟩ := HM.out i hi; exact h4)⟩
 have HOK := az h3
 have HH := az h
 have HWS := az hws
 have HBS := az hbs
 have HSS := az hss
 clear h h1 h2 h3 hws hbs hss
 by_cases hm0 : a3 = 0
 ·
  subst hm0
  have HG := az ((if_pos rfl).symm.trans HH.out)
  have hmg := methG
  go_enter Tryz.func15, Tryz.ntmps15
  go_wp2_with (first
   | (go_at_call 39; go_must (refine (impl_fillable.calls k A0 c0 l0 A1 c1 l1 a2 true _ HR.out HC.out HR1.out HC1.out HA.out).mono ?_); rintro e w1 ⟨rfl, hb1⟩; have HB1 := az hb1; clear hb1)
   | (go_at_call 40; go_must (refine (newFiller_calls k A0 c0 l0 A1 c1 l1 a2 ws bs _ (Kd.C_below HR.out HB1.out) HC.out (Kd.C_below HR1.out HB1.out) HC1.out HWS.out HBS.out).mono ?_); rintro e w2 ⟨gb, A4, c4, A5, c5, rfl, hfl, hb2⟩; have HFL := az hfl; have HB2 := az (below_then HB1.out HB1.out.size hb2); clear hfl hb2)
   | (go_at_call 41; go_must (refine (fillingG_calls _ _).mono ?_); rintro e w3 ⟨rfl, rfl⟩)
   | (go_at_call 162; go_must (refine (endsG_calls k gb A0 c0 l0 A4 c4 ws A5 c5 bs a2 (tabWI k l0 ws) (tabMI k bs) _ ss r _ HFL.out HOK.out.1 HOK.out.2.1 HW.out HM.out HSS.out HOK.out.2.2.1 HOK.out.2.2.2.1 HNX.out HG.out).mono ?_); rintro e w4 ⟨v4, rfl, ho4, hb4⟩; have HO4 := az ho4; have HB4 := az hb4; clear ho4 hb4))
  go_ret
  exact ⟨_, rfl, Kd.R_lower HO4.out HB2.out.size, below_then HB2.out HB2.out.size HB4.out⟩
 ·
  by_cases hm1 : a3 = 1
  ·
   subst hm1
   have HG := az ((if_neg hm0).symm.trans HH.out)
   have HG1 := az ((if_pos rfl).symm.trans HG.out)
   clear hm0
   have hmb := methB
   go_enter Tryz.func15, Tryz.ntmps15
   go_wp2_with (first
    | (go_at_call 39; go_must (refine (impl_fillable.calls k A0 c0 l0 A1 c1 l1 a2 true _ HR.out HC.out HR1.out HC1.out HA.out).mono ?_); rintro e w1 ⟨rfl, hb1⟩; have HB1 := az hb1; clear hb1)
    | (go_at_call 40; go_must (refine (newFiller_calls k A0 c0 l0 A1 c1 l1 a2 ws bs _ (Kd.C_below HR.out HB1.out) HC.out (Kd.C_below HR1.out HB1.out) HC1.out HWS.out HBS.out).mono ?_); rintro e w2 ⟨gb, A4, c4, A5, c5, rfl, hfl, hb2⟩; have HFL := az hfl; have HB2 := az (below_then HB1.out HB1.out.size hb2); clear hfl hb2)
    | (go_at_call 41; go_must (refine (fillingB_calls _ _).mono ?_); rintro e w3 ⟨rfl, hw3⟩; have HMP : Aside0 (MapP w3 w2.heap.size 0 (fun _ => none)) := ⟨by rw [hw3]; exact MapP.made w2⟩; have HB23 : Aside0 (Below w2.heap.size w2 w3) := ⟨by rw [hw3]; exact below_alloc (Below.refl _ _) _⟩; clear hw3)
    | (go_at_call 167; go_must (refine (endsB_calls k gb A0 c0 l0 A4 c4 ws A5 c5 bs a2 (tabWI k l0 ws) (tabMI k bs) _ _ w2.heap.size ss r _ (HFL.out.below HB23.out) ⟨by rw [cntF_none]; exact HMP.out, fun a v h => by cases h⟩ HOK.out.1 HOK.out.2.1 HW.out HM.out HP.out (fun i j hi hj => HOK.out.2.2.2.2.1 j hj i hi) HOK.out.2.2.2.2.2.1 HSS.out HOK.out.2.2.1 HOK.out.2.2.2.1 HNX.out HG1.out).mono ?_); rintro e w4 ⟨v4, rfl, ho4, hg4⟩; have HO4 := az ho4; have HG4 := az hg4; clear ho4 hg4))
   go_ret
   have HB3 := below_then HB2.out HB2.out.size HB23.out
   exact ⟨_, rfl, Kd.R_lower HO4.out HB3.size, HB3.grown HG4.out HB3.size (fun k e => by cases e; exact HB2.out.size)⟩
  ·
   have HG := az ((if_neg hm0).symm.trans HH.out)
   have HG1 := az ((if_neg hm1).symm.trans HG.out)
   have HE : Aside0 ([] = r) := ⟨Option.some.inj HG1.out⟩
   have HM0 := az (And.intro hm0 hm1)
   clear hm0 hm1
   go_enter Tryz.func15, Tryz.ntmps15
   go_wp2_with (first
    | (go_at_call 39; go_must (refine (impl_fillable.calls k A0 c0 l0 A1 c1 l1 a2 true _ HR.out HC.out HR1.out HC1.out HA.out).mono ?_); rintro e w1 ⟨rfl, hb1⟩; have HB1 := az hb1; clear hb1)
    | (go_at_call 40; go_must (refine (newFiller_calls k A0 c0 l0 A1 c1 l1 a2 ws bs _ (Kd.C_below HR.out HB1.out) HC.out (Kd.C_below HR1.out HB1.out) HC1.out HWS.out HBS.out).mono ?_); rintro e w2 ⟨gb, A4, c4, A5, c5, rfl, hfl, hb2⟩; have HFL := az hfl; have HB2 := az (below_then HB1.out HB1.out.size hb2); clear hfl hb2)
    | (go_at_call 41; go_must (refine (fillingN_calls _ _ _ HM0.out.1 HM0.out.2).mono ?_); rintro e w3 ⟨rfl, rfl⟩))
   go_ret
   exact ⟨_, rfl, by rw [← HE.out]; exact Kd.R_nil _ _ _ _ _, HB2.out⟩
end Go.Proofs.YtmcdcogedcbndaaGreat.S
/- The next end by both texts: the last place that fits, else the last end of a cluster that fits, else the first end of a cluster. No condition beyond those stated. -/
namespace Go.Proofs.YtmcdcogedcbndaaGreat.Pure
open Go.RowKit Go.Proofs.YtmcdcogedcbndaaGreat.S Go.Proofs.YtmcdcogedcbndaaGreatW.PrintWords Go.Proofs.YtmcdcogedcbndaaGreatW.PrintLast
theorem find_up (r : Nat → Bool) (N t : Nat) (ht : t < N) (hr : r t = true) (hl : ∀ j, j < t → r j = false) : (List.range N).find? r = some t := by
 induction N with
 | zero => omega
 | succ N ih =>
  rw [List.range_succ, List.find?_append]
  by_cases h : t < N
  ·
   rw [ih h]
   rfl
  ·
   obtain rfl : t = N := by omega
   have : (List.range t).find? r = none := by
    rw [List.find?_eq_none]
    intro x hx
    rw [hl x (List.mem_range.mp hx)]
    decide
   rw [this]
   simp [hr]
theorem find_down (r : Nat → Bool) (N t : Nat) (ht : t < N) (hr : r t = true) (hl : ∀ j, t < j → j < N → r j = false) : (List.range N).reverse.find? r = some t := by
 induction N with
 | zero => omega
 | succ N ih =>
  rw [List.range_succ, List.reverse_append, List.reverse_singleton, List.singleton_append, List.find?_cons]
  by_cases h : t < N
  ·
   rw [hl N h (by omega)]
   exact ih h (fun j h1 h2 => hl j h1 (by omega))
  ·
   obtain rfl : t = N := by omega
   rw [hr]
def endsL (E : Nat → Bool) (n : Nat) : List Int := ((List.range (n + 1)).filter E).map Int.ofNat
theorem endsL_up (E : Nat → Bool) (n : Nat) (q : Int → Bool) (t : Nat) (ht : t ≤ n) (hE : E t = true) (hq : q (t : Int) = true) (hl : ∀ j, j < t → E j = true → q (j : Int) = false) : (endsL E n).find? q = some (t : Int) := by
 unfold endsL
 rw [List.find?_map, List.find?_filter, find_up _ (n + 1) t (by omega) (by simp only [Function.comp]; rw [hE]; simpa using hq) (fun j hj => ?_)]
 · rfl
 ·
  by_cases h : E j = true
  ·
   refine decide_eq_false (fun hc => ?_)
   have h2 := hc.2
   rw [show (q ∘ Int.ofNat) j = false from hl j hj h] at h2
   cases h2
  ·
   simp only [Bool.not_eq_true] at h
   simp [h]
theorem endsL_down (E : Nat → Bool) (n : Nat) (q : Int → Bool) (t : Nat) (ht : t ≤ n) (hE : E t = true) (hq : q (t : Int) = true) (hl : ∀ j, t < j → j ≤ n → E j = true → q (j : Int) = false) : (endsL E n).reverse.find? q = some (t : Int) := by
 unfold endsL
 rw [← List.map_reverse, ← List.filter_reverse, List.find?_map, List.find?_filter, find_down _ (n + 1) t (by omega) (by simp only [Function.comp]; rw [hE]; simpa using hq) (fun j hj hj2 => ?_)]
 · rfl
 ·
  by_cases h : E j = true
  ·
   refine decide_eq_false (fun hc => ?_)
   have h2 := hc.2
   rw [show (q ∘ Int.ofNat) j = false from hl j hj (by omega) h] at h2
   cases h2
  ·
   simp only [Bool.not_eq_true] at h
   simp [h]
theorem endsL_none (E : Nat → Bool) (n : Nat) (q : Int → Bool) (hl : ∀ j, j ≤ n → E j = true → q (j : Int) = false) : (endsL E n).reverse.find? q = none := by
 rw [List.find?_eq_none]
 intro x hx
 unfold endsL at hx
 rw [List.mem_reverse, List.mem_map] at hx
 obtain ⟨j, hj, rfl⟩ := hx
 obtain ⟨h1, h2⟩ := List.mem_filter.mp hj
 rw [show q (Int.ofNat j) = false from hl j (by have := List.mem_range.mp h1; omega) h2]
 decide
theorem nextN_snoc (bs : List Int) (F : Nat → Nat → Bool) (fr : Nat) : ∀ (g i : Nat) (b : Int), nextN bs F fr (g + 1) i b = if ¬ bs.getD (i + g - 1) 0 = 0 ∧ F fr (i + g) = true then ((i + g : Nat) : Int) else nextN bs F fr g i b
 | 0, i, b => rfl
 | g + 1, i, b => by
  rw [nextN, nextN_snoc bs F fr g (i + 1), show i + 1 + g = i + (g + 1) by omega]
  rfl
theorem next_down (bs : List Int) (F : Nat → Nat → Bool) (fr : Nat) (b : Int) : ∀ g, nextN bs F fr g (fr + 1) b = (match downN bs F fr g with | some t => (t : Int) | none => b)
 | 0 => rfl
 | g + 1 => by
  rw [nextN_snoc, downN, show fr + 1 + g - 1 = fr + g by omega, show fr + 1 + g = fr + g + 1 by omega]
  split
  · rfl
  · exact next_down bs F fr b g
theorem down_pos (bs : List Int) (F : Nat → Nat → Bool) (fr : Nat) : ∀ (g t : Nat), downN bs F fr g = some t → fr < t ∧ t ≤ fr + g
 | 0, t, h => by cases h
 | g + 1, t, h => by
  rw [downN] at h
  split at h
  ·
   obtain rfl := Option.some.inj h
   omega
  ·
   have := down_pos bs F fr g t h
   omega
theorem down_none (bs : List Int) (F : Nat → Nat → Bool) (fr : Nat) : ∀ g, downN bs F fr g = none → ∀ j, j < g → ¬ bs.getD (fr + j) 0 = 0 → F fr (fr + j + 1) = false
 | 0, _, j, hj, _ => absurd hj (Nat.not_lt_zero _)
 | g + 1, h, j, hj, hb => by
  rw [downN] at h
  split at h
  · cases h
  ·
   rename_i hn
   by_cases e : j = g
   ·
    subst e
    cases hF : F fr (fr + j + 1)
    · rfl
    · exact absurd ⟨hb, hF⟩ hn
   · exact down_none bs F fr g h j (by omega) hb
theorem forced_is (F : Nat → Nat → Bool) (J E : Nat → Bool) (n fr : Nat) (hfr : fr < n) (hE : ∀ i, fr < i → i ≤ n → (E i = true ↔ ¬ (i < n ∧ J i = true))) (hF : ∀ i j, fr < i → i ≤ j → j ≤ n → F fr j = true → F fr i = true) :
  ∀ (g i tq : Nat), i + g = n + 1 → fr < i → ((tq = fr ∧ ∀ e, fr < e → e < i → E e = false) ∨ (fr < tq ∧ tq < i ∧ E tq = true ∧ (∀ e, tq < e → e < i → E e = false) ∧ (F fr tq = true ∨ ∀ e, fr < e → e < tq → E e = false))) →
   ∃ t, forcedN F J n fr g i tq = t ∧ fr < t ∧ t ≤ n ∧ E t = true ∧ (F fr t = true ∨ ∀ e, fr < e → e < t → E e = false) ∧ ∀ e, t < e → e ≤ n → E e = true → F fr e = false
 | 0, i, tq, hi, hfi, h => by
  have hEn : E n = true := (hE n hfr (Nat.le_refl _)).mpr (fun h => by omega)
  rcases h with ⟨_, h⟩ | ⟨h1, h2, h3, h4, h5⟩
  ·
   have := h n hfr (by omega)
   rw [hEn] at this
   cases this
  ·
   refine ⟨tq, rfl, h1, by omega, h3, h5, fun e he hen hEe => ?_⟩
   have := h4 e he (by omega)
   rw [hEe] at this
   cases this
 | g + 1, i, tq, hi, hfi, h => by
  rw [forcedN]
  by_cases hJ : i < n ∧ J i = true
  ·
   rw [if_pos hJ]
   have hEi : E i = false := by
    cases hEi : E i
    · rfl
    · exact absurd hJ ((hE i hfi (by omega)).mp hEi)
   refine forced_is F J E n fr hfr hE hF g (i + 1) tq (by omega) (by omega) ?_
   rcases h with ⟨h1, h⟩ | ⟨h1, h2, h3, h4, h5⟩
   ·
    refine .inl ⟨h1, fun e he hei => ?_⟩
    by_cases q : e = i
    · rw [q]; exact hEi
    · exact h e he (by omega)
   ·
    refine .inr ⟨h1, by omega, h3, fun e he hei => ?_, h5⟩
    by_cases q : e = i
    · rw [q]; exact hEi
    · exact h4 e he (by omega)
  ·
   rw [if_neg hJ]
   have hEi : E i = true := (hE i hfi (by omega)).mpr hJ
   by_cases hq : fr < tq ∧ F fr i = false
   ·
    rw [if_pos hq]
    rcases h with ⟨h1, h⟩ | ⟨h1, h2, h3, h4, h5⟩
    · omega
    ·
     refine ⟨tq, rfl, h1, by omega, h3, h5, fun e he hen hEe => ?_⟩
     have hei : i ≤ e := by
      apply Decidable.byContradiction
      intro hc
      have := h4 e he (by omega)
      rw [hEe] at this
      cases this
     cases hFe : F fr e
     · rfl
     ·
      have := hF i e hfi hei hen hFe
      rw [hq.2] at this
      cases this
   ·
    rw [if_neg hq]
    refine forced_is F J E n fr hfr hE hF g (i + 1) i (by omega) (by omega) (.inr ⟨hfi, by omega, hEi, fun e he hei => by omega, ?_⟩)
    rcases h with ⟨h1, h⟩ | ⟨h1, h2, h3, h4, h5⟩
    · exact .inr (fun e he hei => h e he hei)
    ·
     refine .inl ?_
     cases hFi : F fr i
     · exact absurd ⟨h1, hFi⟩ hq
     · rfl
theorem next_is (bs : List Int) (F : Nat → Nat → Bool) (J E : Nat → Bool) (n fr : Nat) (hfr : fr < n) (hE : ∀ i, fr < i → i ≤ n → (E i = true ↔ ¬ (i < n ∧ J i = true))) (hF : ∀ i j, fr < i → i ≤ j → j ≤ n → F fr j = true → F fr i = true) (hm : fr < mustV bs n fr) (hmn : mustV bs n fr ≤ n) (hmb : ¬ bs.getD (mustV bs n fr - 1) 0 = 0) (hmE : E (mustV bs n fr) = true) :
  nextI bs F (endsL E n) fr (mustV bs n fr) = some (nextV bs F J n fr) ∧ (fr : Int) < nextV bs F J n fr ∧ nextV bs F J n fr ≤ (n : Int) := by
 obtain ⟨m, hme⟩ : ∃ m, mustV bs n fr = m := ⟨_, rfl⟩
 rw [hme] at hm hmn hmb hmE ⊢
 unfold nextI nextV
 rw [hme, next_down]
 cases hd : downN bs F fr (m - fr) with
 | some t =>
  have := down_pos bs F fr _ t hd
  dsimp only
  rw [if_pos (show (0 : Int) < (t : Int) by omega)]
  exact ⟨rfl, by omega, by omega⟩
 | none =>
  dsimp only
  rw [if_neg (show ¬ (0 : Int) < -1 by decide)]
  have hFm : F fr m = false := by
   have := down_none bs F fr _ hd (m - 1 - fr) (by omega) (by rw [show fr + (m - 1 - fr) = m - 1 by omega]; exact hmb)
   rwa [show fr + (m - 1 - fr) + 1 = m by omega] at this
  obtain ⟨t, ht, h1, h2, h3, h4, h5⟩ := forced_is F J E n fr hfr hE hF (n - fr) (fr + 1) fr (by omega) (by omega) (.inl ⟨rfl, fun e he hei => by omega⟩)
  rw [ht]
  by_cases hFt : F fr t = true
  ·
   have htm : t < m := by
    apply Decidable.byContradiction
    intro hc
    have := hF m t hm (by omega) h2 hFt
    rw [hFm] at this
    cases this
   rw [if_pos (show (t : Int) < (m : Int) by omega)]
   have hb : backN F fr m (endsL E n) = some (t : Int) := by
    refine endsL_down E n _ t h2 h3 ?_ (fun j hj hjn hEj => ?_)
    ·
     rw [decide_eq_true (show (fr : Int) < (t : Int) by omega), decide_eq_true (show (t : Int) ≤ (m : Int) by omega), Int.toNat_natCast, hFt]
     rfl
    · rw [Int.toNat_natCast, h5 j hj hjn hEj, Bool.and_false]
   rw [hb]
   exact ⟨rfl, by omega, by omega⟩
  ·
   have hFt2 : F fr t = false := by simpa using hFt
   have hfi : ∀ e, fr < e → e < t → E e = false := h4.resolve_left hFt
   have htm : t ≤ m := by
    apply Decidable.byContradiction
    intro hc
    have := hfi m hm (by omega)
    rw [hmE] at this
    cases this
   have hb : backN F fr m (endsL E n) = none := by
    refine endsL_none E n _ (fun j hjn hEj => ?_)
    by_cases hj : fr < j
    ·
     have hFj : F fr j = false := by
      by_cases hjt : j < t
      ·
       have := hfi j hj hjt
       rw [hEj] at this
       cases this
      ·
       by_cases hjt2 : j = t
       · rw [hjt2]; exact hFt2
       · exact h5 j (by omega) hjn hEj
     rw [Int.toNat_natCast, hFj, Bool.and_false]
    · rw [decide_eq_false (show ¬ (fr : Int) < (j : Int) by omega), Bool.false_and, Bool.false_and]
   rw [hb]
   have hf : (endsL E n).find? (fun t => decide ((fr : Int) < t)) = some (t : Int) := by
    refine endsL_up E n _ t h2 h3 (decide_eq_true (by omega)) (fun j hj hEj => ?_)
    refine decide_eq_false (fun hc => ?_)
    have := hfi j (by omega) hj
    rw [hEj] at this
    cases this
   dsimp only
   rw [hf]
   by_cases hlt : (t : Int) < (m : Int)
   ·
    rw [if_pos hlt]
    exact ⟨rfl, by omega, by omega⟩
   ·
    rw [if_neg hlt]
    obtain rfl : t = m := by omega
    exact ⟨rfl, by omega, by omega⟩
theorem must_first (bs : List Int) (n : Nat) : ∀ (g i p : Nat), i ≤ p → p < i + g → bs.getD p 0 = 2 → mustN bs n g i ≤ p + 1
 | 0, i, p, h1, h2, _ => by omega
 | g + 1, i, p, h1, h2, h3 => by
  rw [mustN]
  by_cases h : bs.getD i 0 = 2
  · rw [if_pos h]; omega
  ·
   rw [if_neg h]
   exact must_first bs n g (i + 1) p (by (by_cases q : p = i; (subst q; exact absurd h3 h); omega)) (by omega) h3
theorem must_is (bs : List Int) (n : Nat) : ∀ (g i : Nat), (∃ p, i ≤ p ∧ p < i + g ∧ bs.getD p 0 = 2) → i < mustN bs n g i ∧ mustN bs n g i ≤ i + g ∧ bs.getD (mustN bs n g i - 1) 0 = 2
 | 0, i, ⟨p, h1, h2, _⟩ => by omega
 | g + 1, i, ⟨p, h1, h2, h3⟩ => by
  rw [mustN]
  by_cases h : bs.getD i 0 = 2
  ·
   rw [if_pos h, Nat.add_sub_cancel]
   exact ⟨by omega, by omega, h⟩
  ·
   rw [if_neg h]
   have := must_is bs n g (i + 1) ⟨p, by (by_cases q : p = i; (subst q; exact absurd h3 h); omega), by omega, h3⟩
   exact ⟨by omega, by omega, this.2.2⟩
end Go.Proofs.YtmcdcogedcbndaaGreat.Pure
/- The best lines by both texts: one table for the other. -/
namespace Go.Proofs.YtmcdcogedcbndaaGreat.Pure
open Go.RowKit Go.Proofs.YtmcdcogedcbndaaGreat.S Go.Proofs.YtmcdcogedcbndaaGreatW.PrintWords Go.Proofs.YtmcdcogedcbndaaGreatW.PrintLast
def RB (n a : Nat) (b p : Int × Int) : Prop := p.1 = b.1 ∧ p.2 = (if b.2 < 0 then 0 else b.2) ∧ b.2 ≠ 0 ∧ 0 ≤ b.1 ∧ b.1 ≤ ((n - a : Nat) : Int) * 100000000000 ∧ (b.2 < 0 ∨ ((a : Int) < b.2 ∧ b.2 ≤ (n : Int)))
def HEq (n : Nat) (T P : Nat → Int × Int) (e : Nat) : Prop := (P e).1 = (T e).1 ∧ ((P e).2 = 0 ↔ (e < n ∧ (T e).2 < 0)) ∧ 0 ≤ (T e).1 ∧ (T e).1 ≤ ((n - e : Nat) : Int) * 100000000000
theorem step_rel (bs : List Int) (F : Nat → Nat → Bool) (C : Nat → Nat → Int) (n : Nat) (T P : Nat → Int × Int) (a e : Nat) (cur cup : Int × Int) (hae : a < e) (hen : e ≤ n) (hC : 0 ≤ C a e ∧ C a e ≤ 100000000000) (h : HEq n T P e) (hr : RB n a cur cup) : RB n a (stepB bs F C n T a e cur) (stepP bs F C P a e cup) := by
 obtain ⟨h1, h2, h3, h4⟩ := h
 unfold stepB stepP
 by_cases hs : bs.getD (e - 1) 0 = 0 ∨ F a e = false ∨ (e < n ∧ (T e).2 < 0)
 ·
  have hs2 : bs.getD (e - 1) 0 = 0 ∨ F a e = false ∨ (P e).2 = 0 := hs.imp_right (Or.imp_right h2.mpr)
  rw [if_pos hs, if_pos hs2]
  exact hr
 ·
  have hs2 : ¬ (bs.getD (e - 1) 0 = 0 ∨ F a e = false ∨ (P e).2 = 0) := fun h => hs (h.imp_right (Or.imp_right h2.mp))
  rw [if_neg hs, if_neg hs2]
  obtain ⟨r1, r2, r3, r4, r5, r6⟩ := hr
  have hz : cup.2 = 0 ↔ cur.2 < 0 := by
   rw [r2]
   split <;> omega
  by_cases hc : cur.2 < 0 ∨ C a e + (T e).1 < cur.1
  ·
   have hc2 : cup.2 = 0 ∨ (P e).1 + C a e < cup.1 := hc.imp hz.mpr (fun h => by rw [h1, r1]; omega)
   rw [if_pos hc, if_pos hc2]
   have e1 : ¬ (e : Int) < 0 := by omega
   refine ⟨by show (P e).1 + C a e = C a e + (T e).1; omega, by show (e : Int) = if (e : Int) < 0 then 0 else (e : Int); rw [if_neg e1], by show (e : Int) ≠ 0; omega, by show 0 ≤ C a e + (T e).1; omega, by show C a e + (T e).1 ≤ _; omega, .inr ⟨by show (a : Int) < (e : Int); omega, by show (e : Int) ≤ (n : Int); omega⟩⟩
  ·
   have hc2 : ¬ (cup.2 = 0 ∨ (P e).1 + C a e < cup.1) := fun h => hc (h.imp hz.mp (fun h => by rw [h1, r1] at h; omega))
   rw [if_neg hc, if_neg hc2]
   exact ⟨r1, r2, r3, r4, r5, r6⟩
theorem row_rel (bs : List Int) (F : Nat → Nat → Bool) (C : Nat → Nat → Int) (n : Nat) (T P : Nat → Int × Int) (a : Nat) (hC : ∀ e, a < e → e ≤ n → 0 ≤ C a e ∧ C a e ≤ 100000000000) : ∀ (g e : Nat) (cur cup : Int × Int), a < e → e + g ≤ n + 1 → (∀ j, e ≤ j → j < e + g → HEq n T P j) → RB n a cur cup → RB n a (rowB bs F C n T a g e cur) (rowP bs F C P a g e cup)
 | 0, _, _, _, _, _, _, hr => hr
 | g + 1, e, cur, cup, hae, hen, h, hr => by
  rw [rowB, rowP]
  exact row_rel bs F C n T P a hC g (e + 1) _ _ (by omega) (by omega) (fun j h1 h2 => h j (by omega) (by omega)) (step_rel bs F C n T P a e cur cup hae (by omega) (hC e hae (by omega)) (h e (Nat.le_refl _) (by omega)) hr)
theorem tabB_hi (bs : List Int) (F : Nat → Nat → Bool) (C : Nat → Nat → Int) (n : Nat) : ∀ d, d ≤ n → tabB bs F C n d n = (0, 0)
 | 0, _ => rfl
 | d + 1, h => by
  rw [tabB, updV_ne _ _ (by omega)]
  exact tabB_hi bs F C n d (by omega)
theorem tabP_hi (bs : List Int) (F : Nat → Nat → Bool) (C : Nat → Nat → Int) (M : Nat → Nat) (n : Nat) : ∀ d, d ≤ n → tabP bs F C M n d n = (0, (n : Int))
 | 0, _ => rfl
 | d + 1, h => by
  rw [tabP, updV_ne _ _ (by omega)]
  exact tabP_hi bs F C M n d (by omega)
theorem tab_rel (bs : List Int) (F : Nat → Nat → Bool) (C : Nat → Nat → Int) (M : Nat → Nat) (n : Nat) (hM : ∀ i, i < n → M i = mustV bs n i ∧ i < M i ∧ M i ≤ n) (hC : ∀ a e, a < e → e ≤ n → 0 ≤ C a e ∧ C a e ≤ 100000000000) : ∀ d, d ≤ n → ∀ j, n - d ≤ j → j < n → RB n j (tabB bs F C n d j) (tabP bs F C M n d j)
 | 0, _, j, h1, h2 => by omega
 | d + 1, h, j, h1, h2 => by
  have ih := tab_rel bs F C M n hM hC d (by omega)
  rw [tabB, tabP]
  by_cases hj : j = n - 1 - d
  ·
   rw [hj, updV_at, updV_at]
   obtain ⟨a, ha⟩ : ∃ a, n - 1 - d = a := ⟨_, rfl⟩
   rw [ha]
   obtain ⟨m1, m2, m3⟩ := hM a (by omega)
   rw [← m1]
   refine row_rel bs F C n _ _ a (fun e h1 h2 => hC a e h1 h2) (M a - a) (a + 1) _ _ (by omega) (by omega) (fun i hi1 hi2 => ?_) ⟨rfl, rfl, by decide, Int.le_refl _, by show (0 : Int) ≤ _; omega, .inl (by decide)⟩
   by_cases hin : i < n
   ·
    obtain ⟨r1, r2, r3, r4, r5, r6⟩ := ih i (by omega) hin
    refine ⟨r1, ?_, r4, r5⟩
    rw [r2]
    constructor
    ·
     intro q
     refine ⟨hin, ?_⟩
     split at q
     · assumption
     · exact absurd q r3
    ·
     intro q
     rw [if_pos q.2]
   ·
    obtain rfl : i = n := by omega
    rw [HEq, tabB_hi bs F C i d (by omega), tabP_hi bs F C M i d (by omega)]
    refine ⟨rfl, ⟨fun q => ?_, fun q => ?_⟩, Int.le_refl _, by show (0 : Int) ≤ _; omega⟩
    ·
     have q2 : (i : Int) = 0 := q
     omega
    · omega
  ·
   rw [updV_ne _ _ hj, updV_ne _ _ hj]
   exact ih j (by omega) h2
theorem out_rel (n : Nat) (T P : Nat → Int × Int) (h : ∀ j, j < n → RB n j (T j) (P j)) : ∀ (g a : Nat), n - a ≤ g → outP P n g a = outB T n g a ∧ (outB T n g a).isSome = true
 | 0, a, hg => by
  rw [outP, outB, if_neg (show ¬ a < n by omega)]
  exact ⟨rfl, rfl⟩
 | g + 1, a, hg => by
  rw [outP, outB]
  by_cases hlt : a < n
  ·
   rw [if_pos hlt, if_pos hlt]
   obtain ⟨r1, r2, r3, r4, r5, r6⟩ := h a hlt
   by_cases hb : (T a).2 < 0
   ·
    rw [if_pos hb] at r2
    rw [if_pos r2, if_pos hb]
    exact ⟨rfl, rfl⟩
   ·
    rw [if_neg hb] at r2
    have r7 := r6.resolve_left hb
    have hc : 0 ≤ (T a).2 ∧ (T a).2 ≤ (n : Int) := ⟨by omega, r7.2⟩
    rw [r2, if_neg r3, if_neg hb, if_pos hc, if_pos r7.2]
    obtain ⟨i1, i2⟩ := out_rel n T P h g (T a).2.toNat (by omega)
    rw [i1]
    obtain ⟨x, hx⟩ := Option.isSome_iff_exists.mp i2
    rw [hx]
    exact ⟨rfl, rfl⟩
  ·
   rw [if_neg hlt, if_neg hlt]
   exact ⟨rfl, rfl⟩
theorem greedy_rel (n : Nat) (N N' : Nat → Int) (h : ∀ j, j < n → N j = N' j ∧ (j : Int) < N' j ∧ N' j ≤ (n : Int)) : ∀ (g a : Nat), n - a ≤ g → greedyN N n g a = greedyN N' n g a ∧ (greedyN N' n g a).isSome = true
 | 0, a, hg => by
  rw [greedyN, greedyN, if_neg (show ¬ a < n by omega)]
  exact ⟨rfl, rfl⟩
 | g + 1, a, hg => by
  rw [greedyN, greedyN]
  by_cases hlt : a < n
  ·
   obtain ⟨h1, h2, h3⟩ := h a hlt
   have hc : 0 ≤ N' a ∧ N' a ≤ (n : Int) := ⟨by omega, h3⟩
   rw [if_pos hlt, if_pos hlt, h1, if_pos hc, if_pos hc]
   obtain ⟨i1, i2⟩ := greedy_rel n N N' h g (N' a).toNat (by omega)
   rw [i1]
   obtain ⟨x, hx⟩ := Option.isSome_iff_exists.mp i2
   rw [hx]
   exact ⟨rfl, rfl⟩
  ·
   rw [if_neg hlt, if_neg hlt]
   exact ⟨rfl, rfl⟩
theorem greedyN_len (N : Nat → Int) (n : Nat) : ∀ (g a : Nat) (l : List Int), greedyN N n g a = some l → l.length ≤ g
 | 0, a, l, h => by
  rw [greedyN] at h
  split at h
  · cases h
  · cases h; exact Nat.le_refl _
 | g + 1, a, l, h => by
  rw [greedyN] at h
  split at h
  ·
   split at h
   ·
    obtain ⟨l2, h2, h3⟩ := Option.bind_eq_some_iff.mp h
    cases h3
    have := greedyN_len N n g _ _ h2
    rw [List.length_cons]
    omega
   · cases h
  · cases h; exact Nat.zero_le _
theorem outB_len (T : Nat → Int × Int) (n : Nat) : ∀ (g a : Nat) (l : List Int), outB T n g a = some (some l) → l.length ≤ g
 | 0, a, l, h => by
  rw [outB] at h
  split at h
  · cases h
  · cases h; exact Nat.le_refl _
 | g + 1, a, l, h => by
  rw [outB] at h
  split at h
  ·
   split at h
   · cases h
   ·
    split at h
    ·
     obtain ⟨o, h2, h3⟩ := Option.bind_eq_some_iff.mp h
     cases o with
     | none => cases h3
     | some l2 =>
      cases h3
      have := outB_len T n g _ _ h2
      rw [List.length_cons]
      omega
    · cases h
  · cases h; exact Nat.zero_le _
def Ch (M : Nat → Nat) (n : Nat) : Nat → List Int → Prop
 | a, [] => ¬ a < n
 | a, e :: l => a < n ∧ (a : Int) < e ∧ e ≤ (M a : Int) ∧ Ch M n e.toNat l
theorem greedy_ch (M : Nat → Nat) (n : Nat) (N : Nat → Int) (h : ∀ j, j < n → (j : Int) < N j ∧ N j ≤ (M j : Int)) : ∀ (g a : Nat) (l : List Int), greedyN N n g a = some l → Ch M n a l
 | 0, a, l, hl => by
  rw [greedyN] at hl
  split at hl
  · cases hl
  · cases hl; assumption
 | g + 1, a, l, hl => by
  rw [greedyN] at hl
  split at hl
  ·
   rename_i ha
   split at hl
   ·
    obtain ⟨l2, h2, h3⟩ := Option.bind_eq_some_iff.mp hl
    cases h3
    exact ⟨ha, (h a ha).1, (h a ha).2, greedy_ch M n N h g _ _ h2⟩
   · cases hl
  · cases hl; assumption
theorem out_ch (M : Nat → Nat) (n : Nat) (T : Nat → Int × Int) (h : ∀ j, j < n → (T j).2 < 0 ∨ ((j : Int) < (T j).2 ∧ (T j).2 ≤ (M j : Int))) : ∀ (g a : Nat) (l : List Int), outB T n g a = some (some l) → Ch M n a l
 | 0, a, l, hl => by
  rw [outB] at hl
  split at hl
  · cases hl
  · cases hl; assumption
 | g + 1, a, l, hl => by
  rw [outB] at hl
  split at hl
  ·
   rename_i ha
   split at hl
   · cases hl
   ·
    rename_i hb
    split at hl
    ·
     obtain ⟨o, h2, h3⟩ := Option.bind_eq_some_iff.mp hl
     cases o with
     | none => cases h3
     | some l2 =>
      cases h3
      have := (h a ha).resolve_left hb
      exact ⟨ha, this.1, this.2, out_ch M n T h g _ _ h2⟩
    · cases hl
  · cases hl; assumption
theorem rowB_le (bs : List Int) (F : Nat → Nat → Bool) (C : Nat → Nat → Int) (n : Nat) (T : Nat → Int × Int) (a : Nat) (m : Int) : ∀ (g e : Nat) (cur : Int × Int), ((e + g : Nat) : Int) ≤ m + 1 → cur.2 ≤ m → (rowB bs F C n T a g e cur).2 ≤ m
 | 0, _, _, _, h => h
 | g + 1, e, cur, h1, h => by
  rw [rowB]
  refine rowB_le bs F C n T a m g (e + 1) _ (by omega) ?_
  unfold stepB
  split
  · exact h
  ·
   split
   ·
    show (e : Int) ≤ m
    omega
   · exact h
theorem tabB_le (bs : List Int) (F : Nat → Nat → Bool) (C : Nat → Nat → Int) (n : Nat) (hm : ∀ i, i < n → i < mustV bs n i) : ∀ d, d ≤ n → ∀ j, n - d ≤ j → j < n → (tabB bs F C n d j).2 ≤ (mustV bs n j : Int)
 | 0, _, j, h1, h2 => by omega
 | d + 1, h, j, h1, h2 => by
  rw [tabB]
  by_cases hj : j = n - 1 - d
  ·
   subst hj
   rw [updV_at]
   have := hm (n - 1 - d) (by omega)
   exact rowB_le bs F C n _ _ _ _ _ _ (by omega) (by show (-1 : Int) ≤ _; omega)
  ·
   rw [updV_ne _ _ hj]
   exact tabB_le bs F C n hm d (by omega) j (by omega) h2
theorem next_le (bs : List Int) (F : Nat → Nat → Bool) (J : Nat → Bool) (n fr : Nat) (hm : fr < mustV bs n fr) : nextV bs F J n fr ≤ (mustV bs n fr : Int) := by
 unfold nextV
 rw [next_down]
 cases hd : downN bs F fr (mustV bs n fr - fr) with
 | some t =>
  have := down_pos bs F fr _ t hd
  dsimp only
  split
  · omega
  · split <;> omega
 | none =>
  dsimp only
  split
  · omega
  · split <;> omega
theorem sumW_eq : ∀ (l : List Int) (a : Int), (∀ x ∈ l, 0 ≤ x ∧ x ≤ 1600) → 0 ≤ a → a + 1600 * (l.length : Int) ≤ 1000000000 → sumW l a = a + l.sum
 | [], a, _, _, _ => by simp [sumW]
 | x :: r, a, h, h0, h1 => by
  have hx := h x List.mem_cons_self
  rw [List.length_cons] at h1
  rw [sumW, w64 (by omega) (by omega), sumW_eq r (a + x) (fun y hy => h y (List.mem_cons_of_mem _ hy)) (by omega) (by omega), List.sum_cons]
  omega
theorem sum_le (l : List Int) : (∀ x ∈ l, (0 : Int) ≤ x ∧ x ≤ 1600) → 0 ≤ l.sum ∧ l.sum ≤ 1600 * (l.length : Int) := by
 induction l with
 | nil => intro _; simp
 | cons x r ih =>
  intro h
  have hx := h x List.mem_cons_self
  have := ih (fun y hy => h y (List.mem_cons_of_mem _ hy))
  rw [List.sum_cons, List.length_cons]
  omega
theorem bod_mono (rs : List Int) (fr : Nat) : ∀ (d t : Nat), fr ≤ t → bodV rs fr t ≤ bodV rs fr (t + d)
 | 0, t, _ => Nat.le_refl _
 | d + 1, t, h => by
  refine Nat.le_trans (bod_mono rs fr d t h) ?_
  show bodV rs fr (t + d) ≤ bodV rs fr (t + d + 1)
  have := bodV_le rs fr (t + d) (by omega)
  rw [bodV.eq_2]
  rw [if_pos (by omega)]
  split <;> omega
theorem take_mono (ws : List Int) (fr : Nat) (h : ∀ x ∈ ws, (0 : Int) ≤ x ∧ x ≤ 1600) : ∀ (d b : Nat), fr ≤ b → ((ws.take b).drop fr).sum ≤ ((ws.take (b + d)).drop fr).sum
 | 0, b, _ => Int.le_refl _
 | d + 1, b, hb => by
  refine Int.le_trans (take_mono ws fr h d b hb) ?_
  rw [show b + (d + 1) = (b + d) + 1 from rfl]
  by_cases hl : b + d < ws.length
  ·
   rw [List.take_add_one, List.getElem?_eq_getElem hl, List.drop_append_of_le_length (by rw [List.length_take]; omega), List.sum_append]
   have := h ws[b + d] (List.getElem_mem hl)
   simp
   omega
  ·
   rw [List.take_of_length_le (by omega), List.take_of_length_le (by omega)]
   exact Int.le_refl _
end Go.Proofs.YtmcdcogedcbndaaGreat.Pure
/- FillLines by the program. -/
namespace Go.Proofs.YtmcdcogedcbndaaGreat.Pure
open Go.RowKit Go.Proofs.YtmcdcogedcbndaaGreat.S Go.Proofs.YtmcdcogedcbndaaGreatW.PrintWords Go.Proofs.YtmcdcogedcbndaaGreatW.PrintLast
def WV (rs ws : List Int) : Nat → Nat → Int := fun i j => if i ≤ j ∧ j ≤ rs.length then lwV rs ws i j else 0
def JV (rs : List Int) : Nat → Bool := fun i => if 0 < i ∧ i < rs.length then jV rs i else false
def MV (bs : List Int) : Nat → Nat := fun i => if i < bs.length then mustV bs bs.length i else 0
theorem ws_small {rs : List Int} {sp : List Sp} (h : SpB sp) : ∀ x ∈ wsV rs sp, 0 ≤ x ∧ x ≤ 1600 := by
 intro x hx
 unfold wsV at hx
 obtain ⟨i, _, rfl⟩ := List.mem_map.mp hx
 exact wdV_le h rs i
theorem lw_sum {rs ws : List Int} (hw : ∀ x ∈ ws, 0 ≤ x ∧ x ≤ 1600) (hl : ws.length = rs.length) (hn : rs.length ≤ 80) {i j : Nat} (hij : i ≤ j) (hj : j ≤ rs.length) : lwV rs ws i j = ((ws.take (bodV rs i j)).drop i).sum ∧ 0 ≤ lwV rs ws i j ∧ lwV rs ws i j ≤ 128000 := by
 have hm : ∀ x ∈ (ws.take (bodV rs i j)).drop i, 0 ≤ x ∧ x ≤ 1600 := fun x hx => hw x (List.mem_of_mem_take (List.mem_of_mem_drop hx))
 have hb := bodV_le rs i j hij
 have hle : ((ws.take (bodV rs i j)).drop i).length ≤ 80 := by
  rw [List.length_drop, List.length_take]
  omega
 have e : lwV rs ws i j = ((ws.take (bodV rs i j)).drop i).sum := by
  unfold lwV
  rw [sumW_eq _ 0 hm (Int.le_refl _) (by omega), Int.zero_add]
 have := sum_le _ hm
 rw [e]
 exact ⟨rfl, this.1, by omega⟩
theorem lw_mono {rs ws : List Int} (hw : ∀ x ∈ ws, 0 ≤ x ∧ x ≤ 1600) (hl : ws.length = rs.length) (hn : rs.length ≤ 80) {i j t : Nat} (hij : i ≤ j) (hjt : j ≤ t) (ht : t ≤ rs.length) : lwV rs ws i j ≤ lwV rs ws i t := by
 rw [(lw_sum hw hl hn hij (by omega)).1, (lw_sum hw hl hn (Nat.le_trans hij hjt) ht).1]
 have h1 := bod_mono rs i (t - j) j hij
 rw [show j + (t - j) = t by omega] at h1
 have h2 := take_mono ws i hw (bodV rs i t - bodV rs i j) (bodV rs i j) (bodV_le rs i j hij).1
 rwa [show bodV rs i j + (bodV rs i t - bodV rs i j) = bodV rs i t by omega] at h2
theorem WV_is (rs ws : List Int) {i j : Nat} (h1 : i ≤ j) (h2 : j ≤ rs.length) : WV rs ws i j = lwV rs ws i j := if_pos ⟨h1, h2⟩
theorem fit_mono {rs ws : List Int} {wide : Int} (hw : ∀ x ∈ ws, 0 ≤ x ∧ x ≤ 1600) (hl : ws.length = rs.length) (hn : rs.length ≤ 80) (fr i j : Nat) (h1 : fr < i) (h2 : i ≤ j) (h3 : j ≤ rs.length) (h : fitV (WV rs ws) wide fr j = true) : fitV (WV rs ws) wide fr i = true := by
 unfold fitV at h ⊢
 rw [decide_eq_true_eq, WV_is rs ws (by omega) (by omega)] at h ⊢
 exact Int.le_trans (lw_mono hw hl hn (by omega) h2 h3) h
theorem wide_near {rs ws : List Int} {wide : Int} (hw : ∀ x ∈ ws, 0 ≤ x ∧ x ≤ 1600) (hl : ws.length = rs.length) (hn : rs.length ≤ 80) (h0 : 0 ≤ wide ∧ wide ≤ 20000) {i j : Nat} (h1 : i ≤ j) (h2 : j ≤ rs.length) : (wide - WV rs ws i j).natAbs ≤ 148000 := by
 rw [WV_is rs ws h1 h2]
 have := lw_sum hw hl hn h1 h2
 omega
theorem cost_near {rs ws bs : List Int} {wide : Int} (hw : ∀ x ∈ ws, 0 ≤ x ∧ x ≤ 1600) (hl : ws.length = rs.length) (hn : rs.length ≤ 80) (h0 : 0 ≤ wide ∧ wide ≤ 20000) {i j : Nat} (h1 : i ≤ j) (h2 : j ≤ rs.length) : 0 ≤ costV bs (WV rs ws) wide i j ∧ costV bs (WV rs ws) wide i j ≤ 100000000000 := by
 have h := wide_near hw hl hn h0 h1 h2
 unfold costV
 split
 · omega
 ·
  obtain ⟨d, hd⟩ : ∃ d, wide - WV rs ws i j = d := ⟨_, rfl⟩
  rw [hd] at h ⊢
  have e := Int.natAbs_mul_self (a := d)
  have h3 := Nat.mul_le_mul h h
  omega
theorem must_ok {rs : List Int} {i : Nat} (hi : i < rs.length) : i < mustV (bsV rs) rs.length i ∧ mustV (bsV rs) rs.length i ≤ rs.length ∧ (bsV rs).getD (mustV (bsV rs) rs.length i - 1) 0 = 2 := by
 have h := must_is (bsV rs) rs.length ((bsV rs).length - i) i ⟨rs.length - 1, by omega, by rw [bsV_len]; omega, bs_last (by omega)⟩
 rw [bsV_len, show i + (rs.length - i) = rs.length by omega] at h
 unfold mustV
 rw [bsV_len]
 exact h
theorem MV_is {rs : List Int} {i : Nat} (hi : i < rs.length) : MV (bsV rs) i = mustV (bsV rs) rs.length i := by
 unfold MV
 rw [bsV_len, if_pos hi]
def eB (rs : List Int) (i : Nat) : Bool := decide (i = rs.length) || !jAt rs i
theorem ends_is (rs : List Int) : endsL (eB rs) rs.length = stsV rs ++ [(rs.length : Int)] := by
 unfold endsL stsV
 rw [List.range_succ, List.filter_append, List.map_append]
 congr 1
 ·
  congr 1
  refine List.filter_congr (fun x hx => ?_)
  have := List.mem_range.mp hx
  unfold eB
  rw [decide_eq_false (show ¬ x = rs.length by omega), Bool.false_or]
 ·
  rw [List.filter_cons_of_pos (by unfold eB; rw [decide_eq_true rfl, Bool.true_or])]
  rfl
theorem next_eq {rs ws : List Int} {wide : Int} (hw : ∀ x ∈ ws, 0 ≤ x ∧ x ≤ 1600) (hl : ws.length = rs.length) (hn : rs.length ≤ 80) {i : Nat} (hi : i < rs.length) :
  nextI (bsV rs) (fitV (WV rs ws) wide) (stsV rs ++ [(rs.length : Int)]) i (mustV (bsV rs) rs.length i) = some (nextV (bsV rs) (fitV (WV rs ws) wide) (JV rs) rs.length i) ∧ (i : Int) < nextV (bsV rs) (fitV (WV rs ws) wide) (JV rs) rs.length i ∧ nextV (bsV rs) (fitV (WV rs ws) wide) (JV rs) rs.length i ≤ (rs.length : Int) := by
 obtain ⟨m1, m2, m3⟩ := must_ok hi
 rw [← ends_is]
 refine next_is (bsV rs) (fitV (WV rs ws) wide) (JV rs) (eB rs) rs.length i hi (fun j h1 h2 => ?_) (fun a b h1 h2 h3 h4 => fit_mono hw hl hn i a b h1 h2 h3 h4) m1 m2 (by rw [m3]; decide) ?_
 ·
  unfold eB JV jAt
  by_cases hj : j = rs.length
  ·
   rw [decide_eq_true hj, Bool.true_or]
   exact ⟨fun _ h => (by omega), fun _ => rfl⟩
  ·
   rw [decide_eq_false hj, Bool.false_or, if_neg (by omega), if_pos ⟨by omega, by omega⟩]
   cases jV rs j
   · exact ⟨fun _ h => (by cases h.2), fun _ => rfl⟩
   · exact ⟨fun h => (by cases h), fun h => absurd ⟨by omega, rfl⟩ h⟩
 ·
  unfold eB
  by_cases hm : mustV (bsV rs) rs.length i = rs.length
  · rw [decide_eq_true hm, Bool.true_or]
  ·
   rw [bsV_get (by omega), brV] at m3
   rw [if_neg (by omega), show mustV (bsV rs) rs.length i - 1 + 1 = mustV (bsV rs) rs.length i by omega] at m3
   cases hjv : jV rs (mustV (bsV rs) rs.length i)
   ·
    unfold jAt
    rw [if_neg (by omega), hjv]
    simp
   ·
    rw [hjv, if_pos rfl] at m3
    cases m3
theorem tabs_i {rs ws : List Int} {k : Nat} (hn : rs.length ≤ 80) (hl : ws.length = rs.length) (hk : 2000 ≤ k) : okWI k rs ws ∧ tabWI k rs ws = WV rs ws ∧ okMI k (bsV rs) ∧ tabMI k (bsV rs) = MV (bsV rs) := by
 have e : ∀ i j : Nat, i ≤ j → j ≤ rs.length → impl_lineWide.f k rs ws (i : Int) (j : Int) = some (lwV rs ws i j) := fun i j h1 h2 => lineI_p (by omega) hl h1 h2 (by omega)
 have e2 : ∀ i : Nat, i < rs.length → ∃ x : Nat, slices_Index_int_int.f k ((bsV rs).drop i) 2 = some (x : Int) ∧ mustV (bsV rs) rs.length i = i + x + 1 := fun i h2 => by
  obtain ⟨x, h3, _, h4⟩ := idx_p (bs := bsV rs) (fr := i) (n := rs.length) (k := k) (by rw [bsV_len]; omega) (by rw [bsV_len]; omega) ⟨rs.length - 1, by omega, by rw [bsV_len]; omega, bs_last (by omega)⟩
  exact ⟨x, h3, h4⟩
 have e3 : tabMI k (bsV rs) = MV (bsV rs) := by
  funext i
  unfold tabMI MV
  split
  ·
   rename_i h
   rw [bsV_len] at h
   obtain ⟨x, h3, h4⟩ := e2 i h
   rw [h3, bsV_len, h4]
   simp only [Option.getD_some]
   omega
  · rfl
 refine ⟨fun j hj i hi => by rw [e i j hi hj]; rfl, ?_, fun i hi => ?_, e3⟩
 ·
  funext i j
  unfold tabWI WV
  split
  ·
   rename_i h
   rw [e i j h.1 h.2]
   rfl
  · rfl
 ·
  rw [bsV_len] at hi
  obtain ⟨x, h3, h4⟩ := e2 i hi
  rw [e3, MV_is hi, h3, bsV_len]
  exact ⟨rfl, by simp only [Option.getD_some]; omega, (must_ok hi).2.1⟩
theorem ch_ends (M : Nat → Nat) (n : Nat) (hM : ∀ i, i < n → M i ≤ n) : ∀ (l : List Int) (a : Nat), a ≤ n → Ch M n a l → endsV l (a : Int) (n : Int) = true
 | [], a, ha, h => by
  rw [endsV]
  have h2 : ¬ a < n := h
  exact beq_iff_eq.mpr (by omega)
 | e :: l, a, ha, ⟨h0, h3, h4, h5⟩ => by
  have := hM a h0
  rw [endsV, if_neg (by omega)]
  have ih := ch_ends M n hM l e.toNat (by omega) h5
  rwa [show ((e.toNat : Nat) : Int) = e by omega] at ih
def LineR (rs : List Int) (sp : List Sp) (wide mode : Int) (r : List Int) : Prop :=
 (0 ≤ mode ∧ mode ≤ 1) ∧ ((greedyN (nextV (bsV rs) (fitV (WV rs (wsV rs sp)) wide) (JV rs) rs.length) rs.length rs.length 0 = some r ∧ (mode = 0 ∨ outB (tabB (bsV rs) (fitV (WV rs (wsV rs sp)) wide) (costV (bsV rs) (WV rs (wsV rs sp)) wide) rs.length rs.length) rs.length rs.length 0 = some none)) ∨ (mode = 1 ∧ outB (tabB (bsV rs) (fitV (WV rs (wsV rs sp)) wide) (costV (bsV rs) (WV rs (wsV rs sp)) wide) rs.length rs.length) rs.length rs.length 0 = some (some r)))
theorem core {rs ws : List Int} {wide : Int} (h1 : rs.length ≤ 80) (hl : ws.length = rs.length) (hw : ∀ x ∈ ws, 0 ≤ x ∧ x ≤ 1600) (h0 : 0 ≤ wide ∧ wide ≤ 20000) : okI (bsV rs) (WV rs ws) (MV (bsV rs)) (stsV rs) wide rs.length ∧ okB (bsV rs) (WV rs ws) wide rs.length ∧ ∃ gr ob, greedyN (fun i => (nextI (bsV rs) (fitV (WV rs ws) wide) (stsV rs ++ [(rs.length : Int)]) i (MV (bsV rs) i)).getD 0) rs.length rs.length 0 = some gr ∧ greedyN (nextV (bsV rs) (fitV (WV rs ws) wide) (JV rs) rs.length) rs.length rs.length 0 = some gr ∧ outP (tabP (bsV rs) (fitV (WV rs ws) wide) (costV (bsV rs) (WV rs ws) wide) (MV (bsV rs)) rs.length rs.length) rs.length rs.length 0 = some ob ∧ outB (tabB (bsV rs) (fitV (WV rs ws) wide) (costV (bsV rs) (WV rs ws) wide) rs.length rs.length) rs.length rs.length 0 = some ob ∧ (gr.length ≤ 1000 ∧ Ch (mustV (bsV rs) rs.length) rs.length 0 gr) ∧ ∀ l, ob = some l → l.length ≤ 1000 ∧ Ch (mustV (bsV rs) rs.length) rs.length 0 l := by
 have hM : ∀ i, i < rs.length → MV (bsV rs) i = mustV (bsV rs) rs.length i ∧ i < MV (bsV rs) i ∧ MV (bsV rs) i ≤ rs.length := fun i hi => by
  rw [MV_is hi]
  exact ⟨rfl, (must_ok hi).1, (must_ok hi).2.1⟩
 have hT := tab_rel (bsV rs) (fitV (WV rs ws) wide) (costV (bsV rs) (WV rs ws) wide) (MV (bsV rs)) rs.length hM (fun a e ha he => cost_near hw hl h1 h0 (by omega) he)
 have hNx : ∀ i, i < rs.length → nextI (bsV rs) (fitV (WV rs ws) wide) (stsV rs ++ [(rs.length : Int)]) i (MV (bsV rs) i) = some (nextV (bsV rs) (fitV (WV rs ws) wide) (JV rs) rs.length i) := fun i hi => by
  rw [MV_is hi]
  exact (next_eq hw hl h1 hi).1
 have hss : (stsV rs).length ≤ rs.length := by
  unfold stsV
  rw [List.length_map]
  exact Nat.le_trans (List.length_filter_le _ _) (by simp)
 have hokI : okI (bsV rs) (WV rs ws) (MV (bsV rs)) (stsV rs) wide rs.length := by
  refine ⟨by omega, bsV_len rs, by omega, fun t ht => ?_, fun j hj i hi => Nat.le_trans (wide_near hw hl h1 h0 hi hj) (by decide), fun j hj => ?_, fun i hi => by rw [hNx i hi]; rfl⟩
  ·
   unfold stsV at ht
   obtain ⟨i, hi, rfl⟩ := List.mem_map.mp ht
   have := List.mem_range.mp (List.mem_filter.mp hi).1
   have e : Int.ofNat i = (i : Int) := rfl
   omega
  ·
   by_cases hjn : j < rs.length
   ·
    obtain ⟨r1, r2, r3, r4, r5, r6⟩ := hT rs.length (Nat.le_refl _) j (by omega) hjn
    rw [r1]
    omega
   ·
    obtain rfl : j = rs.length := by omega
    rw [tabP_hi _ _ _ _ _ _ (Nat.le_refl _)]
    exact ⟨Int.le_refl _, by show (0 : Int) ≤ _; decide⟩
 have hokB : okB (bsV rs) (WV rs ws) wide rs.length := by
  refine ⟨fun j hj i hi => Nat.le_trans (wide_near hw hl h1 h0 hi hj) (by decide), fun d hd j hj => ?_⟩
  by_cases hjn : j < rs.length
  ·
   by_cases hjd : rs.length - d ≤ j
   ·
    obtain ⟨r1, r2, r3, r4, r5, r6⟩ := hT d hd j hjd hjn
    omega
   ·
    rw [tabB_lo _ _ _ _ d j (by omega)]
    exact ⟨Int.le_refl _, by show (0 : Int) ≤ _; decide⟩
  ·
   obtain rfl : j = rs.length := by omega
   rw [tabB_hi _ _ _ _ _ hd]
   exact ⟨Int.le_refl _, by show (0 : Int) ≤ _; decide⟩
 obtain ⟨g1, g2⟩ := greedy_rel rs.length (fun i => (nextI (bsV rs) (fitV (WV rs ws) wide) (stsV rs ++ [(rs.length : Int)]) i (MV (bsV rs) i)).getD 0) (nextV (bsV rs) (fitV (WV rs ws) wide) (JV rs) rs.length) (fun j hj => by rw [hNx j hj]; exact ⟨rfl, (next_eq hw hl h1 hj).2⟩) rs.length 0 (by omega)
 obtain ⟨o1, o2⟩ := out_rel rs.length _ _ (fun j hj => hT rs.length (Nat.le_refl _) j (by omega) hj) rs.length 0 (by omega)
 obtain ⟨gr, hgr⟩ := Option.isSome_iff_exists.mp g2
 obtain ⟨ob, hob⟩ := Option.isSome_iff_exists.mp o2
 refine ⟨hokI, hokB, gr, ob, g1.trans hgr, hgr, o1.trans hob, hob, ⟨Nat.le_trans (greedyN_len _ _ _ _ _ hgr) (by omega), greedy_ch (mustV (bsV rs) rs.length) rs.length _ (fun j hj => ⟨(next_eq (wide := wide) hw hl h1 hj).2.1, next_le _ _ _ _ _ (must_ok hj).1⟩) _ _ _ hgr⟩, fun l hl9 => ?_⟩
 rw [hl9] at hob
 refine ⟨Nat.le_trans (outB_len _ _ _ _ _ hob) (by omega), out_ch _ _ _ (fun j hj => ?_) _ _ _ hob⟩
 obtain ⟨_, _, _, _, _, r6⟩ := hT rs.length (Nat.le_refl _) j (by omega) hj
 exact r6.imp_right (fun h => ⟨h.1, tabB_le _ _ _ _ (fun i hi => (must_ok hi).1) _ (Nat.le_refl _) j (by omega) hj⟩)
theorem fill_wide {rs : List Int} {sp : List Sp} {wide : Int} (hf : fillV rs sp wide = true) : 0 ≤ wide ∧ wide ≤ 20000 := by
 unfold fillV at hf
 rw [Bool.and_eq_true, Bool.and_eq_true, decide_eq_true_eq] at hf
 exact hf.2.2
theorem linesImpl {rs : List Int} {sp : List Sp} {wide mode : Int} {k : Nat} (hs : sp.length ≤ 1099511627776) (hk : rs.length + sp.length + 3000 ≤ k) : ∃ r, impl_FillLines.f k rs sp wide mode = some r ∧ r.length ≤ 1000 ∧ ((r = [] ∧ ¬ (fillV rs sp wide = true ∧ 0 ≤ mode ∧ mode ≤ 1)) ∨ (fillV rs sp wide = true ∧ Ch (mustV (bsV rs) rs.length) rs.length 0 r ∧ LineR rs sp wide mode r)) := by
 unfold impl_FillLines.f
 rw [allI_p hs (by omega), Option.bind_some]
 cases hf : fillV rs sp wide
 ·
  rw [if_neg (by decide)]
  exact ⟨[], rfl, by decide, .inl ⟨rfl, fun h => by cases h.1⟩⟩
 obtain ⟨h1, h2, h3, h4⟩ := fill_ok hf
 have h0 := fill_wide hf
 have hw := ws_small (rs := rs) h2
 have hl := wsV_len rs sp
 unfold LineR
 obtain ⟨ws, hws⟩ : ∃ ws, wsV rs sp = ws := ⟨_, rfl⟩
 rw [if_pos rfl, widesI_p h1 h2 (by omega) (by omega), breaksI_p h1 (by omega), starts_p (by omega) (by omega), Option.bind_some, Option.bind_some, Option.bind_some]
 rw [hws] at hw hl ⊢
 obtain ⟨i1, i2, i3, i4⟩ := tabs_i (rs := rs) (ws := ws) (k := k) h1 hl (by omega)
 obtain ⟨hokI, _, gr, ob, g1, g2, o1, o2, ⟨lg, cg⟩, hob⟩ := core (rs := rs) h1 hl hw h0
 rw [if_pos i1, if_pos i3, i2, i4]
 unfold linesI
 rw [if_pos hokI, g1, o1, g2, o2]
 by_cases m0 : mode = 0
 ·
  rw [if_pos m0]
  exact ⟨gr, rfl, lg, .inr ⟨rfl, cg, by omega, .inl ⟨rfl, .inl m0⟩⟩⟩
 ·
  by_cases m1 : mode = 1
  ·
   rw [if_neg m0, if_pos m1]
   cases ob with
   | none => exact ⟨gr, rfl, lg, .inr ⟨rfl, cg, by omega, .inl ⟨rfl, .inr rfl⟩⟩⟩
   | some l => exact ⟨l, rfl, (hob l rfl).1, .inr ⟨rfl, (hob l rfl).2, by omega, .inr ⟨m1, rfl⟩⟩⟩
  ·
   rw [if_neg m0, if_neg m1]
   exact ⟨[], rfl, by decide, .inl ⟨rfl, fun h => by omega⟩⟩
end Go.Proofs.YtmcdcogedcbndaaGreat.Pure
/- Lines as full as can be are never behind other lines that fit. -/
namespace Go.Proofs.YtmcdcogedcbndaaGreat.Pure
open Go.RowKit Go.Proofs.YtmcdcogedcbndaaGreat.S Go.Proofs.YtmcdcogedcbndaaGreatW.PrintWords Go.Proofs.YtmcdcogedcbndaaGreatW.PrintLast
theorem bod_front (rs : List Int) (p g : Nat) (hpg : p ≤ g) : ∀ t, g ≤ t → bodV rs g t = max g (bodV rs p t)
 | 0, h => by
  obtain rfl : g = 0 := by omega
  obtain rfl : p = 0 := by omega
  rfl
 | t + 1, h => by
  by_cases hg : g = t + 1
  ·
   have h2 := bodV_le rs p (t + 1) (by omega)
   have h3 := bodV_le rs g (t + 1) (by omega)
   omega
  ·
   have ih := bod_front rs p g hpg t (by omega)
   rw [bodV, bodV.eq_2 rs p, if_pos (show g < t + 1 by omega), if_pos (show p < t + 1 by omega)]
   split
   · exact ih
   · omega
theorem drop_sum : ∀ (l : List Int), (∀ x ∈ l, (0 : Int) ≤ x) → ∀ d, (l.drop d).sum ≤ l.sum
 | [], _, d => by simp
 | x :: l, h, 0 => Int.le_refl _
 | x :: l, h, d + 1 => by
  have := drop_sum l (fun y hy => h y (List.mem_cons_of_mem _ hy)) d
  have hx := h x List.mem_cons_self
  rw [List.drop_succ_cons, List.sum_cons]
  omega
theorem lw_front {rs ws : List Int} (hw : ∀ x ∈ ws, 0 ≤ x ∧ x ≤ 1600) (hl : ws.length = rs.length) (hn : rs.length ≤ 80) {p g t : Nat} (hpg : p ≤ g) (hgt : g ≤ t) (ht : t ≤ rs.length) : lwV rs ws g t ≤ lwV rs ws p t := by
 obtain ⟨e1, a1, _⟩ := lw_sum hw hl hn hgt ht
 obtain ⟨e2, a2, _⟩ := lw_sum hw hl hn (Nat.le_trans hpg hgt) ht
 rw [bod_front rs p g hpg t hgt] at e1
 by_cases hb : bodV rs p t ≤ g
 ·
  rw [Nat.max_eq_left hb, List.drop_eq_nil_of_le (by rw [List.length_take]; omega)] at e1
  rw [e1]
  exact a2
 ·
  have e3 : (ws.take (bodV rs p t)).drop g = ((ws.take (bodV rs p t)).drop p).drop (g - p) := by rw [List.drop_drop, show p + (g - p) = g by omega]
  rw [Nat.max_eq_right (by omega)] at e1
  rw [e1, e2, e3]
  exact drop_sum _ (fun x hx => (hw x (List.mem_of_mem_take (List.mem_of_mem_drop hx))).1) _
theorem must_same {rs : List Int} {p g : Nat} (hpg : p ≤ g) (hg : g < mustV (bsV rs) rs.length p) (hp : p < rs.length) : mustV (bsV rs) rs.length g = mustV (bsV rs) rs.length p := by
 obtain ⟨m1, m2, m3⟩ := must_ok hp
 obtain ⟨k1, k2, k3⟩ := must_ok (rs := rs) (i := g) (by omega)
 have h1 := must_first (bsV rs) rs.length ((bsV rs).length - g) g (mustV (bsV rs) rs.length p - 1) (by omega) (by rw [bsV_len]; omega) m3
 have h2 := must_first (bsV rs) rs.length ((bsV rs).length - p) p (mustV (bsV rs) rs.length g - 1) (by omega) (by rw [bsV_len]; omega) k3
 have e1 : mustV (bsV rs) rs.length g ≤ mustV (bsV rs) rs.length p - 1 + 1 := h1
 have e2 : mustV (bsV rs) rs.length p ≤ mustV (bsV rs) rs.length g - 1 + 1 := h2
 omega
theorem down_ge (bs : List Int) (F : Nat → Nat → Bool) (fr : Nat) : ∀ (g j : Nat), j < g → ¬ bs.getD (fr + j) 0 = 0 → F fr (fr + j + 1) = true → ∃ t, downN bs F fr g = some t ∧ fr + j + 1 ≤ t ∧ t ≤ fr + g ∧ ¬ bs.getD (t - 1) 0 = 0 ∧ F fr t = true
 | 0, j, h, _, _ => absurd h (Nat.not_lt_zero _)
 | g + 1, j, h, hb, hF => by
  rw [downN]
  by_cases hc : ¬ bs.getD (fr + g) 0 = 0 ∧ F fr (fr + g + 1) = true
  ·
   rw [if_pos hc]
   exact ⟨_, rfl, by omega, by omega, hc.1, hc.2⟩
  ·
   rw [if_neg hc]
   have hj : j < g := by
    by_cases q : j = g
    ·
     subst q
     exact absurd ⟨hb, hF⟩ hc
    · omega
   obtain ⟨t, h1, h2, h3, h4⟩ := down_ge bs F fr g j hj hb hF
   exact ⟨t, h1, h2, by omega, h4⟩
theorem next_ge {rs ws : List Int} {wide x : Int} (hw : ∀ x ∈ ws, 0 ≤ x ∧ x ≤ 1600) (hl : ws.length = rs.length) (hn : rs.length ≤ 80) (hx : wide ≤ x) {p g q : Nat} (hpg : p ≤ g) (hgq : g < q) (hq : q ≤ rs.length) (hqm : q ≤ mustV (bsV rs) rs.length p) (hb : ¬ (bsV rs).getD (q - 1) 0 = 0) (hf : lwV rs ws p q ≤ wide) :
  ∃ t : Nat, nextV (bsV rs) (fitV (WV rs ws) x) (JV rs) rs.length g = (t : Int) ∧ q ≤ t ∧ t ≤ rs.length ∧ t ≤ mustV (bsV rs) rs.length g ∧ ¬ (bsV rs).getD (t - 1) 0 = 0 ∧ lwV rs ws g t ≤ x := by
 have hm := must_same (rs := rs) hpg (by omega) (by omega)
 have hk := (must_ok (rs := rs) (i := g) (by omega)).2.1
 obtain ⟨j, hj⟩ : ∃ j, q = g + j + 1 := ⟨q - g - 1, by omega⟩
 have hF : fitV (WV rs ws) x g (g + j + 1) = true := by
  unfold fitV
  rw [← hj, decide_eq_true_eq, WV_is rs ws (by omega) hq]
  have := lw_front hw hl hn hpg (Nat.le_of_lt hgq) hq
  omega
 obtain ⟨t, h1, h2, h3, h4, h5⟩ := down_ge (bsV rs) (fitV (WV rs ws) x) g (mustV (bsV rs) rs.length g - g) j (by omega) (by rw [show g + j = q - 1 by omega]; exact hb) hF
 refine ⟨t, ?_, by omega, by omega, by omega, h4, ?_⟩
 ·
  unfold nextV
  rw [next_down, h1]
  dsimp only
  rw [if_pos (by omega)]
 ·
  unfold fitV at h5
  rw [decide_eq_true_eq, WV_is rs ws (by omega) (by omega)] at h5
  exact h5
theorem ahead {rs ws : List Int} {wide x : Int} (hw : ∀ x ∈ ws, 0 ≤ x ∧ x ≤ 1600) (hl : ws.length = rs.length) (hn : rs.length ≤ 80) (hx : wide ≤ x) : ∀ (l : List Int) (p g gas : Nat) (r : List Int), endsV l (p : Int) (rs.length : Int) = true → fitB rs ws wide p l = true → p ≤ g → g ≤ rs.length → greedyN (nextV (bsV rs) (fitV (WV rs ws) x) (JV rs) rs.length) rs.length gas g = some r → r.length ≤ l.length ∧ fitB rs ws x g r = true
 | [], p, g, gas, r, hE, hF, hpg, hg, h => by
  rw [endsV] at hE
  have := beq_iff_eq.mp hE
  have hlt : ¬ g < rs.length := by omega
  cases gas with
  | zero =>
   rw [greedyN, if_neg hlt] at h
   cases h
   exact ⟨Nat.le_refl _, rfl⟩
  | succ gas =>
   rw [greedyN, if_neg hlt] at h
   cases h
   exact ⟨Nat.le_refl _, rfl⟩
 | e :: l, p, g, gas, r, hE, hF, hpg, hg, h => by
  rw [endsV] at hE
  by_cases h1 : e ≤ (p : Int)
  · rw [if_pos h1] at hE; cases hE
  rw [if_neg h1] at hE
  have he : e ≤ (rs.length : Int) := by
   by_cases c : e ≤ (rs.length : Int)
   · exact c
   · rw [endsV_big l e _ (by omega)] at hE; cases hE
  obtain ⟨q, rfl⟩ : ∃ q : Nat, e = q := ⟨e.toNat, by omega⟩
  rw [fitB, Int.toNat_natCast] at hF
  by_cases hc : (bsV rs).getD (q - 1) 0 = 0 ∨ wide < lwV rs ws p q ∨ mustV (bsV rs) rs.length p < q
  · rw [if_pos hc] at hF; cases hF
  rw [if_neg hc] at hF
  by_cases hqg : q ≤ g
  ·
   have := ahead hw hl hn hx l q g gas r hE hF hqg hg h
   exact ⟨by rw [List.length_cons]; omega, this.2⟩
  ·
   have hb : ¬ (bsV rs).getD (q - 1) 0 = 0 := fun h => hc (.inl h)
   obtain ⟨t, t1, t2, t3, t4, t5, t6⟩ := next_ge (x := x) hw hl hn hx hpg (by omega) (by omega) (by omega) hb (show lwV rs ws p q ≤ wide by omega)
   have hlt : g < rs.length := by omega
   cases gas with
   | zero => rw [greedyN, if_pos hlt] at h; cases h
   | succ gas =>
    rw [greedyN, if_pos hlt, t1, if_pos (by omega), Int.toNat_natCast] at h
    obtain ⟨r2, h2, h3⟩ := Option.bind_eq_some_iff.mp h
    cases h3
    obtain ⟨i1, i2⟩ := ahead hw hl hn hx l q t gas r2 hE hF t2 t3 h2
    refine ⟨by rw [List.length_cons, List.length_cons]; omega, ?_⟩
    rw [fitB, Int.toNat_natCast, if_neg (fun h => h.elim t5 (fun h => h.elim (by omega) (by omega)))]
    exact i2
end Go.Proofs.YtmcdcogedcbndaaGreat.Pure
/- Where lines end that are as full as can be, and which of them are forced. -/
namespace Go.Proofs.YtmcdcogedcbndaaGreat.Pure
open Go.RowKit Go.Proofs.YtmcdcogedcbndaaGreat.S Go.Proofs.YtmcdcogedcbndaaGreatW.PrintWords Go.Proofs.YtmcdcogedcbndaaGreatW.PrintLast
theorem eB_of {rs : List Int} {t : Nat} (h0 : 0 < t) (ht : t ≤ rs.length) (hb : ¬ (bsV rs).getD (t - 1) 0 = 0) : eB rs t = true := by
 unfold eB
 by_cases hm : t = rs.length
 · rw [decide_eq_true hm, Bool.true_or]
 ·
  rw [bsV_get (by omega), brV] at hb
  rw [if_neg (by omega), show t - 1 + 1 = t by omega] at hb
  cases hjv : jV rs t
  ·
   unfold jAt
   rw [if_neg (by omega), hjv]
   simp
  ·
   rw [hjv, if_pos rfl] at hb
   exact absurd rfl hb
theorem eB_J {rs : List Int} {j : Nat} (h0 : 0 < j) (hj : j ≤ rs.length) : eB rs j = true ↔ ¬ (j < rs.length ∧ JV rs j = true) := by
 unfold eB JV jAt
 by_cases hj : j = rs.length
 ·
  rw [decide_eq_true hj, Bool.true_or]
  exact ⟨fun _ h => (by omega), fun _ => rfl⟩
 ·
  rw [decide_eq_false hj, Bool.false_or, if_neg (by omega), if_pos ⟨by omega, by omega⟩]
  cases jV rs j
  · exact ⟨fun _ h => (by cases h.2), fun _ => rfl⟩
  · exact ⟨fun h => (by cases h), fun h => absurd ⟨by omega, rfl⟩ h⟩
theorem eB_jAt {rs : List Int} {j : Nat} (hj : j < rs.length) : jAt rs j = !eB rs j := by
 unfold eB
 rw [decide_eq_false (by omega), Bool.false_or, Bool.not_not]
theorem down_is (bs : List Int) (F : Nat → Nat → Bool) (fr : Nat) : ∀ (g t : Nat), downN bs F fr g = some t → ¬ bs.getD (t - 1) 0 = 0 ∧ F fr t = true
 | 0, t, h => by cases h
 | g + 1, t, h => by
  rw [downN] at h
  split at h
  ·
   rename_i hc
   obtain rfl := Option.some.inj h
   exact ⟨hc.1, hc.2⟩
  · exact down_is bs F fr g t h
theorem fit_iff {rs ws : List Int} {wide : Int} {a t : Nat} (h1 : a ≤ t) (h2 : t ≤ rs.length) : fitV (WV rs ws) wide a t = decide (lwV rs ws a t ≤ wide) := by
 unfold fitV
 rw [WV_is rs ws h1 h2]
theorem next_split {rs ws : List Int} {wide : Int} (hw : ∀ x ∈ ws, 0 ≤ x ∧ x ≤ 1600) (hl : ws.length = rs.length) (hn : rs.length ≤ 80) {a : Nat} (ha : a < rs.length) :
  ∃ t : Nat, nextV (bsV rs) (fitV (WV rs ws) wide) (JV rs) rs.length a = (t : Int) ∧ a < t ∧ t ≤ mustV (bsV rs) rs.length a ∧ eB rs t = true ∧ ((¬ (bsV rs).getD (t - 1) 0 = 0 ∧ lwV rs ws a t ≤ wide) ∨ (wide < lwV rs ws a t → ∀ j, a < j → j < t → eB rs j = false)) ∧ ∀ u, a < u → (t < u ∨ (bsV rs).getD (t - 1) 0 = 0) → u ≤ mustV (bsV rs) rs.length a → ¬ (bsV rs).getD (u - 1) 0 = 0 → wide < lwV rs ws a u := by
 obtain ⟨m1, m2, m3⟩ := must_ok ha
 obtain ⟨m, hm⟩ : ∃ m, mustV (bsV rs) rs.length a = m := ⟨_, rfl⟩
 rw [hm] at m1 m2 m3
 unfold nextV
 rw [hm, next_down]
 cases hd : downN (bsV rs) (fitV (WV rs ws) wide) a (m - a) with
 | some t =>
  obtain ⟨p1, p2⟩ := down_pos _ _ _ _ _ hd
  obtain ⟨q1, q2⟩ := down_is _ _ _ _ _ hd
  rw [fit_iff (by omega) (by omega), decide_eq_true_eq] at q2
  dsimp only
  rw [if_pos (show (0 : Int) < (t : Int) by omega)]
  refine ⟨t, rfl, p1, by omega, eB_of (by omega) (by omega) q1, .inl ⟨q1, q2⟩, fun u h1 h2 h3 h4 => ?_⟩
  apply Decidable.byContradiction
  intro hc
  obtain ⟨t2, r1, r2, r3, r4, r5⟩ := down_ge (bsV rs) (fitV (WV rs ws) wide) a (m - a) (u - 1 - a) (by omega) (by rw [show a + (u - 1 - a) = u - 1 by omega]; exact h4) (by rw [show a + (u - 1 - a) + 1 = u by omega, fit_iff (by omega) (by omega), decide_eq_true_eq]; omega)
  rw [hd] at r1
  cases r1
  rcases h2 with h2 | h2
  · omega
  · exact q1 h2
 | none =>
  dsimp only
  rw [if_neg (show ¬ (0 : Int) < -1 by decide)]
  have hno : ∀ u, a < u → u ≤ m → ¬ (bsV rs).getD (u - 1) 0 = 0 → wide < lwV rs ws a u := by
   intro u h1 h3 h4
   have := down_none _ _ _ _ hd (u - 1 - a) (by omega) (by rw [show a + (u - 1 - a) = u - 1 by omega]; exact h4)
   rw [show a + (u - 1 - a) + 1 = u by omega, fit_iff (by omega) (by omega), decide_eq_false_iff_not] at this
   omega
  have hEm : eB rs m = true := eB_of (by omega) m2 (by rw [m3]; decide)
  have hFm := hno m m1 (Nat.le_refl _) (by rw [m3]; decide)
  obtain ⟨t, ht, h1, h2, h3, h4, h5⟩ := forced_is (fitV (WV rs ws) wide) (JV rs) (eB rs) rs.length a ha (fun i h1 h2 => eB_J (by omega) h2) (fun i j h1 h2 h3 h4 => fit_mono hw hl hn a i j h1 h2 h3 h4) (rs.length - a) (a + 1) a (by omega) (by omega) (.inl ⟨rfl, fun e he hei => by omega⟩)
  rw [ht]
  rw [fit_iff (by omega) h2, decide_eq_true_eq] at h4
  have htm : t ≤ m := by
   apply Decidable.byContradiction
   intro hc
   rcases h4 with h4 | h4
   ·
    have := lw_mono hw hl hn (i := a) (j := m) (t := t) (by omega) (by omega) h2
    omega
   ·
    have := h4 m m1 (by omega)
    rw [hEm] at this
    cases this
  have hN : (if (t : Int) < (m : Int) then (t : Int) else (m : Int)) = (t : Int) := by
   split <;> omega
  rw [hN]
  exact ⟨t, rfl, h1, by omega, h3, .inr (fun hw2 => h4.resolve_left (by omega)), fun u u1 _ u3 u4 => hno u u1 u3 u4⟩
def PL (Q : Nat → Nat → Prop) : Nat → List Int → Prop
 | _, [] => True
 | a, e :: l => ((a : Int) < e ∧ Q a e.toNat) ∧ PL Q e.toNat l
theorem greedy_pl (N : Nat → Int) (n : Nat) (I : Nat → Prop) (Q : Nat → Nat → Prop) (h : ∀ a, a < n → I a → ∃ t : Nat, N a = (t : Int) ∧ a < t ∧ I t ∧ Q a t) : ∀ (g a : Nat) (l : List Int), I a → greedyN N n g a = some l → PL Q a l
 | 0, a, l, hI, hl => by
  rw [greedyN] at hl
  split at hl
  · cases hl
  · cases hl; exact trivial
 | g + 1, a, l, hI, hl => by
  rw [greedyN] at hl
  split at hl
  ·
   rename_i ha
   obtain ⟨t, h1, h2, h3, h4⟩ := h a ha hI
   rw [h1] at hl
   split at hl
   ·
    obtain ⟨l2, q2, q3⟩ := Option.bind_eq_some_iff.mp hl
    cases q3
    rw [Int.toNat_natCast] at q2
    refine ⟨⟨by omega, by rw [Int.toNat_natCast]; exact h4⟩, ?_⟩
    rw [Int.toNat_natCast]
    exact greedy_pl N n I Q h g t l2 h3 q2
   · cases hl
  · cases hl; exact trivial
def QG (rs ws : List Int) (wide : Int) (a t : Nat) : Prop := t ≤ rs.length ∧ (¬ (bsV rs).getD (t - 1) 0 = 2 → ∀ u, t < u → u ≤ rs.length → ¬ (bsV rs).getD (u - 1) 0 = 0 → wide < lwV rs ws a u)
def QF (rs ws : List Int) (wide : Int) (a t : Nat) : Prop := t ≤ rs.length ∧ (wide < lwV rs ws a t → jAt rs a = false ∧ ∀ j, a < j → j < t → jAt rs j = true) ∧ ((bsV rs).getD (t - 1) 0 = 0 → t < rs.length ∧ jAt rs t = false ∧ ∀ u, t ≤ u → u ≤ rs.length → ¬ (bsV rs).getD (u - 1) 0 = 0 → wide < lwV rs ws a u)
theorem next_QG {rs ws : List Int} {wide : Int} (hw : ∀ x ∈ ws, 0 ≤ x ∧ x ≤ 1600) (hl : ws.length = rs.length) (hn : rs.length ≤ 80) {a : Nat} (ha : a < rs.length) : ∃ t : Nat, nextV (bsV rs) (fitV (WV rs ws) wide) (JV rs) rs.length a = (t : Int) ∧ a < t ∧ eB rs t = true ∧ QG rs ws wide a t ∧ (eB rs a = true → QF rs ws wide a t) := by
 obtain ⟨m1, m2, m3⟩ := must_ok ha
 obtain ⟨t, h1, h2, h3, h4, h5, h6⟩ := next_split (wide := wide) hw hl hn ha
 have hall : (t < mustV (bsV rs) rs.length a) → ∀ u, a < u → (t < u ∨ (bsV rs).getD (t - 1) 0 = 0) → u ≤ rs.length → ¬ (bsV rs).getD (u - 1) 0 = 0 → wide < lwV rs ws a u := by
  intro htm u u1 u2 u3 u4
  by_cases hum : u ≤ mustV (bsV rs) rs.length a
  · exact h6 u u1 u2 hum u4
  ·
   have q := h6 _ m1 (.inl htm) (Nat.le_refl _) (by rw [m3]; decide)
   have := lw_mono hw hl hn (i := a) (j := mustV (bsV rs) rs.length a) (t := u) (by omega) (by omega) u3
   omega
 refine ⟨t, h1, h2, h4, ⟨by omega, fun hb u u1 u2 u3 => ?_⟩, fun hE => ⟨by omega, fun hx => ?_, fun hb => ?_⟩⟩
 ·
  have htm : t < mustV (bsV rs) rs.length a := by
   apply Decidable.byContradiction
   intro hc
   obtain rfl : t = mustV (bsV rs) rs.length a := by omega
   exact hb m3
  exact hall htm u (by omega) (.inl u1) u2 u3
 ·
  rcases h5 with h5 | h5
  · omega
  ·
   refine ⟨by rw [eB_jAt ha, hE]; rfl, fun j j1 j2 => ?_⟩
   rw [eB_jAt (by omega), h5 hx j j1 j2]
   rfl
 ·
  have htm : t < mustV (bsV rs) rs.length a := by
   apply Decidable.byContradiction
   intro hc
   obtain rfl : t = mustV (bsV rs) rs.length a := by omega
   rw [hb] at m3
   cases m3
  refine ⟨by omega, by rw [eB_jAt (by omega), h4]; rfl, fun u u1 u2 u3 => hall htm u (by omega) (.inr hb) u2 u3⟩
theorem fit_QF {rs ws : List Int} {wide : Int} : ∀ (l : List Int) (a : Nat), endsV l (a : Int) (rs.length : Int) = true → fitB rs ws wide a l = true → PL (QF rs ws wide) a l
 | [], _, _, _ => trivial
 | e :: l, a, hE, hF => by
  rw [endsV] at hE
  by_cases h1 : e ≤ (a : Int)
  · rw [if_pos h1] at hE; cases hE
  rw [if_neg h1] at hE
  have he : e ≤ (rs.length : Int) := by
   by_cases c : e ≤ (rs.length : Int)
   · exact c
   · rw [endsV_big l e _ (by omega)] at hE; cases hE
  obtain ⟨q, rfl⟩ : ∃ q : Nat, e = q := ⟨e.toNat, by omega⟩
  rw [fitB, Int.toNat_natCast] at hF
  by_cases hc : (bsV rs).getD (q - 1) 0 = 0 ∨ wide < lwV rs ws a q ∨ mustV (bsV rs) rs.length a < q
  · rw [if_pos hc] at hF; cases hF
  rw [if_neg hc] at hF
  refine ⟨⟨by omega, ?_⟩, ?_⟩
  ·
   rw [Int.toNat_natCast]
   exact ⟨by omega, fun h => absurd (.inr (.inl h)) hc, fun h => absurd (.inl h) hc⟩
  ·
   rw [Int.toNat_natCast]
   exact fit_QF l q hE hF
end Go.Proofs.YtmcdcogedcbndaaGreat.Pure
/- Widths and places of any letters; lines one by one. -/
namespace Go.Proofs.YtmcdcogedcbndaaGreat.Pure
open Go.RowKit Go.Proofs.YtmcdcogedcbndaaGreat.S Go.Proofs.YtmcdcogedcbndaaGreatW.PrintWords Go.Proofs.YtmcdcogedcbndaaGreatW.PrintLast
theorem widesOf_any {rs : List Int} {sp : List Sp} {wide : Int} {k : Nat} (hs : sp.length ≤ 1000) (hk : 8000 ≤ k) : ∃ ws, impl_WidesOf.f k rs sp = some ws ∧ (fillV rs sp wide = true → ws = wsV rs sp) := by
 unfold impl_WidesOf.f impl_lettersOk.f
 rw [Option.bind_some]
 cases hk1 : okV rs
 ·
  rw [if_neg (by decide)]
  exact ⟨_, rfl, fun h => by unfold fillV at h; rw [hk1] at h; cases h⟩
 rw [if_pos rfl, spansI_p (by omega) (by omega), Option.bind_some]
 cases hk2 : spansV sp (rs.length : Int)
 ·
  rw [if_neg (by decide)]
  exact ⟨_, rfl, fun h => by unfold fillV at h; rw [hk1, hk2] at h; cases h⟩
 have h : fillV rs sp 0 = true := by unfold fillV; rw [hk1, hk2]; rfl
 obtain ⟨h1, h2, h3, _⟩ := fill_ok h
 rw [if_pos rfl, widesI_p h1 h2 (by omega) (by omega), Option.bind_some]
 exact ⟨_, rfl, fun _ => rfl⟩
theorem ok_len80 {rs : List Int} (h : okV rs = true) : rs.length ≤ 80 := by
 unfold okV at h
 rw [Bool.and_eq_true, decide_eq_true_eq] at h
 exact h.1
theorem breaksOf_any {rs : List Int} {k : Nat} (hk : 8000 ≤ k) : ∃ bs, impl_BreaksOf.f k rs = some bs ∧ bs.length ≤ 80 ∧ (okV rs = true → bs = bsV rs) ∧ (¬ okV rs = true → bs = []) := by
 unfold impl_BreaksOf.f impl_lettersOk.f
 rw [Option.bind_some]
 cases hk1 : okV rs
 ·
  rw [if_neg (by decide)]
  exact ⟨_, rfl, by simp, (fun h => by cases h), fun _ => rfl⟩
 have h1 := ok_len80 hk1
 rw [if_pos rfl, breaksI_p h1 (by omega), Option.bind_some]
 exact ⟨_, rfl, by rw [bsV_len]; exact h1, fun _ => rfl, fun h => absurd rfl h⟩
theorem pl_at {Q : Nat → Nat → Prop} {r : List Int} {i fr : Nat} (h : PL Q fr (r.drop i)) (hlt : i < r.length) : ∃ t : Nat, r.getD i 0 = (t : Int) ∧ fr < t ∧ Q fr t ∧ PL Q t (r.drop (i + 1)) := by
 rw [List.drop_eq_getElem_cons hlt, PL] at h
 obtain ⟨⟨h1, h2⟩, h3⟩ := h
 refine ⟨r[i].toNat, ?_, by omega, h2, h3⟩
 rw [List.getD_eq_getElem?_getD, List.getElem?_eq_getElem hlt, Option.getD_some]
 omega
theorem ws_20000 {rs : List Int} {sp : List Sp} {wide : Int} (h : fillV rs sp wide = true) : ∀ x ∈ wsV rs sp, 0 ≤ x ∧ x ≤ 20000 := by
 intro x hx
 have := ws_small (fill_ok h).2.1 x hx
 omega
end Go.Proofs.YtmcdcogedcbndaaGreat.Pure
/- The best lines, by plans: they fit. -/
namespace Go.Proofs.YtmcdcogedcbndaaGreat.Pure
open Go.RowKit Go.Proofs.YtmcdcogedcbndaaGreat.S Go.Proofs.YtmcdcogedcbndaaGreatW.PrintWords Go.Proofs.YtmcdcogedcbndaaGreatW.PrintLast
theorem row_is (bs : List Int) (F : Nat → Nat → Bool) (C : Nat → Nat → Int) (P : Nat → Int × Int) (a : Nat) : ∀ (g e : Nat) (cur : Int × Int), rowP bs F C P a g e cur = cur ∨ ∃ j, e ≤ j ∧ j < e + g ∧ ¬ bs.getD (j - 1) 0 = 0 ∧ F a j = true ∧ (P j).2 ≠ 0 ∧ rowP bs F C P a g e cur = ((P j).1 + C a j, (j : Int))
 | 0, _, _ => .inl rfl
 | g + 1, e, cur => by
  rw [rowP]
  rcases row_is bs F C P a g (e + 1) (stepP bs F C P a e cur) with h | ⟨j, h1, h2, h3⟩
  ·
   rw [h]
   unfold stepP
   by_cases c1 : bs.getD (e - 1) 0 = 0 ∨ F a e = false ∨ (P e).2 = 0
   ·
    rw [if_pos c1]
    exact .inl rfl
   ·
    rw [if_neg c1]
    by_cases c2 : cur.2 = 0 ∨ (P e).1 + C a e < cur.1
    ·
     rw [if_pos c2]
     refine .inr ⟨e, Nat.le_refl _, by omega, fun h => c1 (.inl h), ?_, fun h => c1 (.inr (.inr h)), rfl⟩
     cases hF : F a e
     · exact absurd (.inr (.inl hF)) c1
     · rfl
    ·
     rw [if_neg c2]
     exact .inl rfl
  · exact .inr ⟨j, by omega, by omega, h3⟩
theorem plan_fit {rs ws : List Int} {wide : Int} {P : Nat → Int × Int} (hP : IsPlan (bsV rs) (fitV (WV rs ws) wide) (costV (bsV rs) (WV rs ws) wide) (MV (bsV rs)) rs.length P) : ∀ (g a : Nat) (r : List Int), outP P rs.length g a = some (some r) → a ≤ rs.length → fitB rs ws wide a r = true
 | 0, a, r, h, ha => by
  rw [outP] at h
  split at h
  · cases h
  · cases h; rfl
 | g + 1, a, r, h, ha => by
  rw [outP] at h
  by_cases hlt : a < rs.length
  case neg =>
   rw [if_neg hlt] at h
   cases h
   rfl
  case pos =>
  rw [if_pos hlt] at h
  by_cases h0 : (P a).2 = 0
  · rw [if_pos h0] at h; cases h
  rw [if_neg h0] at h
  have hm := MV_is hlt
  have hm2 := must_ok hlt
  have hPa := hP.2 a hlt
  rcases row_is (bsV rs) (fitV (WV rs ws) wide) (costV (bsV rs) (WV rs ws) wide) P a (MV (bsV rs) a - a) (a + 1) (0, 0) with hq | ⟨j, h1, h2, h3, h4, h5, hq⟩
  ·
   rw [hPa, hq] at h0
   exact absurd rfl h0
  ·
   rw [hq] at hPa
   rw [hPa] at h
   dsimp only at h
   rw [if_pos (by omega), Int.toNat_natCast] at h
   obtain ⟨o2, ho2, h⟩ := Option.bind_eq_some_iff.mp h
   cases o2 with
   | none => cases h
   | some r2 =>
    have f2 := plan_fit hP g j r2 ho2 (by omega)
    cases h
    unfold fitV at h4
    rw [decide_eq_true_eq, WV_is rs ws (by omega) (by omega)] at h4
    rw [fitB, Int.toNat_natCast, if_neg (fun h => h.elim h3 (fun h => h.elim (by omega) (by omega)))]
    exact f2
theorem best_plan {rs : List Int} {sp : List Sp} {wide : Int} (h1 : fillV rs sp wide = true) : ∃ P, IsPlan (bsV rs) (fitV (WV rs (wsV rs sp)) wide) (costV (bsV rs) (WV rs (wsV rs sp)) wide) (MV (bsV rs)) rs.length P ∧ outP P rs.length rs.length 0 = outB (tabB (bsV rs) (fitV (WV rs (wsV rs sp)) wide) (costV (bsV rs) (WV rs (wsV rs sp)) wide) rs.length rs.length) rs.length rs.length 0 ∧ (outB (tabB (bsV rs) (fitV (WV rs (wsV rs sp)) wide) (costV (bsV rs) (WV rs (wsV rs sp)) wide) rs.length rs.length) rs.length rs.length 0).isSome = true := by
 obtain ⟨f1, f2, f3, f4⟩ := fill_ok h1
 have hM : ∀ i, i < rs.length → MV (bsV rs) i = mustV (bsV rs) rs.length i ∧ i < MV (bsV rs) i ∧ MV (bsV rs) i ≤ rs.length := fun i hi => by
  rw [MV_is hi]
  exact ⟨rfl, (must_ok hi).1, (must_ok hi).2.1⟩
 have hT := tab_rel (bsV rs) (fitV (WV rs (wsV rs sp)) wide) (costV (bsV rs) (WV rs (wsV rs sp)) wide) (MV (bsV rs)) rs.length hM (fun a e ha he => cost_near (ws_small f2) (wsV_len rs sp) f1 (fill_wide h1) (by omega) he)
 obtain ⟨o1, o2⟩ := out_rel rs.length _ _ (fun j hj => hT rs.length (Nat.le_refl _) j (by omega) hj) rs.length 0 (by omega)
 exact ⟨_, tabP_isPlan _ _ _ _ _ (fun i hi => (hM i hi).2.2), o1, o2⟩
end Go.Proofs.YtmcdcogedcbndaaGreat.Pure
/- Of lines that are too wide or end within a word. -/
namespace Go.Proofs.YtmcdcogedcbndaaGreat.Pure
open Go.RowKit Go.Proofs.YtmcdcogedcbndaaGreat.S Go.Proofs.YtmcdcogedcbndaaGreatW.PrintWords Go.Proofs.YtmcdcogedcbndaaGreatW.PrintLast
theorem forcedQF {rs : List Int} {sp : List Sp} {wide mode : Int} {r : List Int} (hr : fillV rs sp wide = true ∧ Ch (mustV (bsV rs) rs.length) rs.length 0 r ∧ LineR rs sp wide mode r) : PL (QF rs (wsV rs sp) wide) 0 r := by
 obtain ⟨g1, g2, g3⟩ := hr
 obtain ⟨f1, f2, f3, f4⟩ := fill_ok g1
 rcases g3.2 with ⟨hg, _⟩ | ⟨_, ho⟩
 ·
  refine greedy_pl _ _ (fun a => eB rs a = true) _ (fun a ha hI => ?_) _ 0 r ?_ hg
  ·
   obtain ⟨t, h1, h2, h3, _, h5⟩ := next_QG (wide := wide) (ws_small f2) (wsV_len rs sp) f1 ha
   exact ⟨t, h1, h2, h3, h5 hI⟩
  ·
   unfold eB jAt
   simp
 ·
  obtain ⟨P, hP, o1, o2⟩ := best_plan (rs := rs) (sp := sp) (wide := wide) g1
  exact fit_QF r 0 (ch_ends _ _ (fun i hi => (must_ok hi).2.1) r 0 (Nat.zero_le _) g2) (plan_fit hP _ 0 r (o1.trans ho) (Nat.zero_le _))
end Go.Proofs.YtmcdcogedcbndaaGreat.Pure
namespace Go.Proofs.YtmcdcogedcbndaaGreat.S
open Go.RowKit Go.Proofs.YtmcdcogedcbndaaGreatW.PrintWords Go.Proofs.YtmcdcogedcbndaaGreatW.PrintLast
set_option linter.unusedVariables false
set_option linter.unusedSimpArgs false
theorem l7Made_calls (k : Nat) (A0 : Option Addr) (c0 : Nat) (rs : List Int) (A1 : Option Addr) (c1 : Nat) (sp : List S50) (wide : Int) (ws bs : List Int) (w : World) (hr0 : Kd.C (Kd.int .i64) w A0 rs.length rs) (hc0 : rs.length ≤ c0) (hr1 : Kd.C k50 w A1 sp.length sp) (hc1 : sp.length ≤ c1) (hw : spec_l6Wides.f k rs sp = some ws) (hb : spec_l5Breaks.f k rs = some bs) :
  Calls Tryz.prog 63 #[.slice A0 rs.length c0, .slice A1 sp.length c1, .int .i64 wide] w fun e w' => ∃ (gb : Nat) (A2 : Option Addr) (c2 : Nat) (A3 : Option Addr) (c3 : Nat), e = .returned (.pointer (some ⟨gb, 0, none⟩)) ∧ FlO 77 gb A0 c0 rs A2 c2 ws A3 c3 bs wide w' ∧ Below w.heap.size w w' := by
 have HR := az hr0
 have HC := az hc0
 have HR1 := az hr1
 have HC1 := az hc1
 have HW := az hw
 have HB := az hb
 clear hr0 hc0 hr1 hc1 hw hb
 go_enter Tryz.func63, Tryz.ntmps63
 go_wp2_with (first
  | (go_at_call 90; go_must (refine (spec_l6Wides.calls k A0 c0 rs A1 c1 sp ws _ HR.out HC.out HR1.out HC1.out HW.out).mono ?_); rintro e w1 ⟨v1, rfl, ho1, hb1⟩; obtain ⟨A2, c2, e2⟩ := Kd.R_slice ho1; subst e2; have HO1 := az ho1; have HB1 := az hb1; clear ho1 hb1)
  | (go_at_call 91; go_must (refine (spec_l5Breaks.calls k A0 c0 rs bs _ (Kd.C_below HR.out HB1.out) HC.out HB.out).mono ?_); rintro e w2 ⟨v2, rfl, ho2, hb2⟩; obtain ⟨A3, c3, e3⟩ := Kd.R_slice ho2; subst e3; have HO2 := az ho2; have HW2 := az (Kd.C_below (Kd.R_reads' HO1.out).2.2 hb2); have HB2 := az (below_then HB1.out HB1.out.size hb2); clear ho2 hb2))
 go_ret
 have hn := blk_new w2 (.cells #[.slice A0 rs.length c0, .slice A2 ws.length c2, .slice A3 bs.length c3, .int .i64 wide] 77)
 have ha : Below w2.heap.size w2 (w2.alloc (.cells #[.slice A0 rs.length c0, .slice A2 ws.length c2, .slice A3 bs.length c3, .int .i64 wide] 77)) := below_alloc (Below.refl _ _) _
 exact ⟨w2.heap.size, A2, c2, A3, c3, rfl, ⟨hn, Kd.C_below (Kd.C_below HR.out HB2.out) ha, HC.out, Kd.C_below HW2.out ha, (Kd.R_reads' HO1.out).2.1, Kd.C_below (Kd.R_reads' HO2.out).2.2 ha, (Kd.R_reads' HO2.out).2.1⟩, below_alloc HB2.out _⟩
theorem fitsS_calls (k : Nat) (gb : Nat) (A0 : Option Addr) (c0 : Nat) (rs : List Int) (A1 : Option Addr) (c1 : Nat) (ws : List Int) (A2 : Option Addr) (c2 : Nat) (bs : List Int) (wide from_ to_ x : Int) (w : World) (hf : FlO 77 gb A0 c0 rs A1 c1 ws A2 c2 bs wide w) (hx : spec_l7Wide.f k rs ws from_ to_ = some x) :
  Calls Tryz.prog 64 #[.pointer (some ⟨gb, 0, none⟩), .int .i64 from_, .int .i64 to_] w fun e w' => e = .returned (.bool (decide (x ≤ wide))) ∧ Below w.heap.size w w' := by
 have hS := FlI.of (w0 := w) hf (Below.refl _ _)
 have HX := az hx
 unfold FlI at hS
 clear hf hx
 go_enter Tryz.func64, Tryz.ntmps64
 go_upto_region 1 with fail
 go_region_held3 (fun W => W.cell? ⟨gb, 0, none⟩ = some (.slice A0 rs.length c0) ∧ W.cell? ⟨gb, 1, none⟩ = some (.slice A1 ws.length c1) ∧ W.cell? ⟨gb, 2, none⟩ = some (.slice A2 bs.length c2) ∧ W.cell? ⟨gb, 3, none⟩ = some (.int .i64 wide) ∧ Aside0 (FlO 77 gb A0 c0 rs A1 c1 ws A2 c2 bs wide W ∧ Below w.heap.size w W)) (first | (with_reducible assumption) | (with_reducible refine FlI.below ?_ zH; with_reducible assumption) | (with_reducible exact FlI.drew zH)) (first
  | (go_at_call 92; refine (spec_l7Wide.calls k A0 c0 rs A1 c1 ws from_ to_ x _ ?s1 ?s2 ?s3 ?s4 HX.out).mono ?_; (case s1 => exact (show FlI 77 gb A0 c0 rs A1 c1 ws A2 c2 bs wide w _ from zH).2.2.2.2.out.1.2.1); (case s2 => exact (show FlI 77 gb A0 c0 rs A1 c1 ws A2 c2 bs wide w _ from zH).2.2.2.2.out.1.2.2.1); (case s3 => exact (show FlI 77 gb A0 c0 rs A1 c1 ws A2 c2 bs wide w _ from zH).2.2.2.2.out.1.2.2.2.1); (case s4 => exact (show FlI 77 gb A0 c0 rs A1 c1 ws A2 c2 bs wide w _ from zH).2.2.2.2.out.1.2.2.2.2.1); rintro e w3 ⟨rfl, p⟩))
 all_goals
  go_wp2
  go_ret
  exact ⟨rfl, (show FlI 77 gb A0 c0 rs A1 c1 ws A2 c2 bs wide w _ from zH).2.2.2.2.out.2⟩
theorem mustS_calls (gb : Nat) (A0 : Option Addr) (c0 : Nat) (rs : List Int) (A1 : Option Addr) (c1 : Nat) (ws : List Int) (A2 : Option Addr) (c2 : Nat) (bs : List Int) (wide : Int) (m : Nat) (w : World) (hf : FlO 77 gb A0 c0 rs A1 c1 ws A2 c2 bs wide w) (hm : m ≤ bs.length) (hn : bs.length ≤ 1000) :
  Calls Tryz.prog 65 #[.pointer (some ⟨gb, 0, none⟩), .int .i64 m] w fun e w' => e = .returned (.int .i64 (mustV bs rs.length m)) ∧ Drawn0 w w' := by
 have HS := az hf
 have HM := az hm
 clear hf hm
 go_enter Tryz.func65, Tryz.ntmps65
 go_wp2
 go_loopg [5] bs.length (fun gg s5 wr => ∃ i : Nat, s5 = .int .i64 i ∧ i ≤ bs.length ∧ bs.length - i ≤ gg ∧ Aside0 (mustN bs rs.length (bs.length - i) i = mustV bs rs.length m) ∧ Aside0 (Drawn0 w wr))
 case atStart => exact ⟨m, rfl, HM.out, by omega, ⟨rfl⟩, ⟨Drawn0.refl _⟩⟩
 case round =>
  obtain ⟨i, rfl, hi, hg, HF, HD⟩ := hrel
  have HQ := az (HS.out.below HD.out.below)
  have q0 := (blk_cell HQ.out.1 0).trans (show _ = some (Value.slice A0 rs.length c0) from rfl)
  have q2 := (blk_cell HQ.out.1 2).trans (show _ = some (Value.slice A2 bs.length c2) from rfl)
  by_cases hlt : i < bs.length
  ·
   have hltz : (i : Int) < (bs.length : Int) := by omega
   have hi0 : (0 : Int) ≤ (i : Int) := by omega
   obtain ⟨ad, hA, hx⟩ := Kd.at_int HQ.out.2.2.2.2.2.1 (i : Int) hi0 hltz
   subst hA
   have hxx : rd bs (i : Int) = bs.getD i 0 := by simp [rd]
   rw [hxx, Int.toNat_natCast] at hx
   have hq := HF.out
   rw [show bs.length - i = (bs.length - (i + 1)) + 1 by omega, mustN] at hq
   obtain ⟨y, hy⟩ : ∃ y, bs.getD i 0 = y := ⟨_, rfl⟩
   rw [hy] at hx hq
   have HLT := az hlt
   clear hxx hy HF
   by_cases h2 : y = 2
   ·
    rw [if_pos h2] at hq
    have HR := az hq
    have b2 : (y == 2) = true := beq_iff_eq.mpr h2
    clear h2 hq
    go_wp2
    go_ret
    exact ⟨by rw [← HR.out]; first | rfl | (congr 2; unfold wrap64; omega), HD.out⟩
   ·
    rw [if_neg h2] at hq
    have HR := az hq
    have b2 : (y == 2) = false := beq_eq_false_iff_ne.mpr h2
    clear h2 hq
    go_wp2
    go_roundg (bs.length - (i + 1))
    case measure => have := HLT.out; omega
    case rel => exact ⟨i + 1, by go_num, HLT.out, Nat.le_refl _, HR, HD⟩
  ·
   have hltz : ¬ (i : Int) < (bs.length : Int) := by omega
   obtain rfl : i = bs.length := by omega
   have hq := HF.out
   rw [Nat.sub_self, mustN] at hq
   have HR := az hq
   clear hq HF
   go_wp2
   go_ret
   exact ⟨by rw [← HR.out]; first | done | rfl, HD.out⟩
theorem costS_calls (k : Nat) (gb : Nat) (A0 : Option Addr) (c0 : Nat) (rs : List Int) (A1 : Option Addr) (c1 : Nat) (ws : List Int) (A2 : Option Addr) (c2 : Nat) (bs : List Int) (wide from_ to_ x : Int) (m : Nat) (w : World) (hf : FlO 77 gb A0 c0 rs A1 c1 ws A2 c2 bs wide w) (hm : to_ - 1 = (m : Int)) (hmb : m < bs.length) (hx : spec_l7Wide.f k rs ws from_ to_ = some x) (hb : (wide - x).natAbs ≤ 1000000000) :
  Calls Tryz.prog 67 #[.pointer (some ⟨gb, 0, none⟩), .int .i64 from_, .int .i64 to_] w fun e w' => e = .returned (.int .i64 (if bs.getD m 0 = 2 then 0 else (wide - x) * (wide - x))) ∧ Below w.heap.size w w' := by
 have hm0 : (0 : Int) ≤ (m : Int) := by omega
 have hmz : (m : Int) < (bs.length : Int) := by omega
 have hl := hf.2.2.2.2.2.1.2.1
 obtain ⟨ad5, hA5, hx5⟩ := Kd.at_int hf.2.2.2.2.2.1 (m : Int) hm0 hmz
 subst hA5
 have hxx : rd bs (m : Int) = bs.getD m 0 := by simp [rd]
 rw [hxx, Int.toNat_natCast] at hx5
 obtain ⟨y, hy⟩ : ∃ y, bs.getD m 0 = y := ⟨_, rfl⟩
 rw [hy] at hx5 ⊢
 have hw1 : IntKind.i64.wrap (to_ - 1) = (m : Int) := by rw [i64_w]; unfold wrap64; omega
 have hw2 : wrap64 (to_ - 1) = (m : Int) := by unfold wrap64; omega
 obtain ⟨d, hd⟩ : ∃ d, wide - x = d := ⟨_, rfl⟩
 rw [hd] at hb ⊢
 have hs := sq_fit d hb
 have hw3 : wrap64 (wide - x) = d := by unfold wrap64; omega
 have hw4 : IntKind.i64.wrap (wide - x) = d := by rw [i64_w]; exact hw3
 have hw5 : wrap64 (d * d) = d * d := by unfold wrap64; omega
 have hw6 : IntKind.i64.wrap (d * d) = d * d := by rw [i64_w]; exact hw5
 clear hxx hy hm hs hb hd hmb
 have HX := az hx
 clear hx
 by_cases h2 : y = 2
 ·
  rw [if_pos h2]
  have b2 : (y == 2) = true := beq_iff_eq.mpr h2
  have q2 := (blk_cell hf.1 2).trans (show _ = some (Value.slice (some ad5) bs.length c2) from rfl)
  clear h2 hf
  go_enter Tryz.func67, Tryz.ntmps67
  go_wp2
  go_ret
  exact ⟨rfl, by repeat (first | exact Below.refl _ _ | apply pw_below_drewN | apply below_drew1)⟩
 ·
  rw [if_neg h2]
  have b2 : (y == 2) = false := beq_eq_false_iff_ne.mpr h2
  have hS := FlI.of (w0 := w) hf (Below.refl _ _)
  unfold FlI at hS
  clear h2 hf
  go_enter Tryz.func67, Tryz.ntmps67
  obtain ⟨q0, q1, q2, q3, q4⟩ := hS
  go_upto_region 3 with fail
  have hS : FlI 77 gb A0 c0 rs A1 c1 ws (some ad5) c2 bs wide w w := ⟨q0, q1, q2, q3, q4⟩
  unfold FlI at hS
  clear q0 q1 q2 q3 q4 hx5
  go_region_held3 (fun W => W.cell? ⟨gb, 0, none⟩ = some (.slice A0 rs.length c0) ∧ W.cell? ⟨gb, 1, none⟩ = some (.slice A1 ws.length c1) ∧ W.cell? ⟨gb, 2, none⟩ = some (.slice (some ad5) bs.length c2) ∧ W.cell? ⟨gb, 3, none⟩ = some (.int .i64 wide) ∧ Aside0 (FlO 77 gb A0 c0 rs A1 c1 ws (some ad5) c2 bs wide W ∧ Below w.heap.size w W)) (first | (with_reducible assumption) | (with_reducible refine FlI.below ?_ zH; with_reducible assumption) | (with_reducible exact FlI.drew zH)) (first
   | (go_at_call 92; refine (spec_l7Wide.calls k A0 c0 rs A1 c1 ws from_ to_ x _ ?s1 ?s2 ?s3 ?s4 HX.out).mono ?_; (case s1 => exact (show FlI 77 gb A0 c0 rs A1 c1 ws (some ad5) c2 bs wide w _ from zH).2.2.2.2.out.1.2.1); (case s2 => exact (show FlI 77 gb A0 c0 rs A1 c1 ws (some ad5) c2 bs wide w _ from zH).2.2.2.2.out.1.2.2.1); (case s3 => exact (show FlI 77 gb A0 c0 rs A1 c1 ws (some ad5) c2 bs wide w _ from zH).2.2.2.2.out.1.2.2.2.1); (case s4 => exact (show FlI 77 gb A0 c0 rs A1 c1 ws (some ad5) c2 bs wide w _ from zH).2.2.2.2.out.1.2.2.2.2.1); rintro e w3 ⟨rfl, p⟩))
  all_goals
   go_wp2
   go_ret
   exact ⟨rfl, (show FlI 77 gb A0 c0 rs A1 c1 ws (some ad5) c2 bs wide w _ from zH).2.2.2.2.out.2⟩
theorem bestS_calls (k : Nat) (gb : Nat) (A0 : Option Addr) (c0 : Nat) (rs : List Int) (A1 : Option Addr) (c1 : Nat) (ws : List Int) (A2 : Option Addr) (c2 : Nat) (bs : List Int) (wide : Int) (W : Nat → Nat → Int) (w : World) (r : List Int) (ok : Bool) (hf : FlO 77 gb A0 c0 rs A1 c1 ws A2 c2 bs wide w) (hn : rs.length ≤ 1000) (hbl : bs.length = rs.length) (hW : ∀ i j : Nat, i ≤ j → j ≤ rs.length → spec_l7Wide.f k rs ws (i : Int) (j : Int) = some (W i j)) (hWb : ∀ i j : Nat, i ≤ j → j ≤ rs.length → (wide - W i j).natAbs ≤ 1000000000) (hTb : ∀ d, d ≤ rs.length → ∀ j, j ≤ rs.length → 0 ≤ ((tabB bs (fitV W wide) (costV bs W wide) rs.length) d j).1 ∧ ((tabB bs (fitV W wide) (costV bs W wide) rs.length) d j).1 ≤ 1000000000000000) (hr : outB ((tabB bs (fitV W wide) (costV bs W wide) rs.length) rs.length) rs.length rs.length 0 = some (if ok = true then some r else none)) (hr0 : ok = false → r = []) :
  Calls Tryz.prog 70 #[.pointer (some ⟨gb, 0, none⟩)] w fun e w' => ∃ v0_ : Value, e = .returned (.tuple #[v0_, .bool ok]) ∧ Kd.R (Kd.int .i64) 3 w' w.heap.size (fun _ => True) v0_ r ∧ Below w.heap.size w w' := by
 have HS := az hf
 have HW := az hW
 have HWB := az hWb
 have HTB := az hTb
 have HBL := az hbl
 have HN := az hn
 have HRR := az hr
 have HR0 := az hr0
 have q0 := (blk_cell hf.1 0).trans (show _ = some (Value.slice A0 rs.length c0) from rfl)
 have h0 : (0 : Int) ≤ (rs.length : Int) := by omega
 clear hf hW hWb hTb hbl hr hr0
 go_enter Tryz.func70, Tryz.ntmps70
 go_upto_region 2 with fail
 have hw1 : wrap64 ((rs.length : Int) + 1) = ((rs.length + 1 : Nat) : Int) := by unfold wrap64; omega
 have hu := Tryz.underlying103
 go_wp2_with ((with_reducible refine gate_dst (N := 19) rfl ?_); refine make_tab 105 rfl 103 (.tmp 18) (.tmp 18) rfl (rs.length + 1) (by go_simp) (by go_simp) hu (by kernel_rfl) (by omega) ?_)
 obtain ⟨g0, hg0⟩ : ∃ g0, w.heap.size = g0 := ⟨_, rfl⟩
 have HT0 := az (TB.made 105 (rs.length + 1) w)
 have HB0 := az (below_alloc (Below.refl w.heap.size w) (.cells (madeCells #[.int .i64 0, .int .i64 0] ((rs.length + 1) * 2)) 105))
 rw [hg0] at HT0 ⊢
 generalize w.alloc (.cells (madeCells #[.int .i64 0, .int .i64 0] ((rs.length + 1) * 2)) 105) = w1 at HT0 HB0 ⊢
 have HG0 := az (show w.heap.size ≤ g0 by omega)
 have HGE := az hg0
 clear q0 hw1 h0
 go_loopg [6] rs.length (fun gg s6 wr => ∃ d : Nat, s6 = .int .i64 ((rs.length : Int) - 1 - (d : Int)) ∧ d ≤ rs.length ∧ rs.length - d ≤ gg ∧ Aside0 (TB 105 g0 (rs.length + 1) ((tabB bs (fitV W wide) (costV bs W wide) rs.length) d) wr) ∧ Aside0 (Below w.heap.size w wr))
 case atStart => exact ⟨0, by go_num, Nat.zero_le _, by omega, HT0, HB0⟩
 case round =>
  clear HT0 HB0
  obtain ⟨d, rfl, hd, hg, HT, HB⟩ := hrel
  by_cases hlt : d < rs.length
  ·
   obtain ⟨a, ha⟩ : ∃ a : Nat, rs.length - 1 - d = a := ⟨_, rfl⟩
   have hai : (rs.length : Int) - 1 - (d : Int) = (a : Int) := by omega
   rw [hai]
   have ha0 : (0 : Int) ≤ (a : Int) := by omega
   have han : (a : Int) < ((rs.length + 1 : Nat) : Int) := by omega
   have halt : a < rs.length + 1 := by omega
   obtain ⟨T, hT⟩ : ∃ T, (tabB bs (fitV W wide) (costV bs W wide) rs.length) d = T := ⟨_, rfl⟩
   have HTE := az hT
   have HTP : Aside0 (∀ j : Nat, j ≤ rs.length → 0 ≤ (T j).1 ∧ (T j).1 ≤ 1000000000000000) := ⟨fun j hj => hT ▸ HTB.out d hd j hj⟩
   have HTA : Aside0 ((T a).1 = 0) := ⟨by rw [← hT, tabB_lo bs (fitV W wide) (costV bs W wide) rs.length d a (by omega)]⟩
   rw [hT] at HT
   obtain ⟨x0, x1, x2, x3⟩ := HT.out.cells halt
   have HT1 : Aside0 (TB 105 g0 (rs.length + 1) (updV T a (0, -1)) (wr.setCell ⟨g0, a * 2 + 1, none⟩ (.int .i64 (-1)))) := ⟨by rw [← HTA.out]; exact HT.out.set1 halt (-1)⟩
   have HB1 : Aside0 (Below w.heap.size w (wr.setCell ⟨g0, a * 2 + 1, none⟩ (.int .i64 (-1)))) := ⟨HB.out.setCell (p := ⟨g0, a * 2 + 1, none⟩) HG0.out _⟩
   have HAL := az halt
   have HAE := az ha
   have HDL := az hlt
   have HML := az (mustN_le bs rs.length (bs.length - a) a (zE HBL.out))
   have HAN := az (show a ≤ bs.length from (zE HBL.out))
   have HNN := az (show bs.length ≤ 1000 from (zE HBL.out))
   clear hT hd hlt ha hai HT HB
   go_upto_region 8 with (go_at_call 65; go_must (refine (mustS_calls gb A0 c0 rs A1 c1 ws A2 c2 bs wide a _ (HS.out.below HB1.out) HAN.out HNN.out).mono ?_); rintro e w4 ⟨rfl, hd4⟩; have HB4 := az (below_then HB1.out HB1.out.size hd4.below); have HT4 := az (HT1.out.below hd4.below); clear hd4)
   have HME : Aside0 (mustV bs rs.length a = mustN bs rs.length (bs.length - a) a) := ⟨rfl⟩
   obtain ⟨en, hen⟩ : ∃ en, mustV bs rs.length a = en := ⟨_, rfl⟩
   have HEN := az (show en ≤ rs.length from hen ▸ HML.out)
   have HEE := az hen
   rw [hen]
   clear HML HME hen x0 x1 x2 x3 HT1 HB1
   go_wp2
   go_loopg [8] rs.length (fun gq s8 wq => ∃ (e : Nat) (u v : Int), s8 = .int .i64 e ∧ a < e ∧ en + 1 - e ≤ gq ∧ Aside0 (rowB bs (fitV W wide) (costV bs W wide) rs.length T a (en + 1 - e) e (u, v) = rowB bs (fitV W wide) (costV bs W wide) rs.length T a (en - a) (a + 1) (0, -1)) ∧ Aside0 (TB 105 g0 (rs.length + 1) (updV T a (u, v)) wq) ∧ Aside0 (Below w.heap.size w wq))
   case atStart => exact ⟨a + 1, 0, -1, by have h9 := HAN.out; have h8 := HNN.out; first | go_num | (congr 1; unfold wrap64; omega), by omega, zE HEN.out, ⟨by rw [show en + 1 - (a + 1) = en - a by omega]⟩, HT4, HB4⟩
   case round =>
    clear HT4 HB4
    obtain ⟨e, u, v, rfl, hi0, hgq, HF, HT, HB⟩ := hrel
    have HQ := az (HS.out.below HB.out)
    by_cases hle : e ≤ en
    ·
     have hlez : (e : Int) ≤ (en : Int) := by omega
     have hq := HF.out
     rw [show en + 1 - e = (en + 1 - (e + 1)) + 1 by omega, rowB] at hq
     obtain ⟨m, hm⟩ : ∃ m : Nat, e = m + 1 := ⟨e - 1, by omega⟩
     have hm0 : (0 : Int) ≤ (m : Int) := by omega
     have hmz : (m : Int) < (bs.length : Int) := by have := HEN.out; have := HBL.out; omega
     have hen9 := HEN.out
     have he0 : (0 : Int) ≤ (e : Int) := by omega
     have hez : (e : Int) < ((rs.length + 1 : Nat) : Int) := by omega
     have hez2 : (e : Int) < (rs.length : Int) + 1 := by omega
     have hez3 : e < rs.length + 1 := by omega
     have q2 := (blk_cell HQ.out.1 2).trans (show _ = some (Value.slice A2 bs.length c2) from rfl)
     obtain ⟨ad5, hA5, hx5⟩ := Kd.at_int HQ.out.2.2.2.2.2.1 (m : Int) hm0 hmz
     have hxx : rd bs (m : Int) = bs.getD m 0 := by simp [rd]
     rw [hxx, Int.toNat_natCast] at hx5
     obtain ⟨y, hy⟩ : ∃ y, bs.getD m 0 = y := ⟨_, rfl⟩
     rw [hy] at hx5
     subst hA5
     have hw1 : IntKind.i64.wrap ((e : Int) - 1) = (m : Int) := by rw [i64_w]; unfold wrap64; omega
     have hw2 : wrap64 ((e : Int) - 1) = (m : Int) := by unfold wrap64; omega
     have HYE : Aside0 (bs.getD (e - 1) 0 = y) := ⟨by rw [show e - 1 = m by omega]; exact hy⟩
     have HYM := az hy
     have HMB := az (show m < bs.length by omega)
     have HEM := az (show (e : Int) - 1 = (m : Int) by omega)
     have HLE := az (show e ≤ rs.length by omega)
     have HLN := az hle
     have HAE2 := az hi0
     obtain ⟨y0, y1, _, _⟩ := HT.out.cells (i := e) (by omega)
     rw [updV_ne T (u, v) (show e ≠ a by omega)] at y0 y1
     obtain ⟨p1, hp1⟩ : ∃ p1, (T e).1 = p1 := ⟨_, rfl⟩
     obtain ⟨p2, hp2⟩ : ∃ p2, (T e).2 = p2 := ⟨_, rfl⟩
     have hpb := HTP.out e (by omega)
     rw [hp1] at y0 hpb
     rw [hp2] at y1
     have HP1 := az hp1
     have HP2 := az hp2
     have HPB := az hpb
     have HQQ := az hq
     clear hxx hy hm hle HF hq hp1 hp2 hpb hen9
     by_cases hy0 : y = 0
     ·
      have b0 : (y == 0) = true := beq_iff_eq.mpr hy0
      have HST : Aside0 ((u, v) = stepB bs (fitV W wide) (costV bs W wide) rs.length T a e (u, v)) := ⟨by unfold stepB; rw [HYE.out, if_pos (Or.inl hy0)]⟩
      clear hy0
      go_wp2
      go_roundg (en + 1 - (e + 1))
      case measure => have := HLN.out; omega
      case rel => exact ⟨e + 1, u, v, by have h9 := HLE.out; have h8 := HN.out; first | go_num | (congr 1; unfold wrap64; omega), zE HAE2.out, Nat.le_refl _, ⟨by rw [← HQQ.out]; congr 1; exact HST.out⟩, HT, HB⟩
     ·
      have b0 : (y == 0) = false := beq_eq_false_iff_ne.mpr hy0
      cases hfi : fitV W wide a e
      case false =>
       have HFI := az hfi
       have HST : Aside0 ((u, v) = stepB bs (fitV W wide) (costV bs W wide) rs.length T a e (u, v)) := ⟨by unfold stepB; rw [if_pos (Or.inr (Or.inl hfi))]⟩
       clear hy0 hfi
       go_wp2_with (go_at_call 64; go_must (refine (fitsS_calls k gb A0 c0 rs A1 c1 ws (some ad5) c2 bs wide (a : Int) (e : Int) (W a e) _ HQ.out (HW.out a e (zE HAE2.out) HLE.out)).mono ?_); rw [show decide (W a e ≤ wide) = false from HFI.out]; rintro e1 w2 ⟨rfl, hb2⟩; have HB2 := az (below_then HB.out HB.out.size hb2); have HT2 := az (HT.out.below hb2); have HL2 := az hb2; have y0 := hb2.cell (World.block_lt_of_cell? _ _ y0) |>.trans y0; have y1 := hb2.cell (World.block_lt_of_cell? _ _ y1) |>.trans y1; clear hb2)
       go_roundg (en + 1 - (e + 1))
       case measure => have := HLN.out; omega
       case rel => exact ⟨e + 1, u, v, by have h9 := HLE.out; have h8 := HN.out; first | go_num | (congr 1; unfold wrap64; omega), zE HAE2.out, Nat.le_refl _, ⟨by rw [← HQQ.out]; congr 1; exact HST.out⟩, HT2, HB2⟩
      case true =>
       have HFI := az hfi
       by_cases hen1 : e < rs.length
       ·
        have henz : (e : Int) < (rs.length : Int) := by omega
        by_cases hp0 : p2 < 0
        ·
         have HST : Aside0 ((u, v) = stepB bs (fitV W wide) (costV bs W wide) rs.length T a e (u, v)) := ⟨by unfold stepB; rw [if_pos (Or.inr (Or.inr ⟨hen1, by rw [HP2.out]; exact hp0⟩))]⟩
         clear hy0 hfi hen1
         go_wp2_with (go_at_call 64; go_must (refine (fitsS_calls k gb A0 c0 rs A1 c1 ws (some ad5) c2 bs wide (a : Int) (e : Int) (W a e) _ HQ.out (HW.out a e (zE HAE2.out) HLE.out)).mono ?_); rw [show decide (W a e ≤ wide) = true from HFI.out]; rintro e1 w2 ⟨rfl, hb2⟩; have HB2 := az (below_then HB.out HB.out.size hb2); have HT2 := az (HT.out.below hb2); have HL2 := az hb2; have y0 := hb2.cell (World.block_lt_of_cell? _ _ y0) |>.trans y0; have y1 := hb2.cell (World.block_lt_of_cell? _ _ y1) |>.trans y1; clear hb2)
         go_roundg (en + 1 - (e + 1))
         case measure => have := HLN.out; omega
         case rel => exact ⟨e + 1, u, v, by have h9 := HLE.out; have h8 := HN.out; first | go_num | (congr 1; unfold wrap64; omega), zE HAE2.out, Nat.le_refl _, ⟨by rw [← HQQ.out]; congr 1; exact HST.out⟩, HT2, HB2⟩
        ·
         have HNG : Aside0 (¬ (bs.getD (e - 1) 0 = 0 ∨ fitV W wide a e = false ∨ (e < rs.length ∧ (T e).2 < 0))) := ⟨by rw [HYE.out, hfi, HP2.out]; intro h; rcases h with h | h | h; exact hy0 h; cases h; exact hp0 h.2⟩
         clear hy0 hfi hen1
         obtain ⟨x, hx⟩ : ∃ x, costV bs W wide a e = x := ⟨_, rfl⟩
         have HCX : Aside0 ((if bs.getD m 0 = 2 then 0 else (wide - W a e) * (wide - W a e)) = x) := ⟨by rw [← hx]; unfold costV; rw [HYE.out, HYM.out]⟩
         have hxb : 0 ≤ x ∧ x ≤ 1000000000000000000 := by rw [← HCX.out]; split; omega; exact sq_fit _ (HWB.out a e (zE HAE2.out) HLE.out)
         have hpb := HPB.out
         obtain ⟨c, hc⟩ : ∃ c, x + p1 = c := ⟨_, rfl⟩
         have hw3 : wrap64 (x + p1) = c := by unfold wrap64; omega
         have hw4 : IntKind.i64.wrap (x + p1) = c := by rw [i64_w]; exact hw3
         have HXC := az (show costV bs W wide a e + (T e).1 = c by rw [hx, HP1.out]; exact hc)
         clear hx hxb hpb hc
         go_upto_region 12 with (go_at_call 64; go_must (refine (fitsS_calls k gb A0 c0 rs A1 c1 ws (some ad5) c2 bs wide (a : Int) (e : Int) (W a e) _ HQ.out (HW.out a e (zE HAE2.out) HLE.out)).mono ?_); rw [show decide (W a e ≤ wide) = true from HFI.out]; rintro e1 w2 ⟨rfl, hb2⟩; have HB2 := az (below_then HB.out HB.out.size hb2); have HT2 := az (HT.out.below hb2); have HL2 := az hb2; have y0 := hb2.cell (World.block_lt_of_cell? _ _ y0) |>.trans y0; have y1 := hb2.cell (World.block_lt_of_cell? _ _ y1) |>.trans y1; clear hb2)
         have hJ := FlJ.of (p := ⟨g0, e * 2, none⟩) (q := ⟨g0, e * 2, none⟩) ⟨HQ.out.below HL2.out, Below.refl _ _, y0, y0⟩
         clear y0 y1 q2 hx5
         unfold FlJ at hJ
         go_region_held3 (fun W' => W'.cell? ⟨gb, 0, none⟩ = some (.slice A0 rs.length c0) ∧ W'.cell? ⟨gb, 1, none⟩ = some (.slice A1 ws.length c1) ∧ W'.cell? ⟨gb, 2, none⟩ = some (.slice (some ad5) bs.length c2) ∧ W'.cell? ⟨gb, 3, none⟩ = some (.int .i64 wide) ∧ W'.cell? ⟨g0, e * 2, none⟩ = some (.int .i64 p1) ∧ W'.cell? ⟨g0, e * 2, none⟩ = some (.int .i64 p1) ∧ Aside0 (FlK 77 gb A0 c0 rs A1 c1 ws (some ad5) c2 bs wide ⟨g0, e * 2, none⟩ p1 ⟨g0, e * 2, none⟩ p1 w2 W')) (first | (with_reducible assumption) | (with_reducible refine FlJ.below ?_ zH; with_reducible assumption) | (with_reducible exact FlJ.drew zH)) (first | (go_at_call 67; (with_reducible refine (costS_calls k gb A0 c0 rs A1 c1 ws (some ad5) c2 bs wide (a : Int) (e : Int) (W a e) m _ ?s1 HEM.out HMB.out (HW.out a e (zE HAE2.out) HLE.out) (HWB.out a e (zE HAE2.out) HLE.out)).mono ?_); (case s1 => exact (show FlJ 77 gb A0 c0 rs A1 c1 ws (some ad5) c2 bs wide ⟨g0, e * 2, none⟩ p1 ⟨g0, e * 2, none⟩ p1 w2 _ from zH).2.2.2.2.2.2.out.1); rw [HCX.out]; rintro e3 w3 ⟨rfl, p⟩))
         all_goals
          have HB6 := az (show FlJ 77 gb A0 c0 rs A1 c1 ws (some ad5) c2 bs wide ⟨g0, e * 2, none⟩ p1 ⟨g0, e * 2, none⟩ p1 w2 _ from zH).2.2.2.2.2.2.out.2.1
          have HB7 := az (below_then HB2.out HB2.out.size HB6.out)
          have HT7 := az (HT2.out.below HB6.out)
          obtain ⟨z0, z1, z2, z3⟩ := HT7.out.cells HAL.out
          rw [updV_at] at z0 z1
          by_cases hv0 : v < 0
          ·
           have HST : Aside0 ((c, (e : Int)) = stepB bs (fitV W wide) (costV bs W wide) rs.length T a e (u, v)) := ⟨by unfold stepB; rw [if_neg HNG.out, HXC.out, if_pos (Or.inl hv0)]⟩
           go_wp2
           go_roundg (en + 1 - (e + 1))
           case measure => have := HLN.out; omega
           case rel => exact ⟨e + 1, c, (e : Int), by have h9 := HLE.out; have h8 := HN.out; first | go_num | (congr 1; unfold wrap64; omega), zE HAE2.out, Nat.le_refl _, ⟨by rw [← HQQ.out]; congr 1; exact HST.out⟩, ⟨by have h := HT7.out.set HAL.out c (e : Int); rw [updV_updV] at h; exact h⟩, ⟨(HB7.out.setCell (p := ⟨g0, a * 2, none⟩) HG0.out _).setCell (p := ⟨g0, a * 2 + 1, none⟩) HG0.out _⟩⟩
          ·
           by_cases hcu : c < u
           ·
            have HST : Aside0 ((c, (e : Int)) = stepB bs (fitV W wide) (costV bs W wide) rs.length T a e (u, v)) := ⟨by unfold stepB; rw [if_neg HNG.out, HXC.out, if_pos (Or.inr hcu)]⟩
            go_wp2
            go_roundg (en + 1 - (e + 1))
            case measure => have := HLN.out; omega
            case rel => exact ⟨e + 1, c, (e : Int), by have h9 := HLE.out; have h8 := HN.out; first | go_num | (congr 1; unfold wrap64; omega), zE HAE2.out, Nat.le_refl _, ⟨by rw [← HQQ.out]; congr 1; exact HST.out⟩, ⟨by have h := HT7.out.set HAL.out c (e : Int); rw [updV_updV] at h; exact h⟩, ⟨(HB7.out.setCell (p := ⟨g0, a * 2, none⟩) HG0.out _).setCell (p := ⟨g0, a * 2 + 1, none⟩) HG0.out _⟩⟩
           ·
            have HST : Aside0 ((u, v) = stepB bs (fitV W wide) (costV bs W wide) rs.length T a e (u, v)) := ⟨by unfold stepB; rw [if_neg HNG.out, HXC.out, if_neg (show ¬ (v < 0 ∨ c < u) by omega)]⟩
            go_wp2
            go_roundg (en + 1 - (e + 1))
            case measure => have := HLN.out; omega
            case rel => exact ⟨e + 1, u, v, by have h9 := HLE.out; have h8 := HN.out; first | go_num | (congr 1; unfold wrap64; omega), zE HAE2.out, Nat.le_refl _, ⟨by rw [← HQQ.out]; congr 1; exact HST.out⟩, HT7, HB7⟩
       ·
        have henz : ¬ (e : Int) < (rs.length : Int) := by omega
        have HNG : Aside0 (¬ (bs.getD (e - 1) 0 = 0 ∨ fitV W wide a e = false ∨ (e < rs.length ∧ (T e).2 < 0))) := ⟨by rw [HYE.out, hfi, HP2.out]; intro h; rcases h with h | h | h; exact hy0 h; cases h; exact hen1 h.1⟩
        clear hy0 hfi hen1
        obtain ⟨x, hx⟩ : ∃ x, costV bs W wide a e = x := ⟨_, rfl⟩
        have HCX : Aside0 ((if bs.getD m 0 = 2 then 0 else (wide - W a e) * (wide - W a e)) = x) := ⟨by rw [← hx]; unfold costV; rw [HYE.out, HYM.out]⟩
        have hxb : 0 ≤ x ∧ x ≤ 1000000000000000000 := by rw [← HCX.out]; split; omega; exact sq_fit _ (HWB.out a e (zE HAE2.out) HLE.out)
        have hpb := HPB.out
        obtain ⟨c, hc⟩ : ∃ c, x + p1 = c := ⟨_, rfl⟩
        have hw3 : wrap64 (x + p1) = c := by unfold wrap64; omega
        have hw4 : IntKind.i64.wrap (x + p1) = c := by rw [i64_w]; exact hw3
        have HXC := az (show costV bs W wide a e + (T e).1 = c by rw [hx, HP1.out]; exact hc)
        clear hx hxb hpb hc
        go_upto_region 12 with (go_at_call 64; go_must (refine (fitsS_calls k gb A0 c0 rs A1 c1 ws (some ad5) c2 bs wide (a : Int) (e : Int) (W a e) _ HQ.out (HW.out a e (zE HAE2.out) HLE.out)).mono ?_); rw [show decide (W a e ≤ wide) = true from HFI.out]; rintro e1 w2 ⟨rfl, hb2⟩; have HB2 := az (below_then HB.out HB.out.size hb2); have HT2 := az (HT.out.below hb2); have HL2 := az hb2; have y0 := hb2.cell (World.block_lt_of_cell? _ _ y0) |>.trans y0; have y1 := hb2.cell (World.block_lt_of_cell? _ _ y1) |>.trans y1; clear hb2)
        have hJ := FlJ.of (p := ⟨g0, e * 2, none⟩) (q := ⟨g0, e * 2, none⟩) ⟨HQ.out.below HL2.out, Below.refl _ _, y0, y0⟩
        clear y0 y1 q2 hx5
        unfold FlJ at hJ
        go_region_held3 (fun W' => W'.cell? ⟨gb, 0, none⟩ = some (.slice A0 rs.length c0) ∧ W'.cell? ⟨gb, 1, none⟩ = some (.slice A1 ws.length c1) ∧ W'.cell? ⟨gb, 2, none⟩ = some (.slice (some ad5) bs.length c2) ∧ W'.cell? ⟨gb, 3, none⟩ = some (.int .i64 wide) ∧ W'.cell? ⟨g0, e * 2, none⟩ = some (.int .i64 p1) ∧ W'.cell? ⟨g0, e * 2, none⟩ = some (.int .i64 p1) ∧ Aside0 (FlK 77 gb A0 c0 rs A1 c1 ws (some ad5) c2 bs wide ⟨g0, e * 2, none⟩ p1 ⟨g0, e * 2, none⟩ p1 w2 W')) (first | (with_reducible assumption) | (with_reducible refine FlJ.below ?_ zH; with_reducible assumption) | (with_reducible exact FlJ.drew zH)) (first | (go_at_call 67; (with_reducible refine (costS_calls k gb A0 c0 rs A1 c1 ws (some ad5) c2 bs wide (a : Int) (e : Int) (W a e) m _ ?s1 HEM.out HMB.out (HW.out a e (zE HAE2.out) HLE.out) (HWB.out a e (zE HAE2.out) HLE.out)).mono ?_); (case s1 => exact (show FlJ 77 gb A0 c0 rs A1 c1 ws (some ad5) c2 bs wide ⟨g0, e * 2, none⟩ p1 ⟨g0, e * 2, none⟩ p1 w2 _ from zH).2.2.2.2.2.2.out.1); rw [HCX.out]; rintro e3 w3 ⟨rfl, p⟩))
        all_goals
         have HB6 := az (show FlJ 77 gb A0 c0 rs A1 c1 ws (some ad5) c2 bs wide ⟨g0, e * 2, none⟩ p1 ⟨g0, e * 2, none⟩ p1 w2 _ from zH).2.2.2.2.2.2.out.2.1
         have HB7 := az (below_then HB2.out HB2.out.size HB6.out)
         have HT7 := az (HT2.out.below HB6.out)
         obtain ⟨z0, z1, z2, z3⟩ := HT7.out.cells HAL.out
         rw [updV_at] at z0 z1
         by_cases hv0 : v < 0
         ·
          have HST : Aside0 ((c, (e : Int)) = stepB bs (fitV W wide) (costV bs W wide) rs.length T a e (u, v)) := ⟨by unfold stepB; rw [if_neg HNG.out, HXC.out, if_pos (Or.inl hv0)]⟩
          go_wp2
          go_roundg (en + 1 - (e + 1))
          case measure => have := HLN.out; omega
          case rel => exact ⟨e + 1, c, (e : Int), by have h9 := HLE.out; have h8 := HN.out; first | go_num | (congr 1; unfold wrap64; omega), zE HAE2.out, Nat.le_refl _, ⟨by rw [← HQQ.out]; congr 1; exact HST.out⟩, ⟨by have h := HT7.out.set HAL.out c (e : Int); rw [updV_updV] at h; exact h⟩, ⟨(HB7.out.setCell (p := ⟨g0, a * 2, none⟩) HG0.out _).setCell (p := ⟨g0, a * 2 + 1, none⟩) HG0.out _⟩⟩
         ·
          by_cases hcu : c < u
          ·
           have HST : Aside0 ((c, (e : Int)) = stepB bs (fitV W wide) (costV bs W wide) rs.length T a e (u, v)) := ⟨by unfold stepB; rw [if_neg HNG.out, HXC.out, if_pos (Or.inr hcu)]⟩
           go_wp2
           go_roundg (en + 1 - (e + 1))
           case measure => have := HLN.out; omega
           case rel => exact ⟨e + 1, c, (e : Int), by have h9 := HLE.out; have h8 := HN.out; first | go_num | (congr 1; unfold wrap64; omega), zE HAE2.out, Nat.le_refl _, ⟨by rw [← HQQ.out]; congr 1; exact HST.out⟩, ⟨by have h := HT7.out.set HAL.out c (e : Int); rw [updV_updV] at h; exact h⟩, ⟨(HB7.out.setCell (p := ⟨g0, a * 2, none⟩) HG0.out _).setCell (p := ⟨g0, a * 2 + 1, none⟩) HG0.out _⟩⟩
          ·
           have HST : Aside0 ((u, v) = stepB bs (fitV W wide) (costV bs W wide) rs.length T a e (u, v)) := ⟨by unfold stepB; rw [if_neg HNG.out, HXC.out, if_neg (show ¬ (v < 0 ∨ c < u) by omega)]⟩
           go_wp2
           go_roundg (en + 1 - (e + 1))
           case measure => have := HLN.out; omega
           case rel => exact ⟨e + 1, u, v, by have h9 := HLE.out; have h8 := HN.out; first | go_num | (congr 1; unfold wrap64; omega), zE HAE2.out, Nat.le_refl _, ⟨by rw [← HQQ.out]; congr 1; exact HST.out⟩, HT7, HB7⟩
    ·
     have hlez : ¬ (e : Int) ≤ (en : Int) := by omega
     have hq := HF.out
     rw [show en + 1 - e = 0 by omega, rowB] at hq
     have HQQ := az hq
     clear hq HF hle
     go_wp2
     go_roundg (rs.length - (d + 1))
     case measure => have := HDL.out; omega
     case rel => exact ⟨d + 1, by have h9 := HAE.out; have h8 := HDL.out; have h7 := HN.out; first | go_num | (congr 1; unfold wrap64; omega), HDL.out, Nat.le_refl _, ⟨by rw [tabB, HAE.out, HTE.out, HEE.out, ← HQQ.out]; exact HT.out⟩, HB⟩
  ·
   obtain rfl : d = rs.length := by omega
   have hzz : (rs.length : Int) - 1 - (rs.length : Int) = -1 := by omega
   rw [hzz]
   obtain ⟨wo, hwo⟩ : ∃ wo, wo = wr := ⟨_, rfl⟩
   subst hwo
   have HTB2 : Aside0 (∀ j : Nat, True) := ⟨fun _ => trivial⟩
   obtain ⟨T, hT⟩ : ∃ T, (tabB bs (fitV W wide) (costV bs W wide) rs.length) rs.length = T := ⟨_, rfl⟩
   rw [hT] at HT HRR
   clear hlt hzz hT HTB HTB2 hd hg
   go_wp2_with ((with_reducible refine gate_dst (N := 100) rfl ?_); refine Kd.R_lit (Kd.int .i64) wo.heap.size 3 ?hg (N := 100) ?hd (xs := ([] : List Int)) (inner := []) (ok := fun _ => True) (okp := fun _ => True) ?hr ?hp (fun _ hk => hk) trivial (Below.refl _ _) (Nat.le_refl _) (by simp) ?_; (case hd => rfl); (case hg => rfl); (case hr => first | (go_simp; done) | (go_simp; rfl)); (case hp => exact (Reps.none _ _)); intro v1 w2 ho1 hb1 hg_ hnew_; clear hg_ hnew_; have HO1 := az ho1; have HB1 := az hb1; clear ho1 hb1)
   go_loopg [10, 11] rs.length (fun gg s10 s11 wr => ∃ (i g : Nat) (out : List Int), s11 = .int .i64 i ∧ i ≤ rs.length ∧ g ≤ gg ∧ Aside0 (∃ res, outB T rs.length g i = some res ∧ (if ok = true then some r else none) = res.map (fun l => out ++ l)) ∧ Aside0 (out.length + g ≤ rs.length) ∧ Aside0 (Kd.R (Kd.int .i64) 3 wr wo.heap.size (fun _ => True) s10 out) ∧ Aside0 (Below wo.heap.size wo wr))
   case atStart => exact ⟨0, rs.length, [], rfl, Nat.zero_le _, Nat.le_refl _, ⟨_, HRR.out, by cases ok <;> rfl⟩, ⟨by simp⟩, HO1, HB1⟩
   case round =>
    clear HRR HO1 HB1
    obtain ⟨i, g, out, rfl, hi, hg, HF, HLO, HO, HBX⟩ := hrel
    obtain ⟨res, hq, hres⟩ := HF.out
    have HTX := az (HT.out.below HBX.out)
    by_cases hlt : i < rs.length
    ·
     have hltz : (i : Int) < (rs.length : Int) := by omega
     have hi0 : (0 : Int) ≤ (i : Int) := by omega
     have hiz : (i : Int) < ((rs.length + 1 : Nat) : Int) := by omega
     obtain ⟨y0, y1, _, _⟩ := HTX.out.cells (i := i) (by omega)
     cases g with
     | zero => rw [outB, if_pos hlt] at hq; cases hq
     | succ g =>
     rw [outB, if_pos hlt] at hq
     obtain ⟨x, hx⟩ : ∃ x, (T i).2 = x := ⟨_, rfl⟩
     rw [hx] at hq y1
     by_cases hx0 : x < 0
     ·
      rw [if_pos hx0] at hq
      obtain rfl := Option.some.inj hq
      have HOK : Aside0 (ok = false ∧ r = []) := ⟨by
       cases ok
       · exact ⟨rfl, HR0.out rfl⟩
       · rw [if_pos rfl] at hres; cases hres⟩
      clear hq hres HF hx hlt
      go_wp2_with ((with_reducible refine gate_dst (N := 110) rfl ?_); refine Kd.R_lit (Kd.int .i64) wo.heap.size 3 ?hg (N := 110) ?hd (xs := ([] : List Int)) (inner := []) (ok := fun _ => True) (okp := fun _ => True) ?hr ?hp (fun _ hk => hk) trivial HBX.out HBX.out.size (by simp) ?_; (case hd => rfl); (case hg => rfl); (case hr => first | (go_simp; done) | (go_simp; rfl)); (case hp => exact (Reps.none _ _)); intro v2 w5 ho2 hb2 hg_ hnew_; clear hg_ hnew_; have HO2 := az ho2; have HB2 := az hb2; clear ho2 hb2)
      go_ret2
      exact ⟨_, by rw [HOK.out.1]; first | done | rfl, by rw [HOK.out.2, ← HGE.out]; exact Kd.R_lower HO2.out HB.out.size, by first | exact below_then HB.out HB.out.size HB2.out | (rw [← HGE.out]; exact below_then HB.out HB.out.size HB2.out)⟩
     ·
      rw [if_neg hx0] at hq
      by_cases hxn : x ≤ (rs.length : Int)
      case neg => rw [if_neg hxn] at hq; cases hq
      case pos =>
      rw [if_pos hxn] at hq
      replace hq := Option.bind_eq_some_iff.mp hq
      obtain ⟨l, hl, hq⟩ := hq
      obtain rfl := Option.some.inj hq
      obtain ⟨z, rfl⟩ : ∃ z : Nat, x = (z : Int) := ⟨x.toNat, by omega⟩
      rw [Int.toNat_natCast] at hl
      have HLL := az hl
      have HRE := az hres
      have HXB := az (show z ≤ rs.length by omega)
      have HGG := az hg
      clear hl hres hx hlt HF hg hxn
      go_wp2_with ((with_reducible refine gate_builtin (b := .append) (xs := #[.tmp 116, .tmp 118]) rfl ?_); at_builtin; go_must (refine appI (w0 := wo) (base := wo.heap.size) Tryz.underlying22 info3 rfl (.tmp 116) (.tmp 118) rfl _ out (z : Int) rfl rfl HO.out HBX.out HBX.out.size ?aL ?_); (case aL => have := HLO.out; have := HN.out; omega); intro v9 w9 ho9 hb9 hg9 hat9; have HO9 := az ho9; have HB9 := az hb9; clear ho9 hb9 hg9 hat9)
      go_roundg g
      case measure => have := HGG.out; omega
      case rel => exact ⟨z, g, _, rfl, HXB.out, Nat.le_refl _, ⟨l, HLL.out, by have h := HRE.out; rw [h]; cases l <;> simp⟩, ⟨by have := HLO.out; rw [List.length_append]; simp; omega⟩, HO9, HB9⟩
    ·
     have hltz : ¬ (i : Int) < (rs.length : Int) := by omega
     have HRE : Aside0 (ok = true ∧ out = r) := by
      have : res = some [] := by
       cases g with
       | zero => rw [outB, if_neg hlt] at hq; exact (Option.some.inj hq).symm
       | succ g => rw [outB, if_neg hlt] at hq; exact (Option.some.inj hq).symm
      subst this
      cases ok
      · rw [if_neg (by decide)] at hres; cases hres
      · rw [if_pos rfl] at hres; exact ⟨rfl, by have h := Option.some.inj hres; simpa using h.symm⟩
     clear hq hres HF hlt
     go_wp2
     go_ret2
     exact ⟨_, by rw [HRE.out.1]; first | done | rfl, by rw [← HRE.out.2, ← HGE.out]; exact Kd.R_lower HO.out HB.out.size, by first | exact below_then HB.out HB.out.size HBX.out | (rw [← HGE.out]; exact below_then HB.out HB.out.size HBX.out)⟩
def spec_l7Least.f (a0 : Int) (a1 : Int) : Option (Int) := if a0 < a1 then (some a0) else (some a1)
theorem spec_l7Least.calls (a0 : Int) (a1 : Int) (r : Int) (w : World) (h : spec_l7Least.f a0 a1 = some r) :
  Calls Tryz.prog 129 #[.int .i64 a0, .int .i64 a1] w fun e w' => e = .returned (.int .i64 r) ∧ Drawn0 w w' := by
 have H : (if a0 < a1 then (some a0) else (some a1)) = some r := h
 clear h
 by_cases c3 : a0 < a1
 ·
  rw [if_pos c3] at H
  have c3b0 : decide (a0 < a1) = true := decide_eq_true c3
  clear c3
  obtain rfl := Option.some.inj H
  go_enter Tryz.func129, Tryz.ntmps129
  go_wp2
  go_ret
  exact ⟨zB, zD⟩
 ·
  rw [if_neg c3] at H
  have c3b0 : decide (a0 < a1) = false := decide_eq_false c3
  clear c3
  obtain rfl := Option.some.inj H
  go_enter Tryz.func129, Tryz.ntmps129
  go_wp2
  go_ret
  exact ⟨zB, zD⟩
theorem forcedS_calls (k : Nat) (gb : Nat) (A0 : Option Addr) (c0 : Nat) (rs : List Int) (A1 : Option Addr) (c1 : Nat) (ws : List Int) (A2 : Option Addr) (c2 : Nat) (bs : List Int) (wide : Int) (W : Nat → Nat → Int) (J : Nat → Bool) (fr : Nat) (w : World) (hf : FlO 77 gb A0 c0 rs A1 c1 ws A2 c2 bs wide w) (hfr : fr ≤ rs.length) (hn : rs.length ≤ 1000) (hW : ∀ j : Nat, fr ≤ j → j ≤ rs.length → spec_l7Wide.f k rs ws (fr : Int) (j : Int) = some (W fr j)) (hJ : ∀ i : Nat, 0 < i → i < rs.length → spec_l2Joins.f k rs (i : Int) = some (J i)) :
  Calls Tryz.prog 130 #[.pointer (some ⟨gb, 0, none⟩), .int .i64 fr] w fun e w' => e = .returned (.int .i64 (forcedN (fitV W wide) J rs.length fr (rs.length - fr) (fr + 1) fr : Nat)) ∧ Below w.heap.size w w' := by
 have HS := az hf
 have HW := az hW
 have HJ := az hJ
 have HFR := az hfr
 clear hf hW hJ
 go_enter Tryz.func130, Tryz.ntmps130
 go_wp2
 go_loopg [5, 6] rs.length (fun gg s5 s6 wr => ∃ i tq : Nat, s5 = .int .i64 tq ∧ s6 = .int .i64 i ∧ i ≤ rs.length + 1 ∧ fr < i ∧ tq ≤ rs.length ∧ rs.length + 1 - i ≤ gg ∧ Aside0 (forcedN (fitV W wide) J rs.length fr (rs.length + 1 - i) i tq = forcedN (fitV W wide) J rs.length fr (rs.length - fr) (fr + 1) fr) ∧ Aside0 (Below w.heap.size w wr))
 case atStart => exact ⟨fr + 1, fr, rfl, by go_num, by omega, by omega, hfr, by omega, ⟨by rw [show rs.length + 1 - (fr + 1) = rs.length - fr by omega]⟩, ⟨Below.refl _ _⟩⟩
 case round =>
  obtain ⟨i, tq, rfl, rfl, hi, hi0, hto, hg, HF, HB⟩ := hrel
  have HQ := az (HS.out.below HB.out)
  have q0 := (blk_cell HQ.out.1 0).trans (show _ = some (Value.slice A0 rs.length c0) from rfl)
  have HFRI := az hi0
  by_cases hle : i ≤ rs.length
  ·
   have hlez : (i : Int) ≤ (rs.length : Int) := by omega
   have hq := HF.out
   rw [show rs.length + 1 - i = (rs.length + 1 - (i + 1)) + 1 by omega, forcedN] at hq
   clear HF
   have HLE := az hle
   have HTO := az hto
   clear hi hto hle
   by_cases hlt : i < rs.length
   ·
    have hltz : (i : Int) < (rs.length : Int) := by omega
    cases hj : J i
    case true =>
     rw [if_pos ⟨hlt, hj⟩] at hq
     have HJI := az (HJ.out i (by omega) hlt)
     rw [hj] at HJI
     have HQQ := az hq
     clear hq hlt hj
     go_wp2_with (go_at_call 124; go_must (refine (spec_l2Joins.calls k A0 c0 rs (i : Int) true _ HQ.out.2.1 HQ.out.2.2.1 HJI.out).mono ?_); rintro e w1 ⟨rfl, hb1⟩; have HB1 := az (below_then HB.out HB.out.size hb1); clear hb1)
     go_roundg (rs.length + 1 - (i + 1))
     case measure => have := HLE.out; omega
     case rel => exact ⟨i + 1, tq, rfl, by go_num, zE HLE.out, zE HFRI.out, HTO.out, Nat.le_refl _, HQQ, HB1⟩
    case false =>
     rw [if_neg (show ¬ (i < rs.length ∧ J i = true) from fun h => by rw [hj] at h; exact absurd h.2 (by decide))] at hq
     have HJI := az (HJ.out i (by omega) hlt)
     rw [hj] at HJI
     clear hlt hj
     by_cases hft : fr < tq
     ·
      have hftz : (fr : Int) < (tq : Int) := by omega
      cases hfi : fitV W wide fr i
      case true =>
       rw [if_neg (show ¬ (fr < tq ∧ fitV W wide fr i = false) from fun h => by rw [hfi] at h; exact absurd h.2 (by decide))] at hq
       have HFI := az hfi
       have HQQ := az hq
       clear hq hfi hft
       go_wp2_with (first | (go_at_call 124; go_must (refine (spec_l2Joins.calls k A0 c0 rs (i : Int) false _ HQ.out.2.1 HQ.out.2.2.1 HJI.out).mono ?_); rintro e w1 ⟨rfl, hb1⟩; have HB1 := az (below_then HB.out HB.out.size hb1); clear hb1) | (go_at_call 64; go_must (refine (fitsS_calls k gb A0 c0 rs A1 c1 ws A2 c2 bs wide (fr : Int) (i : Int) (W fr i) _ (HS.out.below HB1.out) (HW.out i (zE HFRI.out) HLE.out)).mono ?_); rw [(show decide (W fr i ≤ wide) = true from HFI.out)]; rintro e w2 ⟨rfl, hb2⟩; have HB2 := az (below_then HB1.out HB1.out.size hb2); clear hb2))
       go_roundg (rs.length + 1 - (i + 1))
       case measure => have := HLE.out; omega
       case rel => exact ⟨i + 1, i, rfl, by go_num, zE HLE.out, zE HFRI.out, HLE.out, Nat.le_refl _, HQQ, HB2⟩
      case false =>
       rw [if_pos ⟨hft, hfi⟩] at hq
       have HFI := az hfi
       have HQQ := az hq
       clear hq hfi hft
       go_wp2_with (first | (go_at_call 124; go_must (refine (spec_l2Joins.calls k A0 c0 rs (i : Int) false _ HQ.out.2.1 HQ.out.2.2.1 HJI.out).mono ?_); rintro e w1 ⟨rfl, hb1⟩; have HB1 := az (below_then HB.out HB.out.size hb1); clear hb1) | (go_at_call 64; go_must (refine (fitsS_calls k gb A0 c0 rs A1 c1 ws A2 c2 bs wide (fr : Int) (i : Int) (W fr i) _ (HS.out.below HB1.out) (HW.out i (zE HFRI.out) HLE.out)).mono ?_); rw [(show decide (W fr i ≤ wide) = false from HFI.out)]; rintro e w2 ⟨rfl, hb2⟩; have HB2 := az (below_then HB1.out HB1.out.size hb2); clear hb2))
       go_ret
       exact ⟨by rw [← HQQ.out]; first | done | rfl, HB2.out⟩
     ·
      have hftz : ¬ (fr : Int) < (tq : Int) := by omega
      rw [if_neg (show ¬ (fr < tq ∧ fitV W wide fr i = false) from fun h => hft h.1)] at hq
      have HQQ := az hq
      clear hq hft
      go_wp2_with (first | (go_at_call 124; go_must (refine (spec_l2Joins.calls k A0 c0 rs (i : Int) false _ HQ.out.2.1 HQ.out.2.2.1 HJI.out).mono ?_); rintro e w1 ⟨rfl, hb1⟩; have HB1 := az (below_then HB.out HB.out.size hb1); clear hb1))
      go_roundg (rs.length + 1 - (i + 1))
      case measure => have := HLE.out; omega
      case rel => exact ⟨i + 1, i, rfl, by go_num, zE HLE.out, zE HFRI.out, HLE.out, Nat.le_refl _, HQQ, HB1⟩
   ·
    have hltz : ¬ (i : Int) < (rs.length : Int) := by omega
    rw [if_neg (show ¬ (i < rs.length ∧ J i = true) from fun h => hlt h.1)] at hq
    clear hlt
    by_cases hft : fr < tq
    ·
     have hftz : (fr : Int) < (tq : Int) := by omega
     cases hfi : fitV W wide fr i
     case true =>
      rw [if_neg (show ¬ (fr < tq ∧ fitV W wide fr i = false) from fun h => by rw [hfi] at h; exact absurd h.2 (by decide))] at hq
      have HFI := az hfi
      have HQQ := az hq
      clear hq hfi hft
      go_wp2_with (first | (go_at_call 64; go_must (refine (fitsS_calls k gb A0 c0 rs A1 c1 ws A2 c2 bs wide (fr : Int) (i : Int) (W fr i) _ (HS.out.below HB.out) (HW.out i (zE HFRI.out) HLE.out)).mono ?_); rw [(show decide (W fr i ≤ wide) = true from HFI.out)]; rintro e w2 ⟨rfl, hb2⟩; have HB2 := az (below_then HB.out HB.out.size hb2); clear hb2))
      go_roundg (rs.length + 1 - (i + 1))
      case measure => have := HLE.out; omega
      case rel => exact ⟨i + 1, i, rfl, by go_num, zE HLE.out, zE HFRI.out, HLE.out, Nat.le_refl _, HQQ, HB2⟩
     case false =>
      rw [if_pos ⟨hft, hfi⟩] at hq
      have HFI := az hfi
      have HQQ := az hq
      clear hq hfi hft
      go_wp2_with (first | (go_at_call 64; go_must (refine (fitsS_calls k gb A0 c0 rs A1 c1 ws A2 c2 bs wide (fr : Int) (i : Int) (W fr i) _ (HS.out.below HB.out) (HW.out i (zE HFRI.out) HLE.out)).mono ?_); rw [(show decide (W fr i ≤ wide) = false from HFI.out)]; rintro e w2 ⟨rfl, hb2⟩; have HB2 := az (below_then HB.out HB.out.size hb2); clear hb2))
      go_ret
      exact ⟨by rw [← HQQ.out]; first | done | rfl, HB2.out⟩
    ·
     have hftz : ¬ (fr : Int) < (tq : Int) := by omega
     rw [if_neg (show ¬ (fr < tq ∧ fitV W wide fr i = false) from fun h => hft h.1)] at hq
     have HQQ := az hq
     clear hq hft
     go_wp2
     go_roundg (rs.length + 1 - (i + 1))
     case measure => have := HLE.out; omega
     case rel => exact ⟨i + 1, i, rfl, by go_num, zE HLE.out, zE HFRI.out, HLE.out, Nat.le_refl _, HQQ, HB⟩
  ·
   have hlez : ¬ (i : Int) ≤ (rs.length : Int) := by omega
   obtain rfl : i = rs.length + 1 := by omega
   have hq := HF.out
   rw [Nat.sub_self, forcedN] at hq
   have HQQ := az hq
   clear hq HF
   go_wp2
   go_ret
   exact ⟨by rw [← HQQ.out]; first | done | rfl, HB.out⟩
theorem nextS_calls (k : Nat) (gb : Nat) (A0 : Option Addr) (c0 : Nat) (rs : List Int) (A1 : Option Addr) (c1 : Nat) (ws : List Int) (A2 : Option Addr) (c2 : Nat) (bs : List Int) (wide : Int) (W : Nat → Nat → Int) (J : Nat → Bool) (fr : Nat) (w : World) (hf : FlO 77 gb A0 c0 rs A1 c1 ws A2 c2 bs wide w) (hfr : fr ≤ rs.length) (hn : rs.length ≤ 1000) (hbl : bs.length = rs.length) (hW : ∀ j : Nat, fr ≤ j → j ≤ rs.length → spec_l7Wide.f k rs ws (fr : Int) (j : Int) = some (W fr j)) (hJ : ∀ i : Nat, 0 < i → i < rs.length → spec_l2Joins.f k rs (i : Int) = some (J i)) :
  Calls Tryz.prog 97 #[.pointer (some ⟨gb, 0, none⟩), .int .i64 fr] w fun e w' => e = .returned (.int .i64 (nextV bs (fitV W wide) J rs.length fr)) ∧ Below w.heap.size w w' := by
 have HS := az hf
 have HW := az hW
 have HJ := az hJ
 have HFR := az hfr
 have HBL := az hbl
 have HN := az hn
 have HML := az (mustN_le bs rs.length (bs.length - fr) fr (by omega))
 clear hf hW hJ hbl hfr
 go_enter Tryz.func97, Tryz.ntmps97
 go_upto_region 2 with (go_at_call 65; go_must (refine (mustS_calls gb A0 c0 rs A1 c1 ws A2 c2 bs wide fr _ HS.out (zL HBL.out HFR.out) (zL HBL.out HN.out)).mono ?_); rintro e w1 ⟨rfl, hd1⟩; have HB0 := az hd1.below; clear hd1)
 have HME : Aside0 (mustV bs rs.length fr = mustN bs rs.length (bs.length - fr) fr) := ⟨rfl⟩
 obtain ⟨en, hen⟩ : ∃ en, mustV bs rs.length fr = en := ⟨_, rfl⟩
 have HEN := az (show en ≤ rs.length from hen ▸ HML.out)
 have HEE := az hen
 rw [hen]
 clear HML HME hen
 go_wp2
 go_loopg [6, 7] rs.length (fun gg s6 s7 wr => ∃ (i : Nat) (b : Int), s6 = .int .i64 b ∧ s7 = .int .i64 i ∧ fr < i ∧ en + 1 - i ≤ gg ∧ Aside0 (nextN bs (fitV W wide) fr (en + 1 - i) i b = nextN bs (fitV W wide) fr (en - fr) (fr + 1) (-1)) ∧ Aside0 (Below w.heap.size w wr))
 case atStart => exact ⟨fr + 1, -1, rfl, by have h9 := HFR.out; clear HEN HEE HB0; first | go_num | (congr 1; unfold wrap64; omega), by omega, zL HEN.out HFR.out, ⟨by rw [show en + 1 - (fr + 1) = en - fr by omega]⟩, HB0⟩
 case round =>
  obtain ⟨i, b, rfl, rfl, hi0, hg, HF, HB⟩ := hrel
  have HQ := az (HS.out.below HB.out)
  by_cases hle : i ≤ en
  ·
   have hlez : (i : Int) ≤ (en : Int) := by omega
   have hq := HF.out
   rw [show en + 1 - i = (en + 1 - (i + 1)) + 1 by omega, nextN] at hq
   obtain ⟨m, hm⟩ : ∃ m : Nat, i = m + 1 := ⟨i - 1, by omega⟩
   have hm0 : (0 : Int) ≤ (m : Int) := by omega
   have hmz : (m : Int) < (bs.length : Int) := by have := HEN.out; have := HBL.out; omega
   have q2 := (blk_cell HQ.out.1 2).trans (show _ = some (Value.slice A2 bs.length c2) from rfl)
   obtain ⟨ad5, hA5, hx5⟩ := Kd.at_int HQ.out.2.2.2.2.2.1 (m : Int) hm0 hmz
   have hxx : rd bs (m : Int) = bs.getD m 0 := by simp [rd]
   rw [hxx, Int.toNat_natCast] at hx5
   obtain ⟨y, hy⟩ : ∃ y, bs.getD m 0 = y := ⟨_, rfl⟩
   rw [show i - 1 = m by omega] at hq
   rw [hy] at hx5 hq
   subst hA5
   have h99 := HEN.out
   have hw1 : IntKind.i64.wrap ((i : Int) - 1) = (m : Int) := by rw [i64_w]; unfold wrap64; omega
   have hw2 : wrap64 ((i : Int) - 1) = (m : Int) := by unfold wrap64; omega
   have HLE := az (show i ≤ rs.length from (zE HEN.out))
   have HLN := az hle
   have HFRI := az hi0
   clear hxx hy hm hle HF
   by_cases hy0 : y = 0
   ·
    rw [if_neg (show ¬ (¬ y = 0 ∧ fitV W wide fr i = true) from fun h => h.1 hy0)] at hq
    have b0 : (y != 0) = false := bne_eq_false_iff_eq.mpr hy0
    have HQQ := az hq
    clear hq hy0
    go_wp2
    go_roundg (en + 1 - (i + 1))
    case measure => have := HLN.out; omega
    case rel => exact ⟨i + 1, b, rfl, by have h9 := HLE.out; first | go_num | (congr 1; unfold wrap64; omega), zE HFRI.out, Nat.le_refl _, HQQ, HB⟩
   ·
    have b0 : (y != 0) = true := bne_iff_ne.mpr hy0
    cases hfi : fitV W wide fr i
    case true =>
     rw [if_pos ⟨hy0, hfi⟩] at hq
     have HFI := az hfi
     have HQQ := az hq
     clear hq hy0 hfi
     go_wp2_with (go_at_call 64; go_must (refine (fitsS_calls k gb A0 c0 rs A1 c1 ws (some ad5) c2 bs wide (fr : Int) (i : Int) (W fr i) _ HQ.out (HW.out i (zE HFRI.out) HLE.out)).mono ?_); rw [(show decide (W fr i ≤ wide) = true from HFI.out)]; rintro e w2 ⟨rfl, hb2⟩; have HB2 := az (below_then HB.out HB.out.size hb2); clear hb2)
     go_roundg (en + 1 - (i + 1))
     case measure => have := HLN.out; omega
     case rel => exact ⟨i + 1, i, rfl, by have h9 := HLE.out; first | go_num | (congr 1; unfold wrap64; omega), zE HFRI.out, Nat.le_refl _, HQQ, HB2⟩
    case false =>
     rw [if_neg (show ¬ (¬ y = 0 ∧ fitV W wide fr i = true) from fun h => by rw [hfi] at h; exact absurd h.2 (by decide))] at hq
     have HFI := az hfi
     have HQQ := az hq
     clear hq hy0 hfi
     go_wp2_with (go_at_call 64; go_must (refine (fitsS_calls k gb A0 c0 rs A1 c1 ws (some ad5) c2 bs wide (fr : Int) (i : Int) (W fr i) _ HQ.out (HW.out i (zE HFRI.out) HLE.out)).mono ?_); rw [(show decide (W fr i ≤ wide) = false from HFI.out)]; rintro e w2 ⟨rfl, hb2⟩; have HB2 := az (below_then HB.out HB.out.size hb2); clear hb2)
     go_roundg (en + 1 - (i + 1))
     case measure => have := HLN.out; omega
     case rel => exact ⟨i + 1, b, rfl, by have h9 := HLE.out; first | go_num | (congr 1; unfold wrap64; omega), zE HFRI.out, Nat.le_refl _, HQQ, HB2⟩
  ·
   have hlez : ¬ (i : Int) ≤ (en : Int) := by omega
   have hq := HF.out
   rw [show en + 1 - i = 0 by omega, nextN] at hq
   have HQQ := az hq
   clear hq HF hle
   by_cases hb0 : 0 < b
   ·
    have HV : Aside0 (nextV bs (fitV W wide) J rs.length fr = b) := ⟨by unfold nextV; rw [HEE.out, ← HQQ.out, if_pos hb0]⟩
    go_wp2
    go_ret
    exact ⟨by rw [HV.out]; first | done | rfl, HB.out⟩
   ·
    obtain ⟨fv, hfv⟩ : ∃ fv, forcedN (fitV W wide) J rs.length fr (rs.length - fr) (fr + 1) fr = fv := ⟨_, rfl⟩
    have HV : Aside0 (nextV bs (fitV W wide) J rs.length fr = if (fv : Int) < (en : Int) then (fv : Int) else (en : Int)) := ⟨by unfold nextV; rw [HEE.out, ← HQQ.out, if_neg hb0, hfv]⟩
    have HFV := az hfv
    obtain ⟨mv, hmv⟩ : ∃ mv, (if (fv : Int) < (en : Int) then (fv : Int) else (en : Int)) = mv := ⟨_, rfl⟩
    rw [hmv] at HV
    have HLV : Aside0 (spec_l7Least.f (fv : Int) (en : Int) = some mv) := ⟨by rw [← hmv]; unfold spec_l7Least.f; split <;> rfl⟩
    clear hmv
    clear hfv
    go_wp2_with (first
     | (go_at_call 130; go_must (refine (forcedS_calls k gb A0 c0 rs A1 c1 ws A2 c2 bs wide W J fr _ HQ.out HFR.out HN.out HW.out HJ.out).mono ?_); rw [HFV.out]; rintro e w3 ⟨rfl, hb3⟩; have HB3 := az (below_then HB.out HB.out.size hb3); clear hb3)
     | (go_at_call 129; go_must (refine (spec_l7Least.calls (fv : Int) (en : Int) _ _ HLV.out).mono ?_); rintro e w4 ⟨rfl, hd4⟩; have HB4 := az (below_then HB3.out HB3.out.size hd4.below); clear hd4))
    go_ret
    exact ⟨by rw [HV.out]; first | done | rfl, HB4.out⟩
theorem greedyS_calls (k : Nat) (gb : Nat) (A0 : Option Addr) (c0 : Nat) (rs : List Int) (A1 : Option Addr) (c1 : Nat) (ws : List Int) (A2 : Option Addr) (c2 : Nat) (bs : List Int) (wide : Int) (W : Nat → Nat → Int) (J : Nat → Bool) (r : List Int) (w : World) (hf : FlO 77 gb A0 c0 rs A1 c1 ws A2 c2 bs wide w) (hn : rs.length ≤ 1000) (hbl : bs.length = rs.length) (hW : ∀ i j : Nat, i ≤ j → j ≤ rs.length → spec_l7Wide.f k rs ws (i : Int) (j : Int) = some (W i j)) (hJ : ∀ i : Nat, 0 < i → i < rs.length → spec_l2Joins.f k rs (i : Int) = some (J i)) (hr : greedyN (nextV bs (fitV W wide) J rs.length) rs.length rs.length 0 = some r) :
  Calls Tryz.prog 71 #[.pointer (some ⟨gb, 0, none⟩)] w fun e w' => ∃ v0_ : Value, e = .returned v0_ ∧ Kd.R (Kd.int .i64) 3 w' w.heap.size (fun _ => True) v0_ r ∧ Below w.heap.size w w' := by
 have HS := az hf
 have HW := az hW
 have HJ := az hJ
 have HBL := az hbl
 have HN := az hn
 have HRR := az hr
 clear hf hW hJ hbl hr
 go_enter Tryz.func71, Tryz.ntmps71
 go_wp2_with ((with_reducible refine gate_dst (N := 5) rfl ?_); refine Kd.R_lit (Kd.int .i64) w.heap.size 3 ?hg (N := 5) ?hd (xs := ([] : List Int)) (inner := []) (ok := fun _ => True) (okp := fun _ => True) ?hr ?hp (fun _ hk => hk) trivial (Below.refl _ _) (Nat.le_refl _) (by simp) ?_; (case hd => rfl); (case hg => rfl); (case hr => first | (go_simp; done) | (go_simp; rfl)); (case hp => exact (Reps.none _ _)); intro v1 w1 ho1 hb1 hg_ hnew_; clear hg_ hnew_; have HO1 := az ho1; have HB1 := az hb1; clear ho1 hb1)
 go_loopg [3, 4] rs.length (fun gg s3 s4 wr => ∃ (i g : Nat) (out : List Int), s4 = .int .i64 i ∧ i ≤ rs.length ∧ g ≤ gg ∧ Aside0 (∃ rest, greedyN (nextV bs (fitV W wide) J rs.length) rs.length g i = some rest ∧ out ++ rest = r) ∧ Aside0 (out.length + g ≤ rs.length) ∧ Aside0 (Kd.R (Kd.int .i64) 3 wr w.heap.size (fun _ => True) s3 out) ∧ Aside0 (Below w.heap.size w wr))
 case atStart => exact ⟨0, rs.length, [], rfl, Nat.zero_le _, Nat.le_refl _, ⟨_, HRR.out, rfl⟩, ⟨by simp⟩, HO1, HB1⟩
 case round =>
  clear HRR HO1 HB1
  obtain ⟨i, g, out, rfl, hi, hg, HF, HLO, HO, HB⟩ := hrel
  obtain ⟨rest, hq, hrest⟩ := HF.out
  have HQ := az (HS.out.below HB.out)
  have q0 := (blk_cell HQ.out.1 0).trans (show _ = some (Value.slice A0 rs.length c0) from rfl)
  by_cases hlt : i < rs.length
  ·
   have hltz : (i : Int) < (rs.length : Int) := by omega
   cases g with
   | zero => rw [greedyN, if_pos hlt] at hq; cases hq
   | succ g =>
   rw [greedyN, if_pos hlt] at hq
   by_cases hb : 0 ≤ nextV bs (fitV W wide) J rs.length i ∧ nextV bs (fitV W wide) J rs.length i ≤ (rs.length : Int)
   case neg => rw [if_neg hb] at hq; cases hq
   case pos =>
   rw [if_pos hb] at hq
   replace hq := Option.bind_eq_some_iff.mp hq
   obtain ⟨l, hl, hq⟩ := hq
   obtain rfl := Option.some.inj hq
   obtain ⟨x, hx⟩ : ∃ x : Nat, nextV bs (fitV W wide) J rs.length i = x := ⟨(nextV bs (fitV W wide) J rs.length i).toNat, by omega⟩
   rw [hx, Int.toNat_natCast] at hl
   rw [hx] at hb hrest
   have HXV := az hx
   have HXB := az hb.2
   have HLL := az hl
   have HRE := az hrest
   have HIL := az hi
   have HGG := az hg
   clear hx hb hl hrest hlt HF hg
   go_wp2_with (first
    | (go_at_call 97; go_must (refine (nextS_calls k gb A0 c0 rs A1 c1 ws A2 c2 bs wide W J i _ HQ.out HIL.out HN.out HBL.out (fun j h1 h2 => HW.out i j h1 h2) HJ.out).mono ?_); rw [HXV.out]; rintro e w2 ⟨rfl, hb2⟩; have HO2 := az (Kd.R_below HO.out hb2); have HB2 := az (below_then HB.out HB.out.size hb2); clear hb2)
    | ((with_reducible refine gate_builtin (b := .append) (xs := #[.tmp 16, .tmp 18]) rfl ?_); at_builtin; go_must (refine appI (w0 := w) (base := w.heap.size) Tryz.underlying22 info3 rfl (.tmp 16) (.tmp 18) rfl _ out (x : Int) rfl rfl HO2.out HB2.out HB2.out.size ?aL ?_); (case aL => have := HLO.out; have := HN.out; omega); intro v9 w9 ho9 hb9 hg9 hat9; have HO9 := az ho9; have HB9 := az hb9; clear ho9 hb9 hg9 hat9))
   go_roundg g
   case measure => have := HGG.out; omega
   case rel => exact ⟨x, g, _, rfl, zE HXB.out, Nat.le_refl _, ⟨l, HLL.out, by rw [List.append_assoc]; exact HRE.out⟩, ⟨by have := HLO.out; rw [List.length_append]; simp; omega⟩, HO9, HB9⟩
  ·
   have hltz : ¬ (i : Int) < (rs.length : Int) := by omega
   have HRE : Aside0 (out = r) := by
    have : rest = [] := by
     cases g with
     | zero => rw [greedyN, if_neg hlt] at hq; exact (Option.some.inj hq).symm
     | succ g => rw [greedyN, if_neg hlt] at hq; exact (Option.some.inj hq).symm
    subst this
    exact ⟨by rw [← hrest, List.append_nil]⟩
   clear hq hrest HF
   go_wp2
   go_ret
   exact ⟨_, rfl, by rw [← HRE.out]; exact HO.out, HB.out⟩
theorem l7Lines_calls (k : Nat) (A0 : Option Addr) (c0 : Nat) (rs : List Int) (A1 : Option Addr) (c1 : Nat) (sp : List S50) (wide mode : Int) (ws bs : List Int) (W : Nat → Nat → Int) (J : Nat → Bool) (r : List Int) (w : World) (hr0 : Kd.C (Kd.int .i64) w A0 rs.length rs) (hc0 : rs.length ≤ c0) (hr1 : Kd.C k50 w A1 sp.length sp) (hc1 : sp.length ≤ c1) (hw : spec_l6Wides.f k rs sp = some ws) (hb : spec_l5Breaks.f k rs = some bs) (hn : rs.length ≤ 1000) (hbl : bs.length = rs.length) (hW : ∀ i j : Nat, i ≤ j → j ≤ rs.length → spec_l7Wide.f k rs ws (i : Int) (j : Int) = some (W i j)) (hWb : ∀ i j : Nat, i ≤ j → j ≤ rs.length → (wide - W i j).natAbs ≤ 1000000000) (hTb : ∀ d, d ≤ rs.length → ∀ j, j ≤ rs.length → 0 ≤ (tabB bs (fitV W wide) (costV bs W wide) rs.length d j).1 ∧ (tabB bs (fitV W wide) (costV bs W wide) rs.length d j).1 ≤ 1000000000000000) (hJ : ∀ i : Nat, 0 < i → i < rs.length → spec_l2Joins.f k rs (i : Int) = some (J i)) (hr : linesV bs W J wide rs.length mode = some r) :
  Calls Tryz.prog 37 #[.slice A0 rs.length c0, .slice A1 sp.length c1, .int .i64 wide, .int .i64 mode] w fun e w' => ∃ v0_ : Value, e = .returned v0_ ∧ Kd.R (Kd.int .i64) 3 w' w.heap.size (fun _ => True) v0_ r ∧ Below w.heap.size w w' := by
 have HR := az hr0
 have HC := az hc0
 have HR1 := az hr1
 have HC1 := az hc1
 have HWS := az hw
 have HBS := az hb
 have HN := az hn
 have HBL := az hbl
 have HW := az hW
 have HWB := az hWb
 have HTB := az hTb
 have HJ := az hJ
 clear hr0 hc0 hr1 hc1 hw hb hn hbl hW hWb hTb hJ
 unfold linesV at hr
 by_cases hm : mode = 1
 ·
  rw [if_pos hm] at hr
  have bm : (mode == 1) = true := beq_iff_eq.mpr hm
  clear hm
  replace hr := Option.bind_eq_some_iff.mp hr
  obtain ⟨o, ho, hr⟩ := hr
  cases o with
  | some l =>
   obtain rfl := Option.some.inj hr
   have HO := az (show _ = some (if true = true then some l else none) from ho)
   clear ho hr
   go_enter Tryz.func37, Tryz.ntmps37
   go_wp2_with (first
    | (go_at_call 63; go_must (refine (l7Made_calls k A0 c0 rs A1 c1 sp wide ws bs _ HR.out HC.out HR1.out HC1.out HWS.out HBS.out).mono ?_); rintro e w3 ⟨gb, A4, c4, A5, c5, rfl, hfl, hb3⟩; have HFL := az hfl; have HB3 := az hb3; clear hfl hb3)
    | (go_at_call 70; go_must (refine (bestS_calls k gb A0 c0 rs A4 c4 ws A5 c5 bs wide W _ l true HFL.out HN.out HBL.out HW.out HWB.out HTB.out HO.out (fun h => by cases h)).mono ?_); rintro e w5 ⟨v5, rfl, ho5, hb5⟩; have HO5 := az ho5; have HB5 := az hb5; clear ho5 hb5))
   go_ret
   exact ⟨_, rfl, Kd.R_lower HO5.out HB3.out.size, below_then HB3.out HB3.out.size HB5.out⟩
  | none =>
   have HO := az (show _ = some (if false = true then some [] else none) from ho)
   have HG := az hr
   clear ho hr
   go_enter Tryz.func37, Tryz.ntmps37
   go_wp2_with (first
    | (go_at_call 63; go_must (refine (l7Made_calls k A0 c0 rs A1 c1 sp wide ws bs _ HR.out HC.out HR1.out HC1.out HWS.out HBS.out).mono ?_); rintro e w3 ⟨gb, A4, c4, A5, c5, rfl, hfl, hb3⟩; have HFL := az hfl; have HB3 := az hb3; clear hfl hb3)
    | (go_at_call 70; go_must (refine (bestS_calls k gb A0 c0 rs A4 c4 ws A5 c5 bs wide W _ [] false HFL.out HN.out HBL.out HW.out HWB.out HTB.out HO.out (fun _ => rfl)).mono ?_); rintro e w5 ⟨v5, rfl, ho5, hb5⟩; have HB5 := az (below_then HB3.out HB3.out.size hb5); have HFL5 := az (HFL.out.below hb5); clear ho5 hb5)
    | (go_at_call 71; go_must (refine (greedyS_calls k gb A0 c0 rs A4 c4 ws A5 c5 bs wide W J r _ HFL5.out HN.out HBL.out HW.out HJ.out HG.out).mono ?_); rintro e w6 ⟨v6, rfl, ho6, hb6⟩; have HO6 := az ho6; have HB6 := az hb6; clear ho6 hb6))
   go_ret
   exact ⟨_, rfl, Kd.R_lower HO6.out HB5.out.size, below_then HB5.out HB5.out.size HB6.out⟩
 ·
  rw [if_neg hm] at hr
  have bm : (mode == 1) = false := beq_eq_false_iff_ne.mpr hm
  have HG := az hr
  clear hm hr
  go_enter Tryz.func37, Tryz.ntmps37
  go_wp2_with (first
   | (go_at_call 63; go_must (refine (l7Made_calls k A0 c0 rs A1 c1 sp wide ws bs _ HR.out HC.out HR1.out HC1.out HWS.out HBS.out).mono ?_); rintro e w3 ⟨gb, A4, c4, A5, c5, rfl, hfl, hb3⟩; have HFL := az hfl; have HB3 := az hb3; clear hfl hb3)
   | (go_at_call 71; go_must (refine (greedyS_calls k gb A0 c0 rs A4 c4 ws A5 c5 bs wide W J r _ HFL.out HN.out HBL.out HW.out HJ.out HG.out).mono ?_); rintro e w6 ⟨v6, rfl, ho6, hb6⟩; have HO6 := az ho6; have HB6 := az hb6; clear ho6 hb6))
  go_ret
  exact ⟨_, rfl, Kd.R_lower HO6.out HB3.out.size, below_then HB3.out HB3.out.size HB6.out⟩
def tabWS (k : Nat) (rs ws : List Int) : Nat → Nat → Int := fun i j => if i ≤ j ∧ j ≤ rs.length then (spec_l7Wide.f k rs ws (i : Int) (j : Int)).getD 0 else 0
def tabJS (k : Nat) (rs : List Int) : Nat → Bool := fun i => if 0 < i ∧ i < rs.length then (spec_l2Joins.f k rs (i : Int)).getD false else false
def okWS (k : Nat) (rs ws : List Int) : Prop := ∀ j, j ≤ rs.length → ∀ i, i ≤ j → (spec_l7Wide.f k rs ws (i : Int) (j : Int)).isSome = true
instance (k : Nat) (rs ws : List Int) : Decidable (okWS k rs ws) := by unfold okWS; infer_instance
def okJS (k : Nat) (rs : List Int) : Prop := ∀ i, i < rs.length → 0 < i → (spec_l2Joins.f k rs (i : Int)).isSome = true
instance (k : Nat) (rs : List Int) : Decidable (okJS k rs) := by unfold okJS; infer_instance
def spec_FillLines.f (k : Nat) (l0 : List Int) (l1 : List S50) (a2 a3 : Int) : Option (List Int) :=
 (spec_l7All.f k l0 l1 a2).bind fun a => if a = true then (spec_l1In.f a3 0 1).bind fun b => if b = true then (spec_l6Wides.f k l0 l1).bind fun ws => (spec_l5Breaks.f k l0).bind fun bs => if okWS k l0 ws then (if okJS k l0 then linesO bs (tabWS k l0 ws) (tabJS k l0) a2 l0.length a3 else none) else none else some [] else some []
theorem tabWS_up {k : Nat} {rs ws : List Int} (h : okWS k rs ws) : okWS (k + 1) rs ws ∧ tabWS (k + 1) rs ws = tabWS k rs ws := by
 have e : ∀ j, j ≤ rs.length → ∀ i, i ≤ j → spec_l7Wide.f (k + 1) rs ws (i : Int) (j : Int) = spec_l7Wide.f k rs ws (i : Int) (j : Int) := fun j hj i hi => by
  obtain ⟨x, hx⟩ := Option.isSome_iff_exists.mp (h j hj i hi)
  rw [hx]
  exact spec_l7Wide.mono _ _ _ _ _ _ hx
 refine ⟨fun j hj i hi => by rw [e j hj i hi]; exact h j hj i hi, ?_⟩
 funext i j
 unfold tabWS
 split
 ·
  rename_i hh
  rw [e j hh.2 i hh.1]
 · rfl
theorem tabJS_up {k : Nat} {rs : List Int} (h : okJS k rs) : okJS (k + 1) rs ∧ tabJS (k + 1) rs = tabJS k rs := by
 have e : ∀ i, i < rs.length → 0 < i → spec_l2Joins.f (k + 1) rs (i : Int) = spec_l2Joins.f k rs (i : Int) := fun i hi h0 => by
  obtain ⟨x, hx⟩ := Option.isSome_iff_exists.mp (h i hi h0)
  rw [hx]
  exact spec_l2Joins.mono _ _ _ _ hx
 refine ⟨fun i hi h0 => by rw [e i hi h0]; exact h i hi h0, ?_⟩
 funext i
 unfold tabJS
 split
 ·
  rename_i hh
  rw [e i hh.2 hh.1]
 · rfl
theorem spec_FillLines.mono : ∀ a0 a1 a2 a3 k, LeO (spec_FillLines.f k a0 a1 a2 a3) (spec_FillLines.f (k + 1) a0 a1 a2 a3) := by
 intro a0 a1 a2 a3 k
 unfold spec_FillLines.f
 refine LeO.bind (spec_l7All.mono _ _ _ _) (fun a => LeO.ite (LeO.bind (LeO.refl _) (fun b => LeO.ite (LeO.bind (spec_l6Wides.mono _ _ _) (fun ws => LeO.bind (spec_l5Breaks.mono _ _) (fun bs => ?_))) (LeO.refl _))) (LeO.refl _))
 intro r hr
 by_cases h1 : okWS k a0 ws
 ·
  rw [if_pos h1] at hr
  by_cases h2 : okJS k a0
  ·
   rw [if_pos h2] at hr
   rw [if_pos (tabWS_up h1).1, if_pos (tabJS_up h2).1, (tabWS_up h1).2, (tabJS_up h2).2]
   exact hr
  · rw [if_neg h2] at hr; cases hr
 · rw [if_neg h1] at hr; cases hr
theorem spec_FillLines.calls (k : Nat) (A0 : Option Addr) (c0 : Nat) (l0 : List Int) (A1 : Option Addr) (c1 : Nat) (l1 : List S50) (a2 : Int) (a3 : Int) (r : List Int) (w : World) (hr0 : Kd.C (Kd.int .i64) w A0 l0.length l0) (hc0 : l0.length ≤ c0) (hr1 : Kd.C k50 w A1 l1.length l1) (hc1 : l1.length ≤ c1) (h : spec_FillLines.f k l0 l1 a2 a3 = some r) :
  Calls Tryz.prog 12 #[.slice A0 l0.length c0, .slice A1 l1.length c1, .int .i64 a2, .int .i64 a3] w fun e w' => ∃ v0_ : Value, e = .returned (v0_) ∧ Kd.R (Kd.int .i64) 3 w' w.heap.size (fun _ => True) v0_ r ∧ Below w.heap.size w w' := by
 have HR := az hr0
 have HC := az hc0
 have HR1 := az hr1
 have HC1 := az hc1
 clear hr0 hc0 hr1 hc1
 unfold spec_FillLines.f at h
 replace h := Option.bind_eq_some_iff.mp h
 obtain ⟨a, ha, h⟩ := h
 have HA := az ha
 clear ha
 cases a
 ·
  rw [if_neg (by decide)] at h
  obtain rfl := Option.some.inj h
  clear h
  go_enter Tryz.func12, Tryz.ntmps12
  go_wp2_with (first
   | (go_at_call 35; go_must (refine (spec_l7All.calls k A0 c0 l0 A1 c1 l1 a2 false _ HR.out HC.out HR1.out HC1.out HA.out).mono ?_); rintro e w1 ⟨rfl, hb1⟩; have HB1 := az hb1; clear hb1)
   | ((with_reducible refine gate_dst (N := 19) rfl ?_); refine Kd.R_lit (Kd.int .i64) w.heap.size 3 ?hg (N := 19) ?hd (xs := ([] : List Int)) (inner := []) (ok := fun _ => True) (okp := fun _ => True) ?hr ?hp (fun _ hk => hk) trivial HB1.out HB1.out.size (by simp) ?_; (case hd => rfl); (case hg => rfl); (case hr => first | (go_simp; done) | (go_simp; rfl)); (case hp => exact (Reps.none _ _)); intro v1 w2 ho1 hb1 hg_ hnew_; clear hg_ hnew_; have HO1 := az ho1; have HB2 := az hb1; clear ho1 hb1))
  go_ret
  exact ⟨_, rfl, HO1.out, HB2.out⟩
 rw [if_pos rfl] at h
 replace h := Option.bind_eq_some_iff.mp h
 obtain ⟨b, hb, h⟩ := h
 have HE := az hb
 clear hb
 cases b
 ·
  rw [if_neg (by decide)] at h
  obtain rfl := Option.some.inj h
  clear h
  go_enter Tryz.func12, Tryz.ntmps12
  go_wp2_with (first
   | (go_at_call 35; go_must (refine (spec_l7All.calls k A0 c0 l0 A1 c1 l1 a2 true _ HR.out HC.out HR1.out HC1.out HA.out).mono ?_); rintro e w1 ⟨rfl, hb1⟩; have HB0 := az hb1; clear hb1)
   | (go_at_call 36; go_must (refine (spec_l1In.calls a3 0 1 false _ HE.out).mono ?_); rintro e w2 ⟨rfl, hd2⟩; have HB1 := az (below_then HB0.out HB0.out.size hd2.below); clear hd2)
   | ((with_reducible refine gate_dst (N := 19) rfl ?_); refine Kd.R_lit (Kd.int .i64) w.heap.size 3 ?hg (N := 19) ?hd (xs := ([] : List Int)) (inner := []) (ok := fun _ => True) (okp := fun _ => True) ?hr ?hp (fun _ hk => hk) trivial HB1.out HB1.out.size (by simp) ?_; (case hd => rfl); (case hg => rfl); (case hr => first | (go_simp; done) | (go_simp; rfl)); (case hp => exact (Reps.none _ _)); intro v1 w2 ho1 hb1 hg_ hnew_; clear hg_ hnew_; have HO1 := az ho1; have HB2 := az hb1; clear ho1 hb1))
  go_ret
  exact ⟨_, rfl, HO1.out, HB2.out⟩
 rw [if_pos rfl] at h
 replace h := Option.bind_eq_some_iff.mp h
 obtain ⟨ws, hws, h⟩ := h
 replace h := Option.bind_eq_some_iff.mp h
 obtain ⟨bs, hbs, h⟩ := h
 by_cases h1 : okWS k l0 ws
 case neg => rw [if_neg h1] at h; cases h
 case pos =>
 rw [if_pos h1] at h
 by_cases h2 : okJS k l0
 case neg => rw [if_neg h2] at h; cases h
 case pos =>
 rw [if_pos h2] at h
 unfold linesO at h
 by_cases h3 : l0.length ≤ 1000 ∧ bs.length = l0.length ∧ okB bs (tabWS k l0 ws) a2 l0.length
 case neg => rw [if_neg h3] at h; cases h
 case pos =>
 rw [if_pos h3] at h
 have HW : Aside0 (∀ i j : Nat, i ≤ j → j ≤ l0.length → spec_l7Wide.f k l0 ws (i : Int) (j : Int) = some (tabWS k l0 ws i j)) := ⟨fun i j hi hj => by
  obtain ⟨x, hx⟩ := Option.isSome_iff_exists.mp (h1 j hj i hi)
  unfold tabWS
  rw [if_pos ⟨hi, hj⟩, hx]
  rfl⟩
 have HJ : Aside0 (∀ i : Nat, 0 < i → i < l0.length → spec_l2Joins.f k l0 (i : Int) = some (tabJS k l0 i)) := ⟨fun i h0 hi => by
  obtain ⟨x, hx⟩ := Option.isSome_iff_exists.mp (h2 i hi h0)
  unfold tabJS
  rw [if_pos ⟨h0, hi⟩, hx]
  rfl⟩
 have HOK := az h3
 have HH := az h
 have HWS := az hws
 have HBS := az hbs
 clear h h1 h2 h3 hws hbs
 go_enter Tryz.func12, Tryz.ntmps12
 go_wp2_with (first
  | (go_at_call 35; go_must (refine (spec_l7All.calls k A0 c0 l0 A1 c1 l1 a2 true _ HR.out HC.out HR1.out HC1.out HA.out).mono ?_); rintro e w1 ⟨rfl, hb1⟩; have HB0 := az hb1; clear hb1)
  | (go_at_call 36; go_must (refine (spec_l1In.calls a3 0 1 true _ HE.out).mono ?_); rintro e w2 ⟨rfl, hd2⟩; have HB1 := az (below_then HB0.out HB0.out.size hd2.below); clear hd2)
  | (go_at_call 37; go_must (refine (l7Lines_calls k A0 c0 l0 A1 c1 l1 a2 a3 ws bs (tabWS k l0 ws) (tabJS k l0) r _ (Kd.C_below HR.out HB1.out) HC.out (Kd.C_below HR1.out HB1.out) HC1.out HWS.out HBS.out HOK.out.1 HOK.out.2.1 HW.out (fun i j hi hj => HOK.out.2.2.1 j hj i hi) HOK.out.2.2.2 HJ.out HH.out).mono ?_); rintro e w3 ⟨v3, rfl, ho3, hb3⟩; have HO3 := az ho3; have HB3 := az hb3; clear ho3 hb3))
 go_ret
 exact ⟨_, rfl, Kd.R_lower HO3.out HB1.out.size, below_then HB1.out HB1.out.size HB3.out⟩
end Go.Proofs.YtmcdcogedcbndaaGreat.S
/- FillLines by both texts. -/
namespace Go.Proofs.YtmcdcogedcbndaaGreat.Pure
open Go.RowKit Go.Proofs.YtmcdcogedcbndaaGreat.S Go.Proofs.YtmcdcogedcbndaaGreatW.PrintWords Go.Proofs.YtmcdcogedcbndaaGreatW.PrintLast
theorem tabs_s {rs ws : List Int} {k : Nat} (hn : rs.length ≤ 80) (hl : ws.length = rs.length) (hk : 2000 ≤ k) : okWS k rs ws ∧ tabWS k rs ws = WV rs ws ∧ okJS k rs ∧ tabJS k rs = JV rs := by
 have e : ∀ i j : Nat, i ≤ j → j ≤ rs.length → spec_l7Wide.f k rs ws (i : Int) (j : Int) = some (lwV rs ws i j) := fun i j h1 h2 => lineS_p (by omega) hl h1 h2 (by omega)
 have e2 : ∀ i : Nat, 0 < i → i < rs.length → spec_l2Joins.f k rs (i : Int) = some (jV rs i) := fun i h1 h2 => join_s (by omega) h1 h2 (by omega)
 refine ⟨fun j hj i hi => by rw [e i j hi hj]; rfl, ?_, fun i hi h0 => by rw [e2 i h0 hi]; rfl, ?_⟩
 ·
  funext i j
  unfold tabWS WV
  split
  ·
   rename_i h
   rw [e i j h.1 h.2]
   rfl
  · rfl
 ·
  funext i
  unfold tabJS JV
  split
  ·
   rename_i h
   rw [e2 i h.1 h.2]
   rfl
  · rfl
theorem linesFull {rs : List Int} {sp : List Sp} {wide mode : Int} {k : Nat} (hn : rs.length ≤ 1099511627776) (hs : sp.length ≤ 1099511627776) (hk : rs.length + sp.length + 3000 ≤ k) : ∃ r, spec_FillLines.f k rs sp wide mode = some r ∧ impl_FillLines.f k rs sp wide mode = some r ∧ r.length ≤ 1000 ∧ ((r = [] ∧ ¬ (fillV rs sp wide = true ∧ 0 ≤ mode ∧ mode ≤ 1)) ∨ (fillV rs sp wide = true ∧ Ch (mustV (bsV rs) rs.length) rs.length 0 r ∧ LineR rs sp wide mode r)) := by
 obtain ⟨r, q1, q2, q3⟩ := linesImpl (rs := rs) (wide := wide) (mode := mode) hs hk
 refine ⟨r, ?_, q1, q2, q3⟩
 unfold spec_FillLines.f
 rw [allS_p hn hs (by omega) (by omega), Option.bind_some]
 rcases q3 with ⟨rfl, h⟩ | ⟨hf, _, hL⟩
 ·
  cases hf : fillV rs sp wide
  · rw [if_neg (by decide)]
  · rw [if_pos rfl, l1In_f, Option.bind_some, decide_eq_false (fun h2 => h ⟨hf, h2⟩), if_neg (by decide)]
 obtain ⟨h1, h2, h3, h4⟩ := fill_ok hf
 have hw := ws_small (rs := rs) h2
 have hl := wsV_len rs sp
 obtain ⟨s1, s2, s3, s4⟩ := tabs_s (rs := rs) (ws := wsV rs sp) (k := k) h1 hl (by omega)
 obtain ⟨_, hokB, _⟩ := core (rs := rs) h1 hl hw (fill_wide hf)
 obtain ⟨hm, hL⟩ := hL
 rw [hf, if_pos rfl, l1In_f, Option.bind_some, decide_eq_true hm, if_pos rfl, widesS_p h1 h2 (by omega), breaksS_p h1 (by omega), Option.bind_some, Option.bind_some, if_pos s1, if_pos s3, s2, s4]
 unfold linesO
 rw [if_pos ⟨by omega, bsV_len rs, hokB⟩]
 unfold linesV
 rcases hL with ⟨hg, hm2⟩ | ⟨hm2, ho⟩
 ·
  by_cases m1 : mode = 1
  ·
   rw [if_pos m1, hm2.resolve_left (by omega)]
   exact hg
  ·
   rw [if_neg m1]
   exact hg
 ·
  rw [if_pos hm2, ho]
  rfl
end Go.Proofs.YtmcdcogedcbndaaGreat.Pure
namespace Go.Proofs.YtmcdcogedcbndaaGreat.S
open Go.RowKit Go.Proofs.YtmcdcogedcbndaaGreatW.PrintWords Go.Proofs.YtmcdcogedcbndaaGreatW.PrintLast
set_option linter.unusedVariables false
set_option linter.unusedSimpArgs false
def laws_wcInts.l0 : Nat → List Int → List Int → Int → Option (Bool)
 | 0, _, _, _ => none
 | k + 1, x0, x1, x5 => if x5 < (x0.length : Int) then (if 0 ≤ x5 then (if x5 < (x1.length : Int) then (if (rd x0 x5) = (rd x1 x5) then (laws_wcInts.l0 k x0 x1 (wrap64 (x5 + 1))) else (some false)) else (none)) else (none)) else (some true)
def laws_wcInts.f (k : Nat) (l0 : List Int) (l1 : List Int) : Option (Bool) := if (l0.length : Int) = (l1.length : Int) then (laws_wcInts.l0 k l0 l1 0) else (some false)
theorem laws_wcInts.mono_l : ∀ k, (∀ y0 y1 y2, LeO (laws_wcInts.l0 k y0 y1 y2) (laws_wcInts.l0 (k + 1) y0 y1 y2))
 | 0 => fun _ _ _ r h => by simp [laws_wcInts.l0] at h
 | k + 1 => by
  have ih0 := laws_wcInts.mono_l k
  ·
   intro y0 y1 y2; unfold laws_wcInts.l0
   repeat' first
   | (with_reducible exact ih0 _ _ _)
   | (with_reducible exact LeO.refl _)
   | (with_reducible exact LeO.none _)
   | (with_reducible refine LeO.ite ?_ ?_)
   | (with_reducible refine LeO.bind ?_ (fun _ => ?_))
   | exact ih0 _ _ _
   | exact LeO.none _
   | refine LeO.ite ?_ ?_
   | refine LeO.bind ?_ (fun _ => ?_)
theorem laws_wcInts.mono : ∀ a0 a1 k, LeO (laws_wcInts.f k a0 a1) (laws_wcInts.f (k + 1) a0 a1) := by
 intro a0 a1 k; have ih0 := laws_wcInts.mono_l k; unfold laws_wcInts.f
 repeat' first
   | (with_reducible exact ih0 _ _ _)
   | (with_reducible exact LeO.refl _)
   | (with_reducible exact LeO.none _)
   | (with_reducible refine LeO.ite ?_ ?_)
   | (with_reducible refine LeO.bind ?_ (fun _ => ?_))
   | exact ih0 _ _ _
   | exact LeO.none _
   | refine LeO.ite ?_ ?_
   | refine LeO.bind ?_ (fun _ => ?_)
theorem laws_wcInts.calls (k : Nat) (A0 : Option Addr) (c0 : Nat) (l0 : List Int) (A1 : Option Addr) (c1 : Nat) (l1 : List Int) (r : Bool) (w : World) (hr0 : Kd.C (Kd.int .i64) w A0 l0.length l0) (hc0 : l0.length ≤ c0) (hr1 : Kd.C (Kd.int .i64) w A1 l1.length l1) (hc1 : l1.length ≤ c1) (h : laws_wcInts.f k l0 l1 = some r) :
  Calls Tryz.prog 22 #[.slice A0 l0.length c0, .slice A1 l1.length c1] w fun e w' => e = .returned (.bool r) ∧ Drawn0 w w' := by
 have HR0 := az hr0; have HC0 := az hc0; clear hr0 hc0; have HR1 := az hr1; have HC1 := az hc1; clear hr1 hc1; have H : (if (l0.length : Int) = (l1.length : Int) then (laws_wcInts.l0 k l0 l1 0) else (some false)) = some r := h; clear h; by_cases c3 : (l0.length : Int) = (l1.length : Int)
 ·
  rw [if_pos c3] at H; have c3b0 : ((l0.length : Int) == (l1.length : Int)) = true := beq_iff_eq.mpr c3; have c3b1 : ((l0.length : Int) != (l1.length : Int)) = false := bne_eq_false_iff_eq.mpr c3; have c3b2 : (l0.length == l1.length) = true := by first | simpa using c3 | (simp at c3 ⊢; omega)
  clear c3; have H' := az H; clear H; go_enter Tryz.func22, Tryz.ntmps22; go_wp2; repeat (go_quiet (fail); try go_wp2)
  go_loopg [5] k (fun kq v5 w' => ∃ (x5_1 : Int), v5 = .int .i64 x5_1 ∧ Aside0 (laws_wcInts.l0 kq l0 l1 x5_1 = some r) ∧ Aside0 (kq ≤ k) ∧ Drawn0 w w')
  case atStart => exact ⟨(0), zB, H', ⟨Nat.le_refl _⟩, zD⟩
  case round =>
   clear H'; (try clear c1); (try clear c2); (try clear p2); (try clear c3); (try clear c3b0); (try clear c3b1); (try clear c3b2); obtain ⟨x5_1, rfl, HA, HK1, ⟨m1, rfl⟩⟩ := hrel
   cases gk with
   | zero => exact absurd HA.out (by simp [laws_wcInts.l0])
   | succ k1 =>
    have H := HA.out; clear HA; simp only [laws_wcInts.l0] at H; by_cases c4 : x5_1 < (l0.length : Int)
    ·
     rw [if_pos c4] at H; have c4b0 : decide (x5_1 < (l0.length : Int)) = true := decide_eq_true c4; clear c4; by_cases c5 : 0 ≤ x5_1
     ·
      rw [if_pos c5] at H; have c5b0 : decide (0 ≤ x5_1) = true := decide_eq_true c5; clear c5; by_cases c6 : x5_1 < (l1.length : Int)
      ·
       rw [if_pos c6] at H; have c6b0 : decide (x5_1 < (l1.length : Int)) = true := decide_eq_true c6; clear c6; by_cases c7 : (rd l0 x5_1) = (rd l1 x5_1)
       ·
        rw [if_pos c7] at H; have c7b0 : ((rd l0 x5_1) == (rd l1 x5_1)) = true := beq_iff_eq.mpr c7; have c7b1 : ((rd l0 x5_1) != (rd l1 x5_1)) = false := bne_eq_false_iff_eq.mpr c7; clear c7; have H' := az H; clear H; have p427 : 0 ≤ (x5_1 : Int) := of_decide_eq_true (by assumption); have q427 : x5_1 < (l0.length : Int) := of_decide_eq_true (by assumption); obtain ⟨ad427, e427, hx427_0⟩ := Kd.at_int HR0.out x5_1 p427 q427
        cases e427
        replace p427 := eq_true p427; replace q427 := eq_true q427; have p428 : 0 ≤ (x5_1 : Int) := of_decide_eq_true (by assumption); have q428 : x5_1 < (l1.length : Int) := of_decide_eq_true (by assumption); obtain ⟨ad428, e428, hx428_0⟩ := Kd.at_int HR1.out x5_1 p428 q428
        cases e428
        replace p428 := eq_true p428; replace q428 := eq_true q428; go_wp2; repeat (go_quiet (fail); try go_wp2)
        go_roundg k1
        case measure => have := HK1.out; omega
        case rel => exact ⟨(wrap64 (x5_1 + 1)), zB, H', ⟨zE HK1.out⟩, zD⟩
       ·
        rw [if_neg c7] at H; have c7b0 : ((rd l0 x5_1) == (rd l1 x5_1)) = false := beq_eq_false_iff_ne.mpr c7; have c7b1 : ((rd l0 x5_1) != (rd l1 x5_1)) = true := bne_iff_ne.mpr c7; obtain rfl := Option.some.inj H; have p427 : 0 ≤ (x5_1 : Int) := of_decide_eq_true (by assumption); have q427 : x5_1 < (l0.length : Int) := of_decide_eq_true (by assumption); obtain ⟨ad427, e427, hx427_0⟩ := Kd.at_int HR0.out x5_1 p427 q427
        cases e427
        replace p427 := eq_true p427; replace q427 := eq_true q427; have p428 : 0 ≤ (x5_1 : Int) := of_decide_eq_true (by assumption); have q428 : x5_1 < (l1.length : Int) := of_decide_eq_true (by assumption); obtain ⟨ad428, e428, hx428_0⟩ := Kd.at_int HR1.out x5_1 p428 q428
        cases e428
        replace p428 := eq_true p428; replace q428 := eq_true q428; go_wp2; repeat (go_quiet (fail); try go_wp2)
        go_ret; exact ⟨zB, zD⟩
      ·
       rw [if_neg c6] at H; exact absurd H (by simp)
     ·
      rw [if_neg c5] at H; exact absurd H (by simp)
    ·
     rw [if_neg c4] at H; have c4b0 : decide (x5_1 < (l0.length : Int)) = false := decide_eq_false c4; clear c4; obtain rfl := Option.some.inj H; go_wp2; repeat (go_quiet (fail); try go_wp2)
     go_ret; exact ⟨zB, zD⟩
 ·
  rw [if_neg c3] at H; have c3b0 : ((l0.length : Int) == (l1.length : Int)) = false := beq_eq_false_iff_ne.mpr c3; have c3b1 : ((l0.length : Int) != (l1.length : Int)) = true := bne_iff_ne.mpr c3; have c3b2 : (l0.length == l1.length) = false := by first | simpa using c3 | (simp at c3 ⊢; omega)
  obtain rfl := Option.some.inj H; go_enter Tryz.func22, Tryz.ntmps22; go_wp2; repeat (go_quiet (fail); try go_wp2)
  go_ret; exact ⟨zB, zD⟩
end Go.Proofs.YtmcdcogedcbndaaGreat.S
/- Two rows that are one are told to be the same. -/
namespace Go.Proofs.YtmcdcogedcbndaaGreat.Pure
open Go.RowKit Go.Proofs.YtmcdcogedcbndaaGreat.S Go.Proofs.YtmcdcogedcbndaaGreatW.PrintWords Go.Proofs.YtmcdcogedcbndaaGreatW.PrintLast
theorem wcI_l (a : List Int) (hn : a.length ≤ 1000) : ∀ (d k i : Nat), a.length - i = d → i ≤ a.length → d < k → laws_wcInts.l0 k a a (i : Int) = some true
 | 0, k, i, hd, hi, hk => by
  obtain ⟨k, rfl⟩ : ∃ m, k = m + 1 := ⟨k - 1, by omega⟩
  rw [laws_wcInts.l0, if_neg (by omega)]
 | d + 1, k, i, hd, hi, hk => by
  obtain ⟨k, rfl⟩ : ∃ m, k = m + 1 := ⟨k - 1, by omega⟩
  have ih := wcI_l a hn d k (i + 1) (by omega) (by omega) (by omega)
  rw [laws_wcInts.l0, if_pos (by omega), if_pos (by omega), if_pos (by omega), if_pos rfl, w64 (by omega) (by omega), show ((i : Int) + 1) = ((i + 1 : Nat) : Int) by omega, ih]
theorem wcI_p {a : List Int} {k : Nat} (hn : a.length ≤ 1000) (hk : a.length < k) : laws_wcInts.f k a a = some true := by
 unfold laws_wcInts.f
 rw [if_pos rfl]
 exact wcI_l a hn a.length k 0 (by omega) (by omega) hk
end Go.Proofs.YtmcdcogedcbndaaGreat.Pure
/- Of drawn letters, spans, a width and a way: a line that is too wide is one cluster; one that ends within a word ends with a cluster, and the word has no room on it; the lines are the reference's. No condition beyond the statement's own. -/
namespace Go.Proofs.YtmcdcogedcbndaaGreat.Pure
open Go.RowKit Go.Proofs.YtmcdcogedcbndaaGreat.S Go.Proofs.YtmcdcogedcbndaaGreatW.PrintWords Go.Proofs.YtmcdcogedcbndaaGreatW.PrintLast
theorem startOf_l (rs : List Int) (hn : rs.length ≤ 1000) (a : Nat) : ∀ (d k : Nat), a + d < rs.length → d < k → jAt rs a = false → (∀ j, a < j → j ≤ a + d → jAt rs j = true) → impl_startOf.l0 k ((a + d : Nat) : Int) (jsV rs) = some (a : Int)
 | 0, k, h1, hk, ha, hj => by
  obtain ⟨k, rfl⟩ : ∃ m, k = m + 1 := ⟨k - 1, by omega⟩
  rw [impl_startOf.l0, if_pos (by omega), if_pos (by rw [jsV_len]; omega), rdOfB, jsV_get (by omega), Nat.add_zero, ha, if_neg (by decide)]
 | d + 1, k, h1, hk, ha, hj => by
  obtain ⟨k, rfl⟩ : ∃ m, k = m + 1 := ⟨k - 1, by omega⟩
  rw [impl_startOf.l0, if_pos (by omega), if_pos (by rw [jsV_len]; omega), rdOfB, jsV_get (by omega), hj (a + (d + 1)) (by omega) (by omega), if_pos rfl, w64 (by omega) (by omega), show ((a + (d + 1) : Nat) : Int) - 1 = ((a + d : Nat) : Int) by omega]
  exact startOf_l rs hn a d k (by omega) (by omega) ha (fun j h2 h3 => hj j h2 (by omega))
theorem clusterAt_p {rs : List Int} {a i k : Nat} (hok : okV rs = true) (hai : a ≤ i) (hi : i < rs.length) (hk : 8000 ≤ k) (ha : jAt rs a = false) (hj : ∀ j, a < j → j ≤ i → jAt rs j = true) : impl_ClusterAt.f k rs (i : Int) = some (a : Int) := by
 have h1 := ok_len80 hok
 have h2 := startOf_l rs (by omega) a (i - a) k (by omega) (by omega) ha (fun j q1 q2 => hj j q1 (by omega))
 rw [show a + (i - a) = i by omega] at h2
 unfold impl_ClusterAt.f impl_lettersOk.f impl_startOf.f
 rw [Option.bind_some, hok, if_pos rfl, if_neg (by omega), if_neg (by omega), joined_p (by omega) (by omega), Option.bind_some, h2]
 rfl
theorem forcedAll {rs : List Int} {sp : List Sp} {wide mode : Int} {r : List Int} {k : Nat} (hs : sp.length ≤ 1000) (hk : 8000 ≤ k) (h4 : (r = [] ∧ ¬ (fillV rs sp wide = true ∧ 0 ≤ mode ∧ mode ≤ 1)) ∨ (fillV rs sp wide = true ∧ Ch (mustV (bsV rs) rs.length) rs.length 0 r ∧ LineR rs sp wide mode r)) : ∃ ws bs, impl_WidesOf.f k rs sp = some ws ∧ impl_BreaksOf.f k rs = some bs ∧ (r = [] ∨ (okV rs = true ∧ rs.length ≤ 80 ∧ bs = bsV rs ∧ ws.length = rs.length ∧ (∀ y ∈ ws, 0 ≤ y ∧ y ≤ 20000) ∧ PL (QF rs ws wide) 0 r)) := by
 obtain ⟨ws, a1, a2⟩ := widesOf_any (rs := rs) (sp := sp) (wide := wide) hs hk
 obtain ⟨bs, b1, b2, b3, _⟩ := breaksOf_any (rs := rs) hk
 refine ⟨ws, bs, a1, b1, ?_⟩
 rcases h4 with ⟨h, _⟩ | h
 · exact .inl h
 obtain ⟨f1, f2, f3, f4⟩ := fill_ok h.1
 obtain rfl := a2 h.1
 obtain rfl := b3 f4
 exact .inr ⟨f4, f1, rfl, wsV_len _ _, ws_20000 h.1, forcedQF h⟩
theorem bs_end {rs : List Int} (t : Nat) (ht : t < rs.length) : ¬ (bsV rs).getD (rs.length - 1) 0 = 0 := by
 rw [bs_last (by omega)]
 decide
end Go.Proofs.YtmcdcogedcbndaaGreat.Pure
namespace Go.Proofs.YtmcdcogedcbndaaGreat.S
open Go.RowKit Go.Proofs.YtmcdcogedcbndaaGreatW.PrintWords Go.Proofs.YtmcdcogedcbndaaGreatW.PrintLast
set_option linter.unusedVariables false
set_option linter.unusedSimpArgs false
def IsS86 (w0 W : World) (g : Nat) (f0 : List Int) (f1 : Int) : Prop := ∃ A0 c0, W.heap[g]? = some (.cells #[.slice A0 f0.length c0, .int .i64 f1] 86 (0, 0)) ∧ w0.heap.size ≤ g ∧ Kd.C (Kd.int .u8) w0 A0 f0.length f0
theorem IsS86.grown {w0 W : World} {g : Nat} {f0 : List Int} {f1 : Int} {W1 : World} {row : Option Nat} (h : IsS86 w0 W g f0 f1) (hw : W.grownBy W1 row) (hne : some g ≠ row) : IsS86 w0 W1 g f0 f1 := by
 obtain ⟨A0, c0, hb, hg, hr0⟩ := h; exact ⟨A0, c0, blk_grown hb hw hne, hg, hr0⟩
theorem IsS86.kept {w0 W : World} {g : Nat} {f0 : List Int} {f1 : Int} {W1 : World} {S : Nat → Prop} (h : IsS86 w0 W g f0 f1) (hk : Kept W W1 S) (hne : ¬ S g) : IsS86 w0 W1 g f0 f1 := by
 obtain ⟨A0, c0, hb, hg, hr0⟩ := h; exact ⟨A0, c0, blk_kept hb hk hne, hg, hr0⟩
theorem IsS86.below {w0 W : World} {g : Nat} {f0 : List Int} {f1 : Int} {W1 : World} (h : IsS86 w0 W g f0 f1) (hw : Below W.heap.size W W1) : IsS86 w0 W1 g f0 f1 := h.grown (grown_of_below hw none) (by simp)
theorem IsS86.alloc {w0 W : World} {g : Nat} {f0 : List Int} {f1 : Int} (h : IsS86 w0 W g f0 f1) (o : Obj) : IsS86 w0 (W.alloc o) g f0 f1 := h.below (below_alloc (Below.refl _ _) o)
theorem IsS86.drewN {w0 W : World} {g : Nat} {f0 : List Int} {f1 : Int} (h : IsS86 w0 W g f0 f1) (m : Nat) : IsS86 w0 (W.drewN m) g f0 f1 := h
theorem IsS86.drew {w0 W : World} {g : Nat} {f0 : List Int} {f1 : Int} (h : IsS86 w0 W g f0 f1) : IsS86 w0 W.drew g f0 f1 := h
theorem IsS86.at_ {w0 W : World} {g : Nat} {f0 : List Int} {f1 : Int} {w' : World} {m : Nat} (hq : W.drewN m = w') (h : IsS86 w0 W g f0 f1) : IsS86 w0 w' g f0 f1 := by subst hq; exact IsS86.drewN h m
theorem IsS86.apart {w0 W : World} {g : Nat} {f0 : List Int} {f1 : Int} {α : Type} {d : Kd α} {e : Nat} {base : Nat} {ok : Nat → Prop} {v : Value} {xs : List α} (h : IsS86 w0 W g f0 f1) (ho : d.R e W base ok v xs) (ht : ∀ q, q ∈ e :: d.E → q ≠ 86) : d.R e W base (fun k => ok k ∧ k ≠ g) v xs := by
 obtain ⟨A0, c0, hb, hg, hr0⟩ := h; exact Kd.R_types ho hb ht
theorem IsS86.own_ne {w0 W : World} {g : Nat} {f0 : List Int} {f1 : Int} {α : Type} {d : Kd α} {e : Nat} {base : Nat} {ok : Nat → Prop} {v : Value} {xs : List α} (h : IsS86 w0 W g f0 f1) (ho : d.R e W base ok v xs) (ht : e ≠ 86) : some g ≠ v.ownBlock := by
 obtain ⟨A0, c0, hb, hg, hr0⟩ := h; exact Kd.R_ne ho hb ht
theorem IsS86.lt {w0 W : World} {g : Nat} {f0 : List Int} {f1 : Int} (h : IsS86 w0 W g f0 f1) : g < W.heap.size := by
 obtain ⟨A0, c0, hb, hg, hr0⟩ := h; exact blk_lt hb
theorem IsS86.ge {w0 W : World} {g : Nat} {f0 : List Int} {f1 : Int} (h : IsS86 w0 W g f0 f1) : w0.heap.size ≤ g := by
 obtain ⟨A0, c0, hb, hg, hr0⟩ := h; exact hg
theorem cellS86_0 {W : World} {g : Nat} {A0 : Option Addr} {c0 : Nat} {f0 : List Int} {f1 : Int} (h : W.heap[g]? = some (.cells #[.slice A0 f0.length c0, .int .i64 f1] 86 (0, 0))) : W.cell? ⟨g, 0, none⟩ = some (.slice A0 f0.length c0) := (blk_cell h 0).trans rfl
theorem cellS86_1 {W : World} {g : Nat} {A0 : Option Addr} {c0 : Nat} {f0 : List Int} {f1 : Int} (h : W.heap[g]? = some (.cells #[.slice A0 f0.length c0, .int .i64 f1] 86 (0, 0))) : W.cell? ⟨g, 1, none⟩ = some (.int .i64 f1) := (blk_cell h 1).trans rfl
theorem IsS86.set_1 {w0 W : World} {g : Nat} {f0 : List Int} {f1 : Int} (h : IsS86 w0 W g f0 f1) (x : Int) : IsS86 w0 (W.setCell ⟨g, 1, none⟩ (.int .i64 x)) g f0 x := by
 obtain ⟨A0, c0, hb, hg, hr0⟩ := h; exact ⟨A0, c0, by simpa using blk_set hb 1 (.int .i64 x), hg, hr0⟩
def spec_l1Open.f (l0 : List Int) : Option (List Int × Int) := if (l0.length : Int) > 2000 then (if 2000 ≤ (l0.length : Int) then (some (l0.take 2000, 0)) else (none)) else (some (l0, 0))
theorem spec_l1Open.calls (A0 : Option Addr) (c0 : Nat) (l0 : List Int) (r1 : List Int) (r2 : Int) (w0 w : World) (hB : Below w0.heap.size w0 w) (hr0 : Kd.C (Kd.int .u8) w0 A0 l0.length l0) (hc0 : l0.length ≤ c0) (h : spec_l1Open.f l0 = some (r1, r2)) :
  Calls Tryz.prog 43 #[.slice A0 l0.length c0] w fun e w' => ∃ g_ : Nat, e = .returned (.pointer (some ⟨g_, 0, none⟩)) ∧ IsS86 w0 w' g_ r1 r2 ∧ Below w0.heap.size w0 w' ∧ Below w.heap.size w w' := by
 have hu86 := Tryz.underlying86; have HR0 := az hr0; have HC0 := az hc0; clear hr0 hc0; have HBW := az (Below.refl w.heap.size w); have HW0 := az hB.size; have HB := az hB; clear hB; have H : (if (l0.length : Int) > 2000 then (if 2000 ≤ (l0.length : Int) then (some (l0.take 2000, 0)) else (none)) else (some (l0, 0))) = some (r1, r2) := h; clear h; by_cases c2 : (l0.length : Int) > 2000
 ·
  rw [if_pos c2] at H; have c2b0 : decide (2000 < (l0.length : Int)) = true := decide_eq_true c2; have c2b1 : decide (2000 < l0.length) = true := decide_eq_true (by omega); clear c2; by_cases c3 : 2000 ≤ (l0.length : Int)
  ·
   rw [if_pos c3] at H; have c3b0 := eq_true c3; have c3b1 : decide (2000 ≤ (l0.length : Int)) = true := decide_eq_true c3; clear c3; simp only [Option.some.injEq, Prod.mk.injEq] at H; obtain ⟨rfl, rfl⟩ := H; obtain ⟨i04, hi04, _, hsz4, _⟩ := info_parts info5; obtain ⟨hcut4, hA4, hC4⟩ := print_take_of (P := Tryz.prog) (Value.int .u8) 0 34 5 .i64 Tryz.underlying34 hi04 hsz4 A0 c0 l0 2000 (by omega) (of_decide_eq_true (by assumption)) HC0.out; have HR418 := az (Kd.C_of_reads (h1 := fun _ => rfl) (hA4 _ (Kd.reads_of_C HR0.out))); have HC418 := az hC4; clear hA4 hC4 hi04 hsz4; go_enter Tryz.func43, Tryz.ntmps43; go_wp2_with (first | ((with_reducible refine gate_dst (N := 10) rfl ?_); refine box_event ?hg (N := 10) ?hd (cs := #[.slice A0 (l0.take 2000).length c0, .int .i64 0]) (t := 86) ?hr ?_; (case hd => rfl); (case hg => rfl); (case hr => first | (go_simp; done) | (go_simp; rfl)); intro gb419 hg w5 hbox hb; have n0_ := az (below_step HBW.out hb); have n1_ := az (below_step (zA HB.out) hb); have n2_ := az (hbox); have n3_ := az ((by rw [hg]; exact (below_size (zA HBW.out)) : w.heap.size ≤ gb419)); have n4_ := az ((Nat.le_trans HW0.out (by rw [hg]; exact (below_size (zA HBW.out)) : w.heap.size ≤ gb419) : w0.heap.size ≤ gb419)); clear HBW; clear HB; have HBW := n0_; have HB := n1_; have BK419 := n2_; have GW419 := n3_; have GE419 := n4_; clear n0_ n1_ n2_ n3_ n4_; clear hb hbox hg)); go_ret; exact ⟨_, rfl, (show IsS86 w0 _ gb419 (l0.take 2000) 0 from ⟨_, _, zP BK419.out, GE419.out, HR418.out⟩), zK HB.out GE419.out, zK HBW.out GW419.out⟩
  ·
   rw [if_neg c3] at H; exact absurd H (by simp)
 ·
  rw [if_neg c2] at H; have c2b0 : decide (2000 < (l0.length : Int)) = false := decide_eq_false c2; have c2b1 : decide (2000 < l0.length) = false := decide_eq_false (by omega); clear c2; simp only [Option.some.injEq, Prod.mk.injEq] at H; obtain ⟨rfl, rfl⟩ := H; go_enter Tryz.func43, Tryz.ntmps43; go_wp2_with (first | ((with_reducible refine gate_dst (N := 10) rfl ?_); refine box_event ?hg (N := 10) ?hd (cs := #[.slice A0 l0.length c0, .int .i64 0]) (t := 86) ?hr ?_; (case hd => rfl); (case hg => rfl); (case hr => first | (go_simp; done) | (go_simp; rfl)); intro gb420 hg w6 hbox hb; have n0_ := az (below_step HBW.out hb); have n1_ := az (below_step (zA HB.out) hb); have n2_ := az (hbox); have n3_ := az ((by rw [hg]; exact (below_size (zA HBW.out)) : w.heap.size ≤ gb420)); have n4_ := az ((Nat.le_trans HW0.out (by rw [hg]; exact (below_size (zA HBW.out)) : w.heap.size ≤ gb420) : w0.heap.size ≤ gb420)); clear HBW; clear HB; have HBW := n0_; have HB := n1_; have BK420 := n2_; have GW420 := n3_; have GE420 := n4_; clear n0_ n1_ n2_ n3_ n4_; clear hb hbox hg)); go_ret; exact ⟨_, rfl, (show IsS86 w0 _ gb420 l0 0 from ⟨_, _, zP BK420.out, GE420.out, HR0.out⟩), zK HB.out GE420.out, zK HBW.out GW420.out⟩
end Go.Proofs.YtmcdcogedcbndaaGreat.S
