/- The program's FillLines answers as the reference's, for every list of letters, of spans, every width and every way; it writes into no argument, and its answer is memory of its own. No condition beyond the statement's own. (text 5 of 7 of this claim: functions of the program and of the reference as plain Lean functions, what a call of each comes to, and what follows.) -/
import Derived.Test.YtmcdcogedcbndaaGreatZFnExactFillLinesA0
import Derived.Test.YtmcdcogedcbndaaGreatZFnExactFillLinesA3
import Derived.Test.YtmcdcogedcbndaaGreatZFnExactFillLinesA2
import Derived.Test.YtmcdcogedcbndaaGreatZFnExactFillLinesA1
set_option maxHeartbeats 16000000
set_option maxRecDepth 100000
set_option linter.unusedVariables false
set_option linter.unusedSimpArgs false
namespace Go.Proofs.YtmcdcogedcbndaaGreat.S
open Go.RowKit Go.Proofs.YtmcdcogedcbndaaGreatW.PrintWords Go.Proofs.YtmcdcogedcbndaaGreatW.PrintLast
set_option linter.unusedVariables false
set_option linter.unusedSimpArgs false
def downN (bs : List Int) (F : Nat → Nat → Bool) (fr : Nat) : Nat → Option Nat
 | 0 => none
 | g + 1 => if ¬ bs.getD (fr + g) 0 = 0 ∧ F fr (fr + g + 1) = true then some (fr + g + 1) else downN bs F fr g
def backN (F : Nat → Nat → Bool) (fr m : Nat) (all : List Int) : Option Int := all.reverse.find? fun t => decide ((fr : Int) < t) && decide (t ≤ (m : Int)) && F fr t.toNat
def nextI (bs : List Int) (F : Nat → Nat → Bool) (all : List Int) (fr m : Nat) : Option Int :=
 match downN bs F fr (m - fr) with
 | some t => some (t : Int)
 | none => match backN F fr m all with
  | some t => some t
  | none => all.find? fun t => decide ((fr : Int) < t)
theorem results_cell_int {P : Program} {fn : Func} {p : Tmp} (h : fn.results = #[.cell p 3]) (tmps : Array Value) (w : World) (g : Nat) (v : Int) (hp : tmps.getD p undef = .pointer (some ⟨g, 0, none⟩)) (hc : w.cell? ⟨g, 0, none⟩ = some (.int .i64 v)) (hu : P.underlying 3 = some (.int .i64)) : (results fn tmps).run P w = .ok (.int .i64 v) w := by
 have hp' : tmps[p]?.getD undef = .pointer (some ⟨g, 0, none⟩) := by simpa using hp
 have hagg : (isAgg 3).run P w = .ok false w := by simp [isAgg, run_underlying hu]
 simp [results, h, hp', asAddr, go_sem, hu, hc, hagg, Result.andThen]
theorem upto_back (zs : List Int) : ∀ k, k ≤ zs.length → (upto (backF zs zs.length) k).map (fun p => p.2) = zs.reverse.take k
 | 0, _ => rfl
 | k + 1, h => by
  rw [upto_succ, List.map_append, upto_back zs k (by omega), List.take_add_one, List.getElem?_reverse (by omega)]
  simp only [backF, List.map_cons, List.map_nil]
  rw [List.getElem?_eq_getElem (by omega)]
  rfl
theorem back_none {q : Int → Bool} (zs : List Int) (h : ∀ p ∈ upto (backF zs zs.length) zs.length, q p.2 = false) : zs.reverse.find? q = none := by
 rw [List.find?_eq_none]
 intro x hx
 have hm : x ∈ (upto (backF zs zs.length) zs.length).map (fun p => p.2) := by
  rw [upto_back _ _ (Nat.le_refl _), List.take_of_length_le (by simp)]
  exact hx
 obtain ⟨p, hp, rfl⟩ := List.mem_map.1 hm
 rw [h p hp]
 decide
theorem back_some {q : Int → Bool} (zs : List Int) (k : Nat) (hk : k ≤ zs.length) (ini : List (Nat × Int)) (last : Nat × Int) (he : upto (backF zs zs.length) k = ini ++ [last]) (h : ∀ p ∈ ini, q p.2 = false) (hl : q last.2 = true) : zs.reverse.find? q = some last.2 := by
 have e := upto_back zs k hk
 rw [he, List.map_append] at e
 have e2 : zs.reverse = (ini.map (fun p => p.2) ++ [last.2]) ++ zs.reverse.drop k := (List.take_append_drop k zs.reverse).symm.trans (by rw [← e]; rfl)
 rw [e2, List.append_assoc, List.find?_append]
 have e3 : (ini.map (fun p => p.2)).find? q = none := by
  rw [List.find?_eq_none]
  intro x hx
  obtain ⟨p, hp, rfl⟩ := List.mem_map.1 hx
  rw [h p hp]
  decide
 rw [e3]
 simp [hl]
theorem idx_find {q : Int → Bool} {zs : List Int} {t : Int} (h : zs.find? q = some t) : ∃ j : Nat, idxI q zs = j ∧ j < zs.length ∧ zs.getD j 0 = t := by
 obtain ⟨h1, i, hi, h2, h3⟩ := List.find?_eq_some_iff_getElem.mp h
 have hg : ∀ j (hj : j < zs.length), zs.getD j 0 = zs[j] := fun j hj => by simp [List.getD_eq_getElem?_getD, hj]
 refine ⟨i, idxI_hit hi (by rw [hg i hi, h2]; exact h1) (fun j hj => ?_), hi, by rw [hg i hi, h2]⟩
 have := h3 j hj
 rw [hg j (by omega)]
 simpa using this
theorem bodyPostM_ret {F : Fence} {n : Nat} {P : Program} {fn : Func} {R : Ending → World → Prop} {a : Act} {w : World} {v : Value} (hr : (results fn a.tmps).run P w = .ok v w) (hd : a.defers = []) (hR : R (.returned v) w) : bodyPostM F n P fn R .ret a w := by
 show LeavesInM F n P fn a.tmps R a.defers .returning w
 rw [hd]
 exact ⟨v, hr, hR⟩
theorem nextG_1_calls (b : Nat) (fr t : Int) (W : World) (hc : W.cell? ⟨b, 0, none⟩ = some (.int .i64 fr)) : Calls Tryz.prog 165 #[.int .i64 t, .pointer (some ⟨b, 0, none⟩)] W fun e w' => e = .returned (.bool (decide (fr < t))) ∧ Below W.heap.size W w' := by
 go_enter Tryz.func165, Tryz.ntmps165
 go_wp2
 go_ret
 exact ⟨rfl, Below.refl _ _⟩
def GnO (B gb : Nat) (A0 : Option Addr) (c0 : Nat) (rs : List Int) (A1 : Option Addr) (c1 : Nat) (ws : List Int) (A2 : Option Addr) (c2 : Nat) (bs : List Int) (wide : Int) (fr : Nat) (w W : World) : Prop :=
 W.heap[B]? = some (.cells #[.pointer (some ⟨gb, 0, none⟩)] 81 (0, 0)) ∧ W.heap[B + 1]? = some (.cells #[.int .i64 fr] 3 (0, 0)) ∧ W.heap[B + 1 + 1]? = some (.cells #[.int .i64 0] 3 (0, 0)) ∧ FlO 69 gb A0 c0 rs A1 c1 ws A2 c2 bs wide W ∧ Below B w W
theorem GnO.below {B gb : Nat} {A0 : Option Addr} {c0 : Nat} {rs : List Int} {A1 : Option Addr} {c1 : Nat} {ws : List Int} {A2 : Option Addr} {c2 : Nat} {bs : List Int} {wide : Int} {fr : Nat} {w W W' : World} (h : GnO B gb A0 c0 rs A1 c1 ws A2 c2 bs wide fr w W) (hB : B ≤ W.heap.size) (hb : Below W.heap.size W W') : GnO B gb A0 c0 rs A1 c1 ws A2 c2 bs wide fr w W' :=
 ⟨blk_below h.1 hb, blk_below h.2.1 hb, blk_below h.2.2.1 hb, h.2.2.2.1.below hb, below_then h.2.2.2.2 hB hb⟩
def GrO (B gb : Nat) (A0 : Option Addr) (c0 : Nat) (rs : List Int) (A1 : Option Addr) (c1 : Nat) (ws : List Int) (A2 : Option Addr) (c2 : Nat) (bs : List Int) (wide : Int) (fr : Nat) (w wo W : World) : Prop := GnO B gb A0 c0 rs A1 c1 ws A2 c2 bs wide fr w W ∧ Below wo.heap.size wo W ∧ B ≤ W.heap.size
abbrev GrI (B gb : Nat) (A0 : Option Addr) (c0 : Nat) (rs : List Int) (A1 : Option Addr) (c1 : Nat) (ws : List Int) (A2 : Option Addr) (c2 : Nat) (bs : List Int) (wide : Int) (fr : Nat) (w wo W : World) : Prop := W.cell? ⟨B, 0, none⟩ = some (.pointer (some ⟨gb, 0, none⟩)) ∧ W.cell? ⟨gb, 0, none⟩ = some (.slice A0 rs.length c0) ∧ Aside0 (GrO B gb A0 c0 rs A1 c1 ws A2 c2 bs wide fr w wo W)
theorem GrI.of {B gb : Nat} {A0 : Option Addr} {c0 : Nat} {rs : List Int} {A1 : Option Addr} {c1 : Nat} {ws : List Int} {A2 : Option Addr} {c2 : Nat} {bs : List Int} {wide : Int} {fr : Nat} {w wo W : World} (h : GrO B gb A0 c0 rs A1 c1 ws A2 c2 bs wide fr w wo W) : GrI B gb A0 c0 rs A1 c1 ws A2 c2 bs wide fr w wo W := ⟨(blk_cell h.1.1 0).trans rfl, (blk_cell h.1.2.2.2.1.1 0).trans rfl, ⟨h⟩⟩
theorem GrI.via {B gb : Nat} {A0 : Option Addr} {c0 : Nat} {rs : List Int} {A1 : Option Addr} {c1 : Nat} {ws : List Int} {A2 : Option Addr} {c2 : Nat} {bs : List Int} {wide : Int} {fr : Nat} {w wo W W' : World} (h : GrI B gb A0 c0 rs A1 c1 ws A2 c2 bs wide fr w wo W) (hb : Below W.heap.size W W') : GrI B gb A0 c0 rs A1 c1 ws A2 c2 bs wide fr w wo W' := GrI.of ⟨h.2.2.out.1.below h.2.2.out.2.2 hb, below_then h.2.2.out.2.1 h.2.2.out.2.1.size hb, Nat.le_trans h.2.2.out.2.2 hb.size⟩
theorem GrI.drew {B gb : Nat} {A0 : Option Addr} {c0 : Nat} {rs : List Int} {A1 : Option Addr} {c1 : Nat} {ws : List Int} {A2 : Option Addr} {c2 : Nat} {bs : List Int} {wide : Int} {fr : Nat} {w wo W : World} (h : GrI B gb A0 c0 rs A1 c1 ws A2 c2 bs wide fr w wo W) : GrI B gb A0 c0 rs A1 c1 ws A2 c2 bs wide fr w wo W.drew := h.via (below_drew (Below.refl _ _))
theorem GrI.alloc {B gb : Nat} {A0 : Option Addr} {c0 : Nat} {rs : List Int} {A1 : Option Addr} {c1 : Nat} {ws : List Int} {A2 : Option Addr} {c2 : Nat} {bs : List Int} {wide : Int} {fr : Nat} {w wo W : World} (h : GrI B gb A0 c0 rs A1 c1 ws A2 c2 bs wide fr w wo W) (o : Obj) : GrI B gb A0 c0 rs A1 c1 ws A2 c2 bs wide fr w wo (W.alloc o) := h.via (below_alloc (Below.refl _ _) _)
section
open Go.RowKit Go.Shelf
attribute [local go_sem] Oper.semAt_some
theorem nextG_calls (k : Nat) (gb : Nat) (A0 : Option Addr) (c0 : Nat) (rs : List Int) (A1 : Option Addr) (c1 : Nat) (ws : List Int) (A2 : Option Addr) (c2 : Nat) (bs : List Int) (wide : Int) (W : Nat → Nat → Int) (ss : List Int) (fr m : Nat) (x t : Int) (w : World) (hf : FlO 69 gb A0 c0 rs A1 c1 ws A2 c2 bs wide w) (hfr : fr < rs.length) (hn : rs.length ≤ 1000) (hbl : bs.length = rs.length) (hW : ∀ j : Nat, fr ≤ j → j ≤ rs.length → impl_lineWide.f k rs ws (fr : Int) (j : Int) = some (W fr j)) (hx : slices_Index_int_int.f k (bs.drop fr) 2 = some x) (hm : (fr : Int) + x + 1 = (m : Int)) (hmf : fr < m) (hmn : m ≤ rs.length) (hs : impl_starts.f k rs = some ss) (hsl : ss.length ≤ 999) (hss : ∀ t, t ∈ ss → 0 ≤ t ∧ t ≤ (rs.length : Int)) (ht : nextI bs (fitV W wide) (ss ++ [(rs.length : Int)]) fr m = some t) :
  Calls Tryz.prog 163 #[.agg #[.pointer (some ⟨gb, 0, none⟩)], .int .i64 fr] w fun e w' => e = .returned (.int .i64 t) ∧ Below w.heap.size w w' := by
 obtain ⟨W3, hW3⟩ : ∃ W3, ((w.alloc (.cells #[.pointer (some ⟨gb, 0, none⟩)] 81)).alloc (.cells #[.int .i64 fr] 3)).alloc (.cells #[.int .i64 0] 3) = W3 := ⟨_, rfl⟩
 have hB3 : Below w.heap.size w W3 := by rw [← hW3]; exact below_alloc (below_alloc (below_alloc (Below.refl _ _) _) _) _
 have hz3 : W3.heap.size = w.heap.size + 3 := by rw [← hW3]; simp
 have h1 : W3.heap[w.heap.size]? = some (.cells #[.pointer (some ⟨gb, 0, none⟩)] 81 (0, 0)) := by rw [← hW3]; exact blk_alloc (blk_alloc (blk_new w _) _) _
 have h2 : W3.heap[w.heap.size + 1]? = some (.cells #[.int .i64 fr] 3 (0, 0)) := by
  rw [← hW3]
  have h := blk_new (w.alloc (.cells #[.pointer (some ⟨gb, 0, none⟩)] 81)) (.cells #[.int .i64 fr] 3)
  rw [show (w.alloc (.cells #[.pointer (some ⟨gb, 0, none⟩)] 81)).heap.size = w.heap.size + 1 by simp] at h
  exact blk_alloc h _
 have h3 : W3.heap[w.heap.size + 1 + 1]? = some (.cells #[.int .i64 0] 3 (0, 0)) := by
  rw [← hW3]
  have h := blk_new ((w.alloc (.cells #[.pointer (some ⟨gb, 0, none⟩)] 81)).alloc (.cells #[.int .i64 fr] 3)) (.cells #[.int .i64 0] 3)
  rwa [show ((w.alloc (.cells #[.pointer (some ⟨gb, 0, none⟩)] 81)).alloc (.cells #[.int .i64 fr] 3)).heap.size = w.heap.size + 1 + 1 by simp] at h
 have HG := az (show GnO w.heap.size gb A0 c0 rs A1 c1 ws A2 c2 bs wide fr w W3 from ⟨h1, h2, h3, hf.below hB3, hB3⟩)
 have q1 := (blk_cell h1 0).trans (show _ = some (Value.pointer (some ⟨gb, 0, none⟩)) from rfl)
 have q2 := (blk_cell h2 0).trans (show _ = some (Value.int .i64 fr) from rfl)
 clear hf hB3 h1 h2 h3
 have HW := az hW
 have HX := az hx
 have HM := az hm
 have HS := az hs
 have HT := az ht
 have HSS := az hss
 clear hW hx hm hs ht hss
 refine callsIn_wide.1 (callsIn_of_wp_marks (F := Fence.wide) (n := 8) Tryz.func163 rfl trivial ?_)
 simp only [Tryz.ntmps163, List.size_toArray, List.length_cons, List.length_nil, Nat.reduceAdd, Nat.reduceSub, Array.replicate_succ, Array.replicate_zero, List.push_toArray, List.append_toArray, List.nil_append, List.cons_append]
 refine (wpIn_wide (n := 8)).2 ?_
 let BP := bodyPost Tryz.prog Tryz.f163
 go_upto_region 1 with fail
 clear hW3
 have HSZ := az (show w.heap.size ≤ W3.heap.size by omega)
 have HL := az (show fr ≤ bs.length ∧ bs.length ≤ 1000 ∧ -1 ≤ x ∧ x ≤ 1000 from (zG HM.out))
 clear hz3
 go_upto_region 2 with (go_at_call 52; go_must (refine (mustI_calls k gb A0 c0 rs A1 c1 ws A2 c2 bs wide fr x _ HG.out.2.2.2.1 HL.out.1 HL.out.2.1 HX.out HL.out.2.2.1 HL.out.2.2.2).mono ?_); rw [HM.out]; rintro e w4 ⟨rfl, hd4⟩; have HG4 := az (HG.out.below HSZ.out hd4.below); have HZ4 := az (Nat.le_trans HSZ.out hd4.below.size); clear hd4)
 clear q1 q2
 have HMC := az (blk_new w4 (.cells #[.int .i64 m] 3))
 have HG5 := az (HG4.out.below HZ4.out (below_alloc (Below.refl w4.heap.size w4) (.cells #[.int .i64 m] 3)))
 obtain ⟨M, hM⟩ : ∃ M, w4.heap.size = M := ⟨_, rfl⟩
 have HZ5 := az (show w.heap.size ≤ (w4.alloc (.cells #[.int .i64 m] 3)).heap.size by simp; have := HZ4.out; omega)
 rw [hM] at HMC ⊢
 clear HG4 HZ4 hM
 generalize w4.alloc (.cells #[.int .i64 m] 3) = w5 at HMC HG5 HZ5 ⊢
 have qm := (blk_cell HMC.out 0).trans (show _ = some (Value.int .i64 m) from rfl)
 go_wp2
 go_loopg [6] rs.length (fun gg s6 wr => ∃ g : Nat, s6 = .int .i64 ((fr + g : Nat) : Int) ∧ fr + g ≤ m ∧ g ≤ gg ∧ Aside0 (downN bs (fitV W wide) fr g = downN bs (fitV W wide) fr (m - fr)) ∧ Aside0 (GnO w.heap.size gb A0 c0 rs A1 c1 ws A2 c2 bs wide fr w wr) ∧ Aside0 (wr.heap[M]? = some (.cells #[.int .i64 m] 3 (0, 0))) ∧ Aside0 (w.heap.size ≤ wr.heap.size))
 case atStart => exact ⟨m - fr, by rw [show fr + (m - fr) = m by omega], by omega, by omega, ⟨rfl⟩, HG5, HMC, HZ5⟩
 case round =>
  clear HMC HG5 HZ5
  obtain ⟨g, rfl, hgm, hgg, HF, HQ, HMC, HZ⟩ := hrel
  have q1 := (blk_cell HQ.out.1 0).trans (show _ = some (Value.pointer (some ⟨gb, 0, none⟩)) from rfl)
  have q2 := (blk_cell HQ.out.2.1 0).trans (show _ = some (Value.int .i64 fr) from rfl)
  have q3 := (blk_cell HQ.out.2.2.1 0).trans (show _ = some (Value.int .i64 0) from rfl)
  have q4 := blk_frozen HQ.out.2.2.1 0
  have q5 := (blk_cell HQ.out.2.2.2.1.1 2).trans (show _ = some (Value.slice A2 bs.length c2) from rfl)
  have qm := (blk_cell HMC.out 0).trans (show _ = some (Value.int .i64 m) from rfl)
  cases g with
  | zero =>
   have HDN : Aside0 (downN bs (fitV W wide) fr (m - fr) = none) := ⟨by rw [← HF.out, downN]⟩
   have hez : ¬ (fr : Int) < ((fr + 0 : Nat) : Int) := by omega
   have qr := (blk_cell HQ.out.2.2.2.1.1 0).trans (show _ = some (Value.slice A0 rs.length c0) from rfl)
   clear HF hgm hgg q3 q4 q5
   obtain ⟨wo, hwo⟩ : ∃ wo, wo = wr := ⟨_, rfl⟩
   subst hwo
   go_upto_region 7 with fail
   obtain ⟨zs, hzs⟩ : ∃ zs : List Int, ss ++ [(rs.length : Int)] = zs := ⟨_, rfl⟩
   have HZS := az hzs
   have HZL : Aside0 (zs.length ≤ 1000) := ⟨by rw [← hzs, List.length_append]; simp; omega⟩
   clear hzs
   go_cut [7] (fun v7 wc => ∃ (A : Option Addr) (c : Nat), v7 = .slice A zs.length c ∧ Aside0 (Kd.R (Kd.int .i64) 3 wc wo.heap.size (fun _ => True) (.slice A zs.length c) zs) ∧ Aside0 (Below wo.heap.size wo wc))
   case first =>
    have hS : GrI w.heap.size gb A0 c0 rs A1 c1 ws A2 c2 bs wide fr w wo wo := GrI.of ⟨HQ.out, Below.refl _ _, HZ.out⟩
    unfold GrI at hS
    have HRC := az HQ.out.2.2.2.1.2.1
    have HCC := az HQ.out.2.2.2.1.2.2.1
    go_region_held3 (fun W' => W'.cell? ⟨w.heap.size, 0, none⟩ = some (.pointer (some ⟨gb, 0, none⟩)) ∧ W'.cell? ⟨gb, 0, none⟩ = some (.slice A0 rs.length c0) ∧ Aside0 (GrO w.heap.size gb A0 c0 rs A1 c1 ws A2 c2 bs wide fr w wo W')) (first | (with_reducible assumption) | (with_reducible exact GrI.via zI zI) | (with_reducible exact GrI.drew zI) | (with_reducible exact GrI.drew (GrI.alloc zI _)) | (with_reducible exact GrI.alloc zI _)) (first
     | (go_at_call 85; refine (impl_starts.calls k A0 c0 rs ss _ ?s1 ?s2 HS.out).mono ?_; (case s1 => exact (show GrI w.heap.size gb A0 c0 rs A1 c1 ws A2 c2 bs wide fr w wo _ from zI).2.2.out.1.2.2.2.1.2.1); (case s2 => exact HCC.out); rintro e w6 ⟨v6, rfl, ho6, p⟩; obtain ⟨A6, c6, e6⟩ := Kd.R_slice ho6; subst e6; have HO6L : Aside0 (Kd.R (Kd.int .i64) 3 w6 wo.heap.size (fun _ => True) (.slice A6 ss.length c6) ss) := ⟨Kd.R_lower ho6 (by simp)⟩; clear ho6)
     | (refine Kd.R_append_rows_step (Kd.int .i64) (w0 := wo) wo.heap.size (by rfl) (.tmp 43) (.tmp 50) 22 3 (.int .i64 0) 8 rfl Tryz.underlying22 info3 rfl (by decide) (by omega) (.slice A6 ss.length c6) ss [(rs.length : Int)] _ _ _ (fun _ => True) (fun _ => False) rfl rfl ?aO ?aR (fun _ _ h => h) (fun _ h => h.elim) (fun _ _ => trivial) ?aB ?aS ?aL ?_; (case aO => (with_reducible repeat (first | apply Kd.R_alloc | apply Kd.R_drewN | apply Kd.R_drew)); exact HO6L.out); (case aR => first | exact litC [(rs.length : Int)] #[.int .i64 rs.length] rfl | exact Kd.C_drew (litC [(rs.length : Int)] #[.int .i64 rs.length] rfl) | exact Kd.C_below (Kd.C_drew (litC [(rs.length : Int)] #[.int .i64 rs.length] rfl)) zI | exact Kd.C_below (litC [(rs.length : Int)] #[.int .i64 rs.length] rfl) zI | exact Kd.C_drew (Kd.C_below (litC [(rs.length : Int)] #[.int .i64 rs.length] rfl) zI)); (case aB => exact (show GrI w.heap.size gb A0 c0 rs A1 c1 ws A2 c2 bs wide fr w wo _ from zI).2.2.out.2.1); (case aS => exact (show GrI w.heap.size gb A0 c0 rs A1 c1 ws A2 c2 bs wide fr w wo _ from zI).2.2.out.2.1.size); (case aL => omega); intro v1 w1 ho_ hb_ hg_ hat_; have HO1 := az ho_; have hS1 : GrI w.heap.size gb A0 c0 rs A1 c1 ws A2 c2 bs wide fr w wo w1 := GrI.of ⟨HQ.out.below HZ.out hb_, hb_, Nat.le_trans HZ.out hb_.size⟩; clear ho_ hb_ hg_ hat_))
    all_goals
     go_wp2
     go_meet
     rw [HZS.out] at HO1
     obtain ⟨A9, c9, e9⟩ := Kd.R_slice HO1.out
     subst e9
     exact ⟨A9, c9, rfl, HO1, ⟨hS1.2.2.out.2.1⟩⟩
   case rest =>
    clear q1 q2 qm qr
    obtain ⟨A, c, rfl, HO, HBC⟩ := hcut
    obtain ⟨g1, cap1, he1, hg1b, hg1l, _⟩ := Kd.R_form HO.out (by rw [← HZS.out]; simp)
    injection he1 with e1 e2 e3
    subst e1
    subst e3
    clear hg1b
    have HQC := az (HQ.out.below HZ.out HBC.out)
    have HMC2 := az (blk_below HMC.out HBC.out)
    have HZ2 := az (Nat.le_trans HZ.out HBC.out.size)
    have HG1 := az hg1l
    clear hg1l
    go_wp2_with (go_at_call 164; go_must (refine (backward_calls _ _ _ _).mono ?_); rintro e w' ⟨rfl, rfl⟩)
    obtain ⟨W1, hW1⟩ : ∃ W1, wc.alloc (.cells #[.slice (some ⟨g1, 0, none⟩) zs.length c] 22) = W1 := ⟨_, rfl⟩
    have hB1 : Below wc.heap.size wc W1 := by rw [← hW1]; exact below_alloc (Below.refl _ _) _
    have hz1 : W1.heap.size = wc.heap.size + 1 := by rw [← hW1]; simp
    have hcell1 : W1.cell? ⟨wc.heap.size, 0, none⟩ = some (.slice (some ⟨g1, 0, none⟩) zs.length c) := by rw [← hW1]; exact (blk_cell (blk_new wc _) 0).trans rfl
    have HO1 := az (Kd.R_below HO.out hB1)
    have HQ1 := az (HQC.out.below HZ2.out hB1)
    have HMC3 := az (blk_below HMC2.out hB1)
    have HZ1 := az (Nat.le_trans HZ2.out hB1.size)
    have hgW : g1 < W1.heap.size := by have := HG1.out; omega
    have hcW : wc.heap.size < W1.heap.size := by omega
    rw [hW1]
    clear hW1 hB1 hz1 HQC HMC2 HMC HO HQ HG HSZ e2
    obtain ⟨q, hq⟩ : ∃ q : Int → Bool, (fun t => decide ((fr : Int) < t) && decide (t ≤ (m : Int)) && fitV W wide fr t.toNat) = q := ⟨_, rfl⟩
    have HQQ := az hq
    clear hq
    refine (wpIn_wide (n := 8)).1 ?_
    refine wpIn_rangeFunc_ownF rfl (by decide) (gf := 166) (lb := #[.pointer (some ⟨wc.heap.size, 0, none⟩)]) rfl trivial (enters_of Tryz.func166 (by kernel_rfl) rfl)
     (back_stops 7 (by decide) wc.heap.size W1.heap.size g1 0 c zs HZL.out W1 hcW hgW (Nat.le_refl _) hcell1 ?cells) belowK_t (belowK_b (Nat.le_refl _)) (Below.refl _ _) (fun _ => rfl)
     (fun pre V => (∀ p ∈ pre, q p.2 = false) ∧ Below W1.heap.size W1 V)
     (fun cd pre V => (cd = .ret ∧ ∃ ini last, pre = ini ++ [last] ∧ (∀ p ∈ ini, q p.2 = false) ∧ q last.2 = true ∧ V.cell? ⟨w.heap.size + 1 + 1, 0, none⟩ = some (.int .i64 last.2)) ∧ Below w.heap.size w V)
     (OwnFrom.and (ownFrom_pure _ _) (ownFrom_below (Nat.le_refl _) (Nat.le_refl _)))
     (fun cd => OwnFrom.and (Own.from (fun s A B row hs hg hr => by obtain ⟨hc, ini, last, e1, e2, e3, e4⟩ := hs; exact ⟨hc, ini, last, e1, e2, e3, cell_kept e4 hg hr⟩) _) (ownFrom_below (Nat.le_refl _) HZ1.out))
     ⟨by simp, Below.refl _ _⟩ ?a1 ?assign ?body ?done ?stop
    case cells =>
     intro j hj
     have h := (Kd.R_celln (0 : Int) HO1.out (j : Int) (by omega) (by omega)).1
     simpa [rdOf] using h
    case assign =>
     intro l x V K hK
     gi_wp2
     exact hK
    case body =>
     rintro l pre ⟨x1, x2⟩ V ⟨hp, hB⟩ _
     have HP := az hp
     have HBV := az hB
     have HQV := az (HQ1.out.below HZ1.out hB)
     have HMV := az (blk_below HMC3.out hB)
     have HZV := az (Nat.le_trans HZ1.out hB.size)
     have q1 := (blk_cell HQV.out.1 0).trans (show _ = some (Value.pointer (some ⟨gb, 0, none⟩)) from rfl)
     have q2 := (blk_cell HQV.out.2.1 0).trans (show _ = some (Value.int .i64 fr) from rfl)
     have qm := (blk_cell HMV.out 0).trans (show _ = some (Value.int .i64 m) from rfl)
     clear hp hB hcell1 hgW hcW hez hfr hmf
     by_cases hx1 : (fr : Int) < x2
     case neg =>
      have HN : Aside0 (q x2 = false) := ⟨by rw [← HQQ.out]; simp only [decide_eq_false hx1, Bool.false_and]⟩
      have d1 : ¬ (fr : Int) < x2 := hx1
      gi_wp2
      refine ⟨trivial, ?_⟩
      gi_wp2
      exact ⟨KeepsOthers.refl _, Below.refl _ _, fun p hp => (List.mem_append.1 hp).elim (HP.out p) (fun e => by rw [List.mem_singleton.1 e]; exact HN.out), HBV.out⟩
     case pos =>
      by_cases hx2 : x2 ≤ (m : Int)
      case neg =>
       have HN : Aside0 (q x2 = false) := ⟨by rw [← HQQ.out]; simp only [decide_eq_false hx2, Bool.false_and, Bool.and_false]⟩
       gi_wp2
       refine ⟨trivial, ?_⟩
       gi_wp2
       exact ⟨KeepsOthers.refl _, Below.refl _ _, fun p hp => (List.mem_append.1 hp).elim (HP.out p) (fun e => by rw [List.mem_singleton.1 e]; exact HN.out), HBV.out⟩
      case pos =>
       obtain ⟨e, rfl⟩ : ∃ e : Nat, x2 = (e : Int) := ⟨x2.toNat, by omega⟩
       have HE := az (show fr ≤ e ∧ e ≤ rs.length by omega)
       have HN : Aside0 (q (e : Int) = fitV W wide fr e) := ⟨by rw [← HQQ.out]; simp only [decide_eq_true hx1, decide_eq_true hx2, Bool.true_and, Int.toNat_natCast]⟩
       cases hfi : fitV W wide fr e
       case false =>
        have HFI := az hfi
        clear hfi
        gi_wp2_with (refine ⟨trivial, ?_⟩; gi_at_call 53; refine (CallsIn.inRound l (callsIn_wide.2 (fitsI_calls k gb A0 c0 rs A1 c1 ws A2 c2 bs wide (fr : Int) (e : Int) (W fr e) _ HQV.out.2.2.2.1 (HW.out e HE.out.1 HE.out.2)))).mono ?_; rw [show decide (W fr e ≤ wide) = false from HFI.out]; rintro e1 w2 ⟨rfl, hb2⟩; have HB2 := az hb2; clear hb2)
        exact ⟨KeepsOthers.of_grownBy (grown_of_below HB2.out none) (fun _ _ h => by cases h), HB2.out.mono HBV.out.size, fun p hp => (List.mem_append.1 hp).elim (HP.out p) (fun e => by rw [List.mem_singleton.1 e]; exact HN.out.trans HFI.out), below_then HBV.out HBV.out.size HB2.out⟩
       case true =>
        have HFI := az hfi
        clear hfi
        gi_wp2_with (refine ⟨trivial, ?_⟩; gi_at_call 53; refine (CallsIn.inRound l (callsIn_wide.2 (fitsI_calls k gb A0 c0 rs A1 c1 ws A2 c2 bs wide (fr : Int) (e : Int) (W fr e) _ HQV.out.2.2.2.1 (HW.out e HE.out.1 HE.out.2)))).mono ?_; rw [show decide (W fr e ≤ wide) = true from HFI.out]; rintro e1 w2 ⟨rfl, hb2⟩; have HB2 := az hb2; have HQ2 := az (HQV.out.below HZV.out hb2); have q3 := (blk_cell HQ2.out.2.2.1 0).trans (show _ = some (Value.int .i64 0) from rfl); have q4 := blk_frozen HQ2.out.2.2.1 0; clear hb2)
        exact ⟨(KeepsOthers.of_grownBy (grown_of_below HB2.out none) (fun _ _ h => by cases h)).trans (KeepsOthers.setCell _ _ _), ⟨rfl, pre, (x1, (e : Int)), rfl, HP.out, HN.out.trans HFI.out, (blk_cell (blk_set HQ2.out.2.2.1 0 (.int .i64 e)) 0).trans rfl⟩, HQ2.out.2.2.2.2.setCell (p := ⟨w.heap.size + 1 + 1, 0, none⟩) (Nat.le_trans (Nat.le_succ _) (Nat.le_succ _)) _⟩
    case done =>
     rintro D ys V hD rfl ⟨hp, hB⟩ hK
     have HTT : ∃ j : Nat, idxI (fun t => decide ((fr : Int) < t)) zs = j ∧ j < zs.length ∧ zs.getD j 0 = t := by
      have h := HT.out
      unfold nextI backN at h
      rw [HDN.out, HZS.out, HQQ.out, back_none zs hp] at h
      exact idx_find h
     obtain ⟨j, hj1, hj2, hj3⟩ := HTT
     have HDD := az hD
     have HKK := az hK
     have HQV := az (HQ1.out.below HZ1.out hB)
     have HOV := az (Kd.R_below HO1.out hB)
     have HZV := az (Nat.le_trans HZ1.out hB.size)
     have HJ1 := az hj1
     have HJ3 := az hj3
     clear hp hD hB hK hj1 hj3 hcell1
     have q3 := (blk_cell HQV.out.2.2.1 0).trans (show _ = some (Value.int .i64 0) from rfl)
     have q4 := blk_frozen HQV.out.2.2.1 0
     have hj2z : (j : Int) < (zs.length : Int) := by omega
     go_wp2_with (go_at_call 88; go_must (refine (idxI_calls (fun t => decide ((fr : Int) < t)) 165 #[.pointer (some ⟨w.heap.size + 1, 0, none⟩)] (enters_of Tryz.func165 (by kernel_rfl) rfl) (some ⟨g1, 0, none⟩) c zs _ (Kd.R_reads' HOV.out).2.2 (zG HZL.out) (fun W3 hb3 j3 _ => (nextG_1_calls (w.heap.size + 1) (fr : Int) _ W3 ((blk_cell (blk_below HQV.out.2.1 hb3) 0).trans rfl)).mono (fun e w' h => ⟨h.1, below_then hb3 hb3.size h.2⟩))).mono ?_); rw [HJ1.out]; rintro e1 w9 ⟨rfl, hb9⟩; have HQ9 := az (HQV.out.below HZV.out hb9); have HK9 := az (blk_below HKK.out hb9); have q3 := (blk_cell HQ9.out.2.2.1 0).trans (show _ = some (Value.int .i64 0) from rfl); have q4 := blk_frozen HQ9.out.2.2.1 0; have hx9 := (Kd.R_celln (0 : Int) (Kd.R_below HOV.out hb9) (j : Int) (by omega) hj2z).1; rw [show rdOf (0 : Int) zs (j : Int) = t from by rw [← HJ3.out]; simp [rdOf], Int.toNat_natCast] at hx9; clear hb9)
     have hK' := (KeepsOthers.setCell w9 ⟨w.heap.size + 1 + 1, 0, none⟩ (.int .i64 t)).same D _ HK9.out rfl
     refine ⟨by simp, .inl ⟨_, _, rfl, run_takeDeferred hK', ?_⟩⟩
     refine ⟨_, results_cell_int rfl _ _ (w.heap.size + 1 + 1) t rfl ?_ Tryz.underlying3, rfl, ?_⟩
     · exact cell_kept ((blk_cell (blk_set HQ9.out.2.2.1 0 (.int .i64 t)) 0).trans rfl) (grownBy_putObj' _ D (.deferred none)) (fun r e => by cases e; exact ⟨_, hK', rfl⟩)
     · exact (HQ9.out.2.2.2.2.setCell (p := ⟨w.heap.size + 1 + 1, 0, none⟩) (Nat.le_trans (Nat.le_succ _) (Nat.le_succ _)) _).trans (belowK_b (w := w) (Nat.le_refl _) _ D _ _ (Nat.le_trans HZ1.out HDD.out) hK' rfl rfl)
    case stop =>
     rintro D cd pre V hD ⟨k2, hk2, rfl⟩ ⟨⟨rfl, ini, last, e1, e2, e3, hcr⟩, hB⟩ hK
     have HTT : last.2 = t := by
      have h := HT.out
      unfold nextI backN at h
      rw [HDN.out, HZS.out, HQQ.out, back_some zs k2 hk2 ini last e1 e2 e3] at h
      exact Option.some.inj h
     rw [HTT] at hcr
     have HDD := az hD
     have HBB := az hB
     have HKK := az hK
     have HCR := az hcr
     clear e1 e2 e3 HTT hD hB hK hcr hcell1
     gi_wp2
     refine ⟨by simp, .inl ⟨_, _, rfl, run_takeDeferred HKK.out, ?_⟩⟩
     refine ⟨_, results_cell_int rfl _ _ (w.heap.size + 1 + 1) t rfl ?_ Tryz.underlying3, rfl, ?_⟩
     · exact cell_kept HCR.out (grownBy_putObj' _ D (.deferred none)) (fun r e => by cases e; exact ⟨_, HKK.out, rfl⟩)
     · exact HBB.out.trans (belowK_b (w := w) (Nat.le_refl _) V D _ _ (Nat.le_trans HZ1.out HDD.out) HKK.out rfl rfl)
  | succ g =>
   have hq := HF.out
   rw [downN] at hq
   obtain ⟨e, he⟩ : ∃ e : Nat, fr + g + 1 = e := ⟨_, rfl⟩
   rw [show fr + (g + 1) = e by omega]
   rw [he] at hq
   have hez : (fr : Int) < (e : Int) := by omega
   obtain ⟨n1, hn1⟩ : ∃ n1 : Nat, fr + g = n1 := ⟨_, rfl⟩
   rw [hn1] at hq
   have h0 : (0 : Int) ≤ (n1 : Int) := by omega
   have h1 : (n1 : Int) < (bs.length : Int) := by omega
   have hw1 : wrap64 ((e : Int) - 1) = (n1 : Int) := by unfold wrap64; omega
   have hw2 : IntKind.i64.wrap ((e : Int) - 1) = (n1 : Int) := by rw [i64_w]; exact hw1
   obtain ⟨ad5, hA5, hx5⟩ := Kd.at_int HQ.out.2.2.2.1.2.2.2.2.2.1 (n1 : Int) h0 h1
   have hxx : rd bs (n1 : Int) = bs.getD n1 0 := by simp [rd]
   rw [hxx, Int.toNat_natCast] at hx5
   obtain ⟨y, hy⟩ : ∃ y, bs.getD n1 0 = y := ⟨_, rfl⟩
   rw [hy] at hx5 hq
   subst hA5
   have HLE := az (show fr ≤ e ∧ e ≤ rs.length by omega)
   have HE := az (show e = fr + g + 1 ∧ n1 = fr + g by omega)
   have HGM := az hgm
   have HGG := az hgg
   clear hxx hy he hn1 HF hgm hgg
   by_cases hy0 : y = 0
   ·
    rw [if_neg (show ¬ (¬ y = 0 ∧ fitV W wide fr e = true) from fun h => h.1 hy0)] at hq
    have b0 : (y != 0) = false := bne_eq_false_iff_eq.mpr hy0
    have HQQ := az hq
    clear hq hy0
    go_wp2
    go_roundg g
    case measure => have := HGG.out; omega
    case rel => exact ⟨g, by have := HE.out.2; first | (rw [← this]; done) | (congr 1; omega), zG HGM.out, Nat.le_refl _, HQQ, HQ, HMC, HZ⟩
   ·
    have b0 : (y != 0) = true := bne_iff_ne.mpr hy0
    cases hfi : fitV W wide fr e
    case false =>
     rw [if_neg (show ¬ (¬ y = 0 ∧ fitV W wide fr e = true) from fun h => by rw [hfi] at h; exact absurd h.2 (by decide))] at hq
     have HFI := az hfi
     have HQQ := az hq
     clear hq hy0 hfi q3 q4
     go_wp2_with (go_at_call 53; go_must (refine (fitsI_calls k gb A0 c0 rs A1 c1 ws (some ad5) c2 bs wide (fr : Int) (e : Int) (W fr e) _ HQ.out.2.2.2.1 (HW.out e HLE.out.1 HLE.out.2)).mono ?_); rw [show decide (W fr e ≤ wide) = false from HFI.out]; rintro e1 w2 ⟨rfl, hb2⟩; have HQ2 := az (HQ.out.below HZ.out hb2); have HMC2 := az (blk_below HMC.out hb2); have HZ2 := az (Nat.le_trans HZ.out hb2.size); have q3 := (blk_cell HQ2.out.2.2.1 0).trans (show _ = some (Value.int .i64 0) from rfl); have q4 := blk_frozen HQ2.out.2.2.1 0; clear hb2)
     go_roundg g
     case measure => have := HGG.out; omega
     case rel => exact ⟨g, by have := HE.out.2; first | (rw [← this]; done) | (congr 1; omega), zG HGM.out, Nat.le_refl _, HQQ, HQ2, HMC2, HZ2⟩
    case true =>
     rw [if_pos ⟨hy0, hfi⟩] at hq
     have HTE : Aside0 ((e : Int) = t) := ⟨by have h := HT.out; unfold nextI at h; rw [← hq] at h; exact Option.some.inj h⟩
     have HFI := az hfi
     clear hq hy0 hfi q3 q4
     go_wp2_with (go_at_call 53; go_must (refine (fitsI_calls k gb A0 c0 rs A1 c1 ws (some ad5) c2 bs wide (fr : Int) (e : Int) (W fr e) _ HQ.out.2.2.2.1 (HW.out e HLE.out.1 HLE.out.2)).mono ?_); rw [show decide (W fr e ≤ wide) = true from HFI.out]; rintro e1 w2 ⟨rfl, hb2⟩; have HQ2 := az (HQ.out.below HZ.out hb2); have HMC2 := az (blk_below HMC.out hb2); have HZ2 := az (Nat.le_trans HZ.out hb2.size); have q3 := (blk_cell HQ2.out.2.2.1 0).trans (show _ = some (Value.int .i64 0) from rfl); have q4 := blk_frozen HQ2.out.2.2.1 0; clear hb2)
     refine bodyPostM_ret (results_cell_int rfl _ _ (w.heap.size + 1 + 1) t rfl ?_ Tryz.underlying3) rfl ?_
     ·
      rw [← HTE.out]
      exact (blk_cell (blk_set HQ2.out.2.2.1 0 (.int .i64 e)) 0).trans rfl
     · exact ⟨rfl, HQ2.out.2.2.2.2.setCell (p := ⟨w.heap.size + 1 + 1, 0, none⟩) (Nat.le_trans (Nat.le_succ _) (Nat.le_succ _)) _⟩
end
theorem endsG_calls (k : Nat) (gb : Nat) (A0 : Option Addr) (c0 : Nat) (rs : List Int) (A1 : Option Addr) (c1 : Nat) (ws : List Int) (A2 : Option Addr) (c2 : Nat) (bs : List Int) (wide : Int) (W : Nat → Nat → Int) (M : Nat → Nat) (N : Nat → Int) (ss r : List Int) (w : World) (hf : FlO 69 gb A0 c0 rs A1 c1 ws A2 c2 bs wide w) (hn : rs.length ≤ 1000) (hbl : bs.length = rs.length) (hW : ∀ i j : Nat, i ≤ j → j ≤ rs.length → impl_lineWide.f k rs ws (i : Int) (j : Int) = some (W i j)) (hM : ∀ i : Nat, i < rs.length → ∃ x, slices_Index_int_int.f k (bs.drop i) 2 = some x ∧ (i : Int) + x + 1 = (M i : Int) ∧ i < M i ∧ M i ≤ rs.length) (hs : impl_starts.f k rs = some ss) (hsl : ss.length ≤ 999) (hss : ∀ t, t ∈ ss → 0 ≤ t ∧ t ≤ (rs.length : Int)) (hN : ∀ i : Nat, i < rs.length → nextI bs (fitV W wide) (ss ++ [(rs.length : Int)]) i (M i) = some (N i)) (hr : greedyN N rs.length rs.length 0 = some r) :
  Calls Tryz.prog 162 #[.agg #[.pointer (some ⟨gb, 0, none⟩)]] w fun e w' => ∃ v0_ : Value, e = .returned v0_ ∧ Kd.R (Kd.int .i64) 3 w' w.heap.size (fun _ => True) v0_ r ∧ Below w.heap.size w w' := by
 obtain ⟨W3, hW3⟩ : ∃ W3, w.alloc (.cells #[.pointer (some ⟨gb, 0, none⟩)] 81) = W3 := ⟨_, rfl⟩
 have HB3 : Aside0 (Below w.heap.size w W3) := ⟨by rw [← hW3]; exact below_alloc (Below.refl _ _) _⟩
 have HX3 : Aside0 (W3.heap[w.heap.size]? = some (.cells #[.pointer (some ⟨gb, 0, none⟩)] 81 (0, 0))) := ⟨by rw [← hW3]; exact blk_new w _⟩
 have HFL := az hf
 have HW := az hW
 have HM := az hM
 have HBL := az hbl
 have HN := az hn
 have HNX := az hN
 have HST := az hs
 have HSL := az hsl
 have HSS := az hss
 have HRR := az hr
 clear hf hW hM hbl hN hs hsl hss hr
 go_enter Tryz.func162, Tryz.ntmps162
 go_upto_region 1 with fail
 clear hW3
 go_wp2
 go_loopg [3, 4] rs.length (fun gg s3 s4 wr => ∃ (i g : Nat) (out : List Int), s4 = .int .i64 i ∧ i ≤ rs.length ∧ g ≤ gg ∧ Aside0 (∃ rest, greedyN N rs.length g i = some rest ∧ out ++ rest = r) ∧ Aside0 (out.length + g ≤ rs.length) ∧ Aside0 (Kd.R (Kd.int .i64) 3 wr w.heap.size (fun _ => True) s3 out) ∧ Aside0 (Below w.heap.size w wr) ∧ Aside0 (wr.heap[w.heap.size]? = some (.cells #[.pointer (some ⟨gb, 0, none⟩)] 81 (0, 0))) ∧ Aside0 (w.heap.size < wr.heap.size))
 case atStart => exact ⟨0, rs.length, [], rfl, Nat.zero_le _, Nat.le_refl _, ⟨_, HRR.out, rfl⟩, ⟨by simp⟩, ⟨Kd.R_nil _ _ _ _ _⟩, HB3, HX3, ⟨(Array.getElem?_eq_some_iff.1 HX3.out).1⟩⟩
 case round =>
  clear HRR HB3 HX3
  obtain ⟨i, g, out, rfl, hi, hg, HF, HLO, HO, HB, HBX, HSZ⟩ := hrel
  obtain ⟨rest, hq, hrest⟩ := HF.out
  have HQ := az (HFL.out.below HB.out)
  have q0 := (blk_cell HQ.out.1 0).trans (show _ = some (Value.slice A0 rs.length c0) from rfl)
  have qb := (blk_cell HBX.out 0).trans (show _ = some (Value.pointer (some ⟨gb, 0, none⟩)) from rfl)
  by_cases hlt : i < rs.length
  ·
   have hltz : (i : Int) < (rs.length : Int) := by omega
   have HLT := az hlt
   cases g with
   | zero => rw [greedyN, if_pos hlt] at hq; cases hq
   | succ g =>
   rw [greedyN, if_pos hlt] at hq
   by_cases hb : 0 ≤ N i ∧ N i ≤ (rs.length : Int)
   case neg => rw [if_neg hb] at hq; cases hq
   case pos =>
   rw [if_pos hb] at hq
   replace hq := Option.bind_eq_some_iff.mp hq
   obtain ⟨l, hl, hq⟩ := hq
   obtain rfl := Option.some.inj hq
   have hni := HNX.out i hlt
   obtain ⟨x, hx⟩ : ∃ x : Nat, N i = x := ⟨(N i).toNat, by omega⟩
   rw [hx, Int.toNat_natCast] at hl
   rw [hx] at hb hrest hni
   obtain ⟨y, hy1, hy2, hy3, hy4⟩ := HM.out i hlt
   have HNI := az hni
   have HY := az (And.intro hy1 (And.intro hy2 (And.intro hy3 hy4)))
   have HXB := az hb.2
   have HLL := az hl
   have HRE := az hrest
   have HGG := az hg
   clear hx hb hl hrest hlt HF hg hni hy1 hy2 hy3 hy4 hi
   go_wp2_with (first
    | (go_at_call 163; go_must (refine (nextG_calls k gb A0 c0 rs A1 c1 ws A2 c2 bs wide W ss i (M i) y (x : Int) _ HQ.out HLT.out HN.out HBL.out (fun j h1 h2 => HW.out i j h1 h2) HY.out.1 HY.out.2.1 HY.out.2.2.1 HY.out.2.2.2 HST.out HSL.out HSS.out HNI.out).mono ?_); rintro e w2 ⟨rfl, hb2⟩; have HO2 := az (Kd.R_below HO.out hb2); have HB2 := az (below_then HB.out HB.out.size hb2); have HBX2 := az (blk_below HBX.out hb2); clear hb2)
    | ((with_reducible refine gate_builtin (b := .append) (xs := #[.tmp 16, .tmp 18]) rfl ?_); at_builtin; go_must (refine appI (w0 := w) (base := w.heap.size) Tryz.underlying22 info3 rfl (.tmp 16) (.tmp 18) rfl _ out (x : Int) rfl rfl HO2.out HB2.out HB2.out.size ?aL ?_); (case aL => have := HLO.out; have := HN.out; omega); intro v9 w9 ho9 hb9 hg9 hat9; have HO9 := az ho9; have HB9 := az hb9; have HBX9 : Aside0 (w9.heap[w.heap.size]? = some (.cells #[.pointer (some ⟨gb, 0, none⟩)] 81 (0, 0))) := ⟨blk_grown HBX2.out hg9 (Kd.R_ne HO2.out HBX2.out (by decide))⟩; clear ho9 hb9 hg9 hat9))
   go_roundg g
   case measure => have := HGG.out; omega
   case rel => exact ⟨x, g, _, rfl, zG HXB.out, Nat.le_refl _, ⟨l, HLL.out, by rw [List.append_assoc]; exact HRE.out⟩, ⟨by have := HLO.out; rw [List.length_append]; simp; omega⟩, HO9, HB9, HBX9, ⟨(Array.getElem?_eq_some_iff.1 HBX9.out).1⟩⟩
  ·
   have hltz : ¬ (i : Int) < (rs.length : Int) := by omega
   have HRE : Aside0 (out = r) := by
    have : rest = [] := by
     cases g with
     | zero => rw [greedyN, if_neg hlt] at hq; exact (Option.some.inj hq).symm
     | succ g => rw [greedyN, if_neg hlt] at hq; exact (Option.some.inj hq).symm
    subst this
    exact ⟨by rw [← hrest, List.append_nil]⟩
   clear hq hrest HF
   go_wp2
   go_ret
   exact ⟨_, rfl, by rw [← HRE.out]; exact HO.out, HB.out⟩
theorem costI_calls (k : Nat) (gb : Nat) (A0 : Option Addr) (c0 : Nat) (rs : List Int) (A1 : Option Addr) (c1 : Nat) (ws : List Int) (A2 : Option Addr) (c2 : Nat) (bs : List Int) (wide from_ to_ x : Int) (m : Nat) (w : World) (hf : FlO 69 gb A0 c0 rs A1 c1 ws A2 c2 bs wide w) (hm : to_ - 1 = (m : Int)) (hmb : m < bs.length) (hx : impl_lineWide.f k rs ws from_ to_ = some x) (hb : (wide - x).natAbs ≤ 1000000000) :
  Calls Tryz.prog 51 #[.pointer (some ⟨gb, 0, none⟩), .int .i64 from_, .int .i64 to_] w fun e w' => e = .returned (.int .i64 (if bs.getD m 0 = 2 then 0 else (wide - x) * (wide - x))) ∧ Below w.heap.size w w' := by
 have hm0 : (0 : Int) ≤ (m : Int) := by omega
 have hmz : (m : Int) < (bs.length : Int) := by omega
 have hl := hf.2.2.2.2.2.1.2.1
 obtain ⟨ad5, hA5, hx5⟩ := Kd.at_int hf.2.2.2.2.2.1 (m : Int) hm0 hmz
 subst hA5
 have hxx : rd bs (m : Int) = bs.getD m 0 := by simp [rd]
 rw [hxx, Int.toNat_natCast] at hx5
 obtain ⟨y, hy⟩ : ∃ y, bs.getD m 0 = y := ⟨_, rfl⟩
 rw [hy] at hx5 ⊢
 have hw1 : IntKind.i64.wrap (to_ - 1) = (m : Int) := by rw [i64_w]; unfold wrap64; omega
 have hw2 : wrap64 (to_ - 1) = (m : Int) := by unfold wrap64; omega
 obtain ⟨d, hd⟩ : ∃ d, wide - x = d := ⟨_, rfl⟩
 rw [hd] at hb ⊢
 have hs := sq_fit d hb
 have hw3 : wrap64 (wide - x) = d := by unfold wrap64; omega
 have hw4 : IntKind.i64.wrap (wide - x) = d := by rw [i64_w]; exact hw3
 have hw5 : wrap64 (d * d) = d * d := by unfold wrap64; omega
 have hw6 : IntKind.i64.wrap (d * d) = d * d := by rw [i64_w]; exact hw5
 clear hxx hy hm hs hb hd hmb
 have HX := az hx
 clear hx
 by_cases h2 : y = 2
 ·
  rw [if_pos h2]
  have b2 : (y == 2) = true := beq_iff_eq.mpr h2
  have q2 := (blk_cell hf.1 2).trans (show _ = some (Value.slice (some ad5) bs.length c2) from rfl)
  clear h2 hf
  go_enter Tryz.func51, Tryz.ntmps51
  go_wp2
  go_ret
  exact ⟨rfl, by repeat (first | exact Below.refl _ _ | apply pw_below_drewN | apply below_drew1)⟩
 ·
  rw [if_neg h2]
  have b2 : (y == 2) = false := beq_eq_false_iff_ne.mpr h2
  have hS := FlI.of (w0 := w) hf (Below.refl _ _)
  unfold FlI at hS
  clear h2 hf
  go_enter Tryz.func51, Tryz.ntmps51
  obtain ⟨q0, q1, q2, q3, q4⟩ := hS
  go_upto_region 3 with fail
  have hS : FlI 69 gb A0 c0 rs A1 c1 ws (some ad5) c2 bs wide w w := ⟨q0, q1, q2, q3, q4⟩
  unfold FlI at hS
  clear q0 q1 q2 q3 q4 hx5
  go_region_held3 (fun W => W.cell? ⟨gb, 0, none⟩ = some (.slice A0 rs.length c0) ∧ W.cell? ⟨gb, 1, none⟩ = some (.slice A1 ws.length c1) ∧ W.cell? ⟨gb, 2, none⟩ = some (.slice (some ad5) bs.length c2) ∧ W.cell? ⟨gb, 3, none⟩ = some (.int .i64 wide) ∧ Aside0 (FlO 69 gb A0 c0 rs A1 c1 ws (some ad5) c2 bs wide W ∧ Below w.heap.size w W)) (first | (with_reducible assumption) | (with_reducible refine FlI.below ?_ zI; with_reducible assumption) | (with_reducible exact FlI.drew zI)) (first
   | (go_at_call 60; refine (impl_lineWide.calls k A0 c0 rs A1 c1 ws from_ to_ x _ ?s1 ?s2 ?s3 ?s4 HX.out).mono ?_; (case s1 => exact (show FlI 69 gb A0 c0 rs A1 c1 ws (some ad5) c2 bs wide w _ from zI).2.2.2.2.out.1.2.1); (case s2 => exact (show FlI 69 gb A0 c0 rs A1 c1 ws (some ad5) c2 bs wide w _ from zI).2.2.2.2.out.1.2.2.1); (case s3 => exact (show FlI 69 gb A0 c0 rs A1 c1 ws (some ad5) c2 bs wide w _ from zI).2.2.2.2.out.1.2.2.2.1); (case s4 => exact (show FlI 69 gb A0 c0 rs A1 c1 ws (some ad5) c2 bs wide w _ from zI).2.2.2.2.out.1.2.2.2.2.1); rintro e w3 ⟨rfl, p⟩))
  all_goals
   go_wp2
   go_ret
   exact ⟨rfl, (show FlI 69 gb A0 c0 rs A1 c1 ws (some ad5) c2 bs wide w _ from zI).2.2.2.2.out.2⟩
theorem C_keptM {W W' : World} {A : Option Addr} {n mb : Nat} {xs : List Int} (h : Kd.C (Kd.int .i64) W A n xs) (hm : ∃ es c, W.heap[mb]? = some (.map es c)) (hg : W.grownBy W' (some mb)) : Kd.C (Kd.int .i64) W' A n xs := by
 have h2 := Kd.reads_of_C (enc := Value.int .i64) (d := (0 : Int)) (h1 := fun _ => rfl) h
 refine Kd.C_of_reads (d := (0 : Int)) (h1 := fun _ => rfl) ⟨h2.1, h2.2.1, fun hp => ?_⟩
 obtain ⟨ad, e, hc⟩ := h2.2.2 hp
 obtain ⟨es, c, hm⟩ := hm
 exact ⟨ad, e, fun j hj => cell_kept (hc j hj) hg (fun r e => by cases e; exact ⟨_, hm, rfl⟩)⟩
theorem blk_keptM {W W' : World} {g t mb : Nat} {cells : Array Value} (h : W.heap[g]? = some (.cells cells t (0, 0))) (hm : ∃ es c, W.heap[mb]? = some (.map es c)) (hg : W.grownBy W' (some mb)) : W'.heap[g]? = some (.cells cells t (0, 0)) := by
 obtain ⟨es, c, hm⟩ := hm
 refine blk_grown h hg (fun e => ?_)
 obtain rfl := Option.some.inj e
 rw [h] at hm
 cases hm
theorem FlO.keptM {t gb : Nat} {A0 : Option Addr} {c0 : Nat} {rs : List Int} {A1 : Option Addr} {c1 : Nat} {ws : List Int} {A2 : Option Addr} {c2 : Nat} {bs : List Int} {wide : Int} {mb : Nat} {W W' : World} (h : FlO t gb A0 c0 rs A1 c1 ws A2 c2 bs wide W) (hm : ∃ es c, W.heap[mb]? = some (.map es c)) (hg : W.grownBy W' (some mb)) : FlO t gb A0 c0 rs A1 c1 ws A2 c2 bs wide W' :=
 ⟨blk_keptM h.1 hm hg, C_keptM h.2.1 hm hg, h.2.2.1, C_keptM h.2.2.2.1 hm hg, h.2.2.2.2.1, C_keptM h.2.2.2.2.2.1 hm hg, h.2.2.2.2.2.2⟩
theorem gr_below {w W W' : World} {row : Option Nat} (h : w.grownBy W row) (hb : Below w.heap.size W W') : w.grownBy W' row :=
 ⟨hb.os.trans h.os, hb.tape.trans h.tape, hb.output.trans h.output, Nat.le_trans h.size hb.size, fun k hk hne => (hb.block k hk).trans (h.block k hk hne)⟩
theorem wf_nat {k : Nat} (h : k ≤ 1000) : (Lit.int .i64 (k : Int)).wf = true := by
 have := wrap64_wf (k : Int)
 rwa [show wrap64 (k : Int) = (k : Int) by unfold wrap64; omega] at this
theorem MapP.same {W W' : World} {b n : Nat} {f : Int → Option (Int × Int)} (h : MapP W b n f) (he : W'.heap[b]? = W.heap[b]?) : MapP W' b n f := by
 obtain ⟨D, ⟨es, c, h1, r⟩, h2, h3⟩ := h
 exact ⟨D, ⟨es, c, he.trans h1, r⟩, h2, h3⟩
theorem add_fit (a b : Int) (h1 : 0 ≤ a) (h2 : a ≤ 1000000000000000) (h3 : 0 ≤ b) (h4 : b ≤ 1000000000000000000) : wrap64 (a + b) = a + b := by
 unfold wrap64
 omega
theorem cost_fit (bs : List Int) (W : Nat → Nat → Int) (wide : Int) (i j : Nat) (h : (wide - W i j).natAbs ≤ 1000000000) : 0 ≤ costV bs W wide i j ∧ costV bs W wide i j ≤ 1000000000000000000 := by
 unfold costV
 split
 · omega
 · exact sq_fit _ h
theorem at_int_some {W : World} {ad : Addr} {n : Nat} {xs : List Int} (h : Kd.C (Kd.int .i64) W (some ad) n xs) (i : Int) (h0 : 0 ≤ i) (h1 : i < n) : W.cell? (ad.add i.toNat) = some (.int .i64 (rd xs i)) := by
 obtain ⟨ad', e, h⟩ := Kd.at_int h i h0 h1
 obtain rfl := Option.some.inj e
 exact h
def PlO (B gb : Nat) (P : Nat → Int × Int) (n mb fr : Nat) (f f0 : Int → Option (Int × Int)) (w W : World) : Prop :=
 W.heap[B]? = some (.cells #[.pointer (some ⟨gb, 0, none⟩), .map (some mb)] 84 (0, 0)) ∧ W.heap[B + 1]? = some (.cells #[.int .i64 0, .int .i64 0] 143 (0, 0)) ∧ KnO P n mb f W ∧ (∀ a : Int, a ≤ fr → f a = f0 a) ∧ w.grownBy W (some mb)
theorem PlO.below {B gb : Nat} {P : Nat → Int × Int} {n mb fr : Nat} {f f0 : Int → Option (Int × Int)} {w W W' : World} (h : PlO B gb P n mb fr f f0 w W) (hb : Below W.heap.size W W') : PlO B gb P n mb fr f f0 w W' :=
 ⟨blk_below h.1 hb, blk_below h.2.1 hb, h.2.2.1.below hb, h.2.2.2.1, gr_below h.2.2.2.2 (hb.mono h.2.2.2.2.size)⟩
theorem PlO.rec {B gb : Nat} {P : Nat → Int × Int} {n mb fr e : Nat} {f f0 f1 : Int → Option (Int × Int)} {w W W' : World} (h : PlO B gb P n mb fr f f0 w W) (hk : KnO P n mb f1 W') (ha : ∀ a : Int, a < (e : Int) → f1 a = f a) (he : fr < e) (hg : W.grownBy W' (some mb)) : PlO B gb P n mb fr f1 f0 w W' :=
 ⟨blk_keptM h.1 h.2.2.1.1.obj hg, blk_keptM h.2.1 h.2.2.1.1.obj hg, hk, fun a hle => (ha a (by omega)).trans (h.2.2.2.1 a hle), h.2.2.2.2.trans hg⟩
theorem PlO.set {B gb : Nat} {P : Nat → Int × Int} {n mb fr : Nat} {f f0 : Int → Option (Int × Int)} {w W : World} (h : PlO B gb P n mb fr f f0 w W) (hm : mb < w.heap.size) (p : Addr) (v : Value) (h1 : B ≠ p.block) (h2 : B + 1 ≠ p.block) (h3 : w.heap.size ≤ p.block) : PlO B gb P n mb fr f f0 w (W.setCell p v) :=
 ⟨blk_far h.1 h1 v, blk_far h.2.1 h2 v, ⟨h.2.2.1.1.same (Below.heap_setCell W p v mb (by omega)), h.2.2.1.2⟩, h.2.2.2.1, gr_below h.2.2.2.2 ((Below.refl _ _).setCell (p := p) h3 v)⟩
abbrev PcI (B gb R : Nat) (p : Int) (wo W : World) : Prop := W.cell? ⟨B, 0, none⟩ = some (.pointer (some ⟨gb, 0, none⟩)) ∧ W.cell? ⟨R, 0, none⟩ = some (.int .i64 p) ∧ Aside0 (Below wo.heap.size wo W)
theorem PcI.via {B gb R : Nat} {p : Int} {wo W W' : World} (h : PcI B gb R p wo W) (hb : Below W.heap.size W W') : PcI B gb R p wo W' :=
 ⟨(hb.cell (World.block_lt_of_cell? _ _ h.1)).trans h.1, (hb.cell (World.block_lt_of_cell? _ _ h.2.1)).trans h.2.1, ⟨below_then h.2.2.out h.2.2.out.size hb⟩⟩
theorem PcI.drew {B gb R : Nat} {p : Int} {wo W : World} (h : PcI B gb R p wo W) : PcI B gb R p wo W.drew := h.via (below_drew (Below.refl _ _))
theorem planI_end (gb : Nat) (A0 : Option Addr) (c0 : Nat) (rs : List Int) (A1 : Option Addr) (c1 : Nat) (ws : List Int) (A2 : Option Addr) (c2 : Nat) (bs : List Int) (wide : Int) (mb : Nat) (w : World) (hf : FlO 69 gb A0 c0 rs A1 c1 ws A2 c2 bs wide w) :
  Calls Tryz.prog 168 #[.agg #[.pointer (some ⟨gb, 0, none⟩), .map (some mb)], .int .i64 rs.length] w fun e w' => e = .returned (.agg #[.int .i64 0, .int .i64 rs.length]) ∧ Below w.heap.size w w' := by
 have q0 := (blk_cell hf.1 0).trans (show _ = some (Value.slice A0 rs.length c0) from rfl)
 have hlt := World.block_lt_of_cell? w _ q0
 clear hf
 go_enter Tryz.func168, Tryz.ntmps168
 go_wp2
 refine bodyPost_ret (results_cell_row rfl _ _ (w.heap.size + 1) 143 #[.int .i64 0, .int .i64 rs.length] (0, 0) _ rfl ?_ Tryz.underlying143 rfl (by kernel_rfl)) rfl ⟨rfl, below_alloc (below_alloc (Below.refl _ _) _) _⟩
 have h := blk_new (w.alloc (.cells #[.pointer (some ⟨gb, 0, none⟩), .map (some mb)] 84)) (.cells #[.int .i64 0, .int .i64 rs.length] 143)
 rwa [show (w.alloc (.cells #[.pointer (some ⟨gb, 0, none⟩), .map (some mb)] 84)).heap.size = w.heap.size + 1 by simp] at h
theorem planI_known (gb : Nat) (A0 : Option Addr) (c0 : Nat) (rs : List Int) (A1 : Option Addr) (c1 : Nat) (ws : List Int) (A2 : Option Addr) (c2 : Nat) (bs : List Int) (wide : Int) (P : Nat → Int × Int) (mb fr : Nat) (v : Int × Int) (f : Int → Option (Int × Int)) (w : World) (hn : rs.length ≤ 1000) (hfr : fr < rs.length) (hf : FlO 69 gb A0 c0 rs A1 c1 ws A2 c2 bs wide w) (hk : KnO P rs.length mb f w) (hv : f (fr : Int) = some v) :
  Calls Tryz.prog 168 #[.agg #[.pointer (some ⟨gb, 0, none⟩), .map (some mb)], .int .i64 fr] w fun e w' => e = .returned (.agg #[.int .i64 v.1, .int .i64 v.2]) ∧ Below w.heap.size w w' := by
 have q0 := (blk_cell hf.1 0).trans (show _ = some (Value.slice A0 rs.length c0) from rfl)
 have hlt := World.block_lt_of_cell? w _ q0
 have hlook := MapP.look (w := (w.alloc (.cells #[.pointer (some ⟨gb, 0, none⟩), .map (some mb)] 84)).alloc (.cells #[.int .i64 0, .int .i64 0] 143)) (hk.1.below (below_alloc (below_alloc (Below.refl _ _) _) _)) (fr : Int) (wf_nat (by omega))
 simp only [hv, Option.getD_some, Option.isSome_some] at hlook
 have hne : ¬ (fr : Int) = (rs.length : Int) := by omega
 have hne2 : ((fr : Int) == (rs.length : Int)) = false := beq_eq_false_iff_ne.mpr hne
 clear hf hk hv hfr hn
 go_enter Tryz.func168, Tryz.ntmps168
 go_wp2
 refine bodyPost_ret (results_cell_row rfl _ _ (w.heap.size + 1) 143 #[.int .i64 v.1, .int .i64 v.2] (0, 0) _ rfl (blk_alloc ?_ _) Tryz.underlying143 rfl (by kernel_rfl)) rfl ⟨rfl, below_alloc (below_alloc (below_alloc (Below.refl _ _) _) _) _⟩
 have h := blk_new (w.alloc (.cells #[.pointer (some ⟨gb, 0, none⟩), .map (some mb)] 84)) (.cells #[.int .i64 v.1, .int .i64 v.2] 143)
 rwa [show (w.alloc (.cells #[.pointer (some ⟨gb, 0, none⟩), .map (some mb)] 84)).heap.size = w.heap.size + 1 by simp] at h
theorem planI_body (k : Nat) (gb : Nat) (A0 : Option Addr) (c0 : Nat) (rs : List Int) (A1 : Option Addr) (c1 : Nat) (ws : List Int) (A2 : Option Addr) (c2 : Nat) (bs : List Int) (wide : Int) (W : Nat → Nat → Int) (M : Nat → Nat) (P : Nat → Int × Int) (mb : Nat) (hn : rs.length ≤ 1000) (hbl : bs.length = rs.length) (hW : ∀ i j : Nat, i ≤ j → j ≤ rs.length → impl_lineWide.f k rs ws (i : Int) (j : Int) = some (W i j)) (hM : ∀ i : Nat, i < rs.length → ∃ x, slices_Index_int_int.f k (bs.drop i) 2 = some x ∧ (i : Int) + x + 1 = (M i : Int) ∧ i < M i ∧ M i ≤ rs.length) (hP : IsPlan bs (fitV W wide) (costV bs W wide) M rs.length P) (hWb : ∀ i j : Nat, i ≤ j → j ≤ rs.length → (wide - W i j).natAbs ≤ 1000000000) (hPb : ∀ j, j ≤ rs.length → 0 ≤ (P j).1 ∧ (P j).1 ≤ 1000000000000000)
  (fr : Nat) (hfr : fr < rs.length) (ih : ∀ (e : Nat) (f1 : Int → Option (Int × Int)) (w1 : World), fr < e → e ≤ rs.length → FlO 69 gb A0 c0 rs A1 c1 ws A2 c2 bs wide w1 → KnO P rs.length mb f1 w1 → Calls Tryz.prog 168 #[.agg #[.pointer (some ⟨gb, 0, none⟩), .map (some mb)], .int .i64 e] w1 fun x w' => x = .returned (.agg #[.int .i64 (P e).1, .int .i64 (P e).2]) ∧ ∃ f', KnO P rs.length mb f' w' ∧ (∀ a : Int, a < (e : Int) → f' a = f1 a) ∧ w1.grownBy w' (some mb))
  (f : Int → Option (Int × Int)) (w : World) (hf : FlO 69 gb A0 c0 rs A1 c1 ws A2 c2 bs wide w) (hk : KnO P rs.length mb f w) (hv : f (fr : Int) = none) :
  Calls Tryz.prog 168 #[.agg #[.pointer (some ⟨gb, 0, none⟩), .map (some mb)], .int .i64 fr] w fun x w' => x = .returned (.agg #[.int .i64 (P fr).1, .int .i64 (P fr).2]) ∧ ∃ f', KnO P rs.length mb f' w' ∧ (∀ a : Int, a < (fr : Int) → f' a = f a) ∧ w.grownBy w' (some mb) := by
 have q0 := (blk_cell hf.1 0).trans (show _ = some (Value.slice A0 rs.length c0) from rfl)
 have hlt := World.block_lt_of_cell? w _ q0
 have hlook := MapP.look (w := (w.alloc (.cells #[.pointer (some ⟨gb, 0, none⟩), .map (some mb)] 84)).alloc (.cells #[.int .i64 0, .int .i64 0] 143)) (hk.1.below (below_alloc (below_alloc (Below.refl _ _) _) _)) (fr : Int) (wf_nat (by omega))
 simp only [hv, Option.getD_none, Option.isSome_none] at hlook
 have hne : ¬ (fr : Int) = (rs.length : Int) := by omega
 have hne2 : ((fr : Int) == (rs.length : Int)) = false := beq_eq_false_iff_ne.mpr hne
 obtain ⟨y, hy1, hy2, hy3, hy4⟩ := hM fr hfr
 have hz1 : wrap64 ((fr : Int) + 1) = ((fr + 1 : Nat) : Int) := by unfold wrap64; omega
 have hz2 : IntKind.i64.wrap ((fr : Int) + 1) = ((fr + 1 : Nat) : Int) := by rw [i64_w]; exact hz1
 have HFL := az hf
 have HW := az hW
 have HBL := az hbl
 have HN := az hn
 have HP := az hP
 have HWB := az hWb
 have HPB := az hPb
 have HV := az hv
 have HK := az hk
 have HY := az (And.intro hy1 (And.intro hy2 (And.intro hy3 hy4)))
 have HFR := az hfr
 have HMB := az hk.1.lt
 have HMO := az hk.1.obj
 have IH := az ih
 have HL := az (show fr ≤ bs.length ∧ bs.length ≤ 1000 ∧ -1 ≤ y ∧ y ≤ 1000 by omega)
 clear hf hk hv hfr hn hW hbl hM hP hWb hPb ih hy1 hy2 hy3 hy4
 obtain ⟨W4, hW4⟩ : ∃ W4, (((w.alloc (.cells #[.pointer (some ⟨gb, 0, none⟩), .map (some mb)] 84)).alloc (.cells #[.int .i64 0, .int .i64 0] 143)).alloc (.cells #[.int .i64 0, .int .i64 0] 143)).alloc (.cells #[.int .i64 0, .int .i64 0] 143) = W4 := ⟨_, rfl⟩
 have hB4 : Below w.heap.size w W4 := by rw [← hW4]; exact below_alloc (below_alloc (below_alloc (below_alloc (Below.refl _ _) _) _) _) _
 have b2 := blk_new (w.alloc (.cells #[.pointer (some ⟨gb, 0, none⟩), .map (some mb)] 84)) (.cells #[.int .i64 0, .int .i64 0] 143)
 rw [show (w.alloc (.cells #[.pointer (some ⟨gb, 0, none⟩), .map (some mb)] 84)).heap.size = w.heap.size + 1 by simp] at b2
 have b4 := blk_new (((w.alloc (.cells #[.pointer (some ⟨gb, 0, none⟩), .map (some mb)] 84)).alloc (.cells #[.int .i64 0, .int .i64 0] 143)).alloc (.cells #[.int .i64 0, .int .i64 0] 143)) (.cells #[.int .i64 0, .int .i64 0] 143)
 rw [show (((w.alloc (.cells #[.pointer (some ⟨gb, 0, none⟩), .map (some mb)] 84)).alloc (.cells #[.int .i64 0, .int .i64 0] 143)).alloc (.cells #[.int .i64 0, .int .i64 0] 143)).heap.size = w.heap.size + 1 + 1 + 1 by simp, hW4] at b4
 have hPL : PlO w.heap.size gb P rs.length mb fr f f w W4 := ⟨by rw [← hW4]; exact blk_alloc (blk_alloc (blk_alloc (blk_new w _) _) _) _, by rw [← hW4]; exact blk_alloc (blk_alloc b2 _) _, HK.out.below hB4, fun _ _ => rfl, grown_of_below hB4 _⟩
 have H4 := az hPL
 have HO4 := az b4
 clear hB4 b2 b4 hPL
 go_enter Tryz.func168, Tryz.ntmps168
 obtain ⟨m, hm⟩ : ∃ m, M fr = m := ⟨_, rfl⟩
 rw [hm] at HY
 have HPF := az (HP.out.2 fr HFR.out)
 rw [hm] at HPF
 clear hm
 go_wp2
 clear hW4 hlook
 go_loopg [8] rs.length (fun gg s8 wr => ∃ (e g : Nat) (cur : Int × Int) (f1 : Int → Option (Int × Int)), s8 = .int .i64 (e : Int) ∧ g ≤ gg ∧ Aside0 (fr < e ∧ e + g = m + 1) ∧ Aside0 (rowP bs (fitV W wide) (costV bs W wide) P fr g e cur = P fr) ∧ Aside0 (PlO w.heap.size gb P rs.length mb fr f1 f w wr) ∧ Aside0 (wr.heap[w.heap.size + 1 + 1 + 1]? = some (.cells #[.int .i64 cur.1, .int .i64 cur.2] 143 (0, 0))))
 case atStart => exact ⟨fr + 1, m - fr, (0, 0), f, by simp, by have := HY.out.2.2.2; omega, ⟨by omega, by have := HY.out.2.2.1; omega⟩, ⟨HPF.out.symm⟩, H4, HO4⟩
 case round =>
  clear H4 HO4 HPF
  obtain ⟨e, g, cur, f1, rfl, hg, HE, HF, HQ, HOB⟩ := hrel
  have q1 := (blk_cell HQ.out.1 0).trans (show _ = some (Value.pointer (some ⟨gb, 0, none⟩)) from rfl)
  have HFQ := az (HFL.out.keptM HMO.out HQ.out.2.2.2.2)
  cases g with
  | zero =>
   have hcu : cur = P fr := HF.out
   subst hcu
   have hgt : ¬ (e : Int) ≤ (m : Int) := by have := HE.out.2; omega
   clear HF hg
   go_wp2_with (go_at_call 52; go_must (refine (mustI_calls k gb A0 c0 rs A1 c1 ws A2 c2 bs wide fr y _ HFQ.out HL.out.1 HL.out.2.1 HY.out.1 HL.out.2.2.1 HL.out.2.2.2).mono ?_); rw [HY.out.2.1]; rintro e1 w4 ⟨rfl, hd4⟩; have HQ4 := az (HQ.out.below hd4.below); have HOB4 := az (blk_below HOB.out hd4.below); have HFQ4 := az (HFL.out.keptM HMO.out HQ4.out.2.2.2.2); obtain ⟨w5, hrun5, hm5, hg5⟩ := MapP.put HQ4.out.2.2.1.1 (by have := cntF_le f1 rs.length; have := HN.out; omega) (fr : Int) (P fr) (wf_nat (zS HN.out HFR.out)); have HM5 := az hm5; have HG5 := az hg5; have q1 := (blk_cell HQ4.out.1 1).trans (show _ = some (Value.map (some mb)) from rfl); have o1 := (blk_cell HOB4.out 0).trans (show _ = some (Value.int .i64 (P fr).1) from rfl); have o2 := (blk_cell HOB4.out 1).trans (show _ = some (Value.int .i64 (P fr).2) from rfl); have HOB5 := az (blk_keptM HOB4.out HQ4.out.2.2.1.1.obj hg5); have HB15 := az (blk_keptM HQ4.out.2.1 HQ4.out.2.2.1.1.obj hg5); have o3 := (blk_cell HOB5.out 0).trans (show _ = some (Value.int .i64 (P fr).1) from rfl); have o4 := (blk_cell HOB5.out 1).trans (show _ = some (Value.int .i64 (P fr).2) from rfl); have r1 := (blk_cell HB15.out 0).trans (show _ = some (Value.int .i64 0) from rfl); have r2 := (blk_cell HB15.out 1).trans (show _ = some (Value.int .i64 0) from rfl); have r3 := blk_frozen HB15.out 0; have r4 := blk_frozen HB15.out 1; clear hm5 hg5; clear hd4)
   refine bodyPost_ret (results_cell_row rfl _ _ (w.heap.size + 1) 143 #[.int .i64 (P fr).1, .int .i64 (P fr).2] (0, 0) _ rfl (blk_put (blk_put HB15.out 0 (.int .i64 (P fr).1) rfl) 1 (.int .i64 (P fr).2) rfl) Tryz.underlying143 rfl (by kernel_rfl)) rfl ⟨rfl, (fun a => if a = (fr : Int) then some (P fr) else f1 a), ?_, ?_, ?_⟩
   ·
    have hne : mb ≠ w.heap.size + 1 := by have := HMB.out; omega
    have hfn : f1 (fr : Int) = none := (HQ4.out.2.2.2.1 (fr : Int) (Int.le_refl _)).trans HV.out
    refine ⟨?_, fun a v hav => ?_⟩
    ·
     rw [cntF_put f1 fr (P fr) hfn rs.length HFR.out]
     exact HM5.out.same ((Below.heap_setCell _ _ _ mb hne).trans (Below.heap_setCell _ _ _ mb hne))
    ·
     replace hav : (if a = (fr : Int) then some (P fr) else f1 a) = some v := hav
     by_cases ha : a = (fr : Int)
     ·
      rw [if_pos ha] at hav
      exact ⟨fr, ha, HFR.out, (Option.some.inj hav).symm⟩
     ·
      rw [if_neg ha] at hav
      exact HQ4.out.2.2.1.2 a v hav
   ·
    intro a ha
    show (if a = (fr : Int) then some (P fr) else f1 a) = f a
    rw [if_neg (show ¬ a = (fr : Int) by omega)]
    exact HQ4.out.2.2.2.1 a (by omega)
   · exact gr_below (HQ4.out.2.2.2.2.trans HG5.out) (((Below.refl w.heap.size w5).setCell (p := ⟨w.heap.size + 1, 0, none⟩) (Nat.le_succ _) _).setCell (p := ⟨w.heap.size + 1, 1, none⟩) (Nat.le_succ _) _)
  | succ g =>
   have hle : (e : Int) ≤ (m : Int) := by have := HE.out.2; omega
   have HEN : Aside0 (fr < e + 1 ∧ e + 1 + g = m + 1) := ⟨zG HE.out⟩
   have HER : Aside0 (e ≤ rs.length) := ⟨by have := HE.out.2; have := HY.out.2.2.2; omega⟩
   obtain ⟨n1, hn1⟩ : ∃ n1 : Nat, e = n1 + 1 := ⟨e - 1, by have := HE.out.1; omega⟩
   have h0 : (0 : Int) ≤ (n1 : Int) := by omega
   have h1 : (n1 : Int) < (bs.length : Int) := by have := HER.out; have := HBL.out; omega
   have hw1 : wrap64 ((e : Int) - 1) = (n1 : Int) := by unfold wrap64; have := HER.out; have := HN.out; omega
   have hw2 : IntKind.i64.wrap ((e : Int) - 1) = (n1 : Int) := by rw [i64_w]; exact hw1
   have hw3 : wrap64 ((e : Int) + 1) = ((e + 1 : Nat) : Int) := by unfold wrap64; have := HER.out; have := HN.out; omega
   have hw4 : IntKind.i64.wrap ((e : Int) + 1) = ((e + 1 : Nat) : Int) := by rw [i64_w]; exact hw3
   obtain ⟨ad5, hA5, _⟩ := Kd.at_int HFL.out.2.2.2.2.2.1 (n1 : Int) h0 h1
   subst hA5
   have HN1 := az hn1
   clear hn1
   obtain ⟨z, hz⟩ : ∃ z, bs.getD n1 0 = z := ⟨_, rfl⟩
   have HZ5 : Aside0 (rd bs (n1 : Int) = z) := ⟨by rw [← hz]; simp [rd]⟩
   have HZZ : Aside0 (bs.getD (e - 1) 0 = z) := ⟨by rw [← hz, HN1.out]; simp⟩
   obtain ⟨p1, hp1⟩ : ∃ p1, (P e).1 = p1 := ⟨_, rfl⟩
   obtain ⟨p2, hp2⟩ : ∃ p2, (P e).2 = p2 := ⟨_, rfl⟩
   have HP1 := az hp1
   have HP2 := az hp2
   have HGG := az hg
   clear hz hp1 hp2 hg
   by_cases hz0 : z = 0
   ·
    have b0 : (z == 0) = true := beq_iff_eq.mpr hz0
    have HST : Aside0 (stepP bs (fitV W wide) (costV bs W wide) P fr e cur = cur) := ⟨if_pos (.inl (HZZ.out.trans hz0))⟩
    clear hz0
    go_wp2_with (go_at_call 52; go_must (refine (mustI_calls k gb A0 c0 rs A1 c1 ws (some ad5) c2 bs wide fr y _ HFQ.out HL.out.1 HL.out.2.1 HY.out.1 HL.out.2.2.1 HL.out.2.2.2).mono ?_); rw [HY.out.2.1]; rintro e1 w4 ⟨rfl, hd4⟩; have HQ4 := az (HQ.out.below hd4.below); have HOB4 := az (blk_below HOB.out hd4.below); have HFQ4 := az (HFL.out.keptM HMO.out HQ4.out.2.2.2.2); have q1 := (blk_cell HQ4.out.1 0).trans (show _ = some (Value.pointer (some ⟨gb, 0, none⟩)) from rfl); have q1b := (blk_cell HQ4.out.1 1).trans (show _ = some (Value.map (some mb)) from rfl); have q5 := (blk_cell HFQ4.out.1 2).trans (show _ = some (Value.slice (some ad5) bs.length c2) from rfl); have hx5 := at_int_some HFQ4.out.2.2.2.2.2.1 (n1 : Int) h0 h1; rw [HZ5.out, Int.toNat_natCast] at hx5; clear hd4)
    go_roundg g
    case measure => have := HGG.out; omega
    case rel => exact ⟨e + 1, g, cur, f1, by simp, Nat.le_refl _, HEN, ⟨by have h := HF.out; rw [rowP, HST.out] at h; exact h⟩, HQ4, HOB4⟩
   ·
    have b0 : (z == 0) = false := beq_eq_false_iff_ne.mpr hz0
    have HZ0 := az hz0
    clear hz0
    cases hfi : fitV W wide fr e
    case false =>
     have HFI := az hfi
     have HST : Aside0 (stepP bs (fitV W wide) (costV bs W wide) P fr e cur = cur) := ⟨if_pos (.inr (.inl hfi))⟩
     clear hfi
     go_wp2_with (first | (go_at_call 52; go_must (refine (mustI_calls k gb A0 c0 rs A1 c1 ws (some ad5) c2 bs wide fr y _ HFQ.out HL.out.1 HL.out.2.1 HY.out.1 HL.out.2.2.1 HL.out.2.2.2).mono ?_); rw [HY.out.2.1]; rintro e1 w4 ⟨rfl, hd4⟩; have HQ4 := az (HQ.out.below hd4.below); have HOB4 := az (blk_below HOB.out hd4.below); have HFQ4 := az (HFL.out.keptM HMO.out HQ4.out.2.2.2.2); have q1 := (blk_cell HQ4.out.1 0).trans (show _ = some (Value.pointer (some ⟨gb, 0, none⟩)) from rfl); have q1b := (blk_cell HQ4.out.1 1).trans (show _ = some (Value.map (some mb)) from rfl); have q5 := (blk_cell HFQ4.out.1 2).trans (show _ = some (Value.slice (some ad5) bs.length c2) from rfl); have hx5 := at_int_some HFQ4.out.2.2.2.2.2.1 (n1 : Int) h0 h1; rw [HZ5.out, Int.toNat_natCast] at hx5; clear hd4) | (go_at_call 53; go_must (refine (fitsI_calls k gb A0 c0 rs A1 c1 ws (some ad5) c2 bs wide (fr : Int) (e : Int) (W fr e) _ HFQ4.out (HW.out fr e (Nat.le_of_lt HE.out.1) HER.out)).mono ?_); rw [show decide (W fr e ≤ wide) = false from HFI.out]; rintro e1 w5 ⟨rfl, hb5⟩; have HQ5 := az (HQ4.out.below hb5); have HOB5 := az (blk_below HOB4.out hb5); have HFQ5 := az (HFL.out.keptM HMO.out HQ5.out.2.2.2.2); clear hb5))
     go_roundg g
     case measure => have := HGG.out; omega
     case rel => exact ⟨e + 1, g, cur, f1, by simp, Nat.le_refl _, HEN, ⟨by have h := HF.out; rw [rowP, HST.out] at h; exact h⟩, HQ5, HOB5⟩
    case true =>
     have HFI := az hfi
     clear hfi
     by_cases hp20 : p2 = 0
     ·
      have b2 : (p2 == 0) = true := beq_iff_eq.mpr hp20
      have HST : Aside0 (stepP bs (fitV W wide) (costV bs W wide) P fr e cur = cur) := ⟨if_pos (.inr (.inr (HP2.out.trans hp20)))⟩
      clear hp20
      go_wp2_with (first | (go_at_call 52; go_must (refine (mustI_calls k gb A0 c0 rs A1 c1 ws (some ad5) c2 bs wide fr y _ HFQ.out HL.out.1 HL.out.2.1 HY.out.1 HL.out.2.2.1 HL.out.2.2.2).mono ?_); rw [HY.out.2.1]; rintro e1 w4 ⟨rfl, hd4⟩; have HQ4 := az (HQ.out.below hd4.below); have HOB4 := az (blk_below HOB.out hd4.below); have HFQ4 := az (HFL.out.keptM HMO.out HQ4.out.2.2.2.2); have q1 := (blk_cell HQ4.out.1 0).trans (show _ = some (Value.pointer (some ⟨gb, 0, none⟩)) from rfl); have q1b := (blk_cell HQ4.out.1 1).trans (show _ = some (Value.map (some mb)) from rfl); have q5 := (blk_cell HFQ4.out.1 2).trans (show _ = some (Value.slice (some ad5) bs.length c2) from rfl); have hx5 := at_int_some HFQ4.out.2.2.2.2.2.1 (n1 : Int) h0 h1; rw [HZ5.out, Int.toNat_natCast] at hx5; clear hd4) | (go_at_call 53; go_must (refine (fitsI_calls k gb A0 c0 rs A1 c1 ws (some ad5) c2 bs wide (fr : Int) (e : Int) (W fr e) _ HFQ4.out (HW.out fr e (Nat.le_of_lt HE.out.1) HER.out)).mono ?_); rw [show decide (W fr e ≤ wide) = true from HFI.out]; rintro e1 w5 ⟨rfl, hb5⟩; have HQ5 := az (HQ4.out.below hb5); have HOB5 := az (blk_below HOB4.out hb5); have HFQ5 := az (HFL.out.keptM HMO.out HQ5.out.2.2.2.2); have q1 := (blk_cell HQ5.out.1 0).trans (show _ = some (Value.pointer (some ⟨gb, 0, none⟩)) from rfl); have q1b := (blk_cell HQ5.out.1 1).trans (show _ = some (Value.map (some mb)) from rfl); clear hb5) | (go_at_call 168; go_must (refine (IH.out e f1 _ HE.out.1 HER.out HFQ5.out HQ5.out.2.2.1).mono ?_); rw [HP1.out, HP2.out]; rintro e1 w6 ⟨rfl, f2, hk6, ha6, hg6⟩; have HQ6 := az (HQ5.out.rec hk6 ha6 HE.out.1 hg6); have HOB6 := az (blk_keptM HOB5.out HQ5.out.2.2.1.1.obj hg6); clear hk6 ha6 hg6))
      have HQ7 := az (HQ6.out.below (below_alloc (Below.refl w6.heap.size w6) (.cells #[.int .i64 p1, .int .i64 p2] 143)))
      have HOB7 := az (blk_alloc HOB6.out (.cells #[.int .i64 p1, .int .i64 p2] 143))
      go_roundg g
      case measure => have := HGG.out; omega
      case rel => exact ⟨e + 1, g, cur, f2, by simp, Nat.le_refl _, HEN, ⟨by have h := HF.out; rw [rowP, HST.out] at h; exact h⟩, HQ7, HOB7⟩
     ·
      have b2 : (p2 == 0) = false := beq_eq_false_iff_ne.mpr hp20
      have HP20 := az hp20
      clear hp20
      go_upto_region 13 with (first | (go_at_call 52; go_must (refine (mustI_calls k gb A0 c0 rs A1 c1 ws (some ad5) c2 bs wide fr y _ HFQ.out HL.out.1 HL.out.2.1 HY.out.1 HL.out.2.2.1 HL.out.2.2.2).mono ?_); rw [HY.out.2.1]; rintro e1 w4 ⟨rfl, hd4⟩; have HQ4 := az (HQ.out.below hd4.below); have HOB4 := az (blk_below HOB.out hd4.below); have HFQ4 := az (HFL.out.keptM HMO.out HQ4.out.2.2.2.2); have q1 := (blk_cell HQ4.out.1 0).trans (show _ = some (Value.pointer (some ⟨gb, 0, none⟩)) from rfl); have q1b := (blk_cell HQ4.out.1 1).trans (show _ = some (Value.map (some mb)) from rfl); have q5 := (blk_cell HFQ4.out.1 2).trans (show _ = some (Value.slice (some ad5) bs.length c2) from rfl); have hx5 := at_int_some HFQ4.out.2.2.2.2.2.1 (n1 : Int) h0 h1; rw [HZ5.out, Int.toNat_natCast] at hx5; clear hd4) | (go_at_call 53; go_must (refine (fitsI_calls k gb A0 c0 rs A1 c1 ws (some ad5) c2 bs wide (fr : Int) (e : Int) (W fr e) _ HFQ4.out (HW.out fr e (Nat.le_of_lt HE.out.1) HER.out)).mono ?_); rw [show decide (W fr e ≤ wide) = true from HFI.out]; rintro e1 w5 ⟨rfl, hb5⟩; have HQ5 := az (HQ4.out.below hb5); have HOB5 := az (blk_below HOB4.out hb5); have HFQ5 := az (HFL.out.keptM HMO.out HQ5.out.2.2.2.2); have q1 := (blk_cell HQ5.out.1 0).trans (show _ = some (Value.pointer (some ⟨gb, 0, none⟩)) from rfl); have q1b := (blk_cell HQ5.out.1 1).trans (show _ = some (Value.map (some mb)) from rfl); clear hb5) | (go_at_call 168; go_must (refine (IH.out e f1 _ HE.out.1 HER.out HFQ5.out HQ5.out.2.2.1).mono ?_); rw [HP1.out, HP2.out]; rintro e1 w6 ⟨rfl, f2, hk6, ha6, hg6⟩; have HQ6 := az (HQ5.out.rec hk6 ha6 HE.out.1 hg6); have HOB6 := az (blk_keptM HOB5.out HQ5.out.2.2.1.1.obj hg6); clear hk6 ha6 hg6))
      obtain ⟨R, hR⟩ : ∃ R, w6.heap.size = R := ⟨_, rfl⟩
      obtain ⟨wo, hwo⟩ : ∃ wo, w6.alloc (.cells #[.int .i64 p1, .int .i64 p2] 143) = wo := ⟨_, rfl⟩
      have hb6 : Below w6.heap.size w6 wo := by rw [← hwo]; exact below_alloc (Below.refl _ _) _
      have HQo := az (HQ6.out.below hb6)
      have HOBo := az (blk_below HOB6.out hb6)
      have HRo : Aside0 (wo.heap[R]? = some (.cells #[.int .i64 p1, .int .i64 p2] 143 (0, 0))) := ⟨by rw [← hwo, ← hR]; exact blk_new w6 _⟩
      have HFQo := az (HFL.out.keptM HMO.out HQo.out.2.2.2.2)
      rw [hwo, hR]
      clear hwo hR hb6 HQ6 HOB6 q1 q1b q5 hx5
      obtain ⟨cc, hcc⟩ : ∃ cc, costV bs W wide fr e = cc := ⟨_, rfl⟩
      have hw5 : wrap64 (p1 + cc) = p1 + cc := add_fit p1 cc (by rw [← HP1.out]; exact (HPB.out e HER.out).1) (by rw [← HP1.out]; exact (HPB.out e HER.out).2) (by rw [← hcc]; exact (cost_fit bs W wide fr e (HWB.out fr e (Nat.le_of_lt HE.out.1) HER.out)).1) (by rw [← hcc]; exact (cost_fit bs W wide fr e (HWB.out fr e (Nat.le_of_lt HE.out.1) HER.out)).2)
      have hw6 : IntKind.i64.wrap (p1 + cc) = p1 + cc := by rw [i64_w]; exact hw5
      have HCC : Aside0 ((if bs.getD n1 0 = 2 then 0 else (wide - W fr e) * (wide - W fr e)) = cc) := ⟨by rw [← hcc, costV, show e - 1 = n1 from by rw [HN1.out]; rfl]⟩
      have HCV := az hcc
      clear hcc
      go_cut [10] (fun v10 wc => v10 = .int .i64 (p1 + cc) ∧ Aside0 (Below wo.heap.size wo wc))
      case first =>
       have hS : PcI w.heap.size gb R p1 wo wo := ⟨(blk_cell HQo.out.1 0).trans rfl, (blk_cell HRo.out 0).trans rfl, ⟨Below.refl _ _⟩⟩
       unfold PcI at hS
       have HM1 := az (show (e : Int) - 1 = (n1 : Int) by rw [HN1.out]; omega)
       have HM2 := az (show n1 < bs.length by omega)
       go_region_held3 (fun V => V.cell? ⟨w.heap.size, 0, none⟩ = some (.pointer (some ⟨gb, 0, none⟩)) ∧ V.cell? ⟨R, 0, none⟩ = some (.int .i64 p1) ∧ Aside0 (Below wo.heap.size wo V)) (first | (with_reducible assumption) | (with_reducible exact PcI.via zI zI) | (with_reducible exact PcI.drew zI)) (first
        | (go_at_call 51; refine (costI_calls k gb A0 c0 rs A1 c1 ws (some ad5) c2 bs wide (fr : Int) (e : Int) (W fr e) n1 _ ?s1 HM1.out HM2.out (HW.out fr e (Nat.le_of_lt HE.out.1) HER.out) (HWB.out fr e (Nat.le_of_lt HE.out.1) HER.out)).mono ?_; (case s1 => exact HFQo.out.below (show PcI w.heap.size gb R p1 wo _ from zI).2.2.out); rw [HCC.out]; rintro e1 w7 ⟨rfl, p⟩))
       all_goals
        go_wp2
        go_meet
        exact ⟨rfl, (show PcI w.heap.size gb R p1 wo _ from zI).2.2⟩
      case rest =>
       obtain ⟨rfl, HBC⟩ := hcut
       have HQc := az (HQo.out.below HBC.out)
       have HOBc := az (blk_below HOBo.out HBC.out)
       obtain ⟨cu1, cu2⟩ := cur
       have o1 := (blk_cell HOBc.out 0).trans (show _ = some (Value.int .i64 cu1) from rfl)
       have o2 := (blk_cell HOBc.out 1).trans (show _ = some (Value.int .i64 cu2) from rfl)
       have o3 := blk_frozen HOBc.out 0
       have o4 := blk_frozen HOBc.out 1
       have HNE : Aside0 (¬ (bs.getD (e - 1) 0 = 0 ∨ fitV W wide fr e = false ∨ (P e).2 = 0)) := ⟨by
        rintro (h | h | h)
        · exact HZ0.out (HZZ.out.symm.trans h)
        · rw [HFI.out] at h; cases h
        · exact HP20.out (HP2.out.symm.trans h)⟩
       by_cases hc2 : cu2 = 0 ∨ p1 + cc < cu1
       ·
        have HST : Aside0 (stepP bs (fitV W wide) (costV bs W wide) P fr e (cu1, cu2) = (p1 + cc, (e : Int))) := ⟨by rw [stepP, if_neg HNE.out, HP1.out, HCV.out, if_pos hc2]⟩
        have HSQ := az ((HQc.out.set HMB.out ⟨w.heap.size + 1 + 1 + 1, 0, none⟩ (.int .i64 (p1 + cc)) (by simp; omega) (by simp) (by simp; omega)).set HMB.out ⟨w.heap.size + 1 + 1 + 1, 1, none⟩ (.int .i64 (e : Int)) (by simp; omega) (by simp) (by simp; omega))
        have HSO := az (blk_put (blk_put HOBc.out 0 (.int .i64 (p1 + cc)) rfl) 1 (.int .i64 (e : Int)) rfl)
        by_cases hc3 : cu2 = 0
        ·
         have b3 : (cu2 == 0) = true := beq_iff_eq.mpr hc3
         clear hc2 hc3
         go_wp2
         go_roundg g
         case measure => have := HGG.out; omega
         case rel => exact ⟨e + 1, g, (p1 + cc, (e : Int)), f2, by simp, Nat.le_refl _, HEN, ⟨by have h := HF.out; rw [rowP, HST.out] at h; exact h⟩, HSQ, HSO⟩
        ·
         have b3 : (cu2 == 0) = false := beq_eq_false_iff_ne.mpr hc3
         have hlt3 : p1 + cc < cu1 := hc2.resolve_left hc3
         clear hc2 hc3
         go_wp2
         go_roundg g
         case measure => have := HGG.out; omega
         case rel => exact ⟨e + 1, g, (p1 + cc, (e : Int)), f2, by simp, Nat.le_refl _, HEN, ⟨by have h := HF.out; rw [rowP, HST.out] at h; exact h⟩, HSQ, HSO⟩
       ·
        have HST : Aside0 (stepP bs (fitV W wide) (costV bs W wide) P fr e (cu1, cu2) = (cu1, cu2)) := ⟨by rw [stepP, if_neg HNE.out, HP1.out, HCV.out, if_neg hc2]⟩
        have b3 : (cu2 == 0) = false := beq_eq_false_iff_ne.mpr (fun h => hc2 (.inl h))
        have hlt3 : ¬ p1 + cc < cu1 := fun h => hc2 (.inr h)
        clear hc2
        go_wp2
        go_roundg g
        case measure => have := HGG.out; omega
        case rel => exact ⟨e + 1, g, (cu1, cu2), f2, by simp, Nat.le_refl _, HEN, ⟨by have h := HF.out; rw [rowP, HST.out] at h; exact h⟩, HQc, HOBc⟩
theorem planI_calls (k : Nat) (gb : Nat) (A0 : Option Addr) (c0 : Nat) (rs : List Int) (A1 : Option Addr) (c1 : Nat) (ws : List Int) (A2 : Option Addr) (c2 : Nat) (bs : List Int) (wide : Int) (W : Nat → Nat → Int) (M : Nat → Nat) (P : Nat → Int × Int) (mb : Nat) (hn : rs.length ≤ 1000) (hbl : bs.length = rs.length) (hW : ∀ i j : Nat, i ≤ j → j ≤ rs.length → impl_lineWide.f k rs ws (i : Int) (j : Int) = some (W i j)) (hM : ∀ i : Nat, i < rs.length → ∃ x, slices_Index_int_int.f k (bs.drop i) 2 = some x ∧ (i : Int) + x + 1 = (M i : Int) ∧ i < M i ∧ M i ≤ rs.length) (hP : IsPlan bs (fitV W wide) (costV bs W wide) M rs.length P) (hWb : ∀ i j : Nat, i ≤ j → j ≤ rs.length → (wide - W i j).natAbs ≤ 1000000000) (hPb : ∀ j, j ≤ rs.length → 0 ≤ (P j).1 ∧ (P j).1 ≤ 1000000000000000) : ∀ (d fr : Nat) (f : Int → Option (Int × Int)) (w : World), rs.length - fr ≤ d → fr ≤ rs.length → FlO 69 gb A0 c0 rs A1 c1 ws A2 c2 bs wide w → KnO P rs.length mb f w →
  Calls Tryz.prog 168 #[.agg #[.pointer (some ⟨gb, 0, none⟩), .map (some mb)], .int .i64 fr] w fun x w' => x = .returned (.agg #[.int .i64 (P fr).1, .int .i64 (P fr).2]) ∧ ∃ f', KnO P rs.length mb f' w' ∧ (∀ a : Int, a < (fr : Int) → f' a = f a) ∧ w.grownBy w' (some mb) := by
 have hend : ∀ (f : Int → Option (Int × Int)) (w : World), FlO 69 gb A0 c0 rs A1 c1 ws A2 c2 bs wide w → KnO P rs.length mb f w → Calls Tryz.prog 168 #[.agg #[.pointer (some ⟨gb, 0, none⟩), .map (some mb)], .int .i64 rs.length] w fun x w' => x = .returned (.agg #[.int .i64 (P rs.length).1, .int .i64 (P rs.length).2]) ∧ ∃ f', KnO P rs.length mb f' w' ∧ (∀ a : Int, a < (rs.length : Int) → f' a = f a) ∧ w.grownBy w' (some mb) := fun f w hf hk => by
  refine (planI_end gb A0 c0 rs A1 c1 ws A2 c2 bs wide mb w hf).mono ?_
  rintro e w' ⟨rfl, hb⟩
  rw [hP.1]
  exact ⟨rfl, f, hk.below hb, fun _ _ => rfl, grown_of_below hb _⟩
 intro d
 induction d with
 | zero =>
  intro fr f w hd hfr hf hk
  obtain rfl : fr = rs.length := by omega
  exact hend f w hf hk
 | succ d ih =>
  intro fr f w hd hfr hf hk
  by_cases he : fr = rs.length
  ·
   subst he
   exact hend f w hf hk
  ·
   have hlt : fr < rs.length := by omega
   cases hv : f (fr : Int) with
   | none => exact planI_body k gb A0 c0 rs A1 c1 ws A2 c2 bs wide W M P mb hn hbl hW hM hP hWb hPb fr hlt (fun e f1 w1 h1 h2 h3 h4 => ih e f1 w1 (by omega) h2 h3 h4) f w hf hk hv
   | some v =>
    obtain ⟨j, hj, _, hj2⟩ := hk.2 _ _ hv
    obtain rfl : fr = j := by omega
    subst hj2
    refine (planI_known gb A0 c0 rs A1 c1 ws A2 c2 bs wide P mb fr (P fr) f w hn hlt hf hk hv).mono ?_
    rintro e w' ⟨rfl, hb⟩
    exact ⟨rfl, f, hk.below hb, fun _ _ => rfl, grown_of_below hb _⟩
theorem R_keptM {W W' : World} {base mb : Nat} {ok : Nat → Prop} {v : Value} {xs : List Int} (h : Kd.R (Kd.int .i64) 3 W base ok v xs) (hm : ∃ es c, W.heap[mb]? = some (.map es c)) (hg : W.grownBy W' (some mb)) : Kd.R (Kd.int .i64) 3 W' base (fun _ => True) v xs := by
 obtain ⟨es, c, hm⟩ := hm
 refine Kd.R_mono (Kd.R_move (Kd.R_bound h) (fun k hk => hg.block k hk.2.2.1 (fun e => ?_))) (fun _ _ => trivial)
 obtain ⟨_, _, _, q, _, cells, hc⟩ := hk
 obtain rfl := Option.some.inj e
 rw [hm] at hc
 cases hc
def outP (P : Nat → Int × Int) (n : Nat) : Nat → Nat → Option (Option (List Int))
 | 0, at_ => if at_ < n then none else some (some [])
 | g + 1, at_ => if at_ < n then (if (P at_).2 = 0 then some none else if 0 ≤ (P at_).2 ∧ (P at_).2 ≤ (n : Int) then (outP P n g (P at_).2.toNat).bind fun l => some (l.map fun l => (P at_).2 :: l) else none) else some (some [])
theorem fldPlan (a b : Int) (w : World) : (Instr.field 143 (.agg #[.int .i64 a, .int .i64 b]) 1).run Tryz.prog w = .ok (.int .i64 b) w := by kernel_rfl
theorem endsB_calls (k : Nat) (gb : Nat) (A0 : Option Addr) (c0 : Nat) (rs : List Int) (A1 : Option Addr) (c1 : Nat) (ws : List Int) (A2 : Option Addr) (c2 : Nat) (bs : List Int) (wide : Int) (W : Nat → Nat → Int) (M : Nat → Nat) (N : Nat → Int) (P : Nat → Int × Int) (mb : Nat) (ss r : List Int) (w : World) (hf : FlO 69 gb A0 c0 rs A1 c1 ws A2 c2 bs wide w) (hk : KnO P rs.length mb (fun _ => none) w) (hn : rs.length ≤ 1000) (hbl : bs.length = rs.length) (hW : ∀ i j : Nat, i ≤ j → j ≤ rs.length → impl_lineWide.f k rs ws (i : Int) (j : Int) = some (W i j)) (hM : ∀ i : Nat, i < rs.length → ∃ x, slices_Index_int_int.f k (bs.drop i) 2 = some x ∧ (i : Int) + x + 1 = (M i : Int) ∧ i < M i ∧ M i ≤ rs.length) (hP : IsPlan bs (fitV W wide) (costV bs W wide) M rs.length P) (hWb : ∀ i j : Nat, i ≤ j → j ≤ rs.length → (wide - W i j).natAbs ≤ 1000000000) (hPb : ∀ j, j ≤ rs.length → 0 ≤ (P j).1 ∧ (P j).1 ≤ 1000000000000000) (hs : impl_starts.f k rs = some ss) (hsl : ss.length ≤ 999) (hss : ∀ t, t ∈ ss → 0 ≤ t ∧ t ≤ (rs.length : Int)) (hN : ∀ i : Nat, i < rs.length → nextI bs (fitV W wide) (ss ++ [(rs.length : Int)]) i (M i) = some (N i)) (hr : ((outP P rs.length rs.length 0).bind fun o => match o with | some l => some l | none => greedyN N rs.length rs.length 0) = some r) :
  Calls Tryz.prog 167 #[.agg #[.pointer (some ⟨gb, 0, none⟩), .map (some mb)]] w fun e w' => ∃ v0_ : Value, e = .returned v0_ ∧ Kd.R (Kd.int .i64) 3 w' w.heap.size (fun _ => True) v0_ r ∧ w.grownBy w' (some mb) := by
 obtain ⟨W3, hW3⟩ : ∃ W3, w.alloc (.cells #[.pointer (some ⟨gb, 0, none⟩), .map (some mb)] 84) = W3 := ⟨_, rfl⟩
 have hB3 : Below w.heap.size w W3 := by rw [← hW3]; exact below_alloc (Below.refl _ _) _
 have HX3 : Aside0 (W3.heap[w.heap.size]? = some (.cells #[.pointer (some ⟨gb, 0, none⟩), .map (some mb)] 84 (0, 0))) := ⟨by rw [← hW3]; exact blk_new w _⟩
 have HK3 := az (hk.below hB3)
 have HG3 := az (grown_of_below hB3 (some mb))
 replace hr := Option.bind_eq_some_iff.mp hr
 obtain ⟨o, ho, hr⟩ := hr
 have HOO := az ho
 have HRR := az hr
 have HFL := az hf
 have HMB := az hk.1.lt
 have HMO := az hk.1.obj
 have HW := az hW
 have HM := az hM
 have HBL := az hbl
 have HN := az hn
 have HNX := az hN
 have HP := az hP
 have HWB := az hWb
 have HPB := az hPb
 have HST := az hs
 have HSL := az hsl
 have HSS := az hss
 clear hf hk hW hM hbl hN hs hsl hss hr ho hP hWb hPb hB3
 have hfld := fldPlan
 go_enter Tryz.func167, Tryz.ntmps167
 go_upto_region 1 with fail
 clear hW3
 go_wp2
 go_loopg [3, 4] rs.length (fun gg s3 s4 wr => ∃ (i g : Nat) (out : List Int) (f1 : Int → Option (Int × Int)), s4 = .int .i64 i ∧ i ≤ rs.length ∧ g ≤ gg ∧ Aside0 (∃ ro, outP P rs.length g i = some ro ∧ o = ro.map (fun l => out ++ l)) ∧ Aside0 (out.length + g ≤ rs.length) ∧ Aside0 (Kd.R (Kd.int .i64) 3 wr w.heap.size (fun _ => True) s3 out) ∧ Aside0 (KnO P rs.length mb f1 wr) ∧ Aside0 (w.grownBy wr (some mb)) ∧ Aside0 (wr.heap[w.heap.size]? = some (.cells #[.pointer (some ⟨gb, 0, none⟩), .map (some mb)] 84 (0, 0))))
 case atStart => exact ⟨0, rs.length, [], fun _ => none, rfl, Nat.zero_le _, Nat.le_refl _, ⟨o, HOO.out, by cases o <;> rfl⟩, ⟨by simp⟩, ⟨Kd.R_nil _ _ _ _ _⟩, HK3, HG3, HX3⟩
 case round =>
  clear HOO HK3 HG3 HX3
  obtain ⟨i, g, out, f1, rfl, hi, hg, HF, HLO, HO, HK, HG, HBX⟩ := hrel
  obtain ⟨ro, hq, hro⟩ := HF.out
  have HQ := az (HFL.out.keptM HMO.out HG.out)
  have q0 := (blk_cell HQ.out.1 0).trans (show _ = some (Value.slice A0 rs.length c0) from rfl)
  have qb := (blk_cell HBX.out 0).trans (show _ = some (Value.pointer (some ⟨gb, 0, none⟩)) from rfl)
  have qb1 := (blk_cell HBX.out 1).trans (show _ = some (Value.map (some mb)) from rfl)
  have HLB := az (blk_lt HBX.out)
  by_cases hlt : i < rs.length
  ·
   have hltz : (i : Int) < (rs.length : Int) := by omega
   cases g with
   | zero => rw [outP, if_pos hlt] at hq; cases hq
   | succ g =>
   rw [outP, if_pos hlt] at hq
   have HIL := az hi
   have HGG := az hg
   clear hi hg HF
   by_cases hb : (P i).2 = 0
   ·
    rw [if_pos hb] at hq
    obtain rfl := Option.some.inj hq
    have HPI := az hb
    have hro2 : o = none := hro
    subst hro2
    clear hb hq hro hlt
    go_wp2_with (first
     | (go_at_call 168; go_must (refine (planI_calls k gb A0 c0 rs A1 c1 ws A2 c2 bs wide W M P mb HN.out HBL.out HW.out HM.out HP.out HWB.out HPB.out rs.length i f1 _ (Nat.sub_le _ _) HIL.out HQ.out HK.out).mono ?_); rw [HPI.out]; rintro e w2 ⟨rfl, f2, hk2, _, hg2⟩; have HG2 := az (HG.out.trans hg2); have HFQ2 := az (HFL.out.keptM HMO.out HG2.out); have HBX2 := az (blk_keptM HBX.out HK.out.1.obj hg2); have qc := (blk_cell HBX2.out 0).trans (show _ = some (Value.pointer (some ⟨gb, 0, none⟩)) from rfl); clear hk2 hg2)
     | (go_at_call 162; go_must (refine (endsG_calls k gb A0 c0 rs A1 c1 ws A2 c2 bs wide W M N ss r _ HFQ2.out HN.out HBL.out HW.out HM.out HST.out HSL.out HSS.out HNX.out HRR.out).mono ?_); rintro e w3 ⟨v3, rfl, ho3, hb3⟩; have HO3 := az ho3; have HB3 := az hb3; clear ho3 hb3))
    go_ret
    exact ⟨_, rfl, Kd.R_lower HO3.out HG2.out.size, gr_below HG2.out (HB3.out.mono HG2.out.size)⟩
   ·
    rw [if_neg hb] at hq
    by_cases hb2 : 0 ≤ (P i).2 ∧ (P i).2 ≤ (rs.length : Int)
    case neg => rw [if_neg hb2] at hq; cases hq
    case pos =>
    rw [if_pos hb2] at hq
    replace hq := Option.bind_eq_some_iff.mp hq
    obtain ⟨l, hl, hq⟩ := hq
    obtain rfl := Option.some.inj hq
    obtain ⟨x, hx⟩ : ∃ x : Nat, (P i).2 = x := ⟨(P i).2.toNat, by omega⟩
    rw [hx, Int.toNat_natCast] at hl
    rw [hx] at hb hb2 hro
    have hx0 : ((x : Int) == 0) = false := beq_eq_false_iff_ne.mpr hb
    have hx1 : ¬ x = 0 := by omega
    have HXV := az hx
    have HXB := az hb2.2
    have HLL := az hl
    have HRO := az hro
    clear hx hb2 hl hro hlt hb
    go_wp2_with (first
     | (go_at_call 168; go_must (refine (planI_calls k gb A0 c0 rs A1 c1 ws A2 c2 bs wide W M P mb HN.out HBL.out HW.out HM.out HP.out HWB.out HPB.out rs.length i f1 _ (Nat.sub_le _ _) HIL.out HQ.out HK.out).mono ?_); rw [HXV.out]; rintro e w2 ⟨rfl, f2, hk2, _, hg2⟩; have HG2 := az (HG.out.trans hg2); have HK2 := az hk2; have HBX2 := az (blk_keptM HBX.out HK.out.1.obj hg2); have HO2 := az (R_keptM HO.out HK.out.1.obj hg2); clear hk2 hg2)
     | ((with_reducible refine gate_builtin (b := .append) (xs := #[.tmp 23, .tmp 25]) rfl ?_); at_builtin; go_must (refine appI (w0 := w2) (base := w.heap.size) Tryz.underlying22 info3 rfl (.tmp 23) (.tmp 25) rfl _ out (x : Int) rfl rfl HO2.out (Below.refl _ _) HG2.out.size ?aL ?_); (case aL => have := HLO.out; have := HN.out; omega); intro v9 w9 ho9 hb9 hg9 hat9; have HO9 := az ho9; have HB9 := az hb9; have HBX9 := az (blk_grown HBX2.out hg9 (Kd.R_ne HO2.out HBX2.out (by decide))); clear ho9 hb9 hg9 hat9))
    go_roundg g
    case measure => have := HGG.out; omega
    case rel => exact ⟨x, g, _, f2, rfl, zG HXB.out, Nat.le_refl _, ⟨l, HLL.out, by rw [HRO.out]; cases l <;> simp⟩, ⟨by have := HLO.out; rw [List.length_append]; simp; omega⟩, HO9, ⟨HK2.out.1.same (HB9.out.block mb HMB.out), HK2.out.2⟩, ⟨gr_below HG2.out HB9.out⟩, HBX9⟩
  ·
   have hltz : ¬ (i : Int) < (rs.length : Int) := by omega
   have HRE : Aside0 (out = r) := by
    have h : ro = some [] := by
     cases g with
     | zero => rw [outP, if_neg hlt] at hq; exact (Option.some.inj hq).symm
     | succ g => rw [outP, if_neg hlt] at hq; exact (Option.some.inj hq).symm
    subst h
    subst hro
    have h2 := Option.some.inj HRR.out
    exact ⟨(List.append_nil out).symm.trans h2⟩
   clear hq hro HF
   go_wp2
   go_ret
   exact ⟨_, rfl, by rw [← HRE.out]; exact HO.out, HG.out⟩
def tabP (bs : List Int) (F : Nat → Nat → Bool) (C : Nat → Nat → Int) (M : Nat → Nat) (n : Nat) : Nat → Nat → Int × Int
 | 0 => fun _ => (0, (n : Int))
 | d + 1 => updV (tabP bs F C M n d) (n - 1 - d) (rowP bs F C (tabP bs F C M n d) (n - 1 - d) (M (n - 1 - d) - (n - 1 - d)) (n - 1 - d + 1) (0, 0))
theorem rowP_congr (bs : List Int) (F : Nat → Nat → Bool) (C : Nat → Nat → Int) {P Q : Nat → Int × Int} (a : Nat) : ∀ (g e : Nat) (cur : Int × Int), (∀ j, e ≤ j → j < e + g → P j = Q j) → rowP bs F C P a g e cur = rowP bs F C Q a g e cur
 | 0, _, _, _ => rfl
 | g + 1, e, cur, h => by
  rw [rowP, rowP, show stepP bs F C P a e cur = stepP bs F C Q a e cur by unfold stepP; rw [h e (Nat.le_refl _) (by omega)]]
  exact rowP_congr bs F C a g (e + 1) _ (fun j h1 h2 => h j (by omega) (by omega))
theorem tabP_keep (bs : List Int) (F : Nat → Nat → Bool) (C : Nat → Nat → Int) (M : Nat → Nat) (n d : Nat) (j : Nat) (hj : n - d ≤ j) : ∀ d', d + d' ≤ n → tabP bs F C M n (d + d') j = tabP bs F C M n d j
 | 0, _ => rfl
 | d' + 1, h => by
  rw [show d + (d' + 1) = d + d' + 1 from rfl, tabP, updV_ne _ _ (by omega)]
  exact tabP_keep bs F C M n d j hj d' (by omega)
theorem tabP_isPlan (bs : List Int) (F : Nat → Nat → Bool) (C : Nat → Nat → Int) (M : Nat → Nat) (n : Nat) (hM : ∀ i, i < n → M i ≤ n) : IsPlan bs F C M n (tabP bs F C M n n) := by
 refine ⟨?_, fun i hi => ?_⟩
 ·
  have h := tabP_keep bs F C M n 0 n (by omega) n (by omega)
  rw [Nat.zero_add] at h
  exact h
 ·
  have h1 := tabP_keep bs F C M n (n - 1 - i + 1) i (by omega) i (by omega)
  rw [show n - 1 - i + 1 + i = n by omega] at h1
  rw [h1, tabP, show n - 1 - (n - 1 - i) = i by omega, updV_at]
  refine rowP_congr bs F C i _ _ _ (fun j h2 h3 => ?_)
  have h4 := hM i hi
  have h5 := tabP_keep bs F C M n (n - 1 - i) j (by omega) (i + 1) (by omega)
  rw [show n - 1 - i + (i + 1) = n by omega] at h5
  exact h5.symm
def tabWI (k : Nat) (rs ws : List Int) : Nat → Nat → Int := fun i j => if i ≤ j ∧ j ≤ rs.length then (impl_lineWide.f k rs ws (i : Int) (j : Int)).getD 0 else 0
def okWI (k : Nat) (rs ws : List Int) : Prop := ∀ j, j ≤ rs.length → ∀ i, i ≤ j → (impl_lineWide.f k rs ws (i : Int) (j : Int)).isSome = true
instance (k : Nat) (rs ws : List Int) : Decidable (okWI k rs ws) := by unfold okWI; infer_instance
def tabMI (k : Nat) (bs : List Int) : Nat → Nat := fun i => if i < bs.length then ((i : Int) + (slices_Index_int_int.f k (bs.drop i) 2).getD 0 + 1).toNat else 0
def okMI (k : Nat) (bs : List Int) : Prop := ∀ i, i < bs.length → (slices_Index_int_int.f k (bs.drop i) 2).isSome = true ∧ 0 ≤ (slices_Index_int_int.f k (bs.drop i) 2).getD 0 ∧ tabMI k bs i ≤ bs.length
instance (k : Nat) (bs : List Int) : Decidable (okMI k bs) := by unfold okMI; infer_instance
def okI (bs : List Int) (W : Nat → Nat → Int) (M : Nat → Nat) (ss : List Int) (wide : Int) (n : Nat) : Prop :=
 n ≤ 1000 ∧ bs.length = n ∧ ss.length ≤ 999 ∧ (∀ t, t ∈ ss → 0 ≤ t ∧ t ≤ (n : Int)) ∧ (∀ j, j ≤ n → ∀ i, i ≤ j → (wide - W i j).natAbs ≤ 1000000000) ∧ (∀ j, j ≤ n → 0 ≤ (tabP bs (fitV W wide) (costV bs W wide) M n n j).1 ∧ (tabP bs (fitV W wide) (costV bs W wide) M n n j).1 ≤ 1000000000000000) ∧ ∀ i, i < n → (nextI bs (fitV W wide) (ss ++ [(n : Int)]) i (M i)).isSome = true
instance (bs : List Int) (W : Nat → Nat → Int) (M : Nat → Nat) (ss : List Int) (wide : Int) (n : Nat) : Decidable (okI bs W M ss wide n) := by unfold okI; infer_instance
def linesI (bs : List Int) (W : Nat → Nat → Int) (M : Nat → Nat) (ss : List Int) (wide : Int) (n : Nat) (mode : Int) : Option (List Int) :=
 if okI bs W M ss wide n then
  (if mode = 0 then greedyN (fun i => (nextI bs (fitV W wide) (ss ++ [(n : Int)]) i (M i)).getD 0) n n 0
  else if mode = 1 then (outP (tabP bs (fitV W wide) (costV bs W wide) M n n) n n 0).bind fun o => match o with | some l => some l | none => greedyN (fun i => (nextI bs (fitV W wide) (ss ++ [(n : Int)]) i (M i)).getD 0) n n 0
  else some [])
 else none
def impl_FillLines.f (k : Nat) (l0 : List Int) (l1 : List S50) (a2 a3 : Int) : Option (List Int) :=
 (impl_fillable.f k l0 l1 a2).bind fun a => if a = true then (impl_widesOf.f k l0 l1).bind fun ws => (impl_breaks.f k l0).bind fun bs => (impl_starts.f k l0).bind fun ss => if okWI k l0 ws then (if okMI k bs then linesI bs (tabWI k l0 ws) (tabMI k bs) ss a2 l0.length a3 else none) else none else some []
theorem tabWI_up {k : Nat} {rs ws : List Int} (h : okWI k rs ws) : okWI (k + 1) rs ws ∧ tabWI (k + 1) rs ws = tabWI k rs ws := by
 have e : ∀ j, j ≤ rs.length → ∀ i, i ≤ j → impl_lineWide.f (k + 1) rs ws (i : Int) (j : Int) = impl_lineWide.f k rs ws (i : Int) (j : Int) := fun j hj i hi => by
  obtain ⟨x, hx⟩ := Option.isSome_iff_exists.mp (h j hj i hi)
  rw [hx]
  exact impl_lineWide.mono _ _ _ _ _ _ hx
 refine ⟨fun j hj i hi => by rw [e j hj i hi]; exact h j hj i hi, ?_⟩
 funext i j
 unfold tabWI
 split
 ·
  rename_i hh
  rw [e j hh.2 i hh.1]
 · rfl
theorem tabMI_up {k : Nat} {bs : List Int} (h : okMI k bs) : okMI (k + 1) bs ∧ tabMI (k + 1) bs = tabMI k bs := by
 have e : ∀ i, i < bs.length → slices_Index_int_int.f (k + 1) (bs.drop i) 2 = slices_Index_int_int.f k (bs.drop i) 2 := fun i hi => by
  obtain ⟨x, hx⟩ := Option.isSome_iff_exists.mp (h i hi).1
  rw [hx]
  exact slices_Index_int_int.mono _ _ _ _ hx
 have e2 : tabMI (k + 1) bs = tabMI k bs := by
  funext i
  unfold tabMI
  split
  ·
   rename_i hh
   rw [e i hh]
  · rfl
 exact ⟨fun i hi => by rw [e i hi, e2]; exact h i hi, e2⟩
theorem impl_FillLines.mono : ∀ a0 a1 a2 a3 k, LeO (impl_FillLines.f k a0 a1 a2 a3) (impl_FillLines.f (k + 1) a0 a1 a2 a3) := by
 intro a0 a1 a2 a3 k
 unfold impl_FillLines.f
 refine LeO.bind (impl_fillable.mono _ _ _ _) (fun a => LeO.ite (LeO.bind (impl_widesOf.mono _ _ _) (fun ws => LeO.bind (impl_breaks.mono _ _) (fun bs => LeO.bind (impl_starts.mono _ _) (fun ss => ?_)))) (LeO.refl _))
 intro r hr
 by_cases h1 : okWI k a0 ws
 ·
  rw [if_pos h1] at hr
  by_cases h2 : okMI k bs
  ·
   rw [if_pos h2] at hr
   rw [if_pos (tabWI_up h1).1, if_pos (tabMI_up h2).1, (tabWI_up h1).2, (tabMI_up h2).2]
   exact hr
  · rw [if_neg h2] at hr; cases hr
 · rw [if_neg h1] at hr; cases hr
theorem methG (n : Nat) (v : Value) (w : World) : (method (n + 1) 81 v "loop.example/colophon/impl.ends").run Tryz.prog w = .ok (162, v) w := by kernel_rfl
theorem methB (n : Nat) (v : Value) (w : World) : (method (n + 1) 84 v "loop.example/colophon/impl.ends").run Tryz.prog w = .ok (167, v) w := by kernel_rfl
theorem cntF_none : ∀ m, cntF (fun _ => none) m = 0
 | 0 => rfl
 | m + 1 => by rw [cntF, cntF_none m]; rfl
theorem fillingG_calls (gb : Nat) (w : World) : Calls Tryz.prog 41 #[.pointer (some ⟨gb, 0, none⟩), .int .i64 0] w fun e w' => e = .returned (.iface 81 (.agg #[.pointer (some ⟨gb, 0, none⟩)])) ∧ w' = w := by
 go_enter Tryz.func41, Tryz.ntmps41
 go_wp2
 go_ret
 exact ⟨rfl, rfl⟩
theorem fillingB_calls (gb : Nat) (w : World) : Calls Tryz.prog 41 #[.pointer (some ⟨gb, 0, none⟩), .int .i64 1] w fun e w' => e = .returned (.iface 84 (.agg #[.pointer (some ⟨gb, 0, none⟩), .map (some w.heap.size)])) ∧ w' = w.alloc (.map #[] 0) := by
 have hmm := @run_makeMap Tryz.prog
 go_enter Tryz.func41, Tryz.ntmps41
 go_wp2
 go_ret
 exact ⟨rfl, rfl⟩
theorem fillingN_calls (gb : Nat) (m : Int) (w : World) (h0 : m ≠ 0) (h1 : m ≠ 1) : Calls Tryz.prog 41 #[.pointer (some ⟨gb, 0, none⟩), .int .i64 m] w fun e w' => e = .returned .nilIface ∧ w' = w := by
 have b0 : (m == 0) = false := beq_eq_false_iff_ne.mpr h0
 have b1 : (m == 1) = false := beq_eq_false_iff_ne.mpr h1
 clear h0 h1
 go_enter Tryz.func41, Tryz.ntmps41
 go_wp2
 go_ret
 exact ⟨rfl, rfl⟩
theorem impl_FillLines.calls (k : Nat) (A0 : Option Addr) (c0 : Nat) (l0 : List Int) (A1 : Option Addr) (c1 : Nat) (l1 : List S50) (a2 : Int) (a3 : Int) (r : List Int) (w : World) (hr0 : Kd.C (Kd.int .i64) w A0 l0.length l0) (hc0 : l0.length ≤ c0) (hr1 : Kd.C k50 w A1 l1.length l1) (hc1 : l1.length ≤ c1) (h : impl_FillLines.f k l0 l1 a2 a3 = some r) :
  Calls Tryz.prog 15 #[.slice A0 l0.length c0, .slice A1 l1.length c1, .int .i64 a2, .int .i64 a3] w fun e w' => ∃ v0_ : Value, e = .returned (v0_) ∧ Kd.R (Kd.int .i64) 3 w' w.heap.size (fun _ => True) v0_ r ∧ Below w.heap.size w w' := by
 have HR := az hr0
 have HC := az hc0
 have HR1 := az hr1
 have HC1 := az hc1
 clear hr0 hc0 hr1 hc1
 unfold impl_FillLines.f at h
 replace h := Option.bind_eq_some_iff.mp h
 obtain ⟨a, ha, h⟩ := h
 have HA := az ha
 clear ha
 cases a
 ·
  rw [if_neg (by decide)] at h
  obtain rfl := Option.some.inj h
  clear h
  go_enter Tryz.func15, Tryz.ntmps15
  go_wp2_with (go_at_call 39; go_must (refine (impl_fillable.calls k A0 c0 l0 A1 c1 l1 a2 false _ HR.out HC.out HR1.out HC1.out HA.out).mono ?_); rintro e w1 ⟨rfl, hb1⟩; have HB1 := az hb1; clear hb1)
  go_ret
  exact ⟨_, rfl, Kd.R_nil _ _ _ _ _, HB1.out⟩
 rw [if_pos rfl] at h
 replace h := Option.bind_eq_some_iff.mp h
 obtain ⟨ws, hws, h⟩ := h
 replace h := Option.bind_eq_some_iff.mp h
 obtain ⟨bs, hbs, h⟩ := h
 replace h := Option.bind_eq_some_iff.mp h
 obtain ⟨ss, hss, h⟩ := h
 by_cases h1 : okWI k l0 ws
 case neg => rw [if_neg h1] at h; cases h
 case pos =>
 rw [if_pos h1] at h
 by_cases h2 : okMI k bs
 case neg => rw [if_neg h2] at h; cases h
 case pos =>
 rw [if_pos h2] at h
 unfold linesI at h
 by_cases h3 : okI bs (tabWI k l0 ws) (tabMI k bs) ss a2 l0.length
 case neg => rw [if_neg h3] at h; cases h
 case pos =>
 rw [if_pos h3] at h
 have HW : Aside0 (∀ i j : Nat, i ≤ j → j ≤ l0.length → impl_lineWide.f k l0 ws (i : Int) (j : Int) = some (tabWI k l0 ws i j)) := ⟨fun i j hi hj => by
  obtain ⟨x, hx⟩ := Option.isSome_iff_exists.mp (h1 j hj i hi)
  unfold tabWI
  rw [if_pos ⟨hi, hj⟩, hx]
  rfl⟩
 have HM : Aside0 (∀ i : Nat, i < l0.length → ∃ x, slices_Index_int_int.f k (bs.drop i) 2 = some x ∧ (i : Int) + x + 1 = (tabMI k bs i : Int) ∧ i < tabMI k bs i ∧ tabMI k bs i ≤ l0.length) := ⟨fun i hi => by
  have hib : i < bs.length := by rw [h3.2.1]; exact hi
  obtain ⟨h4, h5, h6⟩ := h2 i hib
  obtain ⟨x, hx⟩ := Option.isSome_iff_exists.mp h4
  rw [h3.2.1] at h6
  rw [hx] at h5
  have e : tabMI k bs i = ((i : Int) + x + 1).toNat := by
   unfold tabMI
   rw [if_pos hib, hx]
   rfl
  rw [e] at h6 ⊢
  simp only [Option.getD_some] at h5
  exact ⟨x, hx, by omega, by omega, h6⟩⟩
 have HNX : Aside0 (∀ i : Nat, i < l0.length → nextI bs (fitV (tabWI k l0 ws) a2) (ss ++ [(l0.length : Int)]) i (tabMI k bs i) = some ((nextI bs (fitV (tabWI k l0 ws) a2) (ss ++ [(l0.length : Int)]) i (tabMI k bs i)).getD 0)) := ⟨fun i hi => by
  obtain ⟨x, hx⟩ := Option.isSome_iff_exists.mp (h3.2.2.2.2.2.2 i hi)
  rw [hx]
  rfl⟩
 have HP : Aside0 (IsPlan bs (fitV (tabWI k l0 ws) a2) (costV bs (tabWI k l0 ws) a2) (tabMI k bs) l0.length (tabP bs (fitV (tabWI k l0 ws) a2) (costV bs (tabWI k l0 ws) a2) (tabMI k bs) l0.length l0.length)) := ⟨tabP_isPlan _ _ _ _ _ (fun i hi => by obtain ⟨_, _, _, _, h4⟩ := HM.out i hi; exact h4)⟩
 have HOK := az h3
 have HH := az h
 have HWS := az hws
 have HBS := az hbs
 have HSS := az hss
 clear h h1 h2 h3 hws hbs hss
 by_cases hm0 : a3 = 0
 ·
  subst hm0
  have HG := az ((if_pos rfl).symm.trans HH.out)
  have hmg := methG
  go_enter Tryz.func15, Tryz.ntmps15
  go_wp2_with (first
   | (go_at_call 39; go_must (refine (impl_fillable.calls k A0 c0 l0 A1 c1 l1 a2 true _ HR.out HC.out HR1.out HC1.out HA.out).mono ?_); rintro e w1 ⟨rfl, hb1⟩; have HB1 := az hb1; clear hb1)
   | (go_at_call 40; go_must (refine (newFiller_calls k A0 c0 l0 A1 c1 l1 a2 ws bs _ (Kd.C_below HR.out HB1.out) HC.out (Kd.C_below HR1.out HB1.out) HC1.out HWS.out HBS.out).mono ?_); rintro e w2 ⟨gb, A4, c4, A5, c5, rfl, hfl, hb2⟩; have HFL := az hfl; have HB2 := az (below_then HB1.out HB1.out.size hb2); clear hfl hb2)
   | (go_at_call 41; go_must (refine (fillingG_calls _ _).mono ?_); rintro e w3 ⟨rfl, rfl⟩)
   | (go_at_call 162; go_must (refine (endsG_calls k gb A0 c0 l0 A4 c4 ws A5 c5 bs a2 (tabWI k l0 ws) (tabMI k bs) _ ss r _ HFL.out HOK.out.1 HOK.out.2.1 HW.out HM.out HSS.out HOK.out.2.2.1 HOK.out.2.2.2.1 HNX.out HG.out).mono ?_); rintro e w4 ⟨v4, rfl, ho4, hb4⟩; have HO4 := az ho4; have HB4 := az hb4; clear ho4 hb4))
  go_ret
  exact ⟨_, rfl, Kd.R_lower HO4.out HB2.out.size, below_then HB2.out HB2.out.size HB4.out⟩
 ·
  by_cases hm1 : a3 = 1
  ·
   subst hm1
   have HG := az ((if_neg hm0).symm.trans HH.out)
   have HG1 := az ((if_pos rfl).symm.trans HG.out)
   clear hm0
   have hmb := methB
   go_enter Tryz.func15, Tryz.ntmps15
   go_wp2_with (first
    | (go_at_call 39; go_must (refine (impl_fillable.calls k A0 c0 l0 A1 c1 l1 a2 true _ HR.out HC.out HR1.out HC1.out HA.out).mono ?_); rintro e w1 ⟨rfl, hb1⟩; have HB1 := az hb1; clear hb1)
    | (go_at_call 40; go_must (refine (newFiller_calls k A0 c0 l0 A1 c1 l1 a2 ws bs _ (Kd.C_below HR.out HB1.out) HC.out (Kd.C_below HR1.out HB1.out) HC1.out HWS.out HBS.out).mono ?_); rintro e w2 ⟨gb, A4, c4, A5, c5, rfl, hfl, hb2⟩; have HFL := az hfl; have HB2 := az (below_then HB1.out HB1.out.size hb2); clear hfl hb2)
    | (go_at_call 41; go_must (refine (fillingB_calls _ _).mono ?_); rintro e w3 ⟨rfl, hw3⟩; have HMP : Aside0 (MapP w3 w2.heap.size 0 (fun _ => none)) := ⟨by rw [hw3]; exact MapP.made w2⟩; have HB23 : Aside0 (Below w2.heap.size w2 w3) := ⟨by rw [hw3]; exact below_alloc (Below.refl _ _) _⟩; clear hw3)
    | (go_at_call 167; go_must (refine (endsB_calls k gb A0 c0 l0 A4 c4 ws A5 c5 bs a2 (tabWI k l0 ws) (tabMI k bs) _ _ w2.heap.size ss r _ (HFL.out.below HB23.out) ⟨by rw [cntF_none]; exact HMP.out, fun a v h => by cases h⟩ HOK.out.1 HOK.out.2.1 HW.out HM.out HP.out (fun i j hi hj => HOK.out.2.2.2.2.1 j hj i hi) HOK.out.2.2.2.2.2.1 HSS.out HOK.out.2.2.1 HOK.out.2.2.2.1 HNX.out HG1.out).mono ?_); rintro e w4 ⟨v4, rfl, ho4, hg4⟩; have HO4 := az ho4; have HG4 := az hg4; clear ho4 hg4))
   go_ret
   have HB3 := below_then HB2.out HB2.out.size HB23.out
   exact ⟨_, rfl, Kd.R_lower HO4.out HB3.size, HB3.grown HG4.out HB3.size (fun k e => by cases e; exact HB2.out.size)⟩
  ·
   have HG := az ((if_neg hm0).symm.trans HH.out)
   have HG1 := az ((if_neg hm1).symm.trans HG.out)
   have HE : Aside0 ([] = r) := ⟨Option.some.inj HG1.out⟩
   have HM0 := az (And.intro hm0 hm1)
   clear hm0 hm1
   go_enter Tryz.func15, Tryz.ntmps15
   go_wp2_with (first
    | (go_at_call 39; go_must (refine (impl_fillable.calls k A0 c0 l0 A1 c1 l1 a2 true _ HR.out HC.out HR1.out HC1.out HA.out).mono ?_); rintro e w1 ⟨rfl, hb1⟩; have HB1 := az hb1; clear hb1)
    | (go_at_call 40; go_must (refine (newFiller_calls k A0 c0 l0 A1 c1 l1 a2 ws bs _ (Kd.C_below HR.out HB1.out) HC.out (Kd.C_below HR1.out HB1.out) HC1.out HWS.out HBS.out).mono ?_); rintro e w2 ⟨gb, A4, c4, A5, c5, rfl, hfl, hb2⟩; have HFL := az hfl; have HB2 := az (below_then HB1.out HB1.out.size hb2); clear hfl hb2)
    | (go_at_call 41; go_must (refine (fillingN_calls _ _ _ HM0.out.1 HM0.out.2).mono ?_); rintro e w3 ⟨rfl, rfl⟩))
   go_ret
   exact ⟨_, rfl, by rw [← HE.out]; exact Kd.R_nil _ _ _ _ _, HB2.out⟩
def laws_eqIntS.l0 : Nat → List Int → List Int → Int → Option (Bool)
 | 0, _, _, _ => none
 | k + 1, x0, x1, x5 => if x5 < (x0.length : Int) then (if 0 ≤ x5 then (if x5 < (x1.length : Int) then (if (rd x0 x5) = (rd x1 x5) then (laws_eqIntS.l0 k x0 x1 (wrap64 (x5 + 1))) else (some false)) else (none)) else (none)) else (some true)
def laws_eqIntS.f (k : Nat) (l0 : List Int) (l1 : List Int) : Option (Bool) := if (l0.length : Int) = (l1.length : Int) then (laws_eqIntS.l0 k l0 l1 0) else (some false)
theorem laws_eqIntS.mono_l : ∀ k, (∀ y0 y1 y2, LeO (laws_eqIntS.l0 k y0 y1 y2) (laws_eqIntS.l0 (k + 1) y0 y1 y2))
 | 0 => fun _ _ _ r h => by simp [laws_eqIntS.l0] at h
 | k + 1 => by
  have ih0 := laws_eqIntS.mono_l k
  ·
   intro y0 y1 y2; unfold laws_eqIntS.l0
   repeat' first
   | (with_reducible exact ih0 _ _ _)
   | (with_reducible exact LeO.refl _)
   | (with_reducible exact LeO.none _)
   | (with_reducible refine LeO.ite ?_ ?_)
   | (with_reducible refine LeO.bind ?_ (fun _ => ?_))
   | exact ih0 _ _ _
   | exact LeO.none _
   | refine LeO.ite ?_ ?_
   | refine LeO.bind ?_ (fun _ => ?_)
theorem laws_eqIntS.mono : ∀ a0 a1 k, LeO (laws_eqIntS.f k a0 a1) (laws_eqIntS.f (k + 1) a0 a1) := by
 intro a0 a1 k; have ih0 := laws_eqIntS.mono_l k; unfold laws_eqIntS.f
 repeat' first
   | (with_reducible exact ih0 _ _ _)
   | (with_reducible exact LeO.refl _)
   | (with_reducible exact LeO.none _)
   | (with_reducible refine LeO.ite ?_ ?_)
   | (with_reducible refine LeO.bind ?_ (fun _ => ?_))
   | exact ih0 _ _ _
   | exact LeO.none _
   | refine LeO.ite ?_ ?_
   | refine LeO.bind ?_ (fun _ => ?_)
theorem laws_eqIntS.calls (k : Nat) (A0 : Option Addr) (c0 : Nat) (l0 : List Int) (A1 : Option Addr) (c1 : Nat) (l1 : List Int) (r : Bool) (w : World) (hr0 : Kd.C (Kd.int .i64) w A0 l0.length l0) (hc0 : l0.length ≤ c0) (hr1 : Kd.C (Kd.int .i64) w A1 l1.length l1) (hc1 : l1.length ≤ c1) (h : laws_eqIntS.f k l0 l1 = some r) :
  Calls Tryz.prog 16 #[.slice A0 l0.length c0, .slice A1 l1.length c1] w fun e w' => e = .returned (.bool r) ∧ Drawn0 w w' := by
 have HR0 := az hr0; have HC0 := az hc0; clear hr0 hc0; have HR1 := az hr1; have HC1 := az hc1; clear hr1 hc1; have H : (if (l0.length : Int) = (l1.length : Int) then (laws_eqIntS.l0 k l0 l1 0) else (some false)) = some r := h; clear h; by_cases c3 : (l0.length : Int) = (l1.length : Int)
 ·
  rw [if_pos c3] at H; have c3b0 : ((l0.length : Int) == (l1.length : Int)) = true := beq_iff_eq.mpr c3; have c3b1 : ((l0.length : Int) != (l1.length : Int)) = false := bne_eq_false_iff_eq.mpr c3; have c3b2 : (l0.length == l1.length) = true := by first | simpa using c3 | (simp at c3 ⊢; omega)
  clear c3; have H' := az H; clear H; go_enter Tryz.func16, Tryz.ntmps16; go_wp2; repeat (go_quiet (fail); try go_wp2)
  go_loopg [5] k (fun kq v5 w' => ∃ (x5_1 : Int), v5 = .int .i64 x5_1 ∧ Aside0 (laws_eqIntS.l0 kq l0 l1 x5_1 = some r) ∧ Aside0 (kq ≤ k) ∧ Drawn0 w w')
  case atStart => exact ⟨(0), zB, H', ⟨Nat.le_refl _⟩, zE⟩
  case round =>
   clear H'; (try clear c1); (try clear p2); (try clear c3); (try clear c3b0); (try clear c3b1); (try clear c3b2); obtain ⟨x5_1, rfl, HA, HK1, ⟨m1, rfl⟩⟩ := hrel
   cases gk with
   | zero => exact absurd HA.out (by simp [laws_eqIntS.l0])
   | succ k1 =>
    have H := HA.out; clear HA; simp only [laws_eqIntS.l0] at H; by_cases c4 : x5_1 < (l0.length : Int)
    ·
     rw [if_pos c4] at H; have c4b0 : decide (x5_1 < (l0.length : Int)) = true := decide_eq_true c4; clear c4; by_cases c5 : 0 ≤ x5_1
     ·
      rw [if_pos c5] at H; have c5b0 : decide (0 ≤ x5_1) = true := decide_eq_true c5; clear c5; by_cases c6 : x5_1 < (l1.length : Int)
      ·
       rw [if_pos c6] at H; have c6b0 : decide (x5_1 < (l1.length : Int)) = true := decide_eq_true c6; clear c6; by_cases c7 : (rd l0 x5_1) = (rd l1 x5_1)
       ·
        rw [if_pos c7] at H; have c7b0 : ((rd l0 x5_1) == (rd l1 x5_1)) = true := beq_iff_eq.mpr c7; have c7b1 : ((rd l0 x5_1) != (rd l1 x5_1)) = false := bne_eq_false_iff_eq.mpr c7; clear c7; have H' := az H; clear H; have p367 : 0 ≤ (x5_1 : Int) := of_decide_eq_true (by assumption); have q367 : x5_1 < (l0.length : Int) := of_decide_eq_true (by assumption); obtain ⟨ad367, e367, hx367_0⟩ := Kd.at_int HR0.out x5_1 p367 q367
        cases e367
        replace p367 := eq_true p367; replace q367 := eq_true q367; have p368 : 0 ≤ (x5_1 : Int) := of_decide_eq_true (by assumption); have q368 : x5_1 < (l1.length : Int) := of_decide_eq_true (by assumption); obtain ⟨ad368, e368, hx368_0⟩ := Kd.at_int HR1.out x5_1 p368 q368
        cases e368
        replace p368 := eq_true p368; replace q368 := eq_true q368; go_wp2; repeat (go_quiet (fail); try go_wp2)
        go_roundg k1
        case measure => have := HK1.out; omega
        case rel => exact ⟨(wrap64 (x5_1 + 1)), zB, H', ⟨zG HK1.out⟩, zE⟩
       ·
        rw [if_neg c7] at H; have c7b0 : ((rd l0 x5_1) == (rd l1 x5_1)) = false := beq_eq_false_iff_ne.mpr c7; have c7b1 : ((rd l0 x5_1) != (rd l1 x5_1)) = true := bne_iff_ne.mpr c7; obtain rfl := Option.some.inj H; have p367 : 0 ≤ (x5_1 : Int) := of_decide_eq_true (by assumption); have q367 : x5_1 < (l0.length : Int) := of_decide_eq_true (by assumption); obtain ⟨ad367, e367, hx367_0⟩ := Kd.at_int HR0.out x5_1 p367 q367
        cases e367
        replace p367 := eq_true p367; replace q367 := eq_true q367; have p368 : 0 ≤ (x5_1 : Int) := of_decide_eq_true (by assumption); have q368 : x5_1 < (l1.length : Int) := of_decide_eq_true (by assumption); obtain ⟨ad368, e368, hx368_0⟩ := Kd.at_int HR1.out x5_1 p368 q368
        cases e368
        replace p368 := eq_true p368; replace q368 := eq_true q368; go_wp2; repeat (go_quiet (fail); try go_wp2)
        go_ret; exact ⟨zB, zE⟩
      ·
       rw [if_neg c6] at H; exact absurd H (by simp)
     ·
      rw [if_neg c5] at H; exact absurd H (by simp)
    ·
     rw [if_neg c4] at H; have c4b0 : decide (x5_1 < (l0.length : Int)) = false := decide_eq_false c4; clear c4; obtain rfl := Option.some.inj H; go_wp2; repeat (go_quiet (fail); try go_wp2)
     go_ret; exact ⟨zB, zE⟩
 ·
  rw [if_neg c3] at H; have c3b0 : ((l0.length : Int) == (l1.length : Int)) = false := beq_eq_false_iff_ne.mpr c3; have c3b1 : ((l0.length : Int) != (l1.length : Int)) = true := bne_iff_ne.mpr c3; have c3b2 : (l0.length == l1.length) = false := by first | simpa using c3 | (simp at c3 ⊢; omega)
  obtain rfl := Option.some.inj H; go_enter Tryz.func16, Tryz.ntmps16; go_wp2; repeat (go_quiet (fail); try go_wp2)
  go_ret; exact ⟨zB, zE⟩
def laws_eqSpan.f (a0_0 : Int) (a0_1 : Int) (a0_2 : Int) (a0_3 : Int) (a1_0 : Int) (a1_1 : Int) (a1_2 : Int) (a1_3 : Int) : Option (Bool) := if a0_0 = a1_0 then (if a0_1 = a1_1 then (if a0_2 = a1_2 then (if a0_3 = a1_3 then (some true) else (some false)) else (some false)) else (some false)) else (some false)
theorem laws_eqSpan.calls (a0_0 : Int) (a0_1 : Int) (a0_2 : Int) (a0_3 : Int) (a1_0 : Int) (a1_1 : Int) (a1_2 : Int) (a1_3 : Int) (r : Bool) (w : World) (h : laws_eqSpan.f a0_0 a0_1 a0_2 a0_3 a1_0 a1_1 a1_2 a1_3 = some r) :
  Calls Tryz.prog 42 #[.agg #[.int .i64 a0_0, .int .i64 a0_1, .int .i64 a0_2, .int .i64 a0_3], .agg #[.int .i64 a1_0, .int .i64 a1_1, .int .i64 a1_2, .int .i64 a1_3]] w fun e w' => e = .returned (.bool r) ∧ Below w.heap.size w w' := by
 have hu50 := Tryz.underlying50; have HB := az (Below.refl w.heap.size w); have H : (if a0_0 = a1_0 then (if a0_1 = a1_1 then (if a0_2 = a1_2 then (if a0_3 = a1_3 then (some true) else (some false)) else (some false)) else (some false)) else (some false)) = some r := h; clear h; by_cases c3 : a0_0 = a1_0
 ·
  rw [if_pos c3] at H; have c3b0 : (a0_0 == a1_0) = true := beq_iff_eq.mpr c3; have c3b1 : (a0_0 != a1_0) = false := bne_eq_false_iff_eq.mpr c3; clear c3; by_cases c4 : a0_1 = a1_1
  ·
   rw [if_pos c4] at H; have c4b0 : (a0_1 == a1_1) = true := beq_iff_eq.mpr c4; have c4b1 : (a0_1 != a1_1) = false := bne_eq_false_iff_eq.mpr c4; clear c4; by_cases c5 : a0_2 = a1_2
   ·
    rw [if_pos c5] at H; have c5b0 : (a0_2 == a1_2) = true := beq_iff_eq.mpr c5; have c5b1 : (a0_2 != a1_2) = false := bne_eq_false_iff_eq.mpr c5; clear c5; by_cases c6 : a0_3 = a1_3
    ·
     rw [if_pos c6] at H; have c6b0 : (a0_3 == a1_3) = true := beq_iff_eq.mpr c6; have c6b1 : (a0_3 != a1_3) = false := bne_eq_false_iff_eq.mpr c6; clear c6; obtain rfl := Option.some.inj H; go_enter Tryz.func42, Tryz.ntmps42; go_wp2_with (first | ((with_reducible refine gate_dst (N := 2) rfl ?_); refine box_event ?hg (N := 2) ?hd (cs := #[.int .i64 a0_0, .int .i64 a0_1, .int .i64 a0_2, .int .i64 a0_3]) (t := 50) ?hr ?_; (case hd => rfl); (case hg => rfl); (case hr => first | (go_simp; done) | (go_simp; rfl)); intro gb369 hg w7 hbox hb; have n0_ := az (below_step (zA HB.out) hb); have n1_ := az (hbox); have n2_ := az ((by rw [hg]; exact (below_size (zA HB.out)) : w.heap.size ≤ gb369)); have n3_ := az ((by rw [hg]; exact (below_size (zA HB.out)) : w.heap.size ≤ gb369)); clear HB; have HB := n0_; have BK369 := n1_; have GW369 := n2_; have GE369 := n3_; clear n0_ n1_ n2_ n3_; clear hb hbox hg) | ((with_reducible refine gate_dst (N := 3) rfl ?_); refine box_event ?hg (N := 3) ?hd (cs := #[.int .i64 a1_0, .int .i64 a1_1, .int .i64 a1_2, .int .i64 a1_3]) (t := 50) ?hr ?_; (case hd => rfl); (case hg => rfl); (case hr => first | (go_simp; done) | (go_simp; rfl)); intro gb370 hg w8 hbox hb; have n0_ := az (blk_below (g := gb369) (o := .cells #[.int .i64 a0_0, .int .i64 a0_1, .int .i64 a0_2, .int .i64 a0_3] 50 (0, 0)) (zJ BK369.out) hb); have n1_ := az (below_step (zH HB.out GE369.out) hb); have n2_ := az (hbox); have n3_ := az ((by rw [hg]; exact (below_size (zH HB.out GE369.out)) : w.heap.size ≤ gb370)); have n4_ := az ((by rw [hg]; exact (below_size (zH HB.out GE369.out)) : w.heap.size ≤ gb370)); have n5_ := az ((by rw [hg]; exact Nat.ne_of_lt (blk_lt (g := gb369) (o := .cells #[.int .i64 a0_0, .int .i64 a0_1, .int .i64 a0_2, .int .i64 a0_3] 50 (0, 0)) (zJ BK369.out)) : gb369 ≠ gb370)); have n6_ := az ((by rw [hg]; exact Nat.ne_of_gt (blk_lt (g := gb369) (o := .cells #[.int .i64 a0_0, .int .i64 a0_1, .int .i64 a0_2, .int .i64 a0_3] 50 (0, 0)) (zJ BK369.out)) : gb370 ≠ gb369)); clear BK369; clear HB; have BK369 := n0_; have HB := n1_; have BK370 := n2_; have GW370 := n3_; have GE370 := n4_; have NB369_370 := n5_; have NB370_369 := n6_; clear n0_ n1_ n2_ n3_ n4_ n5_ n6_; clear hb hbox hg; have hnb9 := NB369_370.out; have hnc9 := NB370_369.out; have hcz10_0 : w8.cell? ⟨gb369, 0, none⟩ = some (.int .i64 a0_0) := (blk_cell BK369.out 0).trans rfl; have hcz10_1 : w8.cell? ⟨gb369, 1, none⟩ = some (.int .i64 a0_1) := (blk_cell BK369.out 1).trans rfl; have hcz10_2 : w8.cell? ⟨gb369, 2, none⟩ = some (.int .i64 a0_2) := (blk_cell BK369.out 2).trans rfl; have hcz10_3 : w8.cell? ⟨gb369, 3, none⟩ = some (.int .i64 a0_3) := (blk_cell BK369.out 3).trans rfl; have hfz10_0 := blk_frozen BK369.out 0; have hfz10_1 := blk_frozen BK369.out 1; have hfz10_2 := blk_frozen BK369.out 2; have hfz10_3 := blk_frozen BK369.out 3; have hcz11_0 : w8.cell? ⟨gb370, 0, none⟩ = some (.int .i64 a1_0) := (blk_cell BK370.out 0).trans rfl; have hcz11_1 : w8.cell? ⟨gb370, 1, none⟩ = some (.int .i64 a1_1) := (blk_cell BK370.out 1).trans rfl; have hcz11_2 : w8.cell? ⟨gb370, 2, none⟩ = some (.int .i64 a1_2) := (blk_cell BK370.out 2).trans rfl; have hcz11_3 : w8.cell? ⟨gb370, 3, none⟩ = some (.int .i64 a1_3) := (blk_cell BK370.out 3).trans rfl; have hfz11_0 := blk_frozen BK370.out 0; have hfz11_1 := blk_frozen BK370.out 1; have hfz11_2 := blk_frozen BK370.out 2; have hfz11_3 := blk_frozen BK370.out 3))
     go_ret; exact ⟨zF, zQ HB.out GE369.out GE370.out⟩
    ·
     rw [if_neg c6] at H; have c6b0 : (a0_3 == a1_3) = false := beq_eq_false_iff_ne.mpr c6; have c6b1 : (a0_3 != a1_3) = true := bne_iff_ne.mpr c6; obtain rfl := Option.some.inj H; go_enter Tryz.func42, Tryz.ntmps42; go_wp2_with (first | ((with_reducible refine gate_dst (N := 2) rfl ?_); refine box_event ?hg (N := 2) ?hd (cs := #[.int .i64 a0_0, .int .i64 a0_1, .int .i64 a0_2, .int .i64 a0_3]) (t := 50) ?hr ?_; (case hd => rfl); (case hg => rfl); (case hr => first | (go_simp; done) | (go_simp; rfl)); intro gb369 hg w12 hbox hb; have n0_ := az (below_step (zA HB.out) hb); have n1_ := az (hbox); have n2_ := az ((by rw [hg]; exact (below_size (zA HB.out)) : w.heap.size ≤ gb369)); have n3_ := az ((by rw [hg]; exact (below_size (zA HB.out)) : w.heap.size ≤ gb369)); clear HB; have HB := n0_; have BK369 := n1_; have GW369 := n2_; have GE369 := n3_; clear n0_ n1_ n2_ n3_; clear hb hbox hg) | ((with_reducible refine gate_dst (N := 3) rfl ?_); refine box_event ?hg (N := 3) ?hd (cs := #[.int .i64 a1_0, .int .i64 a1_1, .int .i64 a1_2, .int .i64 a1_3]) (t := 50) ?hr ?_; (case hd => rfl); (case hg => rfl); (case hr => first | (go_simp; done) | (go_simp; rfl)); intro gb370 hg w13 hbox hb; have n0_ := az (blk_below (g := gb369) (o := .cells #[.int .i64 a0_0, .int .i64 a0_1, .int .i64 a0_2, .int .i64 a0_3] 50 (0, 0)) (zJ BK369.out) hb); have n1_ := az (below_step (zH HB.out GE369.out) hb); have n2_ := az (hbox); have n3_ := az ((by rw [hg]; exact (below_size (zH HB.out GE369.out)) : w.heap.size ≤ gb370)); have n4_ := az ((by rw [hg]; exact (below_size (zH HB.out GE369.out)) : w.heap.size ≤ gb370)); have n5_ := az ((by rw [hg]; exact Nat.ne_of_lt (blk_lt (g := gb369) (o := .cells #[.int .i64 a0_0, .int .i64 a0_1, .int .i64 a0_2, .int .i64 a0_3] 50 (0, 0)) (zJ BK369.out)) : gb369 ≠ gb370)); have n6_ := az ((by rw [hg]; exact Nat.ne_of_gt (blk_lt (g := gb369) (o := .cells #[.int .i64 a0_0, .int .i64 a0_1, .int .i64 a0_2, .int .i64 a0_3] 50 (0, 0)) (zJ BK369.out)) : gb370 ≠ gb369)); clear BK369; clear HB; have BK369 := n0_; have HB := n1_; have BK370 := n2_; have GW370 := n3_; have GE370 := n4_; have NB369_370 := n5_; have NB370_369 := n6_; clear n0_ n1_ n2_ n3_ n4_ n5_ n6_; clear hb hbox hg; have hnb14 := NB369_370.out; have hnc14 := NB370_369.out; have hcz15_0 : w13.cell? ⟨gb369, 0, none⟩ = some (.int .i64 a0_0) := (blk_cell BK369.out 0).trans rfl; have hcz15_1 : w13.cell? ⟨gb369, 1, none⟩ = some (.int .i64 a0_1) := (blk_cell BK369.out 1).trans rfl; have hcz15_2 : w13.cell? ⟨gb369, 2, none⟩ = some (.int .i64 a0_2) := (blk_cell BK369.out 2).trans rfl; have hcz15_3 : w13.cell? ⟨gb369, 3, none⟩ = some (.int .i64 a0_3) := (blk_cell BK369.out 3).trans rfl; have hfz15_0 := blk_frozen BK369.out 0; have hfz15_1 := blk_frozen BK369.out 1; have hfz15_2 := blk_frozen BK369.out 2; have hfz15_3 := blk_frozen BK369.out 3; have hcz16_0 : w13.cell? ⟨gb370, 0, none⟩ = some (.int .i64 a1_0) := (blk_cell BK370.out 0).trans rfl; have hcz16_1 : w13.cell? ⟨gb370, 1, none⟩ = some (.int .i64 a1_1) := (blk_cell BK370.out 1).trans rfl; have hcz16_2 : w13.cell? ⟨gb370, 2, none⟩ = some (.int .i64 a1_2) := (blk_cell BK370.out 2).trans rfl; have hcz16_3 : w13.cell? ⟨gb370, 3, none⟩ = some (.int .i64 a1_3) := (blk_cell BK370.out 3).trans rfl; have hfz16_0 := blk_frozen BK370.out 0; have hfz16_1 := blk_frozen BK370.out 1; have hfz16_2 := blk_frozen BK370.out 2; have hfz16_3 := blk_frozen BK370.out 3))
     go_ret; exact ⟨zF, zQ HB.out GE369.out GE370.out⟩
   ·
    rw [if_neg c5] at H; have c5b0 : (a0_2 == a1_2) = false := beq_eq_false_iff_ne.mpr c5; have c5b1 : (a0_2 != a1_2) = true := bne_iff_ne.mpr c5; obtain rfl := Option.some.inj H; go_enter Tryz.func42, Tryz.ntmps42; go_wp2_with (first | ((with_reducible refine gate_dst (N := 2) rfl ?_); refine box_event ?hg (N := 2) ?hd (cs := #[.int .i64 a0_0, .int .i64 a0_1, .int .i64 a0_2, .int .i64 a0_3]) (t := 50) ?hr ?_; (case hd => rfl); (case hg => rfl); (case hr => first | (go_simp; done) | (go_simp; rfl)); intro gb369 hg w17 hbox hb; have n0_ := az (below_step (zA HB.out) hb); have n1_ := az (hbox); have n2_ := az ((by rw [hg]; exact (below_size (zA HB.out)) : w.heap.size ≤ gb369)); have n3_ := az ((by rw [hg]; exact (below_size (zA HB.out)) : w.heap.size ≤ gb369)); clear HB; have HB := n0_; have BK369 := n1_; have GW369 := n2_; have GE369 := n3_; clear n0_ n1_ n2_ n3_; clear hb hbox hg) | ((with_reducible refine gate_dst (N := 3) rfl ?_); refine box_event ?hg (N := 3) ?hd (cs := #[.int .i64 a1_0, .int .i64 a1_1, .int .i64 a1_2, .int .i64 a1_3]) (t := 50) ?hr ?_; (case hd => rfl); (case hg => rfl); (case hr => first | (go_simp; done) | (go_simp; rfl)); intro gb370 hg w18 hbox hb; have n0_ := az (blk_below (g := gb369) (o := .cells #[.int .i64 a0_0, .int .i64 a0_1, .int .i64 a0_2, .int .i64 a0_3] 50 (0, 0)) (zJ BK369.out) hb); have n1_ := az (below_step (zH HB.out GE369.out) hb); have n2_ := az (hbox); have n3_ := az ((by rw [hg]; exact (below_size (zH HB.out GE369.out)) : w.heap.size ≤ gb370)); have n4_ := az ((by rw [hg]; exact (below_size (zH HB.out GE369.out)) : w.heap.size ≤ gb370)); have n5_ := az ((by rw [hg]; exact Nat.ne_of_lt (blk_lt (g := gb369) (o := .cells #[.int .i64 a0_0, .int .i64 a0_1, .int .i64 a0_2, .int .i64 a0_3] 50 (0, 0)) (zJ BK369.out)) : gb369 ≠ gb370)); have n6_ := az ((by rw [hg]; exact Nat.ne_of_gt (blk_lt (g := gb369) (o := .cells #[.int .i64 a0_0, .int .i64 a0_1, .int .i64 a0_2, .int .i64 a0_3] 50 (0, 0)) (zJ BK369.out)) : gb370 ≠ gb369)); clear BK369; clear HB; have BK369 := n0_; have HB := n1_; have BK370 := n2_; have GW370 := n3_; have GE370 := n4_; have NB369_370 := n5_; have NB370_369 := n6_; clear n0_ n1_ n2_ n3_ n4_ n5_ n6_; clear hb hbox hg; have hnb19 := NB369_370.out; have hnc19 := NB370_369.out; have hcz20_0 : w18.cell? ⟨gb369, 0, none⟩ = some (.int .i64 a0_0) := (blk_cell BK369.out 0).trans rfl; have hcz20_1 : w18.cell? ⟨gb369, 1, none⟩ = some (.int .i64 a0_1) := (blk_cell BK369.out 1).trans rfl; have hcz20_2 : w18.cell? ⟨gb369, 2, none⟩ = some (.int .i64 a0_2) := (blk_cell BK369.out 2).trans rfl; have hcz20_3 : w18.cell? ⟨gb369, 3, none⟩ = some (.int .i64 a0_3) := (blk_cell BK369.out 3).trans rfl; have hfz20_0 := blk_frozen BK369.out 0; have hfz20_1 := blk_frozen BK369.out 1; have hfz20_2 := blk_frozen BK369.out 2; have hfz20_3 := blk_frozen BK369.out 3; have hcz21_0 : w18.cell? ⟨gb370, 0, none⟩ = some (.int .i64 a1_0) := (blk_cell BK370.out 0).trans rfl; have hcz21_1 : w18.cell? ⟨gb370, 1, none⟩ = some (.int .i64 a1_1) := (blk_cell BK370.out 1).trans rfl; have hcz21_2 : w18.cell? ⟨gb370, 2, none⟩ = some (.int .i64 a1_2) := (blk_cell BK370.out 2).trans rfl; have hcz21_3 : w18.cell? ⟨gb370, 3, none⟩ = some (.int .i64 a1_3) := (blk_cell BK370.out 3).trans rfl; have hfz21_0 := blk_frozen BK370.out 0; have hfz21_1 := blk_frozen BK370.out 1; have hfz21_2 := blk_frozen BK370.out 2; have hfz21_3 := blk_frozen BK370.out 3))
    go_ret; exact ⟨zF, zQ HB.out GE369.out GE370.out⟩
  ·
   rw [if_neg c4] at H; have c4b0 : (a0_1 == a1_1) = false := beq_eq_false_iff_ne.mpr c4; have c4b1 : (a0_1 != a1_1) = true := bne_iff_ne.mpr c4; obtain rfl := Option.some.inj H; go_enter Tryz.func42, Tryz.ntmps42; go_wp2_with (first | ((with_reducible refine gate_dst (N := 2) rfl ?_); refine box_event ?hg (N := 2) ?hd (cs := #[.int .i64 a0_0, .int .i64 a0_1, .int .i64 a0_2, .int .i64 a0_3]) (t := 50) ?hr ?_; (case hd => rfl); (case hg => rfl); (case hr => first | (go_simp; done) | (go_simp; rfl)); intro gb369 hg w22 hbox hb; have n0_ := az (below_step (zA HB.out) hb); have n1_ := az (hbox); have n2_ := az ((by rw [hg]; exact (below_size (zA HB.out)) : w.heap.size ≤ gb369)); have n3_ := az ((by rw [hg]; exact (below_size (zA HB.out)) : w.heap.size ≤ gb369)); clear HB; have HB := n0_; have BK369 := n1_; have GW369 := n2_; have GE369 := n3_; clear n0_ n1_ n2_ n3_; clear hb hbox hg) | ((with_reducible refine gate_dst (N := 3) rfl ?_); refine box_event ?hg (N := 3) ?hd (cs := #[.int .i64 a1_0, .int .i64 a1_1, .int .i64 a1_2, .int .i64 a1_3]) (t := 50) ?hr ?_; (case hd => rfl); (case hg => rfl); (case hr => first | (go_simp; done) | (go_simp; rfl)); intro gb370 hg w23 hbox hb; have n0_ := az (blk_below (g := gb369) (o := .cells #[.int .i64 a0_0, .int .i64 a0_1, .int .i64 a0_2, .int .i64 a0_3] 50 (0, 0)) (zJ BK369.out) hb); have n1_ := az (below_step (zH HB.out GE369.out) hb); have n2_ := az (hbox); have n3_ := az ((by rw [hg]; exact (below_size (zH HB.out GE369.out)) : w.heap.size ≤ gb370)); have n4_ := az ((by rw [hg]; exact (below_size (zH HB.out GE369.out)) : w.heap.size ≤ gb370)); have n5_ := az ((by rw [hg]; exact Nat.ne_of_lt (blk_lt (g := gb369) (o := .cells #[.int .i64 a0_0, .int .i64 a0_1, .int .i64 a0_2, .int .i64 a0_3] 50 (0, 0)) (zJ BK369.out)) : gb369 ≠ gb370)); have n6_ := az ((by rw [hg]; exact Nat.ne_of_gt (blk_lt (g := gb369) (o := .cells #[.int .i64 a0_0, .int .i64 a0_1, .int .i64 a0_2, .int .i64 a0_3] 50 (0, 0)) (zJ BK369.out)) : gb370 ≠ gb369)); clear BK369; clear HB; have BK369 := n0_; have HB := n1_; have BK370 := n2_; have GW370 := n3_; have GE370 := n4_; have NB369_370 := n5_; have NB370_369 := n6_; clear n0_ n1_ n2_ n3_ n4_ n5_ n6_; clear hb hbox hg; have hnb24 := NB369_370.out; have hnc24 := NB370_369.out; have hcz25_0 : w23.cell? ⟨gb369, 0, none⟩ = some (.int .i64 a0_0) := (blk_cell BK369.out 0).trans rfl; have hcz25_1 : w23.cell? ⟨gb369, 1, none⟩ = some (.int .i64 a0_1) := (blk_cell BK369.out 1).trans rfl; have hcz25_2 : w23.cell? ⟨gb369, 2, none⟩ = some (.int .i64 a0_2) := (blk_cell BK369.out 2).trans rfl; have hcz25_3 : w23.cell? ⟨gb369, 3, none⟩ = some (.int .i64 a0_3) := (blk_cell BK369.out 3).trans rfl; have hfz25_0 := blk_frozen BK369.out 0; have hfz25_1 := blk_frozen BK369.out 1; have hfz25_2 := blk_frozen BK369.out 2; have hfz25_3 := blk_frozen BK369.out 3; have hcz26_0 : w23.cell? ⟨gb370, 0, none⟩ = some (.int .i64 a1_0) := (blk_cell BK370.out 0).trans rfl; have hcz26_1 : w23.cell? ⟨gb370, 1, none⟩ = some (.int .i64 a1_1) := (blk_cell BK370.out 1).trans rfl; have hcz26_2 : w23.cell? ⟨gb370, 2, none⟩ = some (.int .i64 a1_2) := (blk_cell BK370.out 2).trans rfl; have hcz26_3 : w23.cell? ⟨gb370, 3, none⟩ = some (.int .i64 a1_3) := (blk_cell BK370.out 3).trans rfl; have hfz26_0 := blk_frozen BK370.out 0; have hfz26_1 := blk_frozen BK370.out 1; have hfz26_2 := blk_frozen BK370.out 2; have hfz26_3 := blk_frozen BK370.out 3))
   go_ret; exact ⟨zF, zQ HB.out GE369.out GE370.out⟩
 ·
  rw [if_neg c3] at H; have c3b0 : (a0_0 == a1_0) = false := beq_eq_false_iff_ne.mpr c3; have c3b1 : (a0_0 != a1_0) = true := bne_iff_ne.mpr c3; obtain rfl := Option.some.inj H; go_enter Tryz.func42, Tryz.ntmps42; go_wp2_with (first | ((with_reducible refine gate_dst (N := 2) rfl ?_); refine box_event ?hg (N := 2) ?hd (cs := #[.int .i64 a0_0, .int .i64 a0_1, .int .i64 a0_2, .int .i64 a0_3]) (t := 50) ?hr ?_; (case hd => rfl); (case hg => rfl); (case hr => first | (go_simp; done) | (go_simp; rfl)); intro gb369 hg w27 hbox hb; have n0_ := az (below_step (zA HB.out) hb); have n1_ := az (hbox); have n2_ := az ((by rw [hg]; exact (below_size (zA HB.out)) : w.heap.size ≤ gb369)); have n3_ := az ((by rw [hg]; exact (below_size (zA HB.out)) : w.heap.size ≤ gb369)); clear HB; have HB := n0_; have BK369 := n1_; have GW369 := n2_; have GE369 := n3_; clear n0_ n1_ n2_ n3_; clear hb hbox hg) | ((with_reducible refine gate_dst (N := 3) rfl ?_); refine box_event ?hg (N := 3) ?hd (cs := #[.int .i64 a1_0, .int .i64 a1_1, .int .i64 a1_2, .int .i64 a1_3]) (t := 50) ?hr ?_; (case hd => rfl); (case hg => rfl); (case hr => first | (go_simp; done) | (go_simp; rfl)); intro gb370 hg w28 hbox hb; have n0_ := az (blk_below (g := gb369) (o := .cells #[.int .i64 a0_0, .int .i64 a0_1, .int .i64 a0_2, .int .i64 a0_3] 50 (0, 0)) (zJ BK369.out) hb); have n1_ := az (below_step (zH HB.out GE369.out) hb); have n2_ := az (hbox); have n3_ := az ((by rw [hg]; exact (below_size (zH HB.out GE369.out)) : w.heap.size ≤ gb370)); have n4_ := az ((by rw [hg]; exact (below_size (zH HB.out GE369.out)) : w.heap.size ≤ gb370)); have n5_ := az ((by rw [hg]; exact Nat.ne_of_lt (blk_lt (g := gb369) (o := .cells #[.int .i64 a0_0, .int .i64 a0_1, .int .i64 a0_2, .int .i64 a0_3] 50 (0, 0)) (zJ BK369.out)) : gb369 ≠ gb370)); have n6_ := az ((by rw [hg]; exact Nat.ne_of_gt (blk_lt (g := gb369) (o := .cells #[.int .i64 a0_0, .int .i64 a0_1, .int .i64 a0_2, .int .i64 a0_3] 50 (0, 0)) (zJ BK369.out)) : gb370 ≠ gb369)); clear BK369; clear HB; have BK369 := n0_; have HB := n1_; have BK370 := n2_; have GW370 := n3_; have GE370 := n4_; have NB369_370 := n5_; have NB370_369 := n6_; clear n0_ n1_ n2_ n3_ n4_ n5_ n6_; clear hb hbox hg; have hnb29 := NB369_370.out; have hnc29 := NB370_369.out; have hcz30_0 : w28.cell? ⟨gb369, 0, none⟩ = some (.int .i64 a0_0) := (blk_cell BK369.out 0).trans rfl; have hcz30_1 : w28.cell? ⟨gb369, 1, none⟩ = some (.int .i64 a0_1) := (blk_cell BK369.out 1).trans rfl; have hcz30_2 : w28.cell? ⟨gb369, 2, none⟩ = some (.int .i64 a0_2) := (blk_cell BK369.out 2).trans rfl; have hcz30_3 : w28.cell? ⟨gb369, 3, none⟩ = some (.int .i64 a0_3) := (blk_cell BK369.out 3).trans rfl; have hfz30_0 := blk_frozen BK369.out 0; have hfz30_1 := blk_frozen BK369.out 1; have hfz30_2 := blk_frozen BK369.out 2; have hfz30_3 := blk_frozen BK369.out 3; have hcz31_0 : w28.cell? ⟨gb370, 0, none⟩ = some (.int .i64 a1_0) := (blk_cell BK370.out 0).trans rfl; have hcz31_1 : w28.cell? ⟨gb370, 1, none⟩ = some (.int .i64 a1_1) := (blk_cell BK370.out 1).trans rfl; have hcz31_2 : w28.cell? ⟨gb370, 2, none⟩ = some (.int .i64 a1_2) := (blk_cell BK370.out 2).trans rfl; have hcz31_3 : w28.cell? ⟨gb370, 3, none⟩ = some (.int .i64 a1_3) := (blk_cell BK370.out 3).trans rfl; have hfz31_0 := blk_frozen BK370.out 0; have hfz31_1 := blk_frozen BK370.out 1; have hfz31_2 := blk_frozen BK370.out 2; have hfz31_3 := blk_frozen BK370.out 3))
  go_ret; exact ⟨zF, zQ HB.out GE369.out GE370.out⟩
abbrev q50M0 : Array Bool := #[false, false, false, false, false, false, false, false, false, false]
abbrev q50M1 : Array Bool := #[true, false, false, false, false, false, false, false, false, false]
abbrev q50M2 : Array Bool := #[true, true, false, false, false, false, false, false, false, false]
abbrev q50M3 : Array Bool := #[true, true, true, false, false, false, false, false, false, false]
abbrev q50M4 : Array Bool := #[true, true, true, false, true, false, false, false, false, false]
abbrev q50M5 : Array Bool := #[true, true, true, false, true, true, false, false, false, false]
abbrev q50M6 : Array Bool := #[true, true, true, false, true, true, true, false, false, false]
abbrev q50M7 : Array Bool := #[true, true, true, true, true, true, true, false, false, false]
abbrev q50M8 : Array Bool := #[true, true, true, true, true, true, true, true, false, false]
abbrev q50M9 : Array Bool := #[true, true, true, true, true, true, true, true, true, false]
abbrev q50M10 : Array Bool := #[true, true, true, true, true, true, true, true, true, true]
theorem q50s {α : Type} (l : List α) (i : Nat) (a : α) : l.toArray.setIfInBounds i a = (l.set i a).toArray := List.setIfInBounds_toArray ..
theorem q50z {α : Type} (a : α) (l : List α) (b : α) : (a :: l).set 0 b = b :: l := List.set_cons_zero ..
theorem q50n {α : Type} (a : α) (l : List α) (i : Nat) (b : α) : (a :: l).set (i + 1) b = a :: l.set i b := List.set_cons_succ ..
def laws_eqSpanS.l0 : Nat → List (S50) → List (S50) → Int → Option (Bool)
 | 0, _, _, _ => none
 | k + 1, x0, x1, x5 => if x5 < (x0.length : Int) then (if 0 ≤ x5 then (if x5 < (x1.length : Int) then ((laws_eqSpan.f ((rd_T50 x0 x5).f0) ((rd_T50 x0 x5).f1) ((rd_T50 x0 x5).f2) ((rd_T50 x0 x5).f3) ((rd_T50 x1 x5).f0) ((rd_T50 x1 x5).f1) ((rd_T50 x1 x5).f2) ((rd_T50 x1 x5).f3)).bind fun t373 => (if t373 = true then (laws_eqSpanS.l0 k x0 x1 (wrap64 (x5 + 1))) else (some false))) else (none)) else (none)) else (some true)
def laws_eqSpanS.f (k : Nat) (l0 : List (S50)) (l1 : List (S50)) : Option (Bool) := if (l0.length : Int) = (l1.length : Int) then (laws_eqSpanS.l0 k l0 l1 0) else (some false)
theorem laws_eqSpanS.mono_l : ∀ k, (∀ y0 y1 y2, LeO (laws_eqSpanS.l0 k y0 y1 y2) (laws_eqSpanS.l0 (k + 1) y0 y1 y2))
 | 0 => fun _ _ _ r h => by simp [laws_eqSpanS.l0] at h
 | k + 1 => by
  have ih0 := laws_eqSpanS.mono_l k
  ·
   intro y0 y1 y2; unfold laws_eqSpanS.l0
   repeat' first
   | (with_reducible exact ih0 _ _ _)
   | (with_reducible exact LeO.refl _)
   | (with_reducible exact LeO.none _)
   | (with_reducible refine LeO.ite ?_ ?_)
   | (with_reducible refine LeO.bind ?_ (fun _ => ?_))
   | exact ih0 _ _ _
   | exact LeO.none _
   | refine LeO.ite ?_ ?_
   | refine LeO.bind ?_ (fun _ => ?_)
theorem laws_eqSpanS.mono : ∀ a0 a1 k, LeO (laws_eqSpanS.f k a0 a1) (laws_eqSpanS.f (k + 1) a0 a1) := by
 intro a0 a1 k; have ih0 := laws_eqSpanS.mono_l k; unfold laws_eqSpanS.f
 repeat' first
   | (with_reducible exact ih0 _ _ _)
   | (with_reducible exact LeO.refl _)
   | (with_reducible exact LeO.none _)
   | (with_reducible refine LeO.ite ?_ ?_)
   | (with_reducible refine LeO.bind ?_ (fun _ => ?_))
   | exact ih0 _ _ _
   | exact LeO.none _
   | refine LeO.ite ?_ ?_
   | refine LeO.bind ?_ (fun _ => ?_)
def laws_eqSpanS.T6 : Bool × List (List Nat × List Nat) := (true, [([], []), ([], []), ([0, 1], [0, 1]), ([2], [2]), ([], []), ([], []), ([4, 5], [4, 5]), ([6], [6]), ([3, 7], [3, 7]), ([8], [8])])
def laws_eqSpanS.B6 : List Nat := [0, 0, 3, 7, 0, 0, 48, 112, 255, 511]
theorem laws_eqSpanS.tab6 : rtab .any (opsOf Tryz.f17 6) = laws_eqSpanS.T6 := by kernel_rfl
theorem laws_eqSpanS.bits6 : waitsOk laws_eqSpanS.T6.2 laws_eqSpanS.B6 = true := by kernel_rfl
theorem laws_eqSpanS.calls (k : Nat) (A0 : Option Addr) (c0 : Nat) (l0 : List (S50)) (A1 : Option Addr) (c1 : Nat) (l1 : List (S50)) (r : Bool) (w : World) (hr0 : Kd.C k50 w A0 l0.length l0) (hc0 : l0.length ≤ c0) (hr1 : Kd.C k50 w A1 l1.length l1) (hc1 : l1.length ≤ c1) (h : laws_eqSpanS.f k l0 l1 = some r) :
  Calls Tryz.prog 17 #[.slice A0 l0.length c0, .slice A1 l1.length c1] w fun e w' => e = .returned (.bool r) ∧ Below w.heap.size w w' := by
 have hu50 := Tryz.underlying50; have HR0 := az hr0; have HC0 := az hc0; clear hr0 hc0; have HR1 := az hr1; have HC1 := az hc1; clear hr1 hc1; have HB := az (Below.refl w.heap.size w); have H : (if (l0.length : Int) = (l1.length : Int) then (laws_eqSpanS.l0 k l0 l1 0) else (some false)) = some r := h; clear h; by_cases c3 : (l0.length : Int) = (l1.length : Int)
 ·
  rw [if_pos c3] at H; have c3b0 : ((l0.length : Int) == (l1.length : Int)) = true := beq_iff_eq.mpr c3; have c3b1 : ((l0.length : Int) != (l1.length : Int)) = false := bne_eq_false_iff_eq.mpr c3; have c3b2 : (l0.length == l1.length) = true := by first | simpa using c3 | (simp at c3 ⊢; omega)
  clear c3; have H' := az H; clear H; go_enter Tryz.func17, Tryz.ntmps17; go_wp2; go_loopg [5] k (fun kq v5 w' => ∃ (x5_1 : Int), v5 = .int .i64 x5_1 ∧ Aside0 (laws_eqSpanS.l0 kq l0 l1 x5_1 = some r) ∧ Aside0 (kq ≤ k) ∧ Aside0 (Below w.heap.size w w'))
  case atStart => exact ⟨(0), zB, H', ⟨Nat.le_refl _⟩, ⟨zA HB.out⟩⟩
  case round =>
   clear H'; (try clear c1); (try clear p2); (try clear c3); (try clear c3b0); (try clear c3b1); (try clear c3b2); obtain ⟨x5_1, rfl, HA, HK1, HB⟩ := hrel
   cases gk with
   | zero => exact absurd HA.out (by simp [laws_eqSpanS.l0])
   | succ k1 =>
    have H := HA.out; clear HA; simp only [laws_eqSpanS.l0] at H; by_cases c4 : x5_1 < (l0.length : Int)
    ·
     rw [if_pos c4] at H; have c4b0 : decide (x5_1 < (l0.length : Int)) = true := decide_eq_true c4; clear c4; by_cases c5 : 0 ≤ x5_1
     ·
      rw [if_pos c5] at H; have c5b0 : decide (0 ≤ x5_1) = true := decide_eq_true c5; clear c5; by_cases c6 : x5_1 < (l1.length : Int)
      ·
       rw [if_pos c6] at H; have c6b0 : decide (x5_1 < (l1.length : Int)) = true := decide_eq_true c6; clear c6; replace H := Option.bind_eq_some_iff.mp H; obtain ⟨t373, A70, H⟩ := H; replace H : (if t373 = true then (laws_eqSpanS.l0 k1 l0 l1 (wrap64 (x5_1 + 1))) else (some false)) = some r := H; have A7 := az A70; clear A70; by_cases c8 : t373 = true
       ·
        subst c8; have H1 : (laws_eqSpanS.l0 k1 l0 l1 (wrap64 (x5_1 + 1))) = some r := by rw [if_pos rfl] at H; exact H
        clear H; have H := H1; clear H1; have H' := az H; clear H; (try go_wp2); have n0_ := az (below_drew1 HB.out); clear HB; have HB := n0_; clear n0_; have p371 : 0 ≤ (x5_1 : Int) := of_decide_eq_true (by assumption); have q371 : x5_1 < (l0.length : Int) := of_decide_eq_true (by assumption); obtain ⟨ad371, e371, hx371_0, hx371_1, hx371_2, hx371_3⟩ := at_T50 HR0.out x5_1 p371 q371; have hw371_3 := hx371_3; have hw371_2 := hx371_2; have hw371_1 := hx371_1; have hw371_0 := hx371_0
        cases e371
        replace hx371_0 := (HB.out.cell (World.block_lt_of_cell? w _ hx371_0)).trans hx371_0; replace hx371_1 := (HB.out.cell (World.block_lt_of_cell? w _ hx371_1)).trans hx371_1; replace hx371_2 := (HB.out.cell (World.block_lt_of_cell? w _ hx371_2)).trans hx371_2; replace hx371_3 := (HB.out.cell (World.block_lt_of_cell? w _ hx371_3)).trans hx371_3; replace p371 := eq_true p371; replace q371 := eq_true q371; have p372 : 0 ≤ (x5_1 : Int) := of_decide_eq_true (by assumption); have q372 : x5_1 < (l1.length : Int) := of_decide_eq_true (by assumption); obtain ⟨ad372, e372, hx372_0, hx372_1, hx372_2, hx372_3⟩ := at_T50 HR1.out x5_1 p372 q372; have hw372_3 := hx372_3; have hw372_2 := hx372_2; have hw372_1 := hx372_1; have hw372_0 := hx372_0
        cases e372
        replace hx372_0 := (HB.out.cell (World.block_lt_of_cell? w _ hx372_0)).trans hx372_0; replace hx372_1 := (HB.out.cell (World.block_lt_of_cell? w _ hx372_1)).trans hx372_1; replace hx372_2 := (HB.out.cell (World.block_lt_of_cell? w _ hx372_2)).trans hx372_2; replace hx372_3 := (HB.out.cell (World.block_lt_of_cell? w _ hx372_3)).trans hx372_3; replace p372 := eq_true p372; replace q372 := eq_true q372; refine start_ (n := 10) (S := fun w' => w'.cell? (ad371.add ((x5_1).toNat * 4)) = some (.int .i64 ((rd_T50 l0 x5_1).f0)) ∧ w'.cell? ⟨(ad371.add ((x5_1).toNat * 4)).block, (ad371.add ((x5_1).toNat * 4)).off + 1, none⟩ = some (.int .i64 ((rd_T50 l0 x5_1).f1)) ∧ w'.cell? ⟨(ad371.add ((x5_1).toNat * 4)).block, (ad371.add ((x5_1).toNat * 4)).off + 2, none⟩ = some (.int .i64 ((rd_T50 l0 x5_1).f2)) ∧ w'.cell? ⟨(ad371.add ((x5_1).toNat * 4)).block, (ad371.add ((x5_1).toNat * 4)).off + 3, none⟩ = some (.int .i64 ((rd_T50 l0 x5_1).f3)) ∧ w'.cell? (ad372.add ((x5_1).toNat * 4)) = some (.int .i64 ((rd_T50 l1 x5_1).f0)) ∧ w'.cell? ⟨(ad372.add ((x5_1).toNat * 4)).block, (ad372.add ((x5_1).toNat * 4)).off + 1, none⟩ = some (.int .i64 ((rd_T50 l1 x5_1).f1)) ∧ w'.cell? ⟨(ad372.add ((x5_1).toNat * 4)).block, (ad372.add ((x5_1).toNat * 4)).off + 2, none⟩ = some (.int .i64 ((rd_T50 l1 x5_1).f2)) ∧ w'.cell? ⟨(ad372.add ((x5_1).toNat * 4)).block, (ad372.add ((x5_1).toNat * 4)).off + 3, none⟩ = some (.int .i64 ((rd_T50 l1 x5_1).f3))) (ds := []) q50M0 (by kernel_rfl) rfl rfl ⟨((HB.out.cell (World.block_lt_of_cell? w _ hw371_0)).trans hw371_0), ((HB.out.cell (World.block_lt_of_cell? w _ hw371_1)).trans hw371_1), ((HB.out.cell (World.block_lt_of_cell? w _ hw371_2)).trans hw371_2), ((HB.out.cell (World.block_lt_of_cell? w _ hw371_3)).trans hw371_3), ((HB.out.cell (World.block_lt_of_cell? w _ hw372_0)).trans hw372_0), ((HB.out.cell (World.block_lt_of_cell? w _ hw372_1)).trans hw372_1), ((HB.out.cell (World.block_lt_of_cell? w _ hw372_2)).trans hw372_2), ((HB.out.cell (World.block_lt_of_cell? w _ hw372_3)).trans hw372_3)⟩ (fun hHeld => ?_); refine with_tabW laws_eqSpanS.tab6 laws_eqSpanS.bits6 (fun HT_ HW_ => ?_); generalize wr.drew = w9 at HB hx371_0 hx371_1 hx371_2 hx371_3 hx372_0 hx372_1 hx372_2 hx372_3 hHeld ⊢; refine pure_ (i := 0) (N := some 17) (v := ?_) (a' := ?_) q50M1 rfl rfl (any_of HT_.out (by kernel_rfl)) (fun _ _ _ => id) (Or.inl ⟨by rfl, ?_⟩) ?_ ?_; rotate_left; intro w'; go_simp; (with_reducible rfl); rotate_left; simp only [Act.put, q50s, q50z, q50n, i64_w, i32_w]; rfl; refine pure_ (i := 1) (N := some 18) (v := ?_) (a' := ?_) q50M2 rfl rfl (any_of HT_.out (by kernel_rfl)) (fun _ _ _ => id) (Or.inl ⟨by rfl, ?_⟩) ?_ ?_; rotate_left; intro w'; go_simp; (with_reducible rfl); rotate_left; simp only [Act.put, q50s, q50z, q50n, i64_w, i32_w]; rfl; refine pure_ (i := 2) (N := some 19) (v := ?_) (a' := ?_) q50M3 rfl rfl (any_of HT_.out (by kernel_rfl)) (fun _ _ _ => id) (Or.inl ⟨by rfl, ?_⟩) ?_ ?_; rotate_left; intro w'; go_simp; (with_reducible rfl); rotate_left; simp only [Act.put, q50s, q50z, q50n, i64_w, i32_w]; rfl; refine pure_ (i := 4) (N := some 21) (v := ?_) (a' := ?_) q50M4 rfl rfl (any_of HT_.out (by kernel_rfl)) (fun _ _ _ => id) (Or.inl ⟨by rfl, ?_⟩) ?_ ?_; rotate_left; intro w'; go_simp; (with_reducible rfl); rotate_left; simp only [Act.put, q50s, q50z, q50n, i64_w, i32_w]; rfl; refine pure_ (i := 5) (N := some 22) (v := ?_) (a' := ?_) q50M5 rfl rfl (any_of HT_.out (by kernel_rfl)) (fun _ _ _ => id) (Or.inl ⟨by rfl, ?_⟩) ?_ ?_; rotate_left; intro w'; go_simp; (with_reducible rfl); rotate_left; simp only [Act.put, q50s, q50z, q50n, i64_w, i32_w]; rfl; refine pure_ (i := 6) (N := some 23) (v := ?_) (a' := ?_) q50M6 rfl rfl (any_of HT_.out (by kernel_rfl)) (fun _ _ _ => id) (Or.inl ⟨by rfl, ?_⟩) ?_ ?_; rotate_left; intro w'; go_simp; (with_reducible rfl); rotate_left; simp only [Act.put, q50s, q50z, q50n, i64_w, i32_w]; rfl; refine take_ (i := 3) (N := some 20) (v := ?_) (a' := ?_) q50M7 rfl rfl (take_ofW HT_.out HW_.out (by kernel_rfl)) (fun _ _ _ => id) (Or.inl ⟨by rfl, ?_⟩) hHeld ?_ ?_
        rotate_left
        ·
         rintro w' ⟨s0, s1, s2, s3, s4, s5, s6, s7⟩; go_simp; with_reducible rfl
        rotate_left
        · simp only [Act.put, q50s, q50z, q50n, i64_w, i32_w]; rfl
        refine take_ (i := 7) (N := some 24) (v := ?_) (a' := ?_) q50M8 rfl rfl (take_ofW HT_.out HW_.out (by kernel_rfl)) (fun _ _ _ => id) (Or.inl ⟨by rfl, ?_⟩) hHeld ?_ ?_; rotate_left
        ·
         rintro w' ⟨s0, s1, s2, s3, s4, s5, s6, s7⟩; go_simp; with_reducible rfl
        rotate_left
        · simp only [Act.put, q50s, q50z, q50n, i64_w, i32_w]; rfl
        refine one_ (i := 8) (N := some 25) q50M9 rfl rfl (one_of HT_.out (by kernel_rfl)) (by decide) (fun K hK => ?_); refine goes_ Tryz.func42 (by kernel_rfl) rfl #[.agg #[.int .i64 ((rd_T50 l0 x5_1).f0), .int .i64 ((rd_T50 l0 x5_1).f1), .int .i64 ((rd_T50 l0 x5_1).f2), .int .i64 ((rd_T50 l0 x5_1).f3)], .agg #[.int .i64 ((rd_T50 l1 x5_1).f0), .int .i64 ((rd_T50 l1 x5_1).f1), .int .i64 ((rd_T50 l1 x5_1).f2), .int .i64 ((rd_T50 l1 x5_1).f3)]] (by rfl) rfl rfl zD ?_; with_reducible refine (laws_eqSpan.calls ((rd_T50 l0 x5_1).f0) ((rd_T50 l0 x5_1).f1) ((rd_T50 l0 x5_1).f2) ((rd_T50 l0 x5_1).f3) ((rd_T50 l1 x5_1).f0) ((rd_T50 l1 x5_1).f1) ((rd_T50 l1 x5_1).f2) ((rd_T50 l1 x5_1).f3) true _ A7.out).mono ?_
        rintro e w10 ⟨rfl, hb⟩; refine ⟨_, rfl, ?_⟩; have n0_ := az (below_step (zA HB.out) hb); clear HB; have HB := n0_; clear n0_; (try clear hb); (try clear hb2); (try clear hk); (try clear hi); refine hK.out _ _ ⟨((HB.out.cell (World.block_lt_of_cell? w _ hw371_0)).trans hw371_0), ((HB.out.cell (World.block_lt_of_cell? w _ hw371_1)).trans hw371_1), ((HB.out.cell (World.block_lt_of_cell? w _ hw371_2)).trans hw371_2), ((HB.out.cell (World.block_lt_of_cell? w _ hw371_3)).trans hw371_3), ((HB.out.cell (World.block_lt_of_cell? w _ hw372_0)).trans hw372_0), ((HB.out.cell (World.block_lt_of_cell? w _ hw372_1)).trans hw372_1), ((HB.out.cell (World.block_lt_of_cell? w _ hw372_2)).trans hw372_2), ((HB.out.cell (World.block_lt_of_cell? w _ hw372_3)).trans hw372_3)⟩ (fun hHeld => ?_); clear hK K; refine norm_ (a' := ?_) ?_ ?_; rotate_left
        ·
         show Act.put _ (some 25) _ = _; simp only [Act.put, q50s, q50z, q50n, i64_w, i32_w]; rfl
        refine pure_ (i := 9) (N := some 26) (v := ?_) (a' := ?_) q50M10 rfl rfl (any_of HT_.out (by kernel_rfl)) (fun _ _ _ => id) (Or.inl ⟨by rfl, ?_⟩) ?_ ?_; rotate_left; intro w'; go_simp; (with_reducible rfl); rotate_left; simp only [Act.put, q50s, q50z, q50n, i64_w, i32_w]; rfl; refine done_ (done_of HT_.out (by kernel_rfl)) ?_; (try go_wp2); go_roundg k1
        case measure => have := HK1.out; omega
        case rel => exact ⟨(wrap64 (x5_1 + 1)), zB, H', ⟨zG HK1.out⟩, ⟨zA HB.out⟩⟩
       ·
        replace c8 := Bool.eq_false_iff.mpr c8; subst c8; have H1 : (some false) = some r := by rw [if_neg (show ¬ (false = true) by decide)] at H; exact H
        clear H; have H := H1; clear H1; obtain rfl := Option.some.inj H; (try go_wp2); have n0_ := az (below_drew1 HB.out); clear HB; have HB := n0_; clear n0_; have p371 : 0 ≤ (x5_1 : Int) := of_decide_eq_true (by assumption); have q371 : x5_1 < (l0.length : Int) := of_decide_eq_true (by assumption); obtain ⟨ad371, e371, hx371_0, hx371_1, hx371_2, hx371_3⟩ := at_T50 HR0.out x5_1 p371 q371; have hw371_3 := hx371_3; have hw371_2 := hx371_2; have hw371_1 := hx371_1; have hw371_0 := hx371_0
        cases e371
        replace hx371_0 := (HB.out.cell (World.block_lt_of_cell? w _ hx371_0)).trans hx371_0; replace hx371_1 := (HB.out.cell (World.block_lt_of_cell? w _ hx371_1)).trans hx371_1; replace hx371_2 := (HB.out.cell (World.block_lt_of_cell? w _ hx371_2)).trans hx371_2; replace hx371_3 := (HB.out.cell (World.block_lt_of_cell? w _ hx371_3)).trans hx371_3; replace p371 := eq_true p371; replace q371 := eq_true q371; have p372 : 0 ≤ (x5_1 : Int) := of_decide_eq_true (by assumption); have q372 : x5_1 < (l1.length : Int) := of_decide_eq_true (by assumption); obtain ⟨ad372, e372, hx372_0, hx372_1, hx372_2, hx372_3⟩ := at_T50 HR1.out x5_1 p372 q372; have hw372_3 := hx372_3; have hw372_2 := hx372_2; have hw372_1 := hx372_1; have hw372_0 := hx372_0
        cases e372
        replace hx372_0 := (HB.out.cell (World.block_lt_of_cell? w _ hx372_0)).trans hx372_0; replace hx372_1 := (HB.out.cell (World.block_lt_of_cell? w _ hx372_1)).trans hx372_1; replace hx372_2 := (HB.out.cell (World.block_lt_of_cell? w _ hx372_2)).trans hx372_2; replace hx372_3 := (HB.out.cell (World.block_lt_of_cell? w _ hx372_3)).trans hx372_3; replace p372 := eq_true p372; replace q372 := eq_true q372; refine start_ (n := 10) (S := fun w' => w'.cell? (ad371.add ((x5_1).toNat * 4)) = some (.int .i64 ((rd_T50 l0 x5_1).f0)) ∧ w'.cell? ⟨(ad371.add ((x5_1).toNat * 4)).block, (ad371.add ((x5_1).toNat * 4)).off + 1, none⟩ = some (.int .i64 ((rd_T50 l0 x5_1).f1)) ∧ w'.cell? ⟨(ad371.add ((x5_1).toNat * 4)).block, (ad371.add ((x5_1).toNat * 4)).off + 2, none⟩ = some (.int .i64 ((rd_T50 l0 x5_1).f2)) ∧ w'.cell? ⟨(ad371.add ((x5_1).toNat * 4)).block, (ad371.add ((x5_1).toNat * 4)).off + 3, none⟩ = some (.int .i64 ((rd_T50 l0 x5_1).f3)) ∧ w'.cell? (ad372.add ((x5_1).toNat * 4)) = some (.int .i64 ((rd_T50 l1 x5_1).f0)) ∧ w'.cell? ⟨(ad372.add ((x5_1).toNat * 4)).block, (ad372.add ((x5_1).toNat * 4)).off + 1, none⟩ = some (.int .i64 ((rd_T50 l1 x5_1).f1)) ∧ w'.cell? ⟨(ad372.add ((x5_1).toNat * 4)).block, (ad372.add ((x5_1).toNat * 4)).off + 2, none⟩ = some (.int .i64 ((rd_T50 l1 x5_1).f2)) ∧ w'.cell? ⟨(ad372.add ((x5_1).toNat * 4)).block, (ad372.add ((x5_1).toNat * 4)).off + 3, none⟩ = some (.int .i64 ((rd_T50 l1 x5_1).f3))) (ds := []) q50M0 (by kernel_rfl) rfl rfl ⟨((HB.out.cell (World.block_lt_of_cell? w _ hw371_0)).trans hw371_0), ((HB.out.cell (World.block_lt_of_cell? w _ hw371_1)).trans hw371_1), ((HB.out.cell (World.block_lt_of_cell? w _ hw371_2)).trans hw371_2), ((HB.out.cell (World.block_lt_of_cell? w _ hw371_3)).trans hw371_3), ((HB.out.cell (World.block_lt_of_cell? w _ hw372_0)).trans hw372_0), ((HB.out.cell (World.block_lt_of_cell? w _ hw372_1)).trans hw372_1), ((HB.out.cell (World.block_lt_of_cell? w _ hw372_2)).trans hw372_2), ((HB.out.cell (World.block_lt_of_cell? w _ hw372_3)).trans hw372_3)⟩ (fun hHeld => ?_); refine with_tabW laws_eqSpanS.tab6 laws_eqSpanS.bits6 (fun HT_ HW_ => ?_); generalize wr.drew = w11 at HB hx371_0 hx371_1 hx371_2 hx371_3 hx372_0 hx372_1 hx372_2 hx372_3 hHeld ⊢; refine pure_ (i := 0) (N := some 17) (v := ?_) (a' := ?_) q50M1 rfl rfl (any_of HT_.out (by kernel_rfl)) (fun _ _ _ => id) (Or.inl ⟨by rfl, ?_⟩) ?_ ?_; rotate_left; intro w'; go_simp; (with_reducible rfl); rotate_left; simp only [Act.put, q50s, q50z, q50n, i64_w, i32_w]; rfl; refine pure_ (i := 1) (N := some 18) (v := ?_) (a' := ?_) q50M2 rfl rfl (any_of HT_.out (by kernel_rfl)) (fun _ _ _ => id) (Or.inl ⟨by rfl, ?_⟩) ?_ ?_; rotate_left; intro w'; go_simp; (with_reducible rfl); rotate_left; simp only [Act.put, q50s, q50z, q50n, i64_w, i32_w]; rfl; refine pure_ (i := 2) (N := some 19) (v := ?_) (a' := ?_) q50M3 rfl rfl (any_of HT_.out (by kernel_rfl)) (fun _ _ _ => id) (Or.inl ⟨by rfl, ?_⟩) ?_ ?_; rotate_left; intro w'; go_simp; (with_reducible rfl); rotate_left; simp only [Act.put, q50s, q50z, q50n, i64_w, i32_w]; rfl; refine pure_ (i := 4) (N := some 21) (v := ?_) (a' := ?_) q50M4 rfl rfl (any_of HT_.out (by kernel_rfl)) (fun _ _ _ => id) (Or.inl ⟨by rfl, ?_⟩) ?_ ?_; rotate_left; intro w'; go_simp; (with_reducible rfl); rotate_left; simp only [Act.put, q50s, q50z, q50n, i64_w, i32_w]; rfl; refine pure_ (i := 5) (N := some 22) (v := ?_) (a' := ?_) q50M5 rfl rfl (any_of HT_.out (by kernel_rfl)) (fun _ _ _ => id) (Or.inl ⟨by rfl, ?_⟩) ?_ ?_; rotate_left; intro w'; go_simp; (with_reducible rfl); rotate_left; simp only [Act.put, q50s, q50z, q50n, i64_w, i32_w]; rfl; refine pure_ (i := 6) (N := some 23) (v := ?_) (a' := ?_) q50M6 rfl rfl (any_of HT_.out (by kernel_rfl)) (fun _ _ _ => id) (Or.inl ⟨by rfl, ?_⟩) ?_ ?_; rotate_left; intro w'; go_simp; (with_reducible rfl); rotate_left; simp only [Act.put, q50s, q50z, q50n, i64_w, i32_w]; rfl; refine take_ (i := 3) (N := some 20) (v := ?_) (a' := ?_) q50M7 rfl rfl (take_ofW HT_.out HW_.out (by kernel_rfl)) (fun _ _ _ => id) (Or.inl ⟨by rfl, ?_⟩) hHeld ?_ ?_
        rotate_left
        ·
         rintro w' ⟨s0, s1, s2, s3, s4, s5, s6, s7⟩; go_simp; with_reducible rfl
        rotate_left
        · simp only [Act.put, q50s, q50z, q50n, i64_w, i32_w]; rfl
        refine take_ (i := 7) (N := some 24) (v := ?_) (a' := ?_) q50M8 rfl rfl (take_ofW HT_.out HW_.out (by kernel_rfl)) (fun _ _ _ => id) (Or.inl ⟨by rfl, ?_⟩) hHeld ?_ ?_; rotate_left
        ·
         rintro w' ⟨s0, s1, s2, s3, s4, s5, s6, s7⟩; go_simp; with_reducible rfl
        rotate_left
        · simp only [Act.put, q50s, q50z, q50n, i64_w, i32_w]; rfl
        refine one_ (i := 8) (N := some 25) q50M9 rfl rfl (one_of HT_.out (by kernel_rfl)) (by decide) (fun K hK => ?_); refine goes_ Tryz.func42 (by kernel_rfl) rfl #[.agg #[.int .i64 ((rd_T50 l0 x5_1).f0), .int .i64 ((rd_T50 l0 x5_1).f1), .int .i64 ((rd_T50 l0 x5_1).f2), .int .i64 ((rd_T50 l0 x5_1).f3)], .agg #[.int .i64 ((rd_T50 l1 x5_1).f0), .int .i64 ((rd_T50 l1 x5_1).f1), .int .i64 ((rd_T50 l1 x5_1).f2), .int .i64 ((rd_T50 l1 x5_1).f3)]] (by rfl) rfl rfl zD ?_; with_reducible refine (laws_eqSpan.calls ((rd_T50 l0 x5_1).f0) ((rd_T50 l0 x5_1).f1) ((rd_T50 l0 x5_1).f2) ((rd_T50 l0 x5_1).f3) ((rd_T50 l1 x5_1).f0) ((rd_T50 l1 x5_1).f1) ((rd_T50 l1 x5_1).f2) ((rd_T50 l1 x5_1).f3) false _ A7.out).mono ?_
        rintro e w12 ⟨rfl, hb⟩; refine ⟨_, rfl, ?_⟩; have n0_ := az (below_step (zA HB.out) hb); clear HB; have HB := n0_; clear n0_; (try clear hb); (try clear hb2); (try clear hk); (try clear hi); refine hK.out _ _ ⟨((HB.out.cell (World.block_lt_of_cell? w _ hw371_0)).trans hw371_0), ((HB.out.cell (World.block_lt_of_cell? w _ hw371_1)).trans hw371_1), ((HB.out.cell (World.block_lt_of_cell? w _ hw371_2)).trans hw371_2), ((HB.out.cell (World.block_lt_of_cell? w _ hw371_3)).trans hw371_3), ((HB.out.cell (World.block_lt_of_cell? w _ hw372_0)).trans hw372_0), ((HB.out.cell (World.block_lt_of_cell? w _ hw372_1)).trans hw372_1), ((HB.out.cell (World.block_lt_of_cell? w _ hw372_2)).trans hw372_2), ((HB.out.cell (World.block_lt_of_cell? w _ hw372_3)).trans hw372_3)⟩ (fun hHeld => ?_); clear hK K; refine norm_ (a' := ?_) ?_ ?_; rotate_left
        ·
         show Act.put _ (some 25) _ = _; simp only [Act.put, q50s, q50z, q50n, i64_w, i32_w]; rfl
        refine pure_ (i := 9) (N := some 26) (v := ?_) (a' := ?_) q50M10 rfl rfl (any_of HT_.out (by kernel_rfl)) (fun _ _ _ => id) (Or.inl ⟨by rfl, ?_⟩) ?_ ?_; rotate_left; intro w'; go_simp; (with_reducible rfl); rotate_left; simp only [Act.put, q50s, q50z, q50n, i64_w, i32_w]; rfl; refine done_ (done_of HT_.out (by kernel_rfl)) ?_; (try go_wp2); go_ret; exact ⟨zF, zA HB.out⟩
      ·
       rw [if_neg c6] at H; exact absurd H (by simp)
     ·
      rw [if_neg c5] at H; exact absurd H (by simp)
    ·
     rw [if_neg c4] at H; have c4b0 : decide (x5_1 < (l0.length : Int)) = false := decide_eq_false c4; clear c4; obtain rfl := Option.some.inj H; go_wp2; go_ret; exact ⟨zF, zA HB.out⟩
 ·
  rw [if_neg c3] at H; have c3b0 : ((l0.length : Int) == (l1.length : Int)) = false := beq_eq_false_iff_ne.mpr c3; have c3b1 : ((l0.length : Int) != (l1.length : Int)) = true := bne_iff_ne.mpr c3; have c3b2 : (l0.length == l1.length) = false := by first | simpa using c3 | (simp at c3 ⊢; omega)
  obtain rfl := Option.some.inj H; go_enter Tryz.func17, Tryz.ntmps17; go_wp2; go_ret; exact ⟨zF, zA HB.out⟩
def laws_markIntS.l0 : Nat → List Int → Int → Int → Option (Int × List Int)
 | 0, _, _, _ => none
 | k + 1, x0, x1, x5 => if x5 < (x0.length : Int) then (if 0 ≤ x5 then (laws_markIntS.l0 k (x0.set (x5 : Int).toNat x1) (wrap64 (x1 + 1)) (wrap64 (x5 + 1))) else (none)) else (some (x1, x0))
def laws_markIntS.f (k : Nat) (l0 : List Int) (a1 : Int) : Option (Int × List Int) := laws_markIntS.l0 k l0 a1 0
theorem laws_markIntS.mono_l : ∀ k, (∀ y0 y1 y2, LeO (laws_markIntS.l0 k y0 y1 y2) (laws_markIntS.l0 (k + 1) y0 y1 y2))
 | 0 => fun _ _ _ r h => by simp [laws_markIntS.l0] at h
 | k + 1 => by
  have ih0 := laws_markIntS.mono_l k
  ·
   intro y0 y1 y2; unfold laws_markIntS.l0
   repeat' first
   | (with_reducible exact ih0 _ _ _)
   | (with_reducible exact LeO.refl _)
   | (with_reducible exact LeO.none _)
   | (with_reducible refine LeO.ite ?_ ?_)
   | (with_reducible refine LeO.bind ?_ (fun _ => ?_))
   | exact ih0 _ _ _
   | exact LeO.none _
   | refine LeO.ite ?_ ?_
   | refine LeO.bind ?_ (fun _ => ?_)
theorem laws_markIntS.mono : ∀ a0 a1 k, LeO (laws_markIntS.f k a0 a1) (laws_markIntS.f (k + 1) a0 a1) := by
 intro a0 a1 k; have ih0 := laws_markIntS.mono_l k; unfold laws_markIntS.f
 repeat' first
   | (with_reducible exact ih0 _ _ _)
   | (with_reducible exact LeO.refl _)
   | (with_reducible exact LeO.none _)
   | (with_reducible refine LeO.ite ?_ ?_)
   | (with_reducible refine LeO.bind ?_ (fun _ => ?_))
   | exact ih0 _ _ _
   | exact LeO.none _
   | refine LeO.ite ?_ ?_
   | refine LeO.bind ?_ (fun _ => ?_)
theorem laws_markIntS.calls (k : Nat) (P0_ : Nat → Prop) (u9000_ : Value) (l0 : List Int) (a1 : Int) (r1 : Int) (r2 : List Int) (w0 w : World) (hB : Below w0.heap.size w0 w) (ho0 : Kd.R (Kd.int .i64) 3 w w0.heap.size P0_ u9000_ l0) (h : laws_markIntS.f k l0 a1 = some (r1, r2)) :
  Calls Tryz.prog 18 #[u9000_, .int .i64 a1] w fun e w' => e = .returned (.int .i64 r1) ∧ Kd.R (Kd.int .i64) 3 w' w0.heap.size (fun k_ => (P0_ k_ ∨ w.heap.size ≤ k_)) u9000_ r2 ∧ Below w0.heap.size w0 w' ∧ Kept w w' (fun k_ => P0_ k_) := by
 have HO0 := az (show Kd.R (Kd.int .i64) 3 w w0.heap.size (fun k_ => (P0_ k_ ∨ w.heap.size ≤ k_)) u9000_ l0 from Kd.R_mono ho0 (fun k_ hk => (.inl hk))); have HK := az (Kept.refl w (fun k_ => P0_ k_)); have HW0 := az hB.size; have HB := az hB; clear hB; have H : (laws_markIntS.l0 k l0 a1 0) = some (r1, r2) := h; clear h; have H' := az H; clear H; go_enter Tryz.func18, Tryz.ntmps18; go_wp2; go_loopg [1, 5] k (fun kq v1 v5 w' => ∃ (x0_1 : List Int) (x1_1 : Int) (x5_1 : Int), v1 = .int .i64 x1_1 ∧ v5 = .int .i64 x5_1 ∧ Aside0 (laws_markIntS.l0 kq x0_1 x1_1 x5_1 = some (r1, r2)) ∧ Aside0 (kq ≤ k) ∧ Aside0 (Kd.R (Kd.int .i64) 3 w' w0.heap.size (fun k_ => (P0_ k_ ∨ w.heap.size ≤ k_)) u9000_ x0_1) ∧ Aside0 (Kept w w' (fun k_ => P0_ k_)) ∧ Aside0 (Below w0.heap.size w0 w'))
 case atStart => exact ⟨(l0), (a1), (0), zB, zB, H', ⟨Nat.le_refl _⟩, ⟨zC HO0.out⟩, ⟨zR HK.out⟩, ⟨zA HB.out⟩⟩
 case round =>
  clear H'; (try clear c1); (try clear p2); obtain ⟨x0_1, x1_1, x5_1, rfl, rfl, HA, HK1, HO_0, HK, HB⟩ := hrel
  cases gk with
  | zero => exact absurd HA.out (by simp [laws_markIntS.l0])
  | succ k1 =>
   have H := HA.out; clear HA; simp only [laws_markIntS.l0] at H; by_cases c3 : x5_1 < (x0_1.length : Int)
   ·
    rw [if_pos c3] at H; have c3b0 : decide (x5_1 < (x0_1.length : Int)) = true := decide_eq_true c3; clear c3; by_cases c4 : 0 ≤ x5_1
    ·
     rw [if_pos c4] at H; have c4b0 : decide (0 ≤ x5_1) = true := decide_eq_true c4; clear c4; obtain ⟨y374, hy374⟩ : ∃ y_ : List Int, y_ = (x0_1.set (x5_1 : Int).toNat x1_1) := ⟨_, rfl⟩; replace H : (laws_markIntS.l0 k1 y374 (wrap64 (x1_1 + 1)) (wrap64 (x5_1 + 1))) = some (r1, r2) := by first | (rw [hy374]; with_reducible exact H) | (have H2_ := (Option.bind_some _ _).symm.trans H; rw [hy374]; with_reducible exact H2_) | (have H2_ := (Option.bind_some _ _).symm.trans H; with_reducible exact H2_) | with_reducible exact H | (rw [hy374]; exact H) | exact H
     have Ny374 := az hy374; clear hy374; have H' := az H; clear H; obtain ⟨Ao6, co6, eo6⟩ := Kd.R_slice HO_0.out; subst eo6; have p5 : 0 ≤ (x5_1 : Int) := of_decide_eq_true (by assumption); have q5 : (x5_1 : Int) < ((x0_1.length : Int) : Int) := of_decide_eq_true (by assumption); obtain ⟨go5, co5, eo5, gb5, gl5, cl5, HG5⟩ := Kd.R_form HO_0.out (by omega); (first | cases eo5 | (injection eo5 with ea_ en_ ec_; (first | subst ea_ | (injection ea_ with ea_; subst ea_)); subst ec_; clear en_)); have GB5 := az gb5; have GG5 := az HG5; clear gb5 gl5 HG5; have HMgo5 := az (show (P0_ go5 ∨ w.heap.size ≤ go5) from (HO_0.out.1 _ rfl)); obtain ⟨hx5_0, hf5_0⟩ := Kd.R_celln 0 HO_0.out (x5_1 : Int) p5 q5; replace p5 := eq_true p5; replace q5 := eq_true q5; have HP7 := Kd.R_putg HO_0.out (x5_1 : Int) x1_1; go_wp2_with (first | ((with_reducible refine gate_store (t := 3) (p := 15) rfl ?_); refine store_event (t := 3) (p := 15) (v := ?vo_w8) (w1 := (wr.setCell ⟨go5, (x5_1 : Int).toNat, none⟩ (.int .i64 x1_1))) ?hg ?ho ?hn ?hr ?_; (case ho => rfl); (case hg => rfl); (case hn => rfl); (case hr => first | (go_simp; done) | (go_simp; rfl)); intro w8 hw; have hg : wr.grownBy w8 (some go5) := (by rw [hw]; exact HP7.2); have hp_ : Kd.R (Kd.int .i64) 3 w8 w0.heap.size (fun k_ => (P0_ k_ ∨ w.heap.size ≤ k_)) (.slice (some ⟨go5, 0, none⟩) x0_1.length co6) y374 := (by rw [hw, Ny374.out]; exact HP7.1); clear HP7; have n0_ := az (hp_); have n1_ := az ((by rw [hw]; exact below_set (HB.out) GB5.out : Below w0.heap.size w0 w8)); have n2_ := az (Kept.of_grown (S := (fun k_ => P0_ k_)) hg (zR HK.out) (fun k_ e_ => (HO_0.out.1 k_ e_))); clear HO_0; clear HB; clear HK; have HO_0 := n0_; have HB := n1_; have HK := n2_; clear n0_ n1_ n2_; clear hg hw hp_)); go_roundg k1
     case measure => have := HK1.out; omega
     case rel => exact ⟨(y374), (wrap64 (x1_1 + 1)), (wrap64 (x5_1 + 1)), zB, zB, H', ⟨zG HK1.out⟩, ⟨zC HO_0.out⟩, ⟨zR HK.out⟩, ⟨zA HB.out⟩⟩
    ·
     rw [if_neg c4] at H; exact absurd H (by simp)
   ·
    rw [if_neg c3] at H; have c3b0 : decide (x5_1 < (x0_1.length : Int)) = false := decide_eq_false c3; clear c3; simp only [Option.some.injEq, Prod.mk.injEq] at H; obtain ⟨rfl, rfl⟩ := H; obtain ⟨Ao9, co9, eo9⟩ := Kd.R_slice HO_0.out; subst eo9; go_wp2; go_ret; exact ⟨zF, zC HO_0.out, zA HB.out, zR HK.out⟩
def laws_markSpanS.l0 : Nat → List (S50) → Int → Int → Option (Int × (List (S50)))
 | 0, _, _, _ => none
 | k + 1, x0, x1, x5 => if x5 < (x0.length : Int) then (if 0 ≤ x5 then ((some (x0.set (x5 : Int).toNat (⟨x1, (rd_T50 x0 x5).f1, (rd_T50 x0 x5).f2, (rd_T50 x0 x5).f3⟩ : S50) : List (S50))).bind fun y375 => ((some (y375.set (x5 : Int).toNat (⟨(rd_T50 y375 x5).f0, wrap64 (x1 + 1), (rd_T50 y375 x5).f2, (rd_T50 y375 x5).f3⟩ : S50) : List (S50))).bind fun y376 => ((some (y376.set (x5 : Int).toNat (⟨(rd_T50 y376 x5).f0, (rd_T50 y376 x5).f1, wrap64 ((wrap64 (x1 + 1)) + 1), (rd_T50 y376 x5).f3⟩ : S50) : List (S50))).bind fun y377 => (laws_markSpanS.l0 k (y377.set (x5 : Int).toNat (⟨(rd_T50 y377 x5).f0, (rd_T50 y377 x5).f1, (rd_T50 y377 x5).f2, wrap64 ((wrap64 ((wrap64 (x1 + 1)) + 1)) + 1)⟩ : S50)) (wrap64 ((wrap64 ((wrap64 ((wrap64 (x1 + 1)) + 1)) + 1)) + 1)) (wrap64 (x5 + 1)))))) else (none)) else (some (x1, x0))
def laws_markSpanS.f (k : Nat) (l0 : List (S50)) (a1 : Int) : Option (Int × (List (S50))) := laws_markSpanS.l0 k l0 a1 0
theorem laws_markSpanS.mono_l : ∀ k, (∀ y0 y1 y2, LeO (laws_markSpanS.l0 k y0 y1 y2) (laws_markSpanS.l0 (k + 1) y0 y1 y2))
 | 0 => fun _ _ _ r h => by simp [laws_markSpanS.l0] at h
 | k + 1 => by
  have ih0 := laws_markSpanS.mono_l k
  ·
   intro y0 y1 y2; unfold laws_markSpanS.l0
   repeat' first
   | (with_reducible exact ih0 _ _ _)
   | (with_reducible exact LeO.refl _)
   | (with_reducible exact LeO.none _)
   | (with_reducible refine LeO.ite ?_ ?_)
   | (with_reducible refine LeO.bind ?_ (fun _ => ?_))
   | exact ih0 _ _ _
   | exact LeO.none _
   | refine LeO.ite ?_ ?_
   | refine LeO.bind ?_ (fun _ => ?_)
theorem laws_markSpanS.mono : ∀ a0 a1 k, LeO (laws_markSpanS.f k a0 a1) (laws_markSpanS.f (k + 1) a0 a1) := by
 intro a0 a1 k; have ih0 := laws_markSpanS.mono_l k; unfold laws_markSpanS.f
 repeat' first
   | (with_reducible exact ih0 _ _ _)
   | (with_reducible exact LeO.refl _)
   | (with_reducible exact LeO.none _)
   | (with_reducible refine LeO.ite ?_ ?_)
   | (with_reducible refine LeO.bind ?_ (fun _ => ?_))
   | exact ih0 _ _ _
   | exact LeO.none _
   | refine LeO.ite ?_ ?_
   | refine LeO.bind ?_ (fun _ => ?_)
theorem laws_markSpanS.calls (k : Nat) (P0_ : Nat → Prop) (u9000_ : Value) (l0 : List (S50)) (a1 : Int) (r1 : Int) (r2 : List (S50)) (w0 w : World) (hB : Below w0.heap.size w0 w) (ho0 : Kd.R k50 50 w w0.heap.size P0_ u9000_ l0) (h : laws_markSpanS.f k l0 a1 = some (r1, r2)) :
  Calls Tryz.prog 19 #[u9000_, .int .i64 a1] w fun e w' => e = .returned (.int .i64 r1) ∧ Kd.R k50 50 w' w0.heap.size (fun k_ => (P0_ k_ ∨ w.heap.size ≤ k_)) u9000_ r2 ∧ Below w0.heap.size w0 w' ∧ Kept w w' (fun k_ => P0_ k_) := by
 have HO0 := az (show Kd.R k50 50 w w0.heap.size (fun k_ => (P0_ k_ ∨ w.heap.size ≤ k_)) u9000_ l0 from Kd.R_mono ho0 (fun k_ hk => (.inl hk))); have HK := az (Kept.refl w (fun k_ => P0_ k_)); have HW0 := az hB.size; have HB := az hB; clear hB; have H : (laws_markSpanS.l0 k l0 a1 0) = some (r1, r2) := h; clear h; have H' := az H; clear H; go_enter Tryz.func19, Tryz.ntmps19; go_wp2; go_loopg [1, 5] k (fun kq v1 v5 w' => ∃ (x0_1 : List (S50)) (x1_1 : Int) (x5_1 : Int), v1 = .int .i64 x1_1 ∧ v5 = .int .i64 x5_1 ∧ Aside0 (laws_markSpanS.l0 kq x0_1 x1_1 x5_1 = some (r1, r2)) ∧ Aside0 (kq ≤ k) ∧ Aside0 (Kd.R k50 50 w' w0.heap.size (fun k_ => (P0_ k_ ∨ w.heap.size ≤ k_)) u9000_ x0_1) ∧ Aside0 (Kept w w' (fun k_ => P0_ k_)) ∧ Aside0 (Below w0.heap.size w0 w'))
 case atStart => exact ⟨(l0), (a1), (0), zB, zB, H', ⟨Nat.le_refl _⟩, ⟨zC HO0.out⟩, ⟨zR HK.out⟩, ⟨zA HB.out⟩⟩
 case round =>
  clear H'; (try clear c1); (try clear p2); obtain ⟨x0_1, x1_1, x5_1, rfl, rfl, HA, HK1, HO_0, HK, HB⟩ := hrel
  cases gk with
  | zero => exact absurd HA.out (by simp [laws_markSpanS.l0])
  | succ k1 =>
   have H := HA.out; clear HA; simp only [laws_markSpanS.l0] at H; by_cases c3 : x5_1 < (x0_1.length : Int)
   ·
    rw [if_pos c3] at H; have c3b0 : decide (x5_1 < (x0_1.length : Int)) = true := decide_eq_true c3; clear c3; by_cases c4 : 0 ≤ x5_1
    ·
     rw [if_pos c4] at H; have c4b0 : decide (0 ≤ x5_1) = true := decide_eq_true c4; clear c4; obtain ⟨y375, hy375⟩ : ∃ y_ : List (S50), y_ = (x0_1.set (x5_1 : Int).toNat (⟨x1_1, (rd_T50 x0_1 x5_1).f1, (rd_T50 x0_1 x5_1).f2, (rd_T50 x0_1 x5_1).f3⟩ : S50)) := ⟨_, rfl⟩; replace H : ((some (y375.set (x5_1 : Int).toNat (⟨(rd_T50 y375 x5_1).f0, wrap64 (x1_1 + 1), (rd_T50 y375 x5_1).f2, (rd_T50 y375 x5_1).f3⟩ : S50) : List (S50))).bind fun y376 => ((some (y376.set (x5_1 : Int).toNat (⟨(rd_T50 y376 x5_1).f0, (rd_T50 y376 x5_1).f1, wrap64 ((wrap64 (x1_1 + 1)) + 1), (rd_T50 y376 x5_1).f3⟩ : S50) : List (S50))).bind fun y377 => (laws_markSpanS.l0 k1 (y377.set (x5_1 : Int).toNat (⟨(rd_T50 y377 x5_1).f0, (rd_T50 y377 x5_1).f1, (rd_T50 y377 x5_1).f2, wrap64 ((wrap64 ((wrap64 (x1_1 + 1)) + 1)) + 1)⟩ : S50)) (wrap64 ((wrap64 ((wrap64 ((wrap64 (x1_1 + 1)) + 1)) + 1)) + 1)) (wrap64 (x5_1 + 1))))) = some (r1, r2) := by first | (rw [hy375]; with_reducible exact H) | (have H2_ := (Option.bind_some _ _).symm.trans H; rw [hy375]; with_reducible exact H2_) | (have H2_ := (Option.bind_some _ _).symm.trans H; with_reducible exact H2_) | with_reducible exact H | (rw [hy375]; exact H) | exact H
     have Ny375 := az hy375; clear hy375; obtain ⟨y376, hy376⟩ : ∃ y_ : List (S50), y_ = (y375.set (x5_1 : Int).toNat (⟨(rd_T50 y375 x5_1).f0, wrap64 (x1_1 + 1), (rd_T50 y375 x5_1).f2, (rd_T50 y375 x5_1).f3⟩ : S50)) := ⟨_, rfl⟩; replace H : ((some (y376.set (x5_1 : Int).toNat (⟨(rd_T50 y376 x5_1).f0, (rd_T50 y376 x5_1).f1, wrap64 ((wrap64 (x1_1 + 1)) + 1), (rd_T50 y376 x5_1).f3⟩ : S50) : List (S50))).bind fun y377 => (laws_markSpanS.l0 k1 (y377.set (x5_1 : Int).toNat (⟨(rd_T50 y377 x5_1).f0, (rd_T50 y377 x5_1).f1, (rd_T50 y377 x5_1).f2, wrap64 ((wrap64 ((wrap64 (x1_1 + 1)) + 1)) + 1)⟩ : S50)) (wrap64 ((wrap64 ((wrap64 ((wrap64 (x1_1 + 1)) + 1)) + 1)) + 1)) (wrap64 (x5_1 + 1)))) = some (r1, r2) := by first | (rw [hy376]; with_reducible exact H) | (have H2_ := (Option.bind_some _ _).symm.trans H; rw [hy376]; with_reducible exact H2_) | (have H2_ := (Option.bind_some _ _).symm.trans H; with_reducible exact H2_) | with_reducible exact H | (rw [hy376]; exact H) | exact H
     have Ny376 := az hy376; clear hy376; obtain ⟨y377, hy377⟩ : ∃ y_ : List (S50), y_ = (y376.set (x5_1 : Int).toNat (⟨(rd_T50 y376 x5_1).f0, (rd_T50 y376 x5_1).f1, wrap64 ((wrap64 (x1_1 + 1)) + 1), (rd_T50 y376 x5_1).f3⟩ : S50)) := ⟨_, rfl⟩; replace H : (laws_markSpanS.l0 k1 (y377.set (x5_1 : Int).toNat (⟨(rd_T50 y377 x5_1).f0, (rd_T50 y377 x5_1).f1, (rd_T50 y377 x5_1).f2, wrap64 ((wrap64 ((wrap64 (x1_1 + 1)) + 1)) + 1)⟩ : S50)) (wrap64 ((wrap64 ((wrap64 ((wrap64 (x1_1 + 1)) + 1)) + 1)) + 1)) (wrap64 (x5_1 + 1))) = some (r1, r2) := by first | (rw [hy377]; with_reducible exact H) | (have H2_ := (Option.bind_some _ _).symm.trans H; rw [hy377]; with_reducible exact H2_) | (have H2_ := (Option.bind_some _ _).symm.trans H; with_reducible exact H2_) | with_reducible exact H | (rw [hy377]; exact H) | exact H
     have Ny377 := az hy377; clear hy377; obtain ⟨y378, hy378⟩ : ∃ y_ : List (S50), y_ = (y377.set (x5_1 : Int).toNat (⟨(rd_T50 y377 x5_1).f0, (rd_T50 y377 x5_1).f1, (rd_T50 y377 x5_1).f2, wrap64 ((wrap64 ((wrap64 (x1_1 + 1)) + 1)) + 1)⟩ : S50)) := ⟨_, rfl⟩; replace H : (laws_markSpanS.l0 k1 y378 (wrap64 ((wrap64 ((wrap64 ((wrap64 (x1_1 + 1)) + 1)) + 1)) + 1)) (wrap64 (x5_1 + 1))) = some (r1, r2) := by first | (rw [hy378]; with_reducible exact H) | (have H2_ := (Option.bind_some _ _).symm.trans H; rw [hy378]; with_reducible exact H2_) | (have H2_ := (Option.bind_some _ _).symm.trans H; with_reducible exact H2_) | with_reducible exact H | (rw [hy378]; exact H) | exact H
     have Ny378 := az hy378; clear hy378; have H' := az H; clear H; obtain ⟨Ao9, co9, eo9⟩ := Kd.R_slice HO_0.out; subst eo9; have p5 : 0 ≤ (x5_1 : Int) := of_decide_eq_true (by assumption); have q5 : (x5_1 : Int) < ((x0_1.length : Int) : Int) := of_decide_eq_true (by assumption); obtain ⟨go5, co5, eo5, gb5, gl5, cl5, HG5⟩ := Kd.R_form HO_0.out (by omega); (first | cases eo5 | (injection eo5 with ea_ en_ ec_; (first | subst ea_ | (injection ea_ with ea_; subst ea_)); subst ec_; clear en_)); have GB5 := az gb5; have GG5 := az HG5; clear gb5 gl5 HG5; have HMgo5 := az (show (P0_ go5 ∨ w.heap.size ≤ go5) from (HO_0.out.1 _ rfl)); obtain ⟨ce5, hcl5, hM5, hcc5, hfr5⟩ := Kd.R_elem HO_0.out z50 (x5_1 : Int) p5 q5; obtain rfl := k50_openM hM5; have hx5_0 : wr.cell? ⟨go5, (x5_1 : Int).toNat * 4, none⟩ = some (.int .i64 ((rd_T50 x0_1 x5_1).f0)) := hcc5 0 _ rfl; have hx5_1 : wr.cell? ⟨go5, (x5_1 : Int).toNat * 4 + 1, none⟩ = some (.int .i64 ((rd_T50 x0_1 x5_1).f1)) := hcc5 1 _ rfl; have hx5_2 : wr.cell? ⟨go5, (x5_1 : Int).toNat * 4 + 2, none⟩ = some (.int .i64 ((rd_T50 x0_1 x5_1).f2)) := hcc5 2 _ rfl; have hx5_3 : wr.cell? ⟨go5, (x5_1 : Int).toNat * 4 + 3, none⟩ = some (.int .i64 ((rd_T50 x0_1 x5_1).f3)) := hcc5 3 _ rfl; have hf5_0 : wr.frozen? ⟨go5, (x5_1 : Int).toNat * 4, none⟩ = false := hfr5 0; have hf5_1 : wr.frozen? ⟨go5, (x5_1 : Int).toNat * 4 + 1, none⟩ = false := hfr5 1; have hf5_2 : wr.frozen? ⟨go5, (x5_1 : Int).toNat * 4 + 2, none⟩ = false := hfr5 2; have hf5_3 : wr.frozen? ⟨go5, (x5_1 : Int).toNat * 4 + 3, none⟩ = false := hfr5 3; clear hcl5 hcc5 hfr5 hM5; replace p5 := eq_true p5; replace q5 := eq_true q5; have HX10 := az (show Kd.R k50 50 wr w0.heap.size (fun k_ => (P0_ k_ ∨ w.heap.size ≤ k_)) (.slice (some ⟨go5, 0, none⟩) x0_1.length co9) x0_1 from (zC HO_0.out)); obtain ⟨ce10, hcl10, hM10, hcc10, hfr10⟩ := Kd.R_elem HX10.out z50 (x5_1 : Int) (of_decide_eq_true (by assumption)) (by have h_ : (x5_1 : Int) < ((x0_1.length : Int) : Int) := of_decide_eq_true (by assumption); first | exact h_ | (have e_ := (Kd.R_reads' HO_0.out).1; omega) | simpa using h_); obtain rfl := k50_openM hM10; have HP10 := Kd.R_seg HX10.out (x5_1 : Int) (of_decide_eq_true (by assumption)) (by have h_ : (x5_1 : Int) < ((x0_1.length : Int) : Int) := of_decide_eq_true (by assumption); first | exact h_ | (have e_ := (Kd.R_reads' HO_0.out).1; omega) | simpa using h_) (seg := [.int .i64 x1_1]) (j := 0) hcl10 hcc10 (show 1 ≤ 4 from by decide) (x' := (⟨x1_1, (rd_T50 x0_1 x5_1).f1, (rd_T50 x0_1 x5_1).f2, (rd_T50 x0_1 x5_1).f3⟩ : S50)) (k50_mkM _ _ _ (⟨x1_1, (rd_T50 x0_1 x5_1).f1, (rd_T50 x0_1 x5_1).f2, (rd_T50 x0_1 x5_1).f3⟩ : S50) ) (fun _ hk => hk); have hx10_0 := hcc10 0 _ rfl; (try simp only [show (k50).sz = 4 from rfl, Nat.mul_one, Nat.add_zero] at hx10_0); have hf10_0 := hfr10 0; (try simp only [show (k50).sz = 4 from rfl, Nat.mul_one, Nat.add_zero] at hf10_0); clear hcl10 hcc10 hfr10 hM10; go_wp2_with (first | ((with_reducible refine gate_store (t := 3) (p := 16) rfl ?_); refine store_event (t := 3) (p := 16) (v := ?vo_w11) (w1 := (wr.setCell ⟨go5, (x5_1 : Int).toNat * 4, none⟩ (.int .i64 x1_1))) ?hg ?ho ?hn ?hr ?_; (case ho => rfl); (case hg => rfl); (case hn => rfl); (case hr => first | (go_simp; done) | (go_simp; rfl)); intro w11 hw; have hg : wr.grownBy w11 (some go5) := (by rw [hw]; exact HP10.2); have hp_ : Kd.R k50 50 w11 w0.heap.size (fun k_ => (P0_ k_ ∨ w.heap.size ≤ k_)) (.slice (some ⟨go5, 0, none⟩) x0_1.length co9) y375 := (by rw [hw, Ny375.out]; exact HP10.1); clear HP10; have n0_ := az (hp_); have n1_ := az ((by rw [hw]; exact below_set (HB.out) GB5.out : Below w0.heap.size w0 w11)); have n2_ := az (Kept.of_grown (S := (fun k_ => P0_ k_)) hg (zR HK.out) (fun k_ e_ => (HO_0.out.1 k_ e_))); clear HO_0; clear HB; clear HK; have HO_0 := n0_; have HB := n1_; have HK := n2_; clear n0_ n1_ n2_; clear hg hw hp_; have p6 : 0 ≤ (x5_1 : Int) := of_decide_eq_true (by assumption); have q6 : (x5_1 : Int) < ((x0_1.length : Int) : Int) := of_decide_eq_true (by assumption); obtain ⟨ce6, hcl6, hM6, hcc6, hfr6⟩ := Kd.R_elem HO_0.out z50 (x5_1 : Int) p6 q6; obtain rfl := k50_openM hM6; have hx6_0 : w11.cell? ⟨go5, (x5_1 : Int).toNat * 4, none⟩ = some (.int .i64 ((rd_T50 y375 x5_1).f0)) := hcc6 0 _ rfl; have hx6_1 : w11.cell? ⟨go5, (x5_1 : Int).toNat * 4 + 1, none⟩ = some (.int .i64 ((rd_T50 y375 x5_1).f1)) := hcc6 1 _ rfl; have hx6_2 : w11.cell? ⟨go5, (x5_1 : Int).toNat * 4 + 2, none⟩ = some (.int .i64 ((rd_T50 y375 x5_1).f2)) := hcc6 2 _ rfl; have hx6_3 : w11.cell? ⟨go5, (x5_1 : Int).toNat * 4 + 3, none⟩ = some (.int .i64 ((rd_T50 y375 x5_1).f3)) := hcc6 3 _ rfl; have hf6_0 : w11.frozen? ⟨go5, (x5_1 : Int).toNat * 4, none⟩ = false := hfr6 0; have hf6_1 : w11.frozen? ⟨go5, (x5_1 : Int).toNat * 4 + 1, none⟩ = false := hfr6 1; have hf6_2 : w11.frozen? ⟨go5, (x5_1 : Int).toNat * 4 + 2, none⟩ = false := hfr6 2; have hf6_3 : w11.frozen? ⟨go5, (x5_1 : Int).toNat * 4 + 3, none⟩ = false := hfr6 3; clear hcl6 hcc6 hfr6 hM6; replace p6 := eq_true p6; replace q6 := eq_true q6; have HX12 := az (show Kd.R k50 50 w11 w0.heap.size (fun k_ => (P0_ k_ ∨ w.heap.size ≤ k_)) (.slice (some ⟨go5, 0, none⟩) x0_1.length co9) y375 from (zC HO_0.out)); obtain ⟨ce12, hcl12, hM12, hcc12, hfr12⟩ := Kd.R_elem HX12.out z50 (x5_1 : Int) (of_decide_eq_true (by assumption)) (by have h_ : (x5_1 : Int) < ((x0_1.length : Int) : Int) := of_decide_eq_true (by assumption); first | exact h_ | (have e_ := (Kd.R_reads' HO_0.out).1; omega) | simpa using h_); obtain rfl := k50_openM hM12; have HP12 := Kd.R_seg HX12.out (x5_1 : Int) (of_decide_eq_true (by assumption)) (by have h_ : (x5_1 : Int) < ((x0_1.length : Int) : Int) := of_decide_eq_true (by assumption); first | exact h_ | (have e_ := (Kd.R_reads' HO_0.out).1; omega) | simpa using h_) (seg := [.int .i64 (wrap64 (x1_1 + 1))]) (j := 1) hcl12 hcc12 (show 2 ≤ 4 from by decide) (x' := (⟨(rd_T50 y375 x5_1).f0, wrap64 (x1_1 + 1), (rd_T50 y375 x5_1).f2, (rd_T50 y375 x5_1).f3⟩ : S50)) (k50_mkM _ _ _ (⟨(rd_T50 y375 x5_1).f0, wrap64 (x1_1 + 1), (rd_T50 y375 x5_1).f2, (rd_T50 y375 x5_1).f3⟩ : S50) ) (fun _ hk => hk); have hx12_1 := hcc12 1 _ rfl; (try simp only [show (k50).sz = 4 from rfl, Nat.mul_one, Nat.add_zero] at hx12_1); have hf12_1 := hfr12 1; (try simp only [show (k50).sz = 4 from rfl, Nat.mul_one, Nat.add_zero] at hf12_1); clear hcl12 hcc12 hfr12 hM12) | ((with_reducible refine gate_store (t := 3) (p := 23) rfl ?_); refine store_event (t := 3) (p := 23) (v := ?vo_w13) (w1 := (w11.setCell ⟨go5, (x5_1 : Int).toNat * 4 + 1, none⟩ (.int .i64 (wrap64 (x1_1 + 1))))) ?hg ?ho ?hn ?hr ?_; (case ho => rfl); (case hg => rfl); (case hn => rfl); (case hr => first | (go_simp; done) | (go_simp; rfl)); intro w13 hw; have hg : w11.grownBy w13 (some go5) := (by rw [hw]; exact HP12.2); have hp_ : Kd.R k50 50 w13 w0.heap.size (fun k_ => (P0_ k_ ∨ w.heap.size ≤ k_)) (.slice (some ⟨go5, 0, none⟩) x0_1.length co9) y376 := (by rw [hw, Ny376.out]; exact HP12.1); clear HP12; have n0_ := az (hp_); have n1_ := az ((by rw [hw]; exact below_set (HB.out) GB5.out : Below w0.heap.size w0 w13)); have n2_ := az (Kept.of_grown (S := (fun k_ => P0_ k_)) hg (zR HK.out) (fun k_ e_ => (HO_0.out.1 k_ e_))); clear HO_0; clear HB; clear HK; have HO_0 := n0_; have HB := n1_; have HK := n2_; clear n0_ n1_ n2_; clear hg hw hp_; have p7 : 0 ≤ (x5_1 : Int) := of_decide_eq_true (by assumption); have q7 : (x5_1 : Int) < ((x0_1.length : Int) : Int) := of_decide_eq_true (by assumption); obtain ⟨ce7, hcl7, hM7, hcc7, hfr7⟩ := Kd.R_elem HO_0.out z50 (x5_1 : Int) p7 q7; obtain rfl := k50_openM hM7; have hx7_0 : w13.cell? ⟨go5, (x5_1 : Int).toNat * 4, none⟩ = some (.int .i64 ((rd_T50 y376 x5_1).f0)) := hcc7 0 _ rfl; have hx7_1 : w13.cell? ⟨go5, (x5_1 : Int).toNat * 4 + 1, none⟩ = some (.int .i64 ((rd_T50 y376 x5_1).f1)) := hcc7 1 _ rfl; have hx7_2 : w13.cell? ⟨go5, (x5_1 : Int).toNat * 4 + 2, none⟩ = some (.int .i64 ((rd_T50 y376 x5_1).f2)) := hcc7 2 _ rfl; have hx7_3 : w13.cell? ⟨go5, (x5_1 : Int).toNat * 4 + 3, none⟩ = some (.int .i64 ((rd_T50 y376 x5_1).f3)) := hcc7 3 _ rfl; have hf7_0 : w13.frozen? ⟨go5, (x5_1 : Int).toNat * 4, none⟩ = false := hfr7 0; have hf7_1 : w13.frozen? ⟨go5, (x5_1 : Int).toNat * 4 + 1, none⟩ = false := hfr7 1; have hf7_2 : w13.frozen? ⟨go5, (x5_1 : Int).toNat * 4 + 2, none⟩ = false := hfr7 2; have hf7_3 : w13.frozen? ⟨go5, (x5_1 : Int).toNat * 4 + 3, none⟩ = false := hfr7 3; clear hcl7 hcc7 hfr7 hM7; replace p7 := eq_true p7; replace q7 := eq_true q7; have HX14 := az (show Kd.R k50 50 w13 w0.heap.size (fun k_ => (P0_ k_ ∨ w.heap.size ≤ k_)) (.slice (some ⟨go5, 0, none⟩) x0_1.length co9) y376 from (zC HO_0.out)); obtain ⟨ce14, hcl14, hM14, hcc14, hfr14⟩ := Kd.R_elem HX14.out z50 (x5_1 : Int) (of_decide_eq_true (by assumption)) (by have h_ : (x5_1 : Int) < ((x0_1.length : Int) : Int) := of_decide_eq_true (by assumption); first | exact h_ | (have e_ := (Kd.R_reads' HO_0.out).1; omega) | simpa using h_); obtain rfl := k50_openM hM14; have HP14 := Kd.R_seg HX14.out (x5_1 : Int) (of_decide_eq_true (by assumption)) (by have h_ : (x5_1 : Int) < ((x0_1.length : Int) : Int) := of_decide_eq_true (by assumption); first | exact h_ | (have e_ := (Kd.R_reads' HO_0.out).1; omega) | simpa using h_) (seg := [.int .i64 (wrap64 ((wrap64 (x1_1 + 1)) + 1))]) (j := 2) hcl14 hcc14 (show 3 ≤ 4 from by decide) (x' := (⟨(rd_T50 y376 x5_1).f0, (rd_T50 y376 x5_1).f1, wrap64 ((wrap64 (x1_1 + 1)) + 1), (rd_T50 y376 x5_1).f3⟩ : S50)) (k50_mkM _ _ _ (⟨(rd_T50 y376 x5_1).f0, (rd_T50 y376 x5_1).f1, wrap64 ((wrap64 (x1_1 + 1)) + 1), (rd_T50 y376 x5_1).f3⟩ : S50) ) (fun _ hk => hk); have hx14_2 := hcc14 2 _ rfl; (try simp only [show (k50).sz = 4 from rfl, Nat.mul_one, Nat.add_zero] at hx14_2); have hf14_2 := hfr14 2; (try simp only [show (k50).sz = 4 from rfl, Nat.mul_one, Nat.add_zero] at hf14_2); clear hcl14 hcc14 hfr14 hM14) | ((with_reducible refine gate_store (t := 3) (p := 30) rfl ?_); refine store_event (t := 3) (p := 30) (v := ?vo_w15) (w1 := (w13.setCell ⟨go5, (x5_1 : Int).toNat * 4 + 2, none⟩ (.int .i64 (wrap64 ((wrap64 (x1_1 + 1)) + 1))))) ?hg ?ho ?hn ?hr ?_; (case ho => rfl); (case hg => rfl); (case hn => rfl); (case hr => first | (go_simp; done) | (go_simp; rfl)); intro w15 hw; have hg : w13.grownBy w15 (some go5) := (by rw [hw]; exact HP14.2); have hp_ : Kd.R k50 50 w15 w0.heap.size (fun k_ => (P0_ k_ ∨ w.heap.size ≤ k_)) (.slice (some ⟨go5, 0, none⟩) x0_1.length co9) y377 := (by rw [hw, Ny377.out]; exact HP14.1); clear HP14; have n0_ := az (hp_); have n1_ := az ((by rw [hw]; exact below_set (HB.out) GB5.out : Below w0.heap.size w0 w15)); have n2_ := az (Kept.of_grown (S := (fun k_ => P0_ k_)) hg (zR HK.out) (fun k_ e_ => (HO_0.out.1 k_ e_))); clear HO_0; clear HB; clear HK; have HO_0 := n0_; have HB := n1_; have HK := n2_; clear n0_ n1_ n2_; clear hg hw hp_; have p8 : 0 ≤ (x5_1 : Int) := of_decide_eq_true (by assumption); have q8 : (x5_1 : Int) < ((x0_1.length : Int) : Int) := of_decide_eq_true (by assumption); obtain ⟨ce8, hcl8, hM8, hcc8, hfr8⟩ := Kd.R_elem HO_0.out z50 (x5_1 : Int) p8 q8; obtain rfl := k50_openM hM8; have hx8_0 : w15.cell? ⟨go5, (x5_1 : Int).toNat * 4, none⟩ = some (.int .i64 ((rd_T50 y377 x5_1).f0)) := hcc8 0 _ rfl; have hx8_1 : w15.cell? ⟨go5, (x5_1 : Int).toNat * 4 + 1, none⟩ = some (.int .i64 ((rd_T50 y377 x5_1).f1)) := hcc8 1 _ rfl; have hx8_2 : w15.cell? ⟨go5, (x5_1 : Int).toNat * 4 + 2, none⟩ = some (.int .i64 ((rd_T50 y377 x5_1).f2)) := hcc8 2 _ rfl; have hx8_3 : w15.cell? ⟨go5, (x5_1 : Int).toNat * 4 + 3, none⟩ = some (.int .i64 ((rd_T50 y377 x5_1).f3)) := hcc8 3 _ rfl; have hf8_0 : w15.frozen? ⟨go5, (x5_1 : Int).toNat * 4, none⟩ = false := hfr8 0; have hf8_1 : w15.frozen? ⟨go5, (x5_1 : Int).toNat * 4 + 1, none⟩ = false := hfr8 1; have hf8_2 : w15.frozen? ⟨go5, (x5_1 : Int).toNat * 4 + 2, none⟩ = false := hfr8 2; have hf8_3 : w15.frozen? ⟨go5, (x5_1 : Int).toNat * 4 + 3, none⟩ = false := hfr8 3; clear hcl8 hcc8 hfr8 hM8; replace p8 := eq_true p8; replace q8 := eq_true q8; have HX16 := az (show Kd.R k50 50 w15 w0.heap.size (fun k_ => (P0_ k_ ∨ w.heap.size ≤ k_)) (.slice (some ⟨go5, 0, none⟩) x0_1.length co9) y377 from (zC HO_0.out)); obtain ⟨ce16, hcl16, hM16, hcc16, hfr16⟩ := Kd.R_elem HX16.out z50 (x5_1 : Int) (of_decide_eq_true (by assumption)) (by have h_ : (x5_1 : Int) < ((x0_1.length : Int) : Int) := of_decide_eq_true (by assumption); first | exact h_ | (have e_ := (Kd.R_reads' HO_0.out).1; omega) | simpa using h_); obtain rfl := k50_openM hM16; have HP16 := Kd.R_seg HX16.out (x5_1 : Int) (of_decide_eq_true (by assumption)) (by have h_ : (x5_1 : Int) < ((x0_1.length : Int) : Int) := of_decide_eq_true (by assumption); first | exact h_ | (have e_ := (Kd.R_reads' HO_0.out).1; omega) | simpa using h_) (seg := [.int .i64 (wrap64 ((wrap64 ((wrap64 (x1_1 + 1)) + 1)) + 1))]) (j := 3) hcl16 hcc16 (show 4 ≤ 4 from by decide) (x' := (⟨(rd_T50 y377 x5_1).f0, (rd_T50 y377 x5_1).f1, (rd_T50 y377 x5_1).f2, wrap64 ((wrap64 ((wrap64 (x1_1 + 1)) + 1)) + 1)⟩ : S50)) (k50_mkM _ _ _ (⟨(rd_T50 y377 x5_1).f0, (rd_T50 y377 x5_1).f1, (rd_T50 y377 x5_1).f2, wrap64 ((wrap64 ((wrap64 (x1_1 + 1)) + 1)) + 1)⟩ : S50) ) (fun _ hk => hk); have hx16_3 := hcc16 3 _ rfl; (try simp only [show (k50).sz = 4 from rfl, Nat.mul_one, Nat.add_zero] at hx16_3); have hf16_3 := hfr16 3; (try simp only [show (k50).sz = 4 from rfl, Nat.mul_one, Nat.add_zero] at hf16_3); clear hcl16 hcc16 hfr16 hM16) | ((with_reducible refine gate_store (t := 3) (p := 37) rfl ?_); refine store_event (t := 3) (p := 37) (v := ?vo_w17) (w1 := (w15.setCell ⟨go5, (x5_1 : Int).toNat * 4 + 3, none⟩ (.int .i64 (wrap64 ((wrap64 ((wrap64 (x1_1 + 1)) + 1)) + 1))))) ?hg ?ho ?hn ?hr ?_; (case ho => rfl); (case hg => rfl); (case hn => rfl); (case hr => first | (go_simp; done) | (go_simp; rfl)); intro w17 hw; have hg : w15.grownBy w17 (some go5) := (by rw [hw]; exact HP16.2); have hp_ : Kd.R k50 50 w17 w0.heap.size (fun k_ => (P0_ k_ ∨ w.heap.size ≤ k_)) (.slice (some ⟨go5, 0, none⟩) x0_1.length co9) y378 := (by rw [hw, Ny378.out]; exact HP16.1); clear HP16; have n0_ := az (hp_); have n1_ := az ((by rw [hw]; exact below_set (HB.out) GB5.out : Below w0.heap.size w0 w17)); have n2_ := az (Kept.of_grown (S := (fun k_ => P0_ k_)) hg (zR HK.out) (fun k_ e_ => (HO_0.out.1 k_ e_))); clear HO_0; clear HB; clear HK; have HO_0 := n0_; have HB := n1_; have HK := n2_; clear n0_ n1_ n2_; clear hg hw hp_))
     go_roundg k1
     case measure => have := HK1.out; omega
     case rel => exact ⟨(y378), (wrap64 ((wrap64 ((wrap64 ((wrap64 (x1_1 + 1)) + 1)) + 1)) + 1)), (wrap64 (x5_1 + 1)), zB, zB, H', ⟨zG HK1.out⟩, ⟨zC HO_0.out⟩, ⟨zR HK.out⟩, ⟨zA HB.out⟩⟩
    ·
     rw [if_neg c4] at H; exact absurd H (by simp)
   ·
    rw [if_neg c3] at H; have c3b0 : decide (x5_1 < (x0_1.length : Int)) = false := decide_eq_false c3; clear c3; simp only [Option.some.injEq, Prod.mk.injEq] at H; obtain ⟨rfl, rfl⟩ := H; obtain ⟨Ao18, co18, eo18⟩ := Kd.R_slice HO_0.out; subst eo18; go_wp2; go_ret; exact ⟨zF, zC HO_0.out, zA HB.out, zR HK.out⟩
def laws_heldIntS.l0 : Nat → List Int → Int → Int → Option (Int)
 | 0, _, _, _ => none
 | k + 1, x0, x1, x5 => if x5 < (x0.length : Int) then (if 0 ≤ x5 then (if (rd x0 x5) = x1 then (laws_heldIntS.l0 k x0 (wrap64 (x1 + 1)) (wrap64 (x5 + 1))) else (some (-1))) else (none)) else (some x1)
def laws_heldIntS.f (k : Nat) (l0 : List Int) (a1 : Int) : Option (Int) := laws_heldIntS.l0 k l0 a1 0
theorem laws_heldIntS.mono_l : ∀ k, (∀ y0 y1 y2, LeO (laws_heldIntS.l0 k y0 y1 y2) (laws_heldIntS.l0 (k + 1) y0 y1 y2))
 | 0 => fun _ _ _ r h => by simp [laws_heldIntS.l0] at h
 | k + 1 => by
  have ih0 := laws_heldIntS.mono_l k
  ·
   intro y0 y1 y2; unfold laws_heldIntS.l0
   repeat' first
   | (with_reducible exact ih0 _ _ _)
   | (with_reducible exact LeO.refl _)
   | (with_reducible exact LeO.none _)
   | (with_reducible refine LeO.ite ?_ ?_)
   | (with_reducible refine LeO.bind ?_ (fun _ => ?_))
   | exact ih0 _ _ _
   | exact LeO.none _
   | refine LeO.ite ?_ ?_
   | refine LeO.bind ?_ (fun _ => ?_)
theorem laws_heldIntS.mono : ∀ a0 a1 k, LeO (laws_heldIntS.f k a0 a1) (laws_heldIntS.f (k + 1) a0 a1) := by
 intro a0 a1 k; have ih0 := laws_heldIntS.mono_l k; unfold laws_heldIntS.f
 repeat' first
   | (with_reducible exact ih0 _ _ _)
   | (with_reducible exact LeO.refl _)
   | (with_reducible exact LeO.none _)
   | (with_reducible refine LeO.ite ?_ ?_)
   | (with_reducible refine LeO.bind ?_ (fun _ => ?_))
   | exact ih0 _ _ _
   | exact LeO.none _
   | refine LeO.ite ?_ ?_
   | refine LeO.bind ?_ (fun _ => ?_)
theorem laws_heldIntS.calls (k : Nat) (A0 : Option Addr) (c0 : Nat) (l0 : List Int) (a1 : Int) (r : Int) (w : World) (hr0 : Kd.C (Kd.int .i64) w A0 l0.length l0) (hc0 : l0.length ≤ c0) (h : laws_heldIntS.f k l0 a1 = some r) :
  Calls Tryz.prog 20 #[.slice A0 l0.length c0, .int .i64 a1] w fun e w' => e = .returned (.int .i64 r) ∧ Drawn0 w w' := by
 have HR0 := az hr0; have HC0 := az hc0; clear hr0 hc0; have H : (laws_heldIntS.l0 k l0 a1 0) = some r := h; clear h; have H' := az H; clear H; go_enter Tryz.func20, Tryz.ntmps20; go_wp2; go_loopg [1, 5] k (fun kq v1 v5 w' => ∃ (x1_1 : Int) (x5_1 : Int), v1 = .int .i64 x1_1 ∧ v5 = .int .i64 x5_1 ∧ Aside0 (laws_heldIntS.l0 kq l0 x1_1 x5_1 = some r) ∧ Aside0 (kq ≤ k) ∧ Drawn0 w w')
 case atStart => exact ⟨(a1), (0), zB, zB, H', ⟨Nat.le_refl _⟩, zE⟩
 case round =>
  clear H'; (try clear c2); (try clear p2); obtain ⟨x1_1, x5_1, rfl, rfl, HA, HK1, ⟨m1, rfl⟩⟩ := hrel
  cases gk with
  | zero => exact absurd HA.out (by simp [laws_heldIntS.l0])
  | succ k1 =>
   have H := HA.out; clear HA; simp only [laws_heldIntS.l0] at H; by_cases c3 : x5_1 < (l0.length : Int)
   ·
    rw [if_pos c3] at H; have c3b0 : decide (x5_1 < (l0.length : Int)) = true := decide_eq_true c3; clear c3; by_cases c4 : 0 ≤ x5_1
    ·
     rw [if_pos c4] at H; have c4b0 : decide (0 ≤ x5_1) = true := decide_eq_true c4; clear c4; by_cases c5 : (rd l0 x5_1) = x1_1
     ·
      rw [if_pos c5] at H; have c5b0 : ((rd l0 x5_1) == x1_1) = true := beq_iff_eq.mpr c5; have c5b1 : ((rd l0 x5_1) != x1_1) = false := bne_eq_false_iff_eq.mpr c5; clear c5; have H' := az H; clear H; have p379 : 0 ≤ (x5_1 : Int) := of_decide_eq_true (by assumption); have q379 : x5_1 < (l0.length : Int) := of_decide_eq_true (by assumption); obtain ⟨ad379, e379, hx379_0⟩ := Kd.at_int HR0.out x5_1 p379 q379
      cases e379
      replace p379 := eq_true p379; replace q379 := eq_true q379; go_wp2; go_roundg k1
      case measure => have := HK1.out; omega
      case rel => exact ⟨(wrap64 (x1_1 + 1)), (wrap64 (x5_1 + 1)), zB, zB, H', ⟨zG HK1.out⟩, zE⟩
     ·
      rw [if_neg c5] at H; have c5b0 : ((rd l0 x5_1) == x1_1) = false := beq_eq_false_iff_ne.mpr c5; have c5b1 : ((rd l0 x5_1) != x1_1) = true := bne_iff_ne.mpr c5; obtain rfl := Option.some.inj H; have p379 : 0 ≤ (x5_1 : Int) := of_decide_eq_true (by assumption); have q379 : x5_1 < (l0.length : Int) := of_decide_eq_true (by assumption); obtain ⟨ad379, e379, hx379_0⟩ := Kd.at_int HR0.out x5_1 p379 q379
      cases e379
      replace p379 := eq_true p379; replace q379 := eq_true q379; go_wp2; go_ret; exact ⟨zB, zE⟩
    ·
     rw [if_neg c4] at H; exact absurd H (by simp)
   ·
    rw [if_neg c3] at H; have c3b0 : decide (x5_1 < (l0.length : Int)) = false := decide_eq_false c3; clear c3; obtain rfl := Option.some.inj H; go_wp2; go_ret; exact ⟨zB, zE⟩
def laws_FnExactFillLines.j0 : Nat → List Int → List (S52) → Int → Int → List Int → List Int → Bool → Option (Bool)
 | 0, _, _, _, _, _, _, _ => none
 | k + 1, x0, x1, x2, x3, x10, x13, x69 => if x69 = true then (none) else ((laws_markIntS.f k x13 1).bind fun bt413 => ((laws_heldIntS.f k bt413.2 1).bind fun t415 => (if t415 < 0 then (none) else (if t415 = bt413.1 then ((laws_toIntS.f k x0).bind fun t416 => ((laws_toSpanS.f k x1).bind fun t419 => ((impl_FillLines.f k t416 t419 x2 x3).bind fun t422 => ((laws_eqIntS.f k t422 x10).bind fun t425 => (if t425 = true then ((laws_heldIntS.f k bt413.2 1).bind fun t426 => (if t426 < 0 then (none) else (if t426 = bt413.1 then (some true) else (none)))) else (none)))))) else (none)))))
def laws_FnExactFillLines.f (k : Nat) (l0 : List Int) (l1 : List (S52)) (a2 : Int) (a3 : Int) : Option (Bool) := if (l0.length : Int) > 1048576 then (some true) else ((laws_szSpanS.f l1 1048576).bind fun t380 => (if t380 < 0 then (some true) else ((laws_toIntS.f k l0).bind fun t381 => ((laws_toSpanS.f k l1).bind fun t384 => ((spec_FillLines.f k t381 t384 a2 a3).bind fun t387 => ((laws_toIntS.f k l0).bind fun t390 => ((laws_toSpanS.f k l1).bind fun t393 => ((impl_FillLines.f k t390 t393 a2 a3).bind fun t396 => ((laws_eqIntS.f k t396 t387).bind fun t399 => (if t399 = true then ((laws_toIntS.f k l0).bind fun t400 => ((laws_eqIntS.f k t390 t400).bind fun t403 => (if t403 = true then ((laws_toSpanS.f k l1).bind fun t404 => ((laws_eqSpanS.f k t393 t404).bind fun t407 => (if t407 = true then ((laws_markIntS.f k t390 1).bind fun bt408 => ((laws_markSpanS.f k t393 bt408.1).bind fun bt410 => (if bt410.1 < 0 then (laws_FnExactFillLines.j0 k l0 l1 a2 a3 t387 t396 true) else ((laws_eqIntS.f k t396 t387).bind fun t412 => (laws_FnExactFillLines.j0 k l0 l1 a2 a3 t387 t396 (!t412)))))) else (none)))) else (none)))) else (none)))))))))))
theorem laws_FnExactFillLines.mono_l : ∀ k, (∀ y0 y1 y2 y3 y4 y5 y6, LeO (laws_FnExactFillLines.j0 k y0 y1 y2 y3 y4 y5 y6) (laws_FnExactFillLines.j0 (k + 1) y0 y1 y2 y3 y4 y5 y6))
 | 0 => fun _ _ _ _ _ _ _ r h => by simp [laws_FnExactFillLines.j0] at h
 | k + 1 => by
  have ih0 := laws_FnExactFillLines.mono_l k
  ·
   intro y0 y1 y2 y3 y4 y5 y6; unfold laws_FnExactFillLines.j0
   repeat' first
   | (with_reducible exact ih0 _ _ _ _ _ _ _)
   | (with_reducible exact impl_FillLines.mono _ _ _ _ _)
   | (with_reducible exact laws_eqIntS.mono _ _ _)
   | (with_reducible exact laws_eqSpanS.mono _ _ _)
   | (with_reducible exact laws_heldIntS.mono _ _ _)
   | (with_reducible exact laws_markIntS.mono _ _ _)
   | (with_reducible exact laws_markSpanS.mono _ _ _)
   | (with_reducible exact laws_toIntS.mono _ _)
   | (with_reducible exact laws_toSpanS.mono _ _)
   | (with_reducible exact spec_FillLines.mono _ _ _ _ _)
   | (with_reducible exact LeO.refl _)
   | (with_reducible exact LeO.none _)
   | (with_reducible refine LeO.ite ?_ ?_)
   | (with_reducible refine LeO.bind ?_ (fun _ => ?_))
   | exact ih0 _ _ _ _ _ _ _
   | exact impl_FillLines.mono _ _ _ _ _
   | exact laws_eqIntS.mono _ _ _
   | exact laws_eqSpanS.mono _ _ _
   | exact laws_heldIntS.mono _ _ _
   | exact laws_markIntS.mono _ _ _
   | exact laws_markSpanS.mono _ _ _
   | exact laws_toIntS.mono _ _
   | exact laws_toSpanS.mono _ _
   | exact spec_FillLines.mono _ _ _ _ _
   | exact LeO.none _
   | refine LeO.ite ?_ ?_
   | refine LeO.bind ?_ (fun _ => ?_)
theorem laws_FnExactFillLines.mono : ∀ a0 a1 a2 a3 k, LeO (laws_FnExactFillLines.f k a0 a1 a2 a3) (laws_FnExactFillLines.f (k + 1) a0 a1 a2 a3) := by
 intro a0 a1 a2 a3 k; have ih0 := laws_FnExactFillLines.mono_l k; unfold laws_FnExactFillLines.f
 repeat' first
   | (with_reducible exact ih0 _ _ _ _ _ _ _)
   | (with_reducible exact impl_FillLines.mono _ _ _ _ _)
   | (with_reducible exact laws_eqIntS.mono _ _ _)
   | (with_reducible exact laws_eqSpanS.mono _ _ _)
   | (with_reducible exact laws_heldIntS.mono _ _ _)
   | (with_reducible exact laws_markIntS.mono _ _ _)
   | (with_reducible exact laws_markSpanS.mono _ _ _)
   | (with_reducible exact laws_toIntS.mono _ _)
   | (with_reducible exact laws_toSpanS.mono _ _)
   | (with_reducible exact spec_FillLines.mono _ _ _ _ _)
   | (with_reducible exact LeO.refl _)
   | (with_reducible exact LeO.none _)
   | (with_reducible refine LeO.ite ?_ ?_)
   | (with_reducible refine LeO.bind ?_ (fun _ => ?_))
   | exact ih0 _ _ _ _ _ _ _
   | exact impl_FillLines.mono _ _ _ _ _
   | exact laws_eqIntS.mono _ _ _
   | exact laws_eqSpanS.mono _ _ _
   | exact laws_heldIntS.mono _ _ _
   | exact laws_markIntS.mono _ _ _
   | exact laws_markSpanS.mono _ _ _
   | exact laws_toIntS.mono _ _
   | exact laws_toSpanS.mono _ _
   | exact spec_FillLines.mono _ _ _ _ _
   | exact LeO.none _
   | refine LeO.ite ?_ ?_
   | refine LeO.bind ?_ (fun _ => ?_)
theorem laws_FnExactFillLines.calls (k : Nat) (A0 : Option Addr) (c0 : Nat) (l0 : List Int) (A1 : Option Addr) (c1 : Nat) (l1 : List (S52)) (a2 : Int) (a3 : Int) (r : Bool) (w : World) (hr0 : Kd.C (Kd.int .i64) w A0 l0.length l0) (hc0 : l0.length ≤ c0) (hr1 : Kd.C k52 w A1 l1.length l1) (hc1 : l1.length ≤ c1) (h : laws_FnExactFillLines.f k l0 l1 a2 a3 = some r) :
  Calls Tryz.prog 3 #[.slice A0 l0.length c0, .slice A1 l1.length c1, .int .i64 a2, .int .i64 a3] w fun e w' => e = .returned (.bool r) ∧ Below w.heap.size w w' := by
 have HR0 := az hr0; have HC0 := az hc0; clear hr0 hc0; have HR1 := az hr1; have HC1 := az hc1; clear hr1 hc1; have HB := az (Below.refl w.heap.size w); have H : (if (l0.length : Int) > 1048576 then (some true) else ((laws_szSpanS.f l1 1048576).bind fun t380 => (if t380 < 0 then (some true) else ((laws_toIntS.f k l0).bind fun t381 => ((laws_toSpanS.f k l1).bind fun t384 => ((spec_FillLines.f k t381 t384 a2 a3).bind fun t387 => ((laws_toIntS.f k l0).bind fun t390 => ((laws_toSpanS.f k l1).bind fun t393 => ((impl_FillLines.f k t390 t393 a2 a3).bind fun t396 => ((laws_eqIntS.f k t396 t387).bind fun t399 => (if t399 = true then ((laws_toIntS.f k l0).bind fun t400 => ((laws_eqIntS.f k t390 t400).bind fun t403 => (if t403 = true then ((laws_toSpanS.f k l1).bind fun t404 => ((laws_eqSpanS.f k t393 t404).bind fun t407 => (if t407 = true then ((laws_markIntS.f k t390 1).bind fun bt408 => ((laws_markSpanS.f k t393 bt408.1).bind fun bt410 => (if bt410.1 < 0 then (laws_FnExactFillLines.j0 k l0 l1 a2 a3 t387 t396 true) else ((laws_eqIntS.f k t396 t387).bind fun t412 => (laws_FnExactFillLines.j0 k l0 l1 a2 a3 t387 t396 (!t412)))))) else (none)))) else (none)))) else (none)))))))))))) = some r := h; clear h; by_cases c5 : (l0.length : Int) > 1048576
 ·
  rw [if_pos c5] at H; have c5b0 : decide (1048576 < (l0.length : Int)) = true := decide_eq_true c5; have c5b1 : decide (1048576 < l0.length) = true := decide_eq_true (by omega); clear c5; obtain rfl := Option.some.inj H; go_enter Tryz.func3, Tryz.ntmps3; go_wp2; go_ret; exact ⟨zF, zA HB.out⟩
 ·
  rw [if_neg c5] at H; have c5b0 : decide (1048576 < (l0.length : Int)) = false := decide_eq_false c5; have c5b1 : decide (1048576 < l0.length) = false := decide_eq_false (by omega); clear c5; replace H := Option.bind_eq_some_iff.mp H; obtain ⟨t380, A60, H⟩ := H; replace H : (if t380 < 0 then (some true) else ((laws_toIntS.f k l0).bind fun t381 => ((laws_toSpanS.f k l1).bind fun t384 => ((spec_FillLines.f k t381 t384 a2 a3).bind fun t387 => ((laws_toIntS.f k l0).bind fun t390 => ((laws_toSpanS.f k l1).bind fun t393 => ((impl_FillLines.f k t390 t393 a2 a3).bind fun t396 => ((laws_eqIntS.f k t396 t387).bind fun t399 => (if t399 = true then ((laws_toIntS.f k l0).bind fun t400 => ((laws_eqIntS.f k t390 t400).bind fun t403 => (if t403 = true then ((laws_toSpanS.f k l1).bind fun t404 => ((laws_eqSpanS.f k t393 t404).bind fun t407 => (if t407 = true then ((laws_markIntS.f k t390 1).bind fun bt408 => ((laws_markSpanS.f k t393 bt408.1).bind fun bt410 => (if bt410.1 < 0 then (laws_FnExactFillLines.j0 k l0 l1 a2 a3 t387 t396 true) else ((laws_eqIntS.f k t396 t387).bind fun t412 => (laws_FnExactFillLines.j0 k l0 l1 a2 a3 t387 t396 (!t412)))))) else (none)))) else (none)))) else (none)))))))))) = some r := H; have A6 := az A60; clear A60; by_cases c7 : t380 < 0
  ·
   rw [if_pos c7] at H; have c7b0 : decide (t380 < 0) = true := decide_eq_true c7; clear c7; obtain rfl := Option.some.inj H; go_enter Tryz.func3, Tryz.ntmps3; go_wp2_with (first | ((with_reducible refine gate_callee (f := 11) rfl ?_); refine goesL_ (some 23) rfl rfl Tryz.func11 (by kernel_rfl) rfl #[.slice A1 l1.length c1, .int .i64 1048576] rfl zD ?_; (with_reducible refine (laws_szSpanS.calls _ _ l1 1048576 t380 _ ?side1 ?side2 A6.out).mono ?_); (case side1 => exact (zP HR1.out)); (case side2 => exact HC1.out); rintro e w' ⟨rfl, ⟨nd, rfl⟩⟩; refine ⟨_, rfl, ?_⟩)); go_ret; exact ⟨zF, zA HB.out⟩
  ·
   rw [if_neg c7] at H; have c7b0 : decide (t380 < 0) = false := decide_eq_false c7; clear c7; replace H := Option.bind_eq_some_iff.mp H; obtain ⟨t381, A80, H⟩ := H; replace H : ((laws_toSpanS.f k l1).bind fun t384 => ((spec_FillLines.f k t381 t384 a2 a3).bind fun t387 => ((laws_toIntS.f k l0).bind fun t390 => ((laws_toSpanS.f k l1).bind fun t393 => ((impl_FillLines.f k t390 t393 a2 a3).bind fun t396 => ((laws_eqIntS.f k t396 t387).bind fun t399 => (if t399 = true then ((laws_toIntS.f k l0).bind fun t400 => ((laws_eqIntS.f k t390 t400).bind fun t403 => (if t403 = true then ((laws_toSpanS.f k l1).bind fun t404 => ((laws_eqSpanS.f k t393 t404).bind fun t407 => (if t407 = true then ((laws_markIntS.f k t390 1).bind fun bt408 => ((laws_markSpanS.f k t393 bt408.1).bind fun bt410 => (if bt410.1 < 0 then (laws_FnExactFillLines.j0 k l0 l1 a2 a3 t387 t396 true) else ((laws_eqIntS.f k t396 t387).bind fun t412 => (laws_FnExactFillLines.j0 k l0 l1 a2 a3 t387 t396 (!t412)))))) else (none)))) else (none)))) else (none)))))))) = some r := H; have A8 := az A80; clear A80; replace H := Option.bind_eq_some_iff.mp H; obtain ⟨t384, A90, H⟩ := H; replace H : ((spec_FillLines.f k t381 t384 a2 a3).bind fun t387 => ((laws_toIntS.f k l0).bind fun t390 => ((laws_toSpanS.f k l1).bind fun t393 => ((impl_FillLines.f k t390 t393 a2 a3).bind fun t396 => ((laws_eqIntS.f k t396 t387).bind fun t399 => (if t399 = true then ((laws_toIntS.f k l0).bind fun t400 => ((laws_eqIntS.f k t390 t400).bind fun t403 => (if t403 = true then ((laws_toSpanS.f k l1).bind fun t404 => ((laws_eqSpanS.f k t393 t404).bind fun t407 => (if t407 = true then ((laws_markIntS.f k t390 1).bind fun bt408 => ((laws_markSpanS.f k t393 bt408.1).bind fun bt410 => (if bt410.1 < 0 then (laws_FnExactFillLines.j0 k l0 l1 a2 a3 t387 t396 true) else ((laws_eqIntS.f k t396 t387).bind fun t412 => (laws_FnExactFillLines.j0 k l0 l1 a2 a3 t387 t396 (!t412)))))) else (none)))) else (none)))) else (none))))))) = some r := H; have A9 := az A90; clear A90; replace H := Option.bind_eq_some_iff.mp H; obtain ⟨t387, A100, H⟩ := H; replace H : ((laws_toIntS.f k l0).bind fun t390 => ((laws_toSpanS.f k l1).bind fun t393 => ((impl_FillLines.f k t390 t393 a2 a3).bind fun t396 => ((laws_eqIntS.f k t396 t387).bind fun t399 => (if t399 = true then ((laws_toIntS.f k l0).bind fun t400 => ((laws_eqIntS.f k t390 t400).bind fun t403 => (if t403 = true then ((laws_toSpanS.f k l1).bind fun t404 => ((laws_eqSpanS.f k t393 t404).bind fun t407 => (if t407 = true then ((laws_markIntS.f k t390 1).bind fun bt408 => ((laws_markSpanS.f k t393 bt408.1).bind fun bt410 => (if bt410.1 < 0 then (laws_FnExactFillLines.j0 k l0 l1 a2 a3 t387 t396 true) else ((laws_eqIntS.f k t396 t387).bind fun t412 => (laws_FnExactFillLines.j0 k l0 l1 a2 a3 t387 t396 (!t412)))))) else (none)))) else (none)))) else (none)))))) = some r := H; have A10 := az A100; clear A100; replace H := Option.bind_eq_some_iff.mp H; obtain ⟨t390, A110, H⟩ := H; replace H : ((laws_toSpanS.f k l1).bind fun t393 => ((impl_FillLines.f k t390 t393 a2 a3).bind fun t396 => ((laws_eqIntS.f k t396 t387).bind fun t399 => (if t399 = true then ((laws_toIntS.f k l0).bind fun t400 => ((laws_eqIntS.f k t390 t400).bind fun t403 => (if t403 = true then ((laws_toSpanS.f k l1).bind fun t404 => ((laws_eqSpanS.f k t393 t404).bind fun t407 => (if t407 = true then ((laws_markIntS.f k t390 1).bind fun bt408 => ((laws_markSpanS.f k t393 bt408.1).bind fun bt410 => (if bt410.1 < 0 then (laws_FnExactFillLines.j0 k l0 l1 a2 a3 t387 t396 true) else ((laws_eqIntS.f k t396 t387).bind fun t412 => (laws_FnExactFillLines.j0 k l0 l1 a2 a3 t387 t396 (!t412)))))) else (none)))) else (none)))) else (none))))) = some r := H; have A11 := az A110; clear A110; replace H := Option.bind_eq_some_iff.mp H; obtain ⟨t393, A120, H⟩ := H; replace H : ((impl_FillLines.f k t390 t393 a2 a3).bind fun t396 => ((laws_eqIntS.f k t396 t387).bind fun t399 => (if t399 = true then ((laws_toIntS.f k l0).bind fun t400 => ((laws_eqIntS.f k t390 t400).bind fun t403 => (if t403 = true then ((laws_toSpanS.f k l1).bind fun t404 => ((laws_eqSpanS.f k t393 t404).bind fun t407 => (if t407 = true then ((laws_markIntS.f k t390 1).bind fun bt408 => ((laws_markSpanS.f k t393 bt408.1).bind fun bt410 => (if bt410.1 < 0 then (laws_FnExactFillLines.j0 k l0 l1 a2 a3 t387 t396 true) else ((laws_eqIntS.f k t396 t387).bind fun t412 => (laws_FnExactFillLines.j0 k l0 l1 a2 a3 t387 t396 (!t412)))))) else (none)))) else (none)))) else (none)))) = some r := H
   have A12 := az A120; clear A120; replace H := Option.bind_eq_some_iff.mp H; obtain ⟨t396, A130, H⟩ := H; replace H : ((laws_eqIntS.f k t396 t387).bind fun t399 => (if t399 = true then ((laws_toIntS.f k l0).bind fun t400 => ((laws_eqIntS.f k t390 t400).bind fun t403 => (if t403 = true then ((laws_toSpanS.f k l1).bind fun t404 => ((laws_eqSpanS.f k t393 t404).bind fun t407 => (if t407 = true then ((laws_markIntS.f k t390 1).bind fun bt408 => ((laws_markSpanS.f k t393 bt408.1).bind fun bt410 => (if bt410.1 < 0 then (laws_FnExactFillLines.j0 k l0 l1 a2 a3 t387 t396 true) else ((laws_eqIntS.f k t396 t387).bind fun t412 => (laws_FnExactFillLines.j0 k l0 l1 a2 a3 t387 t396 (!t412)))))) else (none)))) else (none)))) else (none))) = some r := H; have A13 := az A130; clear A130; replace H := Option.bind_eq_some_iff.mp H; obtain ⟨t399, A140, H⟩ := H; replace H : (if t399 = true then ((laws_toIntS.f k l0).bind fun t400 => ((laws_eqIntS.f k t390 t400).bind fun t403 => (if t403 = true then ((laws_toSpanS.f k l1).bind fun t404 => ((laws_eqSpanS.f k t393 t404).bind fun t407 => (if t407 = true then ((laws_markIntS.f k t390 1).bind fun bt408 => ((laws_markSpanS.f k t393 bt408.1).bind fun bt410 => (if bt410.1 < 0 then (laws_FnExactFillLines.j0 k l0 l1 a2 a3 t387 t396 true) else ((laws_eqIntS.f k t396 t387).bind fun t412 => (laws_FnExactFillLines.j0 k l0 l1 a2 a3 t387 t396 (!t412)))))) else (none)))) else (none)))) else (none)) = some r := H; have A14 := az A140; clear A140; by_cases c15 : t399 = true
   ·
    subst c15; have H1 : ((laws_toIntS.f k l0).bind fun t400 => ((laws_eqIntS.f k t390 t400).bind fun t403 => (if t403 = true then ((laws_toSpanS.f k l1).bind fun t404 => ((laws_eqSpanS.f k t393 t404).bind fun t407 => (if t407 = true then ((laws_markIntS.f k t390 1).bind fun bt408 => ((laws_markSpanS.f k t393 bt408.1).bind fun bt410 => (if bt410.1 < 0 then (laws_FnExactFillLines.j0 k l0 l1 a2 a3 t387 t396 true) else ((laws_eqIntS.f k t396 t387).bind fun t412 => (laws_FnExactFillLines.j0 k l0 l1 a2 a3 t387 t396 (!t412)))))) else (none)))) else (none)))) = some r := by rw [if_pos rfl] at H; exact H
    clear H; have H := H1; clear H1; replace H := Option.bind_eq_some_iff.mp H; obtain ⟨t400, A160, H⟩ := H; replace H : ((laws_eqIntS.f k t390 t400).bind fun t403 => (if t403 = true then ((laws_toSpanS.f k l1).bind fun t404 => ((laws_eqSpanS.f k t393 t404).bind fun t407 => (if t407 = true then ((laws_markIntS.f k t390 1).bind fun bt408 => ((laws_markSpanS.f k t393 bt408.1).bind fun bt410 => (if bt410.1 < 0 then (laws_FnExactFillLines.j0 k l0 l1 a2 a3 t387 t396 true) else ((laws_eqIntS.f k t396 t387).bind fun t412 => (laws_FnExactFillLines.j0 k l0 l1 a2 a3 t387 t396 (!t412)))))) else (none)))) else (none))) = some r := H; have A16 := az A160; clear A160; replace H := Option.bind_eq_some_iff.mp H; obtain ⟨t403, A170, H⟩ := H; replace H : (if t403 = true then ((laws_toSpanS.f k l1).bind fun t404 => ((laws_eqSpanS.f k t393 t404).bind fun t407 => (if t407 = true then ((laws_markIntS.f k t390 1).bind fun bt408 => ((laws_markSpanS.f k t393 bt408.1).bind fun bt410 => (if bt410.1 < 0 then (laws_FnExactFillLines.j0 k l0 l1 a2 a3 t387 t396 true) else ((laws_eqIntS.f k t396 t387).bind fun t412 => (laws_FnExactFillLines.j0 k l0 l1 a2 a3 t387 t396 (!t412)))))) else (none)))) else (none)) = some r := H; have A17 := az A170; clear A170; by_cases c18 : t403 = true
    ·
     subst c18; have H1 : ((laws_toSpanS.f k l1).bind fun t404 => ((laws_eqSpanS.f k t393 t404).bind fun t407 => (if t407 = true then ((laws_markIntS.f k t390 1).bind fun bt408 => ((laws_markSpanS.f k t393 bt408.1).bind fun bt410 => (if bt410.1 < 0 then (laws_FnExactFillLines.j0 k l0 l1 a2 a3 t387 t396 true) else ((laws_eqIntS.f k t396 t387).bind fun t412 => (laws_FnExactFillLines.j0 k l0 l1 a2 a3 t387 t396 (!t412)))))) else (none)))) = some r := by rw [if_pos rfl] at H; exact H
     clear H; have H := H1; clear H1; replace H := Option.bind_eq_some_iff.mp H; obtain ⟨t404, A190, H⟩ := H; replace H : ((laws_eqSpanS.f k t393 t404).bind fun t407 => (if t407 = true then ((laws_markIntS.f k t390 1).bind fun bt408 => ((laws_markSpanS.f k t393 bt408.1).bind fun bt410 => (if bt410.1 < 0 then (laws_FnExactFillLines.j0 k l0 l1 a2 a3 t387 t396 true) else ((laws_eqIntS.f k t396 t387).bind fun t412 => (laws_FnExactFillLines.j0 k l0 l1 a2 a3 t387 t396 (!t412)))))) else (none))) = some r := H; have A19 := az A190; clear A190; replace H := Option.bind_eq_some_iff.mp H; obtain ⟨t407, A200, H⟩ := H; replace H : (if t407 = true then ((laws_markIntS.f k t390 1).bind fun bt408 => ((laws_markSpanS.f k t393 bt408.1).bind fun bt410 => (if bt410.1 < 0 then (laws_FnExactFillLines.j0 k l0 l1 a2 a3 t387 t396 true) else ((laws_eqIntS.f k t396 t387).bind fun t412 => (laws_FnExactFillLines.j0 k l0 l1 a2 a3 t387 t396 (!t412)))))) else (none)) = some r := H; have A20 := az A200; clear A200; by_cases c21 : t407 = true
     ·
      subst c21; have H1 : ((laws_markIntS.f k t390 1).bind fun bt408 => ((laws_markSpanS.f k t393 bt408.1).bind fun bt410 => (if bt410.1 < 0 then (laws_FnExactFillLines.j0 k l0 l1 a2 a3 t387 t396 true) else ((laws_eqIntS.f k t396 t387).bind fun t412 => (laws_FnExactFillLines.j0 k l0 l1 a2 a3 t387 t396 (!t412)))))) = some r := by rw [if_pos rfl] at H; exact H
      clear H; have H := H1; clear H1; replace H := Option.bind_eq_some_iff.mp H; obtain ⟨⟨t408, t409⟩, A220, H⟩ := H; replace H : ((laws_markSpanS.f k t393 t408).bind fun bt410 => (if bt410.1 < 0 then (laws_FnExactFillLines.j0 k l0 l1 a2 a3 t387 t396 true) else ((laws_eqIntS.f k t396 t387).bind fun t412 => (laws_FnExactFillLines.j0 k l0 l1 a2 a3 t387 t396 (!t412))))) = some r := H; have A22 := az A220; clear A220; replace H := Option.bind_eq_some_iff.mp H; obtain ⟨⟨t410, t411⟩, A230, H⟩ := H; replace H : (if t410 < 0 then (laws_FnExactFillLines.j0 k l0 l1 a2 a3 t387 t396 true) else ((laws_eqIntS.f k t396 t387).bind fun t412 => (laws_FnExactFillLines.j0 k l0 l1 a2 a3 t387 t396 (!t412)))) = some r := H; have A23 := az A230; clear A230; have HC24 := az H; clear H; go_enter Tryz.func3, Tryz.ntmps3; go_upto_region 20 with (first | ((with_reducible refine gate_callee (f := 11) rfl ?_); refine goesL_ (some 23) rfl rfl Tryz.func11 (by kernel_rfl) rfl #[.slice A1 l1.length c1, .int .i64 1048576] rfl zD ?_; (with_reducible refine (laws_szSpanS.calls _ _ l1 1048576 t380 _ ?side1 ?side2 A6.out).mono ?_); (case side1 => exact (zP HR1.out)); (case side2 => exact HC1.out); rintro e w' ⟨rfl, ⟨nd, rfl⟩⟩; refine ⟨_, rfl, ?_⟩) | ((with_reducible refine gate_callee (f := 13) rfl ?_); refine goesL_ (some 27) rfl rfl Tryz.func13 (by kernel_rfl) rfl #[.slice A0 l0.length c0] rfl zD ?_; (with_reducible refine (laws_toIntS.calls k _ _ l0 t381 _ ?side1 ?side2 A8.out).mono ?_); (case side1 => exact (zP HR0.out)); (case side2 => exact HC0.out); rintro e w25 ⟨v382, rfl, ho0, hb⟩; refine ⟨_, rfl, ?_⟩; have n0_ := az (Kd.R_lower ho0 (below_size (zA HB.out))); have n1_ := az (below_step (zA HB.out) hb); clear HB; have HO383 := n0_; have HB := n1_; clear n0_ n1_; (try clear hb); (try clear hb2); (try clear hk); (try clear hi); (try clear ho0)) | ((with_reducible refine gate_callee (f := 14) rfl ?_); refine goesL_ (some 29) rfl rfl Tryz.func14 (by kernel_rfl) rfl #[.slice A1 l1.length c1] rfl zD ?_; (with_reducible refine (laws_toSpanS.calls k _ _ l1 t384 _ ?side1 ?side2 A9.out).mono ?_); (case side1 => exact (zN HR1.out HB.out)); (case side2 => exact HC1.out); rintro e w26 ⟨v385, rfl, ho0, hb⟩; refine ⟨_, rfl, ?_⟩; have n0_ := az (Kd.R_below (zC HO383.out) hb); have n1_ := az (Kd.R_lower ho0 (below_size (zA HB.out))); have n2_ := az (below_step (zA HB.out) hb); clear HO383; clear HB; have HO383 := n0_; have HO386 := n1_; have HB := n2_; clear n0_ n1_ n2_; (try clear hb); (try clear hb2); (try clear hk); (try clear hi); (try clear ho0); obtain ⟨Ao27, co27, eo27⟩ := Kd.R_slice HO383.out; subst eo27; obtain ⟨Ao28, co28, eo28⟩ := Kd.R_slice HO386.out; subst eo28) | ((with_reducible refine gate_callee (f := 12) rfl ?_); refine goesL_ (some 32) rfl rfl Tryz.func12 (by kernel_rfl) rfl #[.slice Ao27 t381.length co27, .slice Ao28 t384.length co28, .int .i64 a2, .int .i64 a3] rfl zD ?_; (with_reducible refine (spec_FillLines.calls k _ _ t381 _ _ t384 a2 a3 t387 _ ?side1 ?side2 ?side3 ?side4 A10.out).mono ?_); (case side1 => exact (zM HO383.out)); (case side2 => exact (Kd.R_reads' HO383.out).2.1); (case side3 => exact (zM HO386.out)); (case side4 => exact (Kd.R_reads' HO386.out).2.1); rintro e w29 ⟨v388, rfl, ho0, hb⟩; refine ⟨_, rfl, ?_⟩; have n0_ := az (Kd.R_elder' (zC HO383.out) (Kd.R_base ho0) hb); have n1_ := az (Kd.R_below (zC HO386.out) hb); have n2_ := az (Kd.R_lower (Kd.R_new' ho0 (Kd.R_lt (zC HO383.out))) (below_size (zA HB.out))); have n3_ := az (below_step (zA HB.out) hb); clear HO383; clear HO386; clear HB; have HO383 := n0_; have HO386 := n1_; have HO389 := n2_; have HB := n3_; clear n0_ n1_ n2_ n3_; (try clear hb); (try clear hb2); (try clear hk); (try clear hi); (try clear ho0)) | ((with_reducible refine gate_callee (f := 13) rfl ?_); refine goesL_ (some 34) rfl rfl Tryz.func13 (by kernel_rfl) rfl #[.slice A0 l0.length c0] rfl zD ?_; (with_reducible refine (laws_toIntS.calls k _ _ l0 t390 _ ?side1 ?side2 A11.out).mono ?_); (case side1 => exact (zN HR0.out HB.out)); (case side2 => exact HC0.out); rintro e w30 ⟨v391, rfl, ho0, hb⟩; refine ⟨_, rfl, ?_⟩; have n0_ := az (Kd.R_elder' (zC HO383.out) (Kd.R_base ho0) hb); have n1_ := az (Kd.R_below (zC HO386.out) hb); have n2_ := az (Kd.R_elder' (zC HO389.out) (Kd.R_base ho0) hb); have n3_ := az (Kd.R_lower (Kd.R_new' (Kd.R_new' ho0 (Kd.R_lt (zC HO383.out))) (Kd.R_lt (zC HO389.out))) (below_size (zA HB.out))); have n4_ := az (below_step (zA HB.out) hb); clear HO383; clear HO386; clear HO389; clear HB; have HO383 := n0_; have HO386 := n1_; have HO389 := n2_; have HO392 := n3_; have HB := n4_; clear n0_ n1_ n2_ n3_ n4_; (try clear hb); (try clear hb2); (try clear hk); (try clear hi); (try clear ho0)) | ((with_reducible refine gate_callee (f := 14) rfl ?_); refine goesL_ (some 36) rfl rfl Tryz.func14 (by kernel_rfl) rfl #[.slice A1 l1.length c1] rfl zD ?_; (with_reducible refine (laws_toSpanS.calls k _ _ l1 t393 _ ?side1 ?side2 A12.out).mono ?_); (case side1 => exact (zN HR1.out HB.out)); (case side2 => exact HC1.out); rintro e w31 ⟨v394, rfl, ho0, hb⟩; refine ⟨_, rfl, ?_⟩; have n0_ := az (Kd.R_below (zC HO383.out) hb); have n1_ := az (Kd.R_elder' (zC HO386.out) (Kd.R_base ho0) hb); have n2_ := az (Kd.R_below (zC HO389.out) hb); have n3_ := az (Kd.R_below (zC HO392.out) hb); have n4_ := az (Kd.R_lower (Kd.R_new' ho0 (Kd.R_lt (zC HO386.out))) (below_size (zA HB.out))); have n5_ := az (below_step (zA HB.out) hb); clear HO383; clear HO386; clear HO389; clear HO392; clear HB; have HO383 := n0_; have HO386 := n1_; have HO389 := n2_; have HO392 := n3_; have HO395 := n4_; have HB := n5_; clear n0_ n1_ n2_ n3_ n4_ n5_; (try clear hb); (try clear hb2); (try clear hk); (try clear hi); (try clear ho0); obtain ⟨Ao32, co32, eo32⟩ := Kd.R_slice HO392.out; subst eo32; obtain ⟨Ao33, co33, eo33⟩ := Kd.R_slice HO395.out; subst eo33) | ((with_reducible refine gate_callee (f := 15) rfl ?_); refine goesL_ (some 41) rfl rfl Tryz.func15 (by kernel_rfl) rfl #[.slice Ao32 t390.length co32, .slice Ao33 t393.length co33, .int .i64 a2, .int .i64 a3] rfl zD ?_; (with_reducible refine (impl_FillLines.calls k _ _ t390 _ _ t393 a2 a3 t396 _ ?side1 ?side2 ?side3 ?side4 A13.out).mono ?_); (case side1 => exact (zM HO392.out)); (case side2 => exact (Kd.R_reads' HO392.out).2.1); (case side3 => exact (zM HO395.out)); (case side4 => exact (Kd.R_reads' HO395.out).2.1); rintro e w34 ⟨v397, rfl, ho0, hb⟩; refine ⟨_, rfl, ?_⟩; have n0_ := az (Kd.R_elder' (zC HO383.out) (Kd.R_base ho0) hb); have n1_ := az (Kd.R_below (zC HO386.out) hb); have n2_ := az (Kd.R_elder' (zC HO389.out) (Kd.R_base ho0) hb); have n3_ := az (Kd.R_elder' (zC HO392.out) (Kd.R_base ho0) hb); have n4_ := az (Kd.R_below (zC HO395.out) hb); have n5_ := az (Kd.R_lower (Kd.R_new' (Kd.R_new' (Kd.R_new' ho0 (Kd.R_lt (zC HO383.out))) (Kd.R_lt (zC HO389.out))) (Kd.R_lt (zC HO392.out))) (below_size (zA HB.out))); have n6_ := az (below_step (zA HB.out) hb); clear HO383; clear HO386; clear HO389; clear HO392; clear HO395; clear HB; have HO383 := n0_; have HO386 := n1_; have HO389 := n2_; have HO392 := n3_; have HO395 := n4_; have HO398 := n5_; have HB := n6_; clear n0_ n1_ n2_ n3_ n4_ n5_ n6_; (try clear hb); (try clear hb2); (try clear hk); (try clear hi); (try clear ho0); obtain ⟨Ao35, co35, eo35⟩ := Kd.R_slice HO398.out; subst eo35; obtain ⟨Ao36, co36, eo36⟩ := Kd.R_slice HO389.out; subst eo36) | ((with_reducible refine gate_callee (f := 16) rfl ?_); refine goesL_ (some 44) rfl rfl Tryz.func16 (by kernel_rfl) rfl #[.slice Ao35 t396.length co35, .slice Ao36 t387.length co36] rfl zD ?_; (with_reducible refine (laws_eqIntS.calls k _ _ t396 _ _ t387 true _ ?side1 ?side2 ?side3 ?side4 A14.out).mono ?_); (case side1 => exact (zM HO398.out)); (case side2 => exact (Kd.R_reads' HO398.out).2.1); (case side3 => exact (zM HO389.out)); (case side4 => exact (Kd.R_reads' HO389.out).2.1); rintro e w' ⟨rfl, ⟨nd, rfl⟩⟩; refine ⟨_, rfl, ?_⟩) | ((with_reducible refine gate_callee (f := 13) rfl ?_); refine goesL_ (some 48) rfl rfl Tryz.func13 (by kernel_rfl) rfl #[.slice A0 l0.length c0] rfl zD ?_; (with_reducible refine (laws_toIntS.calls k _ _ l0 t400 _ ?side1 ?side2 A16.out).mono ?_); (case side1 => repeat (first | exact (Kd.C_below HR0.out (zA HB.out)) | (with_reducible refine Kd.C_alloc ?_ _) | (with_reducible refine Kd.C_drewN ?_ _) | (with_reducible refine Kd.C_drew ?_))); (case side2 => exact HC0.out); rintro e w37 ⟨v401, rfl, ho0, hb⟩; refine ⟨_, rfl, ?_⟩; have n0_ := az (Kd.R_elder' (zC HO383.out) (Kd.R_base ho0) hb); have n1_ := az (Kd.R_below (zC HO386.out) hb); have n2_ := az (Kd.R_elder' (zC HO389.out) (Kd.R_base ho0) hb); have n3_ := az (Kd.R_elder' (zC HO392.out) (Kd.R_base ho0) hb); have n4_ := az (Kd.R_below (zC HO395.out) hb); have n5_ := az (Kd.R_elder' (zC HO398.out) (Kd.R_base ho0) hb); have n6_ := az (Kd.R_lower (Kd.R_new' (Kd.R_new' (Kd.R_new' (Kd.R_new' ho0 (Kd.R_lt (zC HO383.out))) (Kd.R_lt (zC HO389.out))) (Kd.R_lt (zC HO392.out))) (Kd.R_lt (zC HO398.out))) (below_size (zA HB.out))); have n7_ := az (below_step (zA HB.out) hb); clear HO383; clear HO386; clear HO389; clear HO392; clear HO395; clear HO398; clear HB; have HO383 := n0_; have HO386 := n1_; have HO389 := n2_; have HO392 := n3_; have HO395 := n4_; have HO398 := n5_; have HO402 := n6_; have HB := n7_; clear n0_ n1_ n2_ n3_ n4_ n5_ n6_ n7_; (try clear hb); (try clear hb2); (try clear hk); (try clear hi); (try clear ho0); obtain ⟨Ao38, co38, eo38⟩ := Kd.R_slice HO402.out; subst eo38) | ((with_reducible refine gate_callee (f := 16) rfl ?_); refine goesL_ (some 49) rfl rfl Tryz.func16 (by kernel_rfl) rfl #[.slice Ao32 t390.length co32, .slice Ao38 t400.length co38] rfl zD ?_; (with_reducible refine (laws_eqIntS.calls k _ _ t390 _ _ t400 true _ ?side1 ?side2 ?side3 ?side4 A17.out).mono ?_); (case side1 => exact (zM HO392.out)); (case side2 => exact (Kd.R_reads' HO392.out).2.1); (case side3 => exact (zM HO402.out)); (case side4 => exact (Kd.R_reads' HO402.out).2.1); rintro e w' ⟨rfl, ⟨nd, rfl⟩⟩; refine ⟨_, rfl, ?_⟩) | ((with_reducible refine gate_callee (f := 14) rfl ?_); refine goesL_ (some 53) rfl rfl Tryz.func14 (by kernel_rfl) rfl #[.slice A1 l1.length c1] rfl zD ?_; (with_reducible refine (laws_toSpanS.calls k _ _ l1 t404 _ ?side1 ?side2 A19.out).mono ?_); (case side1 => repeat (first | exact (Kd.C_below HR1.out (zA HB.out)) | (with_reducible refine Kd.C_alloc ?_ _) | (with_reducible refine Kd.C_drewN ?_ _) | (with_reducible refine Kd.C_drew ?_))); (case side2 => exact HC1.out); rintro e w39 ⟨v405, rfl, ho0, hb⟩; refine ⟨_, rfl, ?_⟩; have n0_ := az (Kd.R_below (zC HO383.out) hb); have n1_ := az (Kd.R_elder' (zC HO386.out) (Kd.R_base ho0) hb); have n2_ := az (Kd.R_below (zC HO389.out) hb); have n3_ := az (Kd.R_below (zC HO392.out) hb); have n4_ := az (Kd.R_elder' (zC HO395.out) (Kd.R_base ho0) hb); have n5_ := az (Kd.R_below (zC HO398.out) hb); have n6_ := az (Kd.R_below (zC HO402.out) hb); have n7_ := az (Kd.R_lower (Kd.R_new' (Kd.R_new' ho0 (Kd.R_lt (zC HO386.out))) (Kd.R_lt (zC HO395.out))) (below_size (zA HB.out))); have n8_ := az (below_step (zA HB.out) hb); clear HO383; clear HO386; clear HO389; clear HO392; clear HO395; clear HO398; clear HO402; clear HB; have HO383 := n0_; have HO386 := n1_; have HO389 := n2_; have HO392 := n3_; have HO395 := n4_; have HO398 := n5_; have HO402 := n6_; have HO406 := n7_; have HB := n8_; clear n0_ n1_ n2_ n3_ n4_ n5_ n6_ n7_ n8_; (try clear hb); (try clear hb2); (try clear hk); (try clear hi); (try clear ho0); obtain ⟨Ao40, co40, eo40⟩ := Kd.R_slice HO406.out; subst eo40) | ((with_reducible refine gate_callee (f := 17) rfl ?_); refine goesL_ (some 54) rfl rfl Tryz.func17 (by kernel_rfl) rfl #[.slice Ao33 t393.length co33, .slice Ao40 t404.length co40] rfl zD ?_; (with_reducible refine (laws_eqSpanS.calls k _ _ t393 _ _ t404 true _ ?side1 ?side2 ?side3 ?side4 A20.out).mono ?_); (case side1 => exact (zM HO395.out)); (case side2 => exact (Kd.R_reads' HO395.out).2.1); (case side3 => exact (zM HO406.out)); (case side4 => exact (Kd.R_reads' HO406.out).2.1); rintro e w41 ⟨rfl, hb⟩; refine ⟨_, rfl, ?_⟩; have n0_ := az (Kd.R_below (zC HO383.out) hb); have n1_ := az (Kd.R_below (zC HO386.out) hb); have n2_ := az (Kd.R_below (zC HO389.out) hb); have n3_ := az (Kd.R_below (zC HO392.out) hb); have n4_ := az (Kd.R_below (zC HO395.out) hb); have n5_ := az (Kd.R_below (zC HO398.out) hb); have n6_ := az (Kd.R_below (zC HO402.out) hb); have n7_ := az (Kd.R_below (zC HO406.out) hb); have n8_ := az (below_step (zA HB.out) hb); clear HO383; clear HO386; clear HO389; clear HO392; clear HO395; clear HO398; clear HO402; clear HO406; clear HB; have HO383 := n0_; have HO386 := n1_; have HO389 := n2_; have HO392 := n3_; have HO395 := n4_; have HO398 := n5_; have HO402 := n6_; have HO406 := n7_; have HB := n8_; clear n0_ n1_ n2_ n3_ n4_ n5_ n6_ n7_ n8_; (try clear hb); (try clear hb2); (try clear hk); (try clear hi)) | ((with_reducible refine gate_callee (f := 18) rfl ?_); refine goesL_ (some 58) rfl rfl Tryz.func18 (by kernel_rfl) rfl #[.slice Ao32 t390.length co32, .int .i64 1] rfl zD ?_; (with_reducible refine (laws_markIntS.calls k (fun k_ => some k_ = (.slice Ao32 t390.length co32 : Value).ownBlock) (.slice Ao32 t390.length co32) t390 1 t408 t409 w _ ?side1 ?side2 A22.out).mono ?_); (case side1 => exact (zA HB.out)); (case side2 => exact Kd.R_tight rfl HO392.out); rintro e w42 ⟨rfl, hy0, hb, hkp⟩; refine ⟨_, rfl, ?_⟩; have n0_ := az (Kd.R_mono (ok' := fun k_ => some k_ ≠ (.slice Ao36 t387.length co36 : Value).ownBlock ∧ some k_ ≠ (.slice Ao32 t390.length co32 : Value).ownBlock ∧ some k_ ≠ (.slice Ao35 t396.length co35 : Value).ownBlock ∧ some k_ ≠ (.slice Ao38 t400.length co38 : Value).ownBlock) (Kd.R_keptB (HO383.out) hkp (fun k_ hk_ hs_ => by revert hk_; simp +contextual [hs_])) (fun k_ hk_ => by revert hk_; simp +contextual)); have n1_ := az (Kd.R_mono (ok' := fun k_ => some k_ ≠ (.slice Ao33 t393.length co33 : Value).ownBlock ∧ some k_ ≠ (.slice Ao40 t404.length co40 : Value).ownBlock) (Kd.R_keptB ((Kd.R_apart' HO386.out (Kd.R_typed HO392.out) (by decide))) hkp (fun k_ hk_ hs_ => by revert hk_; simp +contextual [hs_])) (fun k_ hk_ => by revert hk_; simp +contextual)); have n2_ := az (Kd.R_mono (ok' := fun k_ => some k_ ≠ (.slice Ao27 t381.length co27 : Value).ownBlock ∧ some k_ ≠ (.slice Ao32 t390.length co32 : Value).ownBlock ∧ some k_ ≠ (.slice Ao35 t396.length co35 : Value).ownBlock ∧ some k_ ≠ (.slice Ao38 t400.length co38 : Value).ownBlock) (Kd.R_keptB (HO389.out) hkp (fun k_ hk_ hs_ => by revert hk_; simp +contextual [hs_])) (fun k_ hk_ => by revert hk_; simp +contextual)); have n3_ := az (Kd.R_reok rfl hy0 (fun k_ e_ => HO392.out.1 k_ e_)); have n4_ := az (Kd.R_mono (ok' := fun k_ => some k_ ≠ (.slice Ao28 t384.length co28 : Value).ownBlock ∧ some k_ ≠ (.slice Ao40 t404.length co40 : Value).ownBlock) (Kd.R_keptB ((Kd.R_apart' HO395.out (Kd.R_typed HO392.out) (by decide))) hkp (fun k_ hk_ hs_ => by revert hk_; simp +contextual [hs_])) (fun k_ hk_ => by revert hk_; simp +contextual)); have n5_ := az (Kd.R_mono (ok' := fun k_ => some k_ ≠ (.slice Ao27 t381.length co27 : Value).ownBlock ∧ some k_ ≠ (.slice Ao36 t387.length co36 : Value).ownBlock ∧ some k_ ≠ (.slice Ao32 t390.length co32 : Value).ownBlock ∧ some k_ ≠ (.slice Ao38 t400.length co38 : Value).ownBlock) (Kd.R_keptB (HO398.out) hkp (fun k_ hk_ hs_ => by revert hk_; simp +contextual [hs_])) (fun k_ hk_ => by revert hk_; simp +contextual)); have n6_ := az (Kd.R_mono (ok' := fun k_ => some k_ ≠ (.slice Ao27 t381.length co27 : Value).ownBlock ∧ some k_ ≠ (.slice Ao36 t387.length co36 : Value).ownBlock ∧ some k_ ≠ (.slice Ao32 t390.length co32 : Value).ownBlock ∧ some k_ ≠ (.slice Ao35 t396.length co35 : Value).ownBlock) (Kd.R_keptB (HO402.out) hkp (fun k_ hk_ hs_ => by revert hk_; simp +contextual [hs_])) (fun k_ hk_ => by revert hk_; simp +contextual)); have n7_ := az (Kd.R_mono (ok' := fun k_ => some k_ ≠ (.slice Ao28 t384.length co28 : Value).ownBlock ∧ some k_ ≠ (.slice Ao33 t393.length co33 : Value).ownBlock) (Kd.R_keptB ((Kd.R_apart' HO406.out (Kd.R_typed HO392.out) (by decide))) hkp (fun k_ hk_ hs_ => by revert hk_; simp +contextual [hs_])) (fun k_ hk_ => by revert hk_; simp +contextual)); have n8_ := az (hb); clear HO383; clear HO386; clear HO389; clear HO392; clear HO395; clear HO398; clear HO402; clear HO406; clear HB; have HO383 := n0_; have HO386 := n1_; have HO389 := n2_; have HO392 := n3_; have HO395 := n4_; have HO398 := n5_; have HO402 := n6_; have HO406 := n7_; have HB := n8_; clear n0_ n1_ n2_ n3_ n4_ n5_ n6_ n7_ n8_; (try clear hb); (try clear hkp); (try clear hy0)) | ((with_reducible refine gate_callee (f := 19) rfl ?_); refine goesL_ (some 61) rfl rfl Tryz.func19 (by kernel_rfl) rfl #[.slice Ao33 t393.length co33, .int .i64 t408] rfl zD ?_; (with_reducible refine (laws_markSpanS.calls k (fun k_ => some k_ = (.slice Ao33 t393.length co33 : Value).ownBlock) (.slice Ao33 t393.length co33) t393 t408 t410 t411 w _ ?side1 ?side2 A23.out).mono ?_); (case side1 => exact (zA HB.out)); (case side2 => exact Kd.R_tight rfl HO395.out); rintro e w43 ⟨rfl, hy0, hb, hkp⟩; refine ⟨_, rfl, ?_⟩; have n0_ := az (Kd.R_mono (ok' := fun k_ => some k_ ≠ (.slice Ao36 t387.length co36 : Value).ownBlock ∧ some k_ ≠ (.slice Ao32 t390.length co32 : Value).ownBlock ∧ some k_ ≠ (.slice Ao35 t396.length co35 : Value).ownBlock ∧ some k_ ≠ (.slice Ao38 t400.length co38 : Value).ownBlock) (Kd.R_keptB ((Kd.R_apart' HO383.out (Kd.R_typed HO395.out) (by decide))) hkp (fun k_ hk_ hs_ => by revert hk_; simp +contextual [hs_])) (fun k_ hk_ => by revert hk_; simp +contextual)); have n1_ := az (Kd.R_mono (ok' := fun k_ => some k_ ≠ (.slice Ao33 t393.length co33 : Value).ownBlock ∧ some k_ ≠ (.slice Ao40 t404.length co40 : Value).ownBlock) (Kd.R_keptB (HO386.out) hkp (fun k_ hk_ hs_ => by revert hk_; simp +contextual [hs_])) (fun k_ hk_ => by revert hk_; simp +contextual)); have n2_ := az (Kd.R_mono (ok' := fun k_ => some k_ ≠ (.slice Ao27 t381.length co27 : Value).ownBlock ∧ some k_ ≠ (.slice Ao32 t390.length co32 : Value).ownBlock ∧ some k_ ≠ (.slice Ao35 t396.length co35 : Value).ownBlock ∧ some k_ ≠ (.slice Ao38 t400.length co38 : Value).ownBlock) (Kd.R_keptB ((Kd.R_apart' HO389.out (Kd.R_typed HO395.out) (by decide))) hkp (fun k_ hk_ hs_ => by revert hk_; simp +contextual [hs_])) (fun k_ hk_ => by revert hk_; simp +contextual)); have n3_ := az (Kd.R_mono (ok' := fun k_ => some k_ ≠ (.slice Ao27 t381.length co27 : Value).ownBlock ∧ some k_ ≠ (.slice Ao36 t387.length co36 : Value).ownBlock ∧ some k_ ≠ (.slice Ao35 t396.length co35 : Value).ownBlock ∧ some k_ ≠ (.slice Ao38 t400.length co38 : Value).ownBlock) (Kd.R_keptB ((Kd.R_apart' HO392.out (Kd.R_typed HO395.out) (by decide))) hkp (fun k_ hk_ hs_ => by revert hk_; simp +contextual [hs_])) (fun k_ hk_ => by revert hk_; simp +contextual)); have n4_ := az (Kd.R_reok rfl hy0 (fun k_ e_ => HO395.out.1 k_ e_)); have n5_ := az (Kd.R_mono (ok' := fun k_ => some k_ ≠ (.slice Ao27 t381.length co27 : Value).ownBlock ∧ some k_ ≠ (.slice Ao36 t387.length co36 : Value).ownBlock ∧ some k_ ≠ (.slice Ao32 t390.length co32 : Value).ownBlock ∧ some k_ ≠ (.slice Ao38 t400.length co38 : Value).ownBlock) (Kd.R_keptB ((Kd.R_apart' HO398.out (Kd.R_typed HO395.out) (by decide))) hkp (fun k_ hk_ hs_ => by revert hk_; simp +contextual [hs_])) (fun k_ hk_ => by revert hk_; simp +contextual)); have n6_ := az (Kd.R_mono (ok' := fun k_ => some k_ ≠ (.slice Ao27 t381.length co27 : Value).ownBlock ∧ some k_ ≠ (.slice Ao36 t387.length co36 : Value).ownBlock ∧ some k_ ≠ (.slice Ao32 t390.length co32 : Value).ownBlock ∧ some k_ ≠ (.slice Ao35 t396.length co35 : Value).ownBlock) (Kd.R_keptB ((Kd.R_apart' HO402.out (Kd.R_typed HO395.out) (by decide))) hkp (fun k_ hk_ hs_ => by revert hk_; simp +contextual [hs_])) (fun k_ hk_ => by revert hk_; simp +contextual)); have n7_ := az (Kd.R_mono (ok' := fun k_ => some k_ ≠ (.slice Ao28 t384.length co28 : Value).ownBlock ∧ some k_ ≠ (.slice Ao33 t393.length co33 : Value).ownBlock) (Kd.R_keptB (HO406.out) hkp (fun k_ hk_ hs_ => by revert hk_; simp +contextual [hs_])) (fun k_ hk_ => by revert hk_; simp +contextual)); have n8_ := az (hb); clear HO383; clear HO386; clear HO389; clear HO392; clear HO395; clear HO398; clear HO402; clear HO406; clear HB; have HO383 := n0_; have HO386 := n1_; have HO389 := n2_; have HO392 := n3_; have HO395 := n4_; have HO398 := n5_; have HO402 := n6_; have HO406 := n7_; have HB := n8_; clear n0_ n1_ n2_ n3_ n4_ n5_ n6_ n7_ n8_; (try clear hb); (try clear hkp); (try clear hy0)))
      (try simp only [Act.put, List.setIfInBounds_toArray, List.set_cons_zero, List.set_cons_succ]); go_cut [69] (fun v69 wc => ∃ (kq : Nat) (x69_23 : Bool), v69 = .bool x69_23 ∧ Aside0 (laws_FnExactFillLines.j0 kq l0 l1 a2 a3 t387 t396 x69_23 = some r) ∧ Aside0 (kq ≤ k) ∧ Aside0 (Kd.R (Kd.int .i64) 3 wc w.heap.size (fun k_ => some k_ ≠ ((.slice Ao35 t396.length co35) : Value).ownBlock) (.slice Ao36 t387.length co36) t387) ∧ Aside0 (Kd.R (Kd.int .i64) 3 wc w.heap.size (fun k_ => some k_ ≠ ((.slice Ao36 t387.length co36) : Value).ownBlock) (.slice Ao35 t396.length co35) t396) ∧ Aside0 (Below w.heap.size w wc))
      case first =>
       have H := HC24.out; clear HC24; by_cases c44 : t410 < 0
       ·
        rw [if_pos c44] at H; have c44b0 : decide (t410 < 0) = true := decide_eq_true c44; clear c44; (first | rw [c44b0] | (simp only [i64_w, i32_w]; rw [c44b0]) | skip); have H' := az H; clear H; go_wp2; go_meet
        case rel => exact ⟨_, (true), zB, H', ⟨zK⟩, ⟨by (with_reducible repeat (first | apply Kd.R_alloc | apply Kd.R_drewN | apply Kd.R_drew)); exact Kd.R_mono HO389.out (fun k_ hk_ => by revert hk_; simp +contextual)⟩, ⟨by (with_reducible repeat (first | apply Kd.R_alloc | apply Kd.R_drewN | apply Kd.R_drew)); exact Kd.R_mono HO398.out (fun k_ hk_ => by revert hk_; simp +contextual)⟩, ⟨zA HB.out⟩⟩
       ·
        rw [if_neg c44] at H; have c44b0 : decide (t410 < 0) = false := decide_eq_false c44; clear c44; (first | rw [c44b0] | (simp only [i64_w, i32_w]; rw [c44b0]) | skip); replace H := Option.bind_eq_some_iff.mp H; obtain ⟨t412, A450, H⟩ := H; replace H : (laws_FnExactFillLines.j0 k l0 l1 a2 a3 t387 t396 (!t412)) = some r := H; have A45 := az A450; clear A450; have H' := az H; clear H; go_wp2_with (first | (go_at_call 16; (with_reducible refine (laws_eqIntS.calls k _ _ t396 _ _ t387 t412 _ ?side1 ?side2 ?side3 ?side4 A45.out).mono ?_); (case side1 => exact (zM HO398.out)); (case side2 => exact (Kd.R_reads' HO398.out).2.1); (case side3 => exact (zM HO389.out)); (case side4 => exact (Kd.R_reads' HO389.out).2.1); rintro e w' ⟨rfl, ⟨nd, rfl⟩⟩)); go_meet
        case rel => exact ⟨_, (!t412), zB, H', ⟨zK⟩, ⟨by (with_reducible repeat (first | apply Kd.R_alloc | apply Kd.R_drewN | apply Kd.R_drew)); exact Kd.R_mono HO389.out (fun k_ hk_ => by revert hk_; simp +contextual)⟩, ⟨by (with_reducible repeat (first | apply Kd.R_alloc | apply Kd.R_drewN | apply Kd.R_drew)); exact Kd.R_mono HO398.out (fun k_ hk_ => by revert hk_; simp +contextual)⟩, ⟨zA HB.out⟩⟩
      case rest =>
       clear HC24; (try clear c1); (try clear c2); (try clear p2); (try clear c3); (try clear c4); (try clear c5); (try clear c5b0); (try clear c5b1); (try clear c7); (try clear c7b0); (try clear c11); (try clear c12); (try clear c13); (try clear c14); (try clear c15); (try clear c16); (try clear c17); (try clear c18); (try clear c19); (try clear c21); (try clear c44); (try clear c44b0); obtain ⟨kq, x69_23, rfl, HA, HJ23, HO_10, HO_13, HB⟩ := hcut
       cases kq with
       | zero => exact absurd HA.out (by simp [laws_FnExactFillLines.j0])
       | succ kj23 =>
        have H := HA.out; clear HA; simp only [laws_FnExactFillLines.j0] at H; by_cases c46 : x69_23 = true
        ·
         subst c46; have H1 : (none) = some r := by rw [if_pos rfl] at H; exact H
         exact absurd H1 (by simp)
        ·
         replace c46 := Bool.eq_false_iff.mpr c46; subst c46; have H1 : ((laws_markIntS.f kj23 t396 1).bind fun bt413 => ((laws_heldIntS.f kj23 bt413.2 1).bind fun t415 => (if t415 < 0 then (none) else (if t415 = bt413.1 then ((laws_toIntS.f kj23 l0).bind fun t416 => ((laws_toSpanS.f kj23 l1).bind fun t419 => ((impl_FillLines.f kj23 t416 t419 a2 a3).bind fun t422 => ((laws_eqIntS.f kj23 t422 t387).bind fun t425 => (if t425 = true then ((laws_heldIntS.f kj23 bt413.2 1).bind fun t426 => (if t426 < 0 then (none) else (if t426 = bt413.1 then (some true) else (none)))) else (none)))))) else (none))))) = some r := by rw [if_neg (show ¬ (false = true) by decide)] at H; exact H
         clear H; have H := H1; clear H1; replace H := Option.bind_eq_some_iff.mp H; obtain ⟨⟨t413, t414⟩, A470, H⟩ := H; replace H : ((laws_heldIntS.f kj23 t414 1).bind fun t415 => (if t415 < 0 then (none) else (if t415 = t413 then ((laws_toIntS.f kj23 l0).bind fun t416 => ((laws_toSpanS.f kj23 l1).bind fun t419 => ((impl_FillLines.f kj23 t416 t419 a2 a3).bind fun t422 => ((laws_eqIntS.f kj23 t422 t387).bind fun t425 => (if t425 = true then ((laws_heldIntS.f kj23 t414 1).bind fun t426 => (if t426 < 0 then (none) else (if t426 = t413 then (some true) else (none)))) else (none)))))) else (none)))) = some r := H; have A47 := az A470; clear A470; replace H := Option.bind_eq_some_iff.mp H; obtain ⟨t415, A480, H⟩ := H; replace H : (if t415 < 0 then (none) else (if t415 = t413 then ((laws_toIntS.f kj23 l0).bind fun t416 => ((laws_toSpanS.f kj23 l1).bind fun t419 => ((impl_FillLines.f kj23 t416 t419 a2 a3).bind fun t422 => ((laws_eqIntS.f kj23 t422 t387).bind fun t425 => (if t425 = true then ((laws_heldIntS.f kj23 t414 1).bind fun t426 => (if t426 < 0 then (none) else (if t426 = t413 then (some true) else (none)))) else (none)))))) else (none))) = some r := H; have A48 := az A480; clear A480; by_cases c49 : t415 < 0
         ·
          rw [if_pos c49] at H; exact absurd H (by simp)
         ·
          rw [if_neg c49] at H; have c49b0 : decide (t415 < 0) = false := decide_eq_false c49; clear c49; by_cases c51 : t415 = t413
          ·
           rw [if_pos c51] at H; have c51b0 : (t415 == t413) = true := beq_iff_eq.mpr c51; have c51b1 : (t415 != t413) = false := bne_eq_false_iff_eq.mpr c51; clear c51; replace H := Option.bind_eq_some_iff.mp H; obtain ⟨t416, A520, H⟩ := H; replace H : ((laws_toSpanS.f kj23 l1).bind fun t419 => ((impl_FillLines.f kj23 t416 t419 a2 a3).bind fun t422 => ((laws_eqIntS.f kj23 t422 t387).bind fun t425 => (if t425 = true then ((laws_heldIntS.f kj23 t414 1).bind fun t426 => (if t426 < 0 then (none) else (if t426 = t413 then (some true) else (none)))) else (none))))) = some r := H; have A52 := az A520; clear A520; replace H := Option.bind_eq_some_iff.mp H; obtain ⟨t419, A530, H⟩ := H; replace H : ((impl_FillLines.f kj23 t416 t419 a2 a3).bind fun t422 => ((laws_eqIntS.f kj23 t422 t387).bind fun t425 => (if t425 = true then ((laws_heldIntS.f kj23 t414 1).bind fun t426 => (if t426 < 0 then (none) else (if t426 = t413 then (some true) else (none)))) else (none)))) = some r := H; have A53 := az A530; clear A530; replace H := Option.bind_eq_some_iff.mp H; obtain ⟨t422, A540, H⟩ := H; replace H : ((laws_eqIntS.f kj23 t422 t387).bind fun t425 => (if t425 = true then ((laws_heldIntS.f kj23 t414 1).bind fun t426 => (if t426 < 0 then (none) else (if t426 = t413 then (some true) else (none)))) else (none))) = some r := H; have A54 := az A540; clear A540; replace H := Option.bind_eq_some_iff.mp H; obtain ⟨t425, A550, H⟩ := H; replace H : (if t425 = true then ((laws_heldIntS.f kj23 t414 1).bind fun t426 => (if t426 < 0 then (none) else (if t426 = t413 then (some true) else (none)))) else (none)) = some r := H; have A55 := az A550; clear A550; by_cases c56 : t425 = true
           ·
            subst c56; have H1 : ((laws_heldIntS.f kj23 t414 1).bind fun t426 => (if t426 < 0 then (none) else (if t426 = t413 then (some true) else (none)))) = some r := by rw [if_pos rfl] at H; exact H
            clear H; have H := H1; clear H1; replace H := Option.bind_eq_some_iff.mp H; obtain ⟨t426, A570, H⟩ := H; replace H : (if t426 < 0 then (none) else (if t426 = t413 then (some true) else (none))) = some r := H; have A57 := az A570; clear A570; by_cases c58 : t426 < 0
            ·
             rw [if_pos c58] at H; exact absurd H (by simp)
            ·
             rw [if_neg c58] at H; have c58b0 : decide (t426 < 0) = false := decide_eq_false c58; clear c58; by_cases c66 : t426 = t413
             ·
              rw [if_pos c66] at H; have c66b0 : (t426 == t413) = true := beq_iff_eq.mpr c66; have c66b1 : (t426 != t413) = false := bne_eq_false_iff_eq.mpr c66; clear c66; obtain rfl := Option.some.inj H; go_wp2_with (first | ((with_reducible refine gate_callee (f := 18) rfl ?_); refine goesL_ (some 72) rfl rfl Tryz.func18 (by kernel_rfl) rfl #[.slice Ao35 t396.length co35, .int .i64 1] rfl zD ?_; (with_reducible refine (laws_markIntS.calls kj23 (fun k_ => some k_ = (.slice Ao35 t396.length co35 : Value).ownBlock) (.slice Ao35 t396.length co35) t396 1 t413 t414 w _ ?side1 ?side2 A47.out).mono ?_); (case side1 => exact (zA HB.out)); (case side2 => exact Kd.R_tight rfl HO_13.out); rintro e w67 ⟨rfl, hy0, hb, hkp⟩; refine ⟨_, rfl, ?_⟩; have n0_ := az (Kd.R_mono (ok' := fun k_ => some k_ ≠ (.slice Ao35 t396.length co35 : Value).ownBlock) (Kd.R_keptB (HO_10.out) hkp (fun k_ hk_ hs_ => by revert hk_; simp +contextual [hs_])) (fun k_ hk_ => by revert hk_; simp +contextual)); have n1_ := az (Kd.R_reok rfl hy0 (fun k_ e_ => HO_13.out.1 k_ e_)); have n2_ := az (hb); clear HO_10; clear HO_13; clear HB; have HO_10 := n0_; have HO_13 := n1_; have HB := n2_; clear n0_ n1_ n2_; (try clear hb); (try clear hkp); (try clear hy0)) | ((with_reducible refine gate_callee (f := 20) rfl ?_); refine goesL_ (some 75) rfl rfl Tryz.func20 (by kernel_rfl) rfl #[.slice Ao35 t414.length co35, .int .i64 1] rfl (by (try simp only [List.map_toArray, List.map_cons, List.map_nil]); first | done | (rw [show t414.length = t396.length from (Kd.R_reads' HO_13.out).1.symm] <;> rfl) | rfl | (simp only [List.length_drop, List.length_take]; rfl)) ?_; (with_reducible refine (laws_heldIntS.calls kj23 _ _ t414 1 t415 _ ?side1 ?side2 A48.out).mono ?_); (case side1 => exact (zM HO_13.out)); (case side2 => rw [show t414.length = t396.length from (Kd.R_reads' HO_13.out).1.symm]; exact (Kd.R_reads' HO_13.out).2.1); rintro e w' ⟨rfl, ⟨nd, rfl⟩⟩; refine ⟨_, rfl, ?_⟩) | ((with_reducible refine gate_callee (f := 13) rfl ?_); refine goesL_ (some 82) rfl rfl Tryz.func13 (by kernel_rfl) rfl #[.slice A0 l0.length c0] rfl zD ?_; (with_reducible refine (laws_toIntS.calls kj23 _ _ l0 t416 _ ?side1 ?side2 A52.out).mono ?_); (case side1 => repeat (first | exact (Kd.C_below HR0.out (zA HB.out)) | (with_reducible refine Kd.C_alloc ?_ _) | (with_reducible refine Kd.C_drewN ?_ _) | (with_reducible refine Kd.C_drew ?_))); (case side2 => exact HC0.out); rintro e w68 ⟨v417, rfl, ho0, hb⟩; refine ⟨_, rfl, ?_⟩; have n0_ := az (Kd.R_elder' (zC HO_10.out) (Kd.R_base ho0) hb); have n1_ := az (Kd.R_elder' (zC HO_13.out) (Kd.R_base ho0) hb); have n2_ := az (Kd.R_lower (Kd.R_new' (Kd.R_new' ho0 (Kd.R_lt (zC HO_10.out))) (Kd.R_lt (zC HO_13.out))) (below_size (zA HB.out))); have n3_ := az (below_step (zA HB.out) hb); clear HO_10; clear HO_13; clear HB; have HO_10 := n0_; have HO_13 := n1_; have HO418 := n2_; have HB := n3_; clear n0_ n1_ n2_ n3_; (try clear hb); (try clear hb2); (try clear hk); (try clear hi); (try clear ho0)) | ((with_reducible refine gate_callee (f := 14) rfl ?_); refine goesL_ (some 84) rfl rfl Tryz.func14 (by kernel_rfl) rfl #[.slice A1 l1.length c1] rfl zD ?_; (with_reducible refine (laws_toSpanS.calls kj23 _ _ l1 t419 _ ?side1 ?side2 A53.out).mono ?_); (case side1 => exact (zN HR1.out HB.out)); (case side2 => exact HC1.out); rintro e w69 ⟨v420, rfl, ho0, hb⟩; refine ⟨_, rfl, ?_⟩; have n0_ := az (Kd.R_below (zC HO_10.out) hb); have n1_ := az (Kd.R_below (zC HO_13.out) hb); have n2_ := az (Kd.R_below (zC HO418.out) hb); have n3_ := az (Kd.R_lower ho0 (below_size (zA HB.out))); have n4_ := az (below_step (zA HB.out) hb); clear HO_10; clear HO_13; clear HO418; clear HB; have HO_10 := n0_; have HO_13 := n1_; have HO418 := n2_; have HO421 := n3_; have HB := n4_; clear n0_ n1_ n2_ n3_ n4_; (try clear hb); (try clear hb2); (try clear hk); (try clear hi); (try clear ho0); obtain ⟨Ao70, co70, eo70⟩ := Kd.R_slice HO418.out; subst eo70; obtain ⟨Ao71, co71, eo71⟩ := Kd.R_slice HO421.out; subst eo71) | ((with_reducible refine gate_callee (f := 15) rfl ?_); refine goesL_ (some 87) rfl rfl Tryz.func15 (by kernel_rfl) rfl #[.slice Ao70 t416.length co70, .slice Ao71 t419.length co71, .int .i64 a2, .int .i64 a3] rfl zD ?_; (with_reducible refine (impl_FillLines.calls kj23 _ _ t416 _ _ t419 a2 a3 t422 _ ?side1 ?side2 ?side3 ?side4 A54.out).mono ?_); (case side1 => exact (zM HO418.out)); (case side2 => exact (Kd.R_reads' HO418.out).2.1); (case side3 => exact (zM HO421.out)); (case side4 => exact (Kd.R_reads' HO421.out).2.1); rintro e w72 ⟨v423, rfl, ho0, hb⟩; refine ⟨_, rfl, ?_⟩; have n0_ := az (Kd.R_elder' (zC HO_10.out) (Kd.R_base ho0) hb); have n1_ := az (Kd.R_elder' (zC HO_13.out) (Kd.R_base ho0) hb); have n2_ := az (Kd.R_elder' (zC HO418.out) (Kd.R_base ho0) hb); have n3_ := az (Kd.R_below (zC HO421.out) hb); have n4_ := az (Kd.R_lower (Kd.R_new' (Kd.R_new' (Kd.R_new' ho0 (Kd.R_lt (zC HO_10.out))) (Kd.R_lt (zC HO_13.out))) (Kd.R_lt (zC HO418.out))) (below_size (zA HB.out))); have n5_ := az (below_step (zA HB.out) hb); clear HO_10; clear HO_13; clear HO418; clear HO421; clear HB; have HO_10 := n0_; have HO_13 := n1_; have HO418 := n2_; have HO421 := n3_; have HO424 := n4_; have HB := n5_; clear n0_ n1_ n2_ n3_ n4_ n5_; (try clear hb); (try clear hb2); (try clear hk); (try clear hi); (try clear ho0); obtain ⟨Ao73, co73, eo73⟩ := Kd.R_slice HO424.out; subst eo73) | ((with_reducible refine gate_callee (f := 16) rfl ?_); refine goesL_ (some 90) rfl rfl Tryz.func16 (by kernel_rfl) rfl #[.slice Ao73 t422.length co73, .slice Ao36 t387.length co36] rfl zD ?_; (with_reducible refine (laws_eqIntS.calls kj23 _ _ t422 _ _ t387 true _ ?side1 ?side2 ?side3 ?side4 A55.out).mono ?_); (case side1 => exact (zM HO424.out)); (case side2 => exact (Kd.R_reads' HO424.out).2.1); (case side3 => exact (zM HO_10.out)); (case side4 => exact (Kd.R_reads' HO_10.out).2.1); rintro e w' ⟨rfl, ⟨nd, rfl⟩⟩; refine ⟨_, rfl, ?_⟩) | ((with_reducible refine gate_callee (f := 20) rfl ?_); refine goesL_ (some 94) rfl rfl Tryz.func20 (by kernel_rfl) rfl #[.slice Ao35 t414.length co35, .int .i64 1] rfl (by (try simp only [List.map_toArray, List.map_cons, List.map_nil]); first | done | (rw [show t414.length = t396.length from (Kd.R_reads' HO_13.out).1.symm] <;> rfl) | rfl | (simp only [List.length_drop, List.length_take]; rfl)) ?_; (with_reducible refine (laws_heldIntS.calls kj23 _ _ t414 1 t426 _ ?side1 ?side2 A57.out).mono ?_); (case side1 => exact (zM HO_13.out)); (case side2 => rw [show t414.length = t396.length from (Kd.R_reads' HO_13.out).1.symm]; exact (Kd.R_reads' HO_13.out).2.1); rintro e w' ⟨rfl, ⟨nd, rfl⟩⟩; refine ⟨_, rfl, ?_⟩))
              go_ret; exact ⟨zF, zA HB.out⟩
             ·
              rw [if_neg c66] at H; exact absurd H (by simp)
           ·
            replace c56 := Bool.eq_false_iff.mpr c56; subst c56; have H1 : (none) = some r := by rw [if_neg (show ¬ (false = true) by decide)] at H; exact H
            exact absurd H1 (by simp)
          ·
           rw [if_neg c51] at H; exact absurd H (by simp)
     ·
      replace c21 := Bool.eq_false_iff.mpr c21; subst c21; have H1 : (none) = some r := by rw [if_neg (show ¬ (false = true) by decide)] at H; exact H
      exact absurd H1 (by simp)
    ·
     replace c18 := Bool.eq_false_iff.mpr c18; subst c18; have H1 : (none) = some r := by rw [if_neg (show ¬ (false = true) by decide)] at H; exact H
     exact absurd H1 (by simp)
   ·
    replace c15 := Bool.eq_false_iff.mpr c15; subst c15; have H1 : (none) = some r := by rw [if_neg (show ¬ (false = true) by decide)] at H; exact H
    exact absurd H1 (by simp)
end Go.Proofs.YtmcdcogedcbndaaGreat.S
