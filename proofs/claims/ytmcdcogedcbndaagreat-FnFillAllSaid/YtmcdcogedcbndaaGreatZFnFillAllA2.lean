/- Of drawn letters, spans, width and way: the lines that the program tells are in order, the last one ends at the end, and what they cost can be told; they are the reference's. No condition beyond the statement's own. (text 3 of 7 of this claim: functions of the program and of the reference as plain Lean functions, what a call of each comes to, and what follows.) -/
import Derived.Test.YtmcdcogedcbndaaGreatZFnFillAllA0
import Derived.Test.YtmcdcogedcbndaaGreatZFnFillAllA1
set_option maxHeartbeats 16000000
set_option maxRecDepth 100000
set_option linter.unusedVariables false
set_option linter.unusedSimpArgs false
namespace Go.Proofs.YtmcdcogedcbndaaGreat.S
open Go.RowKit Go.Proofs.YtmcdcogedcbndaaGreatW.PrintWords Go.Proofs.YtmcdcogedcbndaaGreatW.PrintLast
set_option linter.unusedVariables false
set_option linter.unusedSimpArgs false
theorem C_keptM {W W' : World} {A : Option Addr} {n mb : Nat} {xs : List Int} (h : Kd.C (Kd.int .i64) W A n xs) (hm : ∃ es c, W.heap[mb]? = some (.map es c)) (hg : W.grownBy W' (some mb)) : Kd.C (Kd.int .i64) W' A n xs := by
 have h2 := Kd.reads_of_C (enc := Value.int .i64) (d := (0 : Int)) (h1 := fun _ => rfl) h
 refine Kd.C_of_reads (d := (0 : Int)) (h1 := fun _ => rfl) ⟨h2.1, h2.2.1, fun hp => ?_⟩
 obtain ⟨ad, e, hc⟩ := h2.2.2 hp
 obtain ⟨es, c, hm⟩ := hm
 exact ⟨ad, e, fun j hj => cell_kept (hc j hj) hg (fun r e => by cases e; exact ⟨_, hm, rfl⟩)⟩
theorem blk_keptM {W W' : World} {g t mb : Nat} {cells : Array Value} (h : W.heap[g]? = some (.cells cells t (0, 0))) (hm : ∃ es c, W.heap[mb]? = some (.map es c)) (hg : W.grownBy W' (some mb)) : W'.heap[g]? = some (.cells cells t (0, 0)) := by
 obtain ⟨es, c, hm⟩ := hm
 refine blk_grown h hg (fun e => ?_)
 obtain rfl := Option.some.inj e
 rw [h] at hm
 cases hm
theorem FlO.keptM {t gb : Nat} {A0 : Option Addr} {c0 : Nat} {rs : List Int} {A1 : Option Addr} {c1 : Nat} {ws : List Int} {A2 : Option Addr} {c2 : Nat} {bs : List Int} {wide : Int} {mb : Nat} {W W' : World} (h : FlO t gb A0 c0 rs A1 c1 ws A2 c2 bs wide W) (hm : ∃ es c, W.heap[mb]? = some (.map es c)) (hg : W.grownBy W' (some mb)) : FlO t gb A0 c0 rs A1 c1 ws A2 c2 bs wide W' :=
 ⟨blk_keptM h.1 hm hg, C_keptM h.2.1 hm hg, h.2.2.1, C_keptM h.2.2.2.1 hm hg, h.2.2.2.2.1, C_keptM h.2.2.2.2.2.1 hm hg, h.2.2.2.2.2.2⟩
theorem gr_below {w W W' : World} {row : Option Nat} (h : w.grownBy W row) (hb : Below w.heap.size W W') : w.grownBy W' row :=
 ⟨hb.os.trans h.os, hb.tape.trans h.tape, hb.output.trans h.output, Nat.le_trans h.size hb.size, fun k hk hne => (hb.block k hk).trans (h.block k hk hne)⟩
theorem wf_nat {k : Nat} (h : k ≤ 1000) : (Lit.int .i64 (k : Int)).wf = true := by
 have := wrap64_wf (k : Int)
 rwa [show wrap64 (k : Int) = (k : Int) by unfold wrap64; omega] at this
theorem MapP.same {W W' : World} {b n : Nat} {f : Int → Option (Int × Int)} (h : MapP W b n f) (he : W'.heap[b]? = W.heap[b]?) : MapP W' b n f := by
 obtain ⟨D, ⟨es, c, h1, r⟩, h2, h3⟩ := h
 exact ⟨D, ⟨es, c, he.trans h1, r⟩, h2, h3⟩
theorem add_fit (a b : Int) (h1 : 0 ≤ a) (h2 : a ≤ 1000000000000000) (h3 : 0 ≤ b) (h4 : b ≤ 1000000000000000000) : wrap64 (a + b) = a + b := by
 unfold wrap64
 omega
theorem cost_fit (bs : List Int) (W : Nat → Nat → Int) (wide : Int) (i j : Nat) (h : (wide - W i j).natAbs ≤ 1000000000) : 0 ≤ costV bs W wide i j ∧ costV bs W wide i j ≤ 1000000000000000000 := by
 unfold costV
 split
 · omega
 · exact sq_fit _ h
theorem at_int_some {W : World} {ad : Addr} {n : Nat} {xs : List Int} (h : Kd.C (Kd.int .i64) W (some ad) n xs) (i : Int) (h0 : 0 ≤ i) (h1 : i < n) : W.cell? (ad.add i.toNat) = some (.int .i64 (rd xs i)) := by
 obtain ⟨ad', e, h⟩ := Kd.at_int h i h0 h1
 obtain rfl := Option.some.inj e
 exact h
def PlO (B gb : Nat) (P : Nat → Int × Int) (n mb fr : Nat) (f f0 : Int → Option (Int × Int)) (w W : World) : Prop :=
 W.heap[B]? = some (.cells #[.pointer (some ⟨gb, 0, none⟩), .map (some mb)] 84 (0, 0)) ∧ W.heap[B + 1]? = some (.cells #[.int .i64 0, .int .i64 0] 143 (0, 0)) ∧ KnO P n mb f W ∧ (∀ a : Int, a ≤ fr → f a = f0 a) ∧ w.grownBy W (some mb)
theorem PlO.below {B gb : Nat} {P : Nat → Int × Int} {n mb fr : Nat} {f f0 : Int → Option (Int × Int)} {w W W' : World} (h : PlO B gb P n mb fr f f0 w W) (hb : Below W.heap.size W W') : PlO B gb P n mb fr f f0 w W' :=
 ⟨blk_below h.1 hb, blk_below h.2.1 hb, h.2.2.1.below hb, h.2.2.2.1, gr_below h.2.2.2.2 (hb.mono h.2.2.2.2.size)⟩
theorem PlO.rec {B gb : Nat} {P : Nat → Int × Int} {n mb fr e : Nat} {f f0 f1 : Int → Option (Int × Int)} {w W W' : World} (h : PlO B gb P n mb fr f f0 w W) (hk : KnO P n mb f1 W') (ha : ∀ a : Int, a < (e : Int) → f1 a = f a) (he : fr < e) (hg : W.grownBy W' (some mb)) : PlO B gb P n mb fr f1 f0 w W' :=
 ⟨blk_keptM h.1 h.2.2.1.1.obj hg, blk_keptM h.2.1 h.2.2.1.1.obj hg, hk, fun a hle => (ha a (by omega)).trans (h.2.2.2.1 a hle), h.2.2.2.2.trans hg⟩
theorem PlO.set {B gb : Nat} {P : Nat → Int × Int} {n mb fr : Nat} {f f0 : Int → Option (Int × Int)} {w W : World} (h : PlO B gb P n mb fr f f0 w W) (hm : mb < w.heap.size) (p : Addr) (v : Value) (h1 : B ≠ p.block) (h2 : B + 1 ≠ p.block) (h3 : w.heap.size ≤ p.block) : PlO B gb P n mb fr f f0 w (W.setCell p v) :=
 ⟨blk_far h.1 h1 v, blk_far h.2.1 h2 v, ⟨h.2.2.1.1.same (Below.heap_setCell W p v mb (by omega)), h.2.2.1.2⟩, h.2.2.2.1, gr_below h.2.2.2.2 ((Below.refl _ _).setCell (p := p) h3 v)⟩
abbrev PcI (B gb R : Nat) (p : Int) (wo W : World) : Prop := W.cell? ⟨B, 0, none⟩ = some (.pointer (some ⟨gb, 0, none⟩)) ∧ W.cell? ⟨R, 0, none⟩ = some (.int .i64 p) ∧ Aside0 (Below wo.heap.size wo W)
theorem PcI.via {B gb R : Nat} {p : Int} {wo W W' : World} (h : PcI B gb R p wo W) (hb : Below W.heap.size W W') : PcI B gb R p wo W' :=
 ⟨(hb.cell (World.block_lt_of_cell? _ _ h.1)).trans h.1, (hb.cell (World.block_lt_of_cell? _ _ h.2.1)).trans h.2.1, ⟨below_then h.2.2.out h.2.2.out.size hb⟩⟩
theorem PcI.drew {B gb R : Nat} {p : Int} {wo W : World} (h : PcI B gb R p wo W) : PcI B gb R p wo W.drew := h.via (below_drew (Below.refl _ _))
theorem planI_end (gb : Nat) (A0 : Option Addr) (c0 : Nat) (rs : List Int) (A1 : Option Addr) (c1 : Nat) (ws : List Int) (A2 : Option Addr) (c2 : Nat) (bs : List Int) (wide : Int) (mb : Nat) (w : World) (hf : FlO 69 gb A0 c0 rs A1 c1 ws A2 c2 bs wide w) :
  Calls Tryz.prog 168 #[.agg #[.pointer (some ⟨gb, 0, none⟩), .map (some mb)], .int .i64 rs.length] w fun e w' => e = .returned (.agg #[.int .i64 0, .int .i64 rs.length]) ∧ Below w.heap.size w w' := by
 have q0 := (blk_cell hf.1 0).trans (show _ = some (Value.slice A0 rs.length c0) from rfl)
 have hlt := World.block_lt_of_cell? w _ q0
 clear hf
 go_enter Tryz.func168, Tryz.ntmps168
 go_wp2
 refine bodyPost_ret (results_cell_row rfl _ _ (w.heap.size + 1) 143 #[.int .i64 0, .int .i64 rs.length] (0, 0) _ rfl ?_ Tryz.underlying143 rfl (by kernel_rfl)) rfl ⟨rfl, below_alloc (below_alloc (Below.refl _ _) _) _⟩
 have h := blk_new (w.alloc (.cells #[.pointer (some ⟨gb, 0, none⟩), .map (some mb)] 84)) (.cells #[.int .i64 0, .int .i64 rs.length] 143)
 rwa [show (w.alloc (.cells #[.pointer (some ⟨gb, 0, none⟩), .map (some mb)] 84)).heap.size = w.heap.size + 1 by simp] at h
theorem planI_known (gb : Nat) (A0 : Option Addr) (c0 : Nat) (rs : List Int) (A1 : Option Addr) (c1 : Nat) (ws : List Int) (A2 : Option Addr) (c2 : Nat) (bs : List Int) (wide : Int) (P : Nat → Int × Int) (mb fr : Nat) (v : Int × Int) (f : Int → Option (Int × Int)) (w : World) (hn : rs.length ≤ 1000) (hfr : fr < rs.length) (hf : FlO 69 gb A0 c0 rs A1 c1 ws A2 c2 bs wide w) (hk : KnO P rs.length mb f w) (hv : f (fr : Int) = some v) :
  Calls Tryz.prog 168 #[.agg #[.pointer (some ⟨gb, 0, none⟩), .map (some mb)], .int .i64 fr] w fun e w' => e = .returned (.agg #[.int .i64 v.1, .int .i64 v.2]) ∧ Below w.heap.size w w' := by
 have q0 := (blk_cell hf.1 0).trans (show _ = some (Value.slice A0 rs.length c0) from rfl)
 have hlt := World.block_lt_of_cell? w _ q0
 have hlook := MapP.look (w := (w.alloc (.cells #[.pointer (some ⟨gb, 0, none⟩), .map (some mb)] 84)).alloc (.cells #[.int .i64 0, .int .i64 0] 143)) (hk.1.below (below_alloc (below_alloc (Below.refl _ _) _) _)) (fr : Int) (wf_nat (by omega))
 simp only [hv, Option.getD_some, Option.isSome_some] at hlook
 have hne : ¬ (fr : Int) = (rs.length : Int) := by omega
 have hne2 : ((fr : Int) == (rs.length : Int)) = false := beq_eq_false_iff_ne.mpr hne
 clear hf hk hv hfr hn
 go_enter Tryz.func168, Tryz.ntmps168
 go_wp2
 refine bodyPost_ret (results_cell_row rfl _ _ (w.heap.size + 1) 143 #[.int .i64 v.1, .int .i64 v.2] (0, 0) _ rfl (blk_alloc ?_ _) Tryz.underlying143 rfl (by kernel_rfl)) rfl ⟨rfl, below_alloc (below_alloc (below_alloc (Below.refl _ _) _) _) _⟩
 have h := blk_new (w.alloc (.cells #[.pointer (some ⟨gb, 0, none⟩), .map (some mb)] 84)) (.cells #[.int .i64 v.1, .int .i64 v.2] 143)
 rwa [show (w.alloc (.cells #[.pointer (some ⟨gb, 0, none⟩), .map (some mb)] 84)).heap.size = w.heap.size + 1 by simp] at h
theorem planI_body (k : Nat) (gb : Nat) (A0 : Option Addr) (c0 : Nat) (rs : List Int) (A1 : Option Addr) (c1 : Nat) (ws : List Int) (A2 : Option Addr) (c2 : Nat) (bs : List Int) (wide : Int) (W : Nat → Nat → Int) (M : Nat → Nat) (P : Nat → Int × Int) (mb : Nat) (hn : rs.length ≤ 1000) (hbl : bs.length = rs.length) (hW : ∀ i j : Nat, i ≤ j → j ≤ rs.length → impl_lineWide.f k rs ws (i : Int) (j : Int) = some (W i j)) (hM : ∀ i : Nat, i < rs.length → ∃ x, slices_Index_int_int.f k (bs.drop i) 2 = some x ∧ (i : Int) + x + 1 = (M i : Int) ∧ i < M i ∧ M i ≤ rs.length) (hP : IsPlan bs (fitV W wide) (costV bs W wide) M rs.length P) (hWb : ∀ i j : Nat, i ≤ j → j ≤ rs.length → (wide - W i j).natAbs ≤ 1000000000) (hPb : ∀ j, j ≤ rs.length → 0 ≤ (P j).1 ∧ (P j).1 ≤ 1000000000000000)
  (fr : Nat) (hfr : fr < rs.length) (ih : ∀ (e : Nat) (f1 : Int → Option (Int × Int)) (w1 : World), fr < e → e ≤ rs.length → FlO 69 gb A0 c0 rs A1 c1 ws A2 c2 bs wide w1 → KnO P rs.length mb f1 w1 → Calls Tryz.prog 168 #[.agg #[.pointer (some ⟨gb, 0, none⟩), .map (some mb)], .int .i64 e] w1 fun x w' => x = .returned (.agg #[.int .i64 (P e).1, .int .i64 (P e).2]) ∧ ∃ f', KnO P rs.length mb f' w' ∧ (∀ a : Int, a < (e : Int) → f' a = f1 a) ∧ w1.grownBy w' (some mb))
  (f : Int → Option (Int × Int)) (w : World) (hf : FlO 69 gb A0 c0 rs A1 c1 ws A2 c2 bs wide w) (hk : KnO P rs.length mb f w) (hv : f (fr : Int) = none) :
  Calls Tryz.prog 168 #[.agg #[.pointer (some ⟨gb, 0, none⟩), .map (some mb)], .int .i64 fr] w fun x w' => x = .returned (.agg #[.int .i64 (P fr).1, .int .i64 (P fr).2]) ∧ ∃ f', KnO P rs.length mb f' w' ∧ (∀ a : Int, a < (fr : Int) → f' a = f a) ∧ w.grownBy w' (some mb) := by
 have q0 := (blk_cell hf.1 0).trans (show _ = some (Value.slice A0 rs.length c0) from rfl)
 have hlt := World.block_lt_of_cell? w _ q0
 have hlook := MapP.look (w := (w.alloc (.cells #[.pointer (some ⟨gb, 0, none⟩), .map (some mb)] 84)).alloc (.cells #[.int .i64 0, .int .i64 0] 143)) (hk.1.below (below_alloc (below_alloc (Below.refl _ _) _) _)) (fr : Int) (wf_nat (by omega))
 simp only [hv, Option.getD_none, Option.isSome_none] at hlook
 have hne : ¬ (fr : Int) = (rs.length : Int) := by omega
 have hne2 : ((fr : Int) == (rs.length : Int)) = false := beq_eq_false_iff_ne.mpr hne
 obtain ⟨y, hy1, hy2, hy3, hy4⟩ := hM fr hfr
 have hz1 : wrap64 ((fr : Int) + 1) = ((fr + 1 : Nat) : Int) := by unfold wrap64; omega
 have hz2 : IntKind.i64.wrap ((fr : Int) + 1) = ((fr + 1 : Nat) : Int) := by rw [i64_w]; exact hz1
 have HFL := az hf
 have HW := az hW
 have HBL := az hbl
 have HN := az hn
 have HP := az hP
 have HWB := az hWb
 have HPB := az hPb
 have HV := az hv
 have HK := az hk
 have HY := az (And.intro hy1 (And.intro hy2 (And.intro hy3 hy4)))
 have HFR := az hfr
 have HMB := az hk.1.lt
 have HMO := az hk.1.obj
 have IH := az ih
 have HL := az (show fr ≤ bs.length ∧ bs.length ≤ 1000 ∧ -1 ≤ y ∧ y ≤ 1000 by omega)
 clear hf hk hv hfr hn hW hbl hM hP hWb hPb ih hy1 hy2 hy3 hy4
 obtain ⟨W4, hW4⟩ : ∃ W4, (((w.alloc (.cells #[.pointer (some ⟨gb, 0, none⟩), .map (some mb)] 84)).alloc (.cells #[.int .i64 0, .int .i64 0] 143)).alloc (.cells #[.int .i64 0, .int .i64 0] 143)).alloc (.cells #[.int .i64 0, .int .i64 0] 143) = W4 := ⟨_, rfl⟩
 have hB4 : Below w.heap.size w W4 := by rw [← hW4]; exact below_alloc (below_alloc (below_alloc (below_alloc (Below.refl _ _) _) _) _) _
 have b2 := blk_new (w.alloc (.cells #[.pointer (some ⟨gb, 0, none⟩), .map (some mb)] 84)) (.cells #[.int .i64 0, .int .i64 0] 143)
 rw [show (w.alloc (.cells #[.pointer (some ⟨gb, 0, none⟩), .map (some mb)] 84)).heap.size = w.heap.size + 1 by simp] at b2
 have b4 := blk_new (((w.alloc (.cells #[.pointer (some ⟨gb, 0, none⟩), .map (some mb)] 84)).alloc (.cells #[.int .i64 0, .int .i64 0] 143)).alloc (.cells #[.int .i64 0, .int .i64 0] 143)) (.cells #[.int .i64 0, .int .i64 0] 143)
 rw [show (((w.alloc (.cells #[.pointer (some ⟨gb, 0, none⟩), .map (some mb)] 84)).alloc (.cells #[.int .i64 0, .int .i64 0] 143)).alloc (.cells #[.int .i64 0, .int .i64 0] 143)).heap.size = w.heap.size + 1 + 1 + 1 by simp, hW4] at b4
 have hPL : PlO w.heap.size gb P rs.length mb fr f f w W4 := ⟨by rw [← hW4]; exact blk_alloc (blk_alloc (blk_alloc (blk_new w _) _) _) _, by rw [← hW4]; exact blk_alloc (blk_alloc b2 _) _, HK.out.below hB4, fun _ _ => rfl, grown_of_below hB4 _⟩
 have H4 := az hPL
 have HO4 := az b4
 clear hB4 b2 b4 hPL
 go_enter Tryz.func168, Tryz.ntmps168
 obtain ⟨m, hm⟩ : ∃ m, M fr = m := ⟨_, rfl⟩
 rw [hm] at HY
 have HPF := az (HP.out.2 fr HFR.out)
 rw [hm] at HPF
 clear hm
 go_wp2
 clear hW4 hlook
 go_loopg [8] rs.length (fun gg s8 wr => ∃ (e g : Nat) (cur : Int × Int) (f1 : Int → Option (Int × Int)), s8 = .int .i64 (e : Int) ∧ g ≤ gg ∧ Aside0 (fr < e ∧ e + g = m + 1) ∧ Aside0 (rowP bs (fitV W wide) (costV bs W wide) P fr g e cur = P fr) ∧ Aside0 (PlO w.heap.size gb P rs.length mb fr f1 f w wr) ∧ Aside0 (wr.heap[w.heap.size + 1 + 1 + 1]? = some (.cells #[.int .i64 cur.1, .int .i64 cur.2] 143 (0, 0))))
 case atStart => exact ⟨fr + 1, m - fr, (0, 0), f, by simp, by have := HY.out.2.2.2; omega, ⟨by omega, by have := HY.out.2.2.1; omega⟩, ⟨HPF.out.symm⟩, H4, HO4⟩
 case round =>
  clear H4 HO4 HPF
  obtain ⟨e, g, cur, f1, rfl, hg, HE, HF, HQ, HOB⟩ := hrel
  have q1 := (blk_cell HQ.out.1 0).trans (show _ = some (Value.pointer (some ⟨gb, 0, none⟩)) from rfl)
  have HFQ := az (HFL.out.keptM HMO.out HQ.out.2.2.2.2)
  cases g with
  | zero =>
   have hcu : cur = P fr := HF.out
   subst hcu
   have hgt : ¬ (e : Int) ≤ (m : Int) := by have := HE.out.2; omega
   clear HF hg
   go_wp2_with (go_at_call 52; go_must (refine (mustI_calls k gb A0 c0 rs A1 c1 ws A2 c2 bs wide fr y _ HFQ.out HL.out.1 HL.out.2.1 HY.out.1 HL.out.2.2.1 HL.out.2.2.2).mono ?_); rw [HY.out.2.1]; rintro e1 w4 ⟨rfl, hd4⟩; have HQ4 := az (HQ.out.below hd4.below); have HOB4 := az (blk_below HOB.out hd4.below); have HFQ4 := az (HFL.out.keptM HMO.out HQ4.out.2.2.2.2); obtain ⟨w5, hrun5, hm5, hg5⟩ := MapP.put HQ4.out.2.2.1.1 (by have := cntF_le f1 rs.length; have := HN.out; omega) (fr : Int) (P fr) (wf_nat (zL HN.out HFR.out)); have HM5 := az hm5; have HG5 := az hg5; have q1 := (blk_cell HQ4.out.1 1).trans (show _ = some (Value.map (some mb)) from rfl); have o1 := (blk_cell HOB4.out 0).trans (show _ = some (Value.int .i64 (P fr).1) from rfl); have o2 := (blk_cell HOB4.out 1).trans (show _ = some (Value.int .i64 (P fr).2) from rfl); have HOB5 := az (blk_keptM HOB4.out HQ4.out.2.2.1.1.obj hg5); have HB15 := az (blk_keptM HQ4.out.2.1 HQ4.out.2.2.1.1.obj hg5); have o3 := (blk_cell HOB5.out 0).trans (show _ = some (Value.int .i64 (P fr).1) from rfl); have o4 := (blk_cell HOB5.out 1).trans (show _ = some (Value.int .i64 (P fr).2) from rfl); have r1 := (blk_cell HB15.out 0).trans (show _ = some (Value.int .i64 0) from rfl); have r2 := (blk_cell HB15.out 1).trans (show _ = some (Value.int .i64 0) from rfl); have r3 := blk_frozen HB15.out 0; have r4 := blk_frozen HB15.out 1; clear hm5 hg5; clear hd4)
   refine bodyPost_ret (results_cell_row rfl _ _ (w.heap.size + 1) 143 #[.int .i64 (P fr).1, .int .i64 (P fr).2] (0, 0) _ rfl (blk_put (blk_put HB15.out 0 (.int .i64 (P fr).1) rfl) 1 (.int .i64 (P fr).2) rfl) Tryz.underlying143 rfl (by kernel_rfl)) rfl ⟨rfl, (fun a => if a = (fr : Int) then some (P fr) else f1 a), ?_, ?_, ?_⟩
   ·
    have hne : mb ≠ w.heap.size + 1 := by have := HMB.out; omega
    have hfn : f1 (fr : Int) = none := (HQ4.out.2.2.2.1 (fr : Int) (Int.le_refl _)).trans HV.out
    refine ⟨?_, fun a v hav => ?_⟩
    ·
     rw [cntF_put f1 fr (P fr) hfn rs.length HFR.out]
     exact HM5.out.same ((Below.heap_setCell _ _ _ mb hne).trans (Below.heap_setCell _ _ _ mb hne))
    ·
     replace hav : (if a = (fr : Int) then some (P fr) else f1 a) = some v := hav
     by_cases ha : a = (fr : Int)
     ·
      rw [if_pos ha] at hav
      exact ⟨fr, ha, HFR.out, (Option.some.inj hav).symm⟩
     ·
      rw [if_neg ha] at hav
      exact HQ4.out.2.2.1.2 a v hav
   ·
    intro a ha
    show (if a = (fr : Int) then some (P fr) else f1 a) = f a
    rw [if_neg (show ¬ a = (fr : Int) by omega)]
    exact HQ4.out.2.2.2.1 a (by omega)
   · exact gr_below (HQ4.out.2.2.2.2.trans HG5.out) (((Below.refl w.heap.size w5).setCell (p := ⟨w.heap.size + 1, 0, none⟩) (Nat.le_succ _) _).setCell (p := ⟨w.heap.size + 1, 1, none⟩) (Nat.le_succ _) _)
  | succ g =>
   have hle : (e : Int) ≤ (m : Int) := by have := HE.out.2; omega
   have HEN : Aside0 (fr < e + 1 ∧ e + 1 + g = m + 1) := ⟨zE HE.out⟩
   have HER : Aside0 (e ≤ rs.length) := ⟨by have := HE.out.2; have := HY.out.2.2.2; omega⟩
   obtain ⟨n1, hn1⟩ : ∃ n1 : Nat, e = n1 + 1 := ⟨e - 1, by have := HE.out.1; omega⟩
   have h0 : (0 : Int) ≤ (n1 : Int) := by omega
   have h1 : (n1 : Int) < (bs.length : Int) := by have := HER.out; have := HBL.out; omega
   have hw1 : wrap64 ((e : Int) - 1) = (n1 : Int) := by unfold wrap64; have := HER.out; have := HN.out; omega
   have hw2 : IntKind.i64.wrap ((e : Int) - 1) = (n1 : Int) := by rw [i64_w]; exact hw1
   have hw3 : wrap64 ((e : Int) + 1) = ((e + 1 : Nat) : Int) := by unfold wrap64; have := HER.out; have := HN.out; omega
   have hw4 : IntKind.i64.wrap ((e : Int) + 1) = ((e + 1 : Nat) : Int) := by rw [i64_w]; exact hw3
   obtain ⟨ad5, hA5, _⟩ := Kd.at_int HFL.out.2.2.2.2.2.1 (n1 : Int) h0 h1
   subst hA5
   have HN1 := az hn1
   clear hn1
   obtain ⟨z, hz⟩ : ∃ z, bs.getD n1 0 = z := ⟨_, rfl⟩
   have HZ5 : Aside0 (rd bs (n1 : Int) = z) := ⟨by rw [← hz]; simp [rd]⟩
   have HZZ : Aside0 (bs.getD (e - 1) 0 = z) := ⟨by rw [← hz, HN1.out]; simp⟩
   obtain ⟨p1, hp1⟩ : ∃ p1, (P e).1 = p1 := ⟨_, rfl⟩
   obtain ⟨p2, hp2⟩ : ∃ p2, (P e).2 = p2 := ⟨_, rfl⟩
   have HP1 := az hp1
   have HP2 := az hp2
   have HGG := az hg
   clear hz hp1 hp2 hg
   by_cases hz0 : z = 0
   ·
    have b0 : (z == 0) = true := beq_iff_eq.mpr hz0
    have HST : Aside0 (stepP bs (fitV W wide) (costV bs W wide) P fr e cur = cur) := ⟨if_pos (.inl (HZZ.out.trans hz0))⟩
    clear hz0
    go_wp2_with (go_at_call 52; go_must (refine (mustI_calls k gb A0 c0 rs A1 c1 ws (some ad5) c2 bs wide fr y _ HFQ.out HL.out.1 HL.out.2.1 HY.out.1 HL.out.2.2.1 HL.out.2.2.2).mono ?_); rw [HY.out.2.1]; rintro e1 w4 ⟨rfl, hd4⟩; have HQ4 := az (HQ.out.below hd4.below); have HOB4 := az (blk_below HOB.out hd4.below); have HFQ4 := az (HFL.out.keptM HMO.out HQ4.out.2.2.2.2); have q1 := (blk_cell HQ4.out.1 0).trans (show _ = some (Value.pointer (some ⟨gb, 0, none⟩)) from rfl); have q1b := (blk_cell HQ4.out.1 1).trans (show _ = some (Value.map (some mb)) from rfl); have q5 := (blk_cell HFQ4.out.1 2).trans (show _ = some (Value.slice (some ad5) bs.length c2) from rfl); have hx5 := at_int_some HFQ4.out.2.2.2.2.2.1 (n1 : Int) h0 h1; rw [HZ5.out, Int.toNat_natCast] at hx5; clear hd4)
    go_roundg g
    case measure => have := HGG.out; omega
    case rel => exact ⟨e + 1, g, cur, f1, by simp, Nat.le_refl _, HEN, ⟨by have h := HF.out; rw [rowP, HST.out] at h; exact h⟩, HQ4, HOB4⟩
   ·
    have b0 : (z == 0) = false := beq_eq_false_iff_ne.mpr hz0
    have HZ0 := az hz0
    clear hz0
    cases hfi : fitV W wide fr e
    case false =>
     have HFI := az hfi
     have HST : Aside0 (stepP bs (fitV W wide) (costV bs W wide) P fr e cur = cur) := ⟨if_pos (.inr (.inl hfi))⟩
     clear hfi
     go_wp2_with (first | (go_at_call 52; go_must (refine (mustI_calls k gb A0 c0 rs A1 c1 ws (some ad5) c2 bs wide fr y _ HFQ.out HL.out.1 HL.out.2.1 HY.out.1 HL.out.2.2.1 HL.out.2.2.2).mono ?_); rw [HY.out.2.1]; rintro e1 w4 ⟨rfl, hd4⟩; have HQ4 := az (HQ.out.below hd4.below); have HOB4 := az (blk_below HOB.out hd4.below); have HFQ4 := az (HFL.out.keptM HMO.out HQ4.out.2.2.2.2); have q1 := (blk_cell HQ4.out.1 0).trans (show _ = some (Value.pointer (some ⟨gb, 0, none⟩)) from rfl); have q1b := (blk_cell HQ4.out.1 1).trans (show _ = some (Value.map (some mb)) from rfl); have q5 := (blk_cell HFQ4.out.1 2).trans (show _ = some (Value.slice (some ad5) bs.length c2) from rfl); have hx5 := at_int_some HFQ4.out.2.2.2.2.2.1 (n1 : Int) h0 h1; rw [HZ5.out, Int.toNat_natCast] at hx5; clear hd4) | (go_at_call 53; go_must (refine (fitsI_calls k gb A0 c0 rs A1 c1 ws (some ad5) c2 bs wide (fr : Int) (e : Int) (W fr e) _ HFQ4.out (HW.out fr e (Nat.le_of_lt HE.out.1) HER.out)).mono ?_); rw [show decide (W fr e ≤ wide) = false from HFI.out]; rintro e1 w5 ⟨rfl, hb5⟩; have HQ5 := az (HQ4.out.below hb5); have HOB5 := az (blk_below HOB4.out hb5); have HFQ5 := az (HFL.out.keptM HMO.out HQ5.out.2.2.2.2); clear hb5))
     go_roundg g
     case measure => have := HGG.out; omega
     case rel => exact ⟨e + 1, g, cur, f1, by simp, Nat.le_refl _, HEN, ⟨by have h := HF.out; rw [rowP, HST.out] at h; exact h⟩, HQ5, HOB5⟩
    case true =>
     have HFI := az hfi
     clear hfi
     by_cases hp20 : p2 = 0
     ·
      have b2 : (p2 == 0) = true := beq_iff_eq.mpr hp20
      have HST : Aside0 (stepP bs (fitV W wide) (costV bs W wide) P fr e cur = cur) := ⟨if_pos (.inr (.inr (HP2.out.trans hp20)))⟩
      clear hp20
      go_wp2_with (first | (go_at_call 52; go_must (refine (mustI_calls k gb A0 c0 rs A1 c1 ws (some ad5) c2 bs wide fr y _ HFQ.out HL.out.1 HL.out.2.1 HY.out.1 HL.out.2.2.1 HL.out.2.2.2).mono ?_); rw [HY.out.2.1]; rintro e1 w4 ⟨rfl, hd4⟩; have HQ4 := az (HQ.out.below hd4.below); have HOB4 := az (blk_below HOB.out hd4.below); have HFQ4 := az (HFL.out.keptM HMO.out HQ4.out.2.2.2.2); have q1 := (blk_cell HQ4.out.1 0).trans (show _ = some (Value.pointer (some ⟨gb, 0, none⟩)) from rfl); have q1b := (blk_cell HQ4.out.1 1).trans (show _ = some (Value.map (some mb)) from rfl); have q5 := (blk_cell HFQ4.out.1 2).trans (show _ = some (Value.slice (some ad5) bs.length c2) from rfl); have hx5 := at_int_some HFQ4.out.2.2.2.2.2.1 (n1 : Int) h0 h1; rw [HZ5.out, Int.toNat_natCast] at hx5; clear hd4) | (go_at_call 53; go_must (refine (fitsI_calls k gb A0 c0 rs A1 c1 ws (some ad5) c2 bs wide (fr : Int) (e : Int) (W fr e) _ HFQ4.out (HW.out fr e (Nat.le_of_lt HE.out.1) HER.out)).mono ?_); rw [show decide (W fr e ≤ wide) = true from HFI.out]; rintro e1 w5 ⟨rfl, hb5⟩; have HQ5 := az (HQ4.out.below hb5); have HOB5 := az (blk_below HOB4.out hb5); have HFQ5 := az (HFL.out.keptM HMO.out HQ5.out.2.2.2.2); have q1 := (blk_cell HQ5.out.1 0).trans (show _ = some (Value.pointer (some ⟨gb, 0, none⟩)) from rfl); have q1b := (blk_cell HQ5.out.1 1).trans (show _ = some (Value.map (some mb)) from rfl); clear hb5) | (go_at_call 168; go_must (refine (IH.out e f1 _ HE.out.1 HER.out HFQ5.out HQ5.out.2.2.1).mono ?_); rw [HP1.out, HP2.out]; rintro e1 w6 ⟨rfl, f2, hk6, ha6, hg6⟩; have HQ6 := az (HQ5.out.rec hk6 ha6 HE.out.1 hg6); have HOB6 := az (blk_keptM HOB5.out HQ5.out.2.2.1.1.obj hg6); clear hk6 ha6 hg6))
      have HQ7 := az (HQ6.out.below (below_alloc (Below.refl w6.heap.size w6) (.cells #[.int .i64 p1, .int .i64 p2] 143)))
      have HOB7 := az (blk_alloc HOB6.out (.cells #[.int .i64 p1, .int .i64 p2] 143))
      go_roundg g
      case measure => have := HGG.out; omega
      case rel => exact ⟨e + 1, g, cur, f2, by simp, Nat.le_refl _, HEN, ⟨by have h := HF.out; rw [rowP, HST.out] at h; exact h⟩, HQ7, HOB7⟩
     ·
      have b2 : (p2 == 0) = false := beq_eq_false_iff_ne.mpr hp20
      have HP20 := az hp20
      clear hp20
      go_upto_region 13 with (first | (go_at_call 52; go_must (refine (mustI_calls k gb A0 c0 rs A1 c1 ws (some ad5) c2 bs wide fr y _ HFQ.out HL.out.1 HL.out.2.1 HY.out.1 HL.out.2.2.1 HL.out.2.2.2).mono ?_); rw [HY.out.2.1]; rintro e1 w4 ⟨rfl, hd4⟩; have HQ4 := az (HQ.out.below hd4.below); have HOB4 := az (blk_below HOB.out hd4.below); have HFQ4 := az (HFL.out.keptM HMO.out HQ4.out.2.2.2.2); have q1 := (blk_cell HQ4.out.1 0).trans (show _ = some (Value.pointer (some ⟨gb, 0, none⟩)) from rfl); have q1b := (blk_cell HQ4.out.1 1).trans (show _ = some (Value.map (some mb)) from rfl); have q5 := (blk_cell HFQ4.out.1 2).trans (show _ = some (Value.slice (some ad5) bs.length c2) from rfl); have hx5 := at_int_some HFQ4.out.2.2.2.2.2.1 (n1 : Int) h0 h1; rw [HZ5.out, Int.toNat_natCast] at hx5; clear hd4) | (go_at_call 53; go_must (refine (fitsI_calls k gb A0 c0 rs A1 c1 ws (some ad5) c2 bs wide (fr : Int) (e : Int) (W fr e) _ HFQ4.out (HW.out fr e (Nat.le_of_lt HE.out.1) HER.out)).mono ?_); rw [show decide (W fr e ≤ wide) = true from HFI.out]; rintro e1 w5 ⟨rfl, hb5⟩; have HQ5 := az (HQ4.out.below hb5); have HOB5 := az (blk_below HOB4.out hb5); have HFQ5 := az (HFL.out.keptM HMO.out HQ5.out.2.2.2.2); have q1 := (blk_cell HQ5.out.1 0).trans (show _ = some (Value.pointer (some ⟨gb, 0, none⟩)) from rfl); have q1b := (blk_cell HQ5.out.1 1).trans (show _ = some (Value.map (some mb)) from rfl); clear hb5) | (go_at_call 168; go_must (refine (IH.out e f1 _ HE.out.1 HER.out HFQ5.out HQ5.out.2.2.1).mono ?_); rw [HP1.out, HP2.out]; rintro e1 w6 ⟨rfl, f2, hk6, ha6, hg6⟩; have HQ6 := az (HQ5.out.rec hk6 ha6 HE.out.1 hg6); have HOB6 := az (blk_keptM HOB5.out HQ5.out.2.2.1.1.obj hg6); clear hk6 ha6 hg6))
      obtain ⟨R, hR⟩ : ∃ R, w6.heap.size = R := ⟨_, rfl⟩
      obtain ⟨wo, hwo⟩ : ∃ wo, w6.alloc (.cells #[.int .i64 p1, .int .i64 p2] 143) = wo := ⟨_, rfl⟩
      have hb6 : Below w6.heap.size w6 wo := by rw [← hwo]; exact below_alloc (Below.refl _ _) _
      have HQo := az (HQ6.out.below hb6)
      have HOBo := az (blk_below HOB6.out hb6)
      have HRo : Aside0 (wo.heap[R]? = some (.cells #[.int .i64 p1, .int .i64 p2] 143 (0, 0))) := ⟨by rw [← hwo, ← hR]; exact blk_new w6 _⟩
      have HFQo := az (HFL.out.keptM HMO.out HQo.out.2.2.2.2)
      rw [hwo, hR]
      clear hwo hR hb6 HQ6 HOB6 q1 q1b q5 hx5
      obtain ⟨cc, hcc⟩ : ∃ cc, costV bs W wide fr e = cc := ⟨_, rfl⟩
      have hw5 : wrap64 (p1 + cc) = p1 + cc := add_fit p1 cc (by rw [← HP1.out]; exact (HPB.out e HER.out).1) (by rw [← HP1.out]; exact (HPB.out e HER.out).2) (by rw [← hcc]; exact (cost_fit bs W wide fr e (HWB.out fr e (Nat.le_of_lt HE.out.1) HER.out)).1) (by rw [← hcc]; exact (cost_fit bs W wide fr e (HWB.out fr e (Nat.le_of_lt HE.out.1) HER.out)).2)
      have hw6 : IntKind.i64.wrap (p1 + cc) = p1 + cc := by rw [i64_w]; exact hw5
      have HCC : Aside0 ((if bs.getD n1 0 = 2 then 0 else (wide - W fr e) * (wide - W fr e)) = cc) := ⟨by rw [← hcc, costV, show e - 1 = n1 from by rw [HN1.out]; rfl]⟩
      have HCV := az hcc
      clear hcc
      go_cut [10] (fun v10 wc => v10 = .int .i64 (p1 + cc) ∧ Aside0 (Below wo.heap.size wo wc))
      case first =>
       have hS : PcI w.heap.size gb R p1 wo wo := ⟨(blk_cell HQo.out.1 0).trans rfl, (blk_cell HRo.out 0).trans rfl, ⟨Below.refl _ _⟩⟩
       unfold PcI at hS
       have HM1 := az (show (e : Int) - 1 = (n1 : Int) by rw [HN1.out]; omega)
       have HM2 := az (show n1 < bs.length by omega)
       go_region_held3 (fun V => V.cell? ⟨w.heap.size, 0, none⟩ = some (.pointer (some ⟨gb, 0, none⟩)) ∧ V.cell? ⟨R, 0, none⟩ = some (.int .i64 p1) ∧ Aside0 (Below wo.heap.size wo V)) (first | (with_reducible assumption) | (with_reducible exact PcI.via zH zH) | (with_reducible exact PcI.drew zH)) (first
        | (go_at_call 51; refine (costI_calls k gb A0 c0 rs A1 c1 ws (some ad5) c2 bs wide (fr : Int) (e : Int) (W fr e) n1 _ ?s1 HM1.out HM2.out (HW.out fr e (Nat.le_of_lt HE.out.1) HER.out) (HWB.out fr e (Nat.le_of_lt HE.out.1) HER.out)).mono ?_; (case s1 => exact HFQo.out.below (show PcI w.heap.size gb R p1 wo _ from zH).2.2.out); rw [HCC.out]; rintro e1 w7 ⟨rfl, p⟩))
       all_goals
        go_wp2
        go_meet
        exact ⟨rfl, (show PcI w.heap.size gb R p1 wo _ from zH).2.2⟩
      case rest =>
       obtain ⟨rfl, HBC⟩ := hcut
       have HQc := az (HQo.out.below HBC.out)
       have HOBc := az (blk_below HOBo.out HBC.out)
       obtain ⟨cu1, cu2⟩ := cur
       have o1 := (blk_cell HOBc.out 0).trans (show _ = some (Value.int .i64 cu1) from rfl)
       have o2 := (blk_cell HOBc.out 1).trans (show _ = some (Value.int .i64 cu2) from rfl)
       have o3 := blk_frozen HOBc.out 0
       have o4 := blk_frozen HOBc.out 1
       have HNE : Aside0 (¬ (bs.getD (e - 1) 0 = 0 ∨ fitV W wide fr e = false ∨ (P e).2 = 0)) := ⟨by
        rintro (h | h | h)
        · exact HZ0.out (HZZ.out.symm.trans h)
        · rw [HFI.out] at h; cases h
        · exact HP20.out (HP2.out.symm.trans h)⟩
       by_cases hc2 : cu2 = 0 ∨ p1 + cc < cu1
       ·
        have HST : Aside0 (stepP bs (fitV W wide) (costV bs W wide) P fr e (cu1, cu2) = (p1 + cc, (e : Int))) := ⟨by rw [stepP, if_neg HNE.out, HP1.out, HCV.out, if_pos hc2]⟩
        have HSQ := az ((HQc.out.set HMB.out ⟨w.heap.size + 1 + 1 + 1, 0, none⟩ (.int .i64 (p1 + cc)) (by simp; omega) (by simp) (by simp; omega)).set HMB.out ⟨w.heap.size + 1 + 1 + 1, 1, none⟩ (.int .i64 (e : Int)) (by simp; omega) (by simp) (by simp; omega))
        have HSO := az (blk_put (blk_put HOBc.out 0 (.int .i64 (p1 + cc)) rfl) 1 (.int .i64 (e : Int)) rfl)
        by_cases hc3 : cu2 = 0
        ·
         have b3 : (cu2 == 0) = true := beq_iff_eq.mpr hc3
         clear hc2 hc3
         go_wp2
         go_roundg g
         case measure => have := HGG.out; omega
         case rel => exact ⟨e + 1, g, (p1 + cc, (e : Int)), f2, by simp, Nat.le_refl _, HEN, ⟨by have h := HF.out; rw [rowP, HST.out] at h; exact h⟩, HSQ, HSO⟩
        ·
         have b3 : (cu2 == 0) = false := beq_eq_false_iff_ne.mpr hc3
         have hlt3 : p1 + cc < cu1 := hc2.resolve_left hc3
         clear hc2 hc3
         go_wp2
         go_roundg g
         case measure => have := HGG.out; omega
         case rel => exact ⟨e + 1, g, (p1 + cc, (e : Int)), f2, by simp, Nat.le_refl _, HEN, ⟨by have h := HF.out; rw [rowP, HST.out] at h; exact h⟩, HSQ, HSO⟩
       ·
        have HST : Aside0 (stepP bs (fitV W wide) (costV bs W wide) P fr e (cu1, cu2) = (cu1, cu2)) := ⟨by rw [stepP, if_neg HNE.out, HP1.out, HCV.out, if_neg hc2]⟩
        have b3 : (cu2 == 0) = false := beq_eq_false_iff_ne.mpr (fun h => hc2 (.inl h))
        have hlt3 : ¬ p1 + cc < cu1 := fun h => hc2 (.inr h)
        clear hc2
        go_wp2
        go_roundg g
        case measure => have := HGG.out; omega
        case rel => exact ⟨e + 1, g, (cu1, cu2), f2, by simp, Nat.le_refl _, HEN, ⟨by have h := HF.out; rw [rowP, HST.out] at h; exact h⟩, HQc, HOBc⟩
theorem planI_calls (k : Nat) (gb : Nat) (A0 : Option Addr) (c0 : Nat) (rs : List Int) (A1 : Option Addr) (c1 : Nat) (ws : List Int) (A2 : Option Addr) (c2 : Nat) (bs : List Int) (wide : Int) (W : Nat → Nat → Int) (M : Nat → Nat) (P : Nat → Int × Int) (mb : Nat) (hn : rs.length ≤ 1000) (hbl : bs.length = rs.length) (hW : ∀ i j : Nat, i ≤ j → j ≤ rs.length → impl_lineWide.f k rs ws (i : Int) (j : Int) = some (W i j)) (hM : ∀ i : Nat, i < rs.length → ∃ x, slices_Index_int_int.f k (bs.drop i) 2 = some x ∧ (i : Int) + x + 1 = (M i : Int) ∧ i < M i ∧ M i ≤ rs.length) (hP : IsPlan bs (fitV W wide) (costV bs W wide) M rs.length P) (hWb : ∀ i j : Nat, i ≤ j → j ≤ rs.length → (wide - W i j).natAbs ≤ 1000000000) (hPb : ∀ j, j ≤ rs.length → 0 ≤ (P j).1 ∧ (P j).1 ≤ 1000000000000000) : ∀ (d fr : Nat) (f : Int → Option (Int × Int)) (w : World), rs.length - fr ≤ d → fr ≤ rs.length → FlO 69 gb A0 c0 rs A1 c1 ws A2 c2 bs wide w → KnO P rs.length mb f w →
  Calls Tryz.prog 168 #[.agg #[.pointer (some ⟨gb, 0, none⟩), .map (some mb)], .int .i64 fr] w fun x w' => x = .returned (.agg #[.int .i64 (P fr).1, .int .i64 (P fr).2]) ∧ ∃ f', KnO P rs.length mb f' w' ∧ (∀ a : Int, a < (fr : Int) → f' a = f a) ∧ w.grownBy w' (some mb) := by
 have hend : ∀ (f : Int → Option (Int × Int)) (w : World), FlO 69 gb A0 c0 rs A1 c1 ws A2 c2 bs wide w → KnO P rs.length mb f w → Calls Tryz.prog 168 #[.agg #[.pointer (some ⟨gb, 0, none⟩), .map (some mb)], .int .i64 rs.length] w fun x w' => x = .returned (.agg #[.int .i64 (P rs.length).1, .int .i64 (P rs.length).2]) ∧ ∃ f', KnO P rs.length mb f' w' ∧ (∀ a : Int, a < (rs.length : Int) → f' a = f a) ∧ w.grownBy w' (some mb) := fun f w hf hk => by
  refine (planI_end gb A0 c0 rs A1 c1 ws A2 c2 bs wide mb w hf).mono ?_
  rintro e w' ⟨rfl, hb⟩
  rw [hP.1]
  exact ⟨rfl, f, hk.below hb, fun _ _ => rfl, grown_of_below hb _⟩
 intro d
 induction d with
 | zero =>
  intro fr f w hd hfr hf hk
  obtain rfl : fr = rs.length := by omega
  exact hend f w hf hk
 | succ d ih =>
  intro fr f w hd hfr hf hk
  by_cases he : fr = rs.length
  ·
   subst he
   exact hend f w hf hk
  ·
   have hlt : fr < rs.length := by omega
   cases hv : f (fr : Int) with
   | none => exact planI_body k gb A0 c0 rs A1 c1 ws A2 c2 bs wide W M P mb hn hbl hW hM hP hWb hPb fr hlt (fun e f1 w1 h1 h2 h3 h4 => ih e f1 w1 (by omega) h2 h3 h4) f w hf hk hv
   | some v =>
    obtain ⟨j, hj, _, hj2⟩ := hk.2 _ _ hv
    obtain rfl : fr = j := by omega
    subst hj2
    refine (planI_known gb A0 c0 rs A1 c1 ws A2 c2 bs wide P mb fr (P fr) f w hn hlt hf hk hv).mono ?_
    rintro e w' ⟨rfl, hb⟩
    exact ⟨rfl, f, hk.below hb, fun _ _ => rfl, grown_of_below hb _⟩
theorem R_keptM {W W' : World} {base mb : Nat} {ok : Nat → Prop} {v : Value} {xs : List Int} (h : Kd.R (Kd.int .i64) 3 W base ok v xs) (hm : ∃ es c, W.heap[mb]? = some (.map es c)) (hg : W.grownBy W' (some mb)) : Kd.R (Kd.int .i64) 3 W' base (fun _ => True) v xs := by
 obtain ⟨es, c, hm⟩ := hm
 refine Kd.R_mono (Kd.R_move (Kd.R_bound h) (fun k hk => hg.block k hk.2.2.1 (fun e => ?_))) (fun _ _ => trivial)
 obtain ⟨_, _, _, q, _, cells, hc⟩ := hk
 obtain rfl := Option.some.inj e
 rw [hm] at hc
 cases hc
def outP (P : Nat → Int × Int) (n : Nat) : Nat → Nat → Option (Option (List Int))
 | 0, at_ => if at_ < n then none else some (some [])
 | g + 1, at_ => if at_ < n then (if (P at_).2 = 0 then some none else if 0 ≤ (P at_).2 ∧ (P at_).2 ≤ (n : Int) then (outP P n g (P at_).2.toNat).bind fun l => some (l.map fun l => (P at_).2 :: l) else none) else some (some [])
theorem fldPlan (a b : Int) (w : World) : (Instr.field 143 (.agg #[.int .i64 a, .int .i64 b]) 1).run Tryz.prog w = .ok (.int .i64 b) w := by kernel_rfl
theorem endsB_calls (k : Nat) (gb : Nat) (A0 : Option Addr) (c0 : Nat) (rs : List Int) (A1 : Option Addr) (c1 : Nat) (ws : List Int) (A2 : Option Addr) (c2 : Nat) (bs : List Int) (wide : Int) (W : Nat → Nat → Int) (M : Nat → Nat) (N : Nat → Int) (P : Nat → Int × Int) (mb : Nat) (ss r : List Int) (w : World) (hf : FlO 69 gb A0 c0 rs A1 c1 ws A2 c2 bs wide w) (hk : KnO P rs.length mb (fun _ => none) w) (hn : rs.length ≤ 1000) (hbl : bs.length = rs.length) (hW : ∀ i j : Nat, i ≤ j → j ≤ rs.length → impl_lineWide.f k rs ws (i : Int) (j : Int) = some (W i j)) (hM : ∀ i : Nat, i < rs.length → ∃ x, slices_Index_int_int.f k (bs.drop i) 2 = some x ∧ (i : Int) + x + 1 = (M i : Int) ∧ i < M i ∧ M i ≤ rs.length) (hP : IsPlan bs (fitV W wide) (costV bs W wide) M rs.length P) (hWb : ∀ i j : Nat, i ≤ j → j ≤ rs.length → (wide - W i j).natAbs ≤ 1000000000) (hPb : ∀ j, j ≤ rs.length → 0 ≤ (P j).1 ∧ (P j).1 ≤ 1000000000000000) (hs : impl_starts.f k rs = some ss) (hsl : ss.length ≤ 999) (hss : ∀ t, t ∈ ss → 0 ≤ t ∧ t ≤ (rs.length : Int)) (hN : ∀ i : Nat, i < rs.length → nextI bs (fitV W wide) (ss ++ [(rs.length : Int)]) i (M i) = some (N i)) (hr : ((outP P rs.length rs.length 0).bind fun o => match o with | some l => some l | none => greedyN N rs.length rs.length 0) = some r) :
  Calls Tryz.prog 167 #[.agg #[.pointer (some ⟨gb, 0, none⟩), .map (some mb)]] w fun e w' => ∃ v0_ : Value, e = .returned v0_ ∧ Kd.R (Kd.int .i64) 3 w' w.heap.size (fun _ => True) v0_ r ∧ w.grownBy w' (some mb) := by
 obtain ⟨W3, hW3⟩ : ∃ W3, w.alloc (.cells #[.pointer (some ⟨gb, 0, none⟩), .map (some mb)] 84) = W3 := ⟨_, rfl⟩
 have hB3 : Below w.heap.size w W3 := by rw [← hW3]; exact below_alloc (Below.refl _ _) _
 have HX3 : Aside0 (W3.heap[w.heap.size]? = some (.cells #[.pointer (some ⟨gb, 0, none⟩), .map (some mb)] 84 (0, 0))) := ⟨by rw [← hW3]; exact blk_new w _⟩
 have HK3 := az (hk.below hB3)
 have HG3 := az (grown_of_below hB3 (some mb))
 replace hr := Option.bind_eq_some_iff.mp hr
 obtain ⟨o, ho, hr⟩ := hr
 have HOO := az ho
 have HRR := az hr
 have HFL := az hf
 have HMB := az hk.1.lt
 have HMO := az hk.1.obj
 have HW := az hW
 have HM := az hM
 have HBL := az hbl
 have HN := az hn
 have HNX := az hN
 have HP := az hP
 have HWB := az hWb
 have HPB := az hPb
 have HST := az hs
 have HSL := az hsl
 have HSS := az hss
 clear hf hk hW hM hbl hN hs hsl hss hr ho hP hWb hPb hB3
 have hfld := fldPlan
 go_enter Tryz.func167, Tryz.ntmps167
 go_upto_region 1 with fail
 clear hW3
 go_wp2
 go_loopg [3, 4] rs.length (fun gg s3 s4 wr => ∃ (i g : Nat) (out : List Int) (f1 : Int → Option (Int × Int)), s4 = .int .i64 i ∧ i ≤ rs.length ∧ g ≤ gg ∧ Aside0 (∃ ro, outP P rs.length g i = some ro ∧ o = ro.map (fun l => out ++ l)) ∧ Aside0 (out.length + g ≤ rs.length) ∧ Aside0 (Kd.R (Kd.int .i64) 3 wr w.heap.size (fun _ => True) s3 out) ∧ Aside0 (KnO P rs.length mb f1 wr) ∧ Aside0 (w.grownBy wr (some mb)) ∧ Aside0 (wr.heap[w.heap.size]? = some (.cells #[.pointer (some ⟨gb, 0, none⟩), .map (some mb)] 84 (0, 0))))
 case atStart => exact ⟨0, rs.length, [], fun _ => none, rfl, Nat.zero_le _, Nat.le_refl _, ⟨o, HOO.out, by cases o <;> rfl⟩, ⟨by simp⟩, ⟨Kd.R_nil _ _ _ _ _⟩, HK3, HG3, HX3⟩
 case round =>
  clear HOO HK3 HG3 HX3
  obtain ⟨i, g, out, f1, rfl, hi, hg, HF, HLO, HO, HK, HG, HBX⟩ := hrel
  obtain ⟨ro, hq, hro⟩ := HF.out
  have HQ := az (HFL.out.keptM HMO.out HG.out)
  have q0 := (blk_cell HQ.out.1 0).trans (show _ = some (Value.slice A0 rs.length c0) from rfl)
  have qb := (blk_cell HBX.out 0).trans (show _ = some (Value.pointer (some ⟨gb, 0, none⟩)) from rfl)
  have qb1 := (blk_cell HBX.out 1).trans (show _ = some (Value.map (some mb)) from rfl)
  have HLB := az (blk_lt HBX.out)
  by_cases hlt : i < rs.length
  ·
   have hltz : (i : Int) < (rs.length : Int) := by omega
   cases g with
   | zero => rw [outP, if_pos hlt] at hq; cases hq
   | succ g =>
   rw [outP, if_pos hlt] at hq
   have HIL := az hi
   have HGG := az hg
   clear hi hg HF
   by_cases hb : (P i).2 = 0
   ·
    rw [if_pos hb] at hq
    obtain rfl := Option.some.inj hq
    have HPI := az hb
    have hro2 : o = none := hro
    subst hro2
    clear hb hq hro hlt
    go_wp2_with (first
     | (go_at_call 168; go_must (refine (planI_calls k gb A0 c0 rs A1 c1 ws A2 c2 bs wide W M P mb HN.out HBL.out HW.out HM.out HP.out HWB.out HPB.out rs.length i f1 _ (Nat.sub_le _ _) HIL.out HQ.out HK.out).mono ?_); rw [HPI.out]; rintro e w2 ⟨rfl, f2, hk2, _, hg2⟩; have HG2 := az (HG.out.trans hg2); have HFQ2 := az (HFL.out.keptM HMO.out HG2.out); have HBX2 := az (blk_keptM HBX.out HK.out.1.obj hg2); have qc := (blk_cell HBX2.out 0).trans (show _ = some (Value.pointer (some ⟨gb, 0, none⟩)) from rfl); clear hk2 hg2)
     | (go_at_call 162; go_must (refine (endsG_calls k gb A0 c0 rs A1 c1 ws A2 c2 bs wide W M N ss r _ HFQ2.out HN.out HBL.out HW.out HM.out HST.out HSL.out HSS.out HNX.out HRR.out).mono ?_); rintro e w3 ⟨v3, rfl, ho3, hb3⟩; have HO3 := az ho3; have HB3 := az hb3; clear ho3 hb3))
    go_ret
    exact ⟨_, rfl, Kd.R_lower HO3.out HG2.out.size, gr_below HG2.out (HB3.out.mono HG2.out.size)⟩
   ·
    rw [if_neg hb] at hq
    by_cases hb2 : 0 ≤ (P i).2 ∧ (P i).2 ≤ (rs.length : Int)
    case neg => rw [if_neg hb2] at hq; cases hq
    case pos =>
    rw [if_pos hb2] at hq
    replace hq := Option.bind_eq_some_iff.mp hq
    obtain ⟨l, hl, hq⟩ := hq
    obtain rfl := Option.some.inj hq
    obtain ⟨x, hx⟩ : ∃ x : Nat, (P i).2 = x := ⟨(P i).2.toNat, by omega⟩
    rw [hx, Int.toNat_natCast] at hl
    rw [hx] at hb hb2 hro
    have hx0 : ((x : Int) == 0) = false := beq_eq_false_iff_ne.mpr hb
    have hx1 : ¬ x = 0 := by omega
    have HXV := az hx
    have HXB := az hb2.2
    have HLL := az hl
    have HRO := az hro
    clear hx hb2 hl hro hlt hb
    go_wp2_with (first
     | (go_at_call 168; go_must (refine (planI_calls k gb A0 c0 rs A1 c1 ws A2 c2 bs wide W M P mb HN.out HBL.out HW.out HM.out HP.out HWB.out HPB.out rs.length i f1 _ (Nat.sub_le _ _) HIL.out HQ.out HK.out).mono ?_); rw [HXV.out]; rintro e w2 ⟨rfl, f2, hk2, _, hg2⟩; have HG2 := az (HG.out.trans hg2); have HK2 := az hk2; have HBX2 := az (blk_keptM HBX.out HK.out.1.obj hg2); have HO2 := az (R_keptM HO.out HK.out.1.obj hg2); clear hk2 hg2)
     | ((with_reducible refine gate_builtin (b := .append) (xs := #[.tmp 23, .tmp 25]) rfl ?_); at_builtin; go_must (refine appI (w0 := w2) (base := w.heap.size) Tryz.underlying22 info3 rfl (.tmp 23) (.tmp 25) rfl _ out (x : Int) rfl rfl HO2.out (Below.refl _ _) HG2.out.size ?aL ?_); (case aL => have := HLO.out; have := HN.out; omega); intro v9 w9 ho9 hb9 hg9 hat9; have HO9 := az ho9; have HB9 := az hb9; have HBX9 := az (blk_grown HBX2.out hg9 (Kd.R_ne HO2.out HBX2.out (by decide))); clear ho9 hb9 hg9 hat9))
    go_roundg g
    case measure => have := HGG.out; omega
    case rel => exact ⟨x, g, _, f2, rfl, zE HXB.out, Nat.le_refl _, ⟨l, HLL.out, by rw [HRO.out]; cases l <;> simp⟩, ⟨by have := HLO.out; rw [List.length_append]; simp; omega⟩, HO9, ⟨HK2.out.1.same (HB9.out.block mb HMB.out), HK2.out.2⟩, ⟨gr_below HG2.out HB9.out⟩, HBX9⟩
  ·
   have hltz : ¬ (i : Int) < (rs.length : Int) := by omega
   have HRE : Aside0 (out = r) := by
    have h : ro = some [] := by
     cases g with
     | zero => rw [outP, if_neg hlt] at hq; exact (Option.some.inj hq).symm
     | succ g => rw [outP, if_neg hlt] at hq; exact (Option.some.inj hq).symm
    subst h
    subst hro
    have h2 := Option.some.inj HRR.out
    exact ⟨(List.append_nil out).symm.trans h2⟩
   clear hq hro HF
   go_wp2
   go_ret
   exact ⟨_, rfl, by rw [← HRE.out]; exact HO.out, HG.out⟩
def tabP (bs : List Int) (F : Nat → Nat → Bool) (C : Nat → Nat → Int) (M : Nat → Nat) (n : Nat) : Nat → Nat → Int × Int
 | 0 => fun _ => (0, (n : Int))
 | d + 1 => updV (tabP bs F C M n d) (n - 1 - d) (rowP bs F C (tabP bs F C M n d) (n - 1 - d) (M (n - 1 - d) - (n - 1 - d)) (n - 1 - d + 1) (0, 0))
theorem rowP_congr (bs : List Int) (F : Nat → Nat → Bool) (C : Nat → Nat → Int) {P Q : Nat → Int × Int} (a : Nat) : ∀ (g e : Nat) (cur : Int × Int), (∀ j, e ≤ j → j < e + g → P j = Q j) → rowP bs F C P a g e cur = rowP bs F C Q a g e cur
 | 0, _, _, _ => rfl
 | g + 1, e, cur, h => by
  rw [rowP, rowP, show stepP bs F C P a e cur = stepP bs F C Q a e cur by unfold stepP; rw [h e (Nat.le_refl _) (by omega)]]
  exact rowP_congr bs F C a g (e + 1) _ (fun j h1 h2 => h j (by omega) (by omega))
theorem tabP_keep (bs : List Int) (F : Nat → Nat → Bool) (C : Nat → Nat → Int) (M : Nat → Nat) (n d : Nat) (j : Nat) (hj : n - d ≤ j) : ∀ d', d + d' ≤ n → tabP bs F C M n (d + d') j = tabP bs F C M n d j
 | 0, _ => rfl
 | d' + 1, h => by
  rw [show d + (d' + 1) = d + d' + 1 from rfl, tabP, updV_ne _ _ (by omega)]
  exact tabP_keep bs F C M n d j hj d' (by omega)
theorem tabP_isPlan (bs : List Int) (F : Nat → Nat → Bool) (C : Nat → Nat → Int) (M : Nat → Nat) (n : Nat) (hM : ∀ i, i < n → M i ≤ n) : IsPlan bs F C M n (tabP bs F C M n n) := by
 refine ⟨?_, fun i hi => ?_⟩
 ·
  have h := tabP_keep bs F C M n 0 n (by omega) n (by omega)
  rw [Nat.zero_add] at h
  exact h
 ·
  have h1 := tabP_keep bs F C M n (n - 1 - i + 1) i (by omega) i (by omega)
  rw [show n - 1 - i + 1 + i = n by omega] at h1
  rw [h1, tabP, show n - 1 - (n - 1 - i) = i by omega, updV_at]
  refine rowP_congr bs F C i _ _ _ (fun j h2 h3 => ?_)
  have h4 := hM i hi
  have h5 := tabP_keep bs F C M n (n - 1 - i) j (by omega) (i + 1) (by omega)
  rw [show n - 1 - i + (i + 1) = n by omega] at h5
  exact h5.symm
def tabWI (k : Nat) (rs ws : List Int) : Nat → Nat → Int := fun i j => if i ≤ j ∧ j ≤ rs.length then (impl_lineWide.f k rs ws (i : Int) (j : Int)).getD 0 else 0
def okWI (k : Nat) (rs ws : List Int) : Prop := ∀ j, j ≤ rs.length → ∀ i, i ≤ j → (impl_lineWide.f k rs ws (i : Int) (j : Int)).isSome = true
instance (k : Nat) (rs ws : List Int) : Decidable (okWI k rs ws) := by unfold okWI; infer_instance
def tabMI (k : Nat) (bs : List Int) : Nat → Nat := fun i => if i < bs.length then ((i : Int) + (slices_Index_int_int.f k (bs.drop i) 2).getD 0 + 1).toNat else 0
def okMI (k : Nat) (bs : List Int) : Prop := ∀ i, i < bs.length → (slices_Index_int_int.f k (bs.drop i) 2).isSome = true ∧ 0 ≤ (slices_Index_int_int.f k (bs.drop i) 2).getD 0 ∧ tabMI k bs i ≤ bs.length
instance (k : Nat) (bs : List Int) : Decidable (okMI k bs) := by unfold okMI; infer_instance
def okI (bs : List Int) (W : Nat → Nat → Int) (M : Nat → Nat) (ss : List Int) (wide : Int) (n : Nat) : Prop :=
 n ≤ 1000 ∧ bs.length = n ∧ ss.length ≤ 999 ∧ (∀ t, t ∈ ss → 0 ≤ t ∧ t ≤ (n : Int)) ∧ (∀ j, j ≤ n → ∀ i, i ≤ j → (wide - W i j).natAbs ≤ 1000000000) ∧ (∀ j, j ≤ n → 0 ≤ (tabP bs (fitV W wide) (costV bs W wide) M n n j).1 ∧ (tabP bs (fitV W wide) (costV bs W wide) M n n j).1 ≤ 1000000000000000) ∧ ∀ i, i < n → (nextI bs (fitV W wide) (ss ++ [(n : Int)]) i (M i)).isSome = true
instance (bs : List Int) (W : Nat → Nat → Int) (M : Nat → Nat) (ss : List Int) (wide : Int) (n : Nat) : Decidable (okI bs W M ss wide n) := by unfold okI; infer_instance
def linesI (bs : List Int) (W : Nat → Nat → Int) (M : Nat → Nat) (ss : List Int) (wide : Int) (n : Nat) (mode : Int) : Option (List Int) :=
 if okI bs W M ss wide n then
  (if mode = 0 then greedyN (fun i => (nextI bs (fitV W wide) (ss ++ [(n : Int)]) i (M i)).getD 0) n n 0
  else if mode = 1 then (outP (tabP bs (fitV W wide) (costV bs W wide) M n n) n n 0).bind fun o => match o with | some l => some l | none => greedyN (fun i => (nextI bs (fitV W wide) (ss ++ [(n : Int)]) i (M i)).getD 0) n n 0
  else some [])
 else none
def impl_FillLines.f (k : Nat) (l0 : List Int) (l1 : List S50) (a2 a3 : Int) : Option (List Int) :=
 (impl_fillable.f k l0 l1 a2).bind fun a => if a = true then (impl_widesOf.f k l0 l1).bind fun ws => (impl_breaks.f k l0).bind fun bs => (impl_starts.f k l0).bind fun ss => if okWI k l0 ws then (if okMI k bs then linesI bs (tabWI k l0 ws) (tabMI k bs) ss a2 l0.length a3 else none) else none else some []
theorem tabWI_up {k : Nat} {rs ws : List Int} (h : okWI k rs ws) : okWI (k + 1) rs ws ∧ tabWI (k + 1) rs ws = tabWI k rs ws := by
 have e : ∀ j, j ≤ rs.length → ∀ i, i ≤ j → impl_lineWide.f (k + 1) rs ws (i : Int) (j : Int) = impl_lineWide.f k rs ws (i : Int) (j : Int) := fun j hj i hi => by
  obtain ⟨x, hx⟩ := Option.isSome_iff_exists.mp (h j hj i hi)
  rw [hx]
  exact impl_lineWide.mono _ _ _ _ _ _ hx
 refine ⟨fun j hj i hi => by rw [e j hj i hi]; exact h j hj i hi, ?_⟩
 funext i j
 unfold tabWI
 split
 ·
  rename_i hh
  rw [e j hh.2 i hh.1]
 · rfl
theorem tabMI_up {k : Nat} {bs : List Int} (h : okMI k bs) : okMI (k + 1) bs ∧ tabMI (k + 1) bs = tabMI k bs := by
 have e : ∀ i, i < bs.length → slices_Index_int_int.f (k + 1) (bs.drop i) 2 = slices_Index_int_int.f k (bs.drop i) 2 := fun i hi => by
  obtain ⟨x, hx⟩ := Option.isSome_iff_exists.mp (h i hi).1
  rw [hx]
  exact slices_Index_int_int.mono _ _ _ _ hx
 have e2 : tabMI (k + 1) bs = tabMI k bs := by
  funext i
  unfold tabMI
  split
  ·
   rename_i hh
   rw [e i hh]
  · rfl
 exact ⟨fun i hi => by rw [e i hi, e2]; exact h i hi, e2⟩
theorem impl_FillLines.mono : ∀ a0 a1 a2 a3 k, LeO (impl_FillLines.f k a0 a1 a2 a3) (impl_FillLines.f (k + 1) a0 a1 a2 a3) := by
 intro a0 a1 a2 a3 k
 unfold impl_FillLines.f
 refine LeO.bind (impl_fillable.mono _ _ _ _) (fun a => LeO.ite (LeO.bind (impl_widesOf.mono _ _ _) (fun ws => LeO.bind (impl_breaks.mono _ _) (fun bs => LeO.bind (impl_starts.mono _ _) (fun ss => ?_)))) (LeO.refl _))
 intro r hr
 by_cases h1 : okWI k a0 ws
 ·
  rw [if_pos h1] at hr
  by_cases h2 : okMI k bs
  ·
   rw [if_pos h2] at hr
   rw [if_pos (tabWI_up h1).1, if_pos (tabMI_up h2).1, (tabWI_up h1).2, (tabMI_up h2).2]
   exact hr
  · rw [if_neg h2] at hr; cases hr
 · rw [if_neg h1] at hr; cases hr
theorem methG (n : Nat) (v : Value) (w : World) : (method (n + 1) 81 v "loop.example/colophon/impl.ends").run Tryz.prog w = .ok (162, v) w := by kernel_rfl
theorem methB (n : Nat) (v : Value) (w : World) : (method (n + 1) 84 v "loop.example/colophon/impl.ends").run Tryz.prog w = .ok (167, v) w := by kernel_rfl
theorem cntF_none : ∀ m, cntF (fun _ => none) m = 0
 | 0 => rfl
 | m + 1 => by rw [cntF, cntF_none m]; rfl
theorem fillingG_calls (gb : Nat) (w : World) : Calls Tryz.prog 41 #[.pointer (some ⟨gb, 0, none⟩), .int .i64 0] w fun e w' => e = .returned (.iface 81 (.agg #[.pointer (some ⟨gb, 0, none⟩)])) ∧ w' = w := by
 go_enter Tryz.func41, Tryz.ntmps41
 go_wp2
 go_ret
 exact ⟨rfl, rfl⟩
theorem fillingB_calls (gb : Nat) (w : World) : Calls Tryz.prog 41 #[.pointer (some ⟨gb, 0, none⟩), .int .i64 1] w fun e w' => e = .returned (.iface 84 (.agg #[.pointer (some ⟨gb, 0, none⟩), .map (some w.heap.size)])) ∧ w' = w.alloc (.map #[] 0) := by
 have hmm := @run_makeMap Tryz.prog
 go_enter Tryz.func41, Tryz.ntmps41
 go_wp2
 go_ret
 exact ⟨rfl, rfl⟩
theorem fillingN_calls (gb : Nat) (m : Int) (w : World) (h0 : m ≠ 0) (h1 : m ≠ 1) : Calls Tryz.prog 41 #[.pointer (some ⟨gb, 0, none⟩), .int .i64 m] w fun e w' => e = .returned .nilIface ∧ w' = w := by
 have b0 : (m == 0) = false := beq_eq_false_iff_ne.mpr h0
 have b1 : (m == 1) = false := beq_eq_false_iff_ne.mpr h1
 clear h0 h1
 go_enter Tryz.func41, Tryz.ntmps41
 go_wp2
 go_ret
 exact ⟨rfl, rfl⟩
theorem impl_FillLines.calls (k : Nat) (A0 : Option Addr) (c0 : Nat) (l0 : List Int) (A1 : Option Addr) (c1 : Nat) (l1 : List S50) (a2 : Int) (a3 : Int) (r : List Int) (w : World) (hr0 : Kd.C (Kd.int .i64) w A0 l0.length l0) (hc0 : l0.length ≤ c0) (hr1 : Kd.C k50 w A1 l1.length l1) (hc1 : l1.length ≤ c1) (h : impl_FillLines.f k l0 l1 a2 a3 = some r) :
  Calls Tryz.prog 15 #[.slice A0 l0.length c0, .slice A1 l1.length c1, .int .i64 a2, .int .i64 a3] w fun e w' => ∃ v0_ : Value, e = .returned (v0_) ∧ Kd.R (Kd.int .i64) 3 w' w.heap.size (fun _ => True) v0_ r ∧ Below w.heap.size w w' := by
 have HR := az hr0
 have HC := az hc0
 have HR1 := az hr1
 have HC1 := az hc1
 clear hr0 hc0 hr1 hc1
 unfold impl_FillLines.f at h
 replace h := Option.bind_eq_some_iff.mp h
 obtain ⟨a, ha, h⟩ := h
 have HA := az ha
 clear ha
 cases a
 ·
  rw [if_neg (by decide)] at h
  obtain rfl := Option.some.inj h
  clear h
  go_enter Tryz.func15, Tryz.ntmps15
  go_wp2_with (go_at_call 39; go_must (refine (impl_fillable.calls k A0 c0 l0 A1 c1 l1 a2 false _ HR.out HC.out HR1.out HC1.out HA.out).mono ?_); rintro e w1 ⟨rfl, hb1⟩; have HB1 := az hb1; clear hb1)
  go_ret
  exact ⟨_, rfl, Kd.R_nil _ _ _ _ _, HB1.out⟩
 rw [if_pos rfl] at h
 replace h := Option.bind_eq_some_iff.mp h
 obtain ⟨ws, hws, h⟩ := h
 replace h := Option.bind_eq_some_iff.mp h
 obtain ⟨bs, hbs, h⟩ := h
 replace h := Option.bind_eq_some_iff.mp h
 obtain ⟨ss, hss, h⟩ := h
 by_cases h1 : okWI k l0 ws
 case neg => rw [if_neg h1] at h; cases h
 case pos =>
 rw [if_pos h1] at h
 by_cases h2 : okMI k bs
 case neg => rw [if_neg h2] at h; cases h
 case pos =>
 rw [if_pos h2] at h
 unfold linesI at h
 by_cases h3 : okI bs (tabWI k l0 ws) (tabMI k bs) ss a2 l0.length
 case neg => rw [if_neg h3] at h; cases h
 case pos =>
 rw [if_pos h3] at h
 have HW : Aside0 (∀ i j : Nat, i ≤ j → j ≤ l0.length → impl_lineWide.f k l0 ws (i : Int) (j : Int) = some (tabWI k l0 ws i j)) := ⟨fun i j hi hj => by
  obtain ⟨x, hx⟩ := Option.isSome_iff_exists.mp (h1 j hj i hi)
  unfold tabWI
  rw [if_pos ⟨hi, hj⟩, hx]
  rfl⟩
 have HM : Aside0 (∀ i : Nat, i < l0.length → ∃ x, slices_Index_int_int.f k (bs.drop i) 2 = some x ∧ (i : Int) + x + 1 = (tabMI k bs i : Int) ∧ i < tabMI k bs i ∧ tabMI k bs i ≤ l0.length) := ⟨fun i hi => by
  have hib : i < bs.length := by rw [h3.2.1]; exact hi
  obtain ⟨h4, h5, h6⟩ := h2 i hib
  obtain ⟨x, hx⟩ := Option.isSome_iff_exists.mp h4
  rw [h3.2.1] at h6
  rw [hx] at h5
  have e : tabMI k bs i = ((i : Int) + x + 1).toNat := by
   unfold tabMI
   rw [if_pos hib, hx]
   rfl
  rw [e] at h6 ⊢
  simp only [Option.getD_some] at h5
  exact ⟨x, hx, by omega, by omega, h6⟩⟩
 have HNX : Aside0 (∀ i : Nat, i < l0.length → nextI bs (fitV (tabWI k l0 ws) a2) (ss ++ [(l0.length : Int)]) i (tabMI k bs i) = some ((nextI bs (fitV (tabWI k l0 ws) a2) (ss ++ [(l0.length : Int)]) i (tabMI k bs i)).getD 0)) := ⟨fun i hi => by
  obtain ⟨x, hx⟩ := Option.isSome_iff_exists.mp (h3.2.2.2.2.2.2 i hi)
  rw [hx]
  rfl⟩
 have HP : Aside0 (IsPlan bs (fitV (tabWI k l0 ws) a2) (costV bs (tabWI k l0 ws) a2) (tabMI k bs) l0.length (tabP bs (fitV (tabWI k l0 ws) a2) (costV bs (tabWI k l0 ws) a2) (tabMI k bs) l0.length l0.length)) := ⟨tabP_isPlan _ _ _ _ _ (fun i hi => by obtain ⟨_, _, _, _, h4⟩ := HM.out i hi; exact h4)⟩
 have HOK := az h3
 have HH := az h
 have HWS := az hws
 have HBS := az hbs
 have HSS := az hss
 clear h h1 h2 h3 hws hbs hss
 by_cases hm0 : a3 = 0
 ·
  subst hm0
  have HG := az ((if_pos rfl).symm.trans HH.out)
  have hmg := methG
  go_enter Tryz.func15, Tryz.ntmps15
  go_wp2_with (first
   | (go_at_call 39; go_must (refine (impl_fillable.calls k A0 c0 l0 A1 c1 l1 a2 true _ HR.out HC.out HR1.out HC1.out HA.out).mono ?_); rintro e w1 ⟨rfl, hb1⟩; have HB1 := az hb1; clear hb1)
   | (go_at_call 40; go_must (refine (newFiller_calls k A0 c0 l0 A1 c1 l1 a2 ws bs _ (Kd.C_below HR.out HB1.out) HC.out (Kd.C_below HR1.out HB1.out) HC1.out HWS.out HBS.out).mono ?_); rintro e w2 ⟨gb, A4, c4, A5, c5, rfl, hfl, hb2⟩; have HFL := az hfl; have HB2 := az (below_then HB1.out HB1.out.size hb2); clear hfl hb2)
   | (go_at_call 41; go_must (refine (fillingG_calls _ _).mono ?_); rintro e w3 ⟨rfl, rfl⟩)
   | (go_at_call 162; go_must (refine (endsG_calls k gb A0 c0 l0 A4 c4 ws A5 c5 bs a2 (tabWI k l0 ws) (tabMI k bs) _ ss r _ HFL.out HOK.out.1 HOK.out.2.1 HW.out HM.out HSS.out HOK.out.2.2.1 HOK.out.2.2.2.1 HNX.out HG.out).mono ?_); rintro e w4 ⟨v4, rfl, ho4, hb4⟩; have HO4 := az ho4; have HB4 := az hb4; clear ho4 hb4))
  go_ret
  exact ⟨_, rfl, Kd.R_lower HO4.out HB2.out.size, below_then HB2.out HB2.out.size HB4.out⟩
 ·
  by_cases hm1 : a3 = 1
  ·
   subst hm1
   have HG := az ((if_neg hm0).symm.trans HH.out)
   have HG1 := az ((if_pos rfl).symm.trans HG.out)
   clear hm0
   have hmb := methB
   go_enter Tryz.func15, Tryz.ntmps15
   go_wp2_with (first
    | (go_at_call 39; go_must (refine (impl_fillable.calls k A0 c0 l0 A1 c1 l1 a2 true _ HR.out HC.out HR1.out HC1.out HA.out).mono ?_); rintro e w1 ⟨rfl, hb1⟩; have HB1 := az hb1; clear hb1)
    | (go_at_call 40; go_must (refine (newFiller_calls k A0 c0 l0 A1 c1 l1 a2 ws bs _ (Kd.C_below HR.out HB1.out) HC.out (Kd.C_below HR1.out HB1.out) HC1.out HWS.out HBS.out).mono ?_); rintro e w2 ⟨gb, A4, c4, A5, c5, rfl, hfl, hb2⟩; have HFL := az hfl; have HB2 := az (below_then HB1.out HB1.out.size hb2); clear hfl hb2)
    | (go_at_call 41; go_must (refine (fillingB_calls _ _).mono ?_); rintro e w3 ⟨rfl, hw3⟩; have HMP : Aside0 (MapP w3 w2.heap.size 0 (fun _ => none)) := ⟨by rw [hw3]; exact MapP.made w2⟩; have HB23 : Aside0 (Below w2.heap.size w2 w3) := ⟨by rw [hw3]; exact below_alloc (Below.refl _ _) _⟩; clear hw3)
    | (go_at_call 167; go_must (refine (endsB_calls k gb A0 c0 l0 A4 c4 ws A5 c5 bs a2 (tabWI k l0 ws) (tabMI k bs) _ _ w2.heap.size ss r _ (HFL.out.below HB23.out) ⟨by rw [cntF_none]; exact HMP.out, fun a v h => by cases h⟩ HOK.out.1 HOK.out.2.1 HW.out HM.out HP.out (fun i j hi hj => HOK.out.2.2.2.2.1 j hj i hi) HOK.out.2.2.2.2.2.1 HSS.out HOK.out.2.2.1 HOK.out.2.2.2.1 HNX.out HG1.out).mono ?_); rintro e w4 ⟨v4, rfl, ho4, hg4⟩; have HO4 := az ho4; have HG4 := az hg4; clear ho4 hg4))
   go_ret
   have HB3 := below_then HB2.out HB2.out.size HB23.out
   exact ⟨_, rfl, Kd.R_lower HO4.out HB3.size, HB3.grown HG4.out HB3.size (fun k e => by cases e; exact HB2.out.size)⟩
  ·
   have HG := az ((if_neg hm0).symm.trans HH.out)
   have HG1 := az ((if_neg hm1).symm.trans HG.out)
   have HE : Aside0 ([] = r) := ⟨Option.some.inj HG1.out⟩
   have HM0 := az (And.intro hm0 hm1)
   clear hm0 hm1
   go_enter Tryz.func15, Tryz.ntmps15
   go_wp2_with (first
    | (go_at_call 39; go_must (refine (impl_fillable.calls k A0 c0 l0 A1 c1 l1 a2 true _ HR.out HC.out HR1.out HC1.out HA.out).mono ?_); rintro e w1 ⟨rfl, hb1⟩; have HB1 := az hb1; clear hb1)
    | (go_at_call 40; go_must (refine (newFiller_calls k A0 c0 l0 A1 c1 l1 a2 ws bs _ (Kd.C_below HR.out HB1.out) HC.out (Kd.C_below HR1.out HB1.out) HC1.out HWS.out HBS.out).mono ?_); rintro e w2 ⟨gb, A4, c4, A5, c5, rfl, hfl, hb2⟩; have HFL := az hfl; have HB2 := az (below_then HB1.out HB1.out.size hb2); clear hfl hb2)
    | (go_at_call 41; go_must (refine (fillingN_calls _ _ _ HM0.out.1 HM0.out.2).mono ?_); rintro e w3 ⟨rfl, rfl⟩))
   go_ret
   exact ⟨_, rfl, by rw [← HE.out]; exact Kd.R_nil _ _ _ _ _, HB2.out⟩
end Go.Proofs.YtmcdcogedcbndaaGreat.S
/- The next end by both texts: the last place that fits, else the last end of a cluster that fits, else the first end of a cluster. No condition beyond those stated. -/
namespace Go.Proofs.YtmcdcogedcbndaaGreat.Pure
open Go.RowKit Go.Proofs.YtmcdcogedcbndaaGreat.S Go.Proofs.YtmcdcogedcbndaaGreatW.PrintWords Go.Proofs.YtmcdcogedcbndaaGreatW.PrintLast
theorem find_up (r : Nat → Bool) (N t : Nat) (ht : t < N) (hr : r t = true) (hl : ∀ j, j < t → r j = false) : (List.range N).find? r = some t := by
 induction N with
 | zero => omega
 | succ N ih =>
  rw [List.range_succ, List.find?_append]
  by_cases h : t < N
  ·
   rw [ih h]
   rfl
  ·
   obtain rfl : t = N := by omega
   have : (List.range t).find? r = none := by
    rw [List.find?_eq_none]
    intro x hx
    rw [hl x (List.mem_range.mp hx)]
    decide
   rw [this]
   simp [hr]
theorem find_down (r : Nat → Bool) (N t : Nat) (ht : t < N) (hr : r t = true) (hl : ∀ j, t < j → j < N → r j = false) : (List.range N).reverse.find? r = some t := by
 induction N with
 | zero => omega
 | succ N ih =>
  rw [List.range_succ, List.reverse_append, List.reverse_singleton, List.singleton_append, List.find?_cons]
  by_cases h : t < N
  ·
   rw [hl N h (by omega)]
   exact ih h (fun j h1 h2 => hl j h1 (by omega))
  ·
   obtain rfl : t = N := by omega
   rw [hr]
def endsL (E : Nat → Bool) (n : Nat) : List Int := ((List.range (n + 1)).filter E).map Int.ofNat
theorem endsL_up (E : Nat → Bool) (n : Nat) (q : Int → Bool) (t : Nat) (ht : t ≤ n) (hE : E t = true) (hq : q (t : Int) = true) (hl : ∀ j, j < t → E j = true → q (j : Int) = false) : (endsL E n).find? q = some (t : Int) := by
 unfold endsL
 rw [List.find?_map, List.find?_filter, find_up _ (n + 1) t (by omega) (by simp only [Function.comp]; rw [hE]; simpa using hq) (fun j hj => ?_)]
 · rfl
 ·
  by_cases h : E j = true
  ·
   refine decide_eq_false (fun hc => ?_)
   have h2 := hc.2
   rw [show (q ∘ Int.ofNat) j = false from hl j hj h] at h2
   cases h2
  ·
   simp only [Bool.not_eq_true] at h
   simp [h]
theorem endsL_down (E : Nat → Bool) (n : Nat) (q : Int → Bool) (t : Nat) (ht : t ≤ n) (hE : E t = true) (hq : q (t : Int) = true) (hl : ∀ j, t < j → j ≤ n → E j = true → q (j : Int) = false) : (endsL E n).reverse.find? q = some (t : Int) := by
 unfold endsL
 rw [← List.map_reverse, ← List.filter_reverse, List.find?_map, List.find?_filter, find_down _ (n + 1) t (by omega) (by simp only [Function.comp]; rw [hE]; simpa using hq) (fun j hj hj2 => ?_)]
 · rfl
 ·
  by_cases h : E j = true
  ·
   refine decide_eq_false (fun hc => ?_)
   have h2 := hc.2
   rw [show (q ∘ Int.ofNat) j = false from hl j hj (by omega) h] at h2
   cases h2
  ·
   simp only [Bool.not_eq_true] at h
   simp [h]
theorem endsL_none (E : Nat → Bool) (n : Nat) (q : Int → Bool) (hl : ∀ j, j ≤ n → E j = true → q (j : Int) = false) : (endsL E n).reverse.find? q = none := by
 rw [List.find?_eq_none]
 intro x hx
 unfold endsL at hx
 rw [List.mem_reverse, List.mem_map] at hx
 obtain ⟨j, hj, rfl⟩ := hx
 obtain ⟨h1, h2⟩ := List.mem_filter.mp hj
 rw [show q (Int.ofNat j) = false from hl j (by have := List.mem_range.mp h1; omega) h2]
 decide
theorem nextN_snoc (bs : List Int) (F : Nat → Nat → Bool) (fr : Nat) : ∀ (g i : Nat) (b : Int), nextN bs F fr (g + 1) i b = if ¬ bs.getD (i + g - 1) 0 = 0 ∧ F fr (i + g) = true then ((i + g : Nat) : Int) else nextN bs F fr g i b
 | 0, i, b => rfl
 | g + 1, i, b => by
  rw [nextN, nextN_snoc bs F fr g (i + 1), show i + 1 + g = i + (g + 1) by omega]
  rfl
theorem next_down (bs : List Int) (F : Nat → Nat → Bool) (fr : Nat) (b : Int) : ∀ g, nextN bs F fr g (fr + 1) b = (match downN bs F fr g with | some t => (t : Int) | none => b)
 | 0 => rfl
 | g + 1 => by
  rw [nextN_snoc, downN, show fr + 1 + g - 1 = fr + g by omega, show fr + 1 + g = fr + g + 1 by omega]
  split
  · rfl
  · exact next_down bs F fr b g
theorem down_pos (bs : List Int) (F : Nat → Nat → Bool) (fr : Nat) : ∀ (g t : Nat), downN bs F fr g = some t → fr < t ∧ t ≤ fr + g
 | 0, t, h => by cases h
 | g + 1, t, h => by
  rw [downN] at h
  split at h
  ·
   obtain rfl := Option.some.inj h
   omega
  ·
   have := down_pos bs F fr g t h
   omega
theorem down_none (bs : List Int) (F : Nat → Nat → Bool) (fr : Nat) : ∀ g, downN bs F fr g = none → ∀ j, j < g → ¬ bs.getD (fr + j) 0 = 0 → F fr (fr + j + 1) = false
 | 0, _, j, hj, _ => absurd hj (Nat.not_lt_zero _)
 | g + 1, h, j, hj, hb => by
  rw [downN] at h
  split at h
  · cases h
  ·
   rename_i hn
   by_cases e : j = g
   ·
    subst e
    cases hF : F fr (fr + j + 1)
    · rfl
    · exact absurd ⟨hb, hF⟩ hn
   · exact down_none bs F fr g h j (by omega) hb
theorem forced_is (F : Nat → Nat → Bool) (J E : Nat → Bool) (n fr : Nat) (hfr : fr < n) (hE : ∀ i, fr < i → i ≤ n → (E i = true ↔ ¬ (i < n ∧ J i = true))) (hF : ∀ i j, fr < i → i ≤ j → j ≤ n → F fr j = true → F fr i = true) :
  ∀ (g i tq : Nat), i + g = n + 1 → fr < i → ((tq = fr ∧ ∀ e, fr < e → e < i → E e = false) ∨ (fr < tq ∧ tq < i ∧ E tq = true ∧ (∀ e, tq < e → e < i → E e = false) ∧ (F fr tq = true ∨ ∀ e, fr < e → e < tq → E e = false))) →
   ∃ t, forcedN F J n fr g i tq = t ∧ fr < t ∧ t ≤ n ∧ E t = true ∧ (F fr t = true ∨ ∀ e, fr < e → e < t → E e = false) ∧ ∀ e, t < e → e ≤ n → E e = true → F fr e = false
 | 0, i, tq, hi, hfi, h => by
  have hEn : E n = true := (hE n hfr (Nat.le_refl _)).mpr (fun h => by omega)
  rcases h with ⟨_, h⟩ | ⟨h1, h2, h3, h4, h5⟩
  ·
   have := h n hfr (by omega)
   rw [hEn] at this
   cases this
  ·
   refine ⟨tq, rfl, h1, by omega, h3, h5, fun e he hen hEe => ?_⟩
   have := h4 e he (by omega)
   rw [hEe] at this
   cases this
 | g + 1, i, tq, hi, hfi, h => by
  rw [forcedN]
  by_cases hJ : i < n ∧ J i = true
  ·
   rw [if_pos hJ]
   have hEi : E i = false := by
    cases hEi : E i
    · rfl
    · exact absurd hJ ((hE i hfi (by omega)).mp hEi)
   refine forced_is F J E n fr hfr hE hF g (i + 1) tq (by omega) (by omega) ?_
   rcases h with ⟨h1, h⟩ | ⟨h1, h2, h3, h4, h5⟩
   ·
    refine .inl ⟨h1, fun e he hei => ?_⟩
    by_cases q : e = i
    · rw [q]; exact hEi
    · exact h e he (by omega)
   ·
    refine .inr ⟨h1, by omega, h3, fun e he hei => ?_, h5⟩
    by_cases q : e = i
    · rw [q]; exact hEi
    · exact h4 e he (by omega)
  ·
   rw [if_neg hJ]
   have hEi : E i = true := (hE i hfi (by omega)).mpr hJ
   by_cases hq : fr < tq ∧ F fr i = false
   ·
    rw [if_pos hq]
    rcases h with ⟨h1, h⟩ | ⟨h1, h2, h3, h4, h5⟩
    · omega
    ·
     refine ⟨tq, rfl, h1, by omega, h3, h5, fun e he hen hEe => ?_⟩
     have hei : i ≤ e := by
      apply Decidable.byContradiction
      intro hc
      have := h4 e he (by omega)
      rw [hEe] at this
      cases this
     cases hFe : F fr e
     · rfl
     ·
      have := hF i e hfi hei hen hFe
      rw [hq.2] at this
      cases this
   ·
    rw [if_neg hq]
    refine forced_is F J E n fr hfr hE hF g (i + 1) i (by omega) (by omega) (.inr ⟨hfi, by omega, hEi, fun e he hei => by omega, ?_⟩)
    rcases h with ⟨h1, h⟩ | ⟨h1, h2, h3, h4, h5⟩
    · exact .inr (fun e he hei => h e he hei)
    ·
     refine .inl ?_
     cases hFi : F fr i
     · exact absurd ⟨h1, hFi⟩ hq
     · rfl
theorem next_is (bs : List Int) (F : Nat → Nat → Bool) (J E : Nat → Bool) (n fr : Nat) (hfr : fr < n) (hE : ∀ i, fr < i → i ≤ n → (E i = true ↔ ¬ (i < n ∧ J i = true))) (hF : ∀ i j, fr < i → i ≤ j → j ≤ n → F fr j = true → F fr i = true) (hm : fr < mustV bs n fr) (hmn : mustV bs n fr ≤ n) (hmb : ¬ bs.getD (mustV bs n fr - 1) 0 = 0) (hmE : E (mustV bs n fr) = true) :
  nextI bs F (endsL E n) fr (mustV bs n fr) = some (nextV bs F J n fr) ∧ (fr : Int) < nextV bs F J n fr ∧ nextV bs F J n fr ≤ (n : Int) := by
 obtain ⟨m, hme⟩ : ∃ m, mustV bs n fr = m := ⟨_, rfl⟩
 rw [hme] at hm hmn hmb hmE ⊢
 unfold nextI nextV
 rw [hme, next_down]
 cases hd : downN bs F fr (m - fr) with
 | some t =>
  have := down_pos bs F fr _ t hd
  dsimp only
  rw [if_pos (show (0 : Int) < (t : Int) by omega)]
  exact ⟨rfl, by omega, by omega⟩
 | none =>
  dsimp only
  rw [if_neg (show ¬ (0 : Int) < -1 by decide)]
  have hFm : F fr m = false := by
   have := down_none bs F fr _ hd (m - 1 - fr) (by omega) (by rw [show fr + (m - 1 - fr) = m - 1 by omega]; exact hmb)
   rwa [show fr + (m - 1 - fr) + 1 = m by omega] at this
  obtain ⟨t, ht, h1, h2, h3, h4, h5⟩ := forced_is F J E n fr hfr hE hF (n - fr) (fr + 1) fr (by omega) (by omega) (.inl ⟨rfl, fun e he hei => by omega⟩)
  rw [ht]
  by_cases hFt : F fr t = true
  ·
   have htm : t < m := by
    apply Decidable.byContradiction
    intro hc
    have := hF m t hm (by omega) h2 hFt
    rw [hFm] at this
    cases this
   rw [if_pos (show (t : Int) < (m : Int) by omega)]
   have hb : backN F fr m (endsL E n) = some (t : Int) := by
    refine endsL_down E n _ t h2 h3 ?_ (fun j hj hjn hEj => ?_)
    ·
     rw [decide_eq_true (show (fr : Int) < (t : Int) by omega), decide_eq_true (show (t : Int) ≤ (m : Int) by omega), Int.toNat_natCast, hFt]
     rfl
    · rw [Int.toNat_natCast, h5 j hj hjn hEj, Bool.and_false]
   rw [hb]
   exact ⟨rfl, by omega, by omega⟩
  ·
   have hFt2 : F fr t = false := by simpa using hFt
   have hfi : ∀ e, fr < e → e < t → E e = false := h4.resolve_left hFt
   have htm : t ≤ m := by
    apply Decidable.byContradiction
    intro hc
    have := hfi m hm (by omega)
    rw [hmE] at this
    cases this
   have hb : backN F fr m (endsL E n) = none := by
    refine endsL_none E n _ (fun j hjn hEj => ?_)
    by_cases hj : fr < j
    ·
     have hFj : F fr j = false := by
      by_cases hjt : j < t
      ·
       have := hfi j hj hjt
       rw [hEj] at this
       cases this
      ·
       by_cases hjt2 : j = t
       · rw [hjt2]; exact hFt2
       · exact h5 j (by omega) hjn hEj
     rw [Int.toNat_natCast, hFj, Bool.and_false]
    · rw [decide_eq_false (show ¬ (fr : Int) < (j : Int) by omega), Bool.false_and, Bool.false_and]
   rw [hb]
   have hf : (endsL E n).find? (fun t => decide ((fr : Int) < t)) = some (t : Int) := by
    refine endsL_up E n _ t h2 h3 (decide_eq_true (by omega)) (fun j hj hEj => ?_)
    refine decide_eq_false (fun hc => ?_)
    have := hfi j (by omega) hj
    rw [hEj] at this
    cases this
   dsimp only
   rw [hf]
   by_cases hlt : (t : Int) < (m : Int)
   ·
    rw [if_pos hlt]
    exact ⟨rfl, by omega, by omega⟩
   ·
    rw [if_neg hlt]
    obtain rfl : t = m := by omega
    exact ⟨rfl, by omega, by omega⟩
theorem must_is (bs : List Int) (n : Nat) : ∀ (g i : Nat), (∃ p, i ≤ p ∧ p < i + g ∧ bs.getD p 0 = 2) → i < mustN bs n g i ∧ mustN bs n g i ≤ i + g ∧ bs.getD (mustN bs n g i - 1) 0 = 2
 | 0, i, ⟨p, h1, h2, _⟩ => by omega
 | g + 1, i, ⟨p, h1, h2, h3⟩ => by
  rw [mustN]
  by_cases h : bs.getD i 0 = 2
  ·
   rw [if_pos h, Nat.add_sub_cancel]
   exact ⟨by omega, by omega, h⟩
  ·
   rw [if_neg h]
   have := must_is bs n g (i + 1) ⟨p, by (by_cases q : p = i; (subst q; exact absurd h3 h); omega), by omega, h3⟩
   exact ⟨by omega, by omega, this.2.2⟩
end Go.Proofs.YtmcdcogedcbndaaGreat.Pure
namespace Go.Proofs.YtmcdcogedcbndaaGreat.S
open Go.RowKit Go.Proofs.YtmcdcogedcbndaaGreatW.PrintWords Go.Proofs.YtmcdcogedcbndaaGreatW.PrintLast
set_option linter.unusedVariables false
set_option linter.unusedSimpArgs false
def spec_l1In.f (a0 : Int) (a1 : Int) (a2 : Int) : Option (Bool) := if a0 ≥ a1 then (some (decide (a0 ≤ a2))) else (some false)
theorem spec_l1In.calls (a0 : Int) (a1 : Int) (a2 : Int) (r : Bool) (w : World) (h : spec_l1In.f a0 a1 a2 = some r) :
  Calls Tryz.prog 36 #[.int .i64 a0, .int .i64 a1, .int .i64 a2] w fun e w' => e = .returned (.bool r) ∧ Drawn0 w w' := by
 have H : (if a0 ≥ a1 then (some (decide (a0 ≤ a2))) else (some false)) = some r := h
 clear h
 by_cases c4 : a0 ≥ a1
 ·
  rw [if_pos c4] at H
  have c4b0 : decide (a1 ≤ a0) = true := decide_eq_true c4
  clear c4
  obtain rfl := Option.some.inj H
  go_enter Tryz.func36, Tryz.ntmps36
  go_wp2
  go_ret
  exact ⟨zB, zD⟩
 ·
  rw [if_neg c4] at H
  have c4b0 : decide (a1 ≤ a0) = false := decide_eq_false c4
  clear c4
  obtain rfl := Option.some.inj H
  go_enter Tryz.func36, Tryz.ntmps36
  go_wp2
  go_ret
  exact ⟨zB, zD⟩
def spec_l1Size.f (a0 : Int) : Option (Int) := (spec_l1In.f a0 0 127).bind fun t101 => (if t101 = true then (some 1) else ((spec_l1In.f a0 128 2047).bind fun t102 => (if t102 = true then (some 2) else ((spec_l1In.f a0 55296 57343).bind fun t103 => (if t103 = true then (some 0) else ((spec_l1In.f a0 2048 65535).bind fun t104 => (if t104 = true then (some 3) else ((spec_l1In.f a0 65536 1114111).bind fun t105 => (if t105 = true then (some 4) else (some 0))))))))))
theorem spec_l1Size.calls (a0 : Int) (r : Int) (w : World) (h : spec_l1Size.f a0 = some r) :
  Calls Tryz.prog 95 #[.int .i64 a0] w fun e w' => e = .returned (.int .i64 r) ∧ Drawn0 w w' := by
 have H : ((spec_l1In.f a0 0 127).bind fun t101 => (if t101 = true then (some 1) else ((spec_l1In.f a0 128 2047).bind fun t102 => (if t102 = true then (some 2) else ((spec_l1In.f a0 55296 57343).bind fun t103 => (if t103 = true then (some 0) else ((spec_l1In.f a0 2048 65535).bind fun t104 => (if t104 = true then (some 3) else ((spec_l1In.f a0 65536 1114111).bind fun t105 => (if t105 = true then (some 4) else (some 0))))))))))) = some r := h; clear h; replace H := Option.bind_eq_some_iff.mp H; obtain ⟨t101, A20, H⟩ := H; replace H : (if t101 = true then (some 1) else ((spec_l1In.f a0 128 2047).bind fun t102 => (if t102 = true then (some 2) else ((spec_l1In.f a0 55296 57343).bind fun t103 => (if t103 = true then (some 0) else ((spec_l1In.f a0 2048 65535).bind fun t104 => (if t104 = true then (some 3) else ((spec_l1In.f a0 65536 1114111).bind fun t105 => (if t105 = true then (some 4) else (some 0)))))))))) = some r := H; have A2 := az A20; clear A20; by_cases c3 : t101 = true
 ·
  subst c3; have H1 : (some 1) = some r := by rw [if_pos rfl] at H; exact H
  clear H; have H := H1; clear H1; obtain rfl := Option.some.inj H; go_enter Tryz.func95, Tryz.ntmps95; go_wp2_with (first | ((with_reducible refine gate_callee (f := 36) rfl ?_); refine goesL_ (some 5) rfl rfl Tryz.func36 (by kernel_rfl) rfl #[.int .i64 a0, .int .i64 0, .int .i64 127] rfl zC ?_; (with_reducible refine (spec_l1In.calls a0 0 127 true _ A2.out).mono ?_); rintro e w' ⟨rfl, ⟨nd, rfl⟩⟩; refine ⟨_, rfl, ?_⟩)); go_ret; exact ⟨zB, zD⟩
 ·
  replace c3 := Bool.eq_false_iff.mpr c3; subst c3; have H1 : ((spec_l1In.f a0 128 2047).bind fun t102 => (if t102 = true then (some 2) else ((spec_l1In.f a0 55296 57343).bind fun t103 => (if t103 = true then (some 0) else ((spec_l1In.f a0 2048 65535).bind fun t104 => (if t104 = true then (some 3) else ((spec_l1In.f a0 65536 1114111).bind fun t105 => (if t105 = true then (some 4) else (some 0))))))))) = some r := by rw [if_neg (show ¬ (false = true) by decide)] at H; exact H
  clear H; have H := H1; clear H1; replace H := Option.bind_eq_some_iff.mp H; obtain ⟨t102, A40, H⟩ := H; replace H : (if t102 = true then (some 2) else ((spec_l1In.f a0 55296 57343).bind fun t103 => (if t103 = true then (some 0) else ((spec_l1In.f a0 2048 65535).bind fun t104 => (if t104 = true then (some 3) else ((spec_l1In.f a0 65536 1114111).bind fun t105 => (if t105 = true then (some 4) else (some 0)))))))) = some r := H; have A4 := az A40; clear A40; by_cases c5 : t102 = true
  ·
   subst c5; have H1 : (some 2) = some r := by rw [if_pos rfl] at H; exact H
   clear H; have H := H1; clear H1; obtain rfl := Option.some.inj H; go_enter Tryz.func95, Tryz.ntmps95; go_wp2_with (first | ((with_reducible refine gate_callee (f := 36) rfl ?_); refine goesL_ (some 5) rfl rfl Tryz.func36 (by kernel_rfl) rfl #[.int .i64 a0, .int .i64 0, .int .i64 127] rfl zC ?_; (with_reducible refine (spec_l1In.calls a0 0 127 false _ A2.out).mono ?_); rintro e w' ⟨rfl, ⟨nd, rfl⟩⟩; refine ⟨_, rfl, ?_⟩) | ((with_reducible refine gate_callee (f := 36) rfl ?_); refine goesL_ (some 8) rfl rfl Tryz.func36 (by kernel_rfl) rfl #[.int .i64 a0, .int .i64 128, .int .i64 2047] rfl zC ?_; (with_reducible refine (spec_l1In.calls a0 128 2047 true _ A4.out).mono ?_); rintro e w' ⟨rfl, ⟨nd, rfl⟩⟩; refine ⟨_, rfl, ?_⟩)); go_ret; exact ⟨zB, zD⟩
  ·
   replace c5 := Bool.eq_false_iff.mpr c5; subst c5; have H1 : ((spec_l1In.f a0 55296 57343).bind fun t103 => (if t103 = true then (some 0) else ((spec_l1In.f a0 2048 65535).bind fun t104 => (if t104 = true then (some 3) else ((spec_l1In.f a0 65536 1114111).bind fun t105 => (if t105 = true then (some 4) else (some 0))))))) = some r := by rw [if_neg (show ¬ (false = true) by decide)] at H; exact H
   clear H; have H := H1; clear H1; replace H := Option.bind_eq_some_iff.mp H; obtain ⟨t103, A60, H⟩ := H; replace H : (if t103 = true then (some 0) else ((spec_l1In.f a0 2048 65535).bind fun t104 => (if t104 = true then (some 3) else ((spec_l1In.f a0 65536 1114111).bind fun t105 => (if t105 = true then (some 4) else (some 0)))))) = some r := H; have A6 := az A60; clear A60; by_cases c7 : t103 = true
   ·
    subst c7; have H1 : (some 0) = some r := by rw [if_pos rfl] at H; exact H
    clear H; have H := H1; clear H1; obtain rfl := Option.some.inj H; go_enter Tryz.func95, Tryz.ntmps95; go_wp2_with (first | ((with_reducible refine gate_callee (f := 36) rfl ?_); refine goesL_ (some 5) rfl rfl Tryz.func36 (by kernel_rfl) rfl #[.int .i64 a0, .int .i64 0, .int .i64 127] rfl zC ?_; (with_reducible refine (spec_l1In.calls a0 0 127 false _ A2.out).mono ?_); rintro e w' ⟨rfl, ⟨nd, rfl⟩⟩; refine ⟨_, rfl, ?_⟩) | ((with_reducible refine gate_callee (f := 36) rfl ?_); refine goesL_ (some 8) rfl rfl Tryz.func36 (by kernel_rfl) rfl #[.int .i64 a0, .int .i64 128, .int .i64 2047] rfl zC ?_; (with_reducible refine (spec_l1In.calls a0 128 2047 false _ A4.out).mono ?_); rintro e w' ⟨rfl, ⟨nd, rfl⟩⟩; refine ⟨_, rfl, ?_⟩) | ((with_reducible refine gate_callee (f := 36) rfl ?_); refine goesL_ (some 11) rfl rfl Tryz.func36 (by kernel_rfl) rfl #[.int .i64 a0, .int .i64 55296, .int .i64 57343] rfl zC ?_; (with_reducible refine (spec_l1In.calls a0 55296 57343 true _ A6.out).mono ?_); rintro e w' ⟨rfl, ⟨nd, rfl⟩⟩; refine ⟨_, rfl, ?_⟩)); go_ret; exact ⟨zB, zD⟩
   ·
    replace c7 := Bool.eq_false_iff.mpr c7; subst c7; have H1 : ((spec_l1In.f a0 2048 65535).bind fun t104 => (if t104 = true then (some 3) else ((spec_l1In.f a0 65536 1114111).bind fun t105 => (if t105 = true then (some 4) else (some 0))))) = some r := by rw [if_neg (show ¬ (false = true) by decide)] at H; exact H
    clear H; have H := H1; clear H1; replace H := Option.bind_eq_some_iff.mp H; obtain ⟨t104, A80, H⟩ := H; replace H : (if t104 = true then (some 3) else ((spec_l1In.f a0 65536 1114111).bind fun t105 => (if t105 = true then (some 4) else (some 0)))) = some r := H; have A8 := az A80; clear A80; by_cases c9 : t104 = true
    ·
     subst c9; have H1 : (some 3) = some r := by rw [if_pos rfl] at H; exact H
     clear H; have H := H1; clear H1; obtain rfl := Option.some.inj H; go_enter Tryz.func95, Tryz.ntmps95; go_wp2_with (first | ((with_reducible refine gate_callee (f := 36) rfl ?_); refine goesL_ (some 5) rfl rfl Tryz.func36 (by kernel_rfl) rfl #[.int .i64 a0, .int .i64 0, .int .i64 127] rfl zC ?_; (with_reducible refine (spec_l1In.calls a0 0 127 false _ A2.out).mono ?_); rintro e w' ⟨rfl, ⟨nd, rfl⟩⟩; refine ⟨_, rfl, ?_⟩) | ((with_reducible refine gate_callee (f := 36) rfl ?_); refine goesL_ (some 8) rfl rfl Tryz.func36 (by kernel_rfl) rfl #[.int .i64 a0, .int .i64 128, .int .i64 2047] rfl zC ?_; (with_reducible refine (spec_l1In.calls a0 128 2047 false _ A4.out).mono ?_); rintro e w' ⟨rfl, ⟨nd, rfl⟩⟩; refine ⟨_, rfl, ?_⟩) | ((with_reducible refine gate_callee (f := 36) rfl ?_); refine goesL_ (some 11) rfl rfl Tryz.func36 (by kernel_rfl) rfl #[.int .i64 a0, .int .i64 55296, .int .i64 57343] rfl zC ?_; (with_reducible refine (spec_l1In.calls a0 55296 57343 false _ A6.out).mono ?_); rintro e w' ⟨rfl, ⟨nd, rfl⟩⟩; refine ⟨_, rfl, ?_⟩) | ((with_reducible refine gate_callee (f := 36) rfl ?_); refine goesL_ (some 14) rfl rfl Tryz.func36 (by kernel_rfl) rfl #[.int .i64 a0, .int .i64 2048, .int .i64 65535] rfl zC ?_; (with_reducible refine (spec_l1In.calls a0 2048 65535 true _ A8.out).mono ?_); rintro e w' ⟨rfl, ⟨nd, rfl⟩⟩; refine ⟨_, rfl, ?_⟩)); go_ret; exact ⟨zB, zD⟩
    ·
     replace c9 := Bool.eq_false_iff.mpr c9; subst c9; have H1 : ((spec_l1In.f a0 65536 1114111).bind fun t105 => (if t105 = true then (some 4) else (some 0))) = some r := by rw [if_neg (show ¬ (false = true) by decide)] at H; exact H
     clear H; have H := H1; clear H1; replace H := Option.bind_eq_some_iff.mp H; obtain ⟨t105, A100, H⟩ := H; replace H : (if t105 = true then (some 4) else (some 0)) = some r := H; have A10 := az A100; clear A100; by_cases c11 : t105 = true
     ·
      subst c11; have H1 : (some 4) = some r := by rw [if_pos rfl] at H; exact H
      clear H; have H := H1; clear H1; obtain rfl := Option.some.inj H; go_enter Tryz.func95, Tryz.ntmps95; go_wp2_with (first | ((with_reducible refine gate_callee (f := 36) rfl ?_); refine goesL_ (some 5) rfl rfl Tryz.func36 (by kernel_rfl) rfl #[.int .i64 a0, .int .i64 0, .int .i64 127] rfl zC ?_; (with_reducible refine (spec_l1In.calls a0 0 127 false _ A2.out).mono ?_); rintro e w' ⟨rfl, ⟨nd, rfl⟩⟩; refine ⟨_, rfl, ?_⟩) | ((with_reducible refine gate_callee (f := 36) rfl ?_); refine goesL_ (some 8) rfl rfl Tryz.func36 (by kernel_rfl) rfl #[.int .i64 a0, .int .i64 128, .int .i64 2047] rfl zC ?_; (with_reducible refine (spec_l1In.calls a0 128 2047 false _ A4.out).mono ?_); rintro e w' ⟨rfl, ⟨nd, rfl⟩⟩; refine ⟨_, rfl, ?_⟩) | ((with_reducible refine gate_callee (f := 36) rfl ?_); refine goesL_ (some 11) rfl rfl Tryz.func36 (by kernel_rfl) rfl #[.int .i64 a0, .int .i64 55296, .int .i64 57343] rfl zC ?_; (with_reducible refine (spec_l1In.calls a0 55296 57343 false _ A6.out).mono ?_); rintro e w' ⟨rfl, ⟨nd, rfl⟩⟩; refine ⟨_, rfl, ?_⟩) | ((with_reducible refine gate_callee (f := 36) rfl ?_); refine goesL_ (some 14) rfl rfl Tryz.func36 (by kernel_rfl) rfl #[.int .i64 a0, .int .i64 2048, .int .i64 65535] rfl zC ?_; (with_reducible refine (spec_l1In.calls a0 2048 65535 false _ A8.out).mono ?_); rintro e w' ⟨rfl, ⟨nd, rfl⟩⟩; refine ⟨_, rfl, ?_⟩) | ((with_reducible refine gate_callee (f := 36) rfl ?_); refine goesL_ (some 17) rfl rfl Tryz.func36 (by kernel_rfl) rfl #[.int .i64 a0, .int .i64 65536, .int .i64 1114111] rfl zC ?_; (with_reducible refine (spec_l1In.calls a0 65536 1114111 true _ A10.out).mono ?_); rintro e w' ⟨rfl, ⟨nd, rfl⟩⟩; refine ⟨_, rfl, ?_⟩)); go_ret; exact ⟨zB, zD⟩
     ·
      replace c11 := Bool.eq_false_iff.mpr c11; subst c11; have H1 : (some 0) = some r := by rw [if_neg (show ¬ (false = true) by decide)] at H; exact H
      clear H; have H := H1; clear H1; obtain rfl := Option.some.inj H; go_enter Tryz.func95, Tryz.ntmps95; go_wp2_with (first | ((with_reducible refine gate_callee (f := 36) rfl ?_); refine goesL_ (some 5) rfl rfl Tryz.func36 (by kernel_rfl) rfl #[.int .i64 a0, .int .i64 0, .int .i64 127] rfl zC ?_; (with_reducible refine (spec_l1In.calls a0 0 127 false _ A2.out).mono ?_); rintro e w' ⟨rfl, ⟨nd, rfl⟩⟩; refine ⟨_, rfl, ?_⟩) | ((with_reducible refine gate_callee (f := 36) rfl ?_); refine goesL_ (some 8) rfl rfl Tryz.func36 (by kernel_rfl) rfl #[.int .i64 a0, .int .i64 128, .int .i64 2047] rfl zC ?_; (with_reducible refine (spec_l1In.calls a0 128 2047 false _ A4.out).mono ?_); rintro e w' ⟨rfl, ⟨nd, rfl⟩⟩; refine ⟨_, rfl, ?_⟩) | ((with_reducible refine gate_callee (f := 36) rfl ?_); refine goesL_ (some 11) rfl rfl Tryz.func36 (by kernel_rfl) rfl #[.int .i64 a0, .int .i64 55296, .int .i64 57343] rfl zC ?_; (with_reducible refine (spec_l1In.calls a0 55296 57343 false _ A6.out).mono ?_); rintro e w' ⟨rfl, ⟨nd, rfl⟩⟩; refine ⟨_, rfl, ?_⟩) | ((with_reducible refine gate_callee (f := 36) rfl ?_); refine goesL_ (some 14) rfl rfl Tryz.func36 (by kernel_rfl) rfl #[.int .i64 a0, .int .i64 2048, .int .i64 65535] rfl zC ?_; (with_reducible refine (spec_l1In.calls a0 2048 65535 false _ A8.out).mono ?_); rintro e w' ⟨rfl, ⟨nd, rfl⟩⟩; refine ⟨_, rfl, ?_⟩) | ((with_reducible refine gate_callee (f := 36) rfl ?_); refine goesL_ (some 17) rfl rfl Tryz.func36 (by kernel_rfl) rfl #[.int .i64 a0, .int .i64 65536, .int .i64 1114111] rfl zC ?_; (with_reducible refine (spec_l1In.calls a0 65536 1114111 false _ A10.out).mono ?_); rintro e w' ⟨rfl, ⟨nd, rfl⟩⟩; refine ⟨_, rfl, ?_⟩)); go_ret; exact ⟨zB, zD⟩
def spec_l1Ok.l0 : Nat → List Int → Int → Option (Bool)
 | 0, _, _ => none
 | k + 1, x0, x3 => if x3 < (x0.length : Int) then (if 0 ≤ x3 then ((spec_l1Size.f (rd x0 x3)).bind fun t107 => (if t107 = 0 then (some false) else (spec_l1Ok.l0 k x0 (wrap64 (x3 + 1))))) else (none)) else (some (decide ((x0.length : Int) ≤ 80)))
def spec_l1Ok.f (k : Nat) (l0 : List Int) : Option (Bool) := spec_l1Ok.l0 k l0 0
theorem spec_l1Ok.mono_l : ∀ k, (∀ y0 y1, LeO (spec_l1Ok.l0 k y0 y1) (spec_l1Ok.l0 (k + 1) y0 y1))
 | 0 => fun _ _ r h => by simp [spec_l1Ok.l0] at h
 | k + 1 => by
  have ih0 := spec_l1Ok.mono_l k
  ·
   intro y0 y1; unfold spec_l1Ok.l0
   repeat' first
   | (with_reducible exact ih0 _ _)
   | (with_reducible exact LeO.refl _)
   | (with_reducible exact LeO.none _)
   | (with_reducible refine LeO.ite ?_ ?_)
   | (with_reducible refine LeO.bind ?_ (fun _ => ?_))
   | exact ih0 _ _
   | exact LeO.none _
   | refine LeO.ite ?_ ?_
   | refine LeO.bind ?_ (fun _ => ?_)
theorem spec_l1Ok.mono : ∀ a0 k, LeO (spec_l1Ok.f k a0) (spec_l1Ok.f (k + 1) a0) := by
 intro a0 k; have ih0 := spec_l1Ok.mono_l k; unfold spec_l1Ok.f
 repeat' first
   | (with_reducible exact ih0 _ _)
   | (with_reducible exact LeO.refl _)
   | (with_reducible exact LeO.none _)
   | (with_reducible refine LeO.ite ?_ ?_)
   | (with_reducible refine LeO.bind ?_ (fun _ => ?_))
   | exact ih0 _ _
   | exact LeO.none _
   | refine LeO.ite ?_ ?_
   | refine LeO.bind ?_ (fun _ => ?_)
theorem spec_l1Ok.calls (k : Nat) (A0 : Option Addr) (c0 : Nat) (l0 : List Int) (r : Bool) (w : World) (hr0 : Kd.C (Kd.int .i64) w A0 l0.length l0) (hc0 : l0.length ≤ c0) (h : spec_l1Ok.f k l0 = some r) :
  Calls Tryz.prog 68 #[.slice A0 l0.length c0] w fun e w' => e = .returned (.bool r) ∧ Drawn0 w w' := by
 have HR0 := az hr0; have HC0 := az hc0; clear hr0 hc0; have H : (spec_l1Ok.l0 k l0 0) = some r := h; clear h; have H' := az H; clear H; go_enter Tryz.func68, Tryz.ntmps68; go_wp2; go_loopg [3] k (fun kq v3 w' => ∃ (x3_1 : Int), v3 = .int .i64 x3_1 ∧ Aside0 (spec_l1Ok.l0 kq l0 x3_1 = some r) ∧ Aside0 (kq ≤ k) ∧ Drawn0 w w')
 case atStart => exact ⟨(0), zB, H', ⟨Nat.le_refl _⟩, zD⟩
 case round =>
  clear H'; obtain ⟨x3_1, rfl, HA, HK1, ⟨m1, rfl⟩⟩ := hrel
  cases gk with
  | zero => exact absurd HA.out (by simp [spec_l1Ok.l0])
  | succ k1 =>
   have H := HA.out; clear HA; simp only [spec_l1Ok.l0] at H; by_cases c2 : x3_1 < (l0.length : Int)
   ·
    rw [if_pos c2] at H; have c2b0 : decide (x3_1 < (l0.length : Int)) = true := decide_eq_true c2; clear c2; by_cases c3 : 0 ≤ x3_1
    ·
     rw [if_pos c3] at H; have c3b0 : decide (0 ≤ x3_1) = true := decide_eq_true c3; clear c3; replace H := Option.bind_eq_some_iff.mp H; obtain ⟨t107, A40, H⟩ := H; replace H : (if t107 = 0 then (some false) else (spec_l1Ok.l0 k1 l0 (wrap64 (x3_1 + 1)))) = some r := H; have A4 := az A40; clear A40; by_cases c5 : t107 = 0
     ·
      rw [if_pos c5] at H; have c5b0 : (t107 == 0) = true := beq_iff_eq.mpr c5; have c5b1 : (t107 != 0) = false := bne_eq_false_iff_eq.mpr c5; clear c5; obtain rfl := Option.some.inj H; have p106 : 0 ≤ (x3_1 : Int) := of_decide_eq_true (by assumption); have q106 : x3_1 < (l0.length : Int) := of_decide_eq_true (by assumption); obtain ⟨ad106, e106, hx106_0⟩ := Kd.at_int HR0.out x3_1 p106 q106
      cases e106
      replace p106 := eq_true p106; replace q106 := eq_true q106; go_wp2_with (first | ((with_reducible refine gate_callee (f := 95) rfl ?_); refine goesL_ (some 14) rfl rfl Tryz.func95 (by kernel_rfl) rfl #[.int .i64 (rd l0 x3_1)] rfl zC ?_; (with_reducible refine (spec_l1Size.calls (rd l0 x3_1) t107 _ A4.out).mono ?_); rintro e w' ⟨rfl, ⟨nd, rfl⟩⟩; refine ⟨_, rfl, ?_⟩)); go_ret; exact ⟨zB, zD⟩
     ·
      rw [if_neg c5] at H; have c5b0 : (t107 == 0) = false := beq_eq_false_iff_ne.mpr c5; have c5b1 : (t107 != 0) = true := bne_iff_ne.mpr c5; have H' := az H; clear H; have p106 : 0 ≤ (x3_1 : Int) := of_decide_eq_true (by assumption); have q106 : x3_1 < (l0.length : Int) := of_decide_eq_true (by assumption); obtain ⟨ad106, e106, hx106_0⟩ := Kd.at_int HR0.out x3_1 p106 q106
      cases e106
      replace p106 := eq_true p106; replace q106 := eq_true q106; go_wp2_with (first | ((with_reducible refine gate_callee (f := 95) rfl ?_); refine goesL_ (some 14) rfl rfl Tryz.func95 (by kernel_rfl) rfl #[.int .i64 (rd l0 x3_1)] rfl zC ?_; (with_reducible refine (spec_l1Size.calls (rd l0 x3_1) t107 _ A4.out).mono ?_); rintro e w' ⟨rfl, ⟨nd, rfl⟩⟩; refine ⟨_, rfl, ?_⟩)); go_roundg k1
      case measure => have := HK1.out; omega
      case rel => exact ⟨(wrap64 (x3_1 + 1)), zB, H', ⟨zE HK1.out⟩, zD⟩
    ·
     rw [if_neg c3] at H; exact absurd H (by simp)
   ·
    rw [if_neg c2] at H; have c2b0 : decide (x3_1 < (l0.length : Int)) = false := decide_eq_false c2; clear c2; obtain rfl := Option.some.inj H; go_wp2; go_ret; exact ⟨zB, zD⟩
def spec_l6Ok.f (a0_0 : Int) (a0_1 : Int) (a0_2 : Int) (a0_3 : Int) (a1 : Int) : Option (Bool) := (spec_l1In.f a0_0 0 (wrap64 (a1 - 1))).bind fun t109 => (if t109 = true then ((spec_l1In.f a0_1 (wrap64 (a0_0 + 1)) a1).bind fun t110 => (if t110 = true then ((spec_l1In.f a0_2 1 40).bind fun t111 => (if t111 = true then ((spec_l1In.f a0_3 0 9).bind fun t112 => (some t112)) else (some false))) else (some false))) else (some false))
theorem spec_l6Ok.calls (a0_0 : Int) (a0_1 : Int) (a0_2 : Int) (a0_3 : Int) (a1 : Int) (r : Bool) (w : World) (h : spec_l6Ok.f a0_0 a0_1 a0_2 a0_3 a1 = some r) :
  Calls Tryz.prog 96 #[.agg #[.int .i64 a0_0, .int .i64 a0_1, .int .i64 a0_2, .int .i64 a0_3], .int .i64 a1] w fun e w' => e = .returned (.bool r) ∧ Below w.heap.size w w' := by
 have hu50 := Tryz.underlying50; have HB := az (Below.refl w.heap.size w); have H : ((spec_l1In.f a0_0 0 (wrap64 (a1 - 1))).bind fun t109 => (if t109 = true then ((spec_l1In.f a0_1 (wrap64 (a0_0 + 1)) a1).bind fun t110 => (if t110 = true then ((spec_l1In.f a0_2 1 40).bind fun t111 => (if t111 = true then ((spec_l1In.f a0_3 0 9).bind fun t112 => (some t112)) else (some false))) else (some false))) else (some false))) = some r := h; clear h; replace H := Option.bind_eq_some_iff.mp H; obtain ⟨t109, A30, H⟩ := H; replace H : (if t109 = true then ((spec_l1In.f a0_1 (wrap64 (a0_0 + 1)) a1).bind fun t110 => (if t110 = true then ((spec_l1In.f a0_2 1 40).bind fun t111 => (if t111 = true then ((spec_l1In.f a0_3 0 9).bind fun t112 => (some t112)) else (some false))) else (some false))) else (some false)) = some r := H; have A3 := az A30; clear A30; by_cases c4 : t109 = true
 ·
  subst c4; have H1 : ((spec_l1In.f a0_1 (wrap64 (a0_0 + 1)) a1).bind fun t110 => (if t110 = true then ((spec_l1In.f a0_2 1 40).bind fun t111 => (if t111 = true then ((spec_l1In.f a0_3 0 9).bind fun t112 => (some t112)) else (some false))) else (some false))) = some r := by rw [if_pos rfl] at H; exact H
  clear H; have H := H1; clear H1; replace H := Option.bind_eq_some_iff.mp H; obtain ⟨t110, A50, H⟩ := H; replace H : (if t110 = true then ((spec_l1In.f a0_2 1 40).bind fun t111 => (if t111 = true then ((spec_l1In.f a0_3 0 9).bind fun t112 => (some t112)) else (some false))) else (some false)) = some r := H; have A5 := az A50; clear A50; by_cases c6 : t110 = true
  ·
   subst c6; have H1 : ((spec_l1In.f a0_2 1 40).bind fun t111 => (if t111 = true then ((spec_l1In.f a0_3 0 9).bind fun t112 => (some t112)) else (some false))) = some r := by rw [if_pos rfl] at H; exact H
   clear H; have H := H1; clear H1; replace H := Option.bind_eq_some_iff.mp H; obtain ⟨t111, A70, H⟩ := H; replace H : (if t111 = true then ((spec_l1In.f a0_3 0 9).bind fun t112 => (some t112)) else (some false)) = some r := H; have A7 := az A70; clear A70; by_cases c8 : t111 = true
   ·
    subst c8; have H1 : ((spec_l1In.f a0_3 0 9).bind fun t112 => (some t112)) = some r := by rw [if_pos rfl] at H; exact H
    clear H; have H := H1; clear H1; replace H := Option.bind_eq_some_iff.mp H; obtain ⟨t112, A90, H⟩ := H; replace H : (some t112) = some r := H; have A9 := az A90; clear A90; obtain rfl := Option.some.inj H; go_enter Tryz.func96, Tryz.ntmps96; go_wp2_with (first | ((with_reducible refine gate_dst (N := 2) rfl ?_); refine box_event ?hg (N := 2) ?hd (cs := #[.int .i64 a0_0, .int .i64 a0_1, .int .i64 a0_2, .int .i64 a0_3]) (t := 50) ?hr ?_; (case hd => rfl); (case hg => rfl); (case hr => first | (go_simp; done) | (go_simp; rfl)); intro gb108 hg w10 hbox hb; have n0_ := az (below_step (zA HB.out) hb); have n1_ := az (hbox); have n2_ := az ((by rw [hg]; exact (below_size (zA HB.out)) : w.heap.size ≤ gb108)); have n3_ := az ((by rw [hg]; exact (below_size (zA HB.out)) : w.heap.size ≤ gb108)); clear HB; have HB := n0_; have BK108 := n1_; have GW108 := n2_; have GE108 := n3_; clear n0_ n1_ n2_ n3_; clear hb hbox hg; have hcz11_0 : w10.cell? ⟨gb108, 0, none⟩ = some (.int .i64 a0_0) := (blk_cell BK108.out 0).trans rfl; have hcz11_1 : w10.cell? ⟨gb108, 1, none⟩ = some (.int .i64 a0_1) := (blk_cell BK108.out 1).trans rfl; have hcz11_2 : w10.cell? ⟨gb108, 2, none⟩ = some (.int .i64 a0_2) := (blk_cell BK108.out 2).trans rfl; have hcz11_3 : w10.cell? ⟨gb108, 3, none⟩ = some (.int .i64 a0_3) := (blk_cell BK108.out 3).trans rfl; have hfz11_0 := blk_frozen BK108.out 0; have hfz11_1 := blk_frozen BK108.out 1; have hfz11_2 := blk_frozen BK108.out 2; have hfz11_3 := blk_frozen BK108.out 3) | ((with_reducible refine gate_callee (f := 36) rfl ?_); refine goesL_ (some 9) rfl rfl Tryz.func36 (by kernel_rfl) rfl #[.int .i64 a0_0, .int .i64 0, .int .i64 (wrap64 (a1 - 1))] rfl zC ?_; (with_reducible refine (spec_l1In.calls a0_0 0 (wrap64 (a1 - 1)) true _ A3.out).mono ?_); rintro e w' ⟨rfl, ⟨nd, rfl⟩⟩; refine ⟨_, rfl, ?_⟩) | (go_at_call 36; (with_reducible refine (spec_l1In.calls a0_1 (wrap64 (a0_0 + 1)) a1 true _ A5.out).mono ?_); rintro e w' ⟨rfl, ⟨nd, rfl⟩⟩) | (go_at_call 36; (with_reducible refine (spec_l1In.calls a0_2 1 40 true _ A7.out).mono ?_); rintro e w' ⟨rfl, ⟨nd, rfl⟩⟩) | (go_at_call 36; (with_reducible refine (spec_l1In.calls a0_3 0 9 t112 _ A9.out).mono ?_); rintro e w' ⟨rfl, ⟨nd, rfl⟩⟩)); go_ret; exact ⟨zG, zI HB.out GE108.out⟩
   ·
    replace c8 := Bool.eq_false_iff.mpr c8; subst c8; have H1 : (some false) = some r := by rw [if_neg (show ¬ (false = true) by decide)] at H; exact H
    clear H; have H := H1; clear H1; obtain rfl := Option.some.inj H; go_enter Tryz.func96, Tryz.ntmps96; go_wp2_with (first | ((with_reducible refine gate_dst (N := 2) rfl ?_); refine box_event ?hg (N := 2) ?hd (cs := #[.int .i64 a0_0, .int .i64 a0_1, .int .i64 a0_2, .int .i64 a0_3]) (t := 50) ?hr ?_; (case hd => rfl); (case hg => rfl); (case hr => first | (go_simp; done) | (go_simp; rfl)); intro gb108 hg w12 hbox hb; have n0_ := az (below_step (zA HB.out) hb); have n1_ := az (hbox); have n2_ := az ((by rw [hg]; exact (below_size (zA HB.out)) : w.heap.size ≤ gb108)); have n3_ := az ((by rw [hg]; exact (below_size (zA HB.out)) : w.heap.size ≤ gb108)); clear HB; have HB := n0_; have BK108 := n1_; have GW108 := n2_; have GE108 := n3_; clear n0_ n1_ n2_ n3_; clear hb hbox hg; have hcz13_0 : w12.cell? ⟨gb108, 0, none⟩ = some (.int .i64 a0_0) := (blk_cell BK108.out 0).trans rfl; have hcz13_1 : w12.cell? ⟨gb108, 1, none⟩ = some (.int .i64 a0_1) := (blk_cell BK108.out 1).trans rfl; have hcz13_2 : w12.cell? ⟨gb108, 2, none⟩ = some (.int .i64 a0_2) := (blk_cell BK108.out 2).trans rfl; have hcz13_3 : w12.cell? ⟨gb108, 3, none⟩ = some (.int .i64 a0_3) := (blk_cell BK108.out 3).trans rfl; have hfz13_0 := blk_frozen BK108.out 0; have hfz13_1 := blk_frozen BK108.out 1; have hfz13_2 := blk_frozen BK108.out 2; have hfz13_3 := blk_frozen BK108.out 3) | ((with_reducible refine gate_callee (f := 36) rfl ?_); refine goesL_ (some 9) rfl rfl Tryz.func36 (by kernel_rfl) rfl #[.int .i64 a0_0, .int .i64 0, .int .i64 (wrap64 (a1 - 1))] rfl zC ?_; (with_reducible refine (spec_l1In.calls a0_0 0 (wrap64 (a1 - 1)) true _ A3.out).mono ?_); rintro e w' ⟨rfl, ⟨nd, rfl⟩⟩; refine ⟨_, rfl, ?_⟩) | (go_at_call 36; (with_reducible refine (spec_l1In.calls a0_1 (wrap64 (a0_0 + 1)) a1 true _ A5.out).mono ?_); rintro e w' ⟨rfl, ⟨nd, rfl⟩⟩) | (go_at_call 36; (with_reducible refine (spec_l1In.calls a0_2 1 40 false _ A7.out).mono ?_); rintro e w' ⟨rfl, ⟨nd, rfl⟩⟩)); go_ret; exact ⟨zG, zI HB.out GE108.out⟩
  ·
   replace c6 := Bool.eq_false_iff.mpr c6; subst c6; have H1 : (some false) = some r := by rw [if_neg (show ¬ (false = true) by decide)] at H; exact H
   clear H; have H := H1; clear H1; obtain rfl := Option.some.inj H; go_enter Tryz.func96, Tryz.ntmps96; go_wp2_with (first | ((with_reducible refine gate_dst (N := 2) rfl ?_); refine box_event ?hg (N := 2) ?hd (cs := #[.int .i64 a0_0, .int .i64 a0_1, .int .i64 a0_2, .int .i64 a0_3]) (t := 50) ?hr ?_; (case hd => rfl); (case hg => rfl); (case hr => first | (go_simp; done) | (go_simp; rfl)); intro gb108 hg w14 hbox hb; have n0_ := az (below_step (zA HB.out) hb); have n1_ := az (hbox); have n2_ := az ((by rw [hg]; exact (below_size (zA HB.out)) : w.heap.size ≤ gb108)); have n3_ := az ((by rw [hg]; exact (below_size (zA HB.out)) : w.heap.size ≤ gb108)); clear HB; have HB := n0_; have BK108 := n1_; have GW108 := n2_; have GE108 := n3_; clear n0_ n1_ n2_ n3_; clear hb hbox hg; have hcz15_0 : w14.cell? ⟨gb108, 0, none⟩ = some (.int .i64 a0_0) := (blk_cell BK108.out 0).trans rfl; have hcz15_1 : w14.cell? ⟨gb108, 1, none⟩ = some (.int .i64 a0_1) := (blk_cell BK108.out 1).trans rfl; have hcz15_2 : w14.cell? ⟨gb108, 2, none⟩ = some (.int .i64 a0_2) := (blk_cell BK108.out 2).trans rfl; have hcz15_3 : w14.cell? ⟨gb108, 3, none⟩ = some (.int .i64 a0_3) := (blk_cell BK108.out 3).trans rfl; have hfz15_0 := blk_frozen BK108.out 0; have hfz15_1 := blk_frozen BK108.out 1; have hfz15_2 := blk_frozen BK108.out 2; have hfz15_3 := blk_frozen BK108.out 3) | ((with_reducible refine gate_callee (f := 36) rfl ?_); refine goesL_ (some 9) rfl rfl Tryz.func36 (by kernel_rfl) rfl #[.int .i64 a0_0, .int .i64 0, .int .i64 (wrap64 (a1 - 1))] rfl zC ?_; (with_reducible refine (spec_l1In.calls a0_0 0 (wrap64 (a1 - 1)) true _ A3.out).mono ?_); rintro e w' ⟨rfl, ⟨nd, rfl⟩⟩; refine ⟨_, rfl, ?_⟩) | (go_at_call 36; (with_reducible refine (spec_l1In.calls a0_1 (wrap64 (a0_0 + 1)) a1 false _ A5.out).mono ?_); rintro e w' ⟨rfl, ⟨nd, rfl⟩⟩)); go_ret; exact ⟨zG, zI HB.out GE108.out⟩
 ·
  replace c4 := Bool.eq_false_iff.mpr c4; subst c4; have H1 : (some false) = some r := by rw [if_neg (show ¬ (false = true) by decide)] at H; exact H
  clear H; have H := H1; clear H1; obtain rfl := Option.some.inj H; go_enter Tryz.func96, Tryz.ntmps96; go_wp2_with (first | ((with_reducible refine gate_dst (N := 2) rfl ?_); refine box_event ?hg (N := 2) ?hd (cs := #[.int .i64 a0_0, .int .i64 a0_1, .int .i64 a0_2, .int .i64 a0_3]) (t := 50) ?hr ?_; (case hd => rfl); (case hg => rfl); (case hr => first | (go_simp; done) | (go_simp; rfl)); intro gb108 hg w16 hbox hb; have n0_ := az (below_step (zA HB.out) hb); have n1_ := az (hbox); have n2_ := az ((by rw [hg]; exact (below_size (zA HB.out)) : w.heap.size ≤ gb108)); have n3_ := az ((by rw [hg]; exact (below_size (zA HB.out)) : w.heap.size ≤ gb108)); clear HB; have HB := n0_; have BK108 := n1_; have GW108 := n2_; have GE108 := n3_; clear n0_ n1_ n2_ n3_; clear hb hbox hg; have hcz17_0 : w16.cell? ⟨gb108, 0, none⟩ = some (.int .i64 a0_0) := (blk_cell BK108.out 0).trans rfl; have hcz17_1 : w16.cell? ⟨gb108, 1, none⟩ = some (.int .i64 a0_1) := (blk_cell BK108.out 1).trans rfl; have hcz17_2 : w16.cell? ⟨gb108, 2, none⟩ = some (.int .i64 a0_2) := (blk_cell BK108.out 2).trans rfl; have hcz17_3 : w16.cell? ⟨gb108, 3, none⟩ = some (.int .i64 a0_3) := (blk_cell BK108.out 3).trans rfl; have hfz17_0 := blk_frozen BK108.out 0; have hfz17_1 := blk_frozen BK108.out 1; have hfz17_2 := blk_frozen BK108.out 2; have hfz17_3 := blk_frozen BK108.out 3) | ((with_reducible refine gate_callee (f := 36) rfl ?_); refine goesL_ (some 9) rfl rfl Tryz.func36 (by kernel_rfl) rfl #[.int .i64 a0_0, .int .i64 0, .int .i64 (wrap64 (a1 - 1))] rfl zC ?_; (with_reducible refine (spec_l1In.calls a0_0 0 (wrap64 (a1 - 1)) false _ A3.out).mono ?_); rintro e w' ⟨rfl, ⟨nd, rfl⟩⟩; refine ⟨_, rfl, ?_⟩)); go_ret; exact ⟨zG, zI HB.out GE108.out⟩
abbrev q3M0 : Array Bool := #[false, false, false, false, false, false, false, false, false, false, false, false, false, false, false, false, false, false, false, false, false, false, false, false, false]
abbrev q3M1 : Array Bool := #[true, false, false, false, false, false, false, false, false, false, false, false, false, false, false, false, false, false, false, false, false, false, false, false, false]
abbrev q3M2 : Array Bool := #[true, true, false, false, false, false, false, false, false, false, false, false, false, false, false, false, false, false, false, false, false, false, false, false, false]
abbrev q3M3 : Array Bool := #[true, true, true, false, false, false, false, false, false, false, false, false, false, false, false, false, false, false, false, false, false, false, false, false, false]
abbrev q3M4 : Array Bool := #[true, true, true, false, true, false, false, false, false, false, false, false, false, false, false, false, false, false, false, false, false, false, false, false, false]
abbrev q3M5 : Array Bool := #[true, true, true, true, true, false, false, false, false, false, false, false, false, false, false, false, false, false, false, false, false, false, false, false, false]
abbrev q3M6 : Array Bool := #[true, true, true, true, true, true, false, false, false, false, false, false, false, false, false, false, false, false, false, false, false, false, false, false, false]
abbrev q3M7 : Array Bool := #[true, true, true, true, true, true, true, false, false, false, false, false, false, false, false, false, false, false, false, false, false, false, false, false, false]
abbrev q3M8 : Array Bool := #[true, true, true, true, true, true, true, true, false, false, false, false, false, false, false, false, false, false, false, false, false, false, false, false, false]
abbrev q3M9 : Array Bool := #[true, true, true, true, true, true, true, true, true, false, false, false, false, false, false, false, false, false, false, false, false, false, false, false, false]
abbrev q3M10 : Array Bool := #[true, true, true, true, true, true, true, true, true, true, false, false, false, false, false, false, false, false, false, false, false, false, false, false, false]
abbrev q3M11 : Array Bool := #[true, true, true, true, true, true, true, true, true, true, true, false, false, false, false, false, false, false, false, false, false, false, false, false, false]
abbrev q3M12 : Array Bool := #[true, true, true, true, true, true, true, true, true, true, true, true, false, false, false, false, false, false, false, false, false, false, false, false, false]
abbrev q3M13 : Array Bool := #[true, true, true, true, true, true, true, true, true, true, true, true, true, false, false, false, false, false, false, false, false, false, false, false, false]
abbrev q3M14 : Array Bool := #[true, true, true, true, true, true, true, true, true, true, true, true, true, true, false, false, false, false, false, false, false, false, false, false, false]
abbrev q3M15 : Array Bool := #[true, true, true, true, true, true, true, true, true, true, true, true, true, true, true, false, false, false, false, false, false, false, false, false, false]
abbrev q3M16 : Array Bool := #[true, true, true, true, true, true, true, true, true, true, true, true, true, true, true, true, false, false, false, false, false, false, false, false, false]
abbrev q3M17 : Array Bool := #[true, true, true, true, true, true, true, true, true, true, true, true, true, true, true, true, false, true, false, false, false, false, false, false, false]
abbrev q3M18 : Array Bool := #[true, true, true, true, true, true, true, true, true, true, true, true, true, true, true, true, false, true, true, false, false, false, false, false, false]
abbrev q3M19 : Array Bool := #[true, true, true, true, true, true, true, true, true, true, true, true, true, true, true, true, false, true, true, true, false, false, false, false, false]
abbrev q3M20 : Array Bool := #[true, true, true, true, true, true, true, true, true, true, true, true, true, true, true, true, false, true, true, true, true, false, false, false, false]
abbrev q3M21 : Array Bool := #[true, true, true, true, true, true, true, true, true, true, true, true, true, true, true, true, true, true, true, true, true, false, false, false, false]
abbrev q3M22 : Array Bool := #[true, true, true, true, true, true, true, true, true, true, true, true, true, true, true, true, true, true, true, true, true, true, false, false, false]
abbrev q3M23 : Array Bool := #[true, true, true, true, true, true, true, true, true, true, true, true, true, true, true, true, true, true, true, true, true, true, true, false, false]
abbrev q3M24 : Array Bool := #[true, true, true, true, true, true, true, true, true, true, true, true, true, true, true, true, true, true, true, true, true, true, true, true, false]
abbrev q3M25 : Array Bool := #[true, true, true, true, true, true, true, true, true, true, true, true, true, true, true, true, true, true, true, true, true, true, true, true, true]
abbrev q3M26 : Array Bool := #[true, true, true, true, true, true, true, true, true, true, true, true, true, true, true, true, true, false, false, false, false, false, false, false, false]
abbrev q3M27 : Array Bool := #[true, true, true, true, true, true, true, true, true, true, true, true, true, true, true, true, true, true, false, false, false, false, false, false, false]
abbrev q3M28 : Array Bool := #[true, true, true, true, true, true, true, true, true, true, true, true, true, true, true, true, true, true, true, false, false, false, false, false, false]
abbrev q3M29 : Array Bool := #[true, true, true, true, true, true, true, true, true, true, true, true, true, true, true, true, true, true, true, true, false, false, false, false, false]
theorem q3s {α : Type} (l : List α) (i : Nat) (a : α) : l.toArray.setIfInBounds i a = (l.set i a).toArray := List.setIfInBounds_toArray ..
theorem q3z {α : Type} (a : α) (l : List α) (b : α) : (a :: l).set 0 b = b :: l := List.set_cons_zero ..
theorem q3n {α : Type} (a : α) (l : List α) (i : Nat) (b : α) : (a :: l).set (i + 1) b = a :: l.set i b := List.set_cons_succ ..
def spec_SpansOk.l0 : Nat → List (S50) → Int → Int → Option (Bool)
 | 0, _, _, _ => none
 | k + 1, x0, x1, x5 => if x5 < (x0.length : Int) then (if 0 ≤ x5 then ((spec_l6Ok.f ((rd_T50 x0 x5).f0) ((rd_T50 x0 x5).f1) ((rd_T50 x0 x5).f2) ((rd_T50 x0 x5).f3) x1).bind fun t114 => (if t114 = true then (if x5 > 0 then (if 0 ≤ (wrap64 (x5 - 1)) then (if (wrap64 (x5 - 1)) < (x0.length : Int) then (if ((rd_T50 x0 (wrap64 (x5 - 1))).f1) > ((rd_T50 x0 x5).f0) then (some false) else (spec_SpansOk.l0 k x0 x1 (wrap64 (x5 + 1)))) else (none)) else (none)) else (spec_SpansOk.l0 k x0 x1 (wrap64 (x5 + 1)))) else (some false))) else (none)) else (if (x0.length : Int) ≤ 12 then ((spec_l1In.f x1 0 80).bind fun t117 => (some t117)) else (some false))
def spec_SpansOk.f (k : Nat) (l0 : List (S50)) (a1 : Int) : Option (Bool) := spec_SpansOk.l0 k l0 a1 0
theorem spec_SpansOk.mono_l : ∀ k, (∀ y0 y1 y2, LeO (spec_SpansOk.l0 k y0 y1 y2) (spec_SpansOk.l0 (k + 1) y0 y1 y2))
 | 0 => fun _ _ _ r h => by simp [spec_SpansOk.l0] at h
 | k + 1 => by
  have ih0 := spec_SpansOk.mono_l k
  ·
   intro y0 y1 y2; unfold spec_SpansOk.l0
   repeat' first
   | (with_reducible exact ih0 _ _ _)
   | (with_reducible exact LeO.refl _)
   | (with_reducible exact LeO.none _)
   | (with_reducible refine LeO.ite ?_ ?_)
   | (with_reducible refine LeO.bind ?_ (fun _ => ?_))
   | exact ih0 _ _ _
   | exact LeO.none _
   | refine LeO.ite ?_ ?_
   | refine LeO.bind ?_ (fun _ => ?_)
theorem spec_SpansOk.mono : ∀ a0 a1 k, LeO (spec_SpansOk.f k a0 a1) (spec_SpansOk.f (k + 1) a0 a1) := by
 intro a0 a1 k; have ih0 := spec_SpansOk.mono_l k; unfold spec_SpansOk.f
 repeat' first
   | (with_reducible exact ih0 _ _ _)
   | (with_reducible exact LeO.refl _)
   | (with_reducible exact LeO.none _)
   | (with_reducible refine LeO.ite ?_ ?_)
   | (with_reducible refine LeO.bind ?_ (fun _ => ?_))
   | exact ih0 _ _ _
   | exact LeO.none _
   | refine LeO.ite ?_ ?_
   | refine LeO.bind ?_ (fun _ => ?_)
def spec_SpansOk.T4 : Bool × List (List Nat × List Nat) := (true, [([], []), ([], []), ([0, 1], [0, 1]), ([2], [2]), ([], []), ([3, 4], [3, 4]), ([5], [5]), ([6, 5], [6]), ([7], [7]), ([8, 7], [7, 8]), ([9, 7, 7], [7, 9]), ([10], [10]), ([10], [10]), ([12, 10], [10, 12]), ([11, 13, 10], [10, 11, 13]), ([14, 10], [10, 14]), ([15, 10], [10, 15]), ([10], [10]), ([10], [10]), ([17, 18, 10], [10, 17, 18]), ([19, 10], [10, 19]), ([20, 10], [10, 20]), ([16, 21, 10], [10, 16, 21]), ([10, 22, 7], [7, 10, 22]), ([7, 23], [7, 23])])
def spec_SpansOk.B4 : List Nat := [0, 0, 3, 7, 0, 31, 63, 127, 255, 511, 1023, 2047, 2047, 6143, 16383, 32767, 65535, 2047, 2047, 395263, 919551, 1968127, 4194303, 8388607, 16777215]
theorem spec_SpansOk.tab4 : rtab .any (opsOf Tryz.f69 4) = spec_SpansOk.T4 := by kernel_rfl
theorem spec_SpansOk.bits4 : waitsOk spec_SpansOk.T4.2 spec_SpansOk.B4 = true := by kernel_rfl
theorem spec_SpansOk.calls (k : Nat) (A0 : Option Addr) (c0 : Nat) (l0 : List (S50)) (a1 : Int) (r : Bool) (w : World) (hr0 : Kd.C k50 w A0 l0.length l0) (hc0 : l0.length ≤ c0) (h : spec_SpansOk.f k l0 a1 = some r) :
  Calls Tryz.prog 69 #[.slice A0 l0.length c0, .int .i64 a1] w fun e w' => e = .returned (.bool r) ∧ Below w.heap.size w w' := by
 have hu50 := Tryz.underlying50; have HR0 := az hr0; have HC0 := az hc0; clear hr0 hc0; have HB := az (Below.refl w.heap.size w); have H : (spec_SpansOk.l0 k l0 a1 0) = some r := h; clear h; have H' := az H; clear H; go_enter Tryz.func69, Tryz.ntmps69; go_wp2; go_loopg [5] k (fun kq v5 w' => ∃ (x5_1 : Int), v5 = .int .i64 x5_1 ∧ Aside0 (spec_SpansOk.l0 kq l0 a1 x5_1 = some r) ∧ Aside0 (kq ≤ k) ∧ Aside0 (Below w.heap.size w w'))
 case atStart => exact ⟨(0), zB, H', ⟨Nat.le_refl _⟩, ⟨zA HB.out⟩⟩
 case round =>
  clear H'; (try clear p2); obtain ⟨x5_1, rfl, HA, HK1, HB⟩ := hrel
  cases gk with
  | zero => exact absurd HA.out (by simp [spec_SpansOk.l0])
  | succ k1 =>
   have H := HA.out; clear HA; simp only [spec_SpansOk.l0] at H; by_cases c3 : x5_1 < (l0.length : Int)
   ·
    rw [if_pos c3] at H; have c3b0 : decide (x5_1 < (l0.length : Int)) = true := decide_eq_true c3; clear c3; by_cases c4 : 0 ≤ x5_1
    ·
     rw [if_pos c4] at H; have c4b0 : decide (0 ≤ x5_1) = true := decide_eq_true c4; clear c4; replace H := Option.bind_eq_some_iff.mp H; obtain ⟨t114, A50, H⟩ := H; replace H : (if t114 = true then (if x5_1 > 0 then (if 0 ≤ (wrap64 (x5_1 - 1)) then (if (wrap64 (x5_1 - 1)) < (l0.length : Int) then (if ((rd_T50 l0 (wrap64 (x5_1 - 1))).f1) > ((rd_T50 l0 x5_1).f0) then (some false) else (spec_SpansOk.l0 k1 l0 a1 (wrap64 (x5_1 + 1)))) else (none)) else (none)) else (spec_SpansOk.l0 k1 l0 a1 (wrap64 (x5_1 + 1)))) else (some false)) = some r := H; have A5 := az A50; clear A50; by_cases c6 : t114 = true
     ·
      subst c6; have H1 : (if x5_1 > 0 then (if 0 ≤ (wrap64 (x5_1 - 1)) then (if (wrap64 (x5_1 - 1)) < (l0.length : Int) then (if ((rd_T50 l0 (wrap64 (x5_1 - 1))).f1) > ((rd_T50 l0 x5_1).f0) then (some false) else (spec_SpansOk.l0 k1 l0 a1 (wrap64 (x5_1 + 1)))) else (none)) else (none)) else (spec_SpansOk.l0 k1 l0 a1 (wrap64 (x5_1 + 1)))) = some r := by rw [if_pos rfl] at H; exact H
      clear H; have H := H1; clear H1; by_cases c7 : x5_1 > 0
      ·
       rw [if_pos c7] at H; have c7b0 : decide (0 < x5_1) = true := decide_eq_true c7; clear c7; obtain ⟨ji8, hji8⟩ : ∃ j_ : Int, (wrap64 (x5_1 - 1)) = j_ := ⟨_, rfl⟩; replace H : (if 0 ≤ (ji8) then (if (ji8) < (l0.length : Int) then (if ((rd_T50 l0 (ji8)).f1) > ((rd_T50 l0 x5_1).f0) then (some false) else (spec_SpansOk.l0 k1 l0 a1 (wrap64 (x5_1 + 1)))) else (none)) else (none)) = some r := by first | (rw [hji8] at H; exact H) | (simp only [hji8] at H ⊢; exact H)
       (try rw [hji8] at A5); have hji8w : (IntKind.i64.wrap (x5_1 - 1)) = ji8 := (i64_w _).trans hji8; by_cases c9 : 0 ≤ (ji8)
       ·
        rw [if_pos c9] at H; have c9b0 : decide (0 ≤ (ji8)) = true := decide_eq_true c9; clear c9; by_cases c10 : (ji8) < (l0.length : Int)
        ·
         rw [if_pos c10] at H; have c10b0 : decide ((ji8) < (l0.length : Int)) = true := decide_eq_true c10; clear c10; by_cases c11 : ((rd_T50 l0 (ji8)).f1) > ((rd_T50 l0 x5_1).f0)
         ·
          rw [if_pos c11] at H; have c11b0 : decide (((rd_T50 l0 x5_1).f0) < ((rd_T50 l0 (ji8)).f1)) = true := decide_eq_true c11; clear c11; obtain rfl := Option.some.inj H; (try go_wp2); have n0_ := az (below_drew1 HB.out); clear HB; have HB := n0_; clear n0_; have p113 : 0 ≤ (x5_1 : Int) := of_decide_eq_true (by assumption); have q113 : x5_1 < (l0.length : Int) := of_decide_eq_true (by assumption); obtain ⟨ad113, e113, hx113_0, hx113_1, hx113_2, hx113_3⟩ := at_T50 HR0.out x5_1 p113 q113; have hw113_3 := hx113_3; have hw113_2 := hx113_2; have hw113_1 := hx113_1; have hw113_0 := hx113_0
          cases e113
          replace hx113_0 := (HB.out.cell (World.block_lt_of_cell? w _ hx113_0)).trans hx113_0; replace hx113_1 := (HB.out.cell (World.block_lt_of_cell? w _ hx113_1)).trans hx113_1; replace hx113_2 := (HB.out.cell (World.block_lt_of_cell? w _ hx113_2)).trans hx113_2; replace hx113_3 := (HB.out.cell (World.block_lt_of_cell? w _ hx113_3)).trans hx113_3; replace p113 := eq_true p113; replace q113 := eq_true q113; have p115 : 0 ≤ ((ji8) : Int) := of_decide_eq_true (by assumption); have q115 : (ji8) < (l0.length : Int) := of_decide_eq_true (by assumption); obtain ⟨ad115, e115, hx115_0, hx115_1, hx115_2, hx115_3⟩ := at_T50 HR0.out (ji8) p115 q115; have hw115_3 := hx115_3; have hw115_2 := hx115_2; have hw115_1 := hx115_1; have hw115_0 := hx115_0; obtain rfl : ad113 = ad115 := (by injection e115); replace hx115_0 := (HB.out.cell (World.block_lt_of_cell? w _ hx115_0)).trans hx115_0; replace hx115_1 := (HB.out.cell (World.block_lt_of_cell? w _ hx115_1)).trans hx115_1; replace hx115_2 := (HB.out.cell (World.block_lt_of_cell? w _ hx115_2)).trans hx115_2; replace hx115_3 := (HB.out.cell (World.block_lt_of_cell? w _ hx115_3)).trans hx115_3; replace p115 := eq_true p115; replace q115 := eq_true q115; have p116 : 0 ≤ (x5_1 : Int) := of_decide_eq_true (by assumption); have q116 : x5_1 < (l0.length : Int) := of_decide_eq_true (by assumption); obtain ⟨ad116, e116, hx116_0, hx116_1, hx116_2, hx116_3⟩ := at_T50 HR0.out x5_1 p116 q116; have hw116_3 := hx116_3; have hw116_2 := hx116_2; have hw116_1 := hx116_1; have hw116_0 := hx116_0; obtain rfl : ad113 = ad116 := (by injection e116); replace hx116_0 := (HB.out.cell (World.block_lt_of_cell? w _ hx116_0)).trans hx116_0; replace hx116_1 := (HB.out.cell (World.block_lt_of_cell? w _ hx116_1)).trans hx116_1; replace hx116_2 := (HB.out.cell (World.block_lt_of_cell? w _ hx116_2)).trans hx116_2; replace hx116_3 := (HB.out.cell (World.block_lt_of_cell? w _ hx116_3)).trans hx116_3; replace p116 := eq_true p116; replace q116 := eq_true q116; refine start_ (n := 25) (S := fun w' => w'.cell? (ad113.add ((x5_1).toNat * 4)) = some (.int .i64 ((rd_T50 l0 x5_1).f0)) ∧ w'.cell? ⟨(ad113.add ((x5_1).toNat * 4)).block, (ad113.add ((x5_1).toNat * 4)).off + 1, none⟩ = some (.int .i64 ((rd_T50 l0 x5_1).f1)) ∧ w'.cell? ⟨(ad113.add ((x5_1).toNat * 4)).block, (ad113.add ((x5_1).toNat * 4)).off + 2, none⟩ = some (.int .i64 ((rd_T50 l0 x5_1).f2)) ∧ w'.cell? ⟨(ad113.add ((x5_1).toNat * 4)).block, (ad113.add ((x5_1).toNat * 4)).off + 3, none⟩ = some (.int .i64 ((rd_T50 l0 x5_1).f3)) ∧ w'.cell? (ad113.add (((ji8)).toNat * 4)) = some (.int .i64 ((rd_T50 l0 (ji8)).f0)) ∧ w'.cell? ⟨(ad113.add (((ji8)).toNat * 4)).block, (ad113.add (((ji8)).toNat * 4)).off + 1, none⟩ = some (.int .i64 ((rd_T50 l0 (ji8)).f1)) ∧ w'.cell? ⟨(ad113.add (((ji8)).toNat * 4)).block, (ad113.add (((ji8)).toNat * 4)).off + 2, none⟩ = some (.int .i64 ((rd_T50 l0 (ji8)).f2)) ∧ w'.cell? ⟨(ad113.add (((ji8)).toNat * 4)).block, (ad113.add (((ji8)).toNat * 4)).off + 3, none⟩ = some (.int .i64 ((rd_T50 l0 (ji8)).f3)) ∧ w'.cell? (ad113.add ((x5_1).toNat * 4)) = some (.int .i64 ((rd_T50 l0 x5_1).f0)) ∧ w'.cell? ⟨(ad113.add ((x5_1).toNat * 4)).block, (ad113.add ((x5_1).toNat * 4)).off + 1, none⟩ = some (.int .i64 ((rd_T50 l0 x5_1).f1)) ∧ w'.cell? ⟨(ad113.add ((x5_1).toNat * 4)).block, (ad113.add ((x5_1).toNat * 4)).off + 2, none⟩ = some (.int .i64 ((rd_T50 l0 x5_1).f2)) ∧ w'.cell? ⟨(ad113.add ((x5_1).toNat * 4)).block, (ad113.add ((x5_1).toNat * 4)).off + 3, none⟩ = some (.int .i64 ((rd_T50 l0 x5_1).f3))) (ds := []) q3M0 (by kernel_rfl) rfl rfl ⟨((HB.out.cell (World.block_lt_of_cell? w _ hw113_0)).trans hw113_0), ((HB.out.cell (World.block_lt_of_cell? w _ hw113_1)).trans hw113_1), ((HB.out.cell (World.block_lt_of_cell? w _ hw113_2)).trans hw113_2), ((HB.out.cell (World.block_lt_of_cell? w _ hw113_3)).trans hw113_3), ((HB.out.cell (World.block_lt_of_cell? w _ hw115_0)).trans hw115_0), ((HB.out.cell (World.block_lt_of_cell? w _ hw115_1)).trans hw115_1), ((HB.out.cell (World.block_lt_of_cell? w _ hw115_2)).trans hw115_2), ((HB.out.cell (World.block_lt_of_cell? w _ hw115_3)).trans hw115_3), ((HB.out.cell (World.block_lt_of_cell? w _ hw116_0)).trans hw116_0), ((HB.out.cell (World.block_lt_of_cell? w _ hw116_1)).trans hw116_1), ((HB.out.cell (World.block_lt_of_cell? w _ hw116_2)).trans hw116_2), ((HB.out.cell (World.block_lt_of_cell? w _ hw116_3)).trans hw116_3)⟩ (fun hHeld => ?_); refine with_tabW spec_SpansOk.tab4 spec_SpansOk.bits4 (fun HT_ HW_ => ?_)
          generalize wr.drew = w12 at HB hx113_0 hx113_1 hx113_2 hx113_3 hx115_0 hx115_1 hx115_2 hx115_3 hx116_0 hx116_1 hx116_2 hx116_3 hHeld ⊢; refine pure_ (i := 0) (N := some 12) (v := ?_) (a' := ?_) q3M1 rfl rfl (any_of HT_.out (by kernel_rfl)) (fun _ _ _ => id) (Or.inl ⟨by rfl, ?_⟩) ?_ ?_; rotate_left; intro w'; go_simp; (with_reducible rfl); rotate_left; simp only [Act.put, q3s, q3z, q3n, i64_w, i32_w]; rfl; refine pure_ (i := 1) (N := some 13) (v := ?_) (a' := ?_) q3M2 rfl rfl (any_of HT_.out (by kernel_rfl)) (fun _ _ _ => id) (Or.inl ⟨by rfl, ?_⟩) ?_ ?_; rotate_left; intro w'; go_simp; (with_reducible rfl); rotate_left; simp only [Act.put, q3s, q3z, q3n, i64_w, i32_w]; rfl; refine pure_ (i := 2) (N := some 14) (v := ?_) (a' := ?_) q3M3 rfl rfl (any_of HT_.out (by kernel_rfl)) (fun _ _ _ => id) (Or.inl ⟨by rfl, ?_⟩) ?_ ?_; rotate_left; intro w'; go_simp; (with_reducible rfl); rotate_left; simp only [Act.put, q3s, q3z, q3n, i64_w, i32_w]; rfl; refine pure_ (i := 4) (N := some 16) (v := ?_) (a' := ?_) q3M4 rfl rfl (any_of HT_.out (by kernel_rfl)) (fun _ _ _ => id) (Or.inl ⟨by rfl, ?_⟩) ?_ ?_; rotate_left; intro w'; go_simp; (with_reducible rfl); rotate_left; simp only [Act.put, q3s, q3z, q3n, i64_w, i32_w]; rfl; refine take_ (i := 3) (N := some 15) (v := ?_) (a' := ?_) q3M5 rfl rfl (take_ofW HT_.out HW_.out (by kernel_rfl)) (fun _ _ _ => id) (Or.inl ⟨by rfl, ?_⟩) hHeld ?_ ?_; rotate_left
          ·
           rintro w' ⟨s0, s1, s2, s3, s4, s5, s6, s7, s8, s9, s10, s11⟩; go_simp; with_reducible rfl
          rotate_left
          · simp only [Act.put, q3s, q3z, q3n, i64_w, i32_w]; rfl
          refine one_ (i := 5) (N := some 17) q3M6 rfl rfl (one_of HT_.out (by kernel_rfl)) (by decide) (fun K hK => ?_); refine goes_ Tryz.func96 (by kernel_rfl) rfl #[.agg #[.int .i64 ((rd_T50 l0 x5_1).f0), .int .i64 ((rd_T50 l0 x5_1).f1), .int .i64 ((rd_T50 l0 x5_1).f2), .int .i64 ((rd_T50 l0 x5_1).f3)], .int .i64 a1] (by rfl) rfl rfl zC ?_; with_reducible refine (spec_l6Ok.calls ((rd_T50 l0 x5_1).f0) ((rd_T50 l0 x5_1).f1) ((rd_T50 l0 x5_1).f2) ((rd_T50 l0 x5_1).f3) a1 true _ A5.out).mono ?_
          rintro e w13 ⟨rfl, hb⟩; refine ⟨_, rfl, ?_⟩; have n0_ := az (below_step (zA HB.out) hb); clear HB; have HB := n0_; clear n0_; (try clear hb); (try clear hb2); (try clear hk); (try clear hi); refine hK.out _ _ ⟨((HB.out.cell (World.block_lt_of_cell? w _ hw113_0)).trans hw113_0), ((HB.out.cell (World.block_lt_of_cell? w _ hw113_1)).trans hw113_1), ((HB.out.cell (World.block_lt_of_cell? w _ hw113_2)).trans hw113_2), ((HB.out.cell (World.block_lt_of_cell? w _ hw113_3)).trans hw113_3), ((HB.out.cell (World.block_lt_of_cell? w _ hw115_0)).trans hw115_0), ((HB.out.cell (World.block_lt_of_cell? w _ hw115_1)).trans hw115_1), ((HB.out.cell (World.block_lt_of_cell? w _ hw115_2)).trans hw115_2), ((HB.out.cell (World.block_lt_of_cell? w _ hw115_3)).trans hw115_3), ((HB.out.cell (World.block_lt_of_cell? w _ hw116_0)).trans hw116_0), ((HB.out.cell (World.block_lt_of_cell? w _ hw116_1)).trans hw116_1), ((HB.out.cell (World.block_lt_of_cell? w _ hw116_2)).trans hw116_2), ((HB.out.cell (World.block_lt_of_cell? w _ hw116_3)).trans hw116_3)⟩ (fun hHeld => ?_); clear hK K; refine norm_ (a' := ?_) ?_ ?_; rotate_left
          ·
           show Act.put _ (some 17) _ = _; simp only [Act.put, q3s, q3z, q3n, i64_w, i32_w]; rfl
          refine pure_ (i := 6) (N := some 18) (v := ?_) (a' := ?_) q3M7 rfl rfl (any_of HT_.out (by kernel_rfl)) (fun _ _ _ => id) (Or.inl ⟨by rfl, ?_⟩) ?_ ?_; rotate_left; intro w'; go_simp; (with_reducible rfl); rotate_left; simp only [Act.put, q3s, q3z, q3n, i64_w, i32_w]; rfl; refine pure_ (i := 7) (N := some 19) (v := ?_) (a' := ?_) q3M8 rfl rfl (any_of HT_.out (by kernel_rfl)) (fun _ _ _ => id) (Or.inl ⟨by rfl, ?_⟩) ?_ ?_; rotate_left; intro w'; go_simp; (with_reducible rfl); rotate_left; simp only [Act.put, q3s, q3z, q3n, i64_w, i32_w]; rfl; refine pure_ (i := 8) (N := some 20) (v := ?_) (a' := ?_) q3M9 rfl rfl (any_of HT_.out (by kernel_rfl)) (fun _ _ _ => id) (Or.inl ⟨by rfl, ?_⟩) ?_ ?_; rotate_left; intro w'; go_simp; (with_reducible rfl); rotate_left; simp only [Act.put, q3s, q3z, q3n, i64_w, i32_w]; rfl; refine pure_ (i := 9) (N := some 21) (v := ?_) (a' := ?_) q3M10 rfl rfl (any_of HT_.out (by kernel_rfl)) (fun _ _ _ => id) (Or.inl ⟨by rfl, ?_⟩) ?_ ?_; rotate_left; intro w'; go_simp; (with_reducible rfl); rotate_left; simp only [Act.put, q3s, q3z, q3n, i64_w, i32_w]; rfl; refine pure_ (i := 10) (N := some 22) (v := ?_) (a' := ?_) q3M11 rfl rfl (any_of HT_.out (by kernel_rfl)) (fun _ _ _ => id) (Or.inl ⟨by rfl, ?_⟩) ?_ ?_; rotate_left; intro w'; go_simp; (with_reducible rfl); rotate_left; simp only [Act.put, q3s, q3z, q3n, i64_w, i32_w]; rfl; refine pure_ (i := 11) (N := some 23) (v := ?_) (a' := ?_) q3M12 rfl rfl (any_of HT_.out (by kernel_rfl)) (fun _ _ _ => id) (Or.inl ⟨by rfl, ?_⟩) ?_ ?_; rotate_left; intro w'; go_simp; (with_reducible rfl); rotate_left; simp only [Act.put, q3s, q3z, q3n, i64_w, i32_w]; rfl; refine pure_ (i := 12) (N := some 24) (v := ?_) (a' := ?_) q3M13 rfl rfl (any_of HT_.out (by kernel_rfl)) (fun _ _ _ => id) (Or.inl ⟨by rfl, ?_⟩) ?_ ?_; rotate_left; intro w'; go_simp; (with_reducible rfl); rotate_left; simp only [Act.put, q3s, q3z, q3n, i64_w, i32_w]; rfl; refine pure_ (i := 13) (N := some 25) (v := ?_) (a' := ?_) q3M14 rfl rfl (any_of HT_.out (by kernel_rfl)) (fun _ _ _ => id) (Or.inl ⟨by rfl, ?_⟩) ?_ ?_; rotate_left; intro w'; go_simp; (with_reducible rfl); rotate_left; simp only [Act.put, q3s, q3z, q3n, i64_w, i32_w]; rfl; refine pure_ (i := 14) (N := some 26) (v := ?_) (a' := ?_) q3M15 rfl rfl (any_of HT_.out (by kernel_rfl)) (fun _ _ _ => id) (Or.inl ⟨by rfl, ?_⟩) ?_ ?_; rotate_left; intro w'; go_simp; (with_reducible rfl); rotate_left; simp only [Act.put, q3s, q3z, q3n, i64_w, i32_w]; rfl; refine pure_ (i := 15) (N := some 27) (v := ?_) (a' := ?_) q3M16 rfl rfl (any_of HT_.out (by kernel_rfl)) (fun _ _ _ => id) (Or.inl ⟨by rfl, ?_⟩) ?_ ?_; rotate_left; intro w'; go_simp; (with_reducible rfl); rotate_left; simp only [Act.put, q3s, q3z, q3n, i64_w, i32_w]; rfl; refine pure_ (i := 17) (N := some 29) (v := ?_) (a' := ?_) q3M17 rfl rfl (any_of HT_.out (by kernel_rfl)) (fun _ _ _ => id) (Or.inl ⟨by rfl, ?_⟩) ?_ ?_; rotate_left; intro w'; go_simp; (with_reducible rfl); rotate_left; simp only [Act.put, q3s, q3z, q3n, i64_w, i32_w]; rfl; refine pure_ (i := 18) (N := some 30) (v := ?_) (a' := ?_) q3M18 rfl rfl (any_of HT_.out (by kernel_rfl)) (fun _ _ _ => id) (Or.inl ⟨by rfl, ?_⟩) ?_ ?_; rotate_left; intro w'; go_simp; (with_reducible rfl); rotate_left; simp only [Act.put, q3s, q3z, q3n, i64_w, i32_w]; rfl; refine pure_ (i := 19) (N := some 31) (v := ?_) (a' := ?_) q3M19 rfl rfl (any_of HT_.out (by kernel_rfl)) (fun _ _ _ => id) (Or.inl ⟨by rfl, ?_⟩) ?_ ?_; rotate_left; intro w'; go_simp; (with_reducible rfl); rotate_left; simp only [Act.put, q3s, q3z, q3n, i64_w, i32_w]; rfl; refine pure_ (i := 20) (N := some 32) (v := ?_) (a' := ?_) q3M20 rfl rfl (any_of HT_.out (by kernel_rfl)) (fun _ _ _ => id) (Or.inl ⟨by rfl, ?_⟩) ?_ ?_; rotate_left; intro w'; go_simp; (with_reducible rfl); rotate_left; simp only [Act.put, q3s, q3z, q3n, i64_w, i32_w]; rfl; refine take_ (i := 16) (N := some 28) (v := ?_) (a' := ?_) q3M21 rfl rfl (take_ofW HT_.out HW_.out (by kernel_rfl)) (fun _ _ _ => id) (Or.inl ⟨by rfl, ?_⟩) hHeld ?_ ?_
          rotate_left
          ·
           rintro w' ⟨s0, s1, s2, s3, s4, s5, s6, s7, s8, s9, s10, s11⟩; go_simp; with_reducible rfl
          rotate_left
          · simp only [Act.put, q3s, q3z, q3n, i64_w, i32_w]; rfl
          refine take_ (i := 21) (N := some 33) (v := ?_) (a' := ?_) q3M22 rfl rfl (take_ofW HT_.out HW_.out (by kernel_rfl)) (fun _ _ _ => id) (Or.inl ⟨by rfl, ?_⟩) hHeld ?_ ?_; rotate_left
          ·
           rintro w' ⟨s0, s1, s2, s3, s4, s5, s6, s7, s8, s9, s10, s11⟩; go_simp; with_reducible rfl
          rotate_left
          · simp only [Act.put, q3s, q3z, q3n, i64_w, i32_w]; rfl
          refine pure_ (i := 22) (N := some 34) (v := ?_) (a' := ?_) q3M23 rfl rfl (any_of HT_.out (by kernel_rfl)) (fun _ _ _ => id) (Or.inl ⟨by rfl, ?_⟩) ?_ ?_; rotate_left; intro w'; go_simp; (with_reducible rfl); rotate_left; simp only [Act.put, q3s, q3z, q3n, i64_w, i32_w]; rfl; refine pure_ (i := 23) (N := some 35) (v := ?_) (a' := ?_) q3M24 rfl rfl (any_of HT_.out (by kernel_rfl)) (fun _ _ _ => id) (Or.inl ⟨by rfl, ?_⟩) ?_ ?_; rotate_left; intro w'; go_simp; (with_reducible rfl); rotate_left; simp only [Act.put, q3s, q3z, q3n, i64_w, i32_w]; rfl; refine pure_ (i := 24) (N := some 36) (v := ?_) (a' := ?_) q3M25 rfl rfl (any_of HT_.out (by kernel_rfl)) (fun _ _ _ => id) (Or.inl ⟨by rfl, ?_⟩) ?_ ?_; rotate_left; intro w'; go_simp; (with_reducible rfl); rotate_left; simp only [Act.put, q3s, q3z, q3n, i64_w, i32_w]; rfl; refine done_ (done_of HT_.out (by kernel_rfl)) ?_; (try go_wp2); go_ret; exact ⟨by first | rfl | (simp [errW_none, errW_some] <;> rfl) | (simp only [← hji8]; first | rfl | (simp [errW_none, errW_some] <;> rfl)) | (simp [*, errW_none, errW_some] <;> rfl), zA HB.out⟩
         ·
          rw [if_neg c11] at H; have c11b0 : decide (((rd_T50 l0 x5_1).f0) < ((rd_T50 l0 (ji8)).f1)) = false := decide_eq_false c11; clear c11; have H' := az H; clear H; (try go_wp2); have n0_ := az (below_drew1 HB.out); clear HB; have HB := n0_; clear n0_; have p113 : 0 ≤ (x5_1 : Int) := of_decide_eq_true (by assumption); have q113 : x5_1 < (l0.length : Int) := of_decide_eq_true (by assumption); obtain ⟨ad113, e113, hx113_0, hx113_1, hx113_2, hx113_3⟩ := at_T50 HR0.out x5_1 p113 q113; have hw113_3 := hx113_3; have hw113_2 := hx113_2; have hw113_1 := hx113_1; have hw113_0 := hx113_0
          cases e113
          replace hx113_0 := (HB.out.cell (World.block_lt_of_cell? w _ hx113_0)).trans hx113_0; replace hx113_1 := (HB.out.cell (World.block_lt_of_cell? w _ hx113_1)).trans hx113_1; replace hx113_2 := (HB.out.cell (World.block_lt_of_cell? w _ hx113_2)).trans hx113_2; replace hx113_3 := (HB.out.cell (World.block_lt_of_cell? w _ hx113_3)).trans hx113_3; replace p113 := eq_true p113; replace q113 := eq_true q113; have p115 : 0 ≤ ((ji8) : Int) := of_decide_eq_true (by assumption); have q115 : (ji8) < (l0.length : Int) := of_decide_eq_true (by assumption); obtain ⟨ad115, e115, hx115_0, hx115_1, hx115_2, hx115_3⟩ := at_T50 HR0.out (ji8) p115 q115; have hw115_3 := hx115_3; have hw115_2 := hx115_2; have hw115_1 := hx115_1; have hw115_0 := hx115_0; obtain rfl : ad113 = ad115 := (by injection e115); replace hx115_0 := (HB.out.cell (World.block_lt_of_cell? w _ hx115_0)).trans hx115_0; replace hx115_1 := (HB.out.cell (World.block_lt_of_cell? w _ hx115_1)).trans hx115_1; replace hx115_2 := (HB.out.cell (World.block_lt_of_cell? w _ hx115_2)).trans hx115_2; replace hx115_3 := (HB.out.cell (World.block_lt_of_cell? w _ hx115_3)).trans hx115_3; replace p115 := eq_true p115; replace q115 := eq_true q115; have p116 : 0 ≤ (x5_1 : Int) := of_decide_eq_true (by assumption); have q116 : x5_1 < (l0.length : Int) := of_decide_eq_true (by assumption); obtain ⟨ad116, e116, hx116_0, hx116_1, hx116_2, hx116_3⟩ := at_T50 HR0.out x5_1 p116 q116; have hw116_3 := hx116_3; have hw116_2 := hx116_2; have hw116_1 := hx116_1; have hw116_0 := hx116_0; obtain rfl : ad113 = ad116 := (by injection e116); replace hx116_0 := (HB.out.cell (World.block_lt_of_cell? w _ hx116_0)).trans hx116_0; replace hx116_1 := (HB.out.cell (World.block_lt_of_cell? w _ hx116_1)).trans hx116_1; replace hx116_2 := (HB.out.cell (World.block_lt_of_cell? w _ hx116_2)).trans hx116_2; replace hx116_3 := (HB.out.cell (World.block_lt_of_cell? w _ hx116_3)).trans hx116_3; replace p116 := eq_true p116; replace q116 := eq_true q116; refine start_ (n := 25) (S := fun w' => w'.cell? (ad113.add ((x5_1).toNat * 4)) = some (.int .i64 ((rd_T50 l0 x5_1).f0)) ∧ w'.cell? ⟨(ad113.add ((x5_1).toNat * 4)).block, (ad113.add ((x5_1).toNat * 4)).off + 1, none⟩ = some (.int .i64 ((rd_T50 l0 x5_1).f1)) ∧ w'.cell? ⟨(ad113.add ((x5_1).toNat * 4)).block, (ad113.add ((x5_1).toNat * 4)).off + 2, none⟩ = some (.int .i64 ((rd_T50 l0 x5_1).f2)) ∧ w'.cell? ⟨(ad113.add ((x5_1).toNat * 4)).block, (ad113.add ((x5_1).toNat * 4)).off + 3, none⟩ = some (.int .i64 ((rd_T50 l0 x5_1).f3)) ∧ w'.cell? (ad113.add (((ji8)).toNat * 4)) = some (.int .i64 ((rd_T50 l0 (ji8)).f0)) ∧ w'.cell? ⟨(ad113.add (((ji8)).toNat * 4)).block, (ad113.add (((ji8)).toNat * 4)).off + 1, none⟩ = some (.int .i64 ((rd_T50 l0 (ji8)).f1)) ∧ w'.cell? ⟨(ad113.add (((ji8)).toNat * 4)).block, (ad113.add (((ji8)).toNat * 4)).off + 2, none⟩ = some (.int .i64 ((rd_T50 l0 (ji8)).f2)) ∧ w'.cell? ⟨(ad113.add (((ji8)).toNat * 4)).block, (ad113.add (((ji8)).toNat * 4)).off + 3, none⟩ = some (.int .i64 ((rd_T50 l0 (ji8)).f3)) ∧ w'.cell? (ad113.add ((x5_1).toNat * 4)) = some (.int .i64 ((rd_T50 l0 x5_1).f0)) ∧ w'.cell? ⟨(ad113.add ((x5_1).toNat * 4)).block, (ad113.add ((x5_1).toNat * 4)).off + 1, none⟩ = some (.int .i64 ((rd_T50 l0 x5_1).f1)) ∧ w'.cell? ⟨(ad113.add ((x5_1).toNat * 4)).block, (ad113.add ((x5_1).toNat * 4)).off + 2, none⟩ = some (.int .i64 ((rd_T50 l0 x5_1).f2)) ∧ w'.cell? ⟨(ad113.add ((x5_1).toNat * 4)).block, (ad113.add ((x5_1).toNat * 4)).off + 3, none⟩ = some (.int .i64 ((rd_T50 l0 x5_1).f3))) (ds := []) q3M0 (by kernel_rfl) rfl rfl ⟨((HB.out.cell (World.block_lt_of_cell? w _ hw113_0)).trans hw113_0), ((HB.out.cell (World.block_lt_of_cell? w _ hw113_1)).trans hw113_1), ((HB.out.cell (World.block_lt_of_cell? w _ hw113_2)).trans hw113_2), ((HB.out.cell (World.block_lt_of_cell? w _ hw113_3)).trans hw113_3), ((HB.out.cell (World.block_lt_of_cell? w _ hw115_0)).trans hw115_0), ((HB.out.cell (World.block_lt_of_cell? w _ hw115_1)).trans hw115_1), ((HB.out.cell (World.block_lt_of_cell? w _ hw115_2)).trans hw115_2), ((HB.out.cell (World.block_lt_of_cell? w _ hw115_3)).trans hw115_3), ((HB.out.cell (World.block_lt_of_cell? w _ hw116_0)).trans hw116_0), ((HB.out.cell (World.block_lt_of_cell? w _ hw116_1)).trans hw116_1), ((HB.out.cell (World.block_lt_of_cell? w _ hw116_2)).trans hw116_2), ((HB.out.cell (World.block_lt_of_cell? w _ hw116_3)).trans hw116_3)⟩ (fun hHeld => ?_); refine with_tabW spec_SpansOk.tab4 spec_SpansOk.bits4 (fun HT_ HW_ => ?_)
          generalize wr.drew = w14 at HB hx113_0 hx113_1 hx113_2 hx113_3 hx115_0 hx115_1 hx115_2 hx115_3 hx116_0 hx116_1 hx116_2 hx116_3 hHeld ⊢; refine pure_ (i := 0) (N := some 12) (v := ?_) (a' := ?_) q3M1 rfl rfl (any_of HT_.out (by kernel_rfl)) (fun _ _ _ => id) (Or.inl ⟨by rfl, ?_⟩) ?_ ?_; rotate_left; intro w'; go_simp; (with_reducible rfl); rotate_left; simp only [Act.put, q3s, q3z, q3n, i64_w, i32_w]; rfl; refine pure_ (i := 1) (N := some 13) (v := ?_) (a' := ?_) q3M2 rfl rfl (any_of HT_.out (by kernel_rfl)) (fun _ _ _ => id) (Or.inl ⟨by rfl, ?_⟩) ?_ ?_; rotate_left; intro w'; go_simp; (with_reducible rfl); rotate_left; simp only [Act.put, q3s, q3z, q3n, i64_w, i32_w]; rfl; refine pure_ (i := 2) (N := some 14) (v := ?_) (a' := ?_) q3M3 rfl rfl (any_of HT_.out (by kernel_rfl)) (fun _ _ _ => id) (Or.inl ⟨by rfl, ?_⟩) ?_ ?_; rotate_left; intro w'; go_simp; (with_reducible rfl); rotate_left; simp only [Act.put, q3s, q3z, q3n, i64_w, i32_w]; rfl; refine pure_ (i := 4) (N := some 16) (v := ?_) (a' := ?_) q3M4 rfl rfl (any_of HT_.out (by kernel_rfl)) (fun _ _ _ => id) (Or.inl ⟨by rfl, ?_⟩) ?_ ?_; rotate_left; intro w'; go_simp; (with_reducible rfl); rotate_left; simp only [Act.put, q3s, q3z, q3n, i64_w, i32_w]; rfl; refine take_ (i := 3) (N := some 15) (v := ?_) (a' := ?_) q3M5 rfl rfl (take_ofW HT_.out HW_.out (by kernel_rfl)) (fun _ _ _ => id) (Or.inl ⟨by rfl, ?_⟩) hHeld ?_ ?_; rotate_left
          ·
           rintro w' ⟨s0, s1, s2, s3, s4, s5, s6, s7, s8, s9, s10, s11⟩; go_simp; with_reducible rfl
          rotate_left
          · simp only [Act.put, q3s, q3z, q3n, i64_w, i32_w]; rfl
          refine one_ (i := 5) (N := some 17) q3M6 rfl rfl (one_of HT_.out (by kernel_rfl)) (by decide) (fun K hK => ?_); refine goes_ Tryz.func96 (by kernel_rfl) rfl #[.agg #[.int .i64 ((rd_T50 l0 x5_1).f0), .int .i64 ((rd_T50 l0 x5_1).f1), .int .i64 ((rd_T50 l0 x5_1).f2), .int .i64 ((rd_T50 l0 x5_1).f3)], .int .i64 a1] (by rfl) rfl rfl zC ?_; with_reducible refine (spec_l6Ok.calls ((rd_T50 l0 x5_1).f0) ((rd_T50 l0 x5_1).f1) ((rd_T50 l0 x5_1).f2) ((rd_T50 l0 x5_1).f3) a1 true _ A5.out).mono ?_
          rintro e w15 ⟨rfl, hb⟩; refine ⟨_, rfl, ?_⟩; have n0_ := az (below_step (zA HB.out) hb); clear HB; have HB := n0_; clear n0_; (try clear hb); (try clear hb2); (try clear hk); (try clear hi); refine hK.out _ _ ⟨((HB.out.cell (World.block_lt_of_cell? w _ hw113_0)).trans hw113_0), ((HB.out.cell (World.block_lt_of_cell? w _ hw113_1)).trans hw113_1), ((HB.out.cell (World.block_lt_of_cell? w _ hw113_2)).trans hw113_2), ((HB.out.cell (World.block_lt_of_cell? w _ hw113_3)).trans hw113_3), ((HB.out.cell (World.block_lt_of_cell? w _ hw115_0)).trans hw115_0), ((HB.out.cell (World.block_lt_of_cell? w _ hw115_1)).trans hw115_1), ((HB.out.cell (World.block_lt_of_cell? w _ hw115_2)).trans hw115_2), ((HB.out.cell (World.block_lt_of_cell? w _ hw115_3)).trans hw115_3), ((HB.out.cell (World.block_lt_of_cell? w _ hw116_0)).trans hw116_0), ((HB.out.cell (World.block_lt_of_cell? w _ hw116_1)).trans hw116_1), ((HB.out.cell (World.block_lt_of_cell? w _ hw116_2)).trans hw116_2), ((HB.out.cell (World.block_lt_of_cell? w _ hw116_3)).trans hw116_3)⟩ (fun hHeld => ?_); clear hK K; refine norm_ (a' := ?_) ?_ ?_; rotate_left
          ·
           show Act.put _ (some 17) _ = _; simp only [Act.put, q3s, q3z, q3n, i64_w, i32_w]; rfl
          refine pure_ (i := 6) (N := some 18) (v := ?_) (a' := ?_) q3M7 rfl rfl (any_of HT_.out (by kernel_rfl)) (fun _ _ _ => id) (Or.inl ⟨by rfl, ?_⟩) ?_ ?_; rotate_left; intro w'; go_simp; (with_reducible rfl); rotate_left; simp only [Act.put, q3s, q3z, q3n, i64_w, i32_w]; rfl; refine pure_ (i := 7) (N := some 19) (v := ?_) (a' := ?_) q3M8 rfl rfl (any_of HT_.out (by kernel_rfl)) (fun _ _ _ => id) (Or.inl ⟨by rfl, ?_⟩) ?_ ?_; rotate_left; intro w'; go_simp; (with_reducible rfl); rotate_left; simp only [Act.put, q3s, q3z, q3n, i64_w, i32_w]; rfl; refine pure_ (i := 8) (N := some 20) (v := ?_) (a' := ?_) q3M9 rfl rfl (any_of HT_.out (by kernel_rfl)) (fun _ _ _ => id) (Or.inl ⟨by rfl, ?_⟩) ?_ ?_; rotate_left; intro w'; go_simp; (with_reducible rfl); rotate_left; simp only [Act.put, q3s, q3z, q3n, i64_w, i32_w]; rfl; refine pure_ (i := 9) (N := some 21) (v := ?_) (a' := ?_) q3M10 rfl rfl (any_of HT_.out (by kernel_rfl)) (fun _ _ _ => id) (Or.inl ⟨by rfl, ?_⟩) ?_ ?_; rotate_left; intro w'; go_simp; (with_reducible rfl); rotate_left; simp only [Act.put, q3s, q3z, q3n, i64_w, i32_w]; rfl; refine pure_ (i := 10) (N := some 22) (v := ?_) (a' := ?_) q3M11 rfl rfl (any_of HT_.out (by kernel_rfl)) (fun _ _ _ => id) (Or.inl ⟨by rfl, ?_⟩) ?_ ?_; rotate_left; intro w'; go_simp; (with_reducible rfl); rotate_left; simp only [Act.put, q3s, q3z, q3n, i64_w, i32_w]; rfl; refine pure_ (i := 11) (N := some 23) (v := ?_) (a' := ?_) q3M12 rfl rfl (any_of HT_.out (by kernel_rfl)) (fun _ _ _ => id) (Or.inl ⟨by rfl, ?_⟩) ?_ ?_; rotate_left; intro w'; go_simp; (with_reducible rfl); rotate_left; simp only [Act.put, q3s, q3z, q3n, i64_w, i32_w]; rfl; refine pure_ (i := 12) (N := some 24) (v := ?_) (a' := ?_) q3M13 rfl rfl (any_of HT_.out (by kernel_rfl)) (fun _ _ _ => id) (Or.inl ⟨by rfl, ?_⟩) ?_ ?_; rotate_left; intro w'; go_simp; (with_reducible rfl); rotate_left; simp only [Act.put, q3s, q3z, q3n, i64_w, i32_w]; rfl; refine pure_ (i := 13) (N := some 25) (v := ?_) (a' := ?_) q3M14 rfl rfl (any_of HT_.out (by kernel_rfl)) (fun _ _ _ => id) (Or.inl ⟨by rfl, ?_⟩) ?_ ?_; rotate_left; intro w'; go_simp; (with_reducible rfl); rotate_left; simp only [Act.put, q3s, q3z, q3n, i64_w, i32_w]; rfl; refine pure_ (i := 14) (N := some 26) (v := ?_) (a' := ?_) q3M15 rfl rfl (any_of HT_.out (by kernel_rfl)) (fun _ _ _ => id) (Or.inl ⟨by rfl, ?_⟩) ?_ ?_; rotate_left; intro w'; go_simp; (with_reducible rfl); rotate_left; simp only [Act.put, q3s, q3z, q3n, i64_w, i32_w]; rfl; refine pure_ (i := 15) (N := some 27) (v := ?_) (a' := ?_) q3M16 rfl rfl (any_of HT_.out (by kernel_rfl)) (fun _ _ _ => id) (Or.inl ⟨by rfl, ?_⟩) ?_ ?_; rotate_left; intro w'; go_simp; (with_reducible rfl); rotate_left; simp only [Act.put, q3s, q3z, q3n, i64_w, i32_w]; rfl; refine pure_ (i := 17) (N := some 29) (v := ?_) (a' := ?_) q3M17 rfl rfl (any_of HT_.out (by kernel_rfl)) (fun _ _ _ => id) (Or.inl ⟨by rfl, ?_⟩) ?_ ?_; rotate_left; intro w'; go_simp; (with_reducible rfl); rotate_left; simp only [Act.put, q3s, q3z, q3n, i64_w, i32_w]; rfl; refine pure_ (i := 18) (N := some 30) (v := ?_) (a' := ?_) q3M18 rfl rfl (any_of HT_.out (by kernel_rfl)) (fun _ _ _ => id) (Or.inl ⟨by rfl, ?_⟩) ?_ ?_; rotate_left; intro w'; go_simp; (with_reducible rfl); rotate_left; simp only [Act.put, q3s, q3z, q3n, i64_w, i32_w]; rfl; refine pure_ (i := 19) (N := some 31) (v := ?_) (a' := ?_) q3M19 rfl rfl (any_of HT_.out (by kernel_rfl)) (fun _ _ _ => id) (Or.inl ⟨by rfl, ?_⟩) ?_ ?_; rotate_left; intro w'; go_simp; (with_reducible rfl); rotate_left; simp only [Act.put, q3s, q3z, q3n, i64_w, i32_w]; rfl; refine pure_ (i := 20) (N := some 32) (v := ?_) (a' := ?_) q3M20 rfl rfl (any_of HT_.out (by kernel_rfl)) (fun _ _ _ => id) (Or.inl ⟨by rfl, ?_⟩) ?_ ?_; rotate_left; intro w'; go_simp; (with_reducible rfl); rotate_left; simp only [Act.put, q3s, q3z, q3n, i64_w, i32_w]; rfl; refine take_ (i := 16) (N := some 28) (v := ?_) (a' := ?_) q3M21 rfl rfl (take_ofW HT_.out HW_.out (by kernel_rfl)) (fun _ _ _ => id) (Or.inl ⟨by rfl, ?_⟩) hHeld ?_ ?_
          rotate_left
          ·
           rintro w' ⟨s0, s1, s2, s3, s4, s5, s6, s7, s8, s9, s10, s11⟩; go_simp; with_reducible rfl
          rotate_left
          · simp only [Act.put, q3s, q3z, q3n, i64_w, i32_w]; rfl
          refine take_ (i := 21) (N := some 33) (v := ?_) (a' := ?_) q3M22 rfl rfl (take_ofW HT_.out HW_.out (by kernel_rfl)) (fun _ _ _ => id) (Or.inl ⟨by rfl, ?_⟩) hHeld ?_ ?_; rotate_left
          ·
           rintro w' ⟨s0, s1, s2, s3, s4, s5, s6, s7, s8, s9, s10, s11⟩; go_simp; with_reducible rfl
          rotate_left
          · simp only [Act.put, q3s, q3z, q3n, i64_w, i32_w]; rfl
          refine pure_ (i := 22) (N := some 34) (v := ?_) (a' := ?_) q3M23 rfl rfl (any_of HT_.out (by kernel_rfl)) (fun _ _ _ => id) (Or.inl ⟨by rfl, ?_⟩) ?_ ?_; rotate_left; intro w'; go_simp; (with_reducible rfl); rotate_left; simp only [Act.put, q3s, q3z, q3n, i64_w, i32_w]; rfl; refine pure_ (i := 23) (N := some 35) (v := ?_) (a' := ?_) q3M24 rfl rfl (any_of HT_.out (by kernel_rfl)) (fun _ _ _ => id) (Or.inl ⟨by rfl, ?_⟩) ?_ ?_; rotate_left; intro w'; go_simp; (with_reducible rfl); rotate_left; simp only [Act.put, q3s, q3z, q3n, i64_w, i32_w]; rfl; refine pure_ (i := 24) (N := some 36) (v := ?_) (a' := ?_) q3M25 rfl rfl (any_of HT_.out (by kernel_rfl)) (fun _ _ _ => id) (Or.inl ⟨by rfl, ?_⟩) ?_ ?_; rotate_left; intro w'; go_simp; (with_reducible rfl); rotate_left; simp only [Act.put, q3s, q3z, q3n, i64_w, i32_w]; rfl; refine done_ (done_of HT_.out (by kernel_rfl)) ?_; (try go_wp2); go_roundg k1
          case measure => have := HK1.out; omega
          case rel => exact ⟨(wrap64 (x5_1 + 1)), zB, H', ⟨zE HK1.out⟩, ⟨zA HB.out⟩⟩
        ·
         rw [if_neg c10] at H; exact absurd H (by simp)
       ·
        rw [if_neg c9] at H; exact absurd H (by simp)
      ·
       rw [if_neg c7] at H; have c7b0 : decide (0 < x5_1) = false := decide_eq_false c7; clear c7; have H' := az H; clear H; (try go_wp2); have n0_ := az (below_drew1 HB.out); clear HB; have HB := n0_; clear n0_; have p113 : 0 ≤ (x5_1 : Int) := of_decide_eq_true (by assumption); have q113 : x5_1 < (l0.length : Int) := of_decide_eq_true (by assumption); obtain ⟨ad113, e113, hx113_0, hx113_1, hx113_2, hx113_3⟩ := at_T50 HR0.out x5_1 p113 q113; have hw113_3 := hx113_3; have hw113_2 := hx113_2; have hw113_1 := hx113_1; have hw113_0 := hx113_0
       cases e113
       replace hx113_0 := (HB.out.cell (World.block_lt_of_cell? w _ hx113_0)).trans hx113_0; replace hx113_1 := (HB.out.cell (World.block_lt_of_cell? w _ hx113_1)).trans hx113_1; replace hx113_2 := (HB.out.cell (World.block_lt_of_cell? w _ hx113_2)).trans hx113_2; replace hx113_3 := (HB.out.cell (World.block_lt_of_cell? w _ hx113_3)).trans hx113_3; replace p113 := eq_true p113; replace q113 := eq_true q113; refine start_ (n := 25) (S := fun w' => w'.cell? (ad113.add ((x5_1).toNat * 4)) = some (.int .i64 ((rd_T50 l0 x5_1).f0)) ∧ w'.cell? ⟨(ad113.add ((x5_1).toNat * 4)).block, (ad113.add ((x5_1).toNat * 4)).off + 1, none⟩ = some (.int .i64 ((rd_T50 l0 x5_1).f1)) ∧ w'.cell? ⟨(ad113.add ((x5_1).toNat * 4)).block, (ad113.add ((x5_1).toNat * 4)).off + 2, none⟩ = some (.int .i64 ((rd_T50 l0 x5_1).f2)) ∧ w'.cell? ⟨(ad113.add ((x5_1).toNat * 4)).block, (ad113.add ((x5_1).toNat * 4)).off + 3, none⟩ = some (.int .i64 ((rd_T50 l0 x5_1).f3))) (ds := []) q3M0 (by kernel_rfl) rfl rfl ⟨((HB.out.cell (World.block_lt_of_cell? w _ hw113_0)).trans hw113_0), ((HB.out.cell (World.block_lt_of_cell? w _ hw113_1)).trans hw113_1), ((HB.out.cell (World.block_lt_of_cell? w _ hw113_2)).trans hw113_2), ((HB.out.cell (World.block_lt_of_cell? w _ hw113_3)).trans hw113_3)⟩ (fun hHeld => ?_); refine with_tabW spec_SpansOk.tab4 spec_SpansOk.bits4 (fun HT_ HW_ => ?_); generalize wr.drew = w16 at HB hx113_0 hx113_1 hx113_2 hx113_3 hHeld ⊢; refine pure_ (i := 0) (N := some 12) (v := ?_) (a' := ?_) q3M1 rfl rfl (any_of HT_.out (by kernel_rfl)) (fun _ _ _ => id) (Or.inl ⟨by rfl, ?_⟩) ?_ ?_; rotate_left; intro w'; go_simp; (with_reducible rfl); rotate_left; simp only [Act.put, q3s, q3z, q3n, i64_w, i32_w]; rfl; refine pure_ (i := 1) (N := some 13) (v := ?_) (a' := ?_) q3M2 rfl rfl (any_of HT_.out (by kernel_rfl)) (fun _ _ _ => id) (Or.inl ⟨by rfl, ?_⟩) ?_ ?_; rotate_left; intro w'; go_simp; (with_reducible rfl); rotate_left; simp only [Act.put, q3s, q3z, q3n, i64_w, i32_w]; rfl; refine pure_ (i := 2) (N := some 14) (v := ?_) (a' := ?_) q3M3 rfl rfl (any_of HT_.out (by kernel_rfl)) (fun _ _ _ => id) (Or.inl ⟨by rfl, ?_⟩) ?_ ?_; rotate_left; intro w'; go_simp; (with_reducible rfl); rotate_left; simp only [Act.put, q3s, q3z, q3n, i64_w, i32_w]; rfl; refine pure_ (i := 4) (N := some 16) (v := ?_) (a' := ?_) q3M4 rfl rfl (any_of HT_.out (by kernel_rfl)) (fun _ _ _ => id) (Or.inl ⟨by rfl, ?_⟩) ?_ ?_; rotate_left; intro w'; go_simp; (with_reducible rfl); rotate_left; simp only [Act.put, q3s, q3z, q3n, i64_w, i32_w]; rfl; refine take_ (i := 3) (N := some 15) (v := ?_) (a' := ?_) q3M5 rfl rfl (take_ofW HT_.out HW_.out (by kernel_rfl)) (fun _ _ _ => id) (Or.inl ⟨by rfl, ?_⟩) hHeld ?_ ?_; rotate_left
       ·
        rintro w' ⟨s0, s1, s2, s3⟩; go_simp; with_reducible rfl
       rotate_left
       · simp only [Act.put, q3s, q3z, q3n, i64_w, i32_w]; rfl
       refine one_ (i := 5) (N := some 17) q3M6 rfl rfl (one_of HT_.out (by kernel_rfl)) (by decide) (fun K hK => ?_); refine goes_ Tryz.func96 (by kernel_rfl) rfl #[.agg #[.int .i64 ((rd_T50 l0 x5_1).f0), .int .i64 ((rd_T50 l0 x5_1).f1), .int .i64 ((rd_T50 l0 x5_1).f2), .int .i64 ((rd_T50 l0 x5_1).f3)], .int .i64 a1] (by rfl) rfl rfl zC ?_; with_reducible refine (spec_l6Ok.calls ((rd_T50 l0 x5_1).f0) ((rd_T50 l0 x5_1).f1) ((rd_T50 l0 x5_1).f2) ((rd_T50 l0 x5_1).f3) a1 true _ A5.out).mono ?_
       rintro e w17 ⟨rfl, hb⟩; refine ⟨_, rfl, ?_⟩; have n0_ := az (below_step (zA HB.out) hb); clear HB; have HB := n0_; clear n0_; (try clear hb); (try clear hb2); (try clear hk); (try clear hi); refine hK.out _ _ ⟨((HB.out.cell (World.block_lt_of_cell? w _ hw113_0)).trans hw113_0), ((HB.out.cell (World.block_lt_of_cell? w _ hw113_1)).trans hw113_1), ((HB.out.cell (World.block_lt_of_cell? w _ hw113_2)).trans hw113_2), ((HB.out.cell (World.block_lt_of_cell? w _ hw113_3)).trans hw113_3)⟩ (fun hHeld => ?_); clear hK K; refine norm_ (a' := ?_) ?_ ?_; rotate_left
       ·
        show Act.put _ (some 17) _ = _; simp only [Act.put, q3s, q3z, q3n, i64_w, i32_w]; rfl
       refine pure_ (i := 6) (N := some 18) (v := ?_) (a' := ?_) q3M7 rfl rfl (any_of HT_.out (by kernel_rfl)) (fun _ _ _ => id) (Or.inl ⟨by rfl, ?_⟩) ?_ ?_; rotate_left; intro w'; go_simp; (with_reducible rfl); rotate_left; simp only [Act.put, q3s, q3z, q3n, i64_w, i32_w]; rfl; refine pure_ (i := 7) (N := some 19) (v := ?_) (a' := ?_) q3M8 rfl rfl (any_of HT_.out (by kernel_rfl)) (fun _ _ _ => id) (Or.inl ⟨by rfl, ?_⟩) ?_ ?_; rotate_left; intro w'; go_simp; (with_reducible rfl); rotate_left; simp only [Act.put, q3s, q3z, q3n, i64_w, i32_w]; rfl; refine pure_ (i := 8) (N := some 20) (v := ?_) (a' := ?_) q3M9 rfl rfl (any_of HT_.out (by kernel_rfl)) (fun _ _ _ => id) (Or.inl ⟨by rfl, ?_⟩) ?_ ?_; rotate_left; intro w'; go_simp; (with_reducible rfl); rotate_left; simp only [Act.put, q3s, q3z, q3n, i64_w, i32_w]; rfl; refine pure_ (i := 9) (N := some 21) (v := ?_) (a' := ?_) q3M10 rfl rfl (any_of HT_.out (by kernel_rfl)) (fun _ _ _ => id) (Or.inl ⟨by rfl, ?_⟩) ?_ ?_; rotate_left; intro w'; go_simp; (with_reducible rfl); rotate_left; simp only [Act.put, q3s, q3z, q3n, i64_w, i32_w]; rfl; refine pure_ (i := 10) (N := some 22) (v := ?_) (a' := ?_) q3M11 rfl rfl (any_of HT_.out (by kernel_rfl)) (fun _ _ _ => id) (Or.inl ⟨by rfl, ?_⟩) ?_ ?_; rotate_left; intro w'; go_simp; (with_reducible rfl); rotate_left; simp only [Act.put, q3s, q3z, q3n, i64_w, i32_w]; rfl; refine pure_ (i := 11) (N := some 23) (v := undef) (a' := ?_) q3M12 rfl rfl (any_of HT_.out (by kernel_rfl)) (fun _ _ _ => id) (Or.inr ⟨by rfl, rfl⟩) ?_ ?_; rotate_left
       · simp only [Act.put, q3s, q3z, q3n, i64_w, i32_w]; rfl
       refine pure_ (i := 12) (N := some 24) (v := undef) (a' := ?_) q3M13 rfl rfl (any_of HT_.out (by kernel_rfl)) (fun _ _ _ => id) (Or.inr ⟨by rfl, rfl⟩) ?_ ?_; rotate_left
       · simp only [Act.put, q3s, q3z, q3n, i64_w, i32_w]; rfl
       refine pure_ (i := 13) (N := some 25) (v := undef) (a' := ?_) q3M14 rfl rfl (any_of HT_.out (by kernel_rfl)) (fun _ _ _ => id) (Or.inr ⟨by rfl, rfl⟩) ?_ ?_; rotate_left
       · simp only [Act.put, q3s, q3z, q3n, i64_w, i32_w]; rfl
       refine pure_ (i := 14) (N := some 26) (v := undef) (a' := ?_) q3M15 rfl rfl (any_of HT_.out (by kernel_rfl)) (fun _ _ _ => id) (Or.inr ⟨by rfl, rfl⟩) ?_ ?_; rotate_left
       · simp only [Act.put, q3s, q3z, q3n, i64_w, i32_w]; rfl
       refine pure_ (i := 15) (N := some 27) (v := undef) (a' := ?_) q3M16 rfl rfl (any_of HT_.out (by kernel_rfl)) (fun _ _ _ => id) (Or.inr ⟨by rfl, rfl⟩) ?_ ?_; rotate_left
       · simp only [Act.put, q3s, q3z, q3n, i64_w, i32_w]; rfl
       refine pure_ (i := 16) (N := some 28) (v := undef) (a' := ?_) q3M26 rfl rfl (any_of HT_.out (by kernel_rfl)) (fun _ _ _ => id) (Or.inr ⟨by rfl, rfl⟩) ?_ ?_; rotate_left
       · simp only [Act.put, q3s, q3z, q3n, i64_w, i32_w]; rfl
       refine pure_ (i := 17) (N := some 29) (v := undef) (a' := ?_) q3M27 rfl rfl (any_of HT_.out (by kernel_rfl)) (fun _ _ _ => id) (Or.inr ⟨by rfl, rfl⟩) ?_ ?_; rotate_left
       · simp only [Act.put, q3s, q3z, q3n, i64_w, i32_w]; rfl
       refine pure_ (i := 18) (N := some 30) (v := undef) (a' := ?_) q3M28 rfl rfl (any_of HT_.out (by kernel_rfl)) (fun _ _ _ => id) (Or.inr ⟨by rfl, rfl⟩) ?_ ?_; rotate_left
       · simp only [Act.put, q3s, q3z, q3n, i64_w, i32_w]; rfl
       refine pure_ (i := 19) (N := some 31) (v := undef) (a' := ?_) q3M29 rfl rfl (any_of HT_.out (by kernel_rfl)) (fun _ _ _ => id) (Or.inr ⟨by rfl, rfl⟩) ?_ ?_; rotate_left
       · simp only [Act.put, q3s, q3z, q3n, i64_w, i32_w]; rfl
       refine pure_ (i := 20) (N := some 32) (v := undef) (a' := ?_) q3M21 rfl rfl (any_of HT_.out (by kernel_rfl)) (fun _ _ _ => id) (Or.inr ⟨by rfl, rfl⟩) ?_ ?_; rotate_left
       · simp only [Act.put, q3s, q3z, q3n, i64_w, i32_w]; rfl
       refine pure_ (i := 21) (N := some 33) (v := undef) (a' := ?_) q3M22 rfl rfl (any_of HT_.out (by kernel_rfl)) (fun _ _ _ => id) (Or.inr ⟨by rfl, rfl⟩) ?_ ?_; rotate_left
       · simp only [Act.put, q3s, q3z, q3n, i64_w, i32_w]; rfl
       refine pure_ (i := 22) (N := some 34) (v := undef) (a' := ?_) q3M23 rfl rfl (any_of HT_.out (by kernel_rfl)) (fun _ _ _ => id) (Or.inr ⟨by rfl, rfl⟩) ?_ ?_; rotate_left
       · simp only [Act.put, q3s, q3z, q3n, i64_w, i32_w]; rfl
       refine pure_ (i := 23) (N := some 35) (v := ?_) (a' := ?_) q3M24 rfl rfl (any_of HT_.out (by kernel_rfl)) (fun _ _ _ => id) (Or.inl ⟨by rfl, ?_⟩) ?_ ?_; rotate_left; intro w'; go_simp; (with_reducible rfl); rotate_left; simp only [Act.put, q3s, q3z, q3n, i64_w, i32_w]; rfl; refine pure_ (i := 24) (N := some 36) (v := ?_) (a' := ?_) q3M25 rfl rfl (any_of HT_.out (by kernel_rfl)) (fun _ _ _ => id) (Or.inl ⟨by rfl, ?_⟩) ?_ ?_; rotate_left; intro w'; go_simp; (with_reducible rfl); rotate_left; simp only [Act.put, q3s, q3z, q3n, i64_w, i32_w]; rfl; refine done_ (done_of HT_.out (by kernel_rfl)) ?_; (try go_wp2); go_roundg k1
       case measure => have := HK1.out; omega
       case rel => exact ⟨(wrap64 (x5_1 + 1)), zB, H', ⟨zE HK1.out⟩, ⟨zA HB.out⟩⟩
     ·
      replace c6 := Bool.eq_false_iff.mpr c6; subst c6; have H1 : (some false) = some r := by rw [if_neg (show ¬ (false = true) by decide)] at H; exact H
      clear H; have H := H1; clear H1; obtain rfl := Option.some.inj H; (try go_wp2); have n0_ := az (below_drew1 HB.out); clear HB; have HB := n0_; clear n0_; have p113 : 0 ≤ (x5_1 : Int) := of_decide_eq_true (by assumption); have q113 : x5_1 < (l0.length : Int) := of_decide_eq_true (by assumption); obtain ⟨ad113, e113, hx113_0, hx113_1, hx113_2, hx113_3⟩ := at_T50 HR0.out x5_1 p113 q113; have hw113_3 := hx113_3; have hw113_2 := hx113_2; have hw113_1 := hx113_1; have hw113_0 := hx113_0
      cases e113
      replace hx113_0 := (HB.out.cell (World.block_lt_of_cell? w _ hx113_0)).trans hx113_0; replace hx113_1 := (HB.out.cell (World.block_lt_of_cell? w _ hx113_1)).trans hx113_1; replace hx113_2 := (HB.out.cell (World.block_lt_of_cell? w _ hx113_2)).trans hx113_2; replace hx113_3 := (HB.out.cell (World.block_lt_of_cell? w _ hx113_3)).trans hx113_3; replace p113 := eq_true p113; replace q113 := eq_true q113; refine start_ (n := 25) (S := fun w' => w'.cell? (ad113.add ((x5_1).toNat * 4)) = some (.int .i64 ((rd_T50 l0 x5_1).f0)) ∧ w'.cell? ⟨(ad113.add ((x5_1).toNat * 4)).block, (ad113.add ((x5_1).toNat * 4)).off + 1, none⟩ = some (.int .i64 ((rd_T50 l0 x5_1).f1)) ∧ w'.cell? ⟨(ad113.add ((x5_1).toNat * 4)).block, (ad113.add ((x5_1).toNat * 4)).off + 2, none⟩ = some (.int .i64 ((rd_T50 l0 x5_1).f2)) ∧ w'.cell? ⟨(ad113.add ((x5_1).toNat * 4)).block, (ad113.add ((x5_1).toNat * 4)).off + 3, none⟩ = some (.int .i64 ((rd_T50 l0 x5_1).f3))) (ds := []) q3M0 (by kernel_rfl) rfl rfl ⟨((HB.out.cell (World.block_lt_of_cell? w _ hw113_0)).trans hw113_0), ((HB.out.cell (World.block_lt_of_cell? w _ hw113_1)).trans hw113_1), ((HB.out.cell (World.block_lt_of_cell? w _ hw113_2)).trans hw113_2), ((HB.out.cell (World.block_lt_of_cell? w _ hw113_3)).trans hw113_3)⟩ (fun hHeld => ?_); refine with_tabW spec_SpansOk.tab4 spec_SpansOk.bits4 (fun HT_ HW_ => ?_); generalize wr.drew = w18 at HB hx113_0 hx113_1 hx113_2 hx113_3 hHeld ⊢; refine pure_ (i := 0) (N := some 12) (v := ?_) (a' := ?_) q3M1 rfl rfl (any_of HT_.out (by kernel_rfl)) (fun _ _ _ => id) (Or.inl ⟨by rfl, ?_⟩) ?_ ?_; rotate_left; intro w'; go_simp; (with_reducible rfl); rotate_left; simp only [Act.put, q3s, q3z, q3n, i64_w, i32_w]; rfl; refine pure_ (i := 1) (N := some 13) (v := ?_) (a' := ?_) q3M2 rfl rfl (any_of HT_.out (by kernel_rfl)) (fun _ _ _ => id) (Or.inl ⟨by rfl, ?_⟩) ?_ ?_; rotate_left; intro w'; go_simp; (with_reducible rfl); rotate_left; simp only [Act.put, q3s, q3z, q3n, i64_w, i32_w]; rfl; refine pure_ (i := 2) (N := some 14) (v := ?_) (a' := ?_) q3M3 rfl rfl (any_of HT_.out (by kernel_rfl)) (fun _ _ _ => id) (Or.inl ⟨by rfl, ?_⟩) ?_ ?_; rotate_left; intro w'; go_simp; (with_reducible rfl); rotate_left; simp only [Act.put, q3s, q3z, q3n, i64_w, i32_w]; rfl; refine pure_ (i := 4) (N := some 16) (v := ?_) (a' := ?_) q3M4 rfl rfl (any_of HT_.out (by kernel_rfl)) (fun _ _ _ => id) (Or.inl ⟨by rfl, ?_⟩) ?_ ?_; rotate_left; intro w'; go_simp; (with_reducible rfl); rotate_left; simp only [Act.put, q3s, q3z, q3n, i64_w, i32_w]; rfl; refine take_ (i := 3) (N := some 15) (v := ?_) (a' := ?_) q3M5 rfl rfl (take_ofW HT_.out HW_.out (by kernel_rfl)) (fun _ _ _ => id) (Or.inl ⟨by rfl, ?_⟩) hHeld ?_ ?_; rotate_left
      ·
       rintro w' ⟨s0, s1, s2, s3⟩; go_simp; with_reducible rfl
      rotate_left
      · simp only [Act.put, q3s, q3z, q3n, i64_w, i32_w]; rfl
      refine one_ (i := 5) (N := some 17) q3M6 rfl rfl (one_of HT_.out (by kernel_rfl)) (by decide) (fun K hK => ?_); refine goes_ Tryz.func96 (by kernel_rfl) rfl #[.agg #[.int .i64 ((rd_T50 l0 x5_1).f0), .int .i64 ((rd_T50 l0 x5_1).f1), .int .i64 ((rd_T50 l0 x5_1).f2), .int .i64 ((rd_T50 l0 x5_1).f3)], .int .i64 a1] (by rfl) rfl rfl zC ?_; with_reducible refine (spec_l6Ok.calls ((rd_T50 l0 x5_1).f0) ((rd_T50 l0 x5_1).f1) ((rd_T50 l0 x5_1).f2) ((rd_T50 l0 x5_1).f3) a1 false _ A5.out).mono ?_
      rintro e w19 ⟨rfl, hb⟩; refine ⟨_, rfl, ?_⟩; have n0_ := az (below_step (zA HB.out) hb); clear HB; have HB := n0_; clear n0_; (try clear hb); (try clear hb2); (try clear hk); (try clear hi); refine hK.out _ _ ⟨((HB.out.cell (World.block_lt_of_cell? w _ hw113_0)).trans hw113_0), ((HB.out.cell (World.block_lt_of_cell? w _ hw113_1)).trans hw113_1), ((HB.out.cell (World.block_lt_of_cell? w _ hw113_2)).trans hw113_2), ((HB.out.cell (World.block_lt_of_cell? w _ hw113_3)).trans hw113_3)⟩ (fun hHeld => ?_); clear hK K; refine norm_ (a' := ?_) ?_ ?_; rotate_left
      ·
       show Act.put _ (some 17) _ = _; simp only [Act.put, q3s, q3z, q3n, i64_w, i32_w]; rfl
      refine pure_ (i := 6) (N := some 18) (v := ?_) (a' := ?_) q3M7 rfl rfl (any_of HT_.out (by kernel_rfl)) (fun _ _ _ => id) (Or.inl ⟨by rfl, ?_⟩) ?_ ?_; rotate_left; intro w'; go_simp; (with_reducible rfl); rotate_left; simp only [Act.put, q3s, q3z, q3n, i64_w, i32_w]; rfl; refine pure_ (i := 7) (N := some 19) (v := ?_) (a' := ?_) q3M8 rfl rfl (any_of HT_.out (by kernel_rfl)) (fun _ _ _ => id) (Or.inl ⟨by rfl, ?_⟩) ?_ ?_; rotate_left; intro w'; go_simp; (with_reducible rfl); rotate_left; simp only [Act.put, q3s, q3z, q3n, i64_w, i32_w]; rfl; refine pure_ (i := 8) (N := some 20) (v := undef) (a' := ?_) q3M9 rfl rfl (any_of HT_.out (by kernel_rfl)) (fun _ _ _ => id) (Or.inr ⟨by rfl, rfl⟩) ?_ ?_; rotate_left
      · simp only [Act.put, q3s, q3z, q3n, i64_w, i32_w]; rfl
      refine pure_ (i := 9) (N := some 21) (v := undef) (a' := ?_) q3M10 rfl rfl (any_of HT_.out (by kernel_rfl)) (fun _ _ _ => id) (Or.inr ⟨by rfl, rfl⟩) ?_ ?_; rotate_left
      · simp only [Act.put, q3s, q3z, q3n, i64_w, i32_w]; rfl
      refine pure_ (i := 10) (N := some 22) (v := undef) (a' := ?_) q3M11 rfl rfl (any_of HT_.out (by kernel_rfl)) (fun _ _ _ => id) (Or.inr ⟨by rfl, rfl⟩) ?_ ?_; rotate_left
      · simp only [Act.put, q3s, q3z, q3n, i64_w, i32_w]; rfl
      refine pure_ (i := 11) (N := some 23) (v := undef) (a' := ?_) q3M12 rfl rfl (any_of HT_.out (by kernel_rfl)) (fun _ _ _ => id) (Or.inr ⟨by rfl, rfl⟩) ?_ ?_; rotate_left
      · simp only [Act.put, q3s, q3z, q3n, i64_w, i32_w]; rfl
      refine pure_ (i := 12) (N := some 24) (v := undef) (a' := ?_) q3M13 rfl rfl (any_of HT_.out (by kernel_rfl)) (fun _ _ _ => id) (Or.inr ⟨by rfl, rfl⟩) ?_ ?_; rotate_left
      · simp only [Act.put, q3s, q3z, q3n, i64_w, i32_w]; rfl
      refine pure_ (i := 13) (N := some 25) (v := undef) (a' := ?_) q3M14 rfl rfl (any_of HT_.out (by kernel_rfl)) (fun _ _ _ => id) (Or.inr ⟨by rfl, rfl⟩) ?_ ?_; rotate_left
      · simp only [Act.put, q3s, q3z, q3n, i64_w, i32_w]; rfl
      refine pure_ (i := 14) (N := some 26) (v := undef) (a' := ?_) q3M15 rfl rfl (any_of HT_.out (by kernel_rfl)) (fun _ _ _ => id) (Or.inr ⟨by rfl, rfl⟩) ?_ ?_; rotate_left
      · simp only [Act.put, q3s, q3z, q3n, i64_w, i32_w]; rfl
      refine pure_ (i := 15) (N := some 27) (v := undef) (a' := ?_) q3M16 rfl rfl (any_of HT_.out (by kernel_rfl)) (fun _ _ _ => id) (Or.inr ⟨by rfl, rfl⟩) ?_ ?_; rotate_left
      · simp only [Act.put, q3s, q3z, q3n, i64_w, i32_w]; rfl
      refine pure_ (i := 16) (N := some 28) (v := undef) (a' := ?_) q3M26 rfl rfl (any_of HT_.out (by kernel_rfl)) (fun _ _ _ => id) (Or.inr ⟨by rfl, rfl⟩) ?_ ?_; rotate_left
      · simp only [Act.put, q3s, q3z, q3n, i64_w, i32_w]; rfl
      refine pure_ (i := 17) (N := some 29) (v := undef) (a' := ?_) q3M27 rfl rfl (any_of HT_.out (by kernel_rfl)) (fun _ _ _ => id) (Or.inr ⟨by rfl, rfl⟩) ?_ ?_; rotate_left
      · simp only [Act.put, q3s, q3z, q3n, i64_w, i32_w]; rfl
      refine pure_ (i := 18) (N := some 30) (v := undef) (a' := ?_) q3M28 rfl rfl (any_of HT_.out (by kernel_rfl)) (fun _ _ _ => id) (Or.inr ⟨by rfl, rfl⟩) ?_ ?_; rotate_left
      · simp only [Act.put, q3s, q3z, q3n, i64_w, i32_w]; rfl
      refine pure_ (i := 19) (N := some 31) (v := undef) (a' := ?_) q3M29 rfl rfl (any_of HT_.out (by kernel_rfl)) (fun _ _ _ => id) (Or.inr ⟨by rfl, rfl⟩) ?_ ?_; rotate_left
      · simp only [Act.put, q3s, q3z, q3n, i64_w, i32_w]; rfl
      refine pure_ (i := 20) (N := some 32) (v := undef) (a' := ?_) q3M21 rfl rfl (any_of HT_.out (by kernel_rfl)) (fun _ _ _ => id) (Or.inr ⟨by rfl, rfl⟩) ?_ ?_; rotate_left
      · simp only [Act.put, q3s, q3z, q3n, i64_w, i32_w]; rfl
      refine pure_ (i := 21) (N := some 33) (v := undef) (a' := ?_) q3M22 rfl rfl (any_of HT_.out (by kernel_rfl)) (fun _ _ _ => id) (Or.inr ⟨by rfl, rfl⟩) ?_ ?_; rotate_left
      · simp only [Act.put, q3s, q3z, q3n, i64_w, i32_w]; rfl
      refine pure_ (i := 22) (N := some 34) (v := undef) (a' := ?_) q3M23 rfl rfl (any_of HT_.out (by kernel_rfl)) (fun _ _ _ => id) (Or.inr ⟨by rfl, rfl⟩) ?_ ?_; rotate_left
      · simp only [Act.put, q3s, q3z, q3n, i64_w, i32_w]; rfl
      refine pure_ (i := 23) (N := some 35) (v := undef) (a' := ?_) q3M24 rfl rfl (any_of HT_.out (by kernel_rfl)) (fun _ _ _ => id) (Or.inr ⟨by rfl, rfl⟩) ?_ ?_; rotate_left
      · simp only [Act.put, q3s, q3z, q3n, i64_w, i32_w]; rfl
      refine pure_ (i := 24) (N := some 36) (v := ?_) (a' := ?_) q3M25 rfl rfl (any_of HT_.out (by kernel_rfl)) (fun _ _ _ => id) (Or.inl ⟨by rfl, ?_⟩) ?_ ?_; rotate_left; intro w'; go_simp; (with_reducible rfl); rotate_left; simp only [Act.put, q3s, q3z, q3n, i64_w, i32_w]; rfl; refine done_ (done_of HT_.out (by kernel_rfl)) ?_; (try go_wp2); go_ret; exact ⟨zG, zA HB.out⟩
    ·
     rw [if_neg c4] at H; exact absurd H (by simp)
   ·
    rw [if_neg c3] at H; have c3b0 : decide (x5_1 < (l0.length : Int)) = false := decide_eq_false c3; clear c3; by_cases c20 : (l0.length : Int) ≤ 12
    ·
     rw [if_pos c20] at H; have c20b0 : decide ((l0.length : Int) ≤ 12) = true := decide_eq_true c20; have c20b1 : decide (l0.length ≤ 12) = true := decide_eq_true (by omega); clear c20; replace H := Option.bind_eq_some_iff.mp H; obtain ⟨t117, A210, H⟩ := H; replace H : (some t117) = some r := H; have A21 := az A210; clear A210; obtain rfl := Option.some.inj H; go_wp2_with (first | (go_at_call 36; (with_reducible refine (spec_l1In.calls a1 0 80 t117 _ A21.out).mono ?_); rintro e w' ⟨rfl, ⟨nd, rfl⟩⟩)); go_ret; exact ⟨zG, zA HB.out⟩
    ·
     rw [if_neg c20] at H; have c20b0 : decide ((l0.length : Int) ≤ 12) = false := decide_eq_false c20; have c20b1 : decide (l0.length ≤ 12) = false := decide_eq_false (by omega); clear c20; obtain rfl := Option.some.inj H; go_wp2; go_ret; exact ⟨zG, zA HB.out⟩
def spec_l7All.f (k : Nat) (l0 : List Int) (l1 : List (S50)) (a2 : Int) : Option (Bool) := (spec_l1Ok.f k l0).bind fun t118 => (if t118 = true then ((spec_SpansOk.f k l1 (l0.length : Int)).bind fun t119 => (if t119 = true then ((spec_l1In.f a2 0 20000).bind fun t120 => (some t120)) else (some false))) else (some false))
theorem spec_l7All.mono : ∀ a0 a1 a2 k, LeO (spec_l7All.f k a0 a1 a2) (spec_l7All.f (k + 1) a0 a1 a2) := by
 intro a0 a1 a2 k; unfold spec_l7All.f
 repeat' first
   | (with_reducible exact spec_SpansOk.mono _ _ _)
   | (with_reducible exact spec_l1Ok.mono _ _)
   | (with_reducible exact LeO.refl _)
   | (with_reducible exact LeO.none _)
   | (with_reducible refine LeO.ite ?_ ?_)
   | (with_reducible refine LeO.bind ?_ (fun _ => ?_))
   | exact spec_SpansOk.mono _ _ _
   | exact spec_l1Ok.mono _ _
   | exact LeO.none _
   | refine LeO.ite ?_ ?_
   | refine LeO.bind ?_ (fun _ => ?_)
theorem spec_l7All.calls (k : Nat) (A0 : Option Addr) (c0 : Nat) (l0 : List Int) (A1 : Option Addr) (c1 : Nat) (l1 : List (S50)) (a2 : Int) (r : Bool) (w : World) (hr0 : Kd.C (Kd.int .i64) w A0 l0.length l0) (hc0 : l0.length ≤ c0) (hr1 : Kd.C k50 w A1 l1.length l1) (hc1 : l1.length ≤ c1) (h : spec_l7All.f k l0 l1 a2 = some r) :
  Calls Tryz.prog 35 #[.slice A0 l0.length c0, .slice A1 l1.length c1, .int .i64 a2] w fun e w' => e = .returned (.bool r) ∧ Below w.heap.size w w' := by
 have HR0 := az hr0; have HC0 := az hc0; clear hr0 hc0; have HR1 := az hr1; have HC1 := az hc1; clear hr1 hc1; have HB := az (Below.refl w.heap.size w); have H : ((spec_l1Ok.f k l0).bind fun t118 => (if t118 = true then ((spec_SpansOk.f k l1 (l0.length : Int)).bind fun t119 => (if t119 = true then ((spec_l1In.f a2 0 20000).bind fun t120 => (some t120)) else (some false))) else (some false))) = some r := h; clear h; replace H := Option.bind_eq_some_iff.mp H; obtain ⟨t118, A40, H⟩ := H; replace H : (if t118 = true then ((spec_SpansOk.f k l1 (l0.length : Int)).bind fun t119 => (if t119 = true then ((spec_l1In.f a2 0 20000).bind fun t120 => (some t120)) else (some false))) else (some false)) = some r := H; have A4 := az A40; clear A40; by_cases c5 : t118 = true
 ·
  subst c5; have H1 : ((spec_SpansOk.f k l1 (l0.length : Int)).bind fun t119 => (if t119 = true then ((spec_l1In.f a2 0 20000).bind fun t120 => (some t120)) else (some false))) = some r := by rw [if_pos rfl] at H; exact H
  clear H; have H := H1; clear H1; replace H := Option.bind_eq_some_iff.mp H; obtain ⟨t119, A60, H⟩ := H; replace H : (if t119 = true then ((spec_l1In.f a2 0 20000).bind fun t120 => (some t120)) else (some false)) = some r := H; have A6 := az A60; clear A60; by_cases c7 : t119 = true
  ·
   subst c7; have H1 : ((spec_l1In.f a2 0 20000).bind fun t120 => (some t120)) = some r := by rw [if_pos rfl] at H; exact H
   clear H; have H := H1; clear H1; replace H := Option.bind_eq_some_iff.mp H; obtain ⟨t120, A80, H⟩ := H; replace H : (some t120) = some r := H; have A8 := az A80; clear A80; obtain rfl := Option.some.inj H; go_enter Tryz.func35, Tryz.ntmps35; go_wp2_with (first | ((with_reducible refine gate_callee (f := 68) rfl ?_); refine goesL_ (some 8) rfl rfl Tryz.func68 (by kernel_rfl) rfl #[.slice A0 l0.length c0] rfl zC ?_; (with_reducible refine (spec_l1Ok.calls k _ _ l0 true _ ?side1 ?side2 A4.out).mono ?_); (case side1 => exact (zP HR0.out)); (case side2 => exact HC0.out); rintro e w' ⟨rfl, ⟨nd, rfl⟩⟩; refine ⟨_, rfl, ?_⟩) | (go_at_call 69; (with_reducible refine (spec_SpansOk.calls k _ _ l1 (l0.length : Int) true _ ?side1 ?side2 A6.out).mono ?_); (case side1 => exact (zP HR1.out)); (case side2 => exact HC1.out); rintro e w9 ⟨rfl, hb⟩; have n0_ := az (below_step (zA HB.out) hb); clear HB; have HB := n0_; clear n0_; (try clear hb); (try clear hb2); (try clear hk); (try clear hi)) | (go_at_call 36; (with_reducible refine (spec_l1In.calls a2 0 20000 t120 _ A8.out).mono ?_); rintro e w' ⟨rfl, ⟨nd, rfl⟩⟩)); go_ret; exact ⟨zG, zA HB.out⟩
  ·
   replace c7 := Bool.eq_false_iff.mpr c7; subst c7; have H1 : (some false) = some r := by rw [if_neg (show ¬ (false = true) by decide)] at H; exact H
   clear H; have H := H1; clear H1; obtain rfl := Option.some.inj H; go_enter Tryz.func35, Tryz.ntmps35; go_wp2_with (first | ((with_reducible refine gate_callee (f := 68) rfl ?_); refine goesL_ (some 8) rfl rfl Tryz.func68 (by kernel_rfl) rfl #[.slice A0 l0.length c0] rfl zC ?_; (with_reducible refine (spec_l1Ok.calls k _ _ l0 true _ ?side1 ?side2 A4.out).mono ?_); (case side1 => exact (zP HR0.out)); (case side2 => exact HC0.out); rintro e w' ⟨rfl, ⟨nd, rfl⟩⟩; refine ⟨_, rfl, ?_⟩) | (go_at_call 69; (with_reducible refine (spec_SpansOk.calls k _ _ l1 (l0.length : Int) false _ ?side1 ?side2 A6.out).mono ?_); (case side1 => exact (zP HR1.out)); (case side2 => exact HC1.out); rintro e w10 ⟨rfl, hb⟩; have n0_ := az (below_step (zA HB.out) hb); clear HB; have HB := n0_; clear n0_; (try clear hb); (try clear hb2); (try clear hk); (try clear hi))); go_ret; exact ⟨zG, zA HB.out⟩
 ·
  replace c5 := Bool.eq_false_iff.mpr c5; subst c5; have H1 : (some false) = some r := by rw [if_neg (show ¬ (false = true) by decide)] at H; exact H
  clear H; have H := H1; clear H1; obtain rfl := Option.some.inj H; go_enter Tryz.func35, Tryz.ntmps35; go_wp2_with (first | ((with_reducible refine gate_callee (f := 68) rfl ?_); refine goesL_ (some 8) rfl rfl Tryz.func68 (by kernel_rfl) rfl #[.slice A0 l0.length c0] rfl zC ?_; (with_reducible refine (spec_l1Ok.calls k _ _ l0 false _ ?side1 ?side2 A4.out).mono ?_); (case side1 => exact (zP HR0.out)); (case side2 => exact HC0.out); rintro e w' ⟨rfl, ⟨nd, rfl⟩⟩; refine ⟨_, rfl, ?_⟩)); go_ret; exact ⟨zG, zA HB.out⟩
def spec_l1Moves.l0 : Nat → Int → List Int → Int → Option (Int)
 | 0, _, _, _ => none
 | k + 1, x0, x3, x4 => if x4 < (x3.length : Int) then (if 0 ≤ x4 then (if (rd x3 x4) = x0 then (some (wrap64 (14 + x4))) else (spec_l1Moves.l0 k x0 x3 (wrap64 (x4 + 1)))) else (none)) else (some 13)
def spec_l1Moves.f (k : Nat) (a0 : Int) : Option (Int) := spec_l1Moves.l0 k a0 (([8234, 8235, 8236, 8237, 8238, 8294, 8295, 8296, 8297] : List Int)) 0
theorem spec_l1Moves.mono_l : ∀ k, (∀ y0 y1 y2, LeO (spec_l1Moves.l0 k y0 y1 y2) (spec_l1Moves.l0 (k + 1) y0 y1 y2))
 | 0 => fun _ _ _ r h => by simp [spec_l1Moves.l0] at h
 | k + 1 => by
  have ih0 := spec_l1Moves.mono_l k
  ·
   intro y0 y1 y2; unfold spec_l1Moves.l0
   repeat' first
   | (with_reducible exact ih0 _ _ _)
   | (with_reducible exact LeO.refl _)
   | (with_reducible exact LeO.none _)
   | (with_reducible refine LeO.ite ?_ ?_)
   | (with_reducible refine LeO.bind ?_ (fun _ => ?_))
   | exact ih0 _ _ _
   | exact LeO.none _
   | refine LeO.ite ?_ ?_
   | refine LeO.bind ?_ (fun _ => ?_)
theorem spec_l1Moves.mono : ∀ a0 k, LeO (spec_l1Moves.f k a0) (spec_l1Moves.f (k + 1) a0) := by
 intro a0 k; have ih0 := spec_l1Moves.mono_l k; unfold spec_l1Moves.f
 repeat' first
   | (with_reducible exact ih0 _ _ _)
   | (with_reducible exact LeO.refl _)
   | (with_reducible exact LeO.none _)
   | (with_reducible refine LeO.ite ?_ ?_)
   | (with_reducible refine LeO.bind ?_ (fun _ => ?_))
   | exact ih0 _ _ _
   | exact LeO.none _
   | refine LeO.ite ?_ ?_
   | refine LeO.bind ?_ (fun _ => ?_)
theorem spec_l1Moves.calls (k : Nat) (a0 : Int) (r : Int) (w : World) (h : spec_l1Moves.f k a0 = some r) :
  Calls Tryz.prog 146 #[.int .i64 a0] w fun e w' => e = .returned (.int .i64 r) ∧ Below w.heap.size w w' := by
 have HB := az (Below.refl w.heap.size w); have H : (spec_l1Moves.l0 k a0 (([8234, 8235, 8236, 8237, 8238, 8294, 8295, 8296, 8297] : List Int)) 0) = some r := h; clear h; obtain ⟨y121, hy121⟩ : ∃ y_ : List Int, y_ = (([8234, 8235, 8236, 8237, 8238, 8294, 8295, 8296, 8297] : List Int)) := ⟨_, rfl⟩; replace H : (spec_l1Moves.l0 k a0 y121 0) = some r := by first | (rw [hy121]; with_reducible exact H) | (have H2_ := (Option.bind_some _ _).symm.trans H; rw [hy121]; with_reducible exact H2_) | (have H2_ := (Option.bind_some _ _).symm.trans H; with_reducible exact H2_) | with_reducible exact H | (rw [hy121]; exact H) | exact H
 have Ny121 := az hy121; clear hy121; have H' := az H; clear H; go_enter Tryz.func146, Tryz.ntmps146; go_wp2_with (first | ((with_reducible refine gate_dst (N := 5) rfl ?_); refine Kd.R_lit (Kd.int .i64) _ 3 ?hg (N := 5) ?hd (xs := ([8234, 8235, 8236, 8237, 8238, 8294, 8295, 8296, 8297] : List Int)) (inner := [.int .i64 8234, .int .i64 8235, .int .i64 8236, .int .i64 8237, .int .i64 8238, .int .i64 8294, .int .i64 8295, .int .i64 8296, .int .i64 8297]) (ok := fun _ => True) (okp := fun _ => True) ?hr ?hp (fun _ hk => hk) trivial (Below.refl _ _) (Nat.le_refl _) (by simp) ?_; (case hd => rfl); (case hg => rfl); (case hr => first | (go_simp; done) | (go_simp; rfl)); (case hp => exact (Reps.one (show Kd.M (Kd.int .i64) _ _ _ 8234 [.int .i64 8234] from rfl) (Reps.one (show Kd.M (Kd.int .i64) _ _ _ 8235 [.int .i64 8235] from rfl) (Reps.one (show Kd.M (Kd.int .i64) _ _ _ 8236 [.int .i64 8236] from rfl) (Reps.one (show Kd.M (Kd.int .i64) _ _ _ 8237 [.int .i64 8237] from rfl) (Reps.one (show Kd.M (Kd.int .i64) _ _ _ 8238 [.int .i64 8238] from rfl) (Reps.one (show Kd.M (Kd.int .i64) _ _ _ 8294 [.int .i64 8294] from rfl) (Reps.one (show Kd.M (Kd.int .i64) _ _ _ 8295 [.int .i64 8295] from rfl) (Reps.one (show Kd.M (Kd.int .i64) _ _ _ 8296 [.int .i64 8296] from rfl) (Reps.one (show Kd.M (Kd.int .i64) _ _ _ 8297 [.int .i64 8297] from rfl) (Reps.none _ _))))))))))); intro v122 w2 ho3 hb hg_ hnew_; clear hg_ hnew_; (first | rw [← Ny121.out] at ho3 | (simp only [Int.reduceToNat] at ho3; rw [← Ny121.out] at ho3)); have n0_ := az (Kd.R_lower ho3 (below_size (zA HB.out))); have n1_ := az (below_step (zA HB.out) hb); clear HB; have HO123 := n0_; have HB := n1_; clear n0_ n1_; clear hb ho3)); go_loopg [4] k (fun kq v4 w' => ∃ (x4_1 : Int), v4 = .int .i64 x4_1 ∧ Aside0 (spec_l1Moves.l0 kq a0 y121 x4_1 = some r) ∧ Aside0 (kq ≤ k) ∧ Aside0 (Kd.R (Kd.int .i64) 3 w' w.heap.size (fun _ => True) v122 y121) ∧ Aside0 (Below w.heap.size w w'))
 case atStart => exact ⟨(0), zB, H', ⟨Nat.le_refl _⟩, ⟨zF HO123.out⟩, ⟨zA HB.out⟩⟩
 case round =>
  clear H'; (try clear c1); (try clear p2); obtain ⟨x4_1, rfl, HA, HK1, HO_3, HB⟩ := hrel
  cases gk with
  | zero => exact absurd HA.out (by simp [spec_l1Moves.l0])
  | succ k1 =>
   have H := HA.out; clear HA; simp only [spec_l1Moves.l0] at H; by_cases c4 : x4_1 < (y121.length : Int)
   ·
    rw [if_pos c4] at H; have c4b0 : decide (x4_1 < (y121.length : Int)) = true := decide_eq_true c4; clear c4; by_cases c5 : 0 ≤ x4_1
    ·
     rw [if_pos c5] at H; have c5b0 : decide (0 ≤ x4_1) = true := decide_eq_true c5; clear c5; by_cases c6 : (rd y121 x4_1) = a0
     ·
      rw [if_pos c6] at H; have c6b0 : ((rd y121 x4_1) == a0) = true := beq_iff_eq.mpr c6; have c6b1 : ((rd y121 x4_1) != a0) = false := bne_eq_false_iff_eq.mpr c6; clear c6; obtain rfl := Option.some.inj H; obtain ⟨Ao7, co7, eo7⟩ := Kd.R_slice HO_3.out; subst eo7; have p124 : 0 ≤ (x4_1 : Int) := of_decide_eq_true (by assumption); have q124 : x4_1 < (y121.length : Int) := of_decide_eq_true (by assumption); obtain ⟨ad124, e124, hx124_0⟩ := Kd.at_int (Kd.R_reads' HO_3.out).2.2 x4_1 p124 q124
      cases e124
      replace p124 := eq_true p124; replace q124 := eq_true q124; go_wp2; go_ret; exact ⟨zG, zA HB.out⟩
     ·
      rw [if_neg c6] at H; have c6b0 : ((rd y121 x4_1) == a0) = false := beq_eq_false_iff_ne.mpr c6; have c6b1 : ((rd y121 x4_1) != a0) = true := bne_iff_ne.mpr c6; have H' := az H; clear H; obtain ⟨Ao8, co8, eo8⟩ := Kd.R_slice HO_3.out; subst eo8; have p124 : 0 ≤ (x4_1 : Int) := of_decide_eq_true (by assumption); have q124 : x4_1 < (y121.length : Int) := of_decide_eq_true (by assumption); obtain ⟨ad124, e124, hx124_0⟩ := Kd.at_int (Kd.R_reads' HO_3.out).2.2 x4_1 p124 q124
      cases e124
      replace p124 := eq_true p124; replace q124 := eq_true q124; go_wp2; go_roundg k1
      case measure => have := HK1.out; omega
      case rel => exact ⟨(wrap64 (x4_1 + 1)), zB, H', ⟨zE HK1.out⟩, ⟨zF HO_3.out⟩, ⟨zA HB.out⟩⟩
    ·
     rw [if_neg c5] at H; exact absurd H (by simp)
   ·
    rw [if_neg c4] at H; have c4b0 : decide (x4_1 < (y121.length : Int)) = false := decide_eq_false c4; clear c4; obtain rfl := Option.some.inj H; obtain ⟨Ao9, co9, eo9⟩ := Kd.R_slice HO_3.out; subst eo9; go_wp2; go_ret; exact ⟨zG, zA HB.out⟩
mutual
def spec_l1Signs.j0 : Nat → Int → Bool → Option (Int)
 | 0, _, _ => none
 | k + 1, x0, x3 => if x3 = true then (some 5) else ((spec_l1In.f x0 35 37).bind fun t125 => (if t125 = true then (some 6) else (if x0 = 44 then (spec_l1Signs.j1 k x0 true) else (if x0 = 46 then (spec_l1Signs.j1 k x0 true) else (if x0 = 47 then (spec_l1Signs.j1 k x0 true) else (spec_l1Signs.j1 k x0 (x0 == 58)))))))
def spec_l1Signs.j1 : Nat → Int → Bool → Option (Int)
 | 0, _, _ => none
 | k + 1, x0, x13 => if x13 = true then (some 8) else ((spec_l1In.f x0 768 879).bind fun t126 => (if t126 = true then (some 9) else (if x0 = 8203 then (spec_l1Signs.j2 k x0 true) else (if x0 = 8205 then (spec_l1Signs.j2 k x0 true) else (spec_l1Signs.j2 k x0 (x0 == 173))))))
def spec_l1Signs.j2 : Nat → Int → Bool → Option (Int)
 | 0, _, _ => none
 | k + 1, x0, x31 => if x31 = true then (some 10) else (if x0 = 9 then (some 11) else (if x0 = 32 then (some 12) else ((spec_l1Moves.f k x0).bind fun t127 => (some t127))))
end
def spec_l1Signs.f (k : Nat) (a0 : Int) : Option (Int) := if a0 = 43 then (spec_l1Signs.j0 k a0 true) else (spec_l1Signs.j0 k a0 (a0 == 45))
theorem spec_l1Signs.mono_l : ∀ k, (∀ y0 y1, LeO (spec_l1Signs.j0 k y0 y1) (spec_l1Signs.j0 (k + 1) y0 y1)) ∧ (∀ y0 y1, LeO (spec_l1Signs.j1 k y0 y1) (spec_l1Signs.j1 (k + 1) y0 y1)) ∧ (∀ y0 y1, LeO (spec_l1Signs.j2 k y0 y1) (spec_l1Signs.j2 (k + 1) y0 y1))
 | 0 => ⟨fun _ _ r h => by simp [spec_l1Signs.j0] at h, fun _ _ r h => by simp [spec_l1Signs.j1] at h, fun _ _ r h => by simp [spec_l1Signs.j2] at h⟩
 | k + 1 => by
  obtain ⟨ih0, ih1, ih2⟩ := spec_l1Signs.mono_l k; refine ⟨?_, ?_, ?_⟩
  ·
   intro y0 y1; unfold spec_l1Signs.j0
   repeat' first
   | (with_reducible exact ih0 _ _)
   | (with_reducible exact ih1 _ _)
   | (with_reducible exact ih2 _ _)
   | (with_reducible exact spec_l1Moves.mono _ _)
   | (with_reducible exact LeO.refl _)
   | (with_reducible exact LeO.none _)
   | (with_reducible refine LeO.ite ?_ ?_)
   | (with_reducible refine LeO.bind ?_ (fun _ => ?_))
   | exact ih0 _ _
   | exact ih1 _ _
   | exact ih2 _ _
   | exact spec_l1Moves.mono _ _
   | exact LeO.none _
   | refine LeO.ite ?_ ?_
   | refine LeO.bind ?_ (fun _ => ?_)
  ·
   intro y0 y1; unfold spec_l1Signs.j1
   repeat' first
   | (with_reducible exact ih0 _ _)
   | (with_reducible exact ih1 _ _)
   | (with_reducible exact ih2 _ _)
   | (with_reducible exact spec_l1Moves.mono _ _)
   | (with_reducible exact LeO.refl _)
   | (with_reducible exact LeO.none _)
   | (with_reducible refine LeO.ite ?_ ?_)
   | (with_reducible refine LeO.bind ?_ (fun _ => ?_))
   | exact ih0 _ _
   | exact ih1 _ _
   | exact ih2 _ _
   | exact spec_l1Moves.mono _ _
   | exact LeO.none _
   | refine LeO.ite ?_ ?_
   | refine LeO.bind ?_ (fun _ => ?_)
  ·
   intro y0 y1; unfold spec_l1Signs.j2
   repeat' first
   | (with_reducible exact ih0 _ _)
   | (with_reducible exact ih1 _ _)
   | (with_reducible exact ih2 _ _)
   | (with_reducible exact spec_l1Moves.mono _ _)
   | (with_reducible exact LeO.refl _)
   | (with_reducible exact LeO.none _)
   | (with_reducible refine LeO.ite ?_ ?_)
   | (with_reducible refine LeO.bind ?_ (fun _ => ?_))
   | exact ih0 _ _
   | exact ih1 _ _
   | exact ih2 _ _
   | exact spec_l1Moves.mono _ _
   | exact LeO.none _
   | refine LeO.ite ?_ ?_
   | refine LeO.bind ?_ (fun _ => ?_)
theorem spec_l1Signs.mono : ∀ a0 k, LeO (spec_l1Signs.f k a0) (spec_l1Signs.f (k + 1) a0) := by
 intro a0 k; obtain ⟨ih0, ih1, ih2⟩ := spec_l1Signs.mono_l k; unfold spec_l1Signs.f
 repeat' first
   | (with_reducible exact ih0 _ _)
   | (with_reducible exact ih1 _ _)
   | (with_reducible exact ih2 _ _)
   | (with_reducible exact spec_l1Moves.mono _ _)
   | (with_reducible exact LeO.refl _)
   | (with_reducible exact LeO.none _)
   | (with_reducible refine LeO.ite ?_ ?_)
   | (with_reducible refine LeO.bind ?_ (fun _ => ?_))
   | exact ih0 _ _
   | exact ih1 _ _
   | exact ih2 _ _
   | exact spec_l1Moves.mono _ _
   | exact LeO.none _
   | refine LeO.ite ?_ ?_
   | refine LeO.bind ?_ (fun _ => ?_)
theorem spec_l1Signs.calls (k : Nat) (a0 : Int) (r : Int) (w : World) (h : spec_l1Signs.f k a0 = some r) :
  Calls Tryz.prog 144 #[.int .i64 a0] w fun e w' => e = .returned (.int .i64 r) ∧ Below w.heap.size w w' := by
 have HB := az (Below.refl w.heap.size w); have H : (if a0 = 43 then (spec_l1Signs.j0 k a0 true) else (spec_l1Signs.j0 k a0 (a0 == 45))) = some r := h; clear h; have HC2 := az H; clear H; go_enter Tryz.func144, Tryz.ntmps144; go_upto_region 1 with (fail)
 go_cut [3] (fun v3 wc => ∃ (kq : Nat) (x3_1 : Bool), v3 = .bool x3_1 ∧ Aside0 (spec_l1Signs.j0 kq a0 x3_1 = some r) ∧ Aside0 (kq ≤ k) ∧ Aside0 (Below w.heap.size w wc))
 case first =>
  have H := HC2.out; clear HC2; by_cases c3 : a0 = 43
  ·
   rw [if_pos c3] at H; have c3b0 : (a0 == 43) = true := beq_iff_eq.mpr c3; have c3b1 : (a0 != 43) = false := bne_eq_false_iff_eq.mpr c3; clear c3; (first | rw [c3b0] | (simp only [i64_w, i32_w]; rw [c3b0]) | skip); have H' := az H; clear H; go_wp2; go_meet
   case rel => exact ⟨_, (true), zB, H', ⟨zJ⟩, ⟨zA HB.out⟩⟩
  ·
   rw [if_neg c3] at H; have c3b0 : (a0 == 43) = false := beq_eq_false_iff_ne.mpr c3; have c3b1 : (a0 != 43) = true := bne_iff_ne.mpr c3; (first | rw [c3b0] | (simp only [i64_w, i32_w]; rw [c3b0]) | skip); have H' := az H; clear H; go_wp2; go_meet
   case rel => exact ⟨_, ((a0 == 45)), zB, H', ⟨zJ⟩, ⟨zA HB.out⟩⟩
 case rest =>
  clear HC2; (try clear c1); (try clear p2); (try clear c3); (try clear c3b0); (try clear c3b1); obtain ⟨kq, x3_1, rfl, HA, HJ1, HB⟩ := hcut
  cases kq with
  | zero => exact absurd HA.out (by simp [spec_l1Signs.j0])
  | succ kj1 =>
   have H := HA.out; clear HA; simp only [spec_l1Signs.j0] at H; by_cases c4 : x3_1 = true
   ·
    subst c4; have H1 : (some 5) = some r := by rw [if_pos rfl] at H; exact H
    clear H; have H := H1; clear H1; obtain rfl := Option.some.inj H; go_wp2; go_ret; exact ⟨zG, zA HB.out⟩
   ·
    replace c4 := Bool.eq_false_iff.mpr c4; subst c4; have H1 : ((spec_l1In.f a0 35 37).bind fun t125 => (if t125 = true then (some 6) else (if a0 = 44 then (spec_l1Signs.j1 kj1 a0 true) else (if a0 = 46 then (spec_l1Signs.j1 kj1 a0 true) else (if a0 = 47 then (spec_l1Signs.j1 kj1 a0 true) else (spec_l1Signs.j1 kj1 a0 (a0 == 58))))))) = some r := by rw [if_neg (show ¬ (false = true) by decide)] at H; exact H
    clear H; have H := H1; clear H1; replace H := Option.bind_eq_some_iff.mp H; obtain ⟨t125, A50, H⟩ := H; replace H : (if t125 = true then (some 6) else (if a0 = 44 then (spec_l1Signs.j1 kj1 a0 true) else (if a0 = 46 then (spec_l1Signs.j1 kj1 a0 true) else (if a0 = 47 then (spec_l1Signs.j1 kj1 a0 true) else (spec_l1Signs.j1 kj1 a0 (a0 == 58)))))) = some r := H; have A5 := az A50; clear A50; by_cases c6 : t125 = true
    ·
     subst c6; have H1 : (some 6) = some r := by rw [if_pos rfl] at H; exact H
     clear H; have H := H1; clear H1; obtain rfl := Option.some.inj H; go_wp2_with (first | ((with_reducible refine gate_callee (f := 36) rfl ?_); refine goesL_ (some 12) rfl rfl Tryz.func36 (by kernel_rfl) rfl #[.int .i64 a0, .int .i64 35, .int .i64 37] rfl zC ?_; (with_reducible refine (spec_l1In.calls a0 35 37 true _ A5.out).mono ?_); rintro e w' ⟨rfl, ⟨nd, rfl⟩⟩; refine ⟨_, rfl, ?_⟩)); go_ret; exact ⟨zG, zA HB.out⟩
    ·
     replace c6 := Bool.eq_false_iff.mpr c6; subst c6; have H1 : (if a0 = 44 then (spec_l1Signs.j1 kj1 a0 true) else (if a0 = 46 then (spec_l1Signs.j1 kj1 a0 true) else (if a0 = 47 then (spec_l1Signs.j1 kj1 a0 true) else (spec_l1Signs.j1 kj1 a0 (a0 == 58))))) = some r := by rw [if_neg (show ¬ (false = true) by decide)] at H; exact H
     clear H; have H := H1; clear H1; have HC7 := az H; clear H; go_upto_region 5 with (first | ((with_reducible refine gate_callee (f := 36) rfl ?_); refine goesL_ (some 12) rfl rfl Tryz.func36 (by kernel_rfl) rfl #[.int .i64 a0, .int .i64 35, .int .i64 37] rfl zC ?_; (with_reducible refine (spec_l1In.calls a0 35 37 false _ A5.out).mono ?_); rintro e w' ⟨rfl, ⟨nd, rfl⟩⟩; refine ⟨_, rfl, ?_⟩))
     (try simp only [Act.put, List.setIfInBounds_toArray, List.set_cons_zero, List.set_cons_succ]); go_cut [13] (fun v13 wc => ∃ (kq : Nat) (x13_6 : Bool), v13 = .bool x13_6 ∧ Aside0 (spec_l1Signs.j1 kq a0 x13_6 = some r) ∧ Aside0 (kq ≤ kj1) ∧ Aside0 (Below w.heap.size w wc))
     case first =>
      have H := HC7.out; clear HC7; by_cases c8 : a0 = 44
      ·
       rw [if_pos c8] at H; have c8b0 : (a0 == 44) = true := beq_iff_eq.mpr c8; have c8b1 : (a0 != 44) = false := bne_eq_false_iff_eq.mpr c8; clear c8; (first | rw [c8b0] | (simp only [i64_w, i32_w]; rw [c8b0]) | skip); have H' := az H; clear H; go_wp2; go_meet
       case rel => exact ⟨_, (true), zB, H', ⟨zK HJ1.out⟩, ⟨zA HB.out⟩⟩
      ·
       rw [if_neg c8] at H; have c8b0 : (a0 == 44) = false := beq_eq_false_iff_ne.mpr c8; have c8b1 : (a0 != 44) = true := bne_iff_ne.mpr c8; (first | rw [c8b0] | (simp only [i64_w, i32_w]; rw [c8b0]) | skip); by_cases c9 : a0 = 46
       ·
        rw [if_pos c9] at H; have c9b0 : (a0 == 46) = true := beq_iff_eq.mpr c9; have c9b1 : (a0 != 46) = false := bne_eq_false_iff_eq.mpr c9; clear c9; have H' := az H; clear H; go_wp2; go_meet
        case rel => exact ⟨_, (true), zB, H', ⟨zK HJ1.out⟩, ⟨zA HB.out⟩⟩
       ·
        rw [if_neg c9] at H; have c9b0 : (a0 == 46) = false := beq_eq_false_iff_ne.mpr c9; have c9b1 : (a0 != 46) = true := bne_iff_ne.mpr c9; by_cases c10 : a0 = 47
        ·
         rw [if_pos c10] at H; have c10b0 : (a0 == 47) = true := beq_iff_eq.mpr c10; have c10b1 : (a0 != 47) = false := bne_eq_false_iff_eq.mpr c10; clear c10; have H' := az H; clear H; go_wp2; go_meet
         case rel => exact ⟨_, (true), zB, H', ⟨zK HJ1.out⟩, ⟨zA HB.out⟩⟩
        ·
         rw [if_neg c10] at H; have c10b0 : (a0 == 47) = false := beq_eq_false_iff_ne.mpr c10; have c10b1 : (a0 != 47) = true := bne_iff_ne.mpr c10; have H' := az H; clear H; go_wp2; go_meet
         case rel => exact ⟨_, ((a0 == 58)), zB, H', ⟨zK HJ1.out⟩, ⟨zA HB.out⟩⟩
     case rest =>
      clear HC7; (try clear c1); (try clear p2); (try clear c3); (try clear c3b0); (try clear c3b1); (try clear c4); (try clear c6); (try clear c8); (try clear c8b0); (try clear c8b1); (try clear c9); (try clear c9b0); (try clear c9b1); (try clear c10); (try clear c10b0); (try clear c10b1); (try clear p2); obtain ⟨kq, x13_6, rfl, HA, HJ6, HB⟩ := hcut
      cases kq with
      | zero => exact absurd HA.out (by simp [spec_l1Signs.j1])
      | succ kj6 =>
       have H := HA.out; clear HA; simp only [spec_l1Signs.j1] at H; by_cases c11 : x13_6 = true
       ·
        subst c11; have H1 : (some 8) = some r := by rw [if_pos rfl] at H; exact H
        clear H; have H := H1; clear H1; obtain rfl := Option.some.inj H; go_wp2; go_ret; exact ⟨zG, zA HB.out⟩
       ·
        replace c11 := Bool.eq_false_iff.mpr c11; subst c11; have H1 : ((spec_l1In.f a0 768 879).bind fun t126 => (if t126 = true then (some 9) else (if a0 = 8203 then (spec_l1Signs.j2 kj6 a0 true) else (if a0 = 8205 then (spec_l1Signs.j2 kj6 a0 true) else (spec_l1Signs.j2 kj6 a0 (a0 == 173)))))) = some r := by rw [if_neg (show ¬ (false = true) by decide)] at H; exact H
        clear H; have H := H1; clear H1; replace H := Option.bind_eq_some_iff.mp H; obtain ⟨t126, A120, H⟩ := H; replace H : (if t126 = true then (some 9) else (if a0 = 8203 then (spec_l1Signs.j2 kj6 a0 true) else (if a0 = 8205 then (spec_l1Signs.j2 kj6 a0 true) else (spec_l1Signs.j2 kj6 a0 (a0 == 173))))) = some r := H; have A12 := az A120; clear A120; by_cases c13 : t126 = true
        ·
         subst c13; have H1 : (some 9) = some r := by rw [if_pos rfl] at H; exact H
         clear H; have H := H1; clear H1; obtain rfl := Option.some.inj H; go_wp2_with (first | ((with_reducible refine gate_callee (f := 36) rfl ?_); refine goesL_ (some 30) rfl rfl Tryz.func36 (by kernel_rfl) rfl #[.int .i64 a0, .int .i64 768, .int .i64 879] rfl zC ?_; (with_reducible refine (spec_l1In.calls a0 768 879 true _ A12.out).mono ?_); rintro e w' ⟨rfl, ⟨nd, rfl⟩⟩; refine ⟨_, rfl, ?_⟩)); go_ret; exact ⟨zG, zA HB.out⟩
        ·
         replace c13 := Bool.eq_false_iff.mpr c13; subst c13; have H1 : (if a0 = 8203 then (spec_l1Signs.j2 kj6 a0 true) else (if a0 = 8205 then (spec_l1Signs.j2 kj6 a0 true) else (spec_l1Signs.j2 kj6 a0 (a0 == 173)))) = some r := by rw [if_neg (show ¬ (false = true) by decide)] at H; exact H
         clear H; have H := H1; clear H1; have HC14 := az H; clear H; go_upto_region 9 with (first | ((with_reducible refine gate_callee (f := 36) rfl ?_); refine goesL_ (some 30) rfl rfl Tryz.func36 (by kernel_rfl) rfl #[.int .i64 a0, .int .i64 768, .int .i64 879] rfl zC ?_; (with_reducible refine (spec_l1In.calls a0 768 879 false _ A12.out).mono ?_); rintro e w' ⟨rfl, ⟨nd, rfl⟩⟩; refine ⟨_, rfl, ?_⟩))
         (try simp only [Act.put, List.setIfInBounds_toArray, List.set_cons_zero, List.set_cons_succ]); go_cut [31] (fun v31 wc => ∃ (kq : Nat) (x31_13 : Bool), v31 = .bool x31_13 ∧ Aside0 (spec_l1Signs.j2 kq a0 x31_13 = some r) ∧ Aside0 (kq ≤ kj6) ∧ Aside0 (Below w.heap.size w wc))
         case first =>
          have H := HC14.out; clear HC14; by_cases c15 : a0 = 8203
          ·
           rw [if_pos c15] at H; have c15b0 : (a0 == 8203) = true := beq_iff_eq.mpr c15; have c15b1 : (a0 != 8203) = false := bne_eq_false_iff_eq.mpr c15; clear c15; (first | rw [c15b0] | (simp only [i64_w, i32_w]; rw [c15b0]) | skip); have H' := az H; clear H; go_wp2; go_meet
           case rel => exact ⟨_, (true), zB, H', ⟨zM HJ1.out HJ6.out⟩, ⟨zA HB.out⟩⟩
          ·
           rw [if_neg c15] at H; have c15b0 : (a0 == 8203) = false := beq_eq_false_iff_ne.mpr c15; have c15b1 : (a0 != 8203) = true := bne_iff_ne.mpr c15; (first | rw [c15b0] | (simp only [i64_w, i32_w]; rw [c15b0]) | skip); by_cases c16 : a0 = 8205
           ·
            rw [if_pos c16] at H; have c16b0 : (a0 == 8205) = true := beq_iff_eq.mpr c16; have c16b1 : (a0 != 8205) = false := bne_eq_false_iff_eq.mpr c16; clear c16; have H' := az H; clear H; go_wp2; go_meet
            case rel => exact ⟨_, (true), zB, H', ⟨zM HJ1.out HJ6.out⟩, ⟨zA HB.out⟩⟩
           ·
            rw [if_neg c16] at H; have c16b0 : (a0 == 8205) = false := beq_eq_false_iff_ne.mpr c16; have c16b1 : (a0 != 8205) = true := bne_iff_ne.mpr c16; have H' := az H; clear H; go_wp2; go_meet
            case rel => exact ⟨_, ((a0 == 173)), zB, H', ⟨zM HJ1.out HJ6.out⟩, ⟨zA HB.out⟩⟩
         case rest =>
          clear HC14; (try clear c1); (try clear p2); (try clear c3); (try clear c3b0); (try clear c3b1); (try clear c4); (try clear c6); (try clear c8); (try clear c8b0); (try clear c8b1); (try clear c9); (try clear c9b0); (try clear c9b1); (try clear c10); (try clear c10b0); (try clear c10b1); (try clear c11); (try clear c13); (try clear c14); (try clear c15); (try clear c15b0); (try clear c15b1); (try clear c16); (try clear c16b0); (try clear c16b1); (try clear p2); obtain ⟨kq, x31_13, rfl, HA, HJ13, HB⟩ := hcut
          cases kq with
          | zero => exact absurd HA.out (by simp [spec_l1Signs.j2])
          | succ kj13 =>
           have H := HA.out; clear HA; simp only [spec_l1Signs.j2] at H; by_cases c17 : x31_13 = true
           ·
            subst c17; have H1 : (some 10) = some r := by rw [if_pos rfl] at H; exact H
            clear H; have H := H1; clear H1; obtain rfl := Option.some.inj H; go_wp2; go_ret; exact ⟨zG, zA HB.out⟩
           ·
            replace c17 := Bool.eq_false_iff.mpr c17; subst c17; have H1 : (if a0 = 9 then (some 11) else (if a0 = 32 then (some 12) else ((spec_l1Moves.f kj13 a0).bind fun t127 => (some t127)))) = some r := by rw [if_neg (show ¬ (false = true) by decide)] at H; exact H
            clear H; have H := H1; clear H1; by_cases c18 : a0 = 9
            ·
             rw [if_pos c18] at H; have c18b0 : (a0 == 9) = true := beq_iff_eq.mpr c18; have c18b1 : (a0 != 9) = false := bne_eq_false_iff_eq.mpr c18; clear c18; obtain rfl := Option.some.inj H; go_wp2; go_ret; exact ⟨zG, zA HB.out⟩
            ·
             rw [if_neg c18] at H; have c18b0 : (a0 == 9) = false := beq_eq_false_iff_ne.mpr c18; have c18b1 : (a0 != 9) = true := bne_iff_ne.mpr c18; by_cases c19 : a0 = 32
             ·
              rw [if_pos c19] at H; have c19b0 : (a0 == 32) = true := beq_iff_eq.mpr c19; have c19b1 : (a0 != 32) = false := bne_eq_false_iff_eq.mpr c19; clear c19; obtain rfl := Option.some.inj H; go_wp2; go_ret; exact ⟨zG, zA HB.out⟩
             ·
              rw [if_neg c19] at H; have c19b0 : (a0 == 32) = false := beq_eq_false_iff_ne.mpr c19; have c19b1 : (a0 != 32) = true := bne_iff_ne.mpr c19; replace H := Option.bind_eq_some_iff.mp H; obtain ⟨t127, A200, H⟩ := H; replace H : (some t127) = some r := H; have A20 := az A200; clear A200; obtain rfl := Option.some.inj H; go_wp2_with (first | ((with_reducible refine gate_callee (f := 146) rfl ?_); refine goesL_ (some 49) rfl rfl Tryz.func146 (by kernel_rfl) rfl #[.int .i64 a0] rfl zC ?_; (with_reducible refine (spec_l1Moves.calls kj13 a0 t127 _ A20.out).mono ?_); rintro e w21 ⟨rfl, hb⟩; refine ⟨_, rfl, ?_⟩; have n0_ := az (below_step (zA HB.out) hb); clear HB; have HB := n0_; clear n0_; (try clear hb); (try clear hb2); (try clear hk); (try clear hi))); go_ret; exact ⟨zG, zA HB.out⟩
def spec_RuneBidi.j0 : Nat → Int → Bool → Option (Int)
 | 0, _, _ => none
 | k + 1, x0, x3 => if x3 = true then (some 1) else ((spec_l1In.f x0 1488 1514).bind fun t131 => (if t131 = true then (some 2) else ((spec_l1In.f x0 1569 1610).bind fun t132 => (if t132 = true then (some 3) else ((spec_l1In.f x0 48 57).bind fun t133 => (if t133 = true then (some 4) else ((spec_l1In.f x0 1632 1641).bind fun t134 => (if t134 = true then (some 7) else ((spec_l1Signs.f k x0).bind fun t135 => (some t135))))))))))
def spec_RuneBidi.f (k : Nat) (a0 : Int) : Option (Int) := (spec_l1In.f a0 97 122).bind fun t128 => (if t128 = true then (spec_RuneBidi.j0 k a0 true) else ((spec_l1In.f a0 65 90).bind fun t129 => (if t129 = true then (spec_RuneBidi.j0 k a0 true) else ((spec_l1In.f a0 19968 40959).bind fun t130 => (spec_RuneBidi.j0 k a0 t130)))))
theorem spec_RuneBidi.mono_l : ∀ k, (∀ y0 y1, LeO (spec_RuneBidi.j0 k y0 y1) (spec_RuneBidi.j0 (k + 1) y0 y1))
 | 0 => fun _ _ r h => by simp [spec_RuneBidi.j0] at h
 | k + 1 => by
  have ih0 := spec_RuneBidi.mono_l k
  ·
   intro y0 y1; unfold spec_RuneBidi.j0
   repeat' first
   | (with_reducible exact ih0 _ _)
   | (with_reducible exact spec_l1Signs.mono _ _)
   | (with_reducible exact LeO.refl _)
   | (with_reducible exact LeO.none _)
   | (with_reducible refine LeO.ite ?_ ?_)
   | (with_reducible refine LeO.bind ?_ (fun _ => ?_))
   | exact ih0 _ _
   | exact spec_l1Signs.mono _ _
   | exact LeO.none _
   | refine LeO.ite ?_ ?_
   | refine LeO.bind ?_ (fun _ => ?_)
theorem spec_RuneBidi.mono : ∀ a0 k, LeO (spec_RuneBidi.f k a0) (spec_RuneBidi.f (k + 1) a0) := by
 intro a0 k; have ih0 := spec_RuneBidi.mono_l k; unfold spec_RuneBidi.f
 repeat' first
   | (with_reducible exact ih0 _ _)
   | (with_reducible exact spec_l1Signs.mono _ _)
   | (with_reducible exact LeO.refl _)
   | (with_reducible exact LeO.none _)
   | (with_reducible refine LeO.ite ?_ ?_)
   | (with_reducible refine LeO.bind ?_ (fun _ => ?_))
   | exact ih0 _ _
   | exact spec_l1Signs.mono _ _
   | exact LeO.none _
   | refine LeO.ite ?_ ?_
   | refine LeO.bind ?_ (fun _ => ?_)
theorem spec_RuneBidi.calls (k : Nat) (a0 : Int) (r : Int) (w : World) (h : spec_RuneBidi.f k a0 = some r) :
  Calls Tryz.prog 137 #[.int .i64 a0] w fun e w' => e = .returned (.int .i64 r) ∧ Below w.heap.size w w' := by
 have HB := az (Below.refl w.heap.size w); have H : ((spec_l1In.f a0 97 122).bind fun t128 => (if t128 = true then (spec_RuneBidi.j0 k a0 true) else ((spec_l1In.f a0 65 90).bind fun t129 => (if t129 = true then (spec_RuneBidi.j0 k a0 true) else ((spec_l1In.f a0 19968 40959).bind fun t130 => (spec_RuneBidi.j0 k a0 t130)))))) = some r := h; clear h; have HC2 := az H; clear H; go_enter Tryz.func137, Tryz.ntmps137; go_upto_region 1 with (fail)
 go_cut [3] (fun v3 wc => ∃ (kq : Nat) (x3_1 : Bool), v3 = .bool x3_1 ∧ Aside0 (spec_RuneBidi.j0 kq a0 x3_1 = some r) ∧ Aside0 (kq ≤ k) ∧ Aside0 (Below w.heap.size w wc))
 case first =>
  have H := HC2.out; clear HC2; replace H := Option.bind_eq_some_iff.mp H; obtain ⟨t128, A30, H⟩ := H; replace H : (if t128 = true then (spec_RuneBidi.j0 k a0 true) else ((spec_l1In.f a0 65 90).bind fun t129 => (if t129 = true then (spec_RuneBidi.j0 k a0 true) else ((spec_l1In.f a0 19968 40959).bind fun t130 => (spec_RuneBidi.j0 k a0 t130))))) = some r := H; have A3 := az A30; clear A30; by_cases c4 : t128 = true
  ·
   subst c4; have H1 : (spec_RuneBidi.j0 k a0 true) = some r := by rw [if_pos rfl] at H; exact H
   clear H; have H := H1; clear H1; have H' := az H; clear H; go_wp2_with (first | ((with_reducible refine gate_callee (f := 36) rfl ?_); refine goesL_ (some 5) rfl rfl Tryz.func36 (by kernel_rfl) rfl #[.int .i64 a0, .int .i64 97, .int .i64 122] rfl zC ?_; (with_reducible refine (spec_l1In.calls a0 97 122 true _ A3.out).mono ?_); rintro e w' ⟨rfl, ⟨nd, rfl⟩⟩; refine ⟨_, rfl, ?_⟩)); go_meet
   case rel => exact ⟨_, (true), zB, H', ⟨zJ⟩, ⟨zA HB.out⟩⟩
  ·
   replace c4 := Bool.eq_false_iff.mpr c4; subst c4; have H1 : ((spec_l1In.f a0 65 90).bind fun t129 => (if t129 = true then (spec_RuneBidi.j0 k a0 true) else ((spec_l1In.f a0 19968 40959).bind fun t130 => (spec_RuneBidi.j0 k a0 t130)))) = some r := by rw [if_neg (show ¬ (false = true) by decide)] at H; exact H
   clear H; have H := H1; clear H1; replace H := Option.bind_eq_some_iff.mp H; obtain ⟨t129, A50, H⟩ := H; replace H : (if t129 = true then (spec_RuneBidi.j0 k a0 true) else ((spec_l1In.f a0 19968 40959).bind fun t130 => (spec_RuneBidi.j0 k a0 t130))) = some r := H; have A5 := az A50; clear A50; by_cases c6 : t129 = true
   ·
    subst c6; have H1 : (spec_RuneBidi.j0 k a0 true) = some r := by rw [if_pos rfl] at H; exact H
    clear H; have H := H1; clear H1; have H' := az H; clear H; go_wp2_with (first | ((with_reducible refine gate_callee (f := 36) rfl ?_); refine goesL_ (some 5) rfl rfl Tryz.func36 (by kernel_rfl) rfl #[.int .i64 a0, .int .i64 97, .int .i64 122] rfl zC ?_; (with_reducible refine (spec_l1In.calls a0 97 122 false _ A3.out).mono ?_); rintro e w' ⟨rfl, ⟨nd, rfl⟩⟩; refine ⟨_, rfl, ?_⟩) | (go_at_call 36; (with_reducible refine (spec_l1In.calls a0 65 90 true _ A5.out).mono ?_); rintro e w' ⟨rfl, ⟨nd, rfl⟩⟩)); go_meet
    case rel => exact ⟨_, (true), zB, H', ⟨zJ⟩, ⟨zA HB.out⟩⟩
   ·
    replace c6 := Bool.eq_false_iff.mpr c6; subst c6; have H1 : ((spec_l1In.f a0 19968 40959).bind fun t130 => (spec_RuneBidi.j0 k a0 t130)) = some r := by rw [if_neg (show ¬ (false = true) by decide)] at H; exact H
    clear H; have H := H1; clear H1; replace H := Option.bind_eq_some_iff.mp H; obtain ⟨t130, A70, H⟩ := H; replace H : (spec_RuneBidi.j0 k a0 t130) = some r := H; have A7 := az A70; clear A70; have H' := az H; clear H; go_wp2_with (first | ((with_reducible refine gate_callee (f := 36) rfl ?_); refine goesL_ (some 5) rfl rfl Tryz.func36 (by kernel_rfl) rfl #[.int .i64 a0, .int .i64 97, .int .i64 122] rfl zC ?_; (with_reducible refine (spec_l1In.calls a0 97 122 false _ A3.out).mono ?_); rintro e w' ⟨rfl, ⟨nd, rfl⟩⟩; refine ⟨_, rfl, ?_⟩) | (go_at_call 36; (with_reducible refine (spec_l1In.calls a0 65 90 false _ A5.out).mono ?_); rintro e w' ⟨rfl, ⟨nd, rfl⟩⟩) | (go_at_call 36; (with_reducible refine (spec_l1In.calls a0 19968 40959 t130 _ A7.out).mono ?_); rintro e w' ⟨rfl, ⟨nd, rfl⟩⟩)); go_meet
    case rel => exact ⟨_, (t130), zB, H', ⟨zJ⟩, ⟨zA HB.out⟩⟩
 case rest =>
  clear HC2; (try clear c1); (try clear p2); (try clear c3); (try clear c4); (try clear c6); obtain ⟨kq, x3_1, rfl, HA, HJ1, HB⟩ := hcut
  cases kq with
  | zero => exact absurd HA.out (by simp [spec_RuneBidi.j0])
  | succ kj1 =>
   have H := HA.out; clear HA; simp only [spec_RuneBidi.j0] at H; by_cases c8 : x3_1 = true
   ·
    subst c8; have H1 : (some 1) = some r := by rw [if_pos rfl] at H; exact H
    clear H; have H := H1; clear H1; obtain rfl := Option.some.inj H; go_wp2; go_ret; exact ⟨zG, zA HB.out⟩
   ·
    replace c8 := Bool.eq_false_iff.mpr c8; subst c8; have H1 : ((spec_l1In.f a0 1488 1514).bind fun t131 => (if t131 = true then (some 2) else ((spec_l1In.f a0 1569 1610).bind fun t132 => (if t132 = true then (some 3) else ((spec_l1In.f a0 48 57).bind fun t133 => (if t133 = true then (some 4) else ((spec_l1In.f a0 1632 1641).bind fun t134 => (if t134 = true then (some 7) else ((spec_l1Signs.f kj1 a0).bind fun t135 => (some t135)))))))))) = some r := by rw [if_neg (show ¬ (false = true) by decide)] at H; exact H
    clear H; have H := H1; clear H1; replace H := Option.bind_eq_some_iff.mp H; obtain ⟨t131, A90, H⟩ := H; replace H : (if t131 = true then (some 2) else ((spec_l1In.f a0 1569 1610).bind fun t132 => (if t132 = true then (some 3) else ((spec_l1In.f a0 48 57).bind fun t133 => (if t133 = true then (some 4) else ((spec_l1In.f a0 1632 1641).bind fun t134 => (if t134 = true then (some 7) else ((spec_l1Signs.f kj1 a0).bind fun t135 => (some t135))))))))) = some r := H; have A9 := az A90; clear A90; by_cases c10 : t131 = true
    ·
     subst c10; have H1 : (some 2) = some r := by rw [if_pos rfl] at H; exact H
     clear H; have H := H1; clear H1; obtain rfl := Option.some.inj H; go_wp2_with (first | ((with_reducible refine gate_callee (f := 36) rfl ?_); refine goesL_ (some 16) rfl rfl Tryz.func36 (by kernel_rfl) rfl #[.int .i64 a0, .int .i64 1488, .int .i64 1514] rfl zC ?_; (with_reducible refine (spec_l1In.calls a0 1488 1514 true _ A9.out).mono ?_); rintro e w' ⟨rfl, ⟨nd, rfl⟩⟩; refine ⟨_, rfl, ?_⟩)); go_ret; exact ⟨zG, zA HB.out⟩
    ·
     replace c10 := Bool.eq_false_iff.mpr c10; subst c10; have H1 : ((spec_l1In.f a0 1569 1610).bind fun t132 => (if t132 = true then (some 3) else ((spec_l1In.f a0 48 57).bind fun t133 => (if t133 = true then (some 4) else ((spec_l1In.f a0 1632 1641).bind fun t134 => (if t134 = true then (some 7) else ((spec_l1Signs.f kj1 a0).bind fun t135 => (some t135)))))))) = some r := by rw [if_neg (show ¬ (false = true) by decide)] at H; exact H
     clear H; have H := H1; clear H1; replace H := Option.bind_eq_some_iff.mp H; obtain ⟨t132, A110, H⟩ := H; replace H : (if t132 = true then (some 3) else ((spec_l1In.f a0 48 57).bind fun t133 => (if t133 = true then (some 4) else ((spec_l1In.f a0 1632 1641).bind fun t134 => (if t134 = true then (some 7) else ((spec_l1Signs.f kj1 a0).bind fun t135 => (some t135))))))) = some r := H; have A11 := az A110; clear A110; by_cases c12 : t132 = true
     ·
      subst c12; have H1 : (some 3) = some r := by rw [if_pos rfl] at H; exact H
      clear H; have H := H1; clear H1; obtain rfl := Option.some.inj H; go_wp2_with (first | ((with_reducible refine gate_callee (f := 36) rfl ?_); refine goesL_ (some 16) rfl rfl Tryz.func36 (by kernel_rfl) rfl #[.int .i64 a0, .int .i64 1488, .int .i64 1514] rfl zC ?_; (with_reducible refine (spec_l1In.calls a0 1488 1514 false _ A9.out).mono ?_); rintro e w' ⟨rfl, ⟨nd, rfl⟩⟩; refine ⟨_, rfl, ?_⟩) | ((with_reducible refine gate_callee (f := 36) rfl ?_); refine goesL_ (some 19) rfl rfl Tryz.func36 (by kernel_rfl) rfl #[.int .i64 a0, .int .i64 1569, .int .i64 1610] rfl zC ?_; (with_reducible refine (spec_l1In.calls a0 1569 1610 true _ A11.out).mono ?_); rintro e w' ⟨rfl, ⟨nd, rfl⟩⟩; refine ⟨_, rfl, ?_⟩)); go_ret; exact ⟨zG, zA HB.out⟩
     ·
      replace c12 := Bool.eq_false_iff.mpr c12; subst c12; have H1 : ((spec_l1In.f a0 48 57).bind fun t133 => (if t133 = true then (some 4) else ((spec_l1In.f a0 1632 1641).bind fun t134 => (if t134 = true then (some 7) else ((spec_l1Signs.f kj1 a0).bind fun t135 => (some t135)))))) = some r := by rw [if_neg (show ¬ (false = true) by decide)] at H; exact H
      clear H; have H := H1; clear H1; replace H := Option.bind_eq_some_iff.mp H; obtain ⟨t133, A130, H⟩ := H; replace H : (if t133 = true then (some 4) else ((spec_l1In.f a0 1632 1641).bind fun t134 => (if t134 = true then (some 7) else ((spec_l1Signs.f kj1 a0).bind fun t135 => (some t135))))) = some r := H; have A13 := az A130; clear A130; by_cases c14 : t133 = true
      ·
       subst c14; have H1 : (some 4) = some r := by rw [if_pos rfl] at H; exact H
       clear H; have H := H1; clear H1; obtain rfl := Option.some.inj H; go_wp2_with (first | ((with_reducible refine gate_callee (f := 36) rfl ?_); refine goesL_ (some 16) rfl rfl Tryz.func36 (by kernel_rfl) rfl #[.int .i64 a0, .int .i64 1488, .int .i64 1514] rfl zC ?_; (with_reducible refine (spec_l1In.calls a0 1488 1514 false _ A9.out).mono ?_); rintro e w' ⟨rfl, ⟨nd, rfl⟩⟩; refine ⟨_, rfl, ?_⟩) | ((with_reducible refine gate_callee (f := 36) rfl ?_); refine goesL_ (some 19) rfl rfl Tryz.func36 (by kernel_rfl) rfl #[.int .i64 a0, .int .i64 1569, .int .i64 1610] rfl zC ?_; (with_reducible refine (spec_l1In.calls a0 1569 1610 false _ A11.out).mono ?_); rintro e w' ⟨rfl, ⟨nd, rfl⟩⟩; refine ⟨_, rfl, ?_⟩) | ((with_reducible refine gate_callee (f := 36) rfl ?_); refine goesL_ (some 22) rfl rfl Tryz.func36 (by kernel_rfl) rfl #[.int .i64 a0, .int .i64 48, .int .i64 57] rfl zC ?_; (with_reducible refine (spec_l1In.calls a0 48 57 true _ A13.out).mono ?_); rintro e w' ⟨rfl, ⟨nd, rfl⟩⟩; refine ⟨_, rfl, ?_⟩)); go_ret; exact ⟨zG, zA HB.out⟩
      ·
       replace c14 := Bool.eq_false_iff.mpr c14; subst c14; have H1 : ((spec_l1In.f a0 1632 1641).bind fun t134 => (if t134 = true then (some 7) else ((spec_l1Signs.f kj1 a0).bind fun t135 => (some t135)))) = some r := by rw [if_neg (show ¬ (false = true) by decide)] at H; exact H
       clear H; have H := H1; clear H1; replace H := Option.bind_eq_some_iff.mp H; obtain ⟨t134, A150, H⟩ := H; replace H : (if t134 = true then (some 7) else ((spec_l1Signs.f kj1 a0).bind fun t135 => (some t135))) = some r := H; have A15 := az A150; clear A150; by_cases c16 : t134 = true
       ·
        subst c16; have H1 : (some 7) = some r := by rw [if_pos rfl] at H; exact H
        clear H; have H := H1; clear H1; obtain rfl := Option.some.inj H; go_wp2_with (first | ((with_reducible refine gate_callee (f := 36) rfl ?_); refine goesL_ (some 16) rfl rfl Tryz.func36 (by kernel_rfl) rfl #[.int .i64 a0, .int .i64 1488, .int .i64 1514] rfl zC ?_; (with_reducible refine (spec_l1In.calls a0 1488 1514 false _ A9.out).mono ?_); rintro e w' ⟨rfl, ⟨nd, rfl⟩⟩; refine ⟨_, rfl, ?_⟩) | ((with_reducible refine gate_callee (f := 36) rfl ?_); refine goesL_ (some 19) rfl rfl Tryz.func36 (by kernel_rfl) rfl #[.int .i64 a0, .int .i64 1569, .int .i64 1610] rfl zC ?_; (with_reducible refine (spec_l1In.calls a0 1569 1610 false _ A11.out).mono ?_); rintro e w' ⟨rfl, ⟨nd, rfl⟩⟩; refine ⟨_, rfl, ?_⟩) | ((with_reducible refine gate_callee (f := 36) rfl ?_); refine goesL_ (some 22) rfl rfl Tryz.func36 (by kernel_rfl) rfl #[.int .i64 a0, .int .i64 48, .int .i64 57] rfl zC ?_; (with_reducible refine (spec_l1In.calls a0 48 57 false _ A13.out).mono ?_); rintro e w' ⟨rfl, ⟨nd, rfl⟩⟩; refine ⟨_, rfl, ?_⟩) | ((with_reducible refine gate_callee (f := 36) rfl ?_); refine goesL_ (some 25) rfl rfl Tryz.func36 (by kernel_rfl) rfl #[.int .i64 a0, .int .i64 1632, .int .i64 1641] rfl zC ?_; (with_reducible refine (spec_l1In.calls a0 1632 1641 true _ A15.out).mono ?_); rintro e w' ⟨rfl, ⟨nd, rfl⟩⟩; refine ⟨_, rfl, ?_⟩)); go_ret; exact ⟨zG, zA HB.out⟩
       ·
        replace c16 := Bool.eq_false_iff.mpr c16; subst c16; have H1 : ((spec_l1Signs.f kj1 a0).bind fun t135 => (some t135)) = some r := by rw [if_neg (show ¬ (false = true) by decide)] at H; exact H
        clear H; have H := H1; clear H1; replace H := Option.bind_eq_some_iff.mp H; obtain ⟨t135, A170, H⟩ := H; replace H : (some t135) = some r := H; have A17 := az A170; clear A170; obtain rfl := Option.some.inj H; go_wp2_with (first | ((with_reducible refine gate_callee (f := 36) rfl ?_); refine goesL_ (some 16) rfl rfl Tryz.func36 (by kernel_rfl) rfl #[.int .i64 a0, .int .i64 1488, .int .i64 1514] rfl zC ?_; (with_reducible refine (spec_l1In.calls a0 1488 1514 false _ A9.out).mono ?_); rintro e w' ⟨rfl, ⟨nd, rfl⟩⟩; refine ⟨_, rfl, ?_⟩) | ((with_reducible refine gate_callee (f := 36) rfl ?_); refine goesL_ (some 19) rfl rfl Tryz.func36 (by kernel_rfl) rfl #[.int .i64 a0, .int .i64 1569, .int .i64 1610] rfl zC ?_; (with_reducible refine (spec_l1In.calls a0 1569 1610 false _ A11.out).mono ?_); rintro e w' ⟨rfl, ⟨nd, rfl⟩⟩; refine ⟨_, rfl, ?_⟩) | ((with_reducible refine gate_callee (f := 36) rfl ?_); refine goesL_ (some 22) rfl rfl Tryz.func36 (by kernel_rfl) rfl #[.int .i64 a0, .int .i64 48, .int .i64 57] rfl zC ?_; (with_reducible refine (spec_l1In.calls a0 48 57 false _ A13.out).mono ?_); rintro e w' ⟨rfl, ⟨nd, rfl⟩⟩; refine ⟨_, rfl, ?_⟩) | ((with_reducible refine gate_callee (f := 36) rfl ?_); refine goesL_ (some 25) rfl rfl Tryz.func36 (by kernel_rfl) rfl #[.int .i64 a0, .int .i64 1632, .int .i64 1641] rfl zC ?_; (with_reducible refine (spec_l1In.calls a0 1632 1641 false _ A15.out).mono ?_); rintro e w' ⟨rfl, ⟨nd, rfl⟩⟩; refine ⟨_, rfl, ?_⟩) | ((with_reducible refine gate_callee (f := 144) rfl ?_); refine goesL_ (some 27) rfl rfl Tryz.func144 (by kernel_rfl) rfl #[.int .i64 a0] rfl zC ?_; (with_reducible refine (spec_l1Signs.calls kj1 a0 t135 _ A17.out).mono ?_); rintro e w18 ⟨rfl, hb⟩; refine ⟨_, rfl, ?_⟩; have n0_ := az (below_step (zA HB.out) hb); clear HB; have HB := n0_; clear n0_; (try clear hb); (try clear hb2); (try clear hk); (try clear hi))); go_ret; exact ⟨zG, zA HB.out⟩
mutual
def spec_l5Signs.j0 : Nat → Int → Bool → Option (Int)
 | 0, _, _ => none
 | k + 1, x3, x4 => if x4 = true then (some 8) else (if x3 = 41 then (spec_l5Signs.j1 k x3 (x3 == 41)) else (if x3 = 93 then (spec_l5Signs.j1 k x3 (x3 == 93)) else (spec_l5Signs.j1 k x3 (x3 == 125))))
def spec_l5Signs.j1 : Nat → Int → Bool → Option (Int)
 | 0, _, _ => none
 | k + 1, x3, x8 => if x8 = true then (some 9) else (if x3 = 33 then (spec_l5Signs.j2 k x3 (x3 == 33)) else (spec_l5Signs.j2 k x3 (x3 == 63)))
def spec_l5Signs.j2 : Nat → Int → Bool → Option (Int)
 | 0, _, _ => none
 | k + 1, x3, x12 => if x12 = true then (some 10) else (if x3 = 34 then (some 11) else (if x3 = 45 then (some 12) else (if x3 = 44 then (spec_l5Signs.j3 k x3 (x3 == 44)) else (if x3 = 46 then (spec_l5Signs.j3 k x3 (x3 == 46)) else (if x3 = 58 then (spec_l5Signs.j3 k x3 (x3 == 58)) else (if x3 = 59 then (spec_l5Signs.j3 k x3 (x3 == 59)) else (spec_l5Signs.j3 k x3 (x3 == 47))))))))
def spec_l5Signs.j3 : Nat → Int → Bool → Option (Int)
 | 0, _, _ => none
 | k + 1, x3, x19 => if x19 = true then (some 13) else (if x3 = 9 then (some 14) else (if x3 = 173 then (some 14) else (some 1)))
end
def spec_l5Signs.f (k : Nat) (a0 : Int) : Option (Int) := if a0 = 40 then (spec_l5Signs.j0 k a0 (a0 == 40)) else (if a0 = 91 then (spec_l5Signs.j0 k a0 (a0 == 91)) else (spec_l5Signs.j0 k a0 (a0 == 123)))
theorem spec_l5Signs.mono_l : ∀ k, (∀ y0 y1, LeO (spec_l5Signs.j0 k y0 y1) (spec_l5Signs.j0 (k + 1) y0 y1)) ∧ (∀ y0 y1, LeO (spec_l5Signs.j1 k y0 y1) (spec_l5Signs.j1 (k + 1) y0 y1)) ∧ (∀ y0 y1, LeO (spec_l5Signs.j2 k y0 y1) (spec_l5Signs.j2 (k + 1) y0 y1)) ∧ (∀ y0 y1, LeO (spec_l5Signs.j3 k y0 y1) (spec_l5Signs.j3 (k + 1) y0 y1))
 | 0 => ⟨fun _ _ r h => by simp [spec_l5Signs.j0] at h, fun _ _ r h => by simp [spec_l5Signs.j1] at h, fun _ _ r h => by simp [spec_l5Signs.j2] at h, fun _ _ r h => by simp [spec_l5Signs.j3] at h⟩
 | k + 1 => by
  obtain ⟨ih0, ih1, ih2, ih3⟩ := spec_l5Signs.mono_l k; refine ⟨?_, ?_, ?_, ?_⟩
  ·
   intro y0 y1; unfold spec_l5Signs.j0
   repeat' first
   | (with_reducible exact ih0 _ _)
   | (with_reducible exact ih1 _ _)
   | (with_reducible exact ih2 _ _)
   | (with_reducible exact ih3 _ _)
   | (with_reducible exact LeO.refl _)
   | (with_reducible exact LeO.none _)
   | (with_reducible refine LeO.ite ?_ ?_)
   | (with_reducible refine LeO.bind ?_ (fun _ => ?_))
   | exact ih0 _ _
   | exact ih1 _ _
   | exact ih2 _ _
   | exact ih3 _ _
   | exact LeO.none _
   | refine LeO.ite ?_ ?_
   | refine LeO.bind ?_ (fun _ => ?_)
  ·
   intro y0 y1; unfold spec_l5Signs.j1
   repeat' first
   | (with_reducible exact ih0 _ _)
   | (with_reducible exact ih1 _ _)
   | (with_reducible exact ih2 _ _)
   | (with_reducible exact ih3 _ _)
   | (with_reducible exact LeO.refl _)
   | (with_reducible exact LeO.none _)
   | (with_reducible refine LeO.ite ?_ ?_)
   | (with_reducible refine LeO.bind ?_ (fun _ => ?_))
   | exact ih0 _ _
   | exact ih1 _ _
   | exact ih2 _ _
   | exact ih3 _ _
   | exact LeO.none _
   | refine LeO.ite ?_ ?_
   | refine LeO.bind ?_ (fun _ => ?_)
  ·
   intro y0 y1; unfold spec_l5Signs.j2
   repeat' first
   | (with_reducible exact ih0 _ _)
   | (with_reducible exact ih1 _ _)
   | (with_reducible exact ih2 _ _)
   | (with_reducible exact ih3 _ _)
   | (with_reducible exact LeO.refl _)
   | (with_reducible exact LeO.none _)
   | (with_reducible refine LeO.ite ?_ ?_)
   | (with_reducible refine LeO.bind ?_ (fun _ => ?_))
   | exact ih0 _ _
   | exact ih1 _ _
   | exact ih2 _ _
   | exact ih3 _ _
   | exact LeO.none _
   | refine LeO.ite ?_ ?_
   | refine LeO.bind ?_ (fun _ => ?_)
  ·
   intro y0 y1; unfold spec_l5Signs.j3
   repeat' first
   | (with_reducible exact ih0 _ _)
   | (with_reducible exact ih1 _ _)
   | (with_reducible exact ih2 _ _)
   | (with_reducible exact ih3 _ _)
   | (with_reducible exact LeO.refl _)
   | (with_reducible exact LeO.none _)
   | (with_reducible refine LeO.ite ?_ ?_)
   | (with_reducible refine LeO.bind ?_ (fun _ => ?_))
   | exact ih0 _ _
   | exact ih1 _ _
   | exact ih2 _ _
   | exact ih3 _ _
   | exact LeO.none _
   | refine LeO.ite ?_ ?_
   | refine LeO.bind ?_ (fun _ => ?_)
theorem spec_l5Signs.mono : ∀ a0 k, LeO (spec_l5Signs.f k a0) (spec_l5Signs.f (k + 1) a0) := by
 intro a0 k; obtain ⟨ih0, ih1, ih2, ih3⟩ := spec_l5Signs.mono_l k; unfold spec_l5Signs.f
 repeat' first
   | (with_reducible exact ih0 _ _)
   | (with_reducible exact ih1 _ _)
   | (with_reducible exact ih2 _ _)
   | (with_reducible exact ih3 _ _)
   | (with_reducible exact LeO.refl _)
   | (with_reducible exact LeO.none _)
   | (with_reducible refine LeO.ite ?_ ?_)
   | (with_reducible refine LeO.bind ?_ (fun _ => ?_))
   | exact ih0 _ _
   | exact ih1 _ _
   | exact ih2 _ _
   | exact ih3 _ _
   | exact LeO.none _
   | refine LeO.ite ?_ ?_
   | refine LeO.bind ?_ (fun _ => ?_)
theorem spec_l5Signs.calls (k : Nat) (a0 : Int) (r : Int) (w : World) (h : spec_l5Signs.f k a0 = some r) :
  Calls Tryz.prog 139 #[.int .i64 a0] w fun e w' => e = .returned (.int .i64 r) ∧ Drawn0 w w' := by
 have H : (if a0 = 40 then (spec_l5Signs.j0 k a0 (a0 == 40)) else (if a0 = 91 then (spec_l5Signs.j0 k a0 (a0 == 91)) else (spec_l5Signs.j0 k a0 (a0 == 123)))) = some r := h; clear h; have HC2 := az H; clear H; go_enter Tryz.func139, Tryz.ntmps139; go_upto_if 4 with (fail)
 go_cut [4] (fun v4 wc => ∃ (kq : Nat) (x4_1 : Bool), v4 = .bool x4_1 ∧ Aside0 (spec_l5Signs.j0 kq a0 x4_1 = some r) ∧ Aside0 (kq ≤ k) ∧ Drawn0 w wc)
 case first =>
  have H := HC2.out; clear HC2; by_cases c3 : a0 = 40
  ·
   rw [if_pos c3] at H; have c3b0 : (a0 == 40) = true := beq_iff_eq.mpr c3; have c3b1 : (a0 != 40) = false := bne_eq_false_iff_eq.mpr c3; clear c3; (first | rw [c3b0] | (simp only [i64_w, i32_w]; rw [c3b0]) | skip); have H' := az H; clear H; go_wp2; go_meet
   case rel => exact ⟨_, ((a0 == 40)), zB, H', ⟨zJ⟩, zD⟩
  ·
   rw [if_neg c3] at H; have c3b0 : (a0 == 40) = false := beq_eq_false_iff_ne.mpr c3; have c3b1 : (a0 != 40) = true := bne_iff_ne.mpr c3; (first | rw [c3b0] | (simp only [i64_w, i32_w]; rw [c3b0]) | skip); by_cases c4 : a0 = 91
   ·
    rw [if_pos c4] at H; have c4b0 : (a0 == 91) = true := beq_iff_eq.mpr c4; have c4b1 : (a0 != 91) = false := bne_eq_false_iff_eq.mpr c4; clear c4; have H' := az H; clear H; go_wp2; go_meet
    case rel => exact ⟨_, ((a0 == 91)), zB, H', ⟨zJ⟩, zD⟩
   ·
    rw [if_neg c4] at H; have c4b0 : (a0 == 91) = false := beq_eq_false_iff_ne.mpr c4; have c4b1 : (a0 != 91) = true := bne_iff_ne.mpr c4; have H' := az H; clear H; go_wp2; go_meet
    case rel => exact ⟨_, ((a0 == 123)), zB, H', ⟨zJ⟩, zD⟩
 case rest =>
  clear HC2; (try clear c1); (try clear p2); (try clear c3); (try clear c3b0); (try clear c3b1); (try clear c4); (try clear c4b0); (try clear c4b1); obtain ⟨kq, x4_1, rfl, HA, HJ1, ⟨mc1, rfl⟩⟩ := hcut
  cases kq with
  | zero => exact absurd HA.out (by simp [spec_l5Signs.j0])
  | succ kj1 =>
   have H := HA.out; clear HA; simp only [spec_l5Signs.j0] at H; by_cases c5 : x4_1 = true
   ·
    subst c5; have H1 : (some 8) = some r := by rw [if_pos rfl] at H; exact H
    clear H; have H := H1; clear H1; obtain rfl := Option.some.inj H; go_wp2; go_ret; exact ⟨zB, zD⟩
   ·
    replace c5 := Bool.eq_false_iff.mpr c5; subst c5; have H1 : (if a0 = 41 then (spec_l5Signs.j1 kj1 a0 (a0 == 41)) else (if a0 = 93 then (spec_l5Signs.j1 kj1 a0 (a0 == 93)) else (spec_l5Signs.j1 kj1 a0 (a0 == 125)))) = some r := by rw [if_neg (show ¬ (false = true) by decide)] at H; exact H
    clear H; have H := H1; clear H1; have HC6 := az H; clear H; go_upto_if 8 with (fail)
    go_cut [8] (fun v8 wc => ∃ (kq : Nat) (x8_5 : Bool), v8 = .bool x8_5 ∧ Aside0 (spec_l5Signs.j1 kq a0 x8_5 = some r) ∧ Aside0 (kq ≤ kj1) ∧ Drawn0 w wc)
    case first =>
     have H := HC6.out; clear HC6; by_cases c7 : a0 = 41
     ·
      rw [if_pos c7] at H; have c7b0 : (a0 == 41) = true := beq_iff_eq.mpr c7; have c7b1 : (a0 != 41) = false := bne_eq_false_iff_eq.mpr c7; clear c7; (first | rw [c7b0] | (simp only [i64_w, i32_w]; rw [c7b0]) | skip); have H' := az H; clear H; go_wp2; go_meet
      case rel => exact ⟨_, ((a0 == 41)), zB, H', ⟨zK HJ1.out⟩, zD⟩
     ·
      rw [if_neg c7] at H; have c7b0 : (a0 == 41) = false := beq_eq_false_iff_ne.mpr c7; have c7b1 : (a0 != 41) = true := bne_iff_ne.mpr c7; (first | rw [c7b0] | (simp only [i64_w, i32_w]; rw [c7b0]) | skip); by_cases c8 : a0 = 93
      ·
       rw [if_pos c8] at H; have c8b0 : (a0 == 93) = true := beq_iff_eq.mpr c8; have c8b1 : (a0 != 93) = false := bne_eq_false_iff_eq.mpr c8; clear c8; have H' := az H; clear H; go_wp2; go_meet
       case rel => exact ⟨_, ((a0 == 93)), zB, H', ⟨zK HJ1.out⟩, zD⟩
      ·
       rw [if_neg c8] at H; have c8b0 : (a0 == 93) = false := beq_eq_false_iff_ne.mpr c8; have c8b1 : (a0 != 93) = true := bne_iff_ne.mpr c8; have H' := az H; clear H; go_wp2; go_meet
       case rel => exact ⟨_, ((a0 == 125)), zB, H', ⟨zK HJ1.out⟩, zD⟩
    case rest =>
     clear HC6; (try clear c1); (try clear p2); (try clear c3); (try clear c3b0); (try clear c3b1); (try clear c4); (try clear c4b0); (try clear c4b1); (try clear c5); (try clear c7); (try clear c7b0); (try clear c7b1); (try clear c8); (try clear c8b0); (try clear c8b1); (try clear p2); obtain ⟨kq, x8_5, rfl, HA, HJ5, ⟨mc5, rfl⟩⟩ := hcut
     cases kq with
     | zero => exact absurd HA.out (by simp [spec_l5Signs.j1])
     | succ kj5 =>
      have H := HA.out; clear HA; simp only [spec_l5Signs.j1] at H; by_cases c9 : x8_5 = true
      ·
       subst c9; have H1 : (some 9) = some r := by rw [if_pos rfl] at H; exact H
       clear H; have H := H1; clear H1; obtain rfl := Option.some.inj H; go_wp2; go_ret; exact ⟨zB, zD⟩
      ·
       replace c9 := Bool.eq_false_iff.mpr c9; subst c9; have H1 : (if a0 = 33 then (spec_l5Signs.j2 kj5 a0 (a0 == 33)) else (spec_l5Signs.j2 kj5 a0 (a0 == 63))) = some r := by rw [if_neg (show ¬ (false = true) by decide)] at H; exact H
       clear H; have H := H1; clear H1; have HC10 := az H; clear H; go_upto_if 12 with (fail)
       go_cut [12] (fun v12 wc => ∃ (kq : Nat) (x12_9 : Bool), v12 = .bool x12_9 ∧ Aside0 (spec_l5Signs.j2 kq a0 x12_9 = some r) ∧ Aside0 (kq ≤ kj5) ∧ Drawn0 w wc)
       case first =>
        have H := HC10.out; clear HC10; by_cases c11 : a0 = 33
        ·
         rw [if_pos c11] at H; have c11b0 : (a0 == 33) = true := beq_iff_eq.mpr c11; have c11b1 : (a0 != 33) = false := bne_eq_false_iff_eq.mpr c11; clear c11; (first | rw [c11b0] | (simp only [i64_w, i32_w]; rw [c11b0]) | skip); have H' := az H; clear H; go_wp2; go_meet
         case rel => exact ⟨_, ((a0 == 33)), zB, H', ⟨zM HJ1.out HJ5.out⟩, zD⟩
        ·
         rw [if_neg c11] at H; have c11b0 : (a0 == 33) = false := beq_eq_false_iff_ne.mpr c11; have c11b1 : (a0 != 33) = true := bne_iff_ne.mpr c11; (first | rw [c11b0] | (simp only [i64_w, i32_w]; rw [c11b0]) | skip); have H' := az H; clear H; go_wp2; go_meet
         case rel => exact ⟨_, ((a0 == 63)), zB, H', ⟨zM HJ1.out HJ5.out⟩, zD⟩
       case rest =>
        clear HC10; (try clear c1); (try clear p2); (try clear c3); (try clear c3b0); (try clear c3b1); (try clear c4); (try clear c4b0); (try clear c4b1); (try clear c5); (try clear c7); (try clear c7b0); (try clear c7b1); (try clear c8); (try clear c8b0); (try clear c8b1); (try clear c9); (try clear c11); (try clear c11b0); (try clear c11b1); (try clear p2); obtain ⟨kq, x12_9, rfl, HA, HJ9, ⟨mc9, rfl⟩⟩ := hcut
        cases kq with
        | zero => exact absurd HA.out (by simp [spec_l5Signs.j2])
        | succ kj9 =>
         have H := HA.out; clear HA; simp only [spec_l5Signs.j2] at H; by_cases c12 : x12_9 = true
         ·
          subst c12; have H1 : (some 10) = some r := by rw [if_pos rfl] at H; exact H
          clear H; have H := H1; clear H1; obtain rfl := Option.some.inj H; go_wp2; go_ret; exact ⟨zB, zD⟩
         ·
          replace c12 := Bool.eq_false_iff.mpr c12; subst c12; have H1 : (if a0 = 34 then (some 11) else (if a0 = 45 then (some 12) else (if a0 = 44 then (spec_l5Signs.j3 kj9 a0 (a0 == 44)) else (if a0 = 46 then (spec_l5Signs.j3 kj9 a0 (a0 == 46)) else (if a0 = 58 then (spec_l5Signs.j3 kj9 a0 (a0 == 58)) else (if a0 = 59 then (spec_l5Signs.j3 kj9 a0 (a0 == 59)) else (spec_l5Signs.j3 kj9 a0 (a0 == 47)))))))) = some r := by rw [if_neg (show ¬ (false = true) by decide)] at H; exact H
          clear H; have H := H1; clear H1; by_cases c13 : a0 = 34
          ·
           rw [if_pos c13] at H; have c13b0 : (a0 == 34) = true := beq_iff_eq.mpr c13; have c13b1 : (a0 != 34) = false := bne_eq_false_iff_eq.mpr c13; clear c13; obtain rfl := Option.some.inj H; go_wp2; go_ret; exact ⟨zB, zD⟩
          ·
           rw [if_neg c13] at H; have c13b0 : (a0 == 34) = false := beq_eq_false_iff_ne.mpr c13; have c13b1 : (a0 != 34) = true := bne_iff_ne.mpr c13; by_cases c14 : a0 = 45
           ·
            rw [if_pos c14] at H; have c14b0 : (a0 == 45) = true := beq_iff_eq.mpr c14; have c14b1 : (a0 != 45) = false := bne_eq_false_iff_eq.mpr c14; clear c14; obtain rfl := Option.some.inj H; go_wp2; go_ret; exact ⟨zB, zD⟩
           ·
            rw [if_neg c14] at H; have c14b0 : (a0 == 45) = false := beq_eq_false_iff_ne.mpr c14; have c14b1 : (a0 != 45) = true := bne_iff_ne.mpr c14; have HC15 := az H; clear H; go_upto_if 19 with (fail)
            go_cut [19] (fun v19 wc => ∃ (kq : Nat) (x19_14 : Bool), v19 = .bool x19_14 ∧ Aside0 (spec_l5Signs.j3 kq a0 x19_14 = some r) ∧ Aside0 (kq ≤ kj9) ∧ Drawn0 w wc)
            case first =>
             have H := HC15.out; clear HC15; by_cases c16 : a0 = 44
             ·
              rw [if_pos c16] at H; have c16b0 : (a0 == 44) = true := beq_iff_eq.mpr c16; have c16b1 : (a0 != 44) = false := bne_eq_false_iff_eq.mpr c16; clear c16; (first | rw [c16b0] | (simp only [i64_w, i32_w]; rw [c16b0]) | skip); have H' := az H; clear H; go_wp2; go_meet
              case rel => exact ⟨_, ((a0 == 44)), zB, H', ⟨zS HJ1.out HJ5.out HJ9.out⟩, zD⟩
             ·
              rw [if_neg c16] at H; have c16b0 : (a0 == 44) = false := beq_eq_false_iff_ne.mpr c16; have c16b1 : (a0 != 44) = true := bne_iff_ne.mpr c16; (first | rw [c16b0] | (simp only [i64_w, i32_w]; rw [c16b0]) | skip); by_cases c17 : a0 = 46
              ·
               rw [if_pos c17] at H; have c17b0 : (a0 == 46) = true := beq_iff_eq.mpr c17; have c17b1 : (a0 != 46) = false := bne_eq_false_iff_eq.mpr c17; clear c17; have H' := az H; clear H; go_wp2; go_meet
               case rel => exact ⟨_, ((a0 == 46)), zB, H', ⟨zS HJ1.out HJ5.out HJ9.out⟩, zD⟩
              ·
               rw [if_neg c17] at H; have c17b0 : (a0 == 46) = false := beq_eq_false_iff_ne.mpr c17; have c17b1 : (a0 != 46) = true := bne_iff_ne.mpr c17; by_cases c18 : a0 = 58
               ·
                rw [if_pos c18] at H; have c18b0 : (a0 == 58) = true := beq_iff_eq.mpr c18; have c18b1 : (a0 != 58) = false := bne_eq_false_iff_eq.mpr c18; clear c18; have H' := az H; clear H; go_wp2; go_meet
                case rel => exact ⟨_, ((a0 == 58)), zB, H', ⟨zS HJ1.out HJ5.out HJ9.out⟩, zD⟩
               ·
                rw [if_neg c18] at H; have c18b0 : (a0 == 58) = false := beq_eq_false_iff_ne.mpr c18; have c18b1 : (a0 != 58) = true := bne_iff_ne.mpr c18; by_cases c19 : a0 = 59
                ·
                 rw [if_pos c19] at H; have c19b0 : (a0 == 59) = true := beq_iff_eq.mpr c19; have c19b1 : (a0 != 59) = false := bne_eq_false_iff_eq.mpr c19; clear c19; have H' := az H; clear H; go_wp2; go_meet
                 case rel => exact ⟨_, ((a0 == 59)), zB, H', ⟨zS HJ1.out HJ5.out HJ9.out⟩, zD⟩
                ·
                 rw [if_neg c19] at H; have c19b0 : (a0 == 59) = false := beq_eq_false_iff_ne.mpr c19; have c19b1 : (a0 != 59) = true := bne_iff_ne.mpr c19; have H' := az H; clear H; go_wp2; go_meet
                 case rel => exact ⟨_, ((a0 == 47)), zB, H', ⟨zS HJ1.out HJ5.out HJ9.out⟩, zD⟩
            case rest =>
             clear HC15; (try clear c1); (try clear p2); (try clear c3); (try clear c3b0); (try clear c3b1); (try clear c4); (try clear c4b0); (try clear c4b1); (try clear c5); (try clear c7); (try clear c7b0); (try clear c7b1); (try clear c8); (try clear c8b0); (try clear c8b1); (try clear c9); (try clear c11); (try clear c11b0); (try clear c11b1); (try clear c12); (try clear c13); (try clear c13b0); (try clear c13b1); (try clear c14); (try clear c14b0); (try clear c14b1); (try clear c16); (try clear c16b0); (try clear c16b1); (try clear c17); (try clear c17b0); (try clear c17b1); (try clear c18); (try clear c18b0); (try clear c18b1); (try clear c19); (try clear c19b0); (try clear c19b1); (try clear p2); obtain ⟨kq, x19_14, rfl, HA, HJ14, ⟨mc14, rfl⟩⟩ := hcut
             cases kq with
             | zero => exact absurd HA.out (by simp [spec_l5Signs.j3])
             | succ kj14 =>
              have H := HA.out; clear HA; simp only [spec_l5Signs.j3] at H; by_cases c20 : x19_14 = true
              ·
               subst c20; have H1 : (some 13) = some r := by rw [if_pos rfl] at H; exact H
               clear H; have H := H1; clear H1; obtain rfl := Option.some.inj H; go_wp2; go_ret; exact ⟨zB, zD⟩
              ·
               replace c20 := Bool.eq_false_iff.mpr c20; subst c20; have H1 : (if a0 = 9 then (some 14) else (if a0 = 173 then (some 14) else (some 1))) = some r := by rw [if_neg (show ¬ (false = true) by decide)] at H; exact H
               clear H; have H := H1; clear H1; by_cases c21 : a0 = 9
               ·
                rw [if_pos c21] at H; have c21b0 : (a0 == 9) = true := beq_iff_eq.mpr c21; have c21b1 : (a0 != 9) = false := bne_eq_false_iff_eq.mpr c21; clear c21; obtain rfl := Option.some.inj H; go_wp2; go_ret; exact ⟨zB, zD⟩
               ·
                rw [if_neg c21] at H; have c21b0 : (a0 == 9) = false := beq_eq_false_iff_ne.mpr c21; have c21b1 : (a0 != 9) = true := bne_iff_ne.mpr c21; by_cases c22 : a0 = 173
                ·
                 rw [if_pos c22] at H; have c22b0 : (a0 == 173) = true := beq_iff_eq.mpr c22; have c22b1 : (a0 != 173) = false := bne_eq_false_iff_eq.mpr c22; clear c22; obtain rfl := Option.some.inj H; go_wp2; go_ret; exact ⟨zB, zD⟩
                ·
                 rw [if_neg c22] at H; have c22b0 : (a0 == 173) = false := beq_eq_false_iff_ne.mpr c22; have c22b1 : (a0 != 173) = true := bne_iff_ne.mpr c22; obtain rfl := Option.some.inj H; go_wp2; go_ret; exact ⟨zB, zD⟩
mutual
def spec_RuneLine.j0 : Nat → Int → Bool → Option (Int)
 | 0, _, _ => none
 | k + 1, x0, x15 => if x15 = true then (some 7) else ((spec_l1In.f x0 48 57).bind fun t175 => (if t175 = true then (spec_RuneLine.j1 k x0 true) else ((spec_l1In.f x0 1632 1641).bind fun t176 => (spec_RuneLine.j1 k x0 t176))))
def spec_RuneLine.j1 : Nat → Int → Bool → Option (Int)
 | 0, _, _ => none
 | k + 1, x0, x28 => if x28 = true then (some 2) else ((spec_l1In.f x0 19968 40959).bind fun t177 => (if t177 = true then (some 15) else ((spec_l5Signs.f k x0).bind fun t178 => (some t178))))
end
def spec_RuneLine.f (k : Nat) (a0 : Int) : Option (Int) := if a0 = 10 then (some 4) else (if a0 = 32 then (some 3) else (if a0 = 160 then (some 5) else (if a0 = 8203 then (some 6) else ((spec_RuneBidi.f k a0).bind fun t173 => (if t173 = 9 then (spec_RuneLine.j0 k a0 true) else (if a0 = 8205 then (spec_RuneLine.j0 k a0 true) else ((spec_RuneBidi.f k a0).bind fun t174 => (spec_RuneLine.j0 k a0 (decide (t174 ≥ 14))))))))))
theorem spec_RuneLine.mono_l : ∀ k, (∀ y0 y1, LeO (spec_RuneLine.j0 k y0 y1) (spec_RuneLine.j0 (k + 1) y0 y1)) ∧ (∀ y0 y1, LeO (spec_RuneLine.j1 k y0 y1) (spec_RuneLine.j1 (k + 1) y0 y1))
 | 0 => ⟨fun _ _ r h => by simp [spec_RuneLine.j0] at h, fun _ _ r h => by simp [spec_RuneLine.j1] at h⟩
 | k + 1 => by
  obtain ⟨ih0, ih1⟩ := spec_RuneLine.mono_l k; refine ⟨?_, ?_⟩
  ·
   intro y0 y1; unfold spec_RuneLine.j0
   repeat' first
   | (with_reducible exact ih0 _ _)
   | (with_reducible exact ih1 _ _)
   | (with_reducible exact spec_RuneBidi.mono _ _)
   | (with_reducible exact spec_l5Signs.mono _ _)
   | (with_reducible exact LeO.refl _)
   | (with_reducible exact LeO.none _)
   | (with_reducible refine LeO.ite ?_ ?_)
   | (with_reducible refine LeO.bind ?_ (fun _ => ?_))
   | exact ih0 _ _
   | exact ih1 _ _
   | exact spec_RuneBidi.mono _ _
   | exact spec_l5Signs.mono _ _
   | exact LeO.none _
   | refine LeO.ite ?_ ?_
   | refine LeO.bind ?_ (fun _ => ?_)
  ·
   intro y0 y1; unfold spec_RuneLine.j1
   repeat' first
   | (with_reducible exact ih0 _ _)
   | (with_reducible exact ih1 _ _)
   | (with_reducible exact spec_RuneBidi.mono _ _)
   | (with_reducible exact spec_l5Signs.mono _ _)
   | (with_reducible exact LeO.refl _)
   | (with_reducible exact LeO.none _)
   | (with_reducible refine LeO.ite ?_ ?_)
   | (with_reducible refine LeO.bind ?_ (fun _ => ?_))
   | exact ih0 _ _
   | exact ih1 _ _
   | exact spec_RuneBidi.mono _ _
   | exact spec_l5Signs.mono _ _
   | exact LeO.none _
   | refine LeO.ite ?_ ?_
   | refine LeO.bind ?_ (fun _ => ?_)
theorem spec_RuneLine.mono : ∀ a0 k, LeO (spec_RuneLine.f k a0) (spec_RuneLine.f (k + 1) a0) := by
 intro a0 k; obtain ⟨ih0, ih1⟩ := spec_RuneLine.mono_l k; unfold spec_RuneLine.f
 repeat' first
   | (with_reducible exact ih0 _ _)
   | (with_reducible exact ih1 _ _)
   | (with_reducible exact spec_RuneBidi.mono _ _)
   | (with_reducible exact spec_l5Signs.mono _ _)
   | (with_reducible exact LeO.refl _)
   | (with_reducible exact LeO.none _)
   | (with_reducible refine LeO.ite ?_ ?_)
   | (with_reducible refine LeO.bind ?_ (fun _ => ?_))
   | exact ih0 _ _
   | exact ih1 _ _
   | exact spec_RuneBidi.mono _ _
   | exact spec_l5Signs.mono _ _
   | exact LeO.none _
   | refine LeO.ite ?_ ?_
   | refine LeO.bind ?_ (fun _ => ?_)
theorem spec_RuneLine.calls (k : Nat) (a0 : Int) (r : Int) (w : World) (h : spec_RuneLine.f k a0 = some r) :
  Calls Tryz.prog 125 #[.int .i64 a0] w fun e w' => e = .returned (.int .i64 r) ∧ Below w.heap.size w w' := by
 have HB := az (Below.refl w.heap.size w); have H : (if a0 = 10 then (some 4) else (if a0 = 32 then (some 3) else (if a0 = 160 then (some 5) else (if a0 = 8203 then (some 6) else ((spec_RuneBidi.f k a0).bind fun t173 => (if t173 = 9 then (spec_RuneLine.j0 k a0 true) else (if a0 = 8205 then (spec_RuneLine.j0 k a0 true) else ((spec_RuneBidi.f k a0).bind fun t174 => (spec_RuneLine.j0 k a0 (decide (t174 ≥ 14))))))))))) = some r := h; clear h; by_cases c2 : a0 = 10
 ·
  rw [if_pos c2] at H; have c2b0 : (a0 == 10) = true := beq_iff_eq.mpr c2; have c2b1 : (a0 != 10) = false := bne_eq_false_iff_eq.mpr c2; clear c2; obtain rfl := Option.some.inj H; go_enter Tryz.func125, Tryz.ntmps125; go_wp2; go_ret; exact ⟨zG, zA HB.out⟩
 ·
  rw [if_neg c2] at H; have c2b0 : (a0 == 10) = false := beq_eq_false_iff_ne.mpr c2; have c2b1 : (a0 != 10) = true := bne_iff_ne.mpr c2; by_cases c3 : a0 = 32
  ·
   rw [if_pos c3] at H; have c3b0 : (a0 == 32) = true := beq_iff_eq.mpr c3; have c3b1 : (a0 != 32) = false := bne_eq_false_iff_eq.mpr c3; clear c3; obtain rfl := Option.some.inj H; go_enter Tryz.func125, Tryz.ntmps125; go_wp2; go_ret; exact ⟨zG, zA HB.out⟩
  ·
   rw [if_neg c3] at H; have c3b0 : (a0 == 32) = false := beq_eq_false_iff_ne.mpr c3; have c3b1 : (a0 != 32) = true := bne_iff_ne.mpr c3; by_cases c4 : a0 = 160
   ·
    rw [if_pos c4] at H; have c4b0 : (a0 == 160) = true := beq_iff_eq.mpr c4; have c4b1 : (a0 != 160) = false := bne_eq_false_iff_eq.mpr c4; clear c4; obtain rfl := Option.some.inj H; go_enter Tryz.func125, Tryz.ntmps125; go_wp2; go_ret; exact ⟨zG, zA HB.out⟩
   ·
    rw [if_neg c4] at H; have c4b0 : (a0 == 160) = false := beq_eq_false_iff_ne.mpr c4; have c4b1 : (a0 != 160) = true := bne_iff_ne.mpr c4; by_cases c5 : a0 = 8203
    ·
     rw [if_pos c5] at H; have c5b0 : (a0 == 8203) = true := beq_iff_eq.mpr c5; have c5b1 : (a0 != 8203) = false := bne_eq_false_iff_eq.mpr c5; clear c5; obtain rfl := Option.some.inj H; go_enter Tryz.func125, Tryz.ntmps125; go_wp2; go_ret; exact ⟨zG, zA HB.out⟩
    ·
     rw [if_neg c5] at H; have c5b0 : (a0 == 8203) = false := beq_eq_false_iff_ne.mpr c5; have c5b1 : (a0 != 8203) = true := bne_iff_ne.mpr c5; have HC6 := az H; clear H; go_enter Tryz.func125, Tryz.ntmps125; go_upto_region 9 with (fail)
     go_cut [15] (fun v15 wc => ∃ (kq : Nat) (x15_5 : Bool), v15 = .bool x15_5 ∧ Aside0 (spec_RuneLine.j0 kq a0 x15_5 = some r) ∧ Aside0 (kq ≤ k) ∧ Aside0 (Below w.heap.size w wc))
     case first =>
      have H := HC6.out; clear HC6; replace H := Option.bind_eq_some_iff.mp H; obtain ⟨t173, A70, H⟩ := H; replace H : (if t173 = 9 then (spec_RuneLine.j0 k a0 true) else (if a0 = 8205 then (spec_RuneLine.j0 k a0 true) else ((spec_RuneBidi.f k a0).bind fun t174 => (spec_RuneLine.j0 k a0 (decide (t174 ≥ 14)))))) = some r := H; have A7 := az A70; clear A70; by_cases c8 : t173 = 9
      ·
       rw [if_pos c8] at H; have c8b0 : (t173 == 9) = true := beq_iff_eq.mpr c8; have c8b1 : (t173 != 9) = false := bne_eq_false_iff_eq.mpr c8; clear c8; (first | rw [c8b0] | (simp only [i64_w, i32_w]; rw [c8b0]) | skip); have H' := az H; clear H; go_wp2_with (first | ((with_reducible refine gate_callee (f := 137) rfl ?_); refine goesL_ (some 17) rfl rfl Tryz.func137 (by kernel_rfl) rfl #[.int .i64 a0] rfl zC ?_; (with_reducible refine (spec_RuneBidi.calls k a0 t173 _ A7.out).mono ?_); rintro e w9 ⟨rfl, hb⟩; refine ⟨_, rfl, ?_⟩; have n0_ := az (below_step (zA HB.out) hb); clear HB; have HB := n0_; clear n0_; (try clear hb); (try clear hb2); (try clear hk); (try clear hi))); go_meet
       case rel => exact ⟨_, (true), zB, H', ⟨zJ⟩, ⟨zA HB.out⟩⟩
      ·
       rw [if_neg c8] at H; have c8b0 : (t173 == 9) = false := beq_eq_false_iff_ne.mpr c8; have c8b1 : (t173 != 9) = true := bne_iff_ne.mpr c8; (first | rw [c8b0] | (simp only [i64_w, i32_w]; rw [c8b0]) | skip); by_cases c10 : a0 = 8205
       ·
        rw [if_pos c10] at H; have c10b0 : (a0 == 8205) = true := beq_iff_eq.mpr c10; have c10b1 : (a0 != 8205) = false := bne_eq_false_iff_eq.mpr c10; clear c10; have H' := az H; clear H; go_wp2_with (first | ((with_reducible refine gate_callee (f := 137) rfl ?_); refine goesL_ (some 17) rfl rfl Tryz.func137 (by kernel_rfl) rfl #[.int .i64 a0] rfl zC ?_; (with_reducible refine (spec_RuneBidi.calls k a0 t173 _ A7.out).mono ?_); rintro e w11 ⟨rfl, hb⟩; refine ⟨_, rfl, ?_⟩; have n0_ := az (below_step (zA HB.out) hb); clear HB; have HB := n0_; clear n0_; (try clear hb); (try clear hb2); (try clear hk); (try clear hi))); go_meet
        case rel => exact ⟨_, (true), zB, H', ⟨zJ⟩, ⟨zA HB.out⟩⟩
       ·
        rw [if_neg c10] at H; have c10b0 : (a0 == 8205) = false := beq_eq_false_iff_ne.mpr c10; have c10b1 : (a0 != 8205) = true := bne_iff_ne.mpr c10; replace H := Option.bind_eq_some_iff.mp H; obtain ⟨t174, A120, H⟩ := H; replace H : (spec_RuneLine.j0 k a0 (decide (t174 ≥ 14))) = some r := H; have A12 := az A120; clear A120; have H' := az H; clear H; go_wp2_with (first | ((with_reducible refine gate_callee (f := 137) rfl ?_); refine goesL_ (some 17) rfl rfl Tryz.func137 (by kernel_rfl) rfl #[.int .i64 a0] rfl zC ?_; (with_reducible refine (spec_RuneBidi.calls k a0 t173 _ A7.out).mono ?_); rintro e w13 ⟨rfl, hb⟩; refine ⟨_, rfl, ?_⟩; have n0_ := az (below_step (zA HB.out) hb); clear HB; have HB := n0_; clear n0_; (try clear hb); (try clear hb2); (try clear hk); (try clear hi)) | (go_at_call 137; (with_reducible refine (spec_RuneBidi.calls k a0 t174 _ A12.out).mono ?_); rintro e w14 ⟨rfl, hb⟩; have n0_ := az (below_step (zA HB.out) hb); clear HB; have HB := n0_; clear n0_; (try clear hb); (try clear hb2); (try clear hk); (try clear hi))); go_meet
        case rel => exact ⟨_, (decide (t174 ≥ 14)), zB, H', ⟨zJ⟩, ⟨zA HB.out⟩⟩
     case rest =>
      clear HC6; (try clear c1); (try clear c2); (try clear c2b0); (try clear c2b1); (try clear p2); (try clear c3); (try clear c3b0); (try clear c3b1); (try clear c4); (try clear c4b0); (try clear c4b1); (try clear c5); (try clear c5b0); (try clear c5b1); (try clear c8); (try clear c8b0); (try clear c8b1); (try clear c10); (try clear c10b0); (try clear c10b1); (try clear c12); (try clear c13); obtain ⟨kq, x15_5, rfl, HA, HJ5, HB⟩ := hcut
      cases kq with
      | zero => exact absurd HA.out (by simp [spec_RuneLine.j0])
      | succ kj5 =>
       have H := HA.out; clear HA; simp only [spec_RuneLine.j0] at H; by_cases c15 : x15_5 = true
       ·
        subst c15; have H1 : (some 7) = some r := by rw [if_pos rfl] at H; exact H
        clear H; have H := H1; clear H1; obtain rfl := Option.some.inj H; go_wp2; go_ret; exact ⟨zG, zA HB.out⟩
       ·
        replace c15 := Bool.eq_false_iff.mpr c15; subst c15; have H1 : ((spec_l1In.f a0 48 57).bind fun t175 => (if t175 = true then (spec_RuneLine.j1 kj5 a0 true) else ((spec_l1In.f a0 1632 1641).bind fun t176 => (spec_RuneLine.j1 kj5 a0 t176)))) = some r := by rw [if_neg (show ¬ (false = true) by decide)] at H; exact H
        clear H; have H := H1; clear H1; have HC16 := az H; clear H; go_upto_region 11 with (fail)
        go_cut [28] (fun v28 wc => ∃ (kq : Nat) (x28_15 : Bool), v28 = .bool x28_15 ∧ Aside0 (spec_RuneLine.j1 kq a0 x28_15 = some r) ∧ Aside0 (kq ≤ kj5) ∧ Aside0 (Below w.heap.size w wc))
        case first =>
         have H := HC16.out; clear HC16; replace H := Option.bind_eq_some_iff.mp H; obtain ⟨t175, A170, H⟩ := H; replace H : (if t175 = true then (spec_RuneLine.j1 kj5 a0 true) else ((spec_l1In.f a0 1632 1641).bind fun t176 => (spec_RuneLine.j1 kj5 a0 t176))) = some r := H; have A17 := az A170; clear A170; by_cases c18 : t175 = true
         ·
          subst c18; have H1 : (spec_RuneLine.j1 kj5 a0 true) = some r := by rw [if_pos rfl] at H; exact H
          clear H; have H := H1; clear H1; have H' := az H; clear H; go_wp2_with (first | ((with_reducible refine gate_callee (f := 36) rfl ?_); refine goesL_ (some 30) rfl rfl Tryz.func36 (by kernel_rfl) rfl #[.int .i64 a0, .int .i64 48, .int .i64 57] rfl zC ?_; (with_reducible refine (spec_l1In.calls a0 48 57 true _ A17.out).mono ?_); rintro e w' ⟨rfl, ⟨nd, rfl⟩⟩; refine ⟨_, rfl, ?_⟩)); go_meet
          case rel => exact ⟨_, (true), zB, H', ⟨zK HJ5.out⟩, ⟨zA HB.out⟩⟩
         ·
          replace c18 := Bool.eq_false_iff.mpr c18; subst c18; have H1 : ((spec_l1In.f a0 1632 1641).bind fun t176 => (spec_RuneLine.j1 kj5 a0 t176)) = some r := by rw [if_neg (show ¬ (false = true) by decide)] at H; exact H
          clear H; have H := H1; clear H1; replace H := Option.bind_eq_some_iff.mp H; obtain ⟨t176, A190, H⟩ := H; replace H : (spec_RuneLine.j1 kj5 a0 t176) = some r := H; have A19 := az A190; clear A190; have H' := az H; clear H; go_wp2_with (first | ((with_reducible refine gate_callee (f := 36) rfl ?_); refine goesL_ (some 30) rfl rfl Tryz.func36 (by kernel_rfl) rfl #[.int .i64 a0, .int .i64 48, .int .i64 57] rfl zC ?_; (with_reducible refine (spec_l1In.calls a0 48 57 false _ A17.out).mono ?_); rintro e w' ⟨rfl, ⟨nd, rfl⟩⟩; refine ⟨_, rfl, ?_⟩) | (go_at_call 36; (with_reducible refine (spec_l1In.calls a0 1632 1641 t176 _ A19.out).mono ?_); rintro e w' ⟨rfl, ⟨nd, rfl⟩⟩)); go_meet
          case rel => exact ⟨_, (t176), zB, H', ⟨zK HJ5.out⟩, ⟨zA HB.out⟩⟩
        case rest =>
         clear HC16; (try clear c1); (try clear c2); (try clear c2b0); (try clear c2b1); (try clear p2); (try clear c3); (try clear c3b0); (try clear c3b1); (try clear c4); (try clear c4b0); (try clear c4b1); (try clear c5); (try clear c5b0); (try clear c5b1); (try clear c8); (try clear c8b0); (try clear c8b1); (try clear c10); (try clear c10b0); (try clear c10b1); (try clear c12); (try clear c13); (try clear c15); (try clear c18); (try clear p2); obtain ⟨kq, x28_15, rfl, HA, HJ15, HB⟩ := hcut
         cases kq with
         | zero => exact absurd HA.out (by simp [spec_RuneLine.j1])
         | succ kj15 =>
          have H := HA.out; clear HA; simp only [spec_RuneLine.j1] at H; by_cases c20 : x28_15 = true
          ·
           subst c20; have H1 : (some 2) = some r := by rw [if_pos rfl] at H; exact H
           clear H; have H := H1; clear H1; obtain rfl := Option.some.inj H; go_wp2; go_ret; exact ⟨zG, zA HB.out⟩
          ·
           replace c20 := Bool.eq_false_iff.mpr c20; subst c20; have H1 : ((spec_l1In.f a0 19968 40959).bind fun t177 => (if t177 = true then (some 15) else ((spec_l5Signs.f kj15 a0).bind fun t178 => (some t178)))) = some r := by rw [if_neg (show ¬ (false = true) by decide)] at H; exact H
           clear H; have H := H1; clear H1; replace H := Option.bind_eq_some_iff.mp H; obtain ⟨t177, A210, H⟩ := H; replace H : (if t177 = true then (some 15) else ((spec_l5Signs.f kj15 a0).bind fun t178 => (some t178))) = some r := H; have A21 := az A210; clear A210; by_cases c22 : t177 = true
           ·
            subst c22; have H1 : (some 15) = some r := by rw [if_pos rfl] at H; exact H
            clear H; have H := H1; clear H1; obtain rfl := Option.some.inj H; go_wp2_with (first | ((with_reducible refine gate_callee (f := 36) rfl ?_); refine goesL_ (some 37) rfl rfl Tryz.func36 (by kernel_rfl) rfl #[.int .i64 a0, .int .i64 19968, .int .i64 40959] rfl zC ?_; (with_reducible refine (spec_l1In.calls a0 19968 40959 true _ A21.out).mono ?_); rintro e w' ⟨rfl, ⟨nd, rfl⟩⟩; refine ⟨_, rfl, ?_⟩)); go_ret; exact ⟨zG, zA HB.out⟩
           ·
            replace c22 := Bool.eq_false_iff.mpr c22; subst c22; have H1 : ((spec_l5Signs.f kj15 a0).bind fun t178 => (some t178)) = some r := by rw [if_neg (show ¬ (false = true) by decide)] at H; exact H
            clear H; have H := H1; clear H1; replace H := Option.bind_eq_some_iff.mp H; obtain ⟨t178, A230, H⟩ := H; replace H : (some t178) = some r := H; have A23 := az A230; clear A230; obtain rfl := Option.some.inj H; go_wp2_with (first | ((with_reducible refine gate_callee (f := 36) rfl ?_); refine goesL_ (some 37) rfl rfl Tryz.func36 (by kernel_rfl) rfl #[.int .i64 a0, .int .i64 19968, .int .i64 40959] rfl zC ?_; (with_reducible refine (spec_l1In.calls a0 19968 40959 false _ A21.out).mono ?_); rintro e w' ⟨rfl, ⟨nd, rfl⟩⟩; refine ⟨_, rfl, ?_⟩) | ((with_reducible refine gate_callee (f := 139) rfl ?_); refine goesL_ (some 39) rfl rfl Tryz.func139 (by kernel_rfl) rfl #[.int .i64 a0] rfl zC ?_; (with_reducible refine (spec_l5Signs.calls kj15 a0 t178 _ A23.out).mono ?_); rintro e w' ⟨rfl, ⟨nd, rfl⟩⟩; refine ⟨_, rfl, ?_⟩)); go_ret; exact ⟨zG, zA HB.out⟩
end Go.Proofs.YtmcdcogedcbndaaGreat.S
