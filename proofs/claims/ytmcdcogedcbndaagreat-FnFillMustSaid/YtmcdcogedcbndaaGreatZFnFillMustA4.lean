/- Of drawn letters, spans, width and way: each place where a line must end is an end of the lines that the program tells, and these are the reference's. No condition beyond the statement's own. (text 5 of 7 of this claim: functions of the program and of the reference as plain Lean functions, what a call of each comes to, and what follows.) -/
import Derived.Test.YtmcdcogedcbndaaGreatZFnFillMustA0
import Derived.Test.YtmcdcogedcbndaaGreatZFnFillMustA3
import Derived.Test.YtmcdcogedcbndaaGreatZFnFillMustA2
import Derived.Test.YtmcdcogedcbndaaGreatZFnFillMustA1
set_option maxHeartbeats 16000000
set_option maxRecDepth 100000
set_option linter.unusedVariables false
set_option linter.unusedSimpArgs false
namespace Go.Proofs.YtmcdcogedcbndaaGreat.S
open Go.RowKit Go.Proofs.YtmcdcogedcbndaaGreatW.PrintWords Go.Proofs.YtmcdcogedcbndaaGreatW.PrintLast
set_option linter.unusedVariables false
set_option linter.unusedSimpArgs false
theorem bestS_calls (k : Nat) (gb : Nat) (A0 : Option Addr) (c0 : Nat) (rs : List Int) (A1 : Option Addr) (c1 : Nat) (ws : List Int) (A2 : Option Addr) (c2 : Nat) (bs : List Int) (wide : Int) (W : Nat → Nat → Int) (w : World) (r : List Int) (ok : Bool) (hf : FlO 77 gb A0 c0 rs A1 c1 ws A2 c2 bs wide w) (hn : rs.length ≤ 1000) (hbl : bs.length = rs.length) (hW : ∀ i j : Nat, i ≤ j → j ≤ rs.length → spec_l7Wide.f k rs ws (i : Int) (j : Int) = some (W i j)) (hWb : ∀ i j : Nat, i ≤ j → j ≤ rs.length → (wide - W i j).natAbs ≤ 1000000000) (hTb : ∀ d, d ≤ rs.length → ∀ j, j ≤ rs.length → 0 ≤ ((tabB bs (fitV W wide) (costV bs W wide) rs.length) d j).1 ∧ ((tabB bs (fitV W wide) (costV bs W wide) rs.length) d j).1 ≤ 1000000000000000) (hr : outB ((tabB bs (fitV W wide) (costV bs W wide) rs.length) rs.length) rs.length rs.length 0 = some (if ok = true then some r else none)) (hr0 : ok = false → r = []) :
  Calls Tryz.prog 70 #[.pointer (some ⟨gb, 0, none⟩)] w fun e w' => ∃ v0_ : Value, e = .returned (.tuple #[v0_, .bool ok]) ∧ Kd.R (Kd.int .i64) 3 w' w.heap.size (fun _ => True) v0_ r ∧ Below w.heap.size w w' := by
 have HS := az hf
 have HW := az hW
 have HWB := az hWb
 have HTB := az hTb
 have HBL := az hbl
 have HN := az hn
 have HRR := az hr
 have HR0 := az hr0
 have q0 := (blk_cell hf.1 0).trans (show _ = some (Value.slice A0 rs.length c0) from rfl)
 have h0 : (0 : Int) ≤ (rs.length : Int) := by omega
 clear hf hW hWb hTb hbl hr hr0
 go_enter Tryz.func70, Tryz.ntmps70
 go_upto_region 2 with fail
 have hw1 : wrap64 ((rs.length : Int) + 1) = ((rs.length + 1 : Nat) : Int) := by unfold wrap64; omega
 have hu := Tryz.underlying103
 go_wp2_with ((with_reducible refine gate_dst (N := 19) rfl ?_); refine make_tab 105 rfl 103 (.tmp 18) (.tmp 18) rfl (rs.length + 1) (by go_simp) (by go_simp) hu (by kernel_rfl) (by omega) ?_)
 obtain ⟨g0, hg0⟩ : ∃ g0, w.heap.size = g0 := ⟨_, rfl⟩
 have HT0 := az (TB.made 105 (rs.length + 1) w)
 have HB0 := az (below_alloc (Below.refl w.heap.size w) (.cells (madeCells #[.int .i64 0, .int .i64 0] ((rs.length + 1) * 2)) 105))
 rw [hg0] at HT0 ⊢
 generalize w.alloc (.cells (madeCells #[.int .i64 0, .int .i64 0] ((rs.length + 1) * 2)) 105) = w1 at HT0 HB0 ⊢
 have HG0 := az (show w.heap.size ≤ g0 by omega)
 have HGE := az hg0
 clear q0 hw1 h0
 go_loopg [6] rs.length (fun gg s6 wr => ∃ d : Nat, s6 = .int .i64 ((rs.length : Int) - 1 - (d : Int)) ∧ d ≤ rs.length ∧ rs.length - d ≤ gg ∧ Aside0 (TB 105 g0 (rs.length + 1) ((tabB bs (fitV W wide) (costV bs W wide) rs.length) d) wr) ∧ Aside0 (Below w.heap.size w wr))
 case atStart => exact ⟨0, by go_num, Nat.zero_le _, by omega, HT0, HB0⟩
 case round =>
  clear HT0 HB0
  obtain ⟨d, rfl, hd, hg, HT, HB⟩ := hrel
  by_cases hlt : d < rs.length
  ·
   obtain ⟨a, ha⟩ : ∃ a : Nat, rs.length - 1 - d = a := ⟨_, rfl⟩
   have hai : (rs.length : Int) - 1 - (d : Int) = (a : Int) := by omega
   rw [hai]
   have ha0 : (0 : Int) ≤ (a : Int) := by omega
   have han : (a : Int) < ((rs.length + 1 : Nat) : Int) := by omega
   have halt : a < rs.length + 1 := by omega
   obtain ⟨T, hT⟩ : ∃ T, (tabB bs (fitV W wide) (costV bs W wide) rs.length) d = T := ⟨_, rfl⟩
   have HTE := az hT
   have HTP : Aside0 (∀ j : Nat, j ≤ rs.length → 0 ≤ (T j).1 ∧ (T j).1 ≤ 1000000000000000) := ⟨fun j hj => hT ▸ HTB.out d hd j hj⟩
   have HTA : Aside0 ((T a).1 = 0) := ⟨by rw [← hT, tabB_lo bs (fitV W wide) (costV bs W wide) rs.length d a (by omega)]⟩
   rw [hT] at HT
   obtain ⟨x0, x1, x2, x3⟩ := HT.out.cells halt
   have HT1 : Aside0 (TB 105 g0 (rs.length + 1) (updV T a (0, -1)) (wr.setCell ⟨g0, a * 2 + 1, none⟩ (.int .i64 (-1)))) := ⟨by rw [← HTA.out]; exact HT.out.set1 halt (-1)⟩
   have HB1 : Aside0 (Below w.heap.size w (wr.setCell ⟨g0, a * 2 + 1, none⟩ (.int .i64 (-1)))) := ⟨HB.out.setCell (p := ⟨g0, a * 2 + 1, none⟩) HG0.out _⟩
   have HAL := az halt
   have HAE := az ha
   have HDL := az hlt
   have HML := az (mustN_le bs rs.length (bs.length - a) a (zE HBL.out))
   have HAN := az (show a ≤ bs.length from (zE HBL.out))
   have HNN := az (show bs.length ≤ 1000 from (zE HBL.out))
   clear hT hd hlt ha hai HT HB
   go_upto_region 8 with (go_at_call 65; go_must (refine (mustS_calls gb A0 c0 rs A1 c1 ws A2 c2 bs wide a _ (HS.out.below HB1.out) HAN.out HNN.out).mono ?_); rintro e w4 ⟨rfl, hd4⟩; have HB4 := az (below_then HB1.out HB1.out.size hd4.below); have HT4 := az (HT1.out.below hd4.below); clear hd4)
   have HME : Aside0 (mustV bs rs.length a = mustN bs rs.length (bs.length - a) a) := ⟨rfl⟩
   obtain ⟨en, hen⟩ : ∃ en, mustV bs rs.length a = en := ⟨_, rfl⟩
   have HEN := az (show en ≤ rs.length from hen ▸ HML.out)
   have HEE := az hen
   rw [hen]
   clear HML HME hen x0 x1 x2 x3 HT1 HB1
   go_wp2
   go_loopg [8] rs.length (fun gq s8 wq => ∃ (e : Nat) (u v : Int), s8 = .int .i64 e ∧ a < e ∧ en + 1 - e ≤ gq ∧ Aside0 (rowB bs (fitV W wide) (costV bs W wide) rs.length T a (en + 1 - e) e (u, v) = rowB bs (fitV W wide) (costV bs W wide) rs.length T a (en - a) (a + 1) (0, -1)) ∧ Aside0 (TB 105 g0 (rs.length + 1) (updV T a (u, v)) wq) ∧ Aside0 (Below w.heap.size w wq))
   case atStart => exact ⟨a + 1, 0, -1, by have h9 := HAN.out; have h8 := HNN.out; first | go_num | (congr 1; unfold wrap64; omega), by omega, zE HEN.out, ⟨by rw [show en + 1 - (a + 1) = en - a by omega]⟩, HT4, HB4⟩
   case round =>
    clear HT4 HB4
    obtain ⟨e, u, v, rfl, hi0, hgq, HF, HT, HB⟩ := hrel
    have HQ := az (HS.out.below HB.out)
    by_cases hle : e ≤ en
    ·
     have hlez : (e : Int) ≤ (en : Int) := by omega
     have hq := HF.out
     rw [show en + 1 - e = (en + 1 - (e + 1)) + 1 by omega, rowB] at hq
     obtain ⟨m, hm⟩ : ∃ m : Nat, e = m + 1 := ⟨e - 1, by omega⟩
     have hm0 : (0 : Int) ≤ (m : Int) := by omega
     have hmz : (m : Int) < (bs.length : Int) := by have := HEN.out; have := HBL.out; omega
     have hen9 := HEN.out
     have he0 : (0 : Int) ≤ (e : Int) := by omega
     have hez : (e : Int) < ((rs.length + 1 : Nat) : Int) := by omega
     have hez2 : (e : Int) < (rs.length : Int) + 1 := by omega
     have hez3 : e < rs.length + 1 := by omega
     have q2 := (blk_cell HQ.out.1 2).trans (show _ = some (Value.slice A2 bs.length c2) from rfl)
     obtain ⟨ad5, hA5, hx5⟩ := Kd.at_int HQ.out.2.2.2.2.2.1 (m : Int) hm0 hmz
     have hxx : rd bs (m : Int) = bs.getD m 0 := by simp [rd]
     rw [hxx, Int.toNat_natCast] at hx5
     obtain ⟨y, hy⟩ : ∃ y, bs.getD m 0 = y := ⟨_, rfl⟩
     rw [hy] at hx5
     subst hA5
     have hw1 : IntKind.i64.wrap ((e : Int) - 1) = (m : Int) := by rw [i64_w]; unfold wrap64; omega
     have hw2 : wrap64 ((e : Int) - 1) = (m : Int) := by unfold wrap64; omega
     have HYE : Aside0 (bs.getD (e - 1) 0 = y) := ⟨by rw [show e - 1 = m by omega]; exact hy⟩
     have HYM := az hy
     have HMB := az (show m < bs.length by omega)
     have HEM := az (show (e : Int) - 1 = (m : Int) by omega)
     have HLE := az (show e ≤ rs.length by omega)
     have HLN := az hle
     have HAE2 := az hi0
     obtain ⟨y0, y1, _, _⟩ := HT.out.cells (i := e) (by omega)
     rw [updV_ne T (u, v) (show e ≠ a by omega)] at y0 y1
     obtain ⟨p1, hp1⟩ : ∃ p1, (T e).1 = p1 := ⟨_, rfl⟩
     obtain ⟨p2, hp2⟩ : ∃ p2, (T e).2 = p2 := ⟨_, rfl⟩
     have hpb := HTP.out e (by omega)
     rw [hp1] at y0 hpb
     rw [hp2] at y1
     have HP1 := az hp1
     have HP2 := az hp2
     have HPB := az hpb
     have HQQ := az hq
     clear hxx hy hm hle HF hq hp1 hp2 hpb hen9
     by_cases hy0 : y = 0
     ·
      have b0 : (y == 0) = true := beq_iff_eq.mpr hy0
      have HST : Aside0 ((u, v) = stepB bs (fitV W wide) (costV bs W wide) rs.length T a e (u, v)) := ⟨by unfold stepB; rw [HYE.out, if_pos (Or.inl hy0)]⟩
      clear hy0
      go_wp2
      go_roundg (en + 1 - (e + 1))
      case measure => have := HLN.out; omega
      case rel => exact ⟨e + 1, u, v, by have h9 := HLE.out; have h8 := HN.out; first | go_num | (congr 1; unfold wrap64; omega), zE HAE2.out, Nat.le_refl _, ⟨by rw [← HQQ.out]; congr 1; exact HST.out⟩, HT, HB⟩
     ·
      have b0 : (y == 0) = false := beq_eq_false_iff_ne.mpr hy0
      cases hfi : fitV W wide a e
      case false =>
       have HFI := az hfi
       have HST : Aside0 ((u, v) = stepB bs (fitV W wide) (costV bs W wide) rs.length T a e (u, v)) := ⟨by unfold stepB; rw [if_pos (Or.inr (Or.inl hfi))]⟩
       clear hy0 hfi
       go_wp2_with (go_at_call 64; go_must (refine (fitsS_calls k gb A0 c0 rs A1 c1 ws (some ad5) c2 bs wide (a : Int) (e : Int) (W a e) _ HQ.out (HW.out a e (zE HAE2.out) HLE.out)).mono ?_); rw [show decide (W a e ≤ wide) = false from HFI.out]; rintro e1 w2 ⟨rfl, hb2⟩; have HB2 := az (below_then HB.out HB.out.size hb2); have HT2 := az (HT.out.below hb2); have HL2 := az hb2; have y0 := hb2.cell (World.block_lt_of_cell? _ _ y0) |>.trans y0; have y1 := hb2.cell (World.block_lt_of_cell? _ _ y1) |>.trans y1; clear hb2)
       go_roundg (en + 1 - (e + 1))
       case measure => have := HLN.out; omega
       case rel => exact ⟨e + 1, u, v, by have h9 := HLE.out; have h8 := HN.out; first | go_num | (congr 1; unfold wrap64; omega), zE HAE2.out, Nat.le_refl _, ⟨by rw [← HQQ.out]; congr 1; exact HST.out⟩, HT2, HB2⟩
      case true =>
       have HFI := az hfi
       by_cases hen1 : e < rs.length
       ·
        have henz : (e : Int) < (rs.length : Int) := by omega
        by_cases hp0 : p2 < 0
        ·
         have HST : Aside0 ((u, v) = stepB bs (fitV W wide) (costV bs W wide) rs.length T a e (u, v)) := ⟨by unfold stepB; rw [if_pos (Or.inr (Or.inr ⟨hen1, by rw [HP2.out]; exact hp0⟩))]⟩
         clear hy0 hfi hen1
         go_wp2_with (go_at_call 64; go_must (refine (fitsS_calls k gb A0 c0 rs A1 c1 ws (some ad5) c2 bs wide (a : Int) (e : Int) (W a e) _ HQ.out (HW.out a e (zE HAE2.out) HLE.out)).mono ?_); rw [show decide (W a e ≤ wide) = true from HFI.out]; rintro e1 w2 ⟨rfl, hb2⟩; have HB2 := az (below_then HB.out HB.out.size hb2); have HT2 := az (HT.out.below hb2); have HL2 := az hb2; have y0 := hb2.cell (World.block_lt_of_cell? _ _ y0) |>.trans y0; have y1 := hb2.cell (World.block_lt_of_cell? _ _ y1) |>.trans y1; clear hb2)
         go_roundg (en + 1 - (e + 1))
         case measure => have := HLN.out; omega
         case rel => exact ⟨e + 1, u, v, by have h9 := HLE.out; have h8 := HN.out; first | go_num | (congr 1; unfold wrap64; omega), zE HAE2.out, Nat.le_refl _, ⟨by rw [← HQQ.out]; congr 1; exact HST.out⟩, HT2, HB2⟩
        ·
         have HNG : Aside0 (¬ (bs.getD (e - 1) 0 = 0 ∨ fitV W wide a e = false ∨ (e < rs.length ∧ (T e).2 < 0))) := ⟨by rw [HYE.out, hfi, HP2.out]; intro h; rcases h with h | h | h; exact hy0 h; cases h; exact hp0 h.2⟩
         clear hy0 hfi hen1
         obtain ⟨x, hx⟩ : ∃ x, costV bs W wide a e = x := ⟨_, rfl⟩
         have HCX : Aside0 ((if bs.getD m 0 = 2 then 0 else (wide - W a e) * (wide - W a e)) = x) := ⟨by rw [← hx]; unfold costV; rw [HYE.out, HYM.out]⟩
         have hxb : 0 ≤ x ∧ x ≤ 1000000000000000000 := by rw [← HCX.out]; split; omega; exact sq_fit _ (HWB.out a e (zE HAE2.out) HLE.out)
         have hpb := HPB.out
         obtain ⟨c, hc⟩ : ∃ c, x + p1 = c := ⟨_, rfl⟩
         have hw3 : wrap64 (x + p1) = c := by unfold wrap64; omega
         have hw4 : IntKind.i64.wrap (x + p1) = c := by rw [i64_w]; exact hw3
         have HXC := az (show costV bs W wide a e + (T e).1 = c by rw [hx, HP1.out]; exact hc)
         clear hx hxb hpb hc
         go_upto_region 12 with (go_at_call 64; go_must (refine (fitsS_calls k gb A0 c0 rs A1 c1 ws (some ad5) c2 bs wide (a : Int) (e : Int) (W a e) _ HQ.out (HW.out a e (zE HAE2.out) HLE.out)).mono ?_); rw [show decide (W a e ≤ wide) = true from HFI.out]; rintro e1 w2 ⟨rfl, hb2⟩; have HB2 := az (below_then HB.out HB.out.size hb2); have HT2 := az (HT.out.below hb2); have HL2 := az hb2; have y0 := hb2.cell (World.block_lt_of_cell? _ _ y0) |>.trans y0; have y1 := hb2.cell (World.block_lt_of_cell? _ _ y1) |>.trans y1; clear hb2)
         have hJ := FlJ.of (p := ⟨g0, e * 2, none⟩) (q := ⟨g0, e * 2, none⟩) ⟨HQ.out.below HL2.out, Below.refl _ _, y0, y0⟩
         clear y0 y1 q2 hx5
         unfold FlJ at hJ
         go_region_held3 (fun W' => W'.cell? ⟨gb, 0, none⟩ = some (.slice A0 rs.length c0) ∧ W'.cell? ⟨gb, 1, none⟩ = some (.slice A1 ws.length c1) ∧ W'.cell? ⟨gb, 2, none⟩ = some (.slice (some ad5) bs.length c2) ∧ W'.cell? ⟨gb, 3, none⟩ = some (.int .i64 wide) ∧ W'.cell? ⟨g0, e * 2, none⟩ = some (.int .i64 p1) ∧ W'.cell? ⟨g0, e * 2, none⟩ = some (.int .i64 p1) ∧ Aside0 (FlK 77 gb A0 c0 rs A1 c1 ws (some ad5) c2 bs wide ⟨g0, e * 2, none⟩ p1 ⟨g0, e * 2, none⟩ p1 w2 W')) (first | (with_reducible assumption) | (with_reducible refine FlJ.below ?_ zH; with_reducible assumption) | (with_reducible exact FlJ.drew zH)) (first | (go_at_call 67; (with_reducible refine (costS_calls k gb A0 c0 rs A1 c1 ws (some ad5) c2 bs wide (a : Int) (e : Int) (W a e) m _ ?s1 HEM.out HMB.out (HW.out a e (zE HAE2.out) HLE.out) (HWB.out a e (zE HAE2.out) HLE.out)).mono ?_); (case s1 => exact (show FlJ 77 gb A0 c0 rs A1 c1 ws (some ad5) c2 bs wide ⟨g0, e * 2, none⟩ p1 ⟨g0, e * 2, none⟩ p1 w2 _ from zH).2.2.2.2.2.2.out.1); rw [HCX.out]; rintro e3 w3 ⟨rfl, p⟩))
         all_goals
          have HB6 := az (show FlJ 77 gb A0 c0 rs A1 c1 ws (some ad5) c2 bs wide ⟨g0, e * 2, none⟩ p1 ⟨g0, e * 2, none⟩ p1 w2 _ from zH).2.2.2.2.2.2.out.2.1
          have HB7 := az (below_then HB2.out HB2.out.size HB6.out)
          have HT7 := az (HT2.out.below HB6.out)
          obtain ⟨z0, z1, z2, z3⟩ := HT7.out.cells HAL.out
          rw [updV_at] at z0 z1
          by_cases hv0 : v < 0
          ·
           have HST : Aside0 ((c, (e : Int)) = stepB bs (fitV W wide) (costV bs W wide) rs.length T a e (u, v)) := ⟨by unfold stepB; rw [if_neg HNG.out, HXC.out, if_pos (Or.inl hv0)]⟩
           go_wp2
           go_roundg (en + 1 - (e + 1))
           case measure => have := HLN.out; omega
           case rel => exact ⟨e + 1, c, (e : Int), by have h9 := HLE.out; have h8 := HN.out; first | go_num | (congr 1; unfold wrap64; omega), zE HAE2.out, Nat.le_refl _, ⟨by rw [← HQQ.out]; congr 1; exact HST.out⟩, ⟨by have h := HT7.out.set HAL.out c (e : Int); rw [updV_updV] at h; exact h⟩, ⟨(HB7.out.setCell (p := ⟨g0, a * 2, none⟩) HG0.out _).setCell (p := ⟨g0, a * 2 + 1, none⟩) HG0.out _⟩⟩
          ·
           by_cases hcu : c < u
           ·
            have HST : Aside0 ((c, (e : Int)) = stepB bs (fitV W wide) (costV bs W wide) rs.length T a e (u, v)) := ⟨by unfold stepB; rw [if_neg HNG.out, HXC.out, if_pos (Or.inr hcu)]⟩
            go_wp2
            go_roundg (en + 1 - (e + 1))
            case measure => have := HLN.out; omega
            case rel => exact ⟨e + 1, c, (e : Int), by have h9 := HLE.out; have h8 := HN.out; first | go_num | (congr 1; unfold wrap64; omega), zE HAE2.out, Nat.le_refl _, ⟨by rw [← HQQ.out]; congr 1; exact HST.out⟩, ⟨by have h := HT7.out.set HAL.out c (e : Int); rw [updV_updV] at h; exact h⟩, ⟨(HB7.out.setCell (p := ⟨g0, a * 2, none⟩) HG0.out _).setCell (p := ⟨g0, a * 2 + 1, none⟩) HG0.out _⟩⟩
           ·
            have HST : Aside0 ((u, v) = stepB bs (fitV W wide) (costV bs W wide) rs.length T a e (u, v)) := ⟨by unfold stepB; rw [if_neg HNG.out, HXC.out, if_neg (show ¬ (v < 0 ∨ c < u) by omega)]⟩
            go_wp2
            go_roundg (en + 1 - (e + 1))
            case measure => have := HLN.out; omega
            case rel => exact ⟨e + 1, u, v, by have h9 := HLE.out; have h8 := HN.out; first | go_num | (congr 1; unfold wrap64; omega), zE HAE2.out, Nat.le_refl _, ⟨by rw [← HQQ.out]; congr 1; exact HST.out⟩, HT7, HB7⟩
       ·
        have henz : ¬ (e : Int) < (rs.length : Int) := by omega
        have HNG : Aside0 (¬ (bs.getD (e - 1) 0 = 0 ∨ fitV W wide a e = false ∨ (e < rs.length ∧ (T e).2 < 0))) := ⟨by rw [HYE.out, hfi, HP2.out]; intro h; rcases h with h | h | h; exact hy0 h; cases h; exact hen1 h.1⟩
        clear hy0 hfi hen1
        obtain ⟨x, hx⟩ : ∃ x, costV bs W wide a e = x := ⟨_, rfl⟩
        have HCX : Aside0 ((if bs.getD m 0 = 2 then 0 else (wide - W a e) * (wide - W a e)) = x) := ⟨by rw [← hx]; unfold costV; rw [HYE.out, HYM.out]⟩
        have hxb : 0 ≤ x ∧ x ≤ 1000000000000000000 := by rw [← HCX.out]; split; omega; exact sq_fit _ (HWB.out a e (zE HAE2.out) HLE.out)
        have hpb := HPB.out
        obtain ⟨c, hc⟩ : ∃ c, x + p1 = c := ⟨_, rfl⟩
        have hw3 : wrap64 (x + p1) = c := by unfold wrap64; omega
        have hw4 : IntKind.i64.wrap (x + p1) = c := by rw [i64_w]; exact hw3
        have HXC := az (show costV bs W wide a e + (T e).1 = c by rw [hx, HP1.out]; exact hc)
        clear hx hxb hpb hc
        go_upto_region 12 with (go_at_call 64; go_must (refine (fitsS_calls k gb A0 c0 rs A1 c1 ws (some ad5) c2 bs wide (a : Int) (e : Int) (W a e) _ HQ.out (HW.out a e (zE HAE2.out) HLE.out)).mono ?_); rw [show decide (W a e ≤ wide) = true from HFI.out]; rintro e1 w2 ⟨rfl, hb2⟩; have HB2 := az (below_then HB.out HB.out.size hb2); have HT2 := az (HT.out.below hb2); have HL2 := az hb2; have y0 := hb2.cell (World.block_lt_of_cell? _ _ y0) |>.trans y0; have y1 := hb2.cell (World.block_lt_of_cell? _ _ y1) |>.trans y1; clear hb2)
        have hJ := FlJ.of (p := ⟨g0, e * 2, none⟩) (q := ⟨g0, e * 2, none⟩) ⟨HQ.out.below HL2.out, Below.refl _ _, y0, y0⟩
        clear y0 y1 q2 hx5
        unfold FlJ at hJ
        go_region_held3 (fun W' => W'.cell? ⟨gb, 0, none⟩ = some (.slice A0 rs.length c0) ∧ W'.cell? ⟨gb, 1, none⟩ = some (.slice A1 ws.length c1) ∧ W'.cell? ⟨gb, 2, none⟩ = some (.slice (some ad5) bs.length c2) ∧ W'.cell? ⟨gb, 3, none⟩ = some (.int .i64 wide) ∧ W'.cell? ⟨g0, e * 2, none⟩ = some (.int .i64 p1) ∧ W'.cell? ⟨g0, e * 2, none⟩ = some (.int .i64 p1) ∧ Aside0 (FlK 77 gb A0 c0 rs A1 c1 ws (some ad5) c2 bs wide ⟨g0, e * 2, none⟩ p1 ⟨g0, e * 2, none⟩ p1 w2 W')) (first | (with_reducible assumption) | (with_reducible refine FlJ.below ?_ zH; with_reducible assumption) | (with_reducible exact FlJ.drew zH)) (first | (go_at_call 67; (with_reducible refine (costS_calls k gb A0 c0 rs A1 c1 ws (some ad5) c2 bs wide (a : Int) (e : Int) (W a e) m _ ?s1 HEM.out HMB.out (HW.out a e (zE HAE2.out) HLE.out) (HWB.out a e (zE HAE2.out) HLE.out)).mono ?_); (case s1 => exact (show FlJ 77 gb A0 c0 rs A1 c1 ws (some ad5) c2 bs wide ⟨g0, e * 2, none⟩ p1 ⟨g0, e * 2, none⟩ p1 w2 _ from zH).2.2.2.2.2.2.out.1); rw [HCX.out]; rintro e3 w3 ⟨rfl, p⟩))
        all_goals
         have HB6 := az (show FlJ 77 gb A0 c0 rs A1 c1 ws (some ad5) c2 bs wide ⟨g0, e * 2, none⟩ p1 ⟨g0, e * 2, none⟩ p1 w2 _ from zH).2.2.2.2.2.2.out.2.1
         have HB7 := az (below_then HB2.out HB2.out.size HB6.out)
         have HT7 := az (HT2.out.below HB6.out)
         obtain ⟨z0, z1, z2, z3⟩ := HT7.out.cells HAL.out
         rw [updV_at] at z0 z1
         by_cases hv0 : v < 0
         ·
          have HST : Aside0 ((c, (e : Int)) = stepB bs (fitV W wide) (costV bs W wide) rs.length T a e (u, v)) := ⟨by unfold stepB; rw [if_neg HNG.out, HXC.out, if_pos (Or.inl hv0)]⟩
          go_wp2
          go_roundg (en + 1 - (e + 1))
          case measure => have := HLN.out; omega
          case rel => exact ⟨e + 1, c, (e : Int), by have h9 := HLE.out; have h8 := HN.out; first | go_num | (congr 1; unfold wrap64; omega), zE HAE2.out, Nat.le_refl _, ⟨by rw [← HQQ.out]; congr 1; exact HST.out⟩, ⟨by have h := HT7.out.set HAL.out c (e : Int); rw [updV_updV] at h; exact h⟩, ⟨(HB7.out.setCell (p := ⟨g0, a * 2, none⟩) HG0.out _).setCell (p := ⟨g0, a * 2 + 1, none⟩) HG0.out _⟩⟩
         ·
          by_cases hcu : c < u
          ·
           have HST : Aside0 ((c, (e : Int)) = stepB bs (fitV W wide) (costV bs W wide) rs.length T a e (u, v)) := ⟨by unfold stepB; rw [if_neg HNG.out, HXC.out, if_pos (Or.inr hcu)]⟩
           go_wp2
           go_roundg (en + 1 - (e + 1))
           case measure => have := HLN.out; omega
           case rel => exact ⟨e + 1, c, (e : Int), by have h9 := HLE.out; have h8 := HN.out; first | go_num | (congr 1; unfold wrap64; omega), zE HAE2.out, Nat.le_refl _, ⟨by rw [← HQQ.out]; congr 1; exact HST.out⟩, ⟨by have h := HT7.out.set HAL.out c (e : Int); rw [updV_updV] at h; exact h⟩, ⟨(HB7.out.setCell (p := ⟨g0, a * 2, none⟩) HG0.out _).setCell (p := ⟨g0, a * 2 + 1, none⟩) HG0.out _⟩⟩
          ·
           have HST : Aside0 ((u, v) = stepB bs (fitV W wide) (costV bs W wide) rs.length T a e (u, v)) := ⟨by unfold stepB; rw [if_neg HNG.out, HXC.out, if_neg (show ¬ (v < 0 ∨ c < u) by omega)]⟩
           go_wp2
           go_roundg (en + 1 - (e + 1))
           case measure => have := HLN.out; omega
           case rel => exact ⟨e + 1, u, v, by have h9 := HLE.out; have h8 := HN.out; first | go_num | (congr 1; unfold wrap64; omega), zE HAE2.out, Nat.le_refl _, ⟨by rw [← HQQ.out]; congr 1; exact HST.out⟩, HT7, HB7⟩
    ·
     have hlez : ¬ (e : Int) ≤ (en : Int) := by omega
     have hq := HF.out
     rw [show en + 1 - e = 0 by omega, rowB] at hq
     have HQQ := az hq
     clear hq HF hle
     go_wp2
     go_roundg (rs.length - (d + 1))
     case measure => have := HDL.out; omega
     case rel => exact ⟨d + 1, by have h9 := HAE.out; have h8 := HDL.out; have h7 := HN.out; first | go_num | (congr 1; unfold wrap64; omega), HDL.out, Nat.le_refl _, ⟨by rw [tabB, HAE.out, HTE.out, HEE.out, ← HQQ.out]; exact HT.out⟩, HB⟩
  ·
   obtain rfl : d = rs.length := by omega
   have hzz : (rs.length : Int) - 1 - (rs.length : Int) = -1 := by omega
   rw [hzz]
   obtain ⟨wo, hwo⟩ : ∃ wo, wo = wr := ⟨_, rfl⟩
   subst hwo
   have HTB2 : Aside0 (∀ j : Nat, True) := ⟨fun _ => trivial⟩
   obtain ⟨T, hT⟩ : ∃ T, (tabB bs (fitV W wide) (costV bs W wide) rs.length) rs.length = T := ⟨_, rfl⟩
   rw [hT] at HT HRR
   clear hlt hzz hT HTB HTB2 hd hg
   go_wp2_with ((with_reducible refine gate_dst (N := 100) rfl ?_); refine Kd.R_lit (Kd.int .i64) wo.heap.size 3 ?hg (N := 100) ?hd (xs := ([] : List Int)) (inner := []) (ok := fun _ => True) (okp := fun _ => True) ?hr ?hp (fun _ hk => hk) trivial (Below.refl _ _) (Nat.le_refl _) (by simp) ?_; (case hd => rfl); (case hg => rfl); (case hr => first | (go_simp; done) | (go_simp; rfl)); (case hp => exact (Reps.none _ _)); intro v1 w2 ho1 hb1 hg_ hnew_; clear hg_ hnew_; have HO1 := az ho1; have HB1 := az hb1; clear ho1 hb1)
   go_loopg [10, 11] rs.length (fun gg s10 s11 wr => ∃ (i g : Nat) (out : List Int), s11 = .int .i64 i ∧ i ≤ rs.length ∧ g ≤ gg ∧ Aside0 (∃ res, outB T rs.length g i = some res ∧ (if ok = true then some r else none) = res.map (fun l => out ++ l)) ∧ Aside0 (out.length + g ≤ rs.length) ∧ Aside0 (Kd.R (Kd.int .i64) 3 wr wo.heap.size (fun _ => True) s10 out) ∧ Aside0 (Below wo.heap.size wo wr))
   case atStart => exact ⟨0, rs.length, [], rfl, Nat.zero_le _, Nat.le_refl _, ⟨_, HRR.out, by cases ok <;> rfl⟩, ⟨by simp⟩, HO1, HB1⟩
   case round =>
    clear HRR HO1 HB1
    obtain ⟨i, g, out, rfl, hi, hg, HF, HLO, HO, HBX⟩ := hrel
    obtain ⟨res, hq, hres⟩ := HF.out
    have HTX := az (HT.out.below HBX.out)
    by_cases hlt : i < rs.length
    ·
     have hltz : (i : Int) < (rs.length : Int) := by omega
     have hi0 : (0 : Int) ≤ (i : Int) := by omega
     have hiz : (i : Int) < ((rs.length + 1 : Nat) : Int) := by omega
     obtain ⟨y0, y1, _, _⟩ := HTX.out.cells (i := i) (by omega)
     cases g with
     | zero => rw [outB, if_pos hlt] at hq; cases hq
     | succ g =>
     rw [outB, if_pos hlt] at hq
     obtain ⟨x, hx⟩ : ∃ x, (T i).2 = x := ⟨_, rfl⟩
     rw [hx] at hq y1
     by_cases hx0 : x < 0
     ·
      rw [if_pos hx0] at hq
      obtain rfl := Option.some.inj hq
      have HOK : Aside0 (ok = false ∧ r = []) := ⟨by
       cases ok
       · exact ⟨rfl, HR0.out rfl⟩
       · rw [if_pos rfl] at hres; cases hres⟩
      clear hq hres HF hx hlt
      go_wp2_with ((with_reducible refine gate_dst (N := 110) rfl ?_); refine Kd.R_lit (Kd.int .i64) wo.heap.size 3 ?hg (N := 110) ?hd (xs := ([] : List Int)) (inner := []) (ok := fun _ => True) (okp := fun _ => True) ?hr ?hp (fun _ hk => hk) trivial HBX.out HBX.out.size (by simp) ?_; (case hd => rfl); (case hg => rfl); (case hr => first | (go_simp; done) | (go_simp; rfl)); (case hp => exact (Reps.none _ _)); intro v2 w5 ho2 hb2 hg_ hnew_; clear hg_ hnew_; have HO2 := az ho2; have HB2 := az hb2; clear ho2 hb2)
      go_ret2
      exact ⟨_, by rw [HOK.out.1]; first | done | rfl, by rw [HOK.out.2, ← HGE.out]; exact Kd.R_lower HO2.out HB.out.size, by first | exact below_then HB.out HB.out.size HB2.out | (rw [← HGE.out]; exact below_then HB.out HB.out.size HB2.out)⟩
     ·
      rw [if_neg hx0] at hq
      by_cases hxn : x ≤ (rs.length : Int)
      case neg => rw [if_neg hxn] at hq; cases hq
      case pos =>
      rw [if_pos hxn] at hq
      replace hq := Option.bind_eq_some_iff.mp hq
      obtain ⟨l, hl, hq⟩ := hq
      obtain rfl := Option.some.inj hq
      obtain ⟨z, rfl⟩ : ∃ z : Nat, x = (z : Int) := ⟨x.toNat, by omega⟩
      rw [Int.toNat_natCast] at hl
      have HLL := az hl
      have HRE := az hres
      have HXB := az (show z ≤ rs.length by omega)
      have HGG := az hg
      clear hl hres hx hlt HF hg hxn
      go_wp2_with ((with_reducible refine gate_builtin (b := .append) (xs := #[.tmp 116, .tmp 118]) rfl ?_); at_builtin; go_must (refine appI (w0 := wo) (base := wo.heap.size) Tryz.underlying22 info3 rfl (.tmp 116) (.tmp 118) rfl _ out (z : Int) rfl rfl HO.out HBX.out HBX.out.size ?aL ?_); (case aL => have := HLO.out; have := HN.out; omega); intro v9 w9 ho9 hb9 hg9 hat9; have HO9 := az ho9; have HB9 := az hb9; clear ho9 hb9 hg9 hat9)
      go_roundg g
      case measure => have := HGG.out; omega
      case rel => exact ⟨z, g, _, rfl, HXB.out, Nat.le_refl _, ⟨l, HLL.out, by have h := HRE.out; rw [h]; cases l <;> simp⟩, ⟨by have := HLO.out; rw [List.length_append]; simp; omega⟩, HO9, HB9⟩
    ·
     have hltz : ¬ (i : Int) < (rs.length : Int) := by omega
     have HRE : Aside0 (ok = true ∧ out = r) := by
      have : res = some [] := by
       cases g with
       | zero => rw [outB, if_neg hlt] at hq; exact (Option.some.inj hq).symm
       | succ g => rw [outB, if_neg hlt] at hq; exact (Option.some.inj hq).symm
      subst this
      cases ok
      · rw [if_neg (by decide)] at hres; cases hres
      · rw [if_pos rfl] at hres; exact ⟨rfl, by have h := Option.some.inj hres; simpa using h.symm⟩
     clear hq hres HF hlt
     go_wp2
     go_ret2
     exact ⟨_, by rw [HRE.out.1]; first | done | rfl, by rw [← HRE.out.2, ← HGE.out]; exact Kd.R_lower HO.out HB.out.size, by first | exact below_then HB.out HB.out.size HBX.out | (rw [← HGE.out]; exact below_then HB.out HB.out.size HBX.out)⟩
def spec_l7Least.f (a0 : Int) (a1 : Int) : Option (Int) := if a0 < a1 then (some a0) else (some a1)
theorem spec_l7Least.calls (a0 : Int) (a1 : Int) (r : Int) (w : World) (h : spec_l7Least.f a0 a1 = some r) :
  Calls Tryz.prog 129 #[.int .i64 a0, .int .i64 a1] w fun e w' => e = .returned (.int .i64 r) ∧ Drawn0 w w' := by
 have H : (if a0 < a1 then (some a0) else (some a1)) = some r := h
 clear h
 by_cases c3 : a0 < a1
 ·
  rw [if_pos c3] at H
  have c3b0 : decide (a0 < a1) = true := decide_eq_true c3
  clear c3
  obtain rfl := Option.some.inj H
  go_enter Tryz.func129, Tryz.ntmps129
  go_wp2
  go_ret
  exact ⟨zB, zD⟩
 ·
  rw [if_neg c3] at H
  have c3b0 : decide (a0 < a1) = false := decide_eq_false c3
  clear c3
  obtain rfl := Option.some.inj H
  go_enter Tryz.func129, Tryz.ntmps129
  go_wp2
  go_ret
  exact ⟨zB, zD⟩
theorem forcedS_calls (k : Nat) (gb : Nat) (A0 : Option Addr) (c0 : Nat) (rs : List Int) (A1 : Option Addr) (c1 : Nat) (ws : List Int) (A2 : Option Addr) (c2 : Nat) (bs : List Int) (wide : Int) (W : Nat → Nat → Int) (J : Nat → Bool) (fr : Nat) (w : World) (hf : FlO 77 gb A0 c0 rs A1 c1 ws A2 c2 bs wide w) (hfr : fr ≤ rs.length) (hn : rs.length ≤ 1000) (hW : ∀ j : Nat, fr ≤ j → j ≤ rs.length → spec_l7Wide.f k rs ws (fr : Int) (j : Int) = some (W fr j)) (hJ : ∀ i : Nat, 0 < i → i < rs.length → spec_l2Joins.f k rs (i : Int) = some (J i)) :
  Calls Tryz.prog 130 #[.pointer (some ⟨gb, 0, none⟩), .int .i64 fr] w fun e w' => e = .returned (.int .i64 (forcedN (fitV W wide) J rs.length fr (rs.length - fr) (fr + 1) fr : Nat)) ∧ Below w.heap.size w w' := by
 have HS := az hf
 have HW := az hW
 have HJ := az hJ
 have HFR := az hfr
 clear hf hW hJ
 go_enter Tryz.func130, Tryz.ntmps130
 go_wp2
 go_loopg [5, 6] rs.length (fun gg s5 s6 wr => ∃ i tq : Nat, s5 = .int .i64 tq ∧ s6 = .int .i64 i ∧ i ≤ rs.length + 1 ∧ fr < i ∧ tq ≤ rs.length ∧ rs.length + 1 - i ≤ gg ∧ Aside0 (forcedN (fitV W wide) J rs.length fr (rs.length + 1 - i) i tq = forcedN (fitV W wide) J rs.length fr (rs.length - fr) (fr + 1) fr) ∧ Aside0 (Below w.heap.size w wr))
 case atStart => exact ⟨fr + 1, fr, rfl, by go_num, by omega, by omega, hfr, by omega, ⟨by rw [show rs.length + 1 - (fr + 1) = rs.length - fr by omega]⟩, ⟨Below.refl _ _⟩⟩
 case round =>
  obtain ⟨i, tq, rfl, rfl, hi, hi0, hto, hg, HF, HB⟩ := hrel
  have HQ := az (HS.out.below HB.out)
  have q0 := (blk_cell HQ.out.1 0).trans (show _ = some (Value.slice A0 rs.length c0) from rfl)
  have HFRI := az hi0
  by_cases hle : i ≤ rs.length
  ·
   have hlez : (i : Int) ≤ (rs.length : Int) := by omega
   have hq := HF.out
   rw [show rs.length + 1 - i = (rs.length + 1 - (i + 1)) + 1 by omega, forcedN] at hq
   clear HF
   have HLE := az hle
   have HTO := az hto
   clear hi hto hle
   by_cases hlt : i < rs.length
   ·
    have hltz : (i : Int) < (rs.length : Int) := by omega
    cases hj : J i
    case true =>
     rw [if_pos ⟨hlt, hj⟩] at hq
     have HJI := az (HJ.out i (by omega) hlt)
     rw [hj] at HJI
     have HQQ := az hq
     clear hq hlt hj
     go_wp2_with (go_at_call 124; go_must (refine (spec_l2Joins.calls k A0 c0 rs (i : Int) true _ HQ.out.2.1 HQ.out.2.2.1 HJI.out).mono ?_); rintro e w1 ⟨rfl, hb1⟩; have HB1 := az (below_then HB.out HB.out.size hb1); clear hb1)
     go_roundg (rs.length + 1 - (i + 1))
     case measure => have := HLE.out; omega
     case rel => exact ⟨i + 1, tq, rfl, by go_num, zE HLE.out, zE HFRI.out, HTO.out, Nat.le_refl _, HQQ, HB1⟩
    case false =>
     rw [if_neg (show ¬ (i < rs.length ∧ J i = true) from fun h => by rw [hj] at h; exact absurd h.2 (by decide))] at hq
     have HJI := az (HJ.out i (by omega) hlt)
     rw [hj] at HJI
     clear hlt hj
     by_cases hft : fr < tq
     ·
      have hftz : (fr : Int) < (tq : Int) := by omega
      cases hfi : fitV W wide fr i
      case true =>
       rw [if_neg (show ¬ (fr < tq ∧ fitV W wide fr i = false) from fun h => by rw [hfi] at h; exact absurd h.2 (by decide))] at hq
       have HFI := az hfi
       have HQQ := az hq
       clear hq hfi hft
       go_wp2_with (first | (go_at_call 124; go_must (refine (spec_l2Joins.calls k A0 c0 rs (i : Int) false _ HQ.out.2.1 HQ.out.2.2.1 HJI.out).mono ?_); rintro e w1 ⟨rfl, hb1⟩; have HB1 := az (below_then HB.out HB.out.size hb1); clear hb1) | (go_at_call 64; go_must (refine (fitsS_calls k gb A0 c0 rs A1 c1 ws A2 c2 bs wide (fr : Int) (i : Int) (W fr i) _ (HS.out.below HB1.out) (HW.out i (zE HFRI.out) HLE.out)).mono ?_); rw [(show decide (W fr i ≤ wide) = true from HFI.out)]; rintro e w2 ⟨rfl, hb2⟩; have HB2 := az (below_then HB1.out HB1.out.size hb2); clear hb2))
       go_roundg (rs.length + 1 - (i + 1))
       case measure => have := HLE.out; omega
       case rel => exact ⟨i + 1, i, rfl, by go_num, zE HLE.out, zE HFRI.out, HLE.out, Nat.le_refl _, HQQ, HB2⟩
      case false =>
       rw [if_pos ⟨hft, hfi⟩] at hq
       have HFI := az hfi
       have HQQ := az hq
       clear hq hfi hft
       go_wp2_with (first | (go_at_call 124; go_must (refine (spec_l2Joins.calls k A0 c0 rs (i : Int) false _ HQ.out.2.1 HQ.out.2.2.1 HJI.out).mono ?_); rintro e w1 ⟨rfl, hb1⟩; have HB1 := az (below_then HB.out HB.out.size hb1); clear hb1) | (go_at_call 64; go_must (refine (fitsS_calls k gb A0 c0 rs A1 c1 ws A2 c2 bs wide (fr : Int) (i : Int) (W fr i) _ (HS.out.below HB1.out) (HW.out i (zE HFRI.out) HLE.out)).mono ?_); rw [(show decide (W fr i ≤ wide) = false from HFI.out)]; rintro e w2 ⟨rfl, hb2⟩; have HB2 := az (below_then HB1.out HB1.out.size hb2); clear hb2))
       go_ret
       exact ⟨by rw [← HQQ.out]; first | done | rfl, HB2.out⟩
     ·
      have hftz : ¬ (fr : Int) < (tq : Int) := by omega
      rw [if_neg (show ¬ (fr < tq ∧ fitV W wide fr i = false) from fun h => hft h.1)] at hq
      have HQQ := az hq
      clear hq hft
      go_wp2_with (first | (go_at_call 124; go_must (refine (spec_l2Joins.calls k A0 c0 rs (i : Int) false _ HQ.out.2.1 HQ.out.2.2.1 HJI.out).mono ?_); rintro e w1 ⟨rfl, hb1⟩; have HB1 := az (below_then HB.out HB.out.size hb1); clear hb1))
      go_roundg (rs.length + 1 - (i + 1))
      case measure => have := HLE.out; omega
      case rel => exact ⟨i + 1, i, rfl, by go_num, zE HLE.out, zE HFRI.out, HLE.out, Nat.le_refl _, HQQ, HB1⟩
   ·
    have hltz : ¬ (i : Int) < (rs.length : Int) := by omega
    rw [if_neg (show ¬ (i < rs.length ∧ J i = true) from fun h => hlt h.1)] at hq
    clear hlt
    by_cases hft : fr < tq
    ·
     have hftz : (fr : Int) < (tq : Int) := by omega
     cases hfi : fitV W wide fr i
     case true =>
      rw [if_neg (show ¬ (fr < tq ∧ fitV W wide fr i = false) from fun h => by rw [hfi] at h; exact absurd h.2 (by decide))] at hq
      have HFI := az hfi
      have HQQ := az hq
      clear hq hfi hft
      go_wp2_with (first | (go_at_call 64; go_must (refine (fitsS_calls k gb A0 c0 rs A1 c1 ws A2 c2 bs wide (fr : Int) (i : Int) (W fr i) _ (HS.out.below HB.out) (HW.out i (zE HFRI.out) HLE.out)).mono ?_); rw [(show decide (W fr i ≤ wide) = true from HFI.out)]; rintro e w2 ⟨rfl, hb2⟩; have HB2 := az (below_then HB.out HB.out.size hb2); clear hb2))
      go_roundg (rs.length + 1 - (i + 1))
      case measure => have := HLE.out; omega
      case rel => exact ⟨i + 1, i, rfl, by go_num, zE HLE.out, zE HFRI.out, HLE.out, Nat.le_refl _, HQQ, HB2⟩
     case false =>
      rw [if_pos ⟨hft, hfi⟩] at hq
      have HFI := az hfi
      have HQQ := az hq
      clear hq hfi hft
      go_wp2_with (first | (go_at_call 64; go_must (refine (fitsS_calls k gb A0 c0 rs A1 c1 ws A2 c2 bs wide (fr : Int) (i : Int) (W fr i) _ (HS.out.below HB.out) (HW.out i (zE HFRI.out) HLE.out)).mono ?_); rw [(show decide (W fr i ≤ wide) = false from HFI.out)]; rintro e w2 ⟨rfl, hb2⟩; have HB2 := az (below_then HB.out HB.out.size hb2); clear hb2))
      go_ret
      exact ⟨by rw [← HQQ.out]; first | done | rfl, HB2.out⟩
    ·
     have hftz : ¬ (fr : Int) < (tq : Int) := by omega
     rw [if_neg (show ¬ (fr < tq ∧ fitV W wide fr i = false) from fun h => hft h.1)] at hq
     have HQQ := az hq
     clear hq hft
     go_wp2
     go_roundg (rs.length + 1 - (i + 1))
     case measure => have := HLE.out; omega
     case rel => exact ⟨i + 1, i, rfl, by go_num, zE HLE.out, zE HFRI.out, HLE.out, Nat.le_refl _, HQQ, HB⟩
  ·
   have hlez : ¬ (i : Int) ≤ (rs.length : Int) := by omega
   obtain rfl : i = rs.length + 1 := by omega
   have hq := HF.out
   rw [Nat.sub_self, forcedN] at hq
   have HQQ := az hq
   clear hq HF
   go_wp2
   go_ret
   exact ⟨by rw [← HQQ.out]; first | done | rfl, HB.out⟩
theorem nextS_calls (k : Nat) (gb : Nat) (A0 : Option Addr) (c0 : Nat) (rs : List Int) (A1 : Option Addr) (c1 : Nat) (ws : List Int) (A2 : Option Addr) (c2 : Nat) (bs : List Int) (wide : Int) (W : Nat → Nat → Int) (J : Nat → Bool) (fr : Nat) (w : World) (hf : FlO 77 gb A0 c0 rs A1 c1 ws A2 c2 bs wide w) (hfr : fr ≤ rs.length) (hn : rs.length ≤ 1000) (hbl : bs.length = rs.length) (hW : ∀ j : Nat, fr ≤ j → j ≤ rs.length → spec_l7Wide.f k rs ws (fr : Int) (j : Int) = some (W fr j)) (hJ : ∀ i : Nat, 0 < i → i < rs.length → spec_l2Joins.f k rs (i : Int) = some (J i)) :
  Calls Tryz.prog 97 #[.pointer (some ⟨gb, 0, none⟩), .int .i64 fr] w fun e w' => e = .returned (.int .i64 (nextV bs (fitV W wide) J rs.length fr)) ∧ Below w.heap.size w w' := by
 have HS := az hf
 have HW := az hW
 have HJ := az hJ
 have HFR := az hfr
 have HBL := az hbl
 have HN := az hn
 have HML := az (mustN_le bs rs.length (bs.length - fr) fr (by omega))
 clear hf hW hJ hbl hfr
 go_enter Tryz.func97, Tryz.ntmps97
 go_upto_region 2 with (go_at_call 65; go_must (refine (mustS_calls gb A0 c0 rs A1 c1 ws A2 c2 bs wide fr _ HS.out (zL HBL.out HFR.out) (zL HBL.out HN.out)).mono ?_); rintro e w1 ⟨rfl, hd1⟩; have HB0 := az hd1.below; clear hd1)
 have HME : Aside0 (mustV bs rs.length fr = mustN bs rs.length (bs.length - fr) fr) := ⟨rfl⟩
 obtain ⟨en, hen⟩ : ∃ en, mustV bs rs.length fr = en := ⟨_, rfl⟩
 have HEN := az (show en ≤ rs.length from hen ▸ HML.out)
 have HEE := az hen
 rw [hen]
 clear HML HME hen
 go_wp2
 go_loopg [6, 7] rs.length (fun gg s6 s7 wr => ∃ (i : Nat) (b : Int), s6 = .int .i64 b ∧ s7 = .int .i64 i ∧ fr < i ∧ en + 1 - i ≤ gg ∧ Aside0 (nextN bs (fitV W wide) fr (en + 1 - i) i b = nextN bs (fitV W wide) fr (en - fr) (fr + 1) (-1)) ∧ Aside0 (Below w.heap.size w wr))
 case atStart => exact ⟨fr + 1, -1, rfl, by have h9 := HFR.out; clear HEN HEE HB0; first | go_num | (congr 1; unfold wrap64; omega), by omega, zL HEN.out HFR.out, ⟨by rw [show en + 1 - (fr + 1) = en - fr by omega]⟩, HB0⟩
 case round =>
  obtain ⟨i, b, rfl, rfl, hi0, hg, HF, HB⟩ := hrel
  have HQ := az (HS.out.below HB.out)
  by_cases hle : i ≤ en
  ·
   have hlez : (i : Int) ≤ (en : Int) := by omega
   have hq := HF.out
   rw [show en + 1 - i = (en + 1 - (i + 1)) + 1 by omega, nextN] at hq
   obtain ⟨m, hm⟩ : ∃ m : Nat, i = m + 1 := ⟨i - 1, by omega⟩
   have hm0 : (0 : Int) ≤ (m : Int) := by omega
   have hmz : (m : Int) < (bs.length : Int) := by have := HEN.out; have := HBL.out; omega
   have q2 := (blk_cell HQ.out.1 2).trans (show _ = some (Value.slice A2 bs.length c2) from rfl)
   obtain ⟨ad5, hA5, hx5⟩ := Kd.at_int HQ.out.2.2.2.2.2.1 (m : Int) hm0 hmz
   have hxx : rd bs (m : Int) = bs.getD m 0 := by simp [rd]
   rw [hxx, Int.toNat_natCast] at hx5
   obtain ⟨y, hy⟩ : ∃ y, bs.getD m 0 = y := ⟨_, rfl⟩
   rw [show i - 1 = m by omega] at hq
   rw [hy] at hx5 hq
   subst hA5
   have h99 := HEN.out
   have hw1 : IntKind.i64.wrap ((i : Int) - 1) = (m : Int) := by rw [i64_w]; unfold wrap64; omega
   have hw2 : wrap64 ((i : Int) - 1) = (m : Int) := by unfold wrap64; omega
   have HLE := az (show i ≤ rs.length from (zE HEN.out))
   have HLN := az hle
   have HFRI := az hi0
   clear hxx hy hm hle HF
   by_cases hy0 : y = 0
   ·
    rw [if_neg (show ¬ (¬ y = 0 ∧ fitV W wide fr i = true) from fun h => h.1 hy0)] at hq
    have b0 : (y != 0) = false := bne_eq_false_iff_eq.mpr hy0
    have HQQ := az hq
    clear hq hy0
    go_wp2
    go_roundg (en + 1 - (i + 1))
    case measure => have := HLN.out; omega
    case rel => exact ⟨i + 1, b, rfl, by have h9 := HLE.out; first | go_num | (congr 1; unfold wrap64; omega), zE HFRI.out, Nat.le_refl _, HQQ, HB⟩
   ·
    have b0 : (y != 0) = true := bne_iff_ne.mpr hy0
    cases hfi : fitV W wide fr i
    case true =>
     rw [if_pos ⟨hy0, hfi⟩] at hq
     have HFI := az hfi
     have HQQ := az hq
     clear hq hy0 hfi
     go_wp2_with (go_at_call 64; go_must (refine (fitsS_calls k gb A0 c0 rs A1 c1 ws (some ad5) c2 bs wide (fr : Int) (i : Int) (W fr i) _ HQ.out (HW.out i (zE HFRI.out) HLE.out)).mono ?_); rw [(show decide (W fr i ≤ wide) = true from HFI.out)]; rintro e w2 ⟨rfl, hb2⟩; have HB2 := az (below_then HB.out HB.out.size hb2); clear hb2)
     go_roundg (en + 1 - (i + 1))
     case measure => have := HLN.out; omega
     case rel => exact ⟨i + 1, i, rfl, by have h9 := HLE.out; first | go_num | (congr 1; unfold wrap64; omega), zE HFRI.out, Nat.le_refl _, HQQ, HB2⟩
    case false =>
     rw [if_neg (show ¬ (¬ y = 0 ∧ fitV W wide fr i = true) from fun h => by rw [hfi] at h; exact absurd h.2 (by decide))] at hq
     have HFI := az hfi
     have HQQ := az hq
     clear hq hy0 hfi
     go_wp2_with (go_at_call 64; go_must (refine (fitsS_calls k gb A0 c0 rs A1 c1 ws (some ad5) c2 bs wide (fr : Int) (i : Int) (W fr i) _ HQ.out (HW.out i (zE HFRI.out) HLE.out)).mono ?_); rw [(show decide (W fr i ≤ wide) = false from HFI.out)]; rintro e w2 ⟨rfl, hb2⟩; have HB2 := az (below_then HB.out HB.out.size hb2); clear hb2)
     go_roundg (en + 1 - (i + 1))
     case measure => have := HLN.out; omega
     case rel => exact ⟨i + 1, b, rfl, by have h9 := HLE.out; first | go_num | (congr 1; unfold wrap64; omega), zE HFRI.out, Nat.le_refl _, HQQ, HB2⟩
  ·
   have hlez : ¬ (i : Int) ≤ (en : Int) := by omega
   have hq := HF.out
   rw [show en + 1 - i = 0 by omega, nextN] at hq
   have HQQ := az hq
   clear hq HF hle
   by_cases hb0 : 0 < b
   ·
    have HV : Aside0 (nextV bs (fitV W wide) J rs.length fr = b) := ⟨by unfold nextV; rw [HEE.out, ← HQQ.out, if_pos hb0]⟩
    go_wp2
    go_ret
    exact ⟨by rw [HV.out]; first | done | rfl, HB.out⟩
   ·
    obtain ⟨fv, hfv⟩ : ∃ fv, forcedN (fitV W wide) J rs.length fr (rs.length - fr) (fr + 1) fr = fv := ⟨_, rfl⟩
    have HV : Aside0 (nextV bs (fitV W wide) J rs.length fr = if (fv : Int) < (en : Int) then (fv : Int) else (en : Int)) := ⟨by unfold nextV; rw [HEE.out, ← HQQ.out, if_neg hb0, hfv]⟩
    have HFV := az hfv
    obtain ⟨mv, hmv⟩ : ∃ mv, (if (fv : Int) < (en : Int) then (fv : Int) else (en : Int)) = mv := ⟨_, rfl⟩
    rw [hmv] at HV
    have HLV : Aside0 (spec_l7Least.f (fv : Int) (en : Int) = some mv) := ⟨by rw [← hmv]; unfold spec_l7Least.f; split <;> rfl⟩
    clear hmv
    clear hfv
    go_wp2_with (first
     | (go_at_call 130; go_must (refine (forcedS_calls k gb A0 c0 rs A1 c1 ws A2 c2 bs wide W J fr _ HQ.out HFR.out HN.out HW.out HJ.out).mono ?_); rw [HFV.out]; rintro e w3 ⟨rfl, hb3⟩; have HB3 := az (below_then HB.out HB.out.size hb3); clear hb3)
     | (go_at_call 129; go_must (refine (spec_l7Least.calls (fv : Int) (en : Int) _ _ HLV.out).mono ?_); rintro e w4 ⟨rfl, hd4⟩; have HB4 := az (below_then HB3.out HB3.out.size hd4.below); clear hd4))
    go_ret
    exact ⟨by rw [HV.out]; first | done | rfl, HB4.out⟩
theorem greedyS_calls (k : Nat) (gb : Nat) (A0 : Option Addr) (c0 : Nat) (rs : List Int) (A1 : Option Addr) (c1 : Nat) (ws : List Int) (A2 : Option Addr) (c2 : Nat) (bs : List Int) (wide : Int) (W : Nat → Nat → Int) (J : Nat → Bool) (r : List Int) (w : World) (hf : FlO 77 gb A0 c0 rs A1 c1 ws A2 c2 bs wide w) (hn : rs.length ≤ 1000) (hbl : bs.length = rs.length) (hW : ∀ i j : Nat, i ≤ j → j ≤ rs.length → spec_l7Wide.f k rs ws (i : Int) (j : Int) = some (W i j)) (hJ : ∀ i : Nat, 0 < i → i < rs.length → spec_l2Joins.f k rs (i : Int) = some (J i)) (hr : greedyN (nextV bs (fitV W wide) J rs.length) rs.length rs.length 0 = some r) :
  Calls Tryz.prog 71 #[.pointer (some ⟨gb, 0, none⟩)] w fun e w' => ∃ v0_ : Value, e = .returned v0_ ∧ Kd.R (Kd.int .i64) 3 w' w.heap.size (fun _ => True) v0_ r ∧ Below w.heap.size w w' := by
 have HS := az hf
 have HW := az hW
 have HJ := az hJ
 have HBL := az hbl
 have HN := az hn
 have HRR := az hr
 clear hf hW hJ hbl hr
 go_enter Tryz.func71, Tryz.ntmps71
 go_wp2_with ((with_reducible refine gate_dst (N := 5) rfl ?_); refine Kd.R_lit (Kd.int .i64) w.heap.size 3 ?hg (N := 5) ?hd (xs := ([] : List Int)) (inner := []) (ok := fun _ => True) (okp := fun _ => True) ?hr ?hp (fun _ hk => hk) trivial (Below.refl _ _) (Nat.le_refl _) (by simp) ?_; (case hd => rfl); (case hg => rfl); (case hr => first | (go_simp; done) | (go_simp; rfl)); (case hp => exact (Reps.none _ _)); intro v1 w1 ho1 hb1 hg_ hnew_; clear hg_ hnew_; have HO1 := az ho1; have HB1 := az hb1; clear ho1 hb1)
 go_loopg [3, 4] rs.length (fun gg s3 s4 wr => ∃ (i g : Nat) (out : List Int), s4 = .int .i64 i ∧ i ≤ rs.length ∧ g ≤ gg ∧ Aside0 (∃ rest, greedyN (nextV bs (fitV W wide) J rs.length) rs.length g i = some rest ∧ out ++ rest = r) ∧ Aside0 (out.length + g ≤ rs.length) ∧ Aside0 (Kd.R (Kd.int .i64) 3 wr w.heap.size (fun _ => True) s3 out) ∧ Aside0 (Below w.heap.size w wr))
 case atStart => exact ⟨0, rs.length, [], rfl, Nat.zero_le _, Nat.le_refl _, ⟨_, HRR.out, rfl⟩, ⟨by simp⟩, HO1, HB1⟩
 case round =>
  clear HRR HO1 HB1
  obtain ⟨i, g, out, rfl, hi, hg, HF, HLO, HO, HB⟩ := hrel
  obtain ⟨rest, hq, hrest⟩ := HF.out
  have HQ := az (HS.out.below HB.out)
  have q0 := (blk_cell HQ.out.1 0).trans (show _ = some (Value.slice A0 rs.length c0) from rfl)
  by_cases hlt : i < rs.length
  ·
   have hltz : (i : Int) < (rs.length : Int) := by omega
   cases g with
   | zero => rw [greedyN, if_pos hlt] at hq; cases hq
   | succ g =>
   rw [greedyN, if_pos hlt] at hq
   by_cases hb : 0 ≤ nextV bs (fitV W wide) J rs.length i ∧ nextV bs (fitV W wide) J rs.length i ≤ (rs.length : Int)
   case neg => rw [if_neg hb] at hq; cases hq
   case pos =>
   rw [if_pos hb] at hq
   replace hq := Option.bind_eq_some_iff.mp hq
   obtain ⟨l, hl, hq⟩ := hq
   obtain rfl := Option.some.inj hq
   obtain ⟨x, hx⟩ : ∃ x : Nat, nextV bs (fitV W wide) J rs.length i = x := ⟨(nextV bs (fitV W wide) J rs.length i).toNat, by omega⟩
   rw [hx, Int.toNat_natCast] at hl
   rw [hx] at hb hrest
   have HXV := az hx
   have HXB := az hb.2
   have HLL := az hl
   have HRE := az hrest
   have HIL := az hi
   have HGG := az hg
   clear hx hb hl hrest hlt HF hg
   go_wp2_with (first
    | (go_at_call 97; go_must (refine (nextS_calls k gb A0 c0 rs A1 c1 ws A2 c2 bs wide W J i _ HQ.out HIL.out HN.out HBL.out (fun j h1 h2 => HW.out i j h1 h2) HJ.out).mono ?_); rw [HXV.out]; rintro e w2 ⟨rfl, hb2⟩; have HO2 := az (Kd.R_below HO.out hb2); have HB2 := az (below_then HB.out HB.out.size hb2); clear hb2)
    | ((with_reducible refine gate_builtin (b := .append) (xs := #[.tmp 16, .tmp 18]) rfl ?_); at_builtin; go_must (refine appI (w0 := w) (base := w.heap.size) Tryz.underlying22 info3 rfl (.tmp 16) (.tmp 18) rfl _ out (x : Int) rfl rfl HO2.out HB2.out HB2.out.size ?aL ?_); (case aL => have := HLO.out; have := HN.out; omega); intro v9 w9 ho9 hb9 hg9 hat9; have HO9 := az ho9; have HB9 := az hb9; clear ho9 hb9 hg9 hat9))
   go_roundg g
   case measure => have := HGG.out; omega
   case rel => exact ⟨x, g, _, rfl, zE HXB.out, Nat.le_refl _, ⟨l, HLL.out, by rw [List.append_assoc]; exact HRE.out⟩, ⟨by have := HLO.out; rw [List.length_append]; simp; omega⟩, HO9, HB9⟩
  ·
   have hltz : ¬ (i : Int) < (rs.length : Int) := by omega
   have HRE : Aside0 (out = r) := by
    have : rest = [] := by
     cases g with
     | zero => rw [greedyN, if_neg hlt] at hq; exact (Option.some.inj hq).symm
     | succ g => rw [greedyN, if_neg hlt] at hq; exact (Option.some.inj hq).symm
    subst this
    exact ⟨by rw [← hrest, List.append_nil]⟩
   clear hq hrest HF
   go_wp2
   go_ret
   exact ⟨_, rfl, by rw [← HRE.out]; exact HO.out, HB.out⟩
theorem l7Lines_calls (k : Nat) (A0 : Option Addr) (c0 : Nat) (rs : List Int) (A1 : Option Addr) (c1 : Nat) (sp : List S50) (wide mode : Int) (ws bs : List Int) (W : Nat → Nat → Int) (J : Nat → Bool) (r : List Int) (w : World) (hr0 : Kd.C (Kd.int .i64) w A0 rs.length rs) (hc0 : rs.length ≤ c0) (hr1 : Kd.C k50 w A1 sp.length sp) (hc1 : sp.length ≤ c1) (hw : spec_l6Wides.f k rs sp = some ws) (hb : spec_l5Breaks.f k rs = some bs) (hn : rs.length ≤ 1000) (hbl : bs.length = rs.length) (hW : ∀ i j : Nat, i ≤ j → j ≤ rs.length → spec_l7Wide.f k rs ws (i : Int) (j : Int) = some (W i j)) (hWb : ∀ i j : Nat, i ≤ j → j ≤ rs.length → (wide - W i j).natAbs ≤ 1000000000) (hTb : ∀ d, d ≤ rs.length → ∀ j, j ≤ rs.length → 0 ≤ (tabB bs (fitV W wide) (costV bs W wide) rs.length d j).1 ∧ (tabB bs (fitV W wide) (costV bs W wide) rs.length d j).1 ≤ 1000000000000000) (hJ : ∀ i : Nat, 0 < i → i < rs.length → spec_l2Joins.f k rs (i : Int) = some (J i)) (hr : linesV bs W J wide rs.length mode = some r) :
  Calls Tryz.prog 37 #[.slice A0 rs.length c0, .slice A1 sp.length c1, .int .i64 wide, .int .i64 mode] w fun e w' => ∃ v0_ : Value, e = .returned v0_ ∧ Kd.R (Kd.int .i64) 3 w' w.heap.size (fun _ => True) v0_ r ∧ Below w.heap.size w w' := by
 have HR := az hr0
 have HC := az hc0
 have HR1 := az hr1
 have HC1 := az hc1
 have HWS := az hw
 have HBS := az hb
 have HN := az hn
 have HBL := az hbl
 have HW := az hW
 have HWB := az hWb
 have HTB := az hTb
 have HJ := az hJ
 clear hr0 hc0 hr1 hc1 hw hb hn hbl hW hWb hTb hJ
 unfold linesV at hr
 by_cases hm : mode = 1
 ·
  rw [if_pos hm] at hr
  have bm : (mode == 1) = true := beq_iff_eq.mpr hm
  clear hm
  replace hr := Option.bind_eq_some_iff.mp hr
  obtain ⟨o, ho, hr⟩ := hr
  cases o with
  | some l =>
   obtain rfl := Option.some.inj hr
   have HO := az (show _ = some (if true = true then some l else none) from ho)
   clear ho hr
   go_enter Tryz.func37, Tryz.ntmps37
   go_wp2_with (first
    | (go_at_call 63; go_must (refine (l7Made_calls k A0 c0 rs A1 c1 sp wide ws bs _ HR.out HC.out HR1.out HC1.out HWS.out HBS.out).mono ?_); rintro e w3 ⟨gb, A4, c4, A5, c5, rfl, hfl, hb3⟩; have HFL := az hfl; have HB3 := az hb3; clear hfl hb3)
    | (go_at_call 70; go_must (refine (bestS_calls k gb A0 c0 rs A4 c4 ws A5 c5 bs wide W _ l true HFL.out HN.out HBL.out HW.out HWB.out HTB.out HO.out (fun h => by cases h)).mono ?_); rintro e w5 ⟨v5, rfl, ho5, hb5⟩; have HO5 := az ho5; have HB5 := az hb5; clear ho5 hb5))
   go_ret
   exact ⟨_, rfl, Kd.R_lower HO5.out HB3.out.size, below_then HB3.out HB3.out.size HB5.out⟩
  | none =>
   have HO := az (show _ = some (if false = true then some [] else none) from ho)
   have HG := az hr
   clear ho hr
   go_enter Tryz.func37, Tryz.ntmps37
   go_wp2_with (first
    | (go_at_call 63; go_must (refine (l7Made_calls k A0 c0 rs A1 c1 sp wide ws bs _ HR.out HC.out HR1.out HC1.out HWS.out HBS.out).mono ?_); rintro e w3 ⟨gb, A4, c4, A5, c5, rfl, hfl, hb3⟩; have HFL := az hfl; have HB3 := az hb3; clear hfl hb3)
    | (go_at_call 70; go_must (refine (bestS_calls k gb A0 c0 rs A4 c4 ws A5 c5 bs wide W _ [] false HFL.out HN.out HBL.out HW.out HWB.out HTB.out HO.out (fun _ => rfl)).mono ?_); rintro e w5 ⟨v5, rfl, ho5, hb5⟩; have HB5 := az (below_then HB3.out HB3.out.size hb5); have HFL5 := az (HFL.out.below hb5); clear ho5 hb5)
    | (go_at_call 71; go_must (refine (greedyS_calls k gb A0 c0 rs A4 c4 ws A5 c5 bs wide W J r _ HFL5.out HN.out HBL.out HW.out HJ.out HG.out).mono ?_); rintro e w6 ⟨v6, rfl, ho6, hb6⟩; have HO6 := az ho6; have HB6 := az hb6; clear ho6 hb6))
   go_ret
   exact ⟨_, rfl, Kd.R_lower HO6.out HB5.out.size, below_then HB5.out HB5.out.size HB6.out⟩
 ·
  rw [if_neg hm] at hr
  have bm : (mode == 1) = false := beq_eq_false_iff_ne.mpr hm
  have HG := az hr
  clear hm hr
  go_enter Tryz.func37, Tryz.ntmps37
  go_wp2_with (first
   | (go_at_call 63; go_must (refine (l7Made_calls k A0 c0 rs A1 c1 sp wide ws bs _ HR.out HC.out HR1.out HC1.out HWS.out HBS.out).mono ?_); rintro e w3 ⟨gb, A4, c4, A5, c5, rfl, hfl, hb3⟩; have HFL := az hfl; have HB3 := az hb3; clear hfl hb3)
   | (go_at_call 71; go_must (refine (greedyS_calls k gb A0 c0 rs A4 c4 ws A5 c5 bs wide W J r _ HFL.out HN.out HBL.out HW.out HJ.out HG.out).mono ?_); rintro e w6 ⟨v6, rfl, ho6, hb6⟩; have HO6 := az ho6; have HB6 := az hb6; clear ho6 hb6))
  go_ret
  exact ⟨_, rfl, Kd.R_lower HO6.out HB3.out.size, below_then HB3.out HB3.out.size HB6.out⟩
def tabWS (k : Nat) (rs ws : List Int) : Nat → Nat → Int := fun i j => if i ≤ j ∧ j ≤ rs.length then (spec_l7Wide.f k rs ws (i : Int) (j : Int)).getD 0 else 0
def tabJS (k : Nat) (rs : List Int) : Nat → Bool := fun i => if 0 < i ∧ i < rs.length then (spec_l2Joins.f k rs (i : Int)).getD false else false
def okWS (k : Nat) (rs ws : List Int) : Prop := ∀ j, j ≤ rs.length → ∀ i, i ≤ j → (spec_l7Wide.f k rs ws (i : Int) (j : Int)).isSome = true
instance (k : Nat) (rs ws : List Int) : Decidable (okWS k rs ws) := by unfold okWS; infer_instance
def okJS (k : Nat) (rs : List Int) : Prop := ∀ i, i < rs.length → 0 < i → (spec_l2Joins.f k rs (i : Int)).isSome = true
instance (k : Nat) (rs : List Int) : Decidable (okJS k rs) := by unfold okJS; infer_instance
def spec_FillLines.f (k : Nat) (l0 : List Int) (l1 : List S50) (a2 a3 : Int) : Option (List Int) :=
 (spec_l7All.f k l0 l1 a2).bind fun a => if a = true then (spec_l1In.f a3 0 1).bind fun b => if b = true then (spec_l6Wides.f k l0 l1).bind fun ws => (spec_l5Breaks.f k l0).bind fun bs => if okWS k l0 ws then (if okJS k l0 then linesO bs (tabWS k l0 ws) (tabJS k l0) a2 l0.length a3 else none) else none else some [] else some []
theorem tabWS_up {k : Nat} {rs ws : List Int} (h : okWS k rs ws) : okWS (k + 1) rs ws ∧ tabWS (k + 1) rs ws = tabWS k rs ws := by
 have e : ∀ j, j ≤ rs.length → ∀ i, i ≤ j → spec_l7Wide.f (k + 1) rs ws (i : Int) (j : Int) = spec_l7Wide.f k rs ws (i : Int) (j : Int) := fun j hj i hi => by
  obtain ⟨x, hx⟩ := Option.isSome_iff_exists.mp (h j hj i hi)
  rw [hx]
  exact spec_l7Wide.mono _ _ _ _ _ _ hx
 refine ⟨fun j hj i hi => by rw [e j hj i hi]; exact h j hj i hi, ?_⟩
 funext i j
 unfold tabWS
 split
 ·
  rename_i hh
  rw [e j hh.2 i hh.1]
 · rfl
theorem tabJS_up {k : Nat} {rs : List Int} (h : okJS k rs) : okJS (k + 1) rs ∧ tabJS (k + 1) rs = tabJS k rs := by
 have e : ∀ i, i < rs.length → 0 < i → spec_l2Joins.f (k + 1) rs (i : Int) = spec_l2Joins.f k rs (i : Int) := fun i hi h0 => by
  obtain ⟨x, hx⟩ := Option.isSome_iff_exists.mp (h i hi h0)
  rw [hx]
  exact spec_l2Joins.mono _ _ _ _ hx
 refine ⟨fun i hi h0 => by rw [e i hi h0]; exact h i hi h0, ?_⟩
 funext i
 unfold tabJS
 split
 ·
  rename_i hh
  rw [e i hh.2 hh.1]
 · rfl
theorem spec_FillLines.mono : ∀ a0 a1 a2 a3 k, LeO (spec_FillLines.f k a0 a1 a2 a3) (spec_FillLines.f (k + 1) a0 a1 a2 a3) := by
 intro a0 a1 a2 a3 k
 unfold spec_FillLines.f
 refine LeO.bind (spec_l7All.mono _ _ _ _) (fun a => LeO.ite (LeO.bind (LeO.refl _) (fun b => LeO.ite (LeO.bind (spec_l6Wides.mono _ _ _) (fun ws => LeO.bind (spec_l5Breaks.mono _ _) (fun bs => ?_))) (LeO.refl _))) (LeO.refl _))
 intro r hr
 by_cases h1 : okWS k a0 ws
 ·
  rw [if_pos h1] at hr
  by_cases h2 : okJS k a0
  ·
   rw [if_pos h2] at hr
   rw [if_pos (tabWS_up h1).1, if_pos (tabJS_up h2).1, (tabWS_up h1).2, (tabJS_up h2).2]
   exact hr
  · rw [if_neg h2] at hr; cases hr
 · rw [if_neg h1] at hr; cases hr
theorem spec_FillLines.calls (k : Nat) (A0 : Option Addr) (c0 : Nat) (l0 : List Int) (A1 : Option Addr) (c1 : Nat) (l1 : List S50) (a2 : Int) (a3 : Int) (r : List Int) (w : World) (hr0 : Kd.C (Kd.int .i64) w A0 l0.length l0) (hc0 : l0.length ≤ c0) (hr1 : Kd.C k50 w A1 l1.length l1) (hc1 : l1.length ≤ c1) (h : spec_FillLines.f k l0 l1 a2 a3 = some r) :
  Calls Tryz.prog 12 #[.slice A0 l0.length c0, .slice A1 l1.length c1, .int .i64 a2, .int .i64 a3] w fun e w' => ∃ v0_ : Value, e = .returned (v0_) ∧ Kd.R (Kd.int .i64) 3 w' w.heap.size (fun _ => True) v0_ r ∧ Below w.heap.size w w' := by
 have HR := az hr0
 have HC := az hc0
 have HR1 := az hr1
 have HC1 := az hc1
 clear hr0 hc0 hr1 hc1
 unfold spec_FillLines.f at h
 replace h := Option.bind_eq_some_iff.mp h
 obtain ⟨a, ha, h⟩ := h
 have HA := az ha
 clear ha
 cases a
 ·
  rw [if_neg (by decide)] at h
  obtain rfl := Option.some.inj h
  clear h
  go_enter Tryz.func12, Tryz.ntmps12
  go_wp2_with (first
   | (go_at_call 35; go_must (refine (spec_l7All.calls k A0 c0 l0 A1 c1 l1 a2 false _ HR.out HC.out HR1.out HC1.out HA.out).mono ?_); rintro e w1 ⟨rfl, hb1⟩; have HB1 := az hb1; clear hb1)
   | ((with_reducible refine gate_dst (N := 19) rfl ?_); refine Kd.R_lit (Kd.int .i64) w.heap.size 3 ?hg (N := 19) ?hd (xs := ([] : List Int)) (inner := []) (ok := fun _ => True) (okp := fun _ => True) ?hr ?hp (fun _ hk => hk) trivial HB1.out HB1.out.size (by simp) ?_; (case hd => rfl); (case hg => rfl); (case hr => first | (go_simp; done) | (go_simp; rfl)); (case hp => exact (Reps.none _ _)); intro v1 w2 ho1 hb1 hg_ hnew_; clear hg_ hnew_; have HO1 := az ho1; have HB2 := az hb1; clear ho1 hb1))
  go_ret
  exact ⟨_, rfl, HO1.out, HB2.out⟩
 rw [if_pos rfl] at h
 replace h := Option.bind_eq_some_iff.mp h
 obtain ⟨b, hb, h⟩ := h
 have HE := az hb
 clear hb
 cases b
 ·
  rw [if_neg (by decide)] at h
  obtain rfl := Option.some.inj h
  clear h
  go_enter Tryz.func12, Tryz.ntmps12
  go_wp2_with (first
   | (go_at_call 35; go_must (refine (spec_l7All.calls k A0 c0 l0 A1 c1 l1 a2 true _ HR.out HC.out HR1.out HC1.out HA.out).mono ?_); rintro e w1 ⟨rfl, hb1⟩; have HB0 := az hb1; clear hb1)
   | (go_at_call 36; go_must (refine (spec_l1In.calls a3 0 1 false _ HE.out).mono ?_); rintro e w2 ⟨rfl, hd2⟩; have HB1 := az (below_then HB0.out HB0.out.size hd2.below); clear hd2)
   | ((with_reducible refine gate_dst (N := 19) rfl ?_); refine Kd.R_lit (Kd.int .i64) w.heap.size 3 ?hg (N := 19) ?hd (xs := ([] : List Int)) (inner := []) (ok := fun _ => True) (okp := fun _ => True) ?hr ?hp (fun _ hk => hk) trivial HB1.out HB1.out.size (by simp) ?_; (case hd => rfl); (case hg => rfl); (case hr => first | (go_simp; done) | (go_simp; rfl)); (case hp => exact (Reps.none _ _)); intro v1 w2 ho1 hb1 hg_ hnew_; clear hg_ hnew_; have HO1 := az ho1; have HB2 := az hb1; clear ho1 hb1))
  go_ret
  exact ⟨_, rfl, HO1.out, HB2.out⟩
 rw [if_pos rfl] at h
 replace h := Option.bind_eq_some_iff.mp h
 obtain ⟨ws, hws, h⟩ := h
 replace h := Option.bind_eq_some_iff.mp h
 obtain ⟨bs, hbs, h⟩ := h
 by_cases h1 : okWS k l0 ws
 case neg => rw [if_neg h1] at h; cases h
 case pos =>
 rw [if_pos h1] at h
 by_cases h2 : okJS k l0
 case neg => rw [if_neg h2] at h; cases h
 case pos =>
 rw [if_pos h2] at h
 unfold linesO at h
 by_cases h3 : l0.length ≤ 1000 ∧ bs.length = l0.length ∧ okB bs (tabWS k l0 ws) a2 l0.length
 case neg => rw [if_neg h3] at h; cases h
 case pos =>
 rw [if_pos h3] at h
 have HW : Aside0 (∀ i j : Nat, i ≤ j → j ≤ l0.length → spec_l7Wide.f k l0 ws (i : Int) (j : Int) = some (tabWS k l0 ws i j)) := ⟨fun i j hi hj => by
  obtain ⟨x, hx⟩ := Option.isSome_iff_exists.mp (h1 j hj i hi)
  unfold tabWS
  rw [if_pos ⟨hi, hj⟩, hx]
  rfl⟩
 have HJ : Aside0 (∀ i : Nat, 0 < i → i < l0.length → spec_l2Joins.f k l0 (i : Int) = some (tabJS k l0 i)) := ⟨fun i h0 hi => by
  obtain ⟨x, hx⟩ := Option.isSome_iff_exists.mp (h2 i hi h0)
  unfold tabJS
  rw [if_pos ⟨h0, hi⟩, hx]
  rfl⟩
 have HOK := az h3
 have HH := az h
 have HWS := az hws
 have HBS := az hbs
 clear h h1 h2 h3 hws hbs
 go_enter Tryz.func12, Tryz.ntmps12
 go_wp2_with (first
  | (go_at_call 35; go_must (refine (spec_l7All.calls k A0 c0 l0 A1 c1 l1 a2 true _ HR.out HC.out HR1.out HC1.out HA.out).mono ?_); rintro e w1 ⟨rfl, hb1⟩; have HB0 := az hb1; clear hb1)
  | (go_at_call 36; go_must (refine (spec_l1In.calls a3 0 1 true _ HE.out).mono ?_); rintro e w2 ⟨rfl, hd2⟩; have HB1 := az (below_then HB0.out HB0.out.size hd2.below); clear hd2)
  | (go_at_call 37; go_must (refine (l7Lines_calls k A0 c0 l0 A1 c1 l1 a2 a3 ws bs (tabWS k l0 ws) (tabJS k l0) r _ (Kd.C_below HR.out HB1.out) HC.out (Kd.C_below HR1.out HB1.out) HC1.out HWS.out HBS.out HOK.out.1 HOK.out.2.1 HW.out (fun i j hi hj => HOK.out.2.2.1 j hj i hi) HOK.out.2.2.2 HJ.out HH.out).mono ?_); rintro e w3 ⟨v3, rfl, ho3, hb3⟩; have HO3 := az ho3; have HB3 := az hb3; clear ho3 hb3))
 go_ret
 exact ⟨_, rfl, Kd.R_lower HO3.out HB1.out.size, below_then HB1.out HB1.out.size HB3.out⟩
end Go.Proofs.YtmcdcogedcbndaaGreat.S
/- The next end by both texts: the last place that fits, else the last end of a cluster that fits, else the first end of a cluster. No condition beyond those stated. -/
namespace Go.Proofs.YtmcdcogedcbndaaGreat.Pure
open Go.RowKit Go.Proofs.YtmcdcogedcbndaaGreat.S Go.Proofs.YtmcdcogedcbndaaGreatW.PrintWords Go.Proofs.YtmcdcogedcbndaaGreatW.PrintLast
theorem find_up (r : Nat → Bool) (N t : Nat) (ht : t < N) (hr : r t = true) (hl : ∀ j, j < t → r j = false) : (List.range N).find? r = some t := by
 induction N with
 | zero => omega
 | succ N ih =>
  rw [List.range_succ, List.find?_append]
  by_cases h : t < N
  ·
   rw [ih h]
   rfl
  ·
   obtain rfl : t = N := by omega
   have : (List.range t).find? r = none := by
    rw [List.find?_eq_none]
    intro x hx
    rw [hl x (List.mem_range.mp hx)]
    decide
   rw [this]
   simp [hr]
theorem find_down (r : Nat → Bool) (N t : Nat) (ht : t < N) (hr : r t = true) (hl : ∀ j, t < j → j < N → r j = false) : (List.range N).reverse.find? r = some t := by
 induction N with
 | zero => omega
 | succ N ih =>
  rw [List.range_succ, List.reverse_append, List.reverse_singleton, List.singleton_append, List.find?_cons]
  by_cases h : t < N
  ·
   rw [hl N h (by omega)]
   exact ih h (fun j h1 h2 => hl j h1 (by omega))
  ·
   obtain rfl : t = N := by omega
   rw [hr]
def endsL (E : Nat → Bool) (n : Nat) : List Int := ((List.range (n + 1)).filter E).map Int.ofNat
theorem endsL_up (E : Nat → Bool) (n : Nat) (q : Int → Bool) (t : Nat) (ht : t ≤ n) (hE : E t = true) (hq : q (t : Int) = true) (hl : ∀ j, j < t → E j = true → q (j : Int) = false) : (endsL E n).find? q = some (t : Int) := by
 unfold endsL
 rw [List.find?_map, List.find?_filter, find_up _ (n + 1) t (by omega) (by simp only [Function.comp]; rw [hE]; simpa using hq) (fun j hj => ?_)]
 · rfl
 ·
  by_cases h : E j = true
  ·
   refine decide_eq_false (fun hc => ?_)
   have h2 := hc.2
   rw [show (q ∘ Int.ofNat) j = false from hl j hj h] at h2
   cases h2
  ·
   simp only [Bool.not_eq_true] at h
   simp [h]
theorem endsL_down (E : Nat → Bool) (n : Nat) (q : Int → Bool) (t : Nat) (ht : t ≤ n) (hE : E t = true) (hq : q (t : Int) = true) (hl : ∀ j, t < j → j ≤ n → E j = true → q (j : Int) = false) : (endsL E n).reverse.find? q = some (t : Int) := by
 unfold endsL
 rw [← List.map_reverse, ← List.filter_reverse, List.find?_map, List.find?_filter, find_down _ (n + 1) t (by omega) (by simp only [Function.comp]; rw [hE]; simpa using hq) (fun j hj hj2 => ?_)]
 · rfl
 ·
  by_cases h : E j = true
  ·
   refine decide_eq_false (fun hc => ?_)
   have h2 := hc.2
   rw [show (q ∘ Int.ofNat) j = false from hl j hj (by omega) h] at h2
   cases h2
  ·
   simp only [Bool.not_eq_true] at h
   simp [h]
theorem endsL_none (E : Nat → Bool) (n : Nat) (q : Int → Bool) (hl : ∀ j, j ≤ n → E j = true → q (j : Int) = false) : (endsL E n).reverse.find? q = none := by
 rw [List.find?_eq_none]
 intro x hx
 unfold endsL at hx
 rw [List.mem_reverse, List.mem_map] at hx
 obtain ⟨j, hj, rfl⟩ := hx
 obtain ⟨h1, h2⟩ := List.mem_filter.mp hj
 rw [show q (Int.ofNat j) = false from hl j (by have := List.mem_range.mp h1; omega) h2]
 decide
theorem nextN_snoc (bs : List Int) (F : Nat → Nat → Bool) (fr : Nat) : ∀ (g i : Nat) (b : Int), nextN bs F fr (g + 1) i b = if ¬ bs.getD (i + g - 1) 0 = 0 ∧ F fr (i + g) = true then ((i + g : Nat) : Int) else nextN bs F fr g i b
 | 0, i, b => rfl
 | g + 1, i, b => by
  rw [nextN, nextN_snoc bs F fr g (i + 1), show i + 1 + g = i + (g + 1) by omega]
  rfl
theorem next_down (bs : List Int) (F : Nat → Nat → Bool) (fr : Nat) (b : Int) : ∀ g, nextN bs F fr g (fr + 1) b = (match downN bs F fr g with | some t => (t : Int) | none => b)
 | 0 => rfl
 | g + 1 => by
  rw [nextN_snoc, downN, show fr + 1 + g - 1 = fr + g by omega, show fr + 1 + g = fr + g + 1 by omega]
  split
  · rfl
  · exact next_down bs F fr b g
theorem down_pos (bs : List Int) (F : Nat → Nat → Bool) (fr : Nat) : ∀ (g t : Nat), downN bs F fr g = some t → fr < t ∧ t ≤ fr + g
 | 0, t, h => by cases h
 | g + 1, t, h => by
  rw [downN] at h
  split at h
  ·
   obtain rfl := Option.some.inj h
   omega
  ·
   have := down_pos bs F fr g t h
   omega
theorem down_none (bs : List Int) (F : Nat → Nat → Bool) (fr : Nat) : ∀ g, downN bs F fr g = none → ∀ j, j < g → ¬ bs.getD (fr + j) 0 = 0 → F fr (fr + j + 1) = false
 | 0, _, j, hj, _ => absurd hj (Nat.not_lt_zero _)
 | g + 1, h, j, hj, hb => by
  rw [downN] at h
  split at h
  · cases h
  ·
   rename_i hn
   by_cases e : j = g
   ·
    subst e
    cases hF : F fr (fr + j + 1)
    · rfl
    · exact absurd ⟨hb, hF⟩ hn
   · exact down_none bs F fr g h j (by omega) hb
theorem forced_is (F : Nat → Nat → Bool) (J E : Nat → Bool) (n fr : Nat) (hfr : fr < n) (hE : ∀ i, fr < i → i ≤ n → (E i = true ↔ ¬ (i < n ∧ J i = true))) (hF : ∀ i j, fr < i → i ≤ j → j ≤ n → F fr j = true → F fr i = true) :
  ∀ (g i tq : Nat), i + g = n + 1 → fr < i → ((tq = fr ∧ ∀ e, fr < e → e < i → E e = false) ∨ (fr < tq ∧ tq < i ∧ E tq = true ∧ (∀ e, tq < e → e < i → E e = false) ∧ (F fr tq = true ∨ ∀ e, fr < e → e < tq → E e = false))) →
   ∃ t, forcedN F J n fr g i tq = t ∧ fr < t ∧ t ≤ n ∧ E t = true ∧ (F fr t = true ∨ ∀ e, fr < e → e < t → E e = false) ∧ ∀ e, t < e → e ≤ n → E e = true → F fr e = false
 | 0, i, tq, hi, hfi, h => by
  have hEn : E n = true := (hE n hfr (Nat.le_refl _)).mpr (fun h => by omega)
  rcases h with ⟨_, h⟩ | ⟨h1, h2, h3, h4, h5⟩
  ·
   have := h n hfr (by omega)
   rw [hEn] at this
   cases this
  ·
   refine ⟨tq, rfl, h1, by omega, h3, h5, fun e he hen hEe => ?_⟩
   have := h4 e he (by omega)
   rw [hEe] at this
   cases this
 | g + 1, i, tq, hi, hfi, h => by
  rw [forcedN]
  by_cases hJ : i < n ∧ J i = true
  ·
   rw [if_pos hJ]
   have hEi : E i = false := by
    cases hEi : E i
    · rfl
    · exact absurd hJ ((hE i hfi (by omega)).mp hEi)
   refine forced_is F J E n fr hfr hE hF g (i + 1) tq (by omega) (by omega) ?_
   rcases h with ⟨h1, h⟩ | ⟨h1, h2, h3, h4, h5⟩
   ·
    refine .inl ⟨h1, fun e he hei => ?_⟩
    by_cases q : e = i
    · rw [q]; exact hEi
    · exact h e he (by omega)
   ·
    refine .inr ⟨h1, by omega, h3, fun e he hei => ?_, h5⟩
    by_cases q : e = i
    · rw [q]; exact hEi
    · exact h4 e he (by omega)
  ·
   rw [if_neg hJ]
   have hEi : E i = true := (hE i hfi (by omega)).mpr hJ
   by_cases hq : fr < tq ∧ F fr i = false
   ·
    rw [if_pos hq]
    rcases h with ⟨h1, h⟩ | ⟨h1, h2, h3, h4, h5⟩
    · omega
    ·
     refine ⟨tq, rfl, h1, by omega, h3, h5, fun e he hen hEe => ?_⟩
     have hei : i ≤ e := by
      apply Decidable.byContradiction
      intro hc
      have := h4 e he (by omega)
      rw [hEe] at this
      cases this
     cases hFe : F fr e
     · rfl
     ·
      have := hF i e hfi hei hen hFe
      rw [hq.2] at this
      cases this
   ·
    rw [if_neg hq]
    refine forced_is F J E n fr hfr hE hF g (i + 1) i (by omega) (by omega) (.inr ⟨hfi, by omega, hEi, fun e he hei => by omega, ?_⟩)
    rcases h with ⟨h1, h⟩ | ⟨h1, h2, h3, h4, h5⟩
    · exact .inr (fun e he hei => h e he hei)
    ·
     refine .inl ?_
     cases hFi : F fr i
     · exact absurd ⟨h1, hFi⟩ hq
     · rfl
theorem next_is (bs : List Int) (F : Nat → Nat → Bool) (J E : Nat → Bool) (n fr : Nat) (hfr : fr < n) (hE : ∀ i, fr < i → i ≤ n → (E i = true ↔ ¬ (i < n ∧ J i = true))) (hF : ∀ i j, fr < i → i ≤ j → j ≤ n → F fr j = true → F fr i = true) (hm : fr < mustV bs n fr) (hmn : mustV bs n fr ≤ n) (hmb : ¬ bs.getD (mustV bs n fr - 1) 0 = 0) (hmE : E (mustV bs n fr) = true) :
  nextI bs F (endsL E n) fr (mustV bs n fr) = some (nextV bs F J n fr) ∧ (fr : Int) < nextV bs F J n fr ∧ nextV bs F J n fr ≤ (n : Int) := by
 obtain ⟨m, hme⟩ : ∃ m, mustV bs n fr = m := ⟨_, rfl⟩
 rw [hme] at hm hmn hmb hmE ⊢
 unfold nextI nextV
 rw [hme, next_down]
 cases hd : downN bs F fr (m - fr) with
 | some t =>
  have := down_pos bs F fr _ t hd
  dsimp only
  rw [if_pos (show (0 : Int) < (t : Int) by omega)]
  exact ⟨rfl, by omega, by omega⟩
 | none =>
  dsimp only
  rw [if_neg (show ¬ (0 : Int) < -1 by decide)]
  have hFm : F fr m = false := by
   have := down_none bs F fr _ hd (m - 1 - fr) (by omega) (by rw [show fr + (m - 1 - fr) = m - 1 by omega]; exact hmb)
   rwa [show fr + (m - 1 - fr) + 1 = m by omega] at this
  obtain ⟨t, ht, h1, h2, h3, h4, h5⟩ := forced_is F J E n fr hfr hE hF (n - fr) (fr + 1) fr (by omega) (by omega) (.inl ⟨rfl, fun e he hei => by omega⟩)
  rw [ht]
  by_cases hFt : F fr t = true
  ·
   have htm : t < m := by
    apply Decidable.byContradiction
    intro hc
    have := hF m t hm (by omega) h2 hFt
    rw [hFm] at this
    cases this
   rw [if_pos (show (t : Int) < (m : Int) by omega)]
   have hb : backN F fr m (endsL E n) = some (t : Int) := by
    refine endsL_down E n _ t h2 h3 ?_ (fun j hj hjn hEj => ?_)
    ·
     rw [decide_eq_true (show (fr : Int) < (t : Int) by omega), decide_eq_true (show (t : Int) ≤ (m : Int) by omega), Int.toNat_natCast, hFt]
     rfl
    · rw [Int.toNat_natCast, h5 j hj hjn hEj, Bool.and_false]
   rw [hb]
   exact ⟨rfl, by omega, by omega⟩
  ·
   have hFt2 : F fr t = false := by simpa using hFt
   have hfi : ∀ e, fr < e → e < t → E e = false := h4.resolve_left hFt
   have htm : t ≤ m := by
    apply Decidable.byContradiction
    intro hc
    have := hfi m hm (by omega)
    rw [hmE] at this
    cases this
   have hb : backN F fr m (endsL E n) = none := by
    refine endsL_none E n _ (fun j hjn hEj => ?_)
    by_cases hj : fr < j
    ·
     have hFj : F fr j = false := by
      by_cases hjt : j < t
      ·
       have := hfi j hj hjt
       rw [hEj] at this
       cases this
      ·
       by_cases hjt2 : j = t
       · rw [hjt2]; exact hFt2
       · exact h5 j (by omega) hjn hEj
     rw [Int.toNat_natCast, hFj, Bool.and_false]
    · rw [decide_eq_false (show ¬ (fr : Int) < (j : Int) by omega), Bool.false_and, Bool.false_and]
   rw [hb]
   have hf : (endsL E n).find? (fun t => decide ((fr : Int) < t)) = some (t : Int) := by
    refine endsL_up E n _ t h2 h3 (decide_eq_true (by omega)) (fun j hj hEj => ?_)
    refine decide_eq_false (fun hc => ?_)
    have := hfi j (by omega) hj
    rw [hEj] at this
    cases this
   dsimp only
   rw [hf]
   by_cases hlt : (t : Int) < (m : Int)
   ·
    rw [if_pos hlt]
    exact ⟨rfl, by omega, by omega⟩
   ·
    rw [if_neg hlt]
    obtain rfl : t = m := by omega
    exact ⟨rfl, by omega, by omega⟩
theorem must_first (bs : List Int) (n : Nat) : ∀ (g i p : Nat), i ≤ p → p < i + g → bs.getD p 0 = 2 → mustN bs n g i ≤ p + 1
 | 0, i, p, h1, h2, _ => by omega
 | g + 1, i, p, h1, h2, h3 => by
  rw [mustN]
  by_cases h : bs.getD i 0 = 2
  · rw [if_pos h]; omega
  ·
   rw [if_neg h]
   exact must_first bs n g (i + 1) p (by (by_cases q : p = i; (subst q; exact absurd h3 h); omega)) (by omega) h3
theorem must_is (bs : List Int) (n : Nat) : ∀ (g i : Nat), (∃ p, i ≤ p ∧ p < i + g ∧ bs.getD p 0 = 2) → i < mustN bs n g i ∧ mustN bs n g i ≤ i + g ∧ bs.getD (mustN bs n g i - 1) 0 = 2
 | 0, i, ⟨p, h1, h2, _⟩ => by omega
 | g + 1, i, ⟨p, h1, h2, h3⟩ => by
  rw [mustN]
  by_cases h : bs.getD i 0 = 2
  ·
   rw [if_pos h, Nat.add_sub_cancel]
   exact ⟨by omega, by omega, h⟩
  ·
   rw [if_neg h]
   have := must_is bs n g (i + 1) ⟨p, by (by_cases q : p = i; (subst q; exact absurd h3 h); omega), by omega, h3⟩
   exact ⟨by omega, by omega, this.2.2⟩
end Go.Proofs.YtmcdcogedcbndaaGreat.Pure
/- What a search by halves in an ascending row of reaches finds: the first reach that holds the number. -/
namespace Go.Proofs.YtmcdcogedcbndaaGreat.Pure
open Go.RowKit Go.Proofs.YtmcdcogedcbndaaGreat.S Go.Proofs.YtmcdcogedcbndaaGreatW.PrintWords Go.Proofs.YtmcdcogedcbndaaGreatW.PrintLast
theorem cmpR_neg {x : S120} {r : Int} (h : x.f0 ≤ x.f1) : cmpR x r < 0 ↔ x.f1 < r := by
 unfold cmpR; split
 · omega
 ·
  split
  · omega
  · split <;> omega
theorem cmpR_zero {x : S120} {r : Int} (h : x.f0 ≤ x.f1) : cmpR x r = 0 ↔ x.f0 ≤ r ∧ r ≤ x.f1 := by
 unfold cmpR; split
 · omega
 ·
  split
  · omega
  · split <;> omega
def inR (r : Int) (x : S120) : Bool := decide (x.f0 ≤ r) && decide (r ≤ x.f1)
theorem inR_iff {r : Int} {x : S120} : inR r x = true ↔ x.f0 ≤ r ∧ r ≤ x.f1 := by simp [inR]
theorem inR_not {r : Int} {x : S120} (h : ¬ (x.f0 ≤ r ∧ r ≤ x.f1)) : inR r x = false := by
 cases e : inR r x
 · rfl
 · exact absurd (inR_iff.1 e) h
def ascR : List S120 → Bool
 | [] => true
 | x :: l => decide (x.f0 ≤ x.f1) && l.all (fun y => decide (x.f1 < y.f0)) && ascR l
theorem ascR_le : ∀ {l : List S120}, ascR l = true → ∀ t, t < l.length → (l.getD t z120).f0 ≤ (l.getD t z120).f1
 | x :: l, h, 0, _ => by simp [ascR] at h; simpa using h.1.1
 | x :: l, h, t + 1, ht => by simp [ascR] at h; simpa using ascR_le (l := l) h.2 t (by simpa using ht)
theorem ascR_lt : ∀ {l : List S120}, ascR l = true → ∀ s t, s < t → t < l.length → (l.getD s z120).f1 < (l.getD t z120).f0
 | x :: l, h, 0, t + 1, _, ht => by
  simp [ascR] at h
  have ht' : t < l.length := by simpa using ht
  simpa [List.getD_eq_getElem?_getD, ht'] using h.1.2 (l[t]) (List.getElem_mem ht')
 | x :: l, h, s + 1, t + 1, hst, ht => by simp [ascR] at h; simpa using ascR_lt (l := l) h.2 s t (by omega) (by simpa using ht)
theorem bsR_bounds {l : List S120} {r : Int} (ha : ascR l = true) : ∀ (k lo hi : Nat), hi - lo ≤ k → lo ≤ hi → hi ≤ l.length →
  (∀ t, t < lo → (l.getD t z120).f1 < r) → (∀ t, hi ≤ t → t < l.length → r ≤ (l.getD t z120).f1) →
  bsR l r k lo hi ≤ l.length ∧ (∀ t, t < bsR l r k lo hi → (l.getD t z120).f1 < r) ∧ (∀ t, bsR l r k lo hi ≤ t → t < l.length → r ≤ (l.getD t z120).f1)
 | 0, lo, hi, hk, hlh, hn, h1, h2 => by
  obtain rfl : lo = hi := by omega
  exact ⟨hn, h1, h2⟩
 | k + 1, lo, hi, hk, hlh, hn, h1, h2 => by
  rw [bsR]
  by_cases hlt : lo < hi
  ·
   rw [if_pos hlt]
   have hm : (lo + hi) / 2 < l.length := by omega
   have hle := ascR_le ha _ hm
   by_cases hc : cmpR (l.getD ((lo + hi) / 2) z120) r < 0
   ·
    rw [if_pos hc]
    refine bsR_bounds ha k _ hi (by omega) (by omega) hn (fun t ht => ?_) h2
    have hc' := (cmpR_neg hle).1 hc
    by_cases e : t = (lo + hi) / 2
    · rw [e]; exact hc'
    ·
     have := ascR_lt ha t ((lo + hi) / 2) (by omega) hm
     omega
   ·
    rw [if_neg hc]
    refine bsR_bounds ha k lo _ (by omega) (by omega) (by omega) h1 (fun t ht htn => ?_)
    have hc' : r ≤ (l.getD ((lo + hi) / 2) z120).f1 := by
     have := (cmpR_neg (r := r) hle).2
     omega
    by_cases e : t = (lo + hi) / 2
    · rw [e]; exact hc'
    ·
     have a := ascR_lt ha ((lo + hi) / 2) t (by omega) htn
     have b := ascR_le ha t htn
     omega
  ·
   rw [if_neg hlt]
   obtain rfl : lo = hi := by omega
   exact ⟨hn, h1, h2⟩
theorem find?_at {l : List S120} {p : S120 → Bool} {i : Nat} (hi : i < l.length) (hp : p (l.getD i z120) = true) (hb : ∀ t, t < i → p (l.getD t z120) = false) : l.find? p = some (l.getD i z120) := by
 induction l generalizing i with
 | nil => simp at hi
 | cons x l ih =>
  cases i with
  | zero => simp at hp ⊢; simp [hp]
  | succ i =>
   have h0 : p x = false := by simpa using hb 0 (by omega)
   rw [List.find?_cons, h0]
   simpa using ih (i := i) (by simpa using hi) (by simpa using hp) (fun t ht => by simpa using hb (t + 1) (by omega))
theorem find?_none' {l : List S120} {p : S120 → Bool} (hb : ∀ t, t < l.length → p (l.getD t z120) = false) : l.find? p = none := by
 rw [List.find?_eq_none]
 intro x hx
 obtain ⟨t, ht, rfl⟩ := List.getElem_of_mem hx
 have := hb t ht
 simpa [List.getD_eq_getElem?_getD, ht] using this
theorem findV_eq {l : List S120} (ha : ascR l = true) (r o : Int) : findV l r o = match l.find? (inR r) with | some x => x.f2 | none => o := by
 obtain ⟨hn, h1, h2⟩ := bsR_bounds (r := r) ha l.length 0 l.length (by omega) (by omega) (Nat.le_refl _) (fun t ht => absurd ht (Nat.not_lt_zero _)) (fun t h h' => by omega)
 unfold findV
 generalize bsR l r l.length 0 l.length = i at hn h1 h2
 by_cases hc : i < l.length ∧ cmpR (l.getD i z120) r = 0
 ·
  rw [if_pos hc]
  have hz := (cmpR_zero (ascR_le ha i hc.1)).1 hc.2
  rw [find?_at hc.1 (inR_iff.2 hz) (fun t ht => inR_not (by have := h1 t ht; omega))]
 ·
  rw [if_neg hc]
  rw [find?_none' (fun t ht => ?_)]
  by_cases hlt : t < i
  · have := h1 t hlt; exact inR_not (by omega)
  ·
   have hi : i < l.length := by omega
   have hz : ¬ ((l.getD i z120).f0 ≤ r ∧ r ≤ (l.getD i z120).f1) := fun hh => hc ⟨hi, (cmpR_zero (ascR_le ha i hi)).2 hh⟩
   have hr := h2 i (Nat.le_refl _) hi
   by_cases e : t = i
   · rw [e]; exact inR_not hz
   ·
    have := ascR_lt ha i t (by omega) ht
    exact inR_not (by omega)
end Go.Proofs.YtmcdcogedcbndaaGreat.Pure
/- The direction of a letter, by both texts. -/
namespace Go.Proofs.YtmcdcogedcbndaaGreat.Pure
open Go.RowKit Go.Proofs.YtmcdcogedcbndaaGreat.S Go.Proofs.YtmcdcogedcbndaaGreatW.PrintWords Go.Proofs.YtmcdcogedcbndaaGreatW.PrintLast
theorem l1In_b (a b c : Int) : spec_l1In.f a b c = some (decide (b ≤ a) && decide (a ≤ c)) := by
 unfold spec_l1In.f
 by_cases h : b ≤ a <;> simp [h]
def moveV (a : Int) : Int := if a = 8234 then 14 else if a = 8235 then 15 else if a = 8236 then 16 else if a = 8237 then 17 else if a = 8238 then 18 else if a = 8294 then 19 else if a = 8295 then 20 else if a = 8296 then 21 else if a = 8297 then 22 else 13
def bidiV (a : Int) : Int := if 97 ≤ a ∧ a ≤ 122 then 1 else if 65 ≤ a ∧ a ≤ 90 then 1 else if 19968 ≤ a ∧ a ≤ 40959 then 1 else if 1488 ≤ a ∧ a ≤ 1514 then 2 else if 1569 ≤ a ∧ a ≤ 1610 then 3 else if 48 ≤ a ∧ a ≤ 57 then 4 else if 1632 ≤ a ∧ a ≤ 1641 then 7
 else if a = 43 then 5 else if a = 45 then 5 else if 35 ≤ a ∧ a ≤ 37 then 6 else if a = 44 then 8 else if a = 46 then 8 else if a = 47 then 8 else if a = 58 then 8 else if 768 ≤ a ∧ a ≤ 879 then 9
 else if a = 8203 then 10 else if a = 8205 then 10 else if a = 173 then 10 else if a = 9 then 11 else if a = 32 then 12 else moveV a
theorem moves_p (k : Nat) (a : Int) : spec_l1Moves.f (k + 10) a = some (moveV a) := by
 by_cases h1 : a = 8234
 · subst h1; simp [spec_l1Moves.f, spec_l1Moves.l0, rd, wrap64, moveV]
 by_cases h2 : a = 8235
 · subst h2; simp [spec_l1Moves.f, spec_l1Moves.l0, rd, wrap64, moveV]
 by_cases h3 : a = 8236
 · subst h3; simp [spec_l1Moves.f, spec_l1Moves.l0, rd, wrap64, moveV]
 by_cases h4 : a = 8237
 · subst h4; simp [spec_l1Moves.f, spec_l1Moves.l0, rd, wrap64, moveV]
 by_cases h5 : a = 8238
 · subst h5; simp [spec_l1Moves.f, spec_l1Moves.l0, rd, wrap64, moveV]
 by_cases h6 : a = 8294
 · subst h6; simp [spec_l1Moves.f, spec_l1Moves.l0, rd, wrap64, moveV]
 by_cases h7 : a = 8295
 · subst h7; simp [spec_l1Moves.f, spec_l1Moves.l0, rd, wrap64, moveV]
 by_cases h8 : a = 8296
 · subst h8; simp [spec_l1Moves.f, spec_l1Moves.l0, rd, wrap64, moveV]
 by_cases h9 : a = 8297
 · subst h9; simp [spec_l1Moves.f, spec_l1Moves.l0, rd, wrap64, moveV]
 have e : moveV a = 13 := by simp [moveV, h1, h2, h3, h4, h5, h6, h7, h8, h9]
 simp [spec_l1Moves.f, spec_l1Moves.l0, rd, wrap64, e, Ne.symm h1, Ne.symm h2, Ne.symm h3, Ne.symm h4, Ne.symm h5, Ne.symm h6, Ne.symm h7, Ne.symm h8, Ne.symm h9]
theorem signs_p (k : Nat) (a : Int) : spec_l1Signs.f (k + 13) a = some (if a = 43 then 5 else if a = 45 then 5 else if 35 ≤ a ∧ a ≤ 37 then 6 else if a = 44 then 8 else if a = 46 then 8 else if a = 47 then 8 else if a = 58 then 8 else if 768 ≤ a ∧ a ≤ 879 then 9
 else if a = 8203 then 10 else if a = 8205 then 10 else if a = 173 then 10 else if a = 9 then 11 else if a = 32 then 12 else moveV a) := by
 simp only [spec_l1Signs.f, spec_l1Signs.j0, spec_l1Signs.j1, spec_l1Signs.j2, l1In_b, Option.bind_some, moves_p]
 grind (splits := 40)
theorem spec_bidi_p (k : Nat) (a : Int) : spec_RuneBidi.f (k + 14) a = some (bidiV a) := by
 simp only [spec_RuneBidi.f, spec_RuneBidi.j0, l1In_b, Option.bind_some, signs_p, bidiV]
 grind (splits := 40)
theorem spec_bidi_k {k : Nat} (h : 14 ≤ k) (a : Int) : spec_RuneBidi.f k a = some (bidiV a) := by
 obtain ⟨k, rfl⟩ : ∃ m, k = m + 14 := ⟨k - 14, by omega⟩
 exact spec_bidi_p k a
theorem find_if {α : Type} (p : α → Bool) (x : α) (l : List α) : (x :: l).find? p = if p x = true then some x else l.find? p := by
 cases h : p x <;> simp [h]
theorem bidi_chain (a : Int) : (if 9 ≤ a ∧ a ≤ 9 then (11 : Int) else if 32 ≤ a ∧ a ≤ 32 then (12 : Int) else if 35 ≤ a ∧ a ≤ 37 then (6 : Int) else if 43 ≤ a ∧ a ≤ 43 then (5 : Int) else if 44 ≤ a ∧ a ≤ 44 then (8 : Int) else if 45 ≤ a ∧ a ≤ 45 then (5 : Int) else if 46 ≤ a ∧ a ≤ 47 then (8 : Int) else if 48 ≤ a ∧ a ≤ 57 then (4 : Int) else if 58 ≤ a ∧ a ≤ 58 then (8 : Int) else if 65 ≤ a ∧ a ≤ 90 then (1 : Int) else if 97 ≤ a ∧ a ≤ 122 then (1 : Int) else if 173 ≤ a ∧ a ≤ 173 then (10 : Int) else if 768 ≤ a ∧ a ≤ 879 then (9 : Int) else if 1488 ≤ a ∧ a ≤ 1514 then (2 : Int) else if 1569 ≤ a ∧ a ≤ 1610 then (3 : Int) else if 1632 ≤ a ∧ a ≤ 1641 then (7 : Int) else if 8203 ≤ a ∧ a ≤ 8203 then (10 : Int) else if 8205 ≤ a ∧ a ≤ 8205 then (10 : Int) else if 8234 ≤ a ∧ a ≤ 8234 then (14 : Int) else if 8235 ≤ a ∧ a ≤ 8235 then (15 : Int) else if 8236 ≤ a ∧ a ≤ 8236 then (16 : Int) else if 8237 ≤ a ∧ a ≤ 8237 then (17 : Int) else if 8238 ≤ a ∧ a ≤ 8238 then (18 : Int) else if 8294 ≤ a ∧ a ≤ 8294 then (19 : Int) else if 8295 ≤ a ∧ a ≤ 8295 then (20 : Int) else if 8296 ≤ a ∧ a ≤ 8296 then (21 : Int) else if 8297 ≤ a ∧ a ≤ 8297 then (22 : Int) else if 19968 ≤ a ∧ a ≤ 40959 then (1 : Int) else 13) = bidiV a := by
 unfold bidiV moveV
 by_cases h0 : a < 9
 · (repeat (first | rw [if_pos (by omega)] | rw [if_neg (by omega)])) <;> try rfl
 by_cases h1 : a < 10
 · (repeat (first | rw [if_pos (by omega)] | rw [if_neg (by omega)])) <;> try rfl
 clear h0
 by_cases h2 : a < 32
 · (repeat (first | rw [if_pos (by omega)] | rw [if_neg (by omega)])) <;> try rfl
 clear h1
 by_cases h3 : a < 33
 · (repeat (first | rw [if_pos (by omega)] | rw [if_neg (by omega)])) <;> try rfl
 clear h2
 by_cases h4 : a < 35
 · (repeat (first | rw [if_pos (by omega)] | rw [if_neg (by omega)])) <;> try rfl
 clear h3
 by_cases h5 : a < 38
 · (repeat (first | rw [if_pos (by omega)] | rw [if_neg (by omega)])) <;> try rfl
 clear h4
 by_cases h6 : a < 43
 · (repeat (first | rw [if_pos (by omega)] | rw [if_neg (by omega)])) <;> try rfl
 clear h5
 by_cases h7 : a < 44
 · (repeat (first | rw [if_pos (by omega)] | rw [if_neg (by omega)])) <;> try rfl
 clear h6
 by_cases h8 : a < 45
 · (repeat (first | rw [if_pos (by omega)] | rw [if_neg (by omega)])) <;> try rfl
 clear h7
 by_cases h9 : a < 46
 · (repeat (first | rw [if_pos (by omega)] | rw [if_neg (by omega)])) <;> try rfl
 clear h8
 by_cases h90 : a < 47
 · (repeat (first | rw [if_pos (by omega)] | rw [if_neg (by omega)])) <;> try rfl
 clear h9
 by_cases h10 : a < 48
 · (repeat (first | rw [if_pos (by omega)] | rw [if_neg (by omega)])) <;> try rfl
 clear h90
 by_cases h11 : a < 58
 · (repeat (first | rw [if_pos (by omega)] | rw [if_neg (by omega)])) <;> try rfl
 clear h10
 by_cases h12 : a < 59
 · (repeat (first | rw [if_pos (by omega)] | rw [if_neg (by omega)])) <;> try rfl
 clear h11
 by_cases h13 : a < 65
 · (repeat (first | rw [if_pos (by omega)] | rw [if_neg (by omega)])) <;> try rfl
 clear h12
 by_cases h14 : a < 91
 · (repeat (first | rw [if_pos (by omega)] | rw [if_neg (by omega)])) <;> try rfl
 clear h13
 by_cases h15 : a < 97
 · (repeat (first | rw [if_pos (by omega)] | rw [if_neg (by omega)])) <;> try rfl
 clear h14
 by_cases h16 : a < 123
 · (repeat (first | rw [if_pos (by omega)] | rw [if_neg (by omega)])) <;> try rfl
 clear h15
 by_cases h17 : a < 173
 · (repeat (first | rw [if_pos (by omega)] | rw [if_neg (by omega)])) <;> try rfl
 clear h16
 by_cases h18 : a < 174
 · (repeat (first | rw [if_pos (by omega)] | rw [if_neg (by omega)])) <;> try rfl
 clear h17
 by_cases h19 : a < 768
 · (repeat (first | rw [if_pos (by omega)] | rw [if_neg (by omega)])) <;> try rfl
 clear h18
 by_cases h20 : a < 880
 · (repeat (first | rw [if_pos (by omega)] | rw [if_neg (by omega)])) <;> try rfl
 clear h19
 by_cases h21 : a < 1488
 · (repeat (first | rw [if_pos (by omega)] | rw [if_neg (by omega)])) <;> try rfl
 clear h20
 by_cases h22 : a < 1515
 · (repeat (first | rw [if_pos (by omega)] | rw [if_neg (by omega)])) <;> try rfl
 clear h21
 by_cases h23 : a < 1569
 · (repeat (first | rw [if_pos (by omega)] | rw [if_neg (by omega)])) <;> try rfl
 clear h22
 by_cases h24 : a < 1611
 · (repeat (first | rw [if_pos (by omega)] | rw [if_neg (by omega)])) <;> try rfl
 clear h23
 by_cases h25 : a < 1632
 · (repeat (first | rw [if_pos (by omega)] | rw [if_neg (by omega)])) <;> try rfl
 clear h24
 by_cases h26 : a < 1642
 · (repeat (first | rw [if_pos (by omega)] | rw [if_neg (by omega)])) <;> try rfl
 clear h25
 by_cases h27 : a < 8203
 · (repeat (first | rw [if_pos (by omega)] | rw [if_neg (by omega)])) <;> try rfl
 clear h26
 by_cases h28 : a < 8204
 · (repeat (first | rw [if_pos (by omega)] | rw [if_neg (by omega)])) <;> try rfl
 clear h27
 by_cases h29 : a < 8205
 · (repeat (first | rw [if_pos (by omega)] | rw [if_neg (by omega)])) <;> try rfl
 clear h28
 by_cases h30 : a < 8206
 · (repeat (first | rw [if_pos (by omega)] | rw [if_neg (by omega)])) <;> try rfl
 clear h29
 by_cases h31 : a < 8234
 · (repeat (first | rw [if_pos (by omega)] | rw [if_neg (by omega)])) <;> try rfl
 clear h30
 by_cases h32 : a < 8235
 · (repeat (first | rw [if_pos (by omega)] | rw [if_neg (by omega)])) <;> try rfl
 clear h31
 by_cases h33 : a < 8236
 · (repeat (first | rw [if_pos (by omega)] | rw [if_neg (by omega)])) <;> try rfl
 clear h32
 by_cases h34 : a < 8237
 · (repeat (first | rw [if_pos (by omega)] | rw [if_neg (by omega)])) <;> try rfl
 clear h33
 by_cases h35 : a < 8238
 · (repeat (first | rw [if_pos (by omega)] | rw [if_neg (by omega)])) <;> try rfl
 clear h34
 by_cases h36 : a < 8239
 · (repeat (first | rw [if_pos (by omega)] | rw [if_neg (by omega)])) <;> try rfl
 clear h35
 by_cases h37 : a < 8294
 · (repeat (first | rw [if_pos (by omega)] | rw [if_neg (by omega)])) <;> try rfl
 clear h36
 by_cases h38 : a < 8295
 · (repeat (first | rw [if_pos (by omega)] | rw [if_neg (by omega)])) <;> try rfl
 clear h37
 by_cases h39 : a < 8296
 · (repeat (first | rw [if_pos (by omega)] | rw [if_neg (by omega)])) <;> try rfl
 clear h38
 by_cases h40 : a < 8297
 · (repeat (first | rw [if_pos (by omega)] | rw [if_neg (by omega)])) <;> try rfl
 clear h39
 by_cases h41 : a < 8298
 · (repeat (first | rw [if_pos (by omega)] | rw [if_neg (by omega)])) <;> try rfl
 clear h40
 by_cases h42 : a < 19968
 · (repeat (first | rw [if_pos (by omega)] | rw [if_neg (by omega)])) <;> try rfl
 clear h41
 by_cases h43 : a < 40960
 · (repeat (first | rw [if_pos (by omega)] | rw [if_neg (by omega)])) <;> try rfl
 clear h42
 (repeat (first | rw [if_pos (by omega)] | rw [if_neg (by omega)])) <;> try rfl
theorem impl_bidi_p (a : Int) : impl_RuneBidi.f a = some (bidiV a) := by
 unfold impl_RuneBidi.f impl_bidiReaches.f impl_find.f
 rw [Option.bind_some, if_pos (by decide), findV_eq (by decide), ← bidi_chain]
 simp only [Option.bind_some, find_if, List.find?_nil, inR_iff]
 congr 1
 by_cases h : 9 ≤ a ∧ a ≤ 9
 · simp only [if_pos h]
 simp only [if_neg h]; clear h
 by_cases h : 32 ≤ a ∧ a ≤ 32
 · simp only [if_pos h]
 simp only [if_neg h]; clear h
 by_cases h : 35 ≤ a ∧ a ≤ 37
 · simp only [if_pos h]
 simp only [if_neg h]; clear h
 by_cases h : 43 ≤ a ∧ a ≤ 43
 · simp only [if_pos h]
 simp only [if_neg h]; clear h
 by_cases h : 44 ≤ a ∧ a ≤ 44
 · simp only [if_pos h]
 simp only [if_neg h]; clear h
 by_cases h : 45 ≤ a ∧ a ≤ 45
 · simp only [if_pos h]
 simp only [if_neg h]; clear h
 by_cases h : 46 ≤ a ∧ a ≤ 47
 · simp only [if_pos h]
 simp only [if_neg h]; clear h
 by_cases h : 48 ≤ a ∧ a ≤ 57
 · simp only [if_pos h]
 simp only [if_neg h]; clear h
 by_cases h : 58 ≤ a ∧ a ≤ 58
 · simp only [if_pos h]
 simp only [if_neg h]; clear h
 by_cases h : 65 ≤ a ∧ a ≤ 90
 · simp only [if_pos h]
 simp only [if_neg h]; clear h
 by_cases h : 97 ≤ a ∧ a ≤ 122
 · simp only [if_pos h]
 simp only [if_neg h]; clear h
 by_cases h : 173 ≤ a ∧ a ≤ 173
 · simp only [if_pos h]
 simp only [if_neg h]; clear h
 by_cases h : 768 ≤ a ∧ a ≤ 879
 · simp only [if_pos h]
 simp only [if_neg h]; clear h
 by_cases h : 1488 ≤ a ∧ a ≤ 1514
 · simp only [if_pos h]
 simp only [if_neg h]; clear h
 by_cases h : 1569 ≤ a ∧ a ≤ 1610
 · simp only [if_pos h]
 simp only [if_neg h]; clear h
 by_cases h : 1632 ≤ a ∧ a ≤ 1641
 · simp only [if_pos h]
 simp only [if_neg h]; clear h
 by_cases h : 8203 ≤ a ∧ a ≤ 8203
 · simp only [if_pos h]
 simp only [if_neg h]; clear h
 by_cases h : 8205 ≤ a ∧ a ≤ 8205
 · simp only [if_pos h]
 simp only [if_neg h]; clear h
 by_cases h : 8234 ≤ a ∧ a ≤ 8234
 · simp only [if_pos h]
 simp only [if_neg h]; clear h
 by_cases h : 8235 ≤ a ∧ a ≤ 8235
 · simp only [if_pos h]
 simp only [if_neg h]; clear h
 by_cases h : 8236 ≤ a ∧ a ≤ 8236
 · simp only [if_pos h]
 simp only [if_neg h]; clear h
 by_cases h : 8237 ≤ a ∧ a ≤ 8237
 · simp only [if_pos h]
 simp only [if_neg h]; clear h
 by_cases h : 8238 ≤ a ∧ a ≤ 8238
 · simp only [if_pos h]
 simp only [if_neg h]; clear h
 by_cases h : 8294 ≤ a ∧ a ≤ 8294
 · simp only [if_pos h]
 simp only [if_neg h]; clear h
 by_cases h : 8295 ≤ a ∧ a ≤ 8295
 · simp only [if_pos h]
 simp only [if_neg h]; clear h
 by_cases h : 8296 ≤ a ∧ a ≤ 8296
 · simp only [if_pos h]
 simp only [if_neg h]; clear h
 by_cases h : 8297 ≤ a ∧ a ≤ 8297
 · simp only [if_pos h]
 simp only [if_neg h]; clear h
 by_cases h : 19968 ≤ a ∧ a ≤ 40959
 · simp only [if_pos h]
 simp only [if_neg h]
end Go.Proofs.YtmcdcogedcbndaaGreat.Pure
namespace Go.Proofs.YtmcdcogedcbndaaGreat.S
open Go.RowKit Go.Proofs.YtmcdcogedcbndaaGreatW.PrintWords Go.Proofs.YtmcdcogedcbndaaGreatW.PrintLast
set_option linter.unusedVariables false
set_option linter.unusedSimpArgs false
def impl_endsOk.l0 : Nat → Int → Int → List Int → Int → Int → Option (Bool)
 | 0, _, _, _, _, _ => none
 | k + 1, x1, x5, x8, x9, x10 => if x10 < x9 then (if 0 ≤ x10 then (if x10 < (x8.length : Int) then (if (rd x8 x10) ≤ x5 then (some false) else (impl_endsOk.l0 k x1 (rd x8 x10) x8 x9 (wrap64 (x10 + 1)))) else (none)) else (none)) else (some (x5 == x1))
def impl_endsOk.f (k : Nat) (l0 : List Int) (a1 : Int) : Option (Bool) := impl_endsOk.l0 k a1 0 l0 (l0.length : Int) 0
theorem impl_endsOk.mono_l : ∀ k, (∀ y0 y1 y2 y3 y4, LeO (impl_endsOk.l0 k y0 y1 y2 y3 y4) (impl_endsOk.l0 (k + 1) y0 y1 y2 y3 y4))
 | 0 => fun _ _ _ _ _ r h => by simp [impl_endsOk.l0] at h
 | k + 1 => by
  have ih0 := impl_endsOk.mono_l k
  ·
   intro y0 y1 y2 y3 y4; unfold impl_endsOk.l0
   repeat' first
   | (with_reducible exact ih0 _ _ _ _ _)
   | (with_reducible exact LeO.refl _)
   | (with_reducible exact LeO.none _)
   | (with_reducible refine LeO.ite ?_ ?_)
   | (with_reducible refine LeO.bind ?_ (fun _ => ?_))
   | exact ih0 _ _ _ _ _
   | exact LeO.none _
   | refine LeO.ite ?_ ?_
   | refine LeO.bind ?_ (fun _ => ?_)
theorem impl_endsOk.mono : ∀ a0 a1 k, LeO (impl_endsOk.f k a0 a1) (impl_endsOk.f (k + 1) a0 a1) := by
 intro a0 a1 k; have ih0 := impl_endsOk.mono_l k; unfold impl_endsOk.f
 repeat' first
   | (with_reducible exact ih0 _ _ _ _ _)
   | (with_reducible exact LeO.refl _)
   | (with_reducible exact LeO.none _)
   | (with_reducible refine LeO.ite ?_ ?_)
   | (with_reducible refine LeO.bind ?_ (fun _ => ?_))
   | exact ih0 _ _ _ _ _
   | exact LeO.none _
   | refine LeO.ite ?_ ?_
   | refine LeO.bind ?_ (fun _ => ?_)
theorem impl_endsOk.calls (k : Nat) (A0 : Option Addr) (c0 : Nat) (l0 : List Int) (a1 : Int) (r : Bool) (w : World) (hr0 : Kd.C (Kd.int .i64) w A0 l0.length l0) (hc0 : l0.length ≤ c0) (h : impl_endsOk.f k l0 a1 = some r) :
  Calls Tryz.prog 50 #[.slice A0 l0.length c0, .int .i64 a1] w fun e w' => e = .returned (.bool r) ∧ Drawn0 w w' := by
 have HR0 := az hr0; have HC0 := az hc0; clear hr0 hc0; have H : (impl_endsOk.l0 k a1 0 l0 (l0.length : Int) 0) = some r := h; clear h; have H' := az H; clear H; go_enter Tryz.func50, Tryz.ntmps50; go_wp2; go_loopg [5, 10] k (fun kq v5 v10 w' => ∃ (x5_1 : Int) (x10_1 : Int), v5 = .int .i64 x5_1 ∧ v10 = .int .i64 x10_1 ∧ Aside0 (impl_endsOk.l0 kq a1 x5_1 l0 (l0.length : Int) x10_1 = some r) ∧ Aside0 (kq ≤ k) ∧ Drawn0 w w')
 case atStart => exact ⟨(0), (0), zB, zB, H', ⟨Nat.le_refl _⟩, zD⟩
 case round =>
  clear H'; (try clear p2); obtain ⟨x5_1, x10_1, rfl, rfl, HA, HK1, ⟨m1, rfl⟩⟩ := hrel
  cases gk with
  | zero => exact absurd HA.out (by simp [impl_endsOk.l0])
  | succ k1 =>
   have H := HA.out; clear HA; simp only [impl_endsOk.l0] at H; by_cases c3 : x10_1 < (l0.length : Int)
   ·
    rw [if_pos c3] at H; have c3b0 : decide (x10_1 < (l0.length : Int)) = true := decide_eq_true c3; clear c3; by_cases c4 : 0 ≤ x10_1
    ·
     rw [if_pos c4] at H; have c4b0 : decide (0 ≤ x10_1) = true := decide_eq_true c4; clear c4; by_cases c5 : x10_1 < (l0.length : Int)
     ·
      rw [if_pos c5] at H; have c5b0 : decide (x10_1 < (l0.length : Int)) = true := decide_eq_true c5; clear c5; by_cases c6 : (rd l0 x10_1) ≤ x5_1
      ·
       rw [if_pos c6] at H; have c6b0 : decide ((rd l0 x10_1) ≤ x5_1) = true := decide_eq_true c6; clear c6; obtain rfl := Option.some.inj H; have p443 : 0 ≤ (x10_1 : Int) := of_decide_eq_true (by assumption); have q443 : x10_1 < (l0.length : Int) := of_decide_eq_true (by assumption); obtain ⟨ad443, e443, hx443_0⟩ := Kd.at_int HR0.out x10_1 p443 q443
       cases e443
       replace p443 := eq_true p443; replace q443 := eq_true q443; go_wp2; go_ret; exact ⟨zB, zD⟩
      ·
       rw [if_neg c6] at H; have c6b0 : decide ((rd l0 x10_1) ≤ x5_1) = false := decide_eq_false c6; clear c6; have H' := az H; clear H; have p443 : 0 ≤ (x10_1 : Int) := of_decide_eq_true (by assumption); have q443 : x10_1 < (l0.length : Int) := of_decide_eq_true (by assumption); obtain ⟨ad443, e443, hx443_0⟩ := Kd.at_int HR0.out x10_1 p443 q443
       cases e443
       replace p443 := eq_true p443; replace q443 := eq_true q443; go_wp2; go_roundg k1
       case measure => have := HK1.out; omega
       case rel => exact ⟨(rd l0 x10_1), (wrap64 (x10_1 + 1)), zB, zB, H', ⟨zE HK1.out⟩, zD⟩
     ·
      rw [if_neg c5] at H; exact absurd H (by simp)
    ·
     rw [if_neg c4] at H; exact absurd H (by simp)
   ·
    rw [if_neg c3] at H; have c3b0 : decide (x10_1 < (l0.length : Int)) = false := decide_eq_false c3; clear c3; obtain rfl := Option.some.inj H; go_wp2; go_ret; exact ⟨zB, zD⟩
def spec_l7Ends.l0 : Nat → List Int → Int → Int → Option (Bool)
 | 0, _, _, _ => none
 | k + 1, x0, x1, x5 => if x5 < (x0.length : Int) then (if x5 > 0 then (if 0 ≤ (wrap64 (x5 - 1)) then (if (wrap64 (x5 - 1)) < (x0.length : Int) then (if 0 ≤ x5 then (if (rd x0 (wrap64 (x5 - 1))) ≥ (rd x0 x5) then (some false) else ((spec_l1In.f (rd x0 x5) 1 x1).bind fun t650 => (if t650 = true then (spec_l7Ends.l0 k x0 x1 (wrap64 (x5 + 1))) else (some false)))) else (none)) else (none)) else (none)) else (if 0 ≤ x5 then ((spec_l1In.f (rd x0 x5) 1 x1).bind fun t652 => (if t652 = true then (spec_l7Ends.l0 k x0 x1 (wrap64 (x5 + 1))) else (some false))) else (none))) else (if x1 = 0 then (some ((x0.length : Int) == 0)) else (if (x0.length : Int) > 0 then (if 0 ≤ (wrap64 ((x0.length : Int) - 1)) then (if (wrap64 ((x0.length : Int) - 1)) < (x0.length : Int) then (some ((rd x0 (wrap64 ((x0.length : Int) - 1))) == x1)) else (none)) else (none)) else (some false)))
def spec_l7Ends.f (k : Nat) (l0 : List Int) (a1 : Int) : Option (Bool) := spec_l7Ends.l0 k l0 a1 0
theorem spec_l7Ends.mono_l : ∀ k, (∀ y0 y1 y2, LeO (spec_l7Ends.l0 k y0 y1 y2) (spec_l7Ends.l0 (k + 1) y0 y1 y2))
 | 0 => fun _ _ _ r h => by simp [spec_l7Ends.l0] at h
 | k + 1 => by
  have ih0 := spec_l7Ends.mono_l k
  ·
   intro y0 y1 y2; unfold spec_l7Ends.l0
   repeat' first
   | (with_reducible exact ih0 _ _ _)
   | (with_reducible exact LeO.refl _)
   | (with_reducible exact LeO.none _)
   | (with_reducible refine LeO.ite ?_ ?_)
   | (with_reducible refine LeO.bind ?_ (fun _ => ?_))
   | exact ih0 _ _ _
   | exact LeO.none _
   | refine LeO.ite ?_ ?_
   | refine LeO.bind ?_ (fun _ => ?_)
theorem spec_l7Ends.mono : ∀ a0 a1 k, LeO (spec_l7Ends.f k a0 a1) (spec_l7Ends.f (k + 1) a0 a1) := by
 intro a0 a1 k; have ih0 := spec_l7Ends.mono_l k; unfold spec_l7Ends.f
 repeat' first
   | (with_reducible exact ih0 _ _ _)
   | (with_reducible exact LeO.refl _)
   | (with_reducible exact LeO.none _)
   | (with_reducible refine LeO.ite ?_ ?_)
   | (with_reducible refine LeO.bind ?_ (fun _ => ?_))
   | exact ih0 _ _ _
   | exact LeO.none _
   | refine LeO.ite ?_ ?_
   | refine LeO.bind ?_ (fun _ => ?_)
theorem spec_l7Ends.calls (k : Nat) (A0 : Option Addr) (c0 : Nat) (l0 : List Int) (a1 : Int) (r : Bool) (w : World) (hr0 : Kd.C (Kd.int .i64) w A0 l0.length l0) (hc0 : l0.length ≤ c0) (h : spec_l7Ends.f k l0 a1 = some r) :
  Calls Tryz.prog 62 #[.slice A0 l0.length c0, .int .i64 a1] w fun e w' => e = .returned (.bool r) ∧ Drawn0 w w' := by
 have HR0 := az hr0; have HC0 := az hc0; clear hr0 hc0; have H : (spec_l7Ends.l0 k l0 a1 0) = some r := h; clear h; have H' := az H; clear H; go_enter Tryz.func62, Tryz.ntmps62; go_wp2; repeat (go_quiet (fail); try go_wp2)
 go_loopg [5] k (fun kq v5 w' => ∃ (x5_1 : Int), v5 = .int .i64 x5_1 ∧ Aside0 (spec_l7Ends.l0 kq l0 a1 x5_1 = some r) ∧ Aside0 (kq ≤ k) ∧ Drawn0 w w')
 case atStart => exact ⟨(0), zB, H', ⟨Nat.le_refl _⟩, zD⟩
 case round =>
  clear H'; (try clear p2); obtain ⟨x5_1, rfl, HA, HK1, ⟨m1, rfl⟩⟩ := hrel
  cases gk with
  | zero => exact absurd HA.out (by simp [spec_l7Ends.l0])
  | succ k1 =>
   have H := HA.out; clear HA; simp only [spec_l7Ends.l0] at H; by_cases c3 : x5_1 < (l0.length : Int)
   ·
    rw [if_pos c3] at H; have c3b0 : decide (x5_1 < (l0.length : Int)) = true := decide_eq_true c3; clear c3; by_cases c4 : x5_1 > 0
    ·
     rw [if_pos c4] at H; have c4b0 : decide (0 < x5_1) = true := decide_eq_true c4; clear c4; obtain ⟨ji5, hji5⟩ : ∃ j_ : Int, (wrap64 (x5_1 - 1)) = j_ := ⟨_, rfl⟩; replace H : (if 0 ≤ (ji5) then (if (ji5) < (l0.length : Int) then (if 0 ≤ x5_1 then (if (rd l0 (ji5)) ≥ (rd l0 x5_1) then (some false) else ((spec_l1In.f (rd l0 x5_1) 1 a1).bind fun t650 => (if t650 = true then (spec_l7Ends.l0 k1 l0 a1 (wrap64 (x5_1 + 1))) else (some false)))) else (none)) else (none)) else (none)) = some r := by first | (rw [hji5] at H; exact H) | (simp only [hji5] at H ⊢; exact H)
     have hji5w : (IntKind.i64.wrap (x5_1 - 1)) = ji5 := (i64_w _).trans hji5; by_cases c6 : 0 ≤ (ji5)
     ·
      rw [if_pos c6] at H; have c6b0 : decide (0 ≤ (ji5)) = true := decide_eq_true c6; clear c6; by_cases c7 : (ji5) < (l0.length : Int)
      ·
       rw [if_pos c7] at H; have c7b0 : decide ((ji5) < (l0.length : Int)) = true := decide_eq_true c7; clear c7; by_cases c8 : 0 ≤ x5_1
       ·
        rw [if_pos c8] at H; have c8b0 : decide (0 ≤ x5_1) = true := decide_eq_true c8; clear c8; by_cases c9 : (rd l0 (ji5)) ≥ (rd l0 x5_1)
        ·
         rw [if_pos c9] at H; have c9b0 : decide ((rd l0 x5_1) ≤ (rd l0 (ji5))) = true := decide_eq_true c9; clear c9; obtain rfl := Option.some.inj H; have p647 : 0 ≤ ((ji5) : Int) := of_decide_eq_true (by assumption); have q647 : (ji5) < (l0.length : Int) := of_decide_eq_true (by assumption); obtain ⟨ad647, e647, hx647_0⟩ := Kd.at_int HR0.out (ji5) p647 q647
         cases e647
         replace p647 := eq_true p647; replace q647 := eq_true q647; have p648 : 0 ≤ (x5_1 : Int) := of_decide_eq_true (by assumption); have q648 : x5_1 < (l0.length : Int) := of_decide_eq_true (by assumption); obtain ⟨ad648, e648, hx648_0⟩ := Kd.at_int HR0.out x5_1 p648 q648; obtain rfl : ad647 = ad648 := (by injection e648); replace p648 := eq_true p648; replace q648 := eq_true q648; go_wp2; repeat (go_quiet (fail); try go_wp2)
         go_ret; exact ⟨by first | rfl | (simp; done) | (simp only [← hji5] <;> (first | rfl | simp)) | (simp [*]; done), zD⟩
        ·
         rw [if_neg c9] at H; have c9b0 : decide ((rd l0 x5_1) ≤ (rd l0 (ji5))) = false := decide_eq_false c9; clear c9; replace H := Option.bind_eq_some_iff.mp H; obtain ⟨t650, A100, H⟩ := H; replace H : (if t650 = true then (spec_l7Ends.l0 k1 l0 a1 (wrap64 (x5_1 + 1))) else (some false)) = some r := H; have A10 := az A100; clear A100; by_cases c11 : t650 = true
         ·
          subst c11; have H1 : (spec_l7Ends.l0 k1 l0 a1 (wrap64 (x5_1 + 1))) = some r := by rw [if_pos rfl] at H; exact H
          clear H; have H := H1; clear H1; have H' := az H; clear H; have p647 : 0 ≤ ((ji5) : Int) := of_decide_eq_true (by assumption); have q647 : (ji5) < (l0.length : Int) := of_decide_eq_true (by assumption); obtain ⟨ad647, e647, hx647_0⟩ := Kd.at_int HR0.out (ji5) p647 q647
          cases e647
          replace p647 := eq_true p647; replace q647 := eq_true q647; have p648 : 0 ≤ (x5_1 : Int) := of_decide_eq_true (by assumption); have q648 : x5_1 < (l0.length : Int) := of_decide_eq_true (by assumption); obtain ⟨ad648, e648, hx648_0⟩ := Kd.at_int HR0.out x5_1 p648 q648; obtain rfl : ad647 = ad648 := (by injection e648); replace p648 := eq_true p648; replace q648 := eq_true q648; have p649 : 0 ≤ (x5_1 : Int) := of_decide_eq_true (by assumption); have q649 : x5_1 < (l0.length : Int) := of_decide_eq_true (by assumption); obtain ⟨ad649, e649, hx649_0⟩ := Kd.at_int HR0.out x5_1 p649 q649; obtain rfl : ad647 = ad649 := (by injection e649); replace p649 := eq_true p649; replace q649 := eq_true q649; go_wp2_with (first | (go_at_call 36; (with_reducible refine (spec_l1In.calls (rd l0 x5_1) 1 a1 true _ A10.out).mono ?_); rintro e w' ⟨rfl, ⟨nd, rfl⟩⟩; (try first | exact ⟨rfl, _, World.drewN_drewN _ _ _⟩ | exact ⟨rfl, _, Eq.trans (World.drewN_drewN _ _ _) (congrArg (World.drewN _) (Nat.add_assoc _ _ _))⟩))); repeat (go_quiet (first | (go_at_call 36; (with_reducible refine (spec_l1In.calls (rd l0 x5_1) 1 a1 true _ A10.out).mono ?_); rintro e w' ⟨rfl, ⟨nd, rfl⟩⟩; (try first | exact ⟨rfl, _, World.drewN_drewN _ _ _⟩ | exact ⟨rfl, _, Eq.trans (World.drewN_drewN _ _ _) (congrArg (World.drewN _) (Nat.add_assoc _ _ _))⟩))); try go_wp2_with (first | (go_at_call 36; (with_reducible refine (spec_l1In.calls (rd l0 x5_1) 1 a1 true _ A10.out).mono ?_); rintro e w' ⟨rfl, ⟨nd, rfl⟩⟩; (try first | exact ⟨rfl, _, World.drewN_drewN _ _ _⟩ | exact ⟨rfl, _, Eq.trans (World.drewN_drewN _ _ _) (congrArg (World.drewN _) (Nat.add_assoc _ _ _))⟩))))
          go_roundg k1
          case measure => have := HK1.out; omega
          case rel => exact ⟨(wrap64 (x5_1 + 1)), zB, H', ⟨zE HK1.out⟩, zD⟩
         ·
          replace c11 := Bool.eq_false_iff.mpr c11; subst c11; have H1 : (some false) = some r := by rw [if_neg (show ¬ (false = true) by decide)] at H; exact H
          clear H; have H := H1; clear H1; obtain rfl := Option.some.inj H; have p647 : 0 ≤ ((ji5) : Int) := of_decide_eq_true (by assumption); have q647 : (ji5) < (l0.length : Int) := of_decide_eq_true (by assumption); obtain ⟨ad647, e647, hx647_0⟩ := Kd.at_int HR0.out (ji5) p647 q647
          cases e647
          replace p647 := eq_true p647; replace q647 := eq_true q647; have p648 : 0 ≤ (x5_1 : Int) := of_decide_eq_true (by assumption); have q648 : x5_1 < (l0.length : Int) := of_decide_eq_true (by assumption); obtain ⟨ad648, e648, hx648_0⟩ := Kd.at_int HR0.out x5_1 p648 q648; obtain rfl : ad647 = ad648 := (by injection e648); replace p648 := eq_true p648; replace q648 := eq_true q648; have p649 : 0 ≤ (x5_1 : Int) := of_decide_eq_true (by assumption); have q649 : x5_1 < (l0.length : Int) := of_decide_eq_true (by assumption); obtain ⟨ad649, e649, hx649_0⟩ := Kd.at_int HR0.out x5_1 p649 q649; obtain rfl : ad647 = ad649 := (by injection e649); replace p649 := eq_true p649; replace q649 := eq_true q649; go_wp2_with (first | (go_at_call 36; (with_reducible refine (spec_l1In.calls (rd l0 x5_1) 1 a1 false _ A10.out).mono ?_); rintro e w' ⟨rfl, ⟨nd, rfl⟩⟩; (try first | exact ⟨rfl, _, World.drewN_drewN _ _ _⟩ | exact ⟨rfl, _, Eq.trans (World.drewN_drewN _ _ _) (congrArg (World.drewN _) (Nat.add_assoc _ _ _))⟩))); repeat (go_quiet (first | (go_at_call 36; (with_reducible refine (spec_l1In.calls (rd l0 x5_1) 1 a1 false _ A10.out).mono ?_); rintro e w' ⟨rfl, ⟨nd, rfl⟩⟩; (try first | exact ⟨rfl, _, World.drewN_drewN _ _ _⟩ | exact ⟨rfl, _, Eq.trans (World.drewN_drewN _ _ _) (congrArg (World.drewN _) (Nat.add_assoc _ _ _))⟩))); try go_wp2_with (first | (go_at_call 36; (with_reducible refine (spec_l1In.calls (rd l0 x5_1) 1 a1 false _ A10.out).mono ?_); rintro e w' ⟨rfl, ⟨nd, rfl⟩⟩; (try first | exact ⟨rfl, _, World.drewN_drewN _ _ _⟩ | exact ⟨rfl, _, Eq.trans (World.drewN_drewN _ _ _) (congrArg (World.drewN _) (Nat.add_assoc _ _ _))⟩))))
          go_ret; exact ⟨by first | rfl | (simp; done) | (simp only [← hji5] <;> (first | rfl | simp)) | (simp [*]; done), zD⟩
       ·
        rw [if_neg c8] at H; exact absurd H (by simp)
      ·
       rw [if_neg c7] at H; exact absurd H (by simp)
     ·
      rw [if_neg c6] at H; exact absurd H (by simp)
    ·
     rw [if_neg c4] at H; have c4b0 : decide (0 < x5_1) = false := decide_eq_false c4; clear c4; by_cases c12 : 0 ≤ x5_1
     ·
      rw [if_pos c12] at H; have c12b0 : decide (0 ≤ x5_1) = true := decide_eq_true c12; clear c12; replace H := Option.bind_eq_some_iff.mp H; obtain ⟨t652, A130, H⟩ := H; replace H : (if t652 = true then (spec_l7Ends.l0 k1 l0 a1 (wrap64 (x5_1 + 1))) else (some false)) = some r := H; have A13 := az A130; clear A130; by_cases c14 : t652 = true
      ·
       subst c14; have H1 : (spec_l7Ends.l0 k1 l0 a1 (wrap64 (x5_1 + 1))) = some r := by rw [if_pos rfl] at H; exact H
       clear H; have H := H1; clear H1; have H' := az H; clear H; have p651 : 0 ≤ (x5_1 : Int) := of_decide_eq_true (by assumption); have q651 : x5_1 < (l0.length : Int) := of_decide_eq_true (by assumption); obtain ⟨ad651, e651, hx651_0⟩ := Kd.at_int HR0.out x5_1 p651 q651
       cases e651
       replace p651 := eq_true p651; replace q651 := eq_true q651; go_wp2_with (first | (go_at_call 36; (with_reducible refine (spec_l1In.calls (rd l0 x5_1) 1 a1 true _ A13.out).mono ?_); rintro e w' ⟨rfl, ⟨nd, rfl⟩⟩; (try first | exact ⟨rfl, _, World.drewN_drewN _ _ _⟩ | exact ⟨rfl, _, Eq.trans (World.drewN_drewN _ _ _) (congrArg (World.drewN _) (Nat.add_assoc _ _ _))⟩))); repeat (go_quiet (first | (go_at_call 36; (with_reducible refine (spec_l1In.calls (rd l0 x5_1) 1 a1 true _ A13.out).mono ?_); rintro e w' ⟨rfl, ⟨nd, rfl⟩⟩; (try first | exact ⟨rfl, _, World.drewN_drewN _ _ _⟩ | exact ⟨rfl, _, Eq.trans (World.drewN_drewN _ _ _) (congrArg (World.drewN _) (Nat.add_assoc _ _ _))⟩))); try go_wp2_with (first | (go_at_call 36; (with_reducible refine (spec_l1In.calls (rd l0 x5_1) 1 a1 true _ A13.out).mono ?_); rintro e w' ⟨rfl, ⟨nd, rfl⟩⟩; (try first | exact ⟨rfl, _, World.drewN_drewN _ _ _⟩ | exact ⟨rfl, _, Eq.trans (World.drewN_drewN _ _ _) (congrArg (World.drewN _) (Nat.add_assoc _ _ _))⟩))))
       go_roundg k1
       case measure => have := HK1.out; omega
       case rel => exact ⟨(wrap64 (x5_1 + 1)), zB, H', ⟨zE HK1.out⟩, zD⟩
      ·
       replace c14 := Bool.eq_false_iff.mpr c14; subst c14; have H1 : (some false) = some r := by rw [if_neg (show ¬ (false = true) by decide)] at H; exact H
       clear H; have H := H1; clear H1; obtain rfl := Option.some.inj H; have p651 : 0 ≤ (x5_1 : Int) := of_decide_eq_true (by assumption); have q651 : x5_1 < (l0.length : Int) := of_decide_eq_true (by assumption); obtain ⟨ad651, e651, hx651_0⟩ := Kd.at_int HR0.out x5_1 p651 q651
       cases e651
       replace p651 := eq_true p651; replace q651 := eq_true q651; go_wp2_with (first | (go_at_call 36; (with_reducible refine (spec_l1In.calls (rd l0 x5_1) 1 a1 false _ A13.out).mono ?_); rintro e w' ⟨rfl, ⟨nd, rfl⟩⟩; (try first | exact ⟨rfl, _, World.drewN_drewN _ _ _⟩ | exact ⟨rfl, _, Eq.trans (World.drewN_drewN _ _ _) (congrArg (World.drewN _) (Nat.add_assoc _ _ _))⟩))); repeat (go_quiet (first | (go_at_call 36; (with_reducible refine (spec_l1In.calls (rd l0 x5_1) 1 a1 false _ A13.out).mono ?_); rintro e w' ⟨rfl, ⟨nd, rfl⟩⟩; (try first | exact ⟨rfl, _, World.drewN_drewN _ _ _⟩ | exact ⟨rfl, _, Eq.trans (World.drewN_drewN _ _ _) (congrArg (World.drewN _) (Nat.add_assoc _ _ _))⟩))); try go_wp2_with (first | (go_at_call 36; (with_reducible refine (spec_l1In.calls (rd l0 x5_1) 1 a1 false _ A13.out).mono ?_); rintro e w' ⟨rfl, ⟨nd, rfl⟩⟩; (try first | exact ⟨rfl, _, World.drewN_drewN _ _ _⟩ | exact ⟨rfl, _, Eq.trans (World.drewN_drewN _ _ _) (congrArg (World.drewN _) (Nat.add_assoc _ _ _))⟩))))
       go_ret; exact ⟨zB, zD⟩
     ·
      rw [if_neg c12] at H; exact absurd H (by simp)
   ·
    rw [if_neg c3] at H; have c3b0 : decide (x5_1 < (l0.length : Int)) = false := decide_eq_false c3; clear c3; by_cases c15 : a1 = 0
    ·
     rw [if_pos c15] at H; have c15b0 : (a1 == 0) = true := beq_iff_eq.mpr c15; have c15b1 : (a1 != 0) = false := bne_eq_false_iff_eq.mpr c15; clear c15; obtain rfl := Option.some.inj H; go_wp2; repeat (go_quiet (fail); try go_wp2)
     go_ret; exact ⟨zB, zD⟩
    ·
     rw [if_neg c15] at H; have c15b0 : (a1 == 0) = false := beq_eq_false_iff_ne.mpr c15; have c15b1 : (a1 != 0) = true := bne_iff_ne.mpr c15; by_cases c16 : (l0.length : Int) > 0
     ·
      rw [if_pos c16] at H; have c16b0 : decide (0 < (l0.length : Int)) = true := decide_eq_true c16; have c16b1 : decide (0 < l0.length) = true := decide_eq_true (by omega); clear c16; obtain ⟨ji17, hji17⟩ : ∃ j_ : Int, (wrap64 ((l0.length : Int) - 1)) = j_ := ⟨_, rfl⟩; replace H : (if 0 ≤ (ji17) then (if (ji17) < (l0.length : Int) then (some ((rd l0 (ji17)) == a1)) else (none)) else (none)) = some r := by first | (rw [hji17] at H; exact H) | (simp only [hji17] at H ⊢; exact H)
      have hji17w : (IntKind.i64.wrap ((l0.length : Int) - 1)) = ji17 := (i64_w _).trans hji17; by_cases c18 : 0 ≤ (ji17)
      ·
       rw [if_pos c18] at H; have c18b0 : decide (0 ≤ (ji17)) = true := decide_eq_true c18; clear c18; by_cases c19 : (ji17) < (l0.length : Int)
       ·
        rw [if_pos c19] at H; have c19b0 : decide ((ji17) < (l0.length : Int)) = true := decide_eq_true c19; clear c19; obtain rfl := Option.some.inj H; have p653 : 0 ≤ ((ji17) : Int) := of_decide_eq_true (by assumption); have q653 : (ji17) < (l0.length : Int) := of_decide_eq_true (by assumption); obtain ⟨ad653, e653, hx653_0⟩ := Kd.at_int HR0.out (ji17) p653 q653
        cases e653
        replace p653 := eq_true p653; replace q653 := eq_true q653; go_wp2; repeat (go_quiet (fail); try go_wp2)
        go_ret; exact ⟨by first | rfl | (simp; done) | (simp only [← hji17] <;> (first | rfl | simp)) | (simp [*]; done), zD⟩
       ·
        rw [if_neg c19] at H; exact absurd H (by simp)
      ·
       rw [if_neg c18] at H; exact absurd H (by simp)
     ·
      rw [if_neg c16] at H; have c16b0 : decide (0 < (l0.length : Int)) = false := decide_eq_false c16; have c16b1 : decide (0 < l0.length) = false := decide_eq_false (by omega); clear c16; obtain rfl := Option.some.inj H; go_wp2; repeat (go_quiet (fail); try go_wp2)
      go_ret; exact ⟨zB, zD⟩
def laws_toIntS.l0 : Nat → List Int → List Int → Int → Option (List Int)
 | 0, _, _, _ => none
 | k + 1, x0, x3, x4 => if x4 < (x0.length : Int) then (if 0 ≤ x4 then (if x4 < (x3.length : Int) then (laws_toIntS.l0 k x0 (x3.set (x4 : Int).toNat (rd x0 x4)) (wrap64 (x4 + 1))) else (none)) else (none)) else (some x3)
def laws_toIntS.f (k : Nat) (l0 : List Int) : Option (List Int) := if 0 ≤ (l0.length : Int) then (if ((l0.length : Int) : Int).toNat ≤ 35184372088832 then (laws_toIntS.l0 k l0 (List.replicate ((l0.length : Int) : Int).toNat 0) 0) else (none)) else (none)
theorem laws_toIntS.mono_l : ∀ k, (∀ y0 y1 y2, LeO (laws_toIntS.l0 k y0 y1 y2) (laws_toIntS.l0 (k + 1) y0 y1 y2))
 | 0 => fun _ _ _ r h => by simp [laws_toIntS.l0] at h
 | k + 1 => by
  have ih0 := laws_toIntS.mono_l k
  ·
   intro y0 y1 y2; unfold laws_toIntS.l0
   repeat' first
   | (with_reducible exact ih0 _ _ _)
   | (with_reducible exact LeO.refl _)
   | (with_reducible exact LeO.none _)
   | (with_reducible refine LeO.ite ?_ ?_)
   | (with_reducible refine LeO.bind ?_ (fun _ => ?_))
   | exact ih0 _ _ _
   | exact LeO.none _
   | refine LeO.ite ?_ ?_
   | refine LeO.bind ?_ (fun _ => ?_)
theorem laws_toIntS.mono : ∀ a0 k, LeO (laws_toIntS.f k a0) (laws_toIntS.f (k + 1) a0) := by
 intro a0 k; have ih0 := laws_toIntS.mono_l k; unfold laws_toIntS.f
 repeat' first
   | (with_reducible exact ih0 _ _ _)
   | (with_reducible exact LeO.refl _)
   | (with_reducible exact LeO.none _)
   | (with_reducible refine LeO.ite ?_ ?_)
   | (with_reducible refine LeO.bind ?_ (fun _ => ?_))
   | exact ih0 _ _ _
   | exact LeO.none _
   | refine LeO.ite ?_ ?_
   | refine LeO.bind ?_ (fun _ => ?_)
theorem laws_toIntS.calls (k : Nat) (A0 : Option Addr) (c0 : Nat) (l0 : List Int) (r : List Int) (w : World) (hr0 : Kd.C (Kd.int .i64) w A0 l0.length l0) (hc0 : l0.length ≤ c0) (h : laws_toIntS.f k l0 = some r) :
  Calls Tryz.prog 13 #[.slice A0 l0.length c0] w fun e w' => ∃ v0_ : Value, e = .returned (v0_) ∧ Kd.R (Kd.int .i64) 3 w' w.heap.size (fun _ => True) v0_ r ∧ Below w.heap.size w w' := by
 have HR0 := az hr0; have HC0 := az hc0; clear hr0 hc0; have HB := az (Below.refl w.heap.size w); have H : (if 0 ≤ (l0.length : Int) then (if ((l0.length : Int) : Int).toNat ≤ 35184372088832 then (laws_toIntS.l0 k l0 (List.replicate ((l0.length : Int) : Int).toNat 0) 0) else (none)) else (none)) = some r := h; clear h; by_cases c2 : 0 ≤ (l0.length : Int)
 ·
  rw [if_pos c2] at H; have c2b0 := eq_true c2; have c2b1 : decide (0 ≤ (l0.length : Int)) = true := decide_eq_true c2; clear c2; by_cases c3 : ((l0.length : Int) : Int).toNat ≤ 35184372088832
  ·
   rw [if_pos c3] at H; have c3b0 := eq_true c3; have c3b1 : decide (((l0.length : Int) : Int).toNat ≤ 35184372088832) = true := decide_eq_true c3; clear c3; obtain ⟨y252, hy252⟩ : ∃ y_ : List Int, y_ = (List.replicate ((l0.length : Int) : Int).toNat 0) := ⟨_, rfl⟩; replace H : (laws_toIntS.l0 k l0 y252 0) = some r := by first | (rw [hy252]; with_reducible exact H) | (have H2_ := (Option.bind_some _ _).symm.trans H; rw [hy252]; with_reducible exact H2_) | (have H2_ := (Option.bind_some _ _).symm.trans H; with_reducible exact H2_) | with_reducible exact H | (rw [hy252]; exact H) | exact H
   have Ny252 := az hy252; clear hy252; have H' := az H; clear H; go_enter Tryz.func13, Tryz.ntmps13; go_wp2_with (first | ((with_reducible refine gate_dst (N := 7) rfl ?_); refine Kd.R_make (Kd.int .i64) _ 3 rfl (N := 7) rfl 22 _ _ rfl (l0.length : Int) rfl rfl Tryz.underlying22 (.int .i64 0) 8 info3 rfl (by decide) (by omega) 0 (ok := fun _ => True) (okp := fun _ => True) rfl (fun _ hk => hk) trivial (of_decide_eq_true (by assumption)) (Nat.le_trans (Nat.mul_le_mul_right _ (of_decide_eq_true (by assumption) : (l0.length : Int).toNat ≤ 35184372088832)) (by omega)) (Below.refl _ _) (Nat.le_refl _) ?_; intro v253 w4 ho5 hb hg_ hnew_; clear hg_ hnew_; (first | rw [← Ny252.out] at ho5 | (simp only [Int.reduceToNat] at ho5; rw [← Ny252.out] at ho5)); have n0_ := az (Kd.R_lower ho5 (below_size (zA HB.out))); have n1_ := az (below_step (zA HB.out) hb); clear HB; have HO254 := n0_; have HB := n1_; clear n0_ n1_; clear hb ho5)); go_loopg [4] k (fun kq v4 w' => ∃ (x3_1 : List Int) (x4_1 : Int), v4 = .int .i64 x4_1 ∧ Aside0 (laws_toIntS.l0 kq l0 x3_1 x4_1 = some r) ∧ Aside0 (kq ≤ k) ∧ Aside0 (Kd.R (Kd.int .i64) 3 w' w.heap.size (fun _ => True) v253 x3_1) ∧ Aside0 (Below w.heap.size w w'))
   case atStart => exact ⟨(y252), (0), zB, H', ⟨Nat.le_refl _⟩, ⟨zF HO254.out⟩, ⟨zA HB.out⟩⟩
   case round =>
    clear H'; (try clear c1); (try clear c2); (try clear c2b0); (try clear c2b1); (try clear p2); (try clear c3); (try clear c3b0); (try clear c3b1); obtain ⟨x3_1, x4_1, rfl, HA, HK1, HO_3, HB⟩ := hrel
    cases gk with
    | zero => exact absurd HA.out (by simp [laws_toIntS.l0])
    | succ k1 =>
     have H := HA.out; clear HA; simp only [laws_toIntS.l0] at H; by_cases c6 : x4_1 < (l0.length : Int)
     ·
      rw [if_pos c6] at H; have c6b0 : decide (x4_1 < (l0.length : Int)) = true := decide_eq_true c6; clear c6; by_cases c7 : 0 ≤ x4_1
      ·
       rw [if_pos c7] at H; have c7b0 : decide (0 ≤ x4_1) = true := decide_eq_true c7; clear c7; by_cases c8 : x4_1 < (x3_1.length : Int)
       ·
        rw [if_pos c8] at H; have c8b0 : decide (x4_1 < (x3_1.length : Int)) = true := decide_eq_true c8; clear c8; obtain ⟨y256, hy256⟩ : ∃ y_ : List Int, y_ = (x3_1.set (x4_1 : Int).toNat (rd l0 x4_1)) := ⟨_, rfl⟩; replace H : (laws_toIntS.l0 k1 l0 y256 (wrap64 (x4_1 + 1))) = some r := by first | (rw [hy256]; with_reducible exact H) | (have H2_ := (Option.bind_some _ _).symm.trans H; rw [hy256]; with_reducible exact H2_) | (have H2_ := (Option.bind_some _ _).symm.trans H; with_reducible exact H2_) | with_reducible exact H | (rw [hy256]; exact H) | exact H
        have Ny256 := az hy256; clear hy256; have H' := az H; clear H; have p255 : 0 ≤ (x4_1 : Int) := of_decide_eq_true (by assumption); have q255 : x4_1 < (l0.length : Int) := of_decide_eq_true (by assumption); obtain ⟨ad255, e255, hx255_0⟩ := Kd.at_int HR0.out x4_1 p255 q255
        cases e255
        replace hx255_0 := (HB.out.cell (World.block_lt_of_cell? w _ hx255_0)).trans hx255_0; replace p255 := eq_true p255; replace q255 := eq_true q255; have p9 : 0 ≤ (x4_1 : Int) := of_decide_eq_true (by assumption); have q9 : (x4_1 : Int) < ((x3_1.length : Int) : Int) := of_decide_eq_true (by assumption); obtain ⟨go9, co9, eo9, gb9, gl9, cl9, HG9⟩ := Kd.R_form HO_3.out (by omega); (first | cases eo9 | (injection eo9 with ea_ en_ ec_; (first | subst ea_ | (injection ea_ with ea_; subst ea_)); subst ec_; clear en_)); have GB9 := az gb9; have GG9 := az HG9; clear gb9 gl9 HG9; obtain ⟨hx9_0, hf9_0⟩ := Kd.R_celln 0 HO_3.out (x4_1 : Int) p9 q9; replace p9 := eq_true p9; replace q9 := eq_true q9; have HP10 := Kd.R_putg HO_3.out (x4_1 : Int) (rd l0 x4_1); go_wp2_with (first | ((with_reducible refine gate_store (t := 3) (p := 20) rfl ?_); refine store_event (t := 3) (p := 20) (v := ?vo_w11) (w1 := (wr.setCell ⟨go9, (x4_1 : Int).toNat, none⟩ (.int .i64 (rd l0 x4_1)))) ?hg ?ho ?hn ?hr ?_; (case ho => rfl); (case hg => rfl); (case hn => rfl); (case hr => first | (go_simp; done) | (go_simp; rfl)); intro w11 hw; have hg : wr.grownBy w11 (some go9) := (by rw [hw]; exact HP10.2); have hp_ : Kd.R (Kd.int .i64) 3 w11 w.heap.size (fun _ => True) (.slice (some ⟨go9, 0, none⟩) x3_1.length co9) y256 := (by rw [hw, Ny256.out]; exact HP10.1); clear HP10; have n0_ := az (hp_); have n1_ := az ((by rw [hw]; exact below_set (HB.out) GB9.out : Below w.heap.size w w11)); clear HO_3; clear HB; have HO_3 := n0_; have HB := n1_; clear n0_ n1_; clear hg hw hp_)); go_roundg k1
        case measure => have := HK1.out; omega
        case rel => exact ⟨(y256), (wrap64 (x4_1 + 1)), zB, H', ⟨zE HK1.out⟩, ⟨zF HO_3.out⟩, ⟨zA HB.out⟩⟩
       ·
        rw [if_neg c8] at H; exact absurd H (by simp)
      ·
       rw [if_neg c7] at H; exact absurd H (by simp)
     ·
      rw [if_neg c6] at H; have c6b0 : decide (x4_1 < (l0.length : Int)) = false := decide_eq_false c6; clear c6; obtain rfl := Option.some.inj H; go_wp2; go_ret; exact ⟨_, zG, zF HO_3.out, zA HB.out⟩
  ·
   rw [if_neg c3] at H; exact absurd H (by simp)
 ·
  rw [if_neg c2] at H; exact absurd H (by simp)
def laws_eqIntS.l0 : Nat → List Int → List Int → Int → Option (Bool)
 | 0, _, _, _ => none
 | k + 1, x0, x1, x5 => if x5 < (x0.length : Int) then (if 0 ≤ x5 then (if x5 < (x1.length : Int) then (if (rd x0 x5) = (rd x1 x5) then (laws_eqIntS.l0 k x0 x1 (wrap64 (x5 + 1))) else (some false)) else (none)) else (none)) else (some true)
def laws_eqIntS.f (k : Nat) (l0 : List Int) (l1 : List Int) : Option (Bool) := if (l0.length : Int) = (l1.length : Int) then (laws_eqIntS.l0 k l0 l1 0) else (some false)
theorem laws_eqIntS.mono_l : ∀ k, (∀ y0 y1 y2, LeO (laws_eqIntS.l0 k y0 y1 y2) (laws_eqIntS.l0 (k + 1) y0 y1 y2))
 | 0 => fun _ _ _ r h => by simp [laws_eqIntS.l0] at h
 | k + 1 => by
  have ih0 := laws_eqIntS.mono_l k
  ·
   intro y0 y1 y2; unfold laws_eqIntS.l0
   repeat' first
   | (with_reducible exact ih0 _ _ _)
   | (with_reducible exact LeO.refl _)
   | (with_reducible exact LeO.none _)
   | (with_reducible refine LeO.ite ?_ ?_)
   | (with_reducible refine LeO.bind ?_ (fun _ => ?_))
   | exact ih0 _ _ _
   | exact LeO.none _
   | refine LeO.ite ?_ ?_
   | refine LeO.bind ?_ (fun _ => ?_)
theorem laws_eqIntS.mono : ∀ a0 a1 k, LeO (laws_eqIntS.f k a0 a1) (laws_eqIntS.f (k + 1) a0 a1) := by
 intro a0 a1 k; have ih0 := laws_eqIntS.mono_l k; unfold laws_eqIntS.f
 repeat' first
   | (with_reducible exact ih0 _ _ _)
   | (with_reducible exact LeO.refl _)
   | (with_reducible exact LeO.none _)
   | (with_reducible refine LeO.ite ?_ ?_)
   | (with_reducible refine LeO.bind ?_ (fun _ => ?_))
   | exact ih0 _ _ _
   | exact LeO.none _
   | refine LeO.ite ?_ ?_
   | refine LeO.bind ?_ (fun _ => ?_)
theorem laws_eqIntS.calls (k : Nat) (A0 : Option Addr) (c0 : Nat) (l0 : List Int) (A1 : Option Addr) (c1 : Nat) (l1 : List Int) (r : Bool) (w : World) (hr0 : Kd.C (Kd.int .i64) w A0 l0.length l0) (hc0 : l0.length ≤ c0) (hr1 : Kd.C (Kd.int .i64) w A1 l1.length l1) (hc1 : l1.length ≤ c1) (h : laws_eqIntS.f k l0 l1 = some r) :
  Calls Tryz.prog 16 #[.slice A0 l0.length c0, .slice A1 l1.length c1] w fun e w' => e = .returned (.bool r) ∧ Drawn0 w w' := by
 have HR0 := az hr0; have HC0 := az hc0; clear hr0 hc0; have HR1 := az hr1; have HC1 := az hc1; clear hr1 hc1; have H : (if (l0.length : Int) = (l1.length : Int) then (laws_eqIntS.l0 k l0 l1 0) else (some false)) = some r := h; clear h; by_cases c3 : (l0.length : Int) = (l1.length : Int)
 ·
  rw [if_pos c3] at H; have c3b0 : ((l0.length : Int) == (l1.length : Int)) = true := beq_iff_eq.mpr c3; have c3b1 : ((l0.length : Int) != (l1.length : Int)) = false := bne_eq_false_iff_eq.mpr c3; have c3b2 : (l0.length == l1.length) = true := by first | simpa using c3 | (simp at c3 ⊢; omega)
  clear c3; have H' := az H; clear H; go_enter Tryz.func16, Tryz.ntmps16; go_wp2; repeat (go_quiet (fail); try go_wp2)
  go_loopg [5] k (fun kq v5 w' => ∃ (x5_1 : Int), v5 = .int .i64 x5_1 ∧ Aside0 (laws_eqIntS.l0 kq l0 l1 x5_1 = some r) ∧ Aside0 (kq ≤ k) ∧ Drawn0 w w')
  case atStart => exact ⟨(0), zB, H', ⟨Nat.le_refl _⟩, zD⟩
  case round =>
   clear H'; (try clear c1); (try clear p2); (try clear c3); (try clear c3b0); (try clear c3b1); (try clear c3b2); obtain ⟨x5_1, rfl, HA, HK1, ⟨m1, rfl⟩⟩ := hrel
   cases gk with
   | zero => exact absurd HA.out (by simp [laws_eqIntS.l0])
   | succ k1 =>
    have H := HA.out; clear HA; simp only [laws_eqIntS.l0] at H; by_cases c4 : x5_1 < (l0.length : Int)
    ·
     rw [if_pos c4] at H; have c4b0 : decide (x5_1 < (l0.length : Int)) = true := decide_eq_true c4; clear c4; by_cases c5 : 0 ≤ x5_1
     ·
      rw [if_pos c5] at H; have c5b0 : decide (0 ≤ x5_1) = true := decide_eq_true c5; clear c5; by_cases c6 : x5_1 < (l1.length : Int)
      ·
       rw [if_pos c6] at H; have c6b0 : decide (x5_1 < (l1.length : Int)) = true := decide_eq_true c6; clear c6; by_cases c7 : (rd l0 x5_1) = (rd l1 x5_1)
       ·
        rw [if_pos c7] at H; have c7b0 : ((rd l0 x5_1) == (rd l1 x5_1)) = true := beq_iff_eq.mpr c7; have c7b1 : ((rd l0 x5_1) != (rd l1 x5_1)) = false := bne_eq_false_iff_eq.mpr c7; clear c7; have H' := az H; clear H; have p367 : 0 ≤ (x5_1 : Int) := of_decide_eq_true (by assumption); have q367 : x5_1 < (l0.length : Int) := of_decide_eq_true (by assumption); obtain ⟨ad367, e367, hx367_0⟩ := Kd.at_int HR0.out x5_1 p367 q367
        cases e367
        replace p367 := eq_true p367; replace q367 := eq_true q367; have p368 : 0 ≤ (x5_1 : Int) := of_decide_eq_true (by assumption); have q368 : x5_1 < (l1.length : Int) := of_decide_eq_true (by assumption); obtain ⟨ad368, e368, hx368_0⟩ := Kd.at_int HR1.out x5_1 p368 q368
        cases e368
        replace p368 := eq_true p368; replace q368 := eq_true q368; go_wp2; repeat (go_quiet (fail); try go_wp2)
        go_roundg k1
        case measure => have := HK1.out; omega
        case rel => exact ⟨(wrap64 (x5_1 + 1)), zB, H', ⟨zE HK1.out⟩, zD⟩
       ·
        rw [if_neg c7] at H; have c7b0 : ((rd l0 x5_1) == (rd l1 x5_1)) = false := beq_eq_false_iff_ne.mpr c7; have c7b1 : ((rd l0 x5_1) != (rd l1 x5_1)) = true := bne_iff_ne.mpr c7; obtain rfl := Option.some.inj H; have p367 : 0 ≤ (x5_1 : Int) := of_decide_eq_true (by assumption); have q367 : x5_1 < (l0.length : Int) := of_decide_eq_true (by assumption); obtain ⟨ad367, e367, hx367_0⟩ := Kd.at_int HR0.out x5_1 p367 q367
        cases e367
        replace p367 := eq_true p367; replace q367 := eq_true q367; have p368 : 0 ≤ (x5_1 : Int) := of_decide_eq_true (by assumption); have q368 : x5_1 < (l1.length : Int) := of_decide_eq_true (by assumption); obtain ⟨ad368, e368, hx368_0⟩ := Kd.at_int HR1.out x5_1 p368 q368
        cases e368
        replace p368 := eq_true p368; replace q368 := eq_true q368; go_wp2; repeat (go_quiet (fail); try go_wp2)
        go_ret; exact ⟨zB, zD⟩
      ·
       rw [if_neg c6] at H; exact absurd H (by simp)
     ·
      rw [if_neg c5] at H; exact absurd H (by simp)
    ·
     rw [if_neg c4] at H; have c4b0 : decide (x5_1 < (l0.length : Int)) = false := decide_eq_false c4; clear c4; obtain rfl := Option.some.inj H; go_wp2; repeat (go_quiet (fail); try go_wp2)
     go_ret; exact ⟨zB, zD⟩
 ·
  rw [if_neg c3] at H; have c3b0 : ((l0.length : Int) == (l1.length : Int)) = false := beq_eq_false_iff_ne.mpr c3; have c3b1 : ((l0.length : Int) != (l1.length : Int)) = true := bne_iff_ne.mpr c3; have c3b2 : (l0.length == l1.length) = false := by first | simpa using c3 | (simp at c3 ⊢; omega)
  obtain rfl := Option.some.inj H; go_enter Tryz.func16, Tryz.ntmps16; go_wp2; repeat (go_quiet (fail); try go_wp2)
  go_ret; exact ⟨zB, zD⟩
end Go.Proofs.YtmcdcogedcbndaaGreat.S
/- What the laws' own helpers answer: a copy, equality. -/
namespace Go.Proofs.YtmcdcogedcbndaaGreat.Pure
open Go.RowKit Go.Proofs.YtmcdcogedcbndaaGreat.S Go.Proofs.YtmcdcogedcbndaaGreatW.PrintWords Go.Proofs.YtmcdcogedcbndaaGreatW.PrintLast
theorem w64 {x : Int} (h0 : -9223372036854775808 ≤ x) (h1 : x ≤ 9223372036854775807) : wrap64 x = x := by
 unfold wrap64; omega
theorem rd_nat (l : List Int) (i : Nat) : rd l (i : Int) = l.getD i 0 := by simp [rd]
theorem rd_get {l : List Int} {i : Nat} (h : i < l.length) : rd l (i : Int) = l[i] := by simp [rd, List.getD_eq_getElem?_getD, h]
end Go.Proofs.YtmcdcogedcbndaaGreat.Pure
/- Spans that are ok, and ends of lines, by both texts. -/
namespace Go.Proofs.YtmcdcogedcbndaaGreat.Pure
open Go.RowKit Go.Proofs.YtmcdcogedcbndaaGreat.S Go.Proofs.YtmcdcogedcbndaaGreatW.PrintWords Go.Proofs.YtmcdcogedcbndaaGreatW.PrintLast
abbrev Sp := S50
theorem l1In_f (a b c : Int) : spec_l1In.f a b c = some (decide (b ≤ a ∧ a ≤ c)) := by
 unfold spec_l1In.f
 by_cases h : a ≥ b
 · simp [h]
 · simp [h]
def spanOkV (s : Sp) (n : Int) : Bool := decide (0 ≤ s.f0 ∧ s.f0 < n ∧ s.f0 < s.f1 ∧ s.f1 ≤ n ∧ 1 ≤ s.f2 ∧ s.f2 ≤ 40 ∧ 0 ≤ s.f3 ∧ s.f3 ≤ 9)
theorem spanOk_i (s : Sp) (n : Int) : impl_spanOk.f s.f0 s.f1 s.f2 s.f3 n = some (spanOkV s n) := by
 unfold impl_spanOk.f spanOkV
 by_cases h0 : s.f0 ≥ 0
 ·
  by_cases h1 : s.f0 < n
  ·
   by_cases h2 : s.f1 > s.f0
   ·
    by_cases h3 : s.f1 ≤ n
    ·
     by_cases h4 : s.f2 ≥ 1
     ·
      by_cases h5 : s.f2 ≤ 40
      ·
       by_cases h6 : s.f3 ≥ 0
       ·
        rw [if_pos h0, if_pos h1, if_pos h2, if_pos h3, if_pos h4, if_pos h5, if_pos h6]
        congr 1
        rw [decide_eq_decide]
        omega
       · rw [if_pos h0, if_pos h1, if_pos h2, if_pos h3, if_pos h4, if_pos h5, if_neg h6, decide_eq_false (by omega)]
      · rw [if_pos h0, if_pos h1, if_pos h2, if_pos h3, if_pos h4, if_neg h5, decide_eq_false (by omega)]
     · rw [if_pos h0, if_pos h1, if_pos h2, if_pos h3, if_neg h4, decide_eq_false (by omega)]
    · rw [if_pos h0, if_pos h1, if_pos h2, if_neg h3, decide_eq_false (by omega)]
   · rw [if_pos h0, if_pos h1, if_neg h2, decide_eq_false (by omega)]
  · rw [if_pos h0, if_neg h1, decide_eq_false (by omega)]
 · rw [if_neg h0, decide_eq_false (by omega)]
theorem spanOk_s (s : Sp) {n : Int} (hn : 0 ≤ n) (hn1 : n ≤ 1000000) : spec_l6Ok.f s.f0 s.f1 s.f2 s.f3 n = some (spanOkV s n) := by
 unfold spec_l6Ok.f spanOkV
 simp only [l1In_f, Option.bind_some]
 rw [w64 (x := n - 1) (by omega) (by omega)]
 by_cases h0 : 0 ≤ s.f0 ∧ s.f0 ≤ n - 1
 ·
  rw [decide_eq_true h0, if_pos rfl, w64 (by omega) (by omega)]
  by_cases h1 : s.f0 + 1 ≤ s.f1 ∧ s.f1 ≤ n
  ·
   rw [decide_eq_true h1, if_pos rfl]
   by_cases h2 : 1 ≤ s.f2 ∧ s.f2 ≤ 40
   ·
    rw [decide_eq_true h2, if_pos rfl]
    congr 1
    rw [decide_eq_decide]
    omega
   · rw [decide_eq_false h2, if_neg (by decide), decide_eq_false (by omega)]
  · rw [decide_eq_false h1, if_neg (by decide), decide_eq_false (by omega)]
 · rw [decide_eq_false h0, if_neg (by decide), decide_eq_false (by omega)]
def spAt (l : List Sp) (i : Nat) : Sp := l.getD i z50
theorem rdSp (l : List Sp) (i : Nat) : rd_T50 l (i : Int) = spAt l i := by simp [rd_T50, spAt]
def okAt (l : List Sp) (n : Int) (i : Nat) : Bool := spanOkV (spAt l i) n && (decide (i = 0) || decide ((spAt l (i - 1)).f1 ≤ (spAt l i).f0))
def allFrom (f : Nat → Bool) : Nat → Nat → Bool
 | _, 0 => true
 | i, d + 1 => f i && allFrom f (i + 1) d
theorem allFrom_iff (f : Nat → Bool) : ∀ (d i : Nat), allFrom f i d = true ↔ ∀ j, i ≤ j → j < i + d → f j = true
 | 0, i => ⟨fun _ j h1 h2 => by omega, fun _ => rfl⟩
 | d + 1, i => by
  rw [allFrom, Bool.and_eq_true, allFrom_iff f d (i + 1)]
  constructor
  ·
   rintro ⟨h0, h⟩ j h1 h2
   by_cases e : j = i
   · rw [e]; exact h0
   · exact h j (by omega) (by omega)
  · exact fun h => ⟨h i (by omega) (by omega), fun j h1 h2 => h j (by omega) (by omega)⟩
def spansV (l : List Sp) (n : Int) : Bool := allFrom (okAt l n) 0 l.length && (decide (l.length ≤ 12) && decide (0 ≤ n ∧ n ≤ 80))
theorem spansI_l (l : List Sp) (n : Int) (hl : l.length ≤ 1099511627776) : ∀ (d k i : Nat), l.length - i = d → i ≤ l.length → d < k → impl_SpansOk.l0 k l n l (l.length : Int) (i : Int) = some (allFrom (okAt l n) i d && (decide (l.length ≤ 12) && decide (0 ≤ n ∧ n ≤ 80)))
 | 0, k, i, hd, hi, hk => by
  obtain ⟨k, rfl⟩ : ∃ m, k = m + 1 := ⟨k - 1, by omega⟩
  rw [impl_SpansOk.l0, if_neg (by omega), allFrom, Bool.true_and]
  by_cases h0 : n ≥ 0
  ·
   by_cases h1 : n ≤ 80
   ·
    rw [if_pos h0, if_pos h1, decide_eq_true (show 0 ≤ n ∧ n ≤ 80 by omega), Bool.and_true]
    congr 1
    rw [decide_eq_decide]
    omega
   · rw [if_pos h0, if_neg h1, decide_eq_false (show ¬ (0 ≤ n ∧ n ≤ 80) by omega), Bool.and_false]
  · rw [if_neg h0, decide_eq_false (show ¬ (0 ≤ n ∧ n ≤ 80) by omega), Bool.and_false]
 | d + 1, k, i, hd, hi, hk => by
  obtain ⟨k, rfl⟩ : ∃ m, k = m + 1 := ⟨k - 1, by omega⟩
  have ih := spansI_l l n hl d k (i + 1) (by omega) (by omega) (by omega)
  rw [impl_SpansOk.l0, if_pos (by omega), if_pos (by omega), if_pos (by omega), rdSp, spanOk_i, Option.bind_some, allFrom, okAt]
  have w1 : wrap64 ((i : Int) + 1) = ((i + 1 : Nat) : Int) := by rw [w64 (by omega) (by omega)]; omega
  cases hs : spanOkV (spAt l i) n
  · rw [if_neg (by decide), Bool.false_and, Bool.false_and, Bool.false_and]
  ·
   rw [if_pos rfl, Bool.true_and]
   by_cases h0 : (i : Int) > 0
   ·
    have w2 : wrap64 ((i : Int) - 1) = ((i - 1 : Nat) : Int) := by rw [w64 (by omega) (by omega)]; omega
    rw [if_pos h0, w2, if_pos (by omega), if_pos (by omega), rdSp, decide_eq_false (show ¬ i = 0 by omega), Bool.false_or]
    by_cases h1 : (spAt l (i - 1)).f1 > (spAt l i).f0
    · rw [if_pos h1, decide_eq_false (by omega), Bool.false_and, Bool.false_and]
    · rw [if_neg h1, decide_eq_true (by omega), Bool.true_and, w1, ih]
   · rw [if_neg h0, decide_eq_true (show i = 0 by omega), Bool.true_or, Bool.true_and, w1, ih]
theorem spansI_p {l : List Sp} {n : Int} {k : Nat} (hl : l.length ≤ 1099511627776) (hk : l.length < k) : impl_SpansOk.f k l n = some (spansV l n) := by
 have h := spansI_l l n hl l.length k 0 (by omega) (by omega) hk
 rw [show ((0 : Nat) : Int) = 0 from rfl] at h
 exact h
theorem spansS_l (l : List Sp) (n : Int) (hl : l.length ≤ 1099511627776) (hn : 0 ≤ n) (hn1 : n ≤ 1000000) : ∀ (d k i : Nat), l.length - i = d → i ≤ l.length → d < k → spec_SpansOk.l0 k l n (i : Int) = some (allFrom (okAt l n) i d && (decide (l.length ≤ 12) && decide (0 ≤ n ∧ n ≤ 80)))
 | 0, k, i, hd, hi, hk => by
  obtain ⟨k, rfl⟩ : ∃ m, k = m + 1 := ⟨k - 1, by omega⟩
  rw [spec_SpansOk.l0, if_neg (by omega), allFrom, Bool.true_and]
  by_cases h0 : (l.length : Int) ≤ 12
  · rw [if_pos h0, l1In_f, Option.bind_some, decide_eq_true (show l.length ≤ 12 by omega), Bool.true_and]
  · rw [if_neg h0, decide_eq_false (show ¬ l.length ≤ 12 by omega), Bool.false_and]
 | d + 1, k, i, hd, hi, hk => by
  obtain ⟨k, rfl⟩ : ∃ m, k = m + 1 := ⟨k - 1, by omega⟩
  have ih := spansS_l l n hl hn hn1 d k (i + 1) (by omega) (by omega) (by omega)
  rw [spec_SpansOk.l0, if_pos (by omega), if_pos (by omega), rdSp, spanOk_s _ hn hn1, Option.bind_some, allFrom, okAt]
  have w1 : wrap64 ((i : Int) + 1) = ((i + 1 : Nat) : Int) := by rw [w64 (by omega) (by omega)]; omega
  cases hs : spanOkV (spAt l i) n
  · rw [if_neg (by decide), Bool.false_and, Bool.false_and, Bool.false_and]
  ·
   rw [if_pos rfl, Bool.true_and]
   by_cases h0 : (i : Int) > 0
   ·
    have w2 : wrap64 ((i : Int) - 1) = ((i - 1 : Nat) : Int) := by rw [w64 (by omega) (by omega)]; omega
    rw [if_pos h0, w2, if_pos (by omega), if_pos (by omega), rdSp, decide_eq_false (show ¬ i = 0 by omega), Bool.false_or]
    by_cases h1 : (spAt l (i - 1)).f1 > (spAt l i).f0
    · rw [if_pos h1, decide_eq_false (by omega), Bool.false_and, Bool.false_and]
    · rw [if_neg h1, decide_eq_true (by omega), Bool.true_and, w1, ih]
   · rw [if_neg h0, decide_eq_true (show i = 0 by omega), Bool.true_or, Bool.true_and, w1, ih]
theorem spansS_p {l : List Sp} {n : Int} {k : Nat} (hl : l.length ≤ 1099511627776) (hn : 0 ≤ n) (hn1 : n ≤ 1000000) (hk : l.length < k) : spec_SpansOk.f k l n = some (spansV l n) := by
 have h := spansS_l l n hl hn hn1 l.length k 0 (by omega) (by omega) hk
 rw [show ((0 : Nat) : Int) = 0 from rfl] at h
 exact h
end Go.Proofs.YtmcdcogedcbndaaGreat.Pure
/- How wide letters are, and as what they count where lines may end, by both texts. -/
namespace Go.Proofs.YtmcdcogedcbndaaGreat.Pure
open Go.RowKit Go.Proofs.YtmcdcogedcbndaaGreat.S Go.Proofs.YtmcdcogedcbndaaGreatW.PrintWords Go.Proofs.YtmcdcogedcbndaaGreatW.PrintLast
theorem has_l (x : Int) (l : List Int) (hn : l.length ≤ 1000) : ∀ (d k i : Nat), l.length - i = d → i ≤ l.length → d < k → spec_l1Has.l0 k l x (i : Int) = some ((l.drop i).contains x)
 | 0, k, i, hd, hi, hk => by
  obtain ⟨k, rfl⟩ : ∃ m, k = m + 1 := ⟨k - 1, by omega⟩
  rw [spec_l1Has.l0, if_neg (by omega), List.drop_eq_nil_of_le (by omega)]
  rfl
 | d + 1, k, i, hd, hi, hk => by
  obtain ⟨k, rfl⟩ : ∃ m, k = m + 1 := ⟨k - 1, by omega⟩
  have ih := has_l x l hn d k (i + 1) (by omega) (by omega) (by omega)
  have hlt : i < l.length := by omega
  rw [spec_l1Has.l0, if_pos (by omega), if_pos (by omega), List.drop_eq_getElem_cons hlt, rd_get hlt, w64 (by omega) (by omega), show ((i : Int) + 1) = ((i + 1 : Nat) : Int) by omega, ih, List.contains_cons]
  by_cases h : l[i] = x
  · rw [if_pos h, beq_iff_eq.mpr h.symm, Bool.true_or]
  · rw [if_neg h, beq_eq_false_iff_ne.mpr (fun e => h e.symm), Bool.false_or]
theorem has_p {l : List Int} {x : Int} {k : Nat} (hn : l.length ≤ 1000) (hk : l.length < k) : spec_l1Has.f k l x = some (l.contains x) := by
 have h := has_l x l hn l.length k 0 (by omega) (by omega) hk
 rw [List.drop_zero] at h
 exact h
def wideC (c a : Int) : Int := if c = 9 ∨ c = 10 ∨ 14 ≤ c ∨ a = 10 ∨ a = 13 then 0 else if a = 105 ∨ a = 106 ∨ a = 108 ∨ a = 102 ∨ a = 116 then 6 else if a = 109 ∨ a = 119 then 16 else if 19968 ≤ a ∧ a ≤ 40959 then 20 else if c = 2 ∨ c = 3 then 12 else if c = 11 then 40 else if c = 12 ∨ c = 8 then 6 else 10
def wideV (a : Int) : Int := wideC (bidiV a) a
theorem wideV_le (a : Int) : 0 ≤ wideV a ∧ wideV a ≤ 40 := by unfold wideV wideC; grind
theorem wide_i {k : Nat} (hk : 10 ≤ k) (a : Int) : impl_RuneWide.f k a = some (wideV a) := by
 obtain ⟨k, rfl⟩ : ∃ m, k = m + 10 := ⟨k - 10, by omega⟩
 unfold impl_RuneWide.f wideV
 rw [impl_bidi_p, Option.bind_some]
 generalize bidiV a = c
 simp only [impl_RuneWide.j0, impl_RuneWide.j1, impl_RuneWide.j2, impl_RuneWide.j3, impl_RuneWide.j4, wideC]
 grind (splits := 40)
theorem wide_s {k : Nat} (hk : 30 ≤ k) (a : Int) : spec_RuneWide.f k a = some (wideV a) := by
 obtain ⟨k, rfl⟩ : ∃ m, k = m + 30 := ⟨k - 30, by omega⟩
 unfold spec_RuneWide.f wideV
 rw [spec_bidi_k (by omega), Option.bind_some]
 generalize bidiV a = c
 have hh : ∀ k' : Nat, 20 ≤ k' → spec_l1Has.f k' [105, 106, 108, 102, 116] a = some (decide (a = 105 ∨ a = 106 ∨ a = 108 ∨ a = 102 ∨ a = 116)) := fun k' hk' => by
  rw [has_p (by decide) (by show 5 < k'; omega)]
  congr 1
  rw [Bool.eq_iff_iff]
  simp
 simp only [spec_RuneWide.j0, spec_RuneWide.j1, spec_RuneWide.j2, l1In_f, Option.bind_some, wideC, hh (k + 29) (by omega)]
 grind (splits := 40)
def signC (a : Int) : Int := if a = 40 ∨ a = 91 ∨ a = 123 then 8 else if a = 41 ∨ a = 93 ∨ a = 125 then 9 else if a = 33 ∨ a = 63 then 10 else if a = 34 then 11 else if a = 45 then 12 else if a = 44 ∨ a = 46 ∨ a = 58 ∨ a = 59 ∨ a = 47 then 13 else if a = 9 ∨ a = 173 then 14 else 1
theorem signs_s {k : Nat} (hk : 10 ≤ k) (a : Int) : spec_l5Signs.f k a = some (signC a) := by
 obtain ⟨k, rfl⟩ : ∃ m, k = m + 10 := ⟨k - 10, by omega⟩
 simp only [spec_l5Signs.f, spec_l5Signs.j0, spec_l5Signs.j1, spec_l5Signs.j2, spec_l5Signs.j3, signC]
 grind (splits := 60)
def tailC (a : Int) : Int := if a = 10 then 4 else if a = 32 then 3 else if a = 160 then 5 else if a = 8203 then 6 else if a = 8205 then 7 else if (48 ≤ a ∧ a ≤ 57) ∨ (1632 ≤ a ∧ a ≤ 1641) then 2 else if 19968 ≤ a ∧ a ≤ 40959 then 15 else signC a
def lineV (a : Int) : Int := if bidiV a = 9 ∨ 14 ≤ bidiV a then 7 else tailC a
theorem line_s {k : Nat} (hk : 40 ≤ k) (a : Int) : spec_RuneLine.f k a = some (lineV a) := by
 obtain ⟨k, rfl⟩ : ∃ m, k = m + 40 := ⟨k - 40, by omega⟩
 unfold spec_RuneLine.f lineV tailC
 rw [spec_bidi_k (by omega)]
 by_cases h0 : a = 10
 · subst h0; rfl
 by_cases h1 : a = 32
 · subst h1; rfl
 by_cases h2 : a = 160
 · subst h2; rfl
 by_cases h3 : a = 8203
 · subst h3; rfl
 rw [if_neg h0, if_neg h1, if_neg h2, if_neg h3, if_neg h0, if_neg h1, if_neg h2, if_neg h3, Option.bind_some, Option.bind_some]
 generalize bidiV a = c
 simp only [spec_RuneLine.j0, spec_RuneLine.j1, l1In_f, Option.bind_some, signs_s (k := k + 38) (by omega)]
 grind (splits := 40)
theorem tail_chain (a : Int) : (if 9 ≤ a ∧ a ≤ 9 then (14 : Int) else if 10 ≤ a ∧ a ≤ 10 then (4 : Int) else if 32 ≤ a ∧ a ≤ 32 then (3 : Int) else if 33 ≤ a ∧ a ≤ 33 then (10 : Int) else if 34 ≤ a ∧ a ≤ 34 then (11 : Int) else if 40 ≤ a ∧ a ≤ 40 then (8 : Int) else if 41 ≤ a ∧ a ≤ 41 then (9 : Int) else if 44 ≤ a ∧ a ≤ 44 then (13 : Int) else if 45 ≤ a ∧ a ≤ 45 then (12 : Int) else if 46 ≤ a ∧ a ≤ 47 then (13 : Int) else if 48 ≤ a ∧ a ≤ 57 then (2 : Int) else if 58 ≤ a ∧ a ≤ 59 then (13 : Int) else if 63 ≤ a ∧ a ≤ 63 then (10 : Int) else if 91 ≤ a ∧ a ≤ 91 then (8 : Int) else if 93 ≤ a ∧ a ≤ 93 then (9 : Int) else if 123 ≤ a ∧ a ≤ 123 then (8 : Int) else if 125 ≤ a ∧ a ≤ 125 then (9 : Int) else if 160 ≤ a ∧ a ≤ 160 then (5 : Int) else if 173 ≤ a ∧ a ≤ 173 then (14 : Int) else if 1632 ≤ a ∧ a ≤ 1641 then (2 : Int) else if 8203 ≤ a ∧ a ≤ 8203 then (6 : Int) else if 8205 ≤ a ∧ a ≤ 8205 then (7 : Int) else if 19968 ≤ a ∧ a ≤ 40959 then (15 : Int) else 1) = tailC a := by
 unfold tailC signC
 by_cases h9 : a < 9
 · (repeat (first | rw [if_pos (by omega)] | rw [if_neg (by omega)])) <;> try rfl
 by_cases h10 : a < 10
 · (repeat (first | rw [if_pos (by omega)] | rw [if_neg (by omega)])) <;> try rfl
 clear h9
 by_cases h11 : a < 11
 · (repeat (first | rw [if_pos (by omega)] | rw [if_neg (by omega)])) <;> try rfl
 clear h10
 by_cases h32 : a < 32
 · (repeat (first | rw [if_pos (by omega)] | rw [if_neg (by omega)])) <;> try rfl
 clear h11
 by_cases h33 : a < 33
 · (repeat (first | rw [if_pos (by omega)] | rw [if_neg (by omega)])) <;> try rfl
 clear h32
 by_cases h34 : a < 34
 · (repeat (first | rw [if_pos (by omega)] | rw [if_neg (by omega)])) <;> try rfl
 clear h33
 by_cases h35 : a < 35
 · (repeat (first | rw [if_pos (by omega)] | rw [if_neg (by omega)])) <;> try rfl
 clear h34
 by_cases h40 : a < 40
 · (repeat (first | rw [if_pos (by omega)] | rw [if_neg (by omega)])) <;> try rfl
 clear h35
 by_cases h41 : a < 41
 · (repeat (first | rw [if_pos (by omega)] | rw [if_neg (by omega)])) <;> try rfl
 clear h40
 by_cases h42 : a < 42
 · (repeat (first | rw [if_pos (by omega)] | rw [if_neg (by omega)])) <;> try rfl
 clear h41
 by_cases h44 : a < 44
 · (repeat (first | rw [if_pos (by omega)] | rw [if_neg (by omega)])) <;> try rfl
 clear h42
 by_cases h45 : a < 45
 · (repeat (first | rw [if_pos (by omega)] | rw [if_neg (by omega)])) <;> try rfl
 clear h44
 by_cases h46 : a < 46
 · (repeat (first | rw [if_pos (by omega)] | rw [if_neg (by omega)])) <;> try rfl
 clear h45
 by_cases h48 : a < 48
 · (repeat (first | rw [if_pos (by omega)] | rw [if_neg (by omega)])) <;> try rfl
 clear h46
 by_cases h58 : a < 58
 · (repeat (first | rw [if_pos (by omega)] | rw [if_neg (by omega)])) <;> try rfl
 clear h48
 by_cases h60 : a < 60
 · (repeat (first | rw [if_pos (by omega)] | rw [if_neg (by omega)])) <;> try rfl
 clear h58
 by_cases h63 : a < 63
 · (repeat (first | rw [if_pos (by omega)] | rw [if_neg (by omega)])) <;> try rfl
 clear h60
 by_cases h64 : a < 64
 · (repeat (first | rw [if_pos (by omega)] | rw [if_neg (by omega)])) <;> try rfl
 clear h63
 by_cases h91 : a < 91
 · (repeat (first | rw [if_pos (by omega)] | rw [if_neg (by omega)])) <;> try rfl
 clear h64
 by_cases h92 : a < 92
 · (repeat (first | rw [if_pos (by omega)] | rw [if_neg (by omega)])) <;> try rfl
 clear h91
 by_cases h93 : a < 93
 · (repeat (first | rw [if_pos (by omega)] | rw [if_neg (by omega)])) <;> try rfl
 clear h92
 by_cases h94 : a < 94
 · (repeat (first | rw [if_pos (by omega)] | rw [if_neg (by omega)])) <;> try rfl
 clear h93
 by_cases h123 : a < 123
 · (repeat (first | rw [if_pos (by omega)] | rw [if_neg (by omega)])) <;> try rfl
 clear h94
 by_cases h124 : a < 124
 · (repeat (first | rw [if_pos (by omega)] | rw [if_neg (by omega)])) <;> try rfl
 clear h123
 by_cases h125 : a < 125
 · (repeat (first | rw [if_pos (by omega)] | rw [if_neg (by omega)])) <;> try rfl
 clear h124
 by_cases h126 : a < 126
 · (repeat (first | rw [if_pos (by omega)] | rw [if_neg (by omega)])) <;> try rfl
 clear h125
 by_cases h160 : a < 160
 · (repeat (first | rw [if_pos (by omega)] | rw [if_neg (by omega)])) <;> try rfl
 clear h126
 by_cases h161 : a < 161
 · (repeat (first | rw [if_pos (by omega)] | rw [if_neg (by omega)])) <;> try rfl
 clear h160
 by_cases h173 : a < 173
 · (repeat (first | rw [if_pos (by omega)] | rw [if_neg (by omega)])) <;> try rfl
 clear h161
 by_cases h174 : a < 174
 · (repeat (first | rw [if_pos (by omega)] | rw [if_neg (by omega)])) <;> try rfl
 clear h173
 by_cases h1632 : a < 1632
 · (repeat (first | rw [if_pos (by omega)] | rw [if_neg (by omega)])) <;> try rfl
 clear h174
 by_cases h1642 : a < 1642
 · (repeat (first | rw [if_pos (by omega)] | rw [if_neg (by omega)])) <;> try rfl
 clear h1632
 by_cases h8203 : a < 8203
 · (repeat (first | rw [if_pos (by omega)] | rw [if_neg (by omega)])) <;> try rfl
 clear h1642
 by_cases h8204 : a < 8204
 · (repeat (first | rw [if_pos (by omega)] | rw [if_neg (by omega)])) <;> try rfl
 clear h8203
 by_cases h8205 : a < 8205
 · (repeat (first | rw [if_pos (by omega)] | rw [if_neg (by omega)])) <;> try rfl
 clear h8204
 by_cases h8206 : a < 8206
 · (repeat (first | rw [if_pos (by omega)] | rw [if_neg (by omega)])) <;> try rfl
 clear h8205
 by_cases h19968 : a < 19968
 · (repeat (first | rw [if_pos (by omega)] | rw [if_neg (by omega)])) <;> try rfl
 clear h8206
 by_cases h40960 : a < 40960
 · (repeat (first | rw [if_pos (by omega)] | rw [if_neg (by omega)])) <;> try rfl
 clear h19968
 (repeat (first | rw [if_pos (by omega)] | rw [if_neg (by omega)])) <;> try rfl
theorem reach_i (a : Int) : (impl_lineReaches.f).bind (fun t => impl_find.f t a 1) = some (tailC a) := by
 unfold impl_lineReaches.f impl_find.f
 rw [Option.bind_some, if_pos (by decide), findV_eq (by decide), ← tail_chain]
 simp only [find_if, List.find?_nil, inR_iff]
 congr 1
 by_cases h : 9 ≤ a ∧ a ≤ 9
 · simp only [if_pos h]
 simp only [if_neg h]; clear h
 by_cases h : 10 ≤ a ∧ a ≤ 10
 · simp only [if_pos h]
 simp only [if_neg h]; clear h
 by_cases h : 32 ≤ a ∧ a ≤ 32
 · simp only [if_pos h]
 simp only [if_neg h]; clear h
 by_cases h : 33 ≤ a ∧ a ≤ 33
 · simp only [if_pos h]
 simp only [if_neg h]; clear h
 by_cases h : 34 ≤ a ∧ a ≤ 34
 · simp only [if_pos h]
 simp only [if_neg h]; clear h
 by_cases h : 40 ≤ a ∧ a ≤ 40
 · simp only [if_pos h]
 simp only [if_neg h]; clear h
 by_cases h : 41 ≤ a ∧ a ≤ 41
 · simp only [if_pos h]
 simp only [if_neg h]; clear h
 by_cases h : 44 ≤ a ∧ a ≤ 44
 · simp only [if_pos h]
 simp only [if_neg h]; clear h
 by_cases h : 45 ≤ a ∧ a ≤ 45
 · simp only [if_pos h]
 simp only [if_neg h]; clear h
 by_cases h : 46 ≤ a ∧ a ≤ 47
 · simp only [if_pos h]
 simp only [if_neg h]; clear h
 by_cases h : 48 ≤ a ∧ a ≤ 57
 · simp only [if_pos h]
 simp only [if_neg h]; clear h
 by_cases h : 58 ≤ a ∧ a ≤ 59
 · simp only [if_pos h]
 simp only [if_neg h]; clear h
 by_cases h : 63 ≤ a ∧ a ≤ 63
 · simp only [if_pos h]
 simp only [if_neg h]; clear h
 by_cases h : 91 ≤ a ∧ a ≤ 91
 · simp only [if_pos h]
 simp only [if_neg h]; clear h
 by_cases h : 93 ≤ a ∧ a ≤ 93
 · simp only [if_pos h]
 simp only [if_neg h]; clear h
 by_cases h : 123 ≤ a ∧ a ≤ 123
 · simp only [if_pos h]
 simp only [if_neg h]; clear h
 by_cases h : 125 ≤ a ∧ a ≤ 125
 · simp only [if_pos h]
 simp only [if_neg h]; clear h
 by_cases h : 160 ≤ a ∧ a ≤ 160
 · simp only [if_pos h]
 simp only [if_neg h]; clear h
 by_cases h : 173 ≤ a ∧ a ≤ 173
 · simp only [if_pos h]
 simp only [if_neg h]; clear h
 by_cases h : 1632 ≤ a ∧ a ≤ 1641
 · simp only [if_pos h]
 simp only [if_neg h]; clear h
 by_cases h : 8203 ≤ a ∧ a ≤ 8203
 · simp only [if_pos h]
 simp only [if_neg h]; clear h
 by_cases h : 8205 ≤ a ∧ a ≤ 8205
 · simp only [if_pos h]
 simp only [if_neg h]; clear h
 by_cases h : 19968 ≤ a ∧ a ≤ 40959
 · simp only [if_pos h]
 simp only [if_neg h]
theorem line_i {k : Nat} (hk : 10 ≤ k) (a : Int) : impl_RuneLine.f k a = some (lineV a) := by
 obtain ⟨k, rfl⟩ : ∃ m, k = m + 10 := ⟨k - 10, by omega⟩
 unfold impl_RuneLine.f lineV
 rw [impl_bidi_p, Option.bind_some]
 have hr := reach_i a
 by_cases h0 : bidiV a = 9
 · rw [if_pos h0, if_pos (.inl h0), impl_RuneLine.j0, if_pos rfl]
 ·
  rw [if_neg h0, impl_RuneLine.j0]
  by_cases h1 : bidiV a ≥ 14
  · rw [decide_eq_true h1, if_pos rfl, if_pos (.inr h1)]
  ·
   rw [decide_eq_false h1, if_neg (by decide), if_neg (by omega), ← hr]
   congr 1
   funext t
   cases impl_find.f t a 1 <;> rfl
end Go.Proofs.YtmcdcogedcbndaaGreat.Pure
/- Which letters join the one ahead, by both texts. -/
namespace Go.Proofs.YtmcdcogedcbndaaGreat.Pure
open Go.RowKit Go.Proofs.YtmcdcogedcbndaaGreat.S Go.Proofs.YtmcdcogedcbndaaGreatW.PrintWords Go.Proofs.YtmcdcogedcbndaaGreatW.PrintLast
def flagB (a : Int) : Bool := decide (127462 ≤ a ∧ a ≤ 127487)
def flN (rs : List Int) : Nat → Nat
 | 0 => 0
 | i + 1 => if flagB (rs.getD i 0) = true then flN rs i + 1 else 0
def jV (rs : List Int) (i : Nat) : Bool :=
 if rs.getD i 0 = 10 ∨ rs.getD (i - 1) 0 = 10 then decide (rs.getD (i - 1) 0 = 13 ∧ rs.getD i 0 = 10)
 else if bidiV (rs.getD i 0) = 9 ∨ rs.getD i 0 = 8205 then true else flagB (rs.getD i 0) && decide (flN rs i % 2 = 1)
theorem dec13 {p r : Int} (h : p = 13) : (r == 10) = decide (p = 13 ∧ r = 10) := by
 subst h
 by_cases e : r = 10
 · subst e; rfl
 · rw [beq_eq_false_iff_ne.mpr e, decide_eq_false (fun h => e h.2)]
theorem flag_s (a : Int) : spec_l2Flag.f a = some (flagB a) := by
 unfold spec_l2Flag.f flagB
 rw [l1In_f, Option.bind_some]
theorem flag_i (a : Int) : impl_isRegional.f a = some (flagB a) := by
 unfold impl_isRegional.f flagB
 by_cases h : a ≥ 127462
 ·
  rw [if_pos h]
  congr 1
  rw [decide_eq_decide]
  omega
 · rw [if_neg h, decide_eq_false (by omega)]
theorem joinS_l (rs : List Int) (r : Int) (hn : rs.length ≤ 1000) : ∀ (m k n : Nat), m ≤ rs.length → m < k → n + m ≤ 1000 → spec_l2Joins.l0 k rs r (n : Int) ((m : Int) - 1) = some (flagB r && decide ((n + flN rs m) % 2 = 1))
 | 0, k, n, hm, hk, hn1 => by
  obtain ⟨k, rfl⟩ : ∃ m, k = m + 1 := ⟨k - 1, by omega⟩
  rw [spec_l2Joins.l0, if_neg (by omega), flag_s, Option.bind_some, flN, Nat.add_zero]
  cases flagB r
  · rfl
  ·
   rw [if_pos rfl, Bool.true_and]
   congr 1
   rw [show Int.tmod (n : Int) 2 = ((n % 2 : Nat) : Int) by rw [Int.tmod_eq_emod_of_nonneg (by omega)]; rfl]
   rw [Bool.eq_iff_iff]
   simp
   omega
 | m + 1, k, n, hm, hk, hn1 => by
  obtain ⟨k, rfl⟩ : ∃ m, k = m + 1 := ⟨k - 1, by omega⟩
  rw [spec_l2Joins.l0, show ((m + 1 : Nat) : Int) - 1 = (m : Int) by omega, if_pos (by omega), if_pos (by omega), if_pos (by omega), flag_s, Option.bind_some, rd_nat, flN]
  by_cases h : flagB (rs.getD m 0) = true
  ·
   rw [if_pos h, if_pos h, w64 (by omega) (by omega), w64 (by omega) (by omega)]
   have := joinS_l rs r hn m k (n + 1) (by omega) (by omega) (by omega)
   rw [show ((n + 1 : Nat) : Int) = (n : Int) + 1 by omega] at this
   rw [this, show n + 1 + flN rs m = n + (flN rs m + 1) by omega]
  ·
   rw [if_neg h, if_neg h, Nat.add_zero, flag_s, Option.bind_some]
   cases flagB r
   · rfl
   ·
    rw [if_pos rfl, Bool.true_and]
    congr 1
    rw [show Int.tmod (n : Int) 2 = ((n % 2 : Nat) : Int) by rw [Int.tmod_eq_emod_of_nonneg (by omega)]; rfl]
    rw [Bool.eq_iff_iff]
    simp
    omega
theorem join_s {rs : List Int} {i k : Nat} (hn : rs.length ≤ 1000) (h0 : 0 < i) (hi : i < rs.length) (hk : rs.length + 40 ≤ k) : spec_l2Joins.f k rs (i : Int) = some (jV rs i) := by
 obtain ⟨k, rfl⟩ : ∃ m, k = m + 2 := ⟨k - 2, by omega⟩
 have w1 : wrap64 ((i : Int) - 1) = ((i - 1 : Nat) : Int) := by rw [w64 (by omega) (by omega)]; omega
 unfold spec_l2Joins.f jV
 rw [if_pos (by omega), if_pos (by omega), rd_nat, w1, rd_nat]
 have J0 : ∀ b : Bool, spec_l2Joins.j0 (k + 2) rs (i : Int) (rs.getD i 0) b = if b = true then some (decide (rs.getD (i - 1) 0 = 13 ∧ rs.getD i 0 = 10)) else some (if bidiV (rs.getD i 0) = 9 ∨ rs.getD i 0 = 8205 then true else flagB (rs.getD i 0) && decide (flN rs i % 2 = 1)) := by
  intro b
  have L := joinS_l rs (rs.getD i 0) hn i k 0 (by omega) (by omega) (by omega)
  rw [Nat.zero_add] at L
  cases b
  ·
   rw [spec_l2Joins.j0, if_neg (by decide), if_neg (by decide), spec_bidi_k (by omega), Option.bind_some]
   by_cases h9 : bidiV (rs.getD i 0) = 9
   · rw [if_pos h9, if_pos (.inl h9), spec_l2Joins.j1, if_pos rfl]
   ·
    rw [if_neg h9, spec_l2Joins.j1]
    by_cases h8 : rs.getD i 0 = 8205
    · rw [beq_iff_eq.mpr h8, if_pos rfl, if_pos (.inr h8)]
    ·
     rw [beq_eq_false_iff_ne.mpr h8, if_neg (by decide), if_neg (by rintro (h | h); exact h9 h; exact h8 h), w64 (x := (i : Int) - 1) (by omega) (by omega)]
     exact L
  ·
   rw [spec_l2Joins.j0, if_pos rfl, if_pos rfl, w1, if_pos (by omega), if_pos (by omega), rd_nat]
   by_cases h13 : rs.getD (i - 1) 0 = 13
   · rw [if_pos h13, dec13 h13]
   · rw [if_neg h13, decide_eq_false (fun h => h13 h.1)]
 by_cases h10 : rs.getD i 0 = 10
 · rw [if_pos h10, J0, if_pos rfl, if_pos (.inl h10)]
 ·
  rw [if_neg h10, if_pos (by omega), if_pos (by omega), J0]
  by_cases hp : rs.getD (i - 1) 0 = 10
  · rw [beq_iff_eq.mpr hp, if_pos rfl, if_pos (.inr hp)]
  · rw [beq_eq_false_iff_ne.mpr hp, if_neg (show ¬ (rs.getD i 0 = 10 ∨ rs.getD (i - 1) 0 = 10) by rintro (h | h); exact h10 h; exact hp h), if_neg (show ¬ (false = true) by decide)]
def stV (rs : List Int) (i : Nat) : Int := if i = 0 then 0 else if rs.getD (i - 1) 0 = 13 then 1 else if rs.getD (i - 1) 0 = 10 then 2 else if flagB (rs.getD (i - 1) 0) = true then (if flN rs i % 2 = 1 then 3 else 4) else 5
theorem st_next {rs : List Int} {i k : Nat} (hk : 2 ≤ k) : impl_joining_next.f k (stV rs i) (rs.getD i 0) = some (stV rs (i + 1)) := by
 obtain ⟨k, rfl⟩ : ∃ m, k = m + 2 := ⟨k - 2, by omega⟩
 unfold impl_joining_next.f
 have e : stV rs (i + 1) = if rs.getD i 0 = 13 then 1 else if rs.getD i 0 = 10 then 2 else if flagB (rs.getD i 0) = true then (if flN rs (i + 1) % 2 = 1 then 3 else 4) else 5 := by
  unfold stV
  rw [if_neg (by omega), Nat.add_sub_cancel]
 rw [e]
 by_cases h13 : rs.getD i 0 = 13
 · rw [if_pos h13, if_pos h13]
 rw [if_neg h13, if_neg h13]
 by_cases h10 : rs.getD i 0 = 10
 · rw [if_pos h10, if_pos h10]
 rw [if_neg h10, if_neg h10, flag_i, Option.bind_some, flN]
 by_cases hf : flagB (rs.getD i 0) = true
 ·
  rw [if_pos hf, if_pos hf, if_pos hf, impl_joining_next.j0]
  by_cases h3 : stV rs i = 3
  ·
   rw [beq_iff_eq.mpr h3, if_pos rfl]
   have : flN rs i % 2 = 1 := by
    unfold stV at h3
    grind
   rw [if_neg (by omega)]
  ·
   rw [beq_eq_false_iff_ne.mpr h3, if_neg (by decide), flag_i, Option.bind_some, if_pos hf]
   have : flN rs i % 2 = 0 := by
    unfold stV at h3
    by_cases h0 : i = 0
    · subst h0; rfl
    ·
     obtain ⟨j, rfl⟩ : ∃ j, i = j + 1 := ⟨i - 1, by omega⟩
     rw [if_neg h0, Nat.add_sub_cancel] at h3
     by_cases hg : flagB (rs.getD j 0) = true
     ·
      have n13 : rs.getD j 0 ≠ 13 := by intro h; rw [h] at hg; exact absurd hg (by decide)
      have n10 : rs.getD j 0 ≠ 10 := by intro h; rw [h] at hg; exact absurd hg (by decide)
      rw [if_neg n13, if_neg n10, if_pos hg] at h3
      by_cases ho : flN rs (j + 1) % 2 = 1
      · rw [if_pos ho] at h3; exact absurd rfl h3
      · omega
     · rw [flN, if_neg hg]
   rw [if_pos (by omega)]
 · rw [if_neg hf, if_neg hf, impl_joining_next.j0, if_neg (by decide), flag_i, Option.bind_some, if_neg hf]
theorem st_joins {rs : List Int} {i k : Nat} (hk : 2 ≤ k) : impl_joining_joins.f k (stV rs i) (rs.getD i 0) = some (if i = 0 then false else jV rs i) := by
 obtain ⟨k, rfl⟩ : ∃ m, k = m + 2 := ⟨k - 2, by omega⟩
 unfold impl_joining_joins.f
 by_cases h0 : i = 0
 ·
  subst h0
  rfl
 rw [if_neg h0]
 have hs0 : stV rs i ≠ 0 := by unfold stV; grind
 have hs2 : stV rs i = 2 ↔ rs.getD (i - 1) 0 = 10 := by unfold stV; grind
 have hs1 : stV rs i = 1 ↔ rs.getD (i - 1) 0 = 13 := by unfold stV; grind
 have hs3 : stV rs i = 3 ↔ flN rs i % 2 = 1 := by
  obtain ⟨j, rfl⟩ : ∃ j, i = j + 1 := ⟨i - 1, by omega⟩
  unfold stV
  rw [if_neg h0, Nat.add_sub_cancel]
  by_cases hg : flagB (rs.getD j 0) = true
  ·
   have n13 : rs.getD j 0 ≠ 13 := by intro h; rw [h] at hg; exact absurd hg (by decide)
   have n10 : rs.getD j 0 ≠ 10 := by intro h; rw [h] at hg; exact absurd hg (by decide)
   rw [if_neg n13, if_neg n10, if_pos hg]
   grind
  ·
   rw [if_neg hg, flN, if_neg hg]
   grind
 generalize stV rs i = s at hs0 hs1 hs2 hs3
 unfold jV
 rw [if_neg hs0]
 have J : ∀ b : Bool, impl_joining_joins.j0 (k + 2) s (rs.getD i 0) b = if b = true then some (decide (rs.getD (i - 1) 0 = 13 ∧ rs.getD i 0 = 10)) else some (if bidiV (rs.getD i 0) = 9 ∨ rs.getD i 0 = 8205 then true else flagB (rs.getD i 0) && decide (flN rs i % 2 = 1)) := by
  intro b
  cases b
  ·
   rw [impl_joining_joins.j0]
   simp only [Bool.false_eq_true, if_false]
   rw [impl_bidi_p, Option.bind_some]
   by_cases h9 : bidiV (rs.getD i 0) = 9
   · rw [if_pos h9, if_pos (.inl h9)]
   ·
    rw [if_neg h9]
    by_cases h8 : rs.getD i 0 = 8205
    · rw [if_pos h8, if_pos (.inr h8)]
    ·
     rw [if_neg h8, if_neg (by rintro (h | h); exact h9 h; exact h8 h), flag_i, Option.bind_some]
     cases flagB (rs.getD i 0)
     · rfl
     ·
      rw [if_pos rfl, Bool.true_and]
      congr 1
      rw [Bool.eq_iff_iff, beq_iff_eq, decide_eq_true_eq]
      exact hs3
  ·
   rw [impl_joining_joins.j0, if_pos rfl, if_pos rfl]
   by_cases h1 : s = 1
   · rw [if_pos h1, dec13 (hs1.mp h1)]
   · rw [if_neg h1, decide_eq_false (fun h => h1 (hs1.mpr h.1))]
 by_cases h2 : s = 2
 · rw [if_pos h2, J, if_pos rfl, if_pos (.inr (hs2.mp h2))]
 ·
  rw [if_neg h2, J]
  by_cases h10 : rs.getD i 0 = 10
  · rw [beq_iff_eq.mpr h10, if_pos rfl, if_pos (.inl h10)]
  · rw [beq_eq_false_iff_ne.mpr h10, if_neg (show ¬ (rs.getD i 0 = 10 ∨ rs.getD (i - 1) 0 = 10) by rintro (h | h); exact h10 h; exact h2 (hs2.mpr h)), if_neg (show ¬ (false = true) by decide)]
def jAt (rs : List Int) (i : Nat) : Bool := if i = 0 then false else jV rs i
def jsV (rs : List Int) : List Bool := (List.range rs.length).map (jAt rs)
theorem jsV_len (rs : List Int) : (jsV rs).length = rs.length := by simp [jsV]
theorem jsV_get {rs : List Int} {i : Nat} (h : i < rs.length) : (jsV rs).getD i false = jAt rs i := by simp [jsV, List.getD_eq_getElem?_getD, h]
theorem joined_l (rs : List Int) (hn : rs.length ≤ 1000) : ∀ (d k i : Nat), rs.length - i = d → i ≤ rs.length → d + 10 < k → impl_joined.l0 k ((List.range i).map (jAt rs)) (stV rs i) rs (rs.length : Int) (i : Int) = some (jsV rs)
 | 0, k, i, hd, hi, hk => by
  obtain ⟨k, rfl⟩ : ∃ m, k = m + 1 := ⟨k - 1, by omega⟩
  obtain rfl : i = rs.length := by omega
  rw [impl_joined.l0, if_neg (by omega)]
  rfl
 | d + 1, k, i, hd, hi, hk => by
  obtain ⟨k, rfl⟩ : ∃ m, k = m + 1 := ⟨k - 1, by omega⟩
  rw [impl_joined.l0, if_pos (by omega), if_pos (by omega), if_pos (by omega), rd_nat, st_joins (by omega), Option.bind_some, if_pos (by simp; omega), st_next (by omega), Option.bind_some, w64 (by omega) (by omega)]
  have := joined_l rs hn d k (i + 1) (by omega) (by omega) (by omega)
  rw [List.range_succ, List.map_append, List.map_cons, List.map_nil] at this
  exact this
theorem joined_p {rs : List Int} {k : Nat} (hn : rs.length ≤ 1000) (hk : rs.length + 10 < k) : impl_joined.f k rs = some (jsV rs) := by
 have h := joined_l rs hn rs.length k 0 (by omega) (by omega) hk
 exact h
end Go.Proofs.YtmcdcogedcbndaaGreat.Pure
/- Where lines may end, by both texts. -/
namespace Go.Proofs.YtmcdcogedcbndaaGreat.Pure
open Go.RowKit Go.Proofs.YtmcdcogedcbndaaGreat.S Go.Proofs.YtmcdcogedcbndaaGreatW.PrintWords Go.Proofs.YtmcdcogedcbndaaGreatW.PrintLast
def spc (c : Int) : Prop := c = 3 ∨ c = 4 ∨ c = 6
instance (c : Int) : Decidable (spc c) := by unfold spc; infer_instance
theorem inL_346 (c : Int) : inL [3, 4, 6] c = decide (spc c) := by
 unfold inL
 rw [Bool.eq_iff_iff, decide_eq_true_eq]
 unfold spc
 simp
theorem after_i {k : Nat} (hk : 4 ≤ k) (c : Int) : impl_afterSpace.f k c = some (decide (spc c)) := by
 unfold impl_afterSpace.f
 rw [one_f k c [3, 4, 6] (by decide) (by show 3 < k; omega), Option.bind_some, ← inL_346]
 rfl
def cntV (rs : List Int) : Nat → Int
 | 0 => if lineV (rs.getD 0 0) = 7 then 1 else lineV (rs.getD 0 0)
 | i + 1 => if lineV (rs.getD (i + 1) 0) = 7 then (if spc (cntV rs i) then 1 else cntV rs i) else lineV (rs.getD (i + 1) 0)
def csV (rs : List Int) : List Int := (List.range rs.length).map (cntV rs)
theorem csV_len (rs : List Int) : (csV rs).length = rs.length := by simp [csV]
theorem csV_get {rs : List Int} {i : Nat} (h : i < rs.length) : (csV rs).getD i 0 = cntV rs i := by simp [csV, List.getD_eq_getElem?_getD, h]
theorem pre_get (f : Nat → Int) {i n : Nat} (h : i < n) : ((List.range n).map f).getD i 0 = f i := by simp [List.getD_eq_getElem?_getD, h]
theorem countsI_l (rs : List Int) (hn : rs.length ≤ 1000) : ∀ (d k i : Nat), rs.length - i = d → i ≤ rs.length → d + 50 < k → impl_countsOf.l0 k ((List.range i).map (cntV rs)) rs (rs.length : Int) (i : Int) = some (csV rs)
 | 0, k, i, hd, hi, hk => by
  obtain ⟨k, rfl⟩ : ∃ m, k = m + 1 := ⟨k - 1, by omega⟩
  obtain rfl : i = rs.length := by omega
  rw [impl_countsOf.l0, if_neg (by omega)]
  rfl
 | d + 1, k, i, hd, hi, hk => by
  obtain ⟨k, rfl⟩ : ∃ m, k = m + 1 := ⟨k - 1, by omega⟩
  have ih := countsI_l rs hn d k (i + 1) (by omega) (by omega) (by omega)
  rw [List.range_succ, List.map_append, List.map_cons, List.map_nil] at ih
  have hl : ((List.range i).map (cntV rs)).length < 17592186044416 := by simp; omega
  have w2 : wrap64 ((i : Int) + 1) = ((i + 1 : Nat) : Int) := by rw [w64 (by omega) (by omega)]; omega
  rw [impl_countsOf.l0, if_pos (by omega), if_pos (by omega), if_pos (by omega), rd_nat, line_i (by omega), Option.bind_some, w2]
  by_cases h7 : lineV (rs.getD i 0) = 7
  ·
   rw [if_pos h7]
   by_cases h0 : i = 0
   ·
    subst h0
    rw [if_neg (by omega), if_pos hl]
    rw [cntV, if_pos h7] at ih
    exact ih
   ·
    obtain ⟨j, rfl⟩ : ∃ j, i = j + 1 := ⟨i - 1, by omega⟩
    have w1 : wrap64 (((j + 1 : Nat) : Int) - 1) = (j : Int) := by rw [w64 (by omega) (by omega)]; omega
    rw [if_pos (by omega), w1, if_pos (by omega), if_pos (by simp; omega), rd_nat, pre_get _ (by omega), after_i (by omega), Option.bind_some]
    rw [cntV, if_pos h7] at ih
    by_cases hs : spc (cntV rs j)
    ·
     rw [decide_eq_true hs, if_pos rfl, if_pos hl]
     rw [if_pos hs] at ih
     exact ih
    ·
     rw [decide_eq_false hs, if_neg (by decide), if_pos hl]
     rw [if_neg hs] at ih
     exact ih
  ·
   rw [if_neg h7, if_pos hl]
   have e : cntV rs i = lineV (rs.getD i 0) := by
    cases i with
    | zero => rw [cntV, if_neg h7]
    | succ j => rw [cntV, if_neg h7]
   rw [e] at ih
   exact ih
theorem countsI_p {rs : List Int} {k : Nat} (hn : rs.length ≤ 1000) (hk : rs.length + 50 < k) : impl_countsOf.f k rs = some (csV rs) := countsI_l rs hn rs.length k 0 (by omega) (by omega) hk
theorem countsS_l (rs : List Int) (hn : rs.length ≤ 1000) : ∀ (d k i : Nat), rs.length - i = d → i ≤ rs.length → d + 50 < k → spec_l5Counts.l0 k rs ((List.range i).map (cntV rs)) (i : Int) = some (csV rs)
 | 0, k, i, hd, hi, hk => by
  obtain ⟨k, rfl⟩ : ∃ m, k = m + 1 := ⟨k - 1, by omega⟩
  obtain rfl : i = rs.length := by omega
  rw [spec_l5Counts.l0, if_neg (by omega)]
  rfl
 | d + 1, k, i, hd, hi, hk => by
  obtain ⟨k, rfl⟩ : ∃ m, k = m + 1 := ⟨k - 1, by omega⟩
  have ih := countsS_l rs hn d k (i + 1) (by omega) (by omega) (by omega)
  rw [List.range_succ, List.map_append, List.map_cons, List.map_nil] at ih
  have hl : ((List.range i).map (cntV rs)).length < 17592186044416 := by simp; omega
  have w2 : wrap64 ((i : Int) + 1) = ((i + 1 : Nat) : Int) := by rw [w64 (by omega) (by omega)]; omega
  rw [spec_l5Counts.l0, if_pos (by omega), if_pos (by omega), rd_nat, line_s (by omega), Option.bind_some, w2]
  by_cases h7 : lineV (rs.getD i 0) = 7
  ·
   rw [if_pos h7]
   by_cases h0 : i = 0
   ·
    subst h0
    rw [if_neg (by omega), if_pos hl]
    rw [cntV, if_pos h7] at ih
    exact ih
   ·
    obtain ⟨j, rfl⟩ : ∃ j, i = j + 1 := ⟨i - 1, by omega⟩
    have w1 : wrap64 (((j + 1 : Nat) : Int) - 1) = (j : Int) := by rw [w64 (by omega) (by omega)]; omega
    rw [if_pos (by omega), w1, if_pos (by omega), if_pos (by simp; omega), rd_nat, pre_get _ (by omega)]
    rw [cntV, if_pos h7] at ih
    by_cases h3 : cntV rs j = 3
    · rw [if_pos h3, if_pos hl]; rw [if_pos (show spc (cntV rs j) from .inl h3)] at ih; exact ih
    rw [if_neg h3]
    by_cases h4 : cntV rs j = 4
    · rw [if_pos h4, if_pos hl]; rw [if_pos (show spc (cntV rs j) from .inr (.inl h4))] at ih; exact ih
    rw [if_neg h4]
    by_cases h6 : cntV rs j = 6
    · rw [if_pos h6, if_pos hl]; rw [if_pos (show spc (cntV rs j) from .inr (.inr h6))] at ih; exact ih
    rw [if_neg h6, if_pos hl]
    rw [if_neg (show ¬ spc (cntV rs j) by rintro (h | h | h); exact h3 h; exact h4 h; exact h6 h)] at ih
    exact ih
  ·
   rw [if_neg h7, if_pos hl]
   have e : cntV rs i = lineV (rs.getD i 0) := by
    cases i with
    | zero => rw [cntV, if_neg h7]
    | succ j => rw [cntV, if_neg h7]
   rw [e] at ih
   exact ih
theorem countsS_p {rs : List Int} {k : Nat} (hn : rs.length ≤ 1000) (hk : rs.length + 50 < k) : spec_l5Counts.f k rs = some (csV rs) := countsS_l rs hn rs.length k 0 (by omega) (by omega) hk
theorem place_s {k : Nat} (hk : 10 ≤ k) (a b s : Int) : spec_l5Place.f k a b s = some (placeV a b s) := by
 obtain ⟨k, rfl⟩ : ∃ m, k = m + 10 := ⟨k - 10, by omega⟩
 simp only [spec_l5Place.f, spec_l5Place.j0, spec_l5Place.j1, spec_l5Place.j2, spec_l5Inner.f, spec_l5Inner.j0, spec_l5Inner.j1, spec_l5Inner.j2, spec_l5Never.f, spec_l5Word.f, placeV, placeR, isV, ansV, wordB, inL, List.contains_cons, List.contains_nil]
 grind (splits := 60)
def solV (cs : List Int) : Nat → Int
 | 0 => 0
 | i + 1 => if cs.getD i 0 = 3 then solV cs i else cs.getD i 0
theorem before_l (cs : List Int) (hn : cs.length ≤ 1000) : ∀ (m k : Nat), m ≤ cs.length → m < k → ∃ t : Int, spec_l5Before.l0 k cs ((m : Int) - 1) = some t ∧ ((t < 0 ∧ solV cs m = 0) ∨ (0 ≤ t ∧ t < cs.length ∧ rd cs t = solV cs m))
 | 0, k, hm, hk => by
  obtain ⟨k, rfl⟩ : ∃ m, k = m + 1 := ⟨k - 1, by omega⟩
  rw [spec_l5Before.l0, if_neg (by omega)]
  exact ⟨_, rfl, .inl ⟨by omega, rfl⟩⟩
 | m + 1, k, hm, hk => by
  obtain ⟨k, rfl⟩ : ∃ m, k = m + 1 := ⟨k - 1, by omega⟩
  rw [spec_l5Before.l0, show ((m + 1 : Nat) : Int) - 1 = (m : Int) by omega, if_pos (by omega), if_pos (by omega), if_pos (by omega), rd_nat, solV]
  by_cases h : cs.getD m 0 = 3
  ·
   rw [if_pos h, if_pos h, w64 (by omega) (by omega)]
   exact before_l cs hn m k (by omega) (by omega)
  ·
   rw [if_neg h, if_neg h]
   exact ⟨_, rfl, .inr ⟨by omega, by omega, rd_nat _ _⟩⟩
def brV (rs : List Int) (i : Nat) : Int :=
 if i + 1 = rs.length then 2 else if jV rs (i + 1) = true then 0 else if lineV (rs.getD (i + 1) 0) = 7 ∧ ¬ spc (cntV rs i) then 0 else placeV (cntV rs i) (cntV rs (i + 1)) (solV (csV rs) (i + 1))
def bsV (rs : List Int) : List Int := (List.range rs.length).map (brV rs)
theorem bsV_len (rs : List Int) : (bsV rs).length = rs.length := by simp [bsV]
theorem bsV_get {rs : List Int} {i : Nat} (h : i < rs.length) : (bsV rs).getD i 0 = brV rs i := by simp [bsV, List.getD_eq_getElem?_getD, h]
theorem breaksI_l (rs : List Int) (hn : rs.length ≤ 1000) (k : Nat) (hk : 1000 ≤ k) : ∀ (d i : Nat), rs.length - i = d → i ≤ rs.length → brL k rs (csV rs) (jsV rs) d i (solV (csV rs) i) ((List.range i).map (brV rs)) = some (bsV rs)
 | 0, i, hd, hi => by
  obtain rfl : i = rs.length := by omega
  rfl
 | d + 1, i, hd, hi => by
  have ih := breaksI_l rs hn k hk d (i + 1) (by omega) (by omega)
  rw [List.range_succ, List.map_append, List.map_cons, List.map_nil, solV] at ih
  rw [brL]
  have e : brX k rs (csV rs) (jsV rs) i (if (csV rs).getD i 0 = 3 then solV (csV rs) i else (csV rs).getD i 0) = some (brV rs i) := by
   unfold brX brV
   by_cases hl : i + 1 = rs.length
   · rw [if_pos hl, if_pos hl]
   ·
    rw [if_neg hl, if_neg hl, jsV_get (by omega), show jAt rs (i + 1) = jV rs (i + 1) from if_neg (by omega)]
    by_cases hj : jV rs (i + 1) = true
    · rw [if_pos hj, if_pos hj]
    ·
     rw [if_neg hj, if_neg hj, line_i (by omega), Option.bind_some, after_i (by omega), Option.bind_some, csV_get (by omega), csV_get (by omega), solV, csV_get (by omega)]
     congr 1
     by_cases h7 : lineV (rs.getD (i + 1) 0) = 7 ∧ ¬ spc (cntV rs i)
     · rw [if_pos h7, if_pos ⟨h7.1, decide_eq_false h7.2⟩]
     · rw [if_neg h7, if_neg (fun h => h7 ⟨h.1, of_decide_eq_false h.2⟩)]
  rw [e, Option.bind_some]
  exact ih
theorem breaksI_p {rs : List Int} {k : Nat} (hn : rs.length ≤ 80) (hk : 2000 ≤ k) : impl_breaks.f k rs = some (bsV rs) := by
 unfold impl_breaks.f
 rw [countsI_p (by omega) (by omega), Option.bind_some, joined_p (by omega) (by omega), Option.bind_some, if_pos ⟨csV_len rs, jsV_len rs, by omega⟩]
 exact breaksI_l rs (by omega) k (by omega) rs.length 0 (by omega) (by omega)
theorem breaksS_l (rs : List Int) (hn : rs.length ≤ 80) : ∀ (d k i : Nat), rs.length - i = d → i ≤ rs.length → 2 * d + 500 < k → spec_l5Breaks.l0 k rs (csV rs) ((List.range i).map (brV rs)) (i : Int) = some (bsV rs)
 | 0, k, i, hd, hi, hk => by
  obtain ⟨k, rfl⟩ : ∃ m, k = m + 1 := ⟨k - 1, by omega⟩
  obtain rfl : i = rs.length := by omega
  rw [spec_l5Breaks.l0, if_neg (by rw [csV_len]; omega)]
  rfl
 | d + 1, k, i, hd, hi, hk => by
  obtain ⟨k, rfl⟩ : ∃ m, k = m + 2 := ⟨k - 2, by omega⟩
  have ih1 := breaksS_l rs hn d (k + 1) (i + 1) (by omega) (by omega) (by omega)
  have ih := breaksS_l rs hn d k (i + 1) (by omega) (by omega) (by omega)
  rw [List.range_succ, List.map_append, List.map_cons, List.map_nil] at ih ih1
  have hl : ((List.range i).map (brV rs)).length < 17592186044416 := by simp; omega
  have w2 : wrap64 ((i : Int) + 1) = ((i + 1 : Nat) : Int) := by rw [w64 (by omega) (by omega)]; omega
  have hcl := csV_len rs
  rw [spec_l5Breaks.l0, if_pos (by omega), w2]
  by_cases hlast : i + 1 = rs.length
  ·
   rw [if_pos (by omega), if_pos hl]
   have e : brV rs i = 2 := by unfold brV; rw [if_pos hlast]
   rw [e] at ih1
   exact ih1
  ·
   rw [if_neg (by omega), join_s (by omega) (by omega) (by omega) (by omega), Option.bind_some]
   have J : ∀ b : Bool, (b = true → brV rs i = 0) → (b = false → brV rs i = placeV (cntV rs i) (cntV rs (i + 1)) (solV (csV rs) (i + 1))) → spec_l5Breaks.j1 (k + 1) rs (csV rs) ((List.range i).map (brV rs)) (i : Int) b = some (bsV rs) := by
    intro b hb1 hb0
    cases b
    ·
     have hb := hb0 rfl
     obtain ⟨t, ht, hc⟩ := before_l (csV rs) (by omega) (i + 1) k (by omega) (by omega)
     rw [show ((i + 1 : Nat) : Int) - 1 = (i : Int) by omega] at ht
     rw [spec_l5Breaks.j1, if_neg (by decide)]
     unfold spec_l5Before.f
     rw [ht, Option.bind_some, w2, rd_nat, rd_nat, csV_get (by omega), csV_get (by omega)]
     rcases hc with ⟨h1, h2⟩ | ⟨h1, h2, h3⟩
     ·
      rw [if_neg (by omega), if_pos (by omega), if_pos (by omega), if_pos (by omega), if_pos (by omega), place_s (by omega), Option.bind_some, if_pos hl]
      rw [h2] at hb
      rw [hb] at ih
      exact ih
     ·
      rw [if_pos (by omega), if_pos h1, if_pos h2, if_pos (by omega), if_pos (by omega), if_pos (by omega), if_pos (by omega), place_s (by omega), Option.bind_some, if_pos hl, h3]
      rw [hb] at ih
      exact ih
    ·
     have hb := hb1 rfl
     rw [spec_l5Breaks.j1, if_pos rfl, if_pos hl, w2]
     rw [hb] at ih
     exact ih
   by_cases hj : jV rs (i + 1) = true
   ·
    rw [if_pos hj]
    exact J true (fun _ => by unfold brV; rw [if_neg hlast, if_pos hj]) (fun h => by cases h)
   ·
    rw [if_neg hj, if_pos (by omega), if_pos (by omega), rd_nat, line_s (by omega), Option.bind_some]
    have B : brV rs i = if lineV (rs.getD (i + 1) 0) = 7 ∧ ¬ spc (cntV rs i) then 0 else placeV (cntV rs i) (cntV rs (i + 1)) (solV (csV rs) (i + 1)) := by unfold brV; rw [if_neg hlast, if_neg hj]
    by_cases h7 : lineV (rs.getD (i + 1) 0) = 7
    ·
     rw [if_pos h7, if_pos (by omega), rd_nat, csV_get (by omega)]
     by_cases h3 : cntV rs i = 3
     ·
      rw [if_pos h3]
      exact J false (fun h => by cases h) (fun _ => by rw [B, if_neg (fun h => h.2 (.inl h3))])
     rw [if_neg h3]
     by_cases h4 : cntV rs i = 4
     ·
      rw [if_pos h4]
      exact J false (fun h => by cases h) (fun _ => by rw [B, if_neg (fun h => h.2 (.inr (.inl h4)))])
     rw [if_neg h4]
     by_cases h6 : cntV rs i = 6
     ·
      rw [show (cntV rs i != 6) = false from bne_eq_false_iff_eq.mpr h6]
      exact J false (fun h => by cases h) (fun _ => by rw [B, if_neg (fun h => h.2 (.inr (.inr h6)))])
     ·
      rw [show (cntV rs i != 6) = true from bne_iff_ne.mpr h6]
      exact J true (fun _ => by rw [B, if_pos ⟨h7, by rintro (h | h | h); exact h3 h; exact h4 h; exact h6 h⟩]) (fun h => by cases h)
    ·
     rw [if_neg h7]
     exact J false (fun h => by cases h) (fun _ => by rw [B, if_neg (fun h => h7 h.1)])
theorem breaksS_p {rs : List Int} {k : Nat} (hn : rs.length ≤ 80) (hk : 2000 ≤ k) : spec_l5Breaks.f k rs = some (bsV rs) := by
 unfold spec_l5Breaks.f
 rw [countsS_p (by omega) (by omega), Option.bind_some]
 exact breaksS_l rs hn rs.length k 0 (by omega) (by omega) (by omega)
end Go.Proofs.YtmcdcogedcbndaaGreat.Pure
/- How wide letters of a text with spans are, by both texts. -/
namespace Go.Proofs.YtmcdcogedcbndaaGreat.Pure
open Go.RowKit Go.Proofs.YtmcdcogedcbndaaGreat.S Go.Proofs.YtmcdcogedcbndaaGreatW.PrintWords Go.Proofs.YtmcdcogedcbndaaGreatW.PrintLast
theorem rdOfB (l : List Bool) (i : Nat) : rdOf false l (i : Int) = l.getD i false := by simp [rdOf]
def clF (rs : List Int) : Nat → Nat → Int → Int
 | 0, _, m => m
 | g + 1, i, m => if jV rs i = true then clF rs g (i + 1) (if wideV (rs.getD i 0) > m then wideV (rs.getD i 0) else m) else m
def clV (rs : List Int) (i : Nat) : Int := clF rs (rs.length - (i + 1)) (i + 1) (wideV (rs.getD i 0))
theorem clF_le (rs : List Int) : ∀ (g i : Nat) (m : Int), 0 ≤ m → m ≤ 40 → 0 ≤ clF rs g i m ∧ clF rs g i m ≤ 40
 | 0, _, m, h0, h1 => ⟨h0, h1⟩
 | g + 1, i, m, h0, h1 => by
  have hw := wideV_le (rs.getD i 0)
  rw [clF]
  split
  · exact clF_le rs g (i + 1) _ (by split <;> omega) (by split <;> omega)
  · exact ⟨h0, h1⟩
theorem clV_le (rs : List Int) (i : Nat) : 0 ≤ clV rs i ∧ clV rs i ≤ 40 := clF_le rs _ _ _ (wideV_le _).1 (wideV_le _).2
theorem clusterI_l (rs : List Int) (hn : rs.length ≤ 1000) : ∀ (d k i : Nat) (m : Int), rs.length - i = d → 0 < i → i ≤ rs.length → d + 50 < k → impl_clusterWide.l0 k rs (jsV rs) m (i : Int) = some (clF rs d i m)
 | 0, k, i, m, hd, h0, hi, hk => by
  obtain ⟨k, rfl⟩ : ∃ m, k = m + 1 := ⟨k - 1, by omega⟩
  rw [impl_clusterWide.l0, if_neg (by omega), clF]
 | d + 1, k, i, m, hd, h0, hi, hk => by
  obtain ⟨k, rfl⟩ : ∃ m, k = m + 1 := ⟨k - 1, by omega⟩
  rw [impl_clusterWide.l0, if_pos (by omega), if_pos (by omega), if_pos (by rw [jsV_len]; omega), rdOfB, jsV_get (by omega), show jAt rs i = jV rs i from if_neg (by omega), clF]
  by_cases h : jV rs i = true
  ·
   rw [if_pos h, if_pos h, rd_nat, wide_i (by omega), Option.bind_some, w64 (by omega) (by omega), show ((i : Int) + 1) = ((i + 1 : Nat) : Int) by omega, clusterI_l rs hn d k (i + 1) _ (by omega) (by omega) (by omega) (by omega)]
   rfl
  · rw [if_neg h, if_neg h]
theorem clusterI_p {rs : List Int} {i k : Nat} (hn : rs.length ≤ 1000) (hi : i < rs.length) (hk : rs.length + 50 < k) : impl_clusterWide.f k rs (i : Int) = some (clV rs i) := by
 unfold impl_clusterWide.f clV
 rw [joined_p hn (by omega), Option.bind_some, if_pos (by omega), if_pos (by omega), rd_nat, wide_i (by omega), Option.bind_some, w64 (by omega) (by omega), show ((i : Int) + 1) = ((i + 1 : Nat) : Int) by omega]
 exact clusterI_l rs hn _ k (i + 1) _ rfl (by omega) (by omega) (by omega)
theorem clusterS_l (rs : List Int) (hn : rs.length ≤ 1000) : ∀ (d k i : Nat) (m : Int), rs.length - i = d → 0 < i → i ≤ rs.length → 2 * d + rs.length + 50 < k → spec_l2Wide.l0 k rs m (i : Int) = some (clF rs d i m)
 | 0, k, i, m, hd, h0, hi, hk => by
  obtain ⟨k, rfl⟩ : ∃ m, k = m + 2 := ⟨k - 2, by omega⟩
  rw [spec_l2Wide.l0, if_neg (by omega), clF, spec_l2Wide.j1, if_neg (by decide)]
 | d + 1, k, i, m, hd, h0, hi, hk => by
  obtain ⟨k, rfl⟩ : ∃ m, k = m + 2 := ⟨k - 2, by omega⟩
  rw [spec_l2Wide.l0, if_pos (by omega), join_s hn (by omega) (by omega) (by omega), Option.bind_some, clF, spec_l2Wide.j1]
  by_cases h : jV rs i = true
  ·
   rw [if_pos h, if_pos h, if_pos (by omega), if_pos (by omega), rd_nat, wide_s (by omega), Option.bind_some, w64 (by omega) (by omega), show ((i : Int) + 1) = ((i + 1 : Nat) : Int) by omega]
   by_cases hw : wideV (rs.getD i 0) > m
   · rw [if_pos hw, if_pos hw, Option.bind_some, clusterS_l rs hn d k (i + 1) _ (by omega) (by omega) (by omega) (by omega)]
   · rw [if_neg hw, if_neg hw, clusterS_l rs hn d k (i + 1) _ (by omega) (by omega) (by omega) (by omega)]
  · rw [if_neg h, if_neg h]
theorem clusterS_p {rs : List Int} {i k : Nat} (hn : rs.length ≤ 1000) (hi : i < rs.length) (hk : 3 * rs.length + 60 < k) : spec_l2Wide.f k rs (i : Int) = some (clV rs i) := by
 unfold spec_l2Wide.f clV
 rw [if_pos (by omega), if_pos (by omega), rd_nat, wide_s (by omega), Option.bind_some, w64 (by omega) (by omega), show ((i : Int) + 1) = ((i + 1 : Nat) : Int) by omega]
 exact clusterS_l rs hn _ k (i + 1) _ rfl (by omega) (by omega) (by omega)
theorem at_l (rs : List Int) (hn : rs.length ≤ 1000) : ∀ (i k : Nat), i < rs.length → i + rs.length + 50 < k → ∃ t : Int, spec_l2At.l0 k rs (i : Int) = some t ∧ t ≤ i ∧ (jAt rs i = false → t = i) ∧ (jAt rs i = true → t < i)
 | 0, k, hi, hk => by
  obtain ⟨k, rfl⟩ : ∃ m, k = m + 1 := ⟨k - 1, by omega⟩
  rw [spec_l2At.l0, if_neg (by omega)]
  exact ⟨_, rfl, Int.le_refl _, fun _ => rfl, fun h => by unfold jAt at h; simp at h⟩
 | i + 1, k, hi, hk => by
  obtain ⟨k, rfl⟩ : ∃ m, k = m + 1 := ⟨k - 1, by omega⟩
  rw [spec_l2At.l0, if_pos (by omega), join_s hn (by omega) (by omega) (by omega), Option.bind_some, show jAt rs (i + 1) = jV rs (i + 1) from if_neg (by omega)]
  by_cases h : jV rs (i + 1) = true
  ·
   rw [if_pos h, w64 (by omega) (by omega), show (((i + 1 : Nat) : Int) - 1) = (i : Int) by omega]
   obtain ⟨t, h1, h2, _, _⟩ := at_l rs hn i k (by omega) (by omega)
   exact ⟨t, h1, by omega, (fun e => absurd h (by rw [e]; decide)), fun _ => by omega⟩
  ·
   rw [if_neg h]
   exact ⟨_, rfl, Int.le_refl _, fun _ => rfl, fun e => absurd e h⟩
def wdV (rs : List Int) (sp : List Sp) (i : Nat) : Int := if jAt rs i = true then 0 else clV rs i * (atV (i : Int) sp).1
def wsV (rs : List Int) (sp : List Sp) : List Int := (List.range rs.length).map (wdV rs sp)
theorem wsV_len (rs : List Int) (sp : List Sp) : (wsV rs sp).length = rs.length := by simp [wsV]
theorem wsV_get {rs : List Int} {sp : List Sp} {i : Nat} (h : i < rs.length) : (wsV rs sp).getD i 0 = wdV rs sp i := by simp [wsV, List.getD_eq_getElem?_getD, h]
def SpB (sp : List Sp) : Prop := ∀ s ∈ sp, 0 ≤ s.f1 ∧ s.f1 ≤ 80 ∧ 1 ≤ s.f2 ∧ s.f2 ≤ 40
theorem spB_of {sp : List Sp} {n : Int} (h : spansV sp n = true) : SpB sp := by
 unfold spansV at h
 rw [Bool.and_eq_true, Bool.and_eq_true, allFrom_iff, decide_eq_true_eq, decide_eq_true_eq] at h
 intro s hs
 obtain ⟨i, hi, rfl⟩ := List.getElem_of_mem hs
 have := h.1 i (by omega) (by omega)
 unfold okAt at this
 rw [Bool.and_eq_true] at this
 have h2 := this.1
 unfold spanOkV at h2
 rw [decide_eq_true_eq] at h2
 have e : spAt sp i = sp[i] := by simp [spAt, List.getD_eq_getElem?_getD, hi]
 rw [e] at h2
 have := h.2.2
 omega
theorem atV_le {sp : List Sp} (h : SpB sp) (a : Int) : 1 ≤ (atV a sp).1 ∧ (atV a sp).1 ≤ 40 := by
 induction sp with
 | nil => rw [atV]; exact ⟨by decide, by decide⟩
 | cons s r ih =>
  have hs := h s (by simp)
  rw [atV]
  split
  · exact ⟨hs.2.2.1, hs.2.2.2⟩
  · exact ih (fun x hx => h x (List.mem_cons_of_mem _ hx))
theorem wdV_le {sp : List Sp} (h : SpB sp) (rs : List Int) (i : Nat) : 0 ≤ wdV rs sp i ∧ wdV rs sp i ≤ 1600 := by
 unfold wdV
 split
 · omega
 ·
  have h1 := clV_le rs i
  have h2 := atV_le h (i : Int)
  refine ⟨Int.mul_nonneg h1.1 (by omega), ?_⟩
  have := Int.mul_le_mul h1.2 h2.2 (by omega) (by omega : (0:Int) ≤ 40)
  omega
theorem widesS_l (rs : List Int) (sp : List Sp) (hn : rs.length ≤ 80) (hs : SpB sp) : ∀ (d k i : Nat), rs.length - i = d → i ≤ rs.length → d + 500 < k → spec_l6Wides.l0 k rs sp ((List.range i).map (wdV rs sp)) (i : Int) = some (wsV rs sp)
 | 0, k, i, hd, hi, hk => by
  obtain ⟨k, rfl⟩ : ∃ m, k = m + 1 := ⟨k - 1, by omega⟩
  obtain rfl : i = rs.length := by omega
  rw [spec_l6Wides.l0, if_neg (by omega)]
  rfl
 | d + 1, k, i, hd, hi, hk => by
  obtain ⟨k, rfl⟩ : ∃ m, k = m + 1 := ⟨k - 1, by omega⟩
  have ih := widesS_l rs sp hn hs d k (i + 1) (by omega) (by omega) (by omega)
  rw [List.range_succ, List.map_append, List.map_cons, List.map_nil] at ih
  have hl : ((List.range i).map (wdV rs sp)).length < 17592186044416 := by simp; omega
  have hb := wdV_le hs rs i
  obtain ⟨t, h1, h2, h3, h4⟩ := at_l rs (by omega) i k (by omega) (by omega)
  rw [spec_l6Wides.l0, if_pos (by omega)]
  unfold spec_l2At.f
  rw [h1, Option.bind_some, w64 (x := (i : Int) + 1) (by omega) (by omega), show ((i : Int) + 1) = ((i + 1 : Nat) : Int) by omega]
  unfold wdV at ih hb
  cases hj : jAt rs i
  ·
   rw [hj, if_neg (by decide)] at ih hb
   rw [if_pos (h3 hj)]
   unfold spec_l6At.f
   rw [Option.bind_some, clusterS_p (by omega) (by omega) (by omega), Option.bind_some, if_pos hl, w64 (by omega) (by omega)]
   exact ih
  ·
   rw [hj, if_pos rfl] at ih
   have := h4 hj
   rw [if_neg (by omega), if_pos hl]
   exact ih
theorem widesS_p {rs : List Int} {sp : List Sp} {k : Nat} (hn : rs.length ≤ 80) (hs : SpB sp) (hk : 1000 ≤ k) : spec_l6Wides.f k rs sp = some (wsV rs sp) := widesS_l rs sp hn hs rs.length k 0 (by omega) (by omega) (by omega)
end Go.Proofs.YtmcdcogedcbndaaGreat.Pure
/- How wide letters and lines are, by both texts. -/
namespace Go.Proofs.YtmcdcogedcbndaaGreat.Pure
open Go.RowKit Go.Proofs.YtmcdcogedcbndaaGreat.S Go.Proofs.YtmcdcogedcbndaaGreatW.PrintWords Go.Proofs.YtmcdcogedcbndaaGreatW.PrintLast
theorem look_l (sp : List Sp) (a : Int) (hs : SpB sp) (hl : sp.length ≤ 1000) : ∀ (d k i : Nat), sp.length - i = d → i ≤ sp.length → d < k → impl_lookAt.l0 k a sp (sp.length : Int) (i : Int) = some (atV a (sp.drop i))
 | 0, k, i, hd, hi, hk => by
  obtain ⟨k, rfl⟩ : ∃ m, k = m + 1 := ⟨k - 1, by omega⟩
  rw [impl_lookAt.l0, if_neg (by omega), List.drop_eq_nil_of_le (by omega)]
  rfl
 | d + 1, k, i, hd, hi, hk => by
  obtain ⟨k, rfl⟩ : ∃ m, k = m + 1 := ⟨k - 1, by omega⟩
  have hlt : i < sp.length := by omega
  have e : rd_T50 sp (i : Int) = sp[i] := by rw [rdSp]; simp [spAt, List.getD_eq_getElem?_getD, hlt]
  have hb := hs sp[i] (List.getElem_mem hlt)
  rw [impl_lookAt.l0, if_pos (by omega), if_pos (by omega), if_pos (by omega), e, w64 (by omega) (by omega), show ((i : Int) + 1) = ((i + 1 : Nat) : Int) by omega, look_l sp a hs hl d k (i + 1) (by omega) (by omega) (by omega), List.drop_eq_getElem_cons hlt, atV, w64 (x := sp[i].f1 - 1) (by omega) (by omega)]
  by_cases h0 : a ≥ sp[i].f0
  ·
   rw [if_pos h0]
   by_cases h1 : a < sp[i].f1
   · rw [if_pos h1, if_pos (by omega)]
   · rw [if_neg h1, if_neg (by omega)]
  · rw [if_neg h0, if_neg (by omega)]
theorem look_p {sp : List Sp} {a : Int} {k : Nat} (hs : SpB sp) (hl : sp.length ≤ 1000) (hk : sp.length < k) : impl_lookAt.f k sp a = some (atV a sp) := look_l sp a hs hl sp.length k 0 (by omega) (by omega) hk
def stsV (rs : List Int) : List Int := ((List.range rs.length).filter (fun i => !jAt rs i)).map Int.ofNat
theorem starts_l (rs : List Int) (hn : rs.length ≤ 1000) : ∀ (d k i : Nat), rs.length - i = d → i ≤ rs.length → d < k → impl_starts.l0 k (((List.range i).filter (fun i => !jAt rs i)).map Int.ofNat) (jsV rs) (rs.length : Int) (i : Int) = some (stsV rs)
 | 0, k, i, hd, hi, hk => by
  obtain ⟨k, rfl⟩ : ∃ m, k = m + 1 := ⟨k - 1, by omega⟩
  obtain rfl : i = rs.length := by omega
  rw [impl_starts.l0, if_neg (by omega)]
  rfl
 | d + 1, k, i, hd, hi, hk => by
  obtain ⟨k, rfl⟩ : ∃ m, k = m + 1 := ⟨k - 1, by omega⟩
  have ih := starts_l rs hn d k (i + 1) (by omega) (by omega) (by omega)
  have hf := List.length_filter_le (fun i => !jAt rs i) (List.range i)
  rw [List.length_range] at hf
  rw [List.range_succ, List.filter_append, List.map_append] at ih
  rw [impl_starts.l0, if_pos (by omega), if_pos (by omega), if_pos (by rw [jsV_len]; omega), rdOfB, jsV_get (by omega), w64 (by omega) (by omega), show ((i : Int) + 1) = ((i + 1 : Nat) : Int) by omega]
  cases hj : jAt rs i
  ·
   rw [if_neg (by decide), if_pos (by rw [List.length_map]; omega)]
   rw [List.filter_cons_of_pos (by rw [hj]; rfl)] at ih
   exact ih
  ·
   rw [if_pos rfl]
   rw [List.filter_cons_of_neg (by rw [hj]; decide), List.filter_nil, List.map_nil, List.append_nil] at ih
   exact ih
theorem starts_p {rs : List Int} {k : Nat} (hn : rs.length ≤ 1000) (hk : rs.length + 50 < k) : impl_starts.f k rs = some (stsV rs) := by
 unfold impl_starts.f
 rw [joined_p hn (by omega), Option.bind_some, jsV_len]
 exact starts_l rs hn rs.length k 0 (by omega) (by omega) (by omega)
def putS (rs : List Int) (sp : List Sp) : List Nat → List Int → List Int
 | [], o => o
 | i :: r, o => putS rs sp r (o.set i (clV rs i * (atV (i : Int) sp).1))
theorem putS_len (rs : List Int) (sp : List Sp) : ∀ (l : List Nat) (o : List Int), (putS rs sp l o).length = o.length
 | [], o => rfl
 | i :: r, o => by rw [putS, putS_len rs sp r, List.length_set]
theorem putS_get (rs : List Int) (sp : List Sp) : ∀ (l : List Nat) (o : List Int) (j : Nat), j < o.length → (putS rs sp l o).getD j 0 = if j ∈ l then clV rs j * (atV (j : Int) sp).1 else o.getD j 0
 | [], o, j, hj => by rw [putS, if_neg (by simp)]
 | i :: r, o, j, hj => by
  rw [putS, putS_get rs sp r _ j (by rw [List.length_set]; exact hj)]
  by_cases h : j ∈ r
  · rw [if_pos h, if_pos (List.mem_cons_of_mem _ h)]
  ·
   rw [if_neg h]
   by_cases e : j = i
   ·
    subst e
    rw [if_pos (by simp), List.getD_eq_getElem?_getD, List.getElem?_set_self hj, Option.getD_some]
   · rw [if_neg (by simp [e, h]), List.getD_eq_getElem?_getD, List.getElem?_set_ne (fun x => e x.symm), ← List.getD_eq_getElem?_getD]
theorem ext_getD {a b : List Int} (hl : a.length = b.length) (h : ∀ j, j < a.length → a.getD j 0 = b.getD j 0) : a = b := by
 refine List.ext_getElem hl fun j h1 h2 => ?_
 have := h j h1
 rwa [List.getD_eq_getElem?_getD, List.getElem?_eq_getElem h1, Option.getD_some, List.getD_eq_getElem?_getD, List.getElem?_eq_getElem h2, Option.getD_some] at this
theorem widesI_l (rs : List Int) (sp : List Sp) (hn : rs.length ≤ 80) (hs : SpB sp) (hsl : sp.length ≤ 100) (l : List Nat) (hl : ∀ i ∈ l, i < rs.length) (hl9 : l.length ≤ 100) : ∀ (d k i : Nat) (o : List Int), l.length - i = d → i ≤ l.length → o.length = rs.length → d + 500 < k → impl_widesOf.l0 k rs sp o (l.map Int.ofNat) (l.length : Int) (i : Int) = some (putS rs sp (l.drop i) o)
 | 0, k, i, o, hd, hi, ho, hk => by
  obtain ⟨k, rfl⟩ : ∃ m, k = m + 1 := ⟨k - 1, by omega⟩
  rw [impl_widesOf.l0, if_neg (by omega), List.drop_eq_nil_of_le (by omega), putS]
 | d + 1, k, i, o, hd, hi, ho, hk => by
  obtain ⟨k, rfl⟩ : ∃ m, k = m + 1 := ⟨k - 1, by omega⟩
  have hlt : i < l.length := by omega
  have hm := hl l[i] (List.getElem_mem hlt)
  have e : rd (l.map Int.ofNat) (i : Int) = ((l[i] : Nat) : Int) := by simp [rd, List.getD_eq_getElem?_getD, hlt]
  have h1 := clV_le rs l[i]
  have h2 := atV_le hs ((l[i] : Nat) : Int)
  have h3 := Int.mul_nonneg h1.1 (show 0 ≤ (atV ((l[i] : Nat) : Int) sp).1 by omega)
  have h4 := Int.mul_le_mul h1.2 h2.2 (by omega) (by omega : (0:Int) ≤ 40)
  rw [impl_widesOf.l0, if_pos (by omega), if_pos (by omega), if_pos (by rw [List.length_map]; omega), e, clusterI_p (by omega) hm (by omega), Option.bind_some, look_p hs (by omega) (by omega), Option.bind_some, if_pos (by omega), if_pos (by omega), Int.toNat_natCast, w64 (x := clV rs l[i] * _) (by omega) (by omega), w64 (by omega) (by omega), show ((i : Int) + 1) = ((i + 1 : Nat) : Int) by omega, List.drop_eq_getElem_cons hlt, putS]
  exact widesI_l rs sp hn hs hsl l hl hl9 d k (i + 1) _ (by omega) (by omega) (by rw [List.length_set]; exact ho) (by omega)
theorem widesI_p {rs : List Int} {sp : List Sp} {k : Nat} (hn : rs.length ≤ 80) (hs : SpB sp) (hsl : sp.length ≤ 100) (hk : 1000 ≤ k) : impl_widesOf.f k rs sp = some (wsV rs sp) := by
 have hf := List.length_filter_le (fun i => !jAt rs i) (List.range rs.length)
 rw [List.length_range] at hf
 have h := widesI_l rs sp hn hs hsl ((List.range rs.length).filter (fun i => !jAt rs i)) (fun i hi => by simpa using (List.mem_filter.mp hi).1) (by omega) _ k 0 (List.replicate rs.length 0) rfl (by omega) (by simp) (by omega)
 unfold impl_widesOf.f
 rw [if_pos (by omega), if_pos (by omega), starts_p (by omega) (by omega), Option.bind_some, Int.toNat_natCast]
 have e : (stsV rs).length = ((List.range rs.length).filter (fun i => !jAt rs i)).length := by simp [stsV]
 rw [e]
 unfold stsV
 rw [show ((0 : Nat) : Int) = 0 from rfl] at h
 rw [h, List.drop_zero]
 congr 1
 refine ext_getD (by rw [putS_len, wsV_len]; simp) fun j hj => ?_
 rw [putS_len, List.length_replicate] at hj
 rw [putS_get _ _ _ _ _ (by simpa using hj), wsV_get hj, wdV]
 cases hja : jAt rs j
 · rw [if_pos (List.mem_filter.mpr ⟨by simpa using hj, by rw [hja]; rfl⟩), if_neg (by decide)]
 ·
  rw [if_neg (fun h => by have := (List.mem_filter.mp h).2; rw [hja] at this; cases this), if_pos rfl]
  simp [List.getD_eq_getElem?_getD, hj]
def emptB (a : Int) : Bool := decide (a = 32 ∨ a = 10 ∨ wideV a = 0)
def bodV (rs : List Int) (fr : Nat) : Nat → Nat
 | 0 => 0
 | t + 1 => if fr < t + 1 then (if emptB (rs.getD t 0) = true then bodV rs fr t else t + 1) else t + 1
theorem bodV_le (rs : List Int) (fr : Nat) : ∀ t, fr ≤ t → fr ≤ bodV rs fr t ∧ bodV rs fr t ≤ t
 | 0, h => ⟨h, Nat.le_refl _⟩
 | t + 1, h => by
  rw [bodV]
  split
  ·
   split
   ·
    have := bodV_le rs fr t (by omega)
    omega
   · omega
  · omega
theorem body_i (rs : List Int) (fr : Nat) (hn : rs.length ≤ 1000) : ∀ (t k : Nat), t ≤ rs.length → fr ≤ t → t + 50 < k → impl_body.l0 k rs (fr : Int) (t : Int) = some ((bodV rs fr t : Nat) : Int)
 | 0, k, ht, hf, hk => by
  obtain ⟨k, rfl⟩ : ∃ m, k = m + 1 := ⟨k - 1, by omega⟩
  rw [impl_body.l0, if_neg (by omega), bodV]
 | t + 1, k, ht, hf, hk => by
  obtain ⟨k, rfl⟩ : ∃ m, k = m + 1 := ⟨k - 1, by omega⟩
  have w1 : wrap64 (((t + 1 : Nat) : Int) - 1) = (t : Int) := by rw [w64 (by omega) (by omega)]; omega
  rw [impl_body.l0, bodV]
  by_cases h : fr < t + 1
  ·
   have ih := body_i rs fr hn t k (by omega) (by omega) (by omega)
   rw [if_pos (by omega), if_pos h, w1, if_pos (by omega), if_pos (by omega), rd_nat]
   unfold emptB
   by_cases h1 : rs.getD t 0 = 32
   · rw [if_pos h1, decide_eq_true (.inl h1), if_pos rfl, ih]
   rw [if_neg h1]
   by_cases h2 : rs.getD t 0 = 10
   · rw [if_pos h2, decide_eq_true (.inr (.inl h2)), if_pos rfl, ih]
   rw [if_neg h2, wide_i (by omega), Option.bind_some]
   by_cases h3 : wideV (rs.getD t 0) = 0
   · rw [if_pos h3, decide_eq_true (.inr (.inr h3)), if_pos rfl, ih]
   · rw [if_neg h3, decide_eq_false (by rintro (h | h | h); exact h1 h; exact h2 h; exact h3 h), if_neg (by decide)]
  · rw [if_neg (by omega), if_neg h]
theorem empt_s {k : Nat} (hk : 30 ≤ k) (a : Int) : spec_l7Empty.f k a = some (emptB a) := by
 unfold spec_l7Empty.f emptB
 by_cases h1 : a = 32
 · rw [if_pos h1, decide_eq_true (.inl h1)]
 rw [if_neg h1]
 by_cases h2 : a = 10
 · rw [if_pos h2, decide_eq_true (.inr (.inl h2))]
 rw [if_neg h2, wide_s hk, Option.bind_some]
 by_cases h3 : wideV a = 0
 · rw [decide_eq_true (.inr (.inr h3)), beq_iff_eq.mpr h3]
 · rw [decide_eq_false (by rintro (h | h | h); exact h1 h; exact h2 h; exact h3 h), beq_eq_false_iff_ne.mpr h3]
theorem sum_s (ws : List Int) (hn : ws.length ≤ 1000) (b : Nat) (hb : b ≤ ws.length) : ∀ (d k i : Nat) (s : Int), b - i = d → i ≤ b → d < k → spec_l7Wide.l1 k ws (b : Int) s (i : Int) = some (sumW ((ws.take b).drop i) s)
 | 0, k, i, s, hd, hi, hk => by
  obtain ⟨k, rfl⟩ : ∃ m, k = m + 1 := ⟨k - 1, by omega⟩
  rw [spec_l7Wide.l1, if_neg (by omega), List.drop_eq_nil_of_le (by simp; omega), sumW]
 | d + 1, k, i, s, hd, hi, hk => by
  obtain ⟨k, rfl⟩ : ∃ m, k = m + 1 := ⟨k - 1, by omega⟩
  have hlt : i < (ws.take b).length := by simp; omega
  have e : (ws.take b)[i] = ws.getD i 0 := by
   rw [List.getElem_take, List.getD_eq_getElem?_getD, List.getElem?_eq_getElem (by omega), Option.getD_some]
  rw [spec_l7Wide.l1, if_pos (by omega), if_pos (by omega), if_pos (by omega), List.drop_eq_getElem_cons hlt, sumW, e, rd_nat, w64 (x := (i : Int) + 1) (by omega) (by omega), show ((i : Int) + 1) = ((i + 1 : Nat) : Int) by omega]
  exact sum_s ws hn b hb d k (i + 1) _ (by omega) (by omega) (by omega)
def lwV (rs ws : List Int) (fr to_ : Nat) : Int := sumW ((ws.take (bodV rs fr to_)).drop fr) 0
theorem lineI_p {rs ws : List Int} {fr to_ k : Nat} (hn : rs.length ≤ 1000) (hw : ws.length = rs.length) (h1 : fr ≤ to_) (h2 : to_ ≤ rs.length) (hk : rs.length + 50 < k) : impl_lineWide.f k rs ws (fr : Int) (to_ : Int) = some (lwV rs ws fr to_) := by
 have hb := bodV_le rs fr to_ h1
 unfold impl_lineWide.f impl_body.f lwV
 rw [body_i rs fr hn to_ k h2 h1 (by omega), Option.bind_some, if_pos ⟨by omega, by omega, by omega⟩, Int.toNat_natCast, Int.toNat_natCast]
theorem lineS_l (rs ws : List Int) (fr : Nat) (hn : rs.length ≤ 1000) (hw : ws.length = rs.length) : ∀ (t k : Nat), t ≤ rs.length → fr ≤ t → t + rs.length + 50 < k → spec_l7Wide.l0 k rs ws (fr : Int) (t : Int) = some (sumW ((ws.take (bodV rs fr t)).drop fr) 0)
 | 0, k, ht, hf, hk => by
  obtain ⟨k, rfl⟩ : ∃ m, k = m + 2 := ⟨k - 2, by omega⟩
  rw [spec_l7Wide.l0, if_neg (by omega), bodV, spec_l7Wide.j1, sum_s ws (by omega) 0 (by omega) 0 k fr 0 (by omega) (by omega) (by omega)]
 | t + 1, k, ht, hf, hk => by
  obtain ⟨k, rfl⟩ : ∃ m, k = m + 2 := ⟨k - 2, by omega⟩
  have w1 : wrap64 (((t + 1 : Nat) : Int) - 1) = (t : Int) := by rw [w64 (by omega) (by omega)]; omega
  have hend : spec_l7Wide.j1 (k + 1) ws (fr : Int) ((t + 1 : Nat) : Int) = some (sumW ((ws.take (t + 1)).drop fr) 0) := by
   rw [spec_l7Wide.j1]
   exact sum_s ws (by omega) (t + 1) (by omega) _ k fr 0 rfl (by omega) (by omega)
  rw [spec_l7Wide.l0, bodV]
  by_cases h : fr < t + 1
  ·
   rw [if_pos (by omega), if_pos h, w1, if_pos (by omega), if_pos (by omega), rd_nat, empt_s (by omega), Option.bind_some]
   by_cases he : emptB (rs.getD t 0) = true
   ·
    rw [if_pos he, if_pos he]
    exact lineS_l rs ws fr hn hw t (k + 1) (by omega) (by omega) (by omega)
   ·
    rw [if_neg he, if_neg he]
    exact hend
  ·
   rw [if_neg (by omega), if_neg h]
   exact hend
theorem lineS_p {rs ws : List Int} {fr to_ k : Nat} (hn : rs.length ≤ 1000) (hw : ws.length = rs.length) (h1 : fr ≤ to_) (h2 : to_ ≤ rs.length) (hk : 2 * rs.length + 50 < k) : spec_l7Wide.f k rs ws (fr : Int) (to_ : Int) = some (lwV rs ws fr to_) := lineS_l rs ws fr hn hw to_ k h2 h1 (by omega)
end Go.Proofs.YtmcdcogedcbndaaGreat.Pure
namespace Go.Proofs.YtmcdcogedcbndaaGreat.S
open Go.RowKit Go.Proofs.YtmcdcogedcbndaaGreatW.PrintWords Go.Proofs.YtmcdcogedcbndaaGreatW.PrintLast
set_option linter.unusedVariables false
set_option linter.unusedSimpArgs false
def laws_markIntS.l0 : Nat → List Int → Int → Int → Option (Int × List Int)
 | 0, _, _, _ => none
 | k + 1, x0, x1, x5 => if x5 < (x0.length : Int) then (if 0 ≤ x5 then (laws_markIntS.l0 k (x0.set (x5 : Int).toNat x1) (wrap64 (x1 + 1)) (wrap64 (x5 + 1))) else (none)) else (some (x1, x0))
def laws_markIntS.f (k : Nat) (l0 : List Int) (a1 : Int) : Option (Int × List Int) := laws_markIntS.l0 k l0 a1 0
theorem laws_markIntS.mono_l : ∀ k, (∀ y0 y1 y2, LeO (laws_markIntS.l0 k y0 y1 y2) (laws_markIntS.l0 (k + 1) y0 y1 y2))
 | 0 => fun _ _ _ r h => by simp [laws_markIntS.l0] at h
 | k + 1 => by
  have ih0 := laws_markIntS.mono_l k
  ·
   intro y0 y1 y2; unfold laws_markIntS.l0
   repeat' first
   | (with_reducible exact ih0 _ _ _)
   | (with_reducible exact LeO.refl _)
   | (with_reducible exact LeO.none _)
   | (with_reducible refine LeO.ite ?_ ?_)
   | (with_reducible refine LeO.bind ?_ (fun _ => ?_))
   | exact ih0 _ _ _
   | exact LeO.none _
   | refine LeO.ite ?_ ?_
   | refine LeO.bind ?_ (fun _ => ?_)
theorem laws_markIntS.mono : ∀ a0 a1 k, LeO (laws_markIntS.f k a0 a1) (laws_markIntS.f (k + 1) a0 a1) := by
 intro a0 a1 k; have ih0 := laws_markIntS.mono_l k; unfold laws_markIntS.f
 repeat' first
   | (with_reducible exact ih0 _ _ _)
   | (with_reducible exact LeO.refl _)
   | (with_reducible exact LeO.none _)
   | (with_reducible refine LeO.ite ?_ ?_)
   | (with_reducible refine LeO.bind ?_ (fun _ => ?_))
   | exact ih0 _ _ _
   | exact LeO.none _
   | refine LeO.ite ?_ ?_
   | refine LeO.bind ?_ (fun _ => ?_)
theorem laws_markIntS.calls (k : Nat) (P0_ : Nat → Prop) (u9000_ : Value) (l0 : List Int) (a1 : Int) (r1 : Int) (r2 : List Int) (w0 w : World) (hB : Below w0.heap.size w0 w) (ho0 : Kd.R (Kd.int .i64) 3 w w0.heap.size P0_ u9000_ l0) (h : laws_markIntS.f k l0 a1 = some (r1, r2)) :
  Calls Tryz.prog 18 #[u9000_, .int .i64 a1] w fun e w' => e = .returned (.int .i64 r1) ∧ Kd.R (Kd.int .i64) 3 w' w0.heap.size (fun k_ => (P0_ k_ ∨ w.heap.size ≤ k_)) u9000_ r2 ∧ Below w0.heap.size w0 w' ∧ Kept w w' (fun k_ => P0_ k_) := by
 have HO0 := az (show Kd.R (Kd.int .i64) 3 w w0.heap.size (fun k_ => (P0_ k_ ∨ w.heap.size ≤ k_)) u9000_ l0 from Kd.R_mono ho0 (fun k_ hk => (.inl hk))); have HK := az (Kept.refl w (fun k_ => P0_ k_)); have HW0 := az hB.size; have HB := az hB; clear hB; have H : (laws_markIntS.l0 k l0 a1 0) = some (r1, r2) := h; clear h; have H' := az H; clear H; go_enter Tryz.func18, Tryz.ntmps18; go_wp2; go_loopg [1, 5] k (fun kq v1 v5 w' => ∃ (x0_1 : List Int) (x1_1 : Int) (x5_1 : Int), v1 = .int .i64 x1_1 ∧ v5 = .int .i64 x5_1 ∧ Aside0 (laws_markIntS.l0 kq x0_1 x1_1 x5_1 = some (r1, r2)) ∧ Aside0 (kq ≤ k) ∧ Aside0 (Kd.R (Kd.int .i64) 3 w' w0.heap.size (fun k_ => (P0_ k_ ∨ w.heap.size ≤ k_)) u9000_ x0_1) ∧ Aside0 (Kept w w' (fun k_ => P0_ k_)) ∧ Aside0 (Below w0.heap.size w0 w'))
 case atStart => exact ⟨(l0), (a1), (0), zB, zB, H', ⟨Nat.le_refl _⟩, ⟨zF HO0.out⟩, ⟨zW HK.out⟩, ⟨zA HB.out⟩⟩
 case round =>
  clear H'; (try clear c1); (try clear p2); obtain ⟨x0_1, x1_1, x5_1, rfl, rfl, HA, HK1, HO_0, HK, HB⟩ := hrel
  cases gk with
  | zero => exact absurd HA.out (by simp [laws_markIntS.l0])
  | succ k1 =>
   have H := HA.out; clear HA; simp only [laws_markIntS.l0] at H; by_cases c3 : x5_1 < (x0_1.length : Int)
   ·
    rw [if_pos c3] at H; have c3b0 : decide (x5_1 < (x0_1.length : Int)) = true := decide_eq_true c3; clear c3; by_cases c4 : 0 ≤ x5_1
    ·
     rw [if_pos c4] at H; have c4b0 : decide (0 ≤ x5_1) = true := decide_eq_true c4; clear c4; obtain ⟨y374, hy374⟩ : ∃ y_ : List Int, y_ = (x0_1.set (x5_1 : Int).toNat x1_1) := ⟨_, rfl⟩; replace H : (laws_markIntS.l0 k1 y374 (wrap64 (x1_1 + 1)) (wrap64 (x5_1 + 1))) = some (r1, r2) := by first | (rw [hy374]; with_reducible exact H) | (have H2_ := (Option.bind_some _ _).symm.trans H; rw [hy374]; with_reducible exact H2_) | (have H2_ := (Option.bind_some _ _).symm.trans H; with_reducible exact H2_) | with_reducible exact H | (rw [hy374]; exact H) | exact H
     have Ny374 := az hy374; clear hy374; have H' := az H; clear H; obtain ⟨Ao6, co6, eo6⟩ := Kd.R_slice HO_0.out; subst eo6; have p5 : 0 ≤ (x5_1 : Int) := of_decide_eq_true (by assumption); have q5 : (x5_1 : Int) < ((x0_1.length : Int) : Int) := of_decide_eq_true (by assumption); obtain ⟨go5, co5, eo5, gb5, gl5, cl5, HG5⟩ := Kd.R_form HO_0.out (by omega); (first | cases eo5 | (injection eo5 with ea_ en_ ec_; (first | subst ea_ | (injection ea_ with ea_; subst ea_)); subst ec_; clear en_)); have GB5 := az gb5; have GG5 := az HG5; clear gb5 gl5 HG5; have HMgo5 := az (show (P0_ go5 ∨ w.heap.size ≤ go5) from (HO_0.out.1 _ rfl)); obtain ⟨hx5_0, hf5_0⟩ := Kd.R_celln 0 HO_0.out (x5_1 : Int) p5 q5; replace p5 := eq_true p5; replace q5 := eq_true q5; have HP7 := Kd.R_putg HO_0.out (x5_1 : Int) x1_1; go_wp2_with (first | ((with_reducible refine gate_store (t := 3) (p := 15) rfl ?_); refine store_event (t := 3) (p := 15) (v := ?vo_w8) (w1 := (wr.setCell ⟨go5, (x5_1 : Int).toNat, none⟩ (.int .i64 x1_1))) ?hg ?ho ?hn ?hr ?_; (case ho => rfl); (case hg => rfl); (case hn => rfl); (case hr => first | (go_simp; done) | (go_simp; rfl)); intro w8 hw; have hg : wr.grownBy w8 (some go5) := (by rw [hw]; exact HP7.2); have hp_ : Kd.R (Kd.int .i64) 3 w8 w0.heap.size (fun k_ => (P0_ k_ ∨ w.heap.size ≤ k_)) (.slice (some ⟨go5, 0, none⟩) x0_1.length co6) y374 := (by rw [hw, Ny374.out]; exact HP7.1); clear HP7; have n0_ := az (hp_); have n1_ := az ((by rw [hw]; exact below_set (HB.out) GB5.out : Below w0.heap.size w0 w8)); have n2_ := az (Kept.of_grown (S := (fun k_ => P0_ k_)) hg (zW HK.out) (fun k_ e_ => (HO_0.out.1 k_ e_))); clear HO_0; clear HB; clear HK; have HO_0 := n0_; have HB := n1_; have HK := n2_; clear n0_ n1_ n2_; clear hg hw hp_)); go_roundg k1
     case measure => have := HK1.out; omega
     case rel => exact ⟨(y374), (wrap64 (x1_1 + 1)), (wrap64 (x5_1 + 1)), zB, zB, H', ⟨zE HK1.out⟩, ⟨zF HO_0.out⟩, ⟨zW HK.out⟩, ⟨zA HB.out⟩⟩
    ·
     rw [if_neg c4] at H; exact absurd H (by simp)
   ·
    rw [if_neg c3] at H; have c3b0 : decide (x5_1 < (x0_1.length : Int)) = false := decide_eq_false c3; clear c3; simp only [Option.some.injEq, Prod.mk.injEq] at H; obtain ⟨rfl, rfl⟩ := H; obtain ⟨Ao9, co9, eo9⟩ := Kd.R_slice HO_0.out; subst eo9; go_wp2; go_ret; exact ⟨zG, zF HO_0.out, zA HB.out, zW HK.out⟩
def laws_heldIntS.l0 : Nat → List Int → Int → Int → Option (Int)
 | 0, _, _, _ => none
 | k + 1, x0, x1, x5 => if x5 < (x0.length : Int) then (if 0 ≤ x5 then (if (rd x0 x5) = x1 then (laws_heldIntS.l0 k x0 (wrap64 (x1 + 1)) (wrap64 (x5 + 1))) else (some (-1))) else (none)) else (some x1)
def laws_heldIntS.f (k : Nat) (l0 : List Int) (a1 : Int) : Option (Int) := laws_heldIntS.l0 k l0 a1 0
theorem laws_heldIntS.mono_l : ∀ k, (∀ y0 y1 y2, LeO (laws_heldIntS.l0 k y0 y1 y2) (laws_heldIntS.l0 (k + 1) y0 y1 y2))
 | 0 => fun _ _ _ r h => by simp [laws_heldIntS.l0] at h
 | k + 1 => by
  have ih0 := laws_heldIntS.mono_l k
  ·
   intro y0 y1 y2; unfold laws_heldIntS.l0
   repeat' first
   | (with_reducible exact ih0 _ _ _)
   | (with_reducible exact LeO.refl _)
   | (with_reducible exact LeO.none _)
   | (with_reducible refine LeO.ite ?_ ?_)
   | (with_reducible refine LeO.bind ?_ (fun _ => ?_))
   | exact ih0 _ _ _
   | exact LeO.none _
   | refine LeO.ite ?_ ?_
   | refine LeO.bind ?_ (fun _ => ?_)
theorem laws_heldIntS.mono : ∀ a0 a1 k, LeO (laws_heldIntS.f k a0 a1) (laws_heldIntS.f (k + 1) a0 a1) := by
 intro a0 a1 k; have ih0 := laws_heldIntS.mono_l k; unfold laws_heldIntS.f
 repeat' first
   | (with_reducible exact ih0 _ _ _)
   | (with_reducible exact LeO.refl _)
   | (with_reducible exact LeO.none _)
   | (with_reducible refine LeO.ite ?_ ?_)
   | (with_reducible refine LeO.bind ?_ (fun _ => ?_))
   | exact ih0 _ _ _
   | exact LeO.none _
   | refine LeO.ite ?_ ?_
   | refine LeO.bind ?_ (fun _ => ?_)
theorem laws_heldIntS.calls (k : Nat) (A0 : Option Addr) (c0 : Nat) (l0 : List Int) (a1 : Int) (r : Int) (w : World) (hr0 : Kd.C (Kd.int .i64) w A0 l0.length l0) (hc0 : l0.length ≤ c0) (h : laws_heldIntS.f k l0 a1 = some r) :
  Calls Tryz.prog 20 #[.slice A0 l0.length c0, .int .i64 a1] w fun e w' => e = .returned (.int .i64 r) ∧ Drawn0 w w' := by
 have HR0 := az hr0; have HC0 := az hc0; clear hr0 hc0; have H : (laws_heldIntS.l0 k l0 a1 0) = some r := h; clear h; have H' := az H; clear H; go_enter Tryz.func20, Tryz.ntmps20; go_wp2; go_loopg [1, 5] k (fun kq v1 v5 w' => ∃ (x1_1 : Int) (x5_1 : Int), v1 = .int .i64 x1_1 ∧ v5 = .int .i64 x5_1 ∧ Aside0 (laws_heldIntS.l0 kq l0 x1_1 x5_1 = some r) ∧ Aside0 (kq ≤ k) ∧ Drawn0 w w')
 case atStart => exact ⟨(a1), (0), zB, zB, H', ⟨Nat.le_refl _⟩, zD⟩
 case round =>
  clear H'; (try clear c2); (try clear p2); obtain ⟨x1_1, x5_1, rfl, rfl, HA, HK1, ⟨m1, rfl⟩⟩ := hrel
  cases gk with
  | zero => exact absurd HA.out (by simp [laws_heldIntS.l0])
  | succ k1 =>
   have H := HA.out; clear HA; simp only [laws_heldIntS.l0] at H; by_cases c3 : x5_1 < (l0.length : Int)
   ·
    rw [if_pos c3] at H; have c3b0 : decide (x5_1 < (l0.length : Int)) = true := decide_eq_true c3; clear c3; by_cases c4 : 0 ≤ x5_1
    ·
     rw [if_pos c4] at H; have c4b0 : decide (0 ≤ x5_1) = true := decide_eq_true c4; clear c4; by_cases c5 : (rd l0 x5_1) = x1_1
     ·
      rw [if_pos c5] at H; have c5b0 : ((rd l0 x5_1) == x1_1) = true := beq_iff_eq.mpr c5; have c5b1 : ((rd l0 x5_1) != x1_1) = false := bne_eq_false_iff_eq.mpr c5; clear c5; have H' := az H; clear H; have p379 : 0 ≤ (x5_1 : Int) := of_decide_eq_true (by assumption); have q379 : x5_1 < (l0.length : Int) := of_decide_eq_true (by assumption); obtain ⟨ad379, e379, hx379_0⟩ := Kd.at_int HR0.out x5_1 p379 q379
      cases e379
      replace p379 := eq_true p379; replace q379 := eq_true q379; go_wp2; go_roundg k1
      case measure => have := HK1.out; omega
      case rel => exact ⟨(wrap64 (x1_1 + 1)), (wrap64 (x5_1 + 1)), zB, zB, H', ⟨zE HK1.out⟩, zD⟩
     ·
      rw [if_neg c5] at H; have c5b0 : ((rd l0 x5_1) == x1_1) = false := beq_eq_false_iff_ne.mpr c5; have c5b1 : ((rd l0 x5_1) != x1_1) = true := bne_iff_ne.mpr c5; obtain rfl := Option.some.inj H; have p379 : 0 ≤ (x5_1 : Int) := of_decide_eq_true (by assumption); have q379 : x5_1 < (l0.length : Int) := of_decide_eq_true (by assumption); obtain ⟨ad379, e379, hx379_0⟩ := Kd.at_int HR0.out x5_1 p379 q379
      cases e379
      replace p379 := eq_true p379; replace q379 := eq_true q379; go_wp2; go_ret; exact ⟨zB, zD⟩
    ·
     rw [if_neg c4] at H; exact absurd H (by simp)
   ·
    rw [if_neg c3] at H; have c3b0 : decide (x5_1 < (l0.length : Int)) = false := decide_eq_false c3; clear c3; obtain rfl := Option.some.inj H; go_wp2; go_ret; exact ⟨zB, zD⟩
end Go.Proofs.YtmcdcogedcbndaaGreat.S
/- What the laws' own helpers answer: a copy, equality, a row written with 1, 2, 3 .., and whether it still holds that. -/
namespace Go.Proofs.YtmcdcogedcbndaaGreat.Pure
open Go.RowKit Go.Proofs.YtmcdcogedcbndaaGreat.S Go.Proofs.YtmcdcogedcbndaaGreatW.PrintWords Go.Proofs.YtmcdcogedcbndaaGreatW.PrintLast
end Go.Proofs.YtmcdcogedcbndaaGreat.Pure
/- Letters that are ok, by both texts. -/
namespace Go.Proofs.YtmcdcogedcbndaaGreat.Pure
open Go.RowKit Go.Proofs.YtmcdcogedcbndaaGreat.S Go.Proofs.YtmcdcogedcbndaaGreatW.PrintWords Go.Proofs.YtmcdcogedcbndaaGreatW.PrintLast
theorem l1In_p (a b c : Int) : spec_l1In.f a b c = some (decide (b ≤ a) && decide (a ≤ c)) := by
 unfold spec_l1In.f
 by_cases h : b ≤ a <;> simp [h]
def sizeV (a : Int) : Int := if 0 ≤ a ∧ a ≤ 127 then 1 else if 128 ≤ a ∧ a ≤ 2047 then 2 else if 55296 ≤ a ∧ a ≤ 57343 then 0 else if 2048 ≤ a ∧ a ≤ 65535 then 3 else if 65536 ≤ a ∧ a ≤ 1114111 then 4 else 0
theorem size_f (a : Int) : spec_l1Size.f a = some (sizeV a) := by
 simp only [spec_l1Size.f, l1In_p, Option.bind_some, sizeV]
 grind
theorem size_let (a : Int) : sizeV a = 0 ↔ isLetV a = false := by
 simp only [isLetV, sizeV]
 grind
theorem size_p (a : Int) : ∃ s, spec_l1Size.f a = some s ∧ (s = 0 ↔ isLetV a = false) := ⟨_, size_f a, size_let a⟩
theorem ok_l (l : List Int) (hn : l.length ≤ 1099511627776) : ∀ (d k i : Nat), l.length - i = d → i ≤ l.length → d < k →
  spec_l1Ok.l0 k l (i : Int) = some ((l.drop i).all isLetV && decide (l.length ≤ 80))
 | 0, k, i, hd, hi, hk => by
  obtain ⟨k, rfl⟩ : ∃ m, k = m + 1 := ⟨k - 1, by omega⟩
  have e : i = l.length := by omega
  subst e
  rw [spec_l1Ok.l0, if_neg (by omega), List.drop_length]
  simp only [List.all_nil, Bool.true_and, Option.some.injEq, decide_eq_decide]
  omega
 | d + 1, k, i, hd, hi, hk => by
  obtain ⟨k, rfl⟩ : ∃ m, k = m + 1 := ⟨k - 1, by omega⟩
  have hlt : i < l.length := by omega
  obtain ⟨s, hs, hz⟩ := size_p l[i]
  rw [spec_l1Ok.l0, if_pos (by omega), if_pos (by omega), w64 (by omega) (by omega), rd_get hlt, hs, Option.bind_some, List.drop_eq_getElem_cons hlt, List.all_cons]
  have := ok_l l hn d k (i + 1) (by omega) (by omega) (by omega)
  rw [show ((i : Int) + 1) = ((i + 1 : Nat) : Int) by omega, this]
  by_cases h : s = 0
  · rw [if_pos h, hz.1 h]; simp
  ·
   have : isLetV l[i] = true := by
    cases e : isLetV l[i]
    · exact absurd (hz.2 e) h
    · rfl
   rw [if_neg h, this, Bool.true_and]
theorem ok_p {l : List Int} {k : Nat} (hn : l.length ≤ 1099511627776) (hk : l.length < k) : spec_l1Ok.f k l = some (okV l) := by
 unfold spec_l1Ok.f
 have := ok_l l hn l.length k 0 (by omega) (by omega) hk
 rw [show ((0 : Nat) : Int) = 0 from rfl] at this
 rw [this, List.drop_zero, okV, Bool.and_comm]
theorem ok_len {l : List Int} (h : okV l = true) : l.length ≤ 80 := by
 simp [okV] at h; exact h.1
end Go.Proofs.YtmcdcogedcbndaaGreat.Pure
/- What both texts ask ahead of filling; where a line must end. -/
namespace Go.Proofs.YtmcdcogedcbndaaGreat.Pure
open Go.RowKit Go.Proofs.YtmcdcogedcbndaaGreat.S Go.Proofs.YtmcdcogedcbndaaGreatW.PrintWords Go.Proofs.YtmcdcogedcbndaaGreatW.PrintLast
theorem idx_l (bs : List Int) (fr n : Nat) (hb : bs.length ≤ 1000) : ∀ (d k i : Nat), bs.length - fr - i = d → fr + i ≤ bs.length → d < k → (∃ p, fr + i ≤ p ∧ p < bs.length ∧ bs.getD p 0 = 2) →
  ∃ x : Nat, slices_Index_int_int.l0 k (bs.drop fr) 2 ((bs.drop fr).length : Int) (i : Int) = some (x : Int) ∧ x < bs.length ∧ mustN bs n (bs.length - (fr + i)) (fr + i) = fr + x + 1
 | 0, k, i, hd, hi, hk, hp => by
  obtain ⟨p, h1, h2, _⟩ := hp
  omega
 | d + 1, k, i, hd, hi, hk, hp => by
  obtain ⟨k, rfl⟩ : ∃ m, k = m + 1 := ⟨k - 1, by omega⟩
  have hlt : fr + i < bs.length := by omega
  have e : rd (bs.drop fr) (i : Int) = bs.getD (fr + i) 0 := by rw [rd_nat]; simp [List.getD_eq_getElem?_getD]
  have hl : (bs.drop fr).length = bs.length - fr := by simp
  rw [slices_Index_int_int.l0, if_pos (by omega), if_pos (by omega), if_pos (by omega), e, show bs.length - (fr + i) = (bs.length - (fr + (i + 1))) + 1 by omega, mustN]
  by_cases h : bs.getD (fr + i) 0 = 2
  ·
   rw [if_pos h.symm, if_pos h]
   exact ⟨i, rfl, by omega, rfl⟩
  ·
   rw [if_neg (fun x => h x.symm), if_neg h, w64 (by omega) (by omega), show ((i : Int) + 1) = ((i + 1 : Nat) : Int) by omega]
   obtain ⟨p, h1, h2, h3⟩ := hp
   exact idx_l bs fr n hb d k (i + 1) (by omega) (by omega) (by omega) ⟨p, by (by_cases q : p = fr + i; (subst q; exact absurd h3 h); omega), h2, h3⟩
theorem idx_p {bs : List Int} {fr n k : Nat} (hb : bs.length ≤ 1000) (hk : bs.length < k) (hp : ∃ p, fr ≤ p ∧ p < bs.length ∧ bs.getD p 0 = 2) : ∃ x : Nat, slices_Index_int_int.f k (bs.drop fr) 2 = some (x : Int) ∧ x < bs.length ∧ mustV bs n fr = fr + x + 1 := by
 obtain ⟨p, h1, h2, h3⟩ := hp
 exact idx_l bs fr n hb _ k 0 rfl (by omega) (by omega) ⟨p, by omega, h2, h3⟩
theorem bs_last {rs : List Int} (h : 0 < rs.length) : (bsV rs).getD (rs.length - 1) 0 = 2 := by
 rw [bsV_get (by omega), brV, if_pos (by omega)]
def fillV (rs : List Int) (sp : List Sp) (wide : Int) : Bool := okV rs && (spansV sp (rs.length : Int) && decide (0 ≤ wide ∧ wide ≤ 20000))
theorem allS_p {rs : List Int} {sp : List Sp} {wide : Int} {k : Nat} (hn : rs.length ≤ 1099511627776) (hs : sp.length ≤ 1099511627776) (hk : rs.length < k) (hk2 : sp.length < k) : spec_l7All.f k rs sp wide = some (fillV rs sp wide) := by
 unfold spec_l7All.f fillV
 rw [ok_p hn hk, Option.bind_some]
 cases ho : okV rs
 · rw [if_neg (by decide), Bool.false_and]
 ·
  have := ok_len ho
  rw [if_pos rfl, spansS_p hs (by omega) (by omega) hk2, Option.bind_some, Bool.true_and]
  cases spansV sp (rs.length : Int)
  · rw [if_neg (by decide), Bool.false_and]
  · rw [if_pos rfl, l1In_f, Option.bind_some, Bool.true_and]
theorem allI_p {rs : List Int} {sp : List Sp} {wide : Int} {k : Nat} (hs : sp.length ≤ 1099511627776) (hk2 : sp.length < k) : impl_fillable.f k rs sp wide = some (fillV rs sp wide) := by
 unfold impl_fillable.f fillV
 rw [show impl_lettersOk.f rs = some (okV rs) from rfl, Option.bind_some]
 cases ho : okV rs
 · rw [if_neg (by decide), Bool.false_and]
 ·
  rw [if_pos rfl, spansI_p hs hk2, Option.bind_some, Bool.true_and]
  cases spansV sp (rs.length : Int)
  · rw [if_neg (by decide), Bool.false_and]
  ·
   rw [if_pos rfl, Bool.true_and]
   unfold impl_isWide.f
   by_cases h0 : wide ≥ 0
   ·
    rw [if_pos h0, Option.bind_some]
    congr 1
    rw [decide_eq_decide]
    omega
   · rw [if_neg h0, Option.bind_some, decide_eq_false (by omega)]
theorem fill_ok {rs : List Int} {sp : List Sp} {wide : Int} (h : fillV rs sp wide = true) : rs.length ≤ 80 ∧ SpB sp ∧ sp.length ≤ 12 ∧ okV rs = true := by
 unfold fillV at h
 rw [Bool.and_eq_true, Bool.and_eq_true] at h
 refine ⟨ok_len h.1, spB_of h.2.1, ?_, h.1⟩
 have := h.2.1
 unfold spansV at this
 rw [Bool.and_eq_true, Bool.and_eq_true, decide_eq_true_eq] at this
 exact this.2.1
end Go.Proofs.YtmcdcogedcbndaaGreat.Pure
/- The best lines by both texts: one table for the other. -/
namespace Go.Proofs.YtmcdcogedcbndaaGreat.Pure
open Go.RowKit Go.Proofs.YtmcdcogedcbndaaGreat.S Go.Proofs.YtmcdcogedcbndaaGreatW.PrintWords Go.Proofs.YtmcdcogedcbndaaGreatW.PrintLast
def RB (n a : Nat) (b p : Int × Int) : Prop := p.1 = b.1 ∧ p.2 = (if b.2 < 0 then 0 else b.2) ∧ b.2 ≠ 0 ∧ 0 ≤ b.1 ∧ b.1 ≤ ((n - a : Nat) : Int) * 100000000000 ∧ (b.2 < 0 ∨ ((a : Int) < b.2 ∧ b.2 ≤ (n : Int)))
def HEq (n : Nat) (T P : Nat → Int × Int) (e : Nat) : Prop := (P e).1 = (T e).1 ∧ ((P e).2 = 0 ↔ (e < n ∧ (T e).2 < 0)) ∧ 0 ≤ (T e).1 ∧ (T e).1 ≤ ((n - e : Nat) : Int) * 100000000000
theorem step_rel (bs : List Int) (F : Nat → Nat → Bool) (C : Nat → Nat → Int) (n : Nat) (T P : Nat → Int × Int) (a e : Nat) (cur cup : Int × Int) (hae : a < e) (hen : e ≤ n) (hC : 0 ≤ C a e ∧ C a e ≤ 100000000000) (h : HEq n T P e) (hr : RB n a cur cup) : RB n a (stepB bs F C n T a e cur) (stepP bs F C P a e cup) := by
 obtain ⟨h1, h2, h3, h4⟩ := h
 unfold stepB stepP
 by_cases hs : bs.getD (e - 1) 0 = 0 ∨ F a e = false ∨ (e < n ∧ (T e).2 < 0)
 ·
  have hs2 : bs.getD (e - 1) 0 = 0 ∨ F a e = false ∨ (P e).2 = 0 := hs.imp_right (Or.imp_right h2.mpr)
  rw [if_pos hs, if_pos hs2]
  exact hr
 ·
  have hs2 : ¬ (bs.getD (e - 1) 0 = 0 ∨ F a e = false ∨ (P e).2 = 0) := fun h => hs (h.imp_right (Or.imp_right h2.mp))
  rw [if_neg hs, if_neg hs2]
  obtain ⟨r1, r2, r3, r4, r5, r6⟩ := hr
  have hz : cup.2 = 0 ↔ cur.2 < 0 := by
   rw [r2]
   split <;> omega
  by_cases hc : cur.2 < 0 ∨ C a e + (T e).1 < cur.1
  ·
   have hc2 : cup.2 = 0 ∨ (P e).1 + C a e < cup.1 := hc.imp hz.mpr (fun h => by rw [h1, r1]; omega)
   rw [if_pos hc, if_pos hc2]
   have e1 : ¬ (e : Int) < 0 := by omega
   refine ⟨by show (P e).1 + C a e = C a e + (T e).1; omega, by show (e : Int) = if (e : Int) < 0 then 0 else (e : Int); rw [if_neg e1], by show (e : Int) ≠ 0; omega, by show 0 ≤ C a e + (T e).1; omega, by show C a e + (T e).1 ≤ _; omega, .inr ⟨by show (a : Int) < (e : Int); omega, by show (e : Int) ≤ (n : Int); omega⟩⟩
  ·
   have hc2 : ¬ (cup.2 = 0 ∨ (P e).1 + C a e < cup.1) := fun h => hc (h.imp hz.mp (fun h => by rw [h1, r1] at h; omega))
   rw [if_neg hc, if_neg hc2]
   exact ⟨r1, r2, r3, r4, r5, r6⟩
theorem row_rel (bs : List Int) (F : Nat → Nat → Bool) (C : Nat → Nat → Int) (n : Nat) (T P : Nat → Int × Int) (a : Nat) (hC : ∀ e, a < e → e ≤ n → 0 ≤ C a e ∧ C a e ≤ 100000000000) : ∀ (g e : Nat) (cur cup : Int × Int), a < e → e + g ≤ n + 1 → (∀ j, e ≤ j → j < e + g → HEq n T P j) → RB n a cur cup → RB n a (rowB bs F C n T a g e cur) (rowP bs F C P a g e cup)
 | 0, _, _, _, _, _, _, hr => hr
 | g + 1, e, cur, cup, hae, hen, h, hr => by
  rw [rowB, rowP]
  exact row_rel bs F C n T P a hC g (e + 1) _ _ (by omega) (by omega) (fun j h1 h2 => h j (by omega) (by omega)) (step_rel bs F C n T P a e cur cup hae (by omega) (hC e hae (by omega)) (h e (Nat.le_refl _) (by omega)) hr)
theorem tabB_hi (bs : List Int) (F : Nat → Nat → Bool) (C : Nat → Nat → Int) (n : Nat) : ∀ d, d ≤ n → tabB bs F C n d n = (0, 0)
 | 0, _ => rfl
 | d + 1, h => by
  rw [tabB, updV_ne _ _ (by omega)]
  exact tabB_hi bs F C n d (by omega)
theorem tabP_hi (bs : List Int) (F : Nat → Nat → Bool) (C : Nat → Nat → Int) (M : Nat → Nat) (n : Nat) : ∀ d, d ≤ n → tabP bs F C M n d n = (0, (n : Int))
 | 0, _ => rfl
 | d + 1, h => by
  rw [tabP, updV_ne _ _ (by omega)]
  exact tabP_hi bs F C M n d (by omega)
theorem tab_rel (bs : List Int) (F : Nat → Nat → Bool) (C : Nat → Nat → Int) (M : Nat → Nat) (n : Nat) (hM : ∀ i, i < n → M i = mustV bs n i ∧ i < M i ∧ M i ≤ n) (hC : ∀ a e, a < e → e ≤ n → 0 ≤ C a e ∧ C a e ≤ 100000000000) : ∀ d, d ≤ n → ∀ j, n - d ≤ j → j < n → RB n j (tabB bs F C n d j) (tabP bs F C M n d j)
 | 0, _, j, h1, h2 => by omega
 | d + 1, h, j, h1, h2 => by
  have ih := tab_rel bs F C M n hM hC d (by omega)
  rw [tabB, tabP]
  by_cases hj : j = n - 1 - d
  ·
   rw [hj, updV_at, updV_at]
   obtain ⟨a, ha⟩ : ∃ a, n - 1 - d = a := ⟨_, rfl⟩
   rw [ha]
   obtain ⟨m1, m2, m3⟩ := hM a (by omega)
   rw [← m1]
   refine row_rel bs F C n _ _ a (fun e h1 h2 => hC a e h1 h2) (M a - a) (a + 1) _ _ (by omega) (by omega) (fun i hi1 hi2 => ?_) ⟨rfl, rfl, by decide, Int.le_refl _, by show (0 : Int) ≤ _; omega, .inl (by decide)⟩
   by_cases hin : i < n
   ·
    obtain ⟨r1, r2, r3, r4, r5, r6⟩ := ih i (by omega) hin
    refine ⟨r1, ?_, r4, r5⟩
    rw [r2]
    constructor
    ·
     intro q
     refine ⟨hin, ?_⟩
     split at q
     · assumption
     · exact absurd q r3
    ·
     intro q
     rw [if_pos q.2]
   ·
    obtain rfl : i = n := by omega
    rw [HEq, tabB_hi bs F C i d (by omega), tabP_hi bs F C M i d (by omega)]
    refine ⟨rfl, ⟨fun q => ?_, fun q => ?_⟩, Int.le_refl _, by show (0 : Int) ≤ _; omega⟩
    ·
     have q2 : (i : Int) = 0 := q
     omega
    · omega
  ·
   rw [updV_ne _ _ hj, updV_ne _ _ hj]
   exact ih j (by omega) h2
theorem out_rel (n : Nat) (T P : Nat → Int × Int) (h : ∀ j, j < n → RB n j (T j) (P j)) : ∀ (g a : Nat), n - a ≤ g → outP P n g a = outB T n g a ∧ (outB T n g a).isSome = true
 | 0, a, hg => by
  rw [outP, outB, if_neg (show ¬ a < n by omega)]
  exact ⟨rfl, rfl⟩
 | g + 1, a, hg => by
  rw [outP, outB]
  by_cases hlt : a < n
  ·
   rw [if_pos hlt, if_pos hlt]
   obtain ⟨r1, r2, r3, r4, r5, r6⟩ := h a hlt
   by_cases hb : (T a).2 < 0
   ·
    rw [if_pos hb] at r2
    rw [if_pos r2, if_pos hb]
    exact ⟨rfl, rfl⟩
   ·
    rw [if_neg hb] at r2
    have r7 := r6.resolve_left hb
    have hc : 0 ≤ (T a).2 ∧ (T a).2 ≤ (n : Int) := ⟨by omega, r7.2⟩
    rw [r2, if_neg r3, if_neg hb, if_pos hc, if_pos r7.2]
    obtain ⟨i1, i2⟩ := out_rel n T P h g (T a).2.toNat (by omega)
    rw [i1]
    obtain ⟨x, hx⟩ := Option.isSome_iff_exists.mp i2
    rw [hx]
    exact ⟨rfl, rfl⟩
  ·
   rw [if_neg hlt, if_neg hlt]
   exact ⟨rfl, rfl⟩
theorem greedy_rel (n : Nat) (N N' : Nat → Int) (h : ∀ j, j < n → N j = N' j ∧ (j : Int) < N' j ∧ N' j ≤ (n : Int)) : ∀ (g a : Nat), n - a ≤ g → greedyN N n g a = greedyN N' n g a ∧ (greedyN N' n g a).isSome = true
 | 0, a, hg => by
  rw [greedyN, greedyN, if_neg (show ¬ a < n by omega)]
  exact ⟨rfl, rfl⟩
 | g + 1, a, hg => by
  rw [greedyN, greedyN]
  by_cases hlt : a < n
  ·
   obtain ⟨h1, h2, h3⟩ := h a hlt
   have hc : 0 ≤ N' a ∧ N' a ≤ (n : Int) := ⟨by omega, h3⟩
   rw [if_pos hlt, if_pos hlt, h1, if_pos hc, if_pos hc]
   obtain ⟨i1, i2⟩ := greedy_rel n N N' h g (N' a).toNat (by omega)
   rw [i1]
   obtain ⟨x, hx⟩ := Option.isSome_iff_exists.mp i2
   rw [hx]
   exact ⟨rfl, rfl⟩
  ·
   rw [if_neg hlt, if_neg hlt]
   exact ⟨rfl, rfl⟩
theorem greedyN_len (N : Nat → Int) (n : Nat) : ∀ (g a : Nat) (l : List Int), greedyN N n g a = some l → l.length ≤ g
 | 0, a, l, h => by
  rw [greedyN] at h
  split at h
  · cases h
  · cases h; exact Nat.le_refl _
 | g + 1, a, l, h => by
  rw [greedyN] at h
  split at h
  ·
   split at h
   ·
    obtain ⟨l2, h2, h3⟩ := Option.bind_eq_some_iff.mp h
    cases h3
    have := greedyN_len N n g _ _ h2
    rw [List.length_cons]
    omega
   · cases h
  · cases h; exact Nat.zero_le _
theorem outB_len (T : Nat → Int × Int) (n : Nat) : ∀ (g a : Nat) (l : List Int), outB T n g a = some (some l) → l.length ≤ g
 | 0, a, l, h => by
  rw [outB] at h
  split at h
  · cases h
  · cases h; exact Nat.le_refl _
 | g + 1, a, l, h => by
  rw [outB] at h
  split at h
  ·
   split at h
   · cases h
   ·
    split at h
    ·
     obtain ⟨o, h2, h3⟩ := Option.bind_eq_some_iff.mp h
     cases o with
     | none => cases h3
     | some l2 =>
      cases h3
      have := outB_len T n g _ _ h2
      rw [List.length_cons]
      omega
    · cases h
  · cases h; exact Nat.zero_le _
def Ch (M : Nat → Nat) (n : Nat) : Nat → List Int → Prop
 | a, [] => ¬ a < n
 | a, e :: l => a < n ∧ (a : Int) < e ∧ e ≤ (M a : Int) ∧ Ch M n e.toNat l
theorem greedy_ch (M : Nat → Nat) (n : Nat) (N : Nat → Int) (h : ∀ j, j < n → (j : Int) < N j ∧ N j ≤ (M j : Int)) : ∀ (g a : Nat) (l : List Int), greedyN N n g a = some l → Ch M n a l
 | 0, a, l, hl => by
  rw [greedyN] at hl
  split at hl
  · cases hl
  · cases hl; assumption
 | g + 1, a, l, hl => by
  rw [greedyN] at hl
  split at hl
  ·
   rename_i ha
   split at hl
   ·
    obtain ⟨l2, h2, h3⟩ := Option.bind_eq_some_iff.mp hl
    cases h3
    exact ⟨ha, (h a ha).1, (h a ha).2, greedy_ch M n N h g _ _ h2⟩
   · cases hl
  · cases hl; assumption
theorem out_ch (M : Nat → Nat) (n : Nat) (T : Nat → Int × Int) (h : ∀ j, j < n → (T j).2 < 0 ∨ ((j : Int) < (T j).2 ∧ (T j).2 ≤ (M j : Int))) : ∀ (g a : Nat) (l : List Int), outB T n g a = some (some l) → Ch M n a l
 | 0, a, l, hl => by
  rw [outB] at hl
  split at hl
  · cases hl
  · cases hl; assumption
 | g + 1, a, l, hl => by
  rw [outB] at hl
  split at hl
  ·
   rename_i ha
   split at hl
   · cases hl
   ·
    rename_i hb
    split at hl
    ·
     obtain ⟨o, h2, h3⟩ := Option.bind_eq_some_iff.mp hl
     cases o with
     | none => cases h3
     | some l2 =>
      cases h3
      have := (h a ha).resolve_left hb
      exact ⟨ha, this.1, this.2, out_ch M n T h g _ _ h2⟩
    · cases hl
  · cases hl; assumption
theorem rowB_le (bs : List Int) (F : Nat → Nat → Bool) (C : Nat → Nat → Int) (n : Nat) (T : Nat → Int × Int) (a : Nat) (m : Int) : ∀ (g e : Nat) (cur : Int × Int), ((e + g : Nat) : Int) ≤ m + 1 → cur.2 ≤ m → (rowB bs F C n T a g e cur).2 ≤ m
 | 0, _, _, _, h => h
 | g + 1, e, cur, h1, h => by
  rw [rowB]
  refine rowB_le bs F C n T a m g (e + 1) _ (by omega) ?_
  unfold stepB
  split
  · exact h
  ·
   split
   ·
    show (e : Int) ≤ m
    omega
   · exact h
theorem tabB_le (bs : List Int) (F : Nat → Nat → Bool) (C : Nat → Nat → Int) (n : Nat) (hm : ∀ i, i < n → i < mustV bs n i) : ∀ d, d ≤ n → ∀ j, n - d ≤ j → j < n → (tabB bs F C n d j).2 ≤ (mustV bs n j : Int)
 | 0, _, j, h1, h2 => by omega
 | d + 1, h, j, h1, h2 => by
  rw [tabB]
  by_cases hj : j = n - 1 - d
  ·
   subst hj
   rw [updV_at]
   have := hm (n - 1 - d) (by omega)
   exact rowB_le bs F C n _ _ _ _ _ _ (by omega) (by show (-1 : Int) ≤ _; omega)
  ·
   rw [updV_ne _ _ hj]
   exact tabB_le bs F C n hm d (by omega) j (by omega) h2
theorem next_le (bs : List Int) (F : Nat → Nat → Bool) (J : Nat → Bool) (n fr : Nat) (hm : fr < mustV bs n fr) : nextV bs F J n fr ≤ (mustV bs n fr : Int) := by
 unfold nextV
 rw [next_down]
 cases hd : downN bs F fr (mustV bs n fr - fr) with
 | some t =>
  have := down_pos bs F fr _ t hd
  dsimp only
  split
  · omega
  · split <;> omega
 | none =>
  dsimp only
  split
  · omega
  · split <;> omega
theorem ch_must (bs : List Int) (n : Nat) (hb : bs.length = n) : ∀ (l : List Int) (a : Nat), Ch (mustV bs n) n a l → ∀ p, a ≤ p → p < n → bs.getD p 0 = 2 → ((p : Int) + 1) ∈ l
 | [], a, h, p, h1, h2, _ => absurd (Nat.lt_of_le_of_lt h1 h2) h
 | e :: l, a, ⟨h0, h3, h4, h5⟩, p, h1, h2, h6 => by
  have hle : mustV bs n a ≤ p + 1 := must_first bs n (bs.length - a) a p h1 (by omega) h6
  by_cases he : e = (p : Int) + 1
  · rw [he]; exact List.mem_cons_self
  · exact List.mem_cons_of_mem _ (ch_must bs n hb l e.toNat h5 p (by omega) h2 h6)
theorem sumW_eq : ∀ (l : List Int) (a : Int), (∀ x ∈ l, 0 ≤ x ∧ x ≤ 1600) → 0 ≤ a → a + 1600 * (l.length : Int) ≤ 1000000000 → sumW l a = a + l.sum
 | [], a, _, _, _ => by simp [sumW]
 | x :: r, a, h, h0, h1 => by
  have hx := h x List.mem_cons_self
  rw [List.length_cons] at h1
  rw [sumW, w64 (by omega) (by omega), sumW_eq r (a + x) (fun y hy => h y (List.mem_cons_of_mem _ hy)) (by omega) (by omega), List.sum_cons]
  omega
theorem sum_le (l : List Int) : (∀ x ∈ l, (0 : Int) ≤ x ∧ x ≤ 1600) → 0 ≤ l.sum ∧ l.sum ≤ 1600 * (l.length : Int) := by
 induction l with
 | nil => intro _; simp
 | cons x r ih =>
  intro h
  have hx := h x List.mem_cons_self
  have := ih (fun y hy => h y (List.mem_cons_of_mem _ hy))
  rw [List.sum_cons, List.length_cons]
  omega
theorem bod_mono (rs : List Int) (fr : Nat) : ∀ (d t : Nat), fr ≤ t → bodV rs fr t ≤ bodV rs fr (t + d)
 | 0, t, _ => Nat.le_refl _
 | d + 1, t, h => by
  refine Nat.le_trans (bod_mono rs fr d t h) ?_
  show bodV rs fr (t + d) ≤ bodV rs fr (t + d + 1)
  have := bodV_le rs fr (t + d) (by omega)
  rw [bodV.eq_2]
  rw [if_pos (by omega)]
  split <;> omega
theorem take_mono (ws : List Int) (fr : Nat) (h : ∀ x ∈ ws, (0 : Int) ≤ x ∧ x ≤ 1600) : ∀ (d b : Nat), fr ≤ b → ((ws.take b).drop fr).sum ≤ ((ws.take (b + d)).drop fr).sum
 | 0, b, _ => Int.le_refl _
 | d + 1, b, hb => by
  refine Int.le_trans (take_mono ws fr h d b hb) ?_
  rw [show b + (d + 1) = (b + d) + 1 from rfl]
  by_cases hl : b + d < ws.length
  ·
   rw [List.take_add_one, List.getElem?_eq_getElem hl, List.drop_append_of_le_length (by rw [List.length_take]; omega), List.sum_append]
   have := h ws[b + d] (List.getElem_mem hl)
   simp
   omega
  ·
   rw [List.take_of_length_le (by omega), List.take_of_length_le (by omega)]
   exact Int.le_refl _
end Go.Proofs.YtmcdcogedcbndaaGreat.Pure
/- FillLines by both texts. -/
namespace Go.Proofs.YtmcdcogedcbndaaGreat.Pure
open Go.RowKit Go.Proofs.YtmcdcogedcbndaaGreat.S Go.Proofs.YtmcdcogedcbndaaGreatW.PrintWords Go.Proofs.YtmcdcogedcbndaaGreatW.PrintLast
def WV (rs ws : List Int) : Nat → Nat → Int := fun i j => if i ≤ j ∧ j ≤ rs.length then lwV rs ws i j else 0
def JV (rs : List Int) : Nat → Bool := fun i => if 0 < i ∧ i < rs.length then jV rs i else false
def MV (bs : List Int) : Nat → Nat := fun i => if i < bs.length then mustV bs bs.length i else 0
theorem ws_small {rs : List Int} {sp : List Sp} (h : SpB sp) : ∀ x ∈ wsV rs sp, 0 ≤ x ∧ x ≤ 1600 := by
 intro x hx
 unfold wsV at hx
 obtain ⟨i, _, rfl⟩ := List.mem_map.mp hx
 exact wdV_le h rs i
theorem lw_sum {rs ws : List Int} (hw : ∀ x ∈ ws, 0 ≤ x ∧ x ≤ 1600) (hl : ws.length = rs.length) (hn : rs.length ≤ 80) {i j : Nat} (hij : i ≤ j) (hj : j ≤ rs.length) : lwV rs ws i j = ((ws.take (bodV rs i j)).drop i).sum ∧ 0 ≤ lwV rs ws i j ∧ lwV rs ws i j ≤ 128000 := by
 have hm : ∀ x ∈ (ws.take (bodV rs i j)).drop i, 0 ≤ x ∧ x ≤ 1600 := fun x hx => hw x (List.mem_of_mem_take (List.mem_of_mem_drop hx))
 have hb := bodV_le rs i j hij
 have hle : ((ws.take (bodV rs i j)).drop i).length ≤ 80 := by
  rw [List.length_drop, List.length_take]
  omega
 have e : lwV rs ws i j = ((ws.take (bodV rs i j)).drop i).sum := by
  unfold lwV
  rw [sumW_eq _ 0 hm (Int.le_refl _) (by omega), Int.zero_add]
 have := sum_le _ hm
 rw [e]
 exact ⟨rfl, this.1, by omega⟩
theorem lw_mono {rs ws : List Int} (hw : ∀ x ∈ ws, 0 ≤ x ∧ x ≤ 1600) (hl : ws.length = rs.length) (hn : rs.length ≤ 80) {i j t : Nat} (hij : i ≤ j) (hjt : j ≤ t) (ht : t ≤ rs.length) : lwV rs ws i j ≤ lwV rs ws i t := by
 rw [(lw_sum hw hl hn hij (by omega)).1, (lw_sum hw hl hn (Nat.le_trans hij hjt) ht).1]
 have h1 := bod_mono rs i (t - j) j hij
 rw [show j + (t - j) = t by omega] at h1
 have h2 := take_mono ws i hw (bodV rs i t - bodV rs i j) (bodV rs i j) (bodV_le rs i j hij).1
 rwa [show bodV rs i j + (bodV rs i t - bodV rs i j) = bodV rs i t by omega] at h2
theorem WV_is (rs ws : List Int) {i j : Nat} (h1 : i ≤ j) (h2 : j ≤ rs.length) : WV rs ws i j = lwV rs ws i j := if_pos ⟨h1, h2⟩
theorem fit_mono {rs ws : List Int} {wide : Int} (hw : ∀ x ∈ ws, 0 ≤ x ∧ x ≤ 1600) (hl : ws.length = rs.length) (hn : rs.length ≤ 80) (fr i j : Nat) (h1 : fr < i) (h2 : i ≤ j) (h3 : j ≤ rs.length) (h : fitV (WV rs ws) wide fr j = true) : fitV (WV rs ws) wide fr i = true := by
 unfold fitV at h ⊢
 rw [decide_eq_true_eq, WV_is rs ws (by omega) (by omega)] at h ⊢
 exact Int.le_trans (lw_mono hw hl hn (by omega) h2 h3) h
theorem wide_near {rs ws : List Int} {wide : Int} (hw : ∀ x ∈ ws, 0 ≤ x ∧ x ≤ 1600) (hl : ws.length = rs.length) (hn : rs.length ≤ 80) (h0 : 0 ≤ wide ∧ wide ≤ 20000) {i j : Nat} (h1 : i ≤ j) (h2 : j ≤ rs.length) : (wide - WV rs ws i j).natAbs ≤ 148000 := by
 rw [WV_is rs ws h1 h2]
 have := lw_sum hw hl hn h1 h2
 omega
theorem cost_near {rs ws bs : List Int} {wide : Int} (hw : ∀ x ∈ ws, 0 ≤ x ∧ x ≤ 1600) (hl : ws.length = rs.length) (hn : rs.length ≤ 80) (h0 : 0 ≤ wide ∧ wide ≤ 20000) {i j : Nat} (h1 : i ≤ j) (h2 : j ≤ rs.length) : 0 ≤ costV bs (WV rs ws) wide i j ∧ costV bs (WV rs ws) wide i j ≤ 100000000000 := by
 have h := wide_near hw hl hn h0 h1 h2
 unfold costV
 split
 · omega
 ·
  obtain ⟨d, hd⟩ : ∃ d, wide - WV rs ws i j = d := ⟨_, rfl⟩
  rw [hd] at h ⊢
  have e := Int.natAbs_mul_self (a := d)
  have h3 := Nat.mul_le_mul h h
  omega
theorem must_ok {rs : List Int} {i : Nat} (hi : i < rs.length) : i < mustV (bsV rs) rs.length i ∧ mustV (bsV rs) rs.length i ≤ rs.length ∧ (bsV rs).getD (mustV (bsV rs) rs.length i - 1) 0 = 2 := by
 have h := must_is (bsV rs) rs.length ((bsV rs).length - i) i ⟨rs.length - 1, by omega, by rw [bsV_len]; omega, bs_last (by omega)⟩
 rw [bsV_len, show i + (rs.length - i) = rs.length by omega] at h
 unfold mustV
 rw [bsV_len]
 exact h
theorem MV_is {rs : List Int} {i : Nat} (hi : i < rs.length) : MV (bsV rs) i = mustV (bsV rs) rs.length i := by
 unfold MV
 rw [bsV_len, if_pos hi]
def eB (rs : List Int) (i : Nat) : Bool := decide (i = rs.length) || !jAt rs i
theorem ends_is (rs : List Int) : endsL (eB rs) rs.length = stsV rs ++ [(rs.length : Int)] := by
 unfold endsL stsV
 rw [List.range_succ, List.filter_append, List.map_append]
 congr 1
 ·
  congr 1
  refine List.filter_congr (fun x hx => ?_)
  have := List.mem_range.mp hx
  unfold eB
  rw [decide_eq_false (show ¬ x = rs.length by omega), Bool.false_or]
 ·
  rw [List.filter_cons_of_pos (by unfold eB; rw [decide_eq_true rfl, Bool.true_or])]
  rfl
theorem next_eq {rs ws : List Int} {wide : Int} (hw : ∀ x ∈ ws, 0 ≤ x ∧ x ≤ 1600) (hl : ws.length = rs.length) (hn : rs.length ≤ 80) {i : Nat} (hi : i < rs.length) :
  nextI (bsV rs) (fitV (WV rs ws) wide) (stsV rs ++ [(rs.length : Int)]) i (mustV (bsV rs) rs.length i) = some (nextV (bsV rs) (fitV (WV rs ws) wide) (JV rs) rs.length i) ∧ (i : Int) < nextV (bsV rs) (fitV (WV rs ws) wide) (JV rs) rs.length i ∧ nextV (bsV rs) (fitV (WV rs ws) wide) (JV rs) rs.length i ≤ (rs.length : Int) := by
 obtain ⟨m1, m2, m3⟩ := must_ok hi
 rw [← ends_is]
 refine next_is (bsV rs) (fitV (WV rs ws) wide) (JV rs) (eB rs) rs.length i hi (fun j h1 h2 => ?_) (fun a b h1 h2 h3 h4 => fit_mono hw hl hn i a b h1 h2 h3 h4) m1 m2 (by rw [m3]; decide) ?_
 ·
  unfold eB JV jAt
  by_cases hj : j = rs.length
  ·
   rw [decide_eq_true hj, Bool.true_or]
   exact ⟨fun _ h => (by omega), fun _ => rfl⟩
  ·
   rw [decide_eq_false hj, Bool.false_or, if_neg (by omega), if_pos ⟨by omega, by omega⟩]
   cases jV rs j
   · exact ⟨fun _ h => (by cases h.2), fun _ => rfl⟩
   · exact ⟨fun h => (by cases h), fun h => absurd ⟨by omega, rfl⟩ h⟩
 ·
  unfold eB
  by_cases hm : mustV (bsV rs) rs.length i = rs.length
  · rw [decide_eq_true hm, Bool.true_or]
  ·
   rw [bsV_get (by omega), brV] at m3
   rw [if_neg (by omega), show mustV (bsV rs) rs.length i - 1 + 1 = mustV (bsV rs) rs.length i by omega] at m3
   cases hjv : jV rs (mustV (bsV rs) rs.length i)
   ·
    unfold jAt
    rw [if_neg (by omega), hjv]
    simp
   ·
    rw [hjv, if_pos rfl] at m3
    cases m3
theorem tabs_s {rs ws : List Int} {k : Nat} (hn : rs.length ≤ 80) (hl : ws.length = rs.length) (hk : 2000 ≤ k) : okWS k rs ws ∧ tabWS k rs ws = WV rs ws ∧ okJS k rs ∧ tabJS k rs = JV rs := by
 have e : ∀ i j : Nat, i ≤ j → j ≤ rs.length → spec_l7Wide.f k rs ws (i : Int) (j : Int) = some (lwV rs ws i j) := fun i j h1 h2 => lineS_p (by omega) hl h1 h2 (by omega)
 have e2 : ∀ i : Nat, 0 < i → i < rs.length → spec_l2Joins.f k rs (i : Int) = some (jV rs i) := fun i h1 h2 => join_s (by omega) h1 h2 (by omega)
 refine ⟨fun j hj i hi => by rw [e i j hi hj]; rfl, ?_, fun i hi h0 => by rw [e2 i h0 hi]; rfl, ?_⟩
 ·
  funext i j
  unfold tabWS WV
  split
  ·
   rename_i h
   rw [e i j h.1 h.2]
   rfl
  · rfl
 ·
  funext i
  unfold tabJS JV
  split
  ·
   rename_i h
   rw [e2 i h.1 h.2]
   rfl
  · rfl
theorem tabs_i {rs ws : List Int} {k : Nat} (hn : rs.length ≤ 80) (hl : ws.length = rs.length) (hk : 2000 ≤ k) : okWI k rs ws ∧ tabWI k rs ws = WV rs ws ∧ okMI k (bsV rs) ∧ tabMI k (bsV rs) = MV (bsV rs) := by
 have e : ∀ i j : Nat, i ≤ j → j ≤ rs.length → impl_lineWide.f k rs ws (i : Int) (j : Int) = some (lwV rs ws i j) := fun i j h1 h2 => lineI_p (by omega) hl h1 h2 (by omega)
 have e2 : ∀ i : Nat, i < rs.length → ∃ x : Nat, slices_Index_int_int.f k ((bsV rs).drop i) 2 = some (x : Int) ∧ mustV (bsV rs) rs.length i = i + x + 1 := fun i h2 => by
  obtain ⟨x, h3, _, h4⟩ := idx_p (bs := bsV rs) (fr := i) (n := rs.length) (k := k) (by rw [bsV_len]; omega) (by rw [bsV_len]; omega) ⟨rs.length - 1, by omega, by rw [bsV_len]; omega, bs_last (by omega)⟩
  exact ⟨x, h3, h4⟩
 have e3 : tabMI k (bsV rs) = MV (bsV rs) := by
  funext i
  unfold tabMI MV
  split
  ·
   rename_i h
   rw [bsV_len] at h
   obtain ⟨x, h3, h4⟩ := e2 i h
   rw [h3, bsV_len, h4]
   simp only [Option.getD_some]
   omega
  · rfl
 refine ⟨fun j hj i hi => by rw [e i j hi hj]; rfl, ?_, fun i hi => ?_, e3⟩
 ·
  funext i j
  unfold tabWI WV
  split
  ·
   rename_i h
   rw [e i j h.1 h.2]
   rfl
  · rfl
 ·
  rw [bsV_len] at hi
  obtain ⟨x, h3, h4⟩ := e2 i hi
  rw [e3, MV_is hi, h3, bsV_len]
  exact ⟨rfl, by simp only [Option.getD_some]; omega, (must_ok hi).2.1⟩
theorem linesBoth {rs : List Int} {sp : List Sp} {wide mode : Int} {k : Nat} (hn : rs.length ≤ 1099511627776) (hs : sp.length ≤ 1099511627776) (hk : rs.length + sp.length + 3000 ≤ k) : ∃ r, spec_FillLines.f k rs sp wide mode = some r ∧ impl_FillLines.f k rs sp wide mode = some r ∧ r.length ≤ 1000 ∧ (r = [] ∨ (okV rs = true ∧ rs.length ≤ 80 ∧ Ch (mustV (bsV rs) rs.length) rs.length 0 r)) := by
 unfold spec_FillLines.f impl_FillLines.f
 rw [allS_p hn hs (by omega) (by omega), allI_p hs (by omega), Option.bind_some, Option.bind_some]
 cases hf : fillV rs sp wide
 ·
  rw [if_neg (by decide), if_neg (by decide)]
  exact ⟨[], rfl, rfl, by decide, .inl rfl⟩
 obtain ⟨h1, h2, h3, h4⟩ := fill_ok hf
 have h0 : 0 ≤ wide ∧ wide ≤ 20000 := by
  unfold fillV at hf
  rw [Bool.and_eq_true, Bool.and_eq_true, decide_eq_true_eq] at hf
  exact hf.2.2
 have hw := ws_small (rs := rs) h2
 have hl := wsV_len rs sp
 obtain ⟨ws, hws⟩ : ∃ ws, wsV rs sp = ws := ⟨_, rfl⟩
 rw [if_pos rfl, if_pos rfl, l1In_f, widesS_p h1 h2 (by omega), widesI_p h1 h2 (by omega) (by omega), breaksS_p h1 (by omega), breaksI_p h1 (by omega), starts_p (by omega) (by omega), Option.bind_some, Option.bind_some, Option.bind_some, Option.bind_some, Option.bind_some, Option.bind_some]
 rw [hws] at hw hl ⊢
 obtain ⟨s1, s2, s3, s4⟩ := tabs_s (rs := rs) (ws := ws) (k := k) h1 hl (by omega)
 obtain ⟨i1, i2, i3, i4⟩ := tabs_i (rs := rs) (ws := ws) (k := k) h1 hl (by omega)
 rw [if_pos s1, if_pos s3, if_pos i1, if_pos i3, s2, s4, i2, i4]
 have hM : ∀ i, i < rs.length → MV (bsV rs) i = mustV (bsV rs) rs.length i ∧ i < MV (bsV rs) i ∧ MV (bsV rs) i ≤ rs.length := fun i hi => by
  rw [MV_is hi]
  exact ⟨rfl, (must_ok hi).1, (must_ok hi).2.1⟩
 have hT := tab_rel (bsV rs) (fitV (WV rs ws) wide) (costV (bsV rs) (WV rs ws) wide) (MV (bsV rs)) rs.length hM (fun a e ha he => cost_near hw hl h1 h0 (by omega) he)
 have hNx : ∀ i, i < rs.length → nextI (bsV rs) (fitV (WV rs ws) wide) (stsV rs ++ [(rs.length : Int)]) i (MV (bsV rs) i) = some (nextV (bsV rs) (fitV (WV rs ws) wide) (JV rs) rs.length i) := fun i hi => by
  rw [MV_is hi]
  exact (next_eq hw hl h1 hi).1
 have hss : (stsV rs).length ≤ rs.length := by
  unfold stsV
  rw [List.length_map]
  exact Nat.le_trans (List.length_filter_le _ _) (by simp)
 have hokI : okI (bsV rs) (WV rs ws) (MV (bsV rs)) (stsV rs) wide rs.length := by
  refine ⟨by omega, bsV_len rs, by omega, fun t ht => ?_, fun j hj i hi => Nat.le_trans (wide_near hw hl h1 h0 hi hj) (by decide), fun j hj => ?_, fun i hi => by rw [hNx i hi]; rfl⟩
  ·
   unfold stsV at ht
   obtain ⟨i, hi, rfl⟩ := List.mem_map.mp ht
   have := List.mem_range.mp (List.mem_filter.mp hi).1
   have e : Int.ofNat i = (i : Int) := rfl
   omega
  ·
   by_cases hjn : j < rs.length
   ·
    obtain ⟨r1, r2, r3, r4, r5, r6⟩ := hT rs.length (Nat.le_refl _) j (by omega) hjn
    rw [r1]
    omega
   ·
    obtain rfl : j = rs.length := by omega
    rw [tabP_hi _ _ _ _ _ _ (Nat.le_refl _)]
    exact ⟨Int.le_refl _, by show (0 : Int) ≤ _; decide⟩
 have hokB : okB (bsV rs) (WV rs ws) wide rs.length := by
  refine ⟨fun j hj i hi => Nat.le_trans (wide_near hw hl h1 h0 hi hj) (by decide), fun d hd j hj => ?_⟩
  by_cases hjn : j < rs.length
  ·
   by_cases hjd : rs.length - d ≤ j
   ·
    obtain ⟨r1, r2, r3, r4, r5, r6⟩ := hT d hd j hjd hjn
    omega
   ·
    rw [tabB_lo _ _ _ _ d j (by omega)]
    exact ⟨Int.le_refl _, by show (0 : Int) ≤ _; decide⟩
  ·
   obtain rfl : j = rs.length := by omega
   rw [tabB_hi _ _ _ _ _ hd]
   exact ⟨Int.le_refl _, by show (0 : Int) ≤ _; decide⟩
 obtain ⟨g1, g2⟩ := greedy_rel rs.length (fun i => (nextI (bsV rs) (fitV (WV rs ws) wide) (stsV rs ++ [(rs.length : Int)]) i (MV (bsV rs) i)).getD 0) (nextV (bsV rs) (fitV (WV rs ws) wide) (JV rs) rs.length) (fun j hj => by rw [hNx j hj]; exact ⟨rfl, (next_eq hw hl h1 hj).2⟩) rs.length 0 (by omega)
 obtain ⟨o1, o2⟩ := out_rel rs.length _ _ (fun j hj => hT rs.length (Nat.le_refl _) j (by omega) hj) rs.length 0 (by omega)
 obtain ⟨gr, hgr⟩ := Option.isSome_iff_exists.mp g2
 obtain ⟨ob, hob⟩ := Option.isSome_iff_exists.mp o2
 unfold linesI linesO
 have hLO : rs.length ≤ 1000 ∧ (bsV rs).length = rs.length ∧ okB (bsV rs) (WV rs ws) wide rs.length := ⟨by omega, bsV_len rs, hokB⟩
 rw [if_pos hokI, if_pos hLO]
 unfold linesV
 rw [g1, o1, hgr, hob, Option.bind_some]
 have lg : gr.length ≤ 1000 := Nat.le_trans (greedyN_len _ _ _ _ _ hgr) (by omega)
 have cg := greedy_ch (mustV (bsV rs) rs.length) rs.length _ (fun j hj => ⟨(next_eq (wide := wide) hw hl h1 hj).2.1, next_le _ _ _ _ _ (must_ok hj).1⟩) _ _ _ hgr
 by_cases m0 : mode = 0
 ·
  rw [decide_eq_true (show 0 ≤ mode ∧ mode ≤ 1 by omega), if_pos rfl, if_neg (by omega), if_pos m0]
  exact ⟨gr, rfl, rfl, lg, .inr ⟨h4, h1, cg⟩⟩
 ·
  by_cases m1 : mode = 1
  ·
   rw [decide_eq_true (show 0 ≤ mode ∧ mode ≤ 1 by omega), if_pos rfl, if_pos m1, if_neg m0, if_pos m1]
   cases ob with
   | none => exact ⟨gr, rfl, rfl, lg, .inr ⟨h4, h1, cg⟩⟩
   | some l => exact ⟨l, rfl, rfl, Nat.le_trans (outB_len _ _ _ _ _ hob) (by omega), .inr ⟨h4, h1, out_ch _ _ _ (fun j hj => by
     obtain ⟨_, _, _, _, _, r6⟩ := hT rs.length (Nat.le_refl _) j (by omega) hj
     exact r6.imp_right (fun h => ⟨h.1, tabB_le _ _ _ _ (fun i hi => (must_ok hi).1) _ (Nat.le_refl _) j (by omega) hj⟩)) _ _ _ hob⟩⟩
  ·
   rw [decide_eq_false (show ¬ (0 ≤ mode ∧ mode ≤ 1) by omega), if_neg (by decide), if_neg m0, if_neg m1]
   exact ⟨[], rfl, rfl, by decide, .inl rfl⟩
end Go.Proofs.YtmcdcogedcbndaaGreat.Pure
namespace Go.Proofs.YtmcdcogedcbndaaGreat.S
open Go.RowKit Go.Proofs.YtmcdcogedcbndaaGreatW.PrintWords Go.Proofs.YtmcdcogedcbndaaGreatW.PrintLast
set_option linter.unusedVariables false
set_option linter.unusedSimpArgs false
def impl_BreaksOf.f (k : Nat) (l0 : List Int) : Option (List Int) := (impl_lettersOk.f l0).bind fun t438 => (if t438 = true then ((impl_breaks.f k l0).bind fun t439 => (some t439)) else (some ([] : List Int)))
theorem impl_BreaksOf.mono : ∀ a0 k, LeO (impl_BreaksOf.f k a0) (impl_BreaksOf.f (k + 1) a0) := by
 intro a0 k; unfold impl_BreaksOf.f
 repeat' first
   | (with_reducible exact impl_breaks.mono _ _)
   | (with_reducible exact LeO.refl _)
   | (with_reducible exact LeO.none _)
   | (with_reducible refine LeO.ite ?_ ?_)
   | (with_reducible refine LeO.bind ?_ (fun _ => ?_))
   | exact impl_breaks.mono _ _
   | exact LeO.none _
   | refine LeO.ite ?_ ?_
   | refine LeO.bind ?_ (fun _ => ?_)
theorem impl_BreaksOf.calls (k : Nat) (A0 : Option Addr) (c0 : Nat) (l0 : List Int) (r : List Int) (w : World) (hr0 : Kd.C (Kd.int .i64) w A0 l0.length l0) (hc0 : l0.length ≤ c0) (h : impl_BreaksOf.f k l0 = some r) :
  Calls Tryz.prog 23 #[.slice A0 l0.length c0] w fun e w' => ∃ v0_ : Value, e = .returned (v0_) ∧ Kd.R (Kd.int .i64) 3 w' w.heap.size (fun _ => True) v0_ r ∧ Below w.heap.size w w' := by
 have HR0 := az hr0; have HC0 := az hc0; clear hr0 hc0; have HB := az (Below.refl w.heap.size w); have H : ((impl_lettersOk.f l0).bind fun t438 => (if t438 = true then ((impl_breaks.f k l0).bind fun t439 => (some t439)) else (some ([] : List Int)))) = some r := h; clear h; replace H := Option.bind_eq_some_iff.mp H; obtain ⟨t438, A20, H⟩ := H; replace H : (if t438 = true then ((impl_breaks.f k l0).bind fun t439 => (some t439)) else (some ([] : List Int))) = some r := H; have A2 := az A20; clear A20; by_cases c3 : t438 = true
 ·
  subst c3; have H1 : ((impl_breaks.f k l0).bind fun t439 => (some t439)) = some r := by rw [if_pos rfl] at H; exact H
  clear H; have H := H1; clear H1; replace H := Option.bind_eq_some_iff.mp H; obtain ⟨t439, A40, H⟩ := H; replace H : (some t439) = some r := H; have A4 := az A40; clear A40; obtain rfl := Option.some.inj H; go_enter Tryz.func23, Tryz.ntmps23; go_wp2_with (first | ((with_reducible refine gate_callee (f := 48) rfl ?_); refine goesL_ (some 4) rfl rfl Tryz.func48 (by kernel_rfl) rfl #[.slice A0 l0.length c0] rfl zC ?_; (with_reducible refine (impl_lettersOk.calls _ _ l0 true _ ?side1 ?side2 A2.out).mono ?_); (case side1 => exact (zP HR0.out)); (case side2 => exact HC0.out); rintro e w5 ⟨rfl, hb⟩; refine ⟨_, rfl, ?_⟩; have n0_ := az (below_step (zA HB.out) hb); clear HB; have HB := n0_; clear n0_; (try clear hb); (try clear hb2); (try clear hk); (try clear hi)) | ((with_reducible refine gate_callee (f := 49) rfl ?_); refine goesL_ (some 7) rfl rfl Tryz.func49 (by kernel_rfl) rfl #[.slice A0 l0.length c0] rfl zC ?_; (with_reducible refine (impl_breaks.calls k _ _ l0 t439 _ ?side1 ?side2 A4.out).mono ?_); (case side1 => exact (zO HR0.out HB.out)); (case side2 => exact HC0.out); rintro e w6 ⟨v440, rfl, ho0, hb⟩; refine ⟨_, rfl, ?_⟩; have n0_ := az (Kd.R_lower ho0 (below_size (zA HB.out))); have n1_ := az (below_step (zA HB.out) hb); clear HB; have HO441 := n0_; have HB := n1_; clear n0_ n1_; (try clear hb); (try clear hb2); (try clear hk); (try clear hi); (try clear ho0))); go_ret; exact ⟨_, zG, zF HO441.out, zA HB.out⟩
 ·
  replace c3 := Bool.eq_false_iff.mpr c3; subst c3; have H1 : (some ([] : List Int)) = some r := by rw [if_neg (show ¬ (false = true) by decide)] at H; exact H
  clear H; have H := H1; clear H1; obtain rfl := Option.some.inj H; go_enter Tryz.func23, Tryz.ntmps23; go_wp2_with (first | ((with_reducible refine gate_callee (f := 48) rfl ?_); refine goesL_ (some 4) rfl rfl Tryz.func48 (by kernel_rfl) rfl #[.slice A0 l0.length c0] rfl zC ?_; (with_reducible refine (impl_lettersOk.calls _ _ l0 false _ ?side1 ?side2 A2.out).mono ?_); (case side1 => exact (zP HR0.out)); (case side2 => exact HC0.out); rintro e w7 ⟨rfl, hb⟩; refine ⟨_, rfl, ?_⟩; have n0_ := az (below_step (zA HB.out) hb); clear HB; have HB := n0_; clear n0_; (try clear hb); (try clear hb2); (try clear hk); (try clear hi))); go_ret; exact ⟨_, zG, zV, zA HB.out⟩
end Go.Proofs.YtmcdcogedcbndaaGreat.S
/- Of drawn letters, spans, width and way: each place where a line must end is an end of the lines that the program tells, and these are the reference's. No condition beyond the statement's own. -/
namespace Go.Proofs.YtmcdcogedcbndaaGreat.Pure
open Go.RowKit Go.Proofs.YtmcdcogedcbndaaGreat.S Go.Proofs.YtmcdcogedcbndaaGreatW.PrintWords Go.Proofs.YtmcdcogedcbndaaGreatW.PrintLast
theorem wcI_l (a : List Int) (hn : a.length ≤ 1000) : ∀ (d k i : Nat), a.length - i = d → i ≤ a.length → d < k → laws_wcInts.l0 k a a (i : Int) = some true
 | 0, k, i, hd, hi, hk => by
  obtain ⟨k, rfl⟩ : ∃ m, k = m + 1 := ⟨k - 1, by omega⟩
  rw [laws_wcInts.l0, if_neg (by omega)]
 | d + 1, k, i, hd, hi, hk => by
  obtain ⟨k, rfl⟩ : ∃ m, k = m + 1 := ⟨k - 1, by omega⟩
  have ih := wcI_l a hn d k (i + 1) (by omega) (by omega) (by omega)
  rw [laws_wcInts.l0, if_pos (by omega), if_pos (by omega), if_pos (by omega), if_pos rfl, w64 (by omega) (by omega), show ((i : Int) + 1) = ((i + 1 : Nat) : Int) by omega, ih]
theorem wcI_p {a : List Int} {k : Nat} (hn : a.length ≤ 1000) (hk : a.length < k) : laws_wcInts.f k a a = some true := by
 unfold laws_wcInts.f
 rw [if_pos rfl]
 exact wcI_l a hn a.length k 0 (by omega) (by omega) hk
theorem has_in (l : List Int) (v : Int) (hn : l.length ≤ 1000) : ∀ (d k i : Nat), l.length - i = d → i ≤ l.length → d < k → v ∈ l.drop i → laws_wcHas.l0 k l v (i : Int) = some true
 | 0, k, i, hd, hi, hk, hv => by
  rw [List.drop_eq_nil_of_le (by omega)] at hv
  cases hv
 | d + 1, k, i, hd, hi, hk, hv => by
  obtain ⟨k, rfl⟩ : ∃ m, k = m + 1 := ⟨k - 1, by omega⟩
  have hlt : i < l.length := by omega
  rw [List.drop_eq_getElem_cons hlt] at hv
  rw [laws_wcHas.l0, if_pos (by omega), if_pos (by omega), rd_get hlt]
  by_cases h : l[i] = v
  · rw [if_pos h]
  ·
   rw [if_neg h, w64 (by omega) (by omega), show ((i : Int) + 1) = ((i + 1 : Nat) : Int) by omega]
   refine has_in l v hn d k (i + 1) (by omega) (by omega) (by omega) ?_
   rcases List.mem_cons.mp hv with h2 | h2
   · exact absurd h2.symm h
   · exact h2
theorem wcHas_p {l : List Int} {v : Int} {k : Nat} (hn : l.length ≤ 1000) (hk : l.length < k) (hv : v ∈ l) : laws_wcHas.f k l v = some true := has_in l v hn l.length k 0 (by omega) (by omega) hk hv
theorem mustHas {rs : List Int} {r : List Int} (hr : r.length ≤ 1000) (h : okV rs = true ∧ rs.length ≤ 80 ∧ Ch (mustV (bsV rs) rs.length) rs.length 0 r) : impl_BreaksOf.f 3000 rs = some (bsV rs) ∧ ∀ i : Nat, i < (bsV rs).length → (bsV rs).getD i 0 = 2 → laws_wcHas.f 3000 r ((i : Int) + 1) = some true := by
 obtain ⟨h1, h2, h3⟩ := h
 refine ⟨?_, fun i hi h2 => ?_⟩
 ·
  unfold impl_BreaksOf.f
  rw [show impl_lettersOk.f rs = some (okV rs) from rfl, h1, Option.bind_some, if_pos rfl, breaksI_p h2 (by omega), Option.bind_some]
 ·
  rw [bsV_len] at hi
  exact wcHas_p hr (by omega) (ch_must (bsV rs) rs.length (bsV_len rs) r 0 h3 i (Nat.zero_le _) hi h2)
end Go.Proofs.YtmcdcogedcbndaaGreat.Pure
