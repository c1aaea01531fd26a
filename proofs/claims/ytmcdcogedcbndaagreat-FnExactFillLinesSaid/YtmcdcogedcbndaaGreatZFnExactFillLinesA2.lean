/- The program's FillLines answers as the reference's, for every list of letters, of spans, every width and every way; it writes into no argument, and its answer is memory of its own. No condition beyond the statement's own. (text 3 of 7 of this claim: functions of the program and of the reference as plain Lean functions, what a call of each comes to, and what follows.) -/
import Derived.Test.YtmcdcogedcbndaaGreatZFnExactFillLinesA0
import Derived.Test.YtmcdcogedcbndaaGreatZFnExactFillLinesA1
set_option maxHeartbeats 16000000
set_option maxRecDepth 100000
set_option linter.unusedVariables false
set_option linter.unusedSimpArgs false
namespace Go.Proofs.YtmcdcogedcbndaaGreat.S
open Go.RowKit Go.Proofs.YtmcdcogedcbndaaGreatW.PrintWords Go.Proofs.YtmcdcogedcbndaaGreatW.PrintLast
set_option linter.unusedVariables false
set_option linter.unusedSimpArgs false
theorem bestS_calls (k : Nat) (gb : Nat) (A0 : Option Addr) (c0 : Nat) (rs : List Int) (A1 : Option Addr) (c1 : Nat) (ws : List Int) (A2 : Option Addr) (c2 : Nat) (bs : List Int) (wide : Int) (W : Nat → Nat → Int) (w : World) (r : List Int) (ok : Bool) (hf : FlO 77 gb A0 c0 rs A1 c1 ws A2 c2 bs wide w) (hn : rs.length ≤ 1000) (hbl : bs.length = rs.length) (hW : ∀ i j : Nat, i ≤ j → j ≤ rs.length → spec_l7Wide.f k rs ws (i : Int) (j : Int) = some (W i j)) (hWb : ∀ i j : Nat, i ≤ j → j ≤ rs.length → (wide - W i j).natAbs ≤ 1000000000) (hTb : ∀ d, d ≤ rs.length → ∀ j, j ≤ rs.length → 0 ≤ ((tabB bs (fitV W wide) (costV bs W wide) rs.length) d j).1 ∧ ((tabB bs (fitV W wide) (costV bs W wide) rs.length) d j).1 ≤ 1000000000000000) (hr : outB ((tabB bs (fitV W wide) (costV bs W wide) rs.length) rs.length) rs.length rs.length 0 = some (if ok = true then some r else none)) (hr0 : ok = false → r = []) :
  Calls Tryz.prog 70 #[.pointer (some ⟨gb, 0, none⟩)] w fun e w' => ∃ v0_ : Value, e = .returned (.tuple #[v0_, .bool ok]) ∧ Kd.R (Kd.int .i64) 3 w' w.heap.size (fun _ => True) v0_ r ∧ Below w.heap.size w w' := by
 have HS := az hf
 have HW := az hW
 have HWB := az hWb
 have HTB := az hTb
 have HBL := az hbl
 have HN := az hn
 have HRR := az hr
 have HR0 := az hr0
 have q0 := (blk_cell hf.1 0).trans (show _ = some (Value.slice A0 rs.length c0) from rfl)
 have h0 : (0 : Int) ≤ (rs.length : Int) := by omega
 clear hf hW hWb hTb hbl hr hr0
 go_enter Tryz.func70, Tryz.ntmps70
 go_upto_region 2 with fail
 have hw1 : wrap64 ((rs.length : Int) + 1) = ((rs.length + 1 : Nat) : Int) := by unfold wrap64; omega
 have hu := Tryz.underlying103
 go_wp2_with ((with_reducible refine gate_dst (N := 19) rfl ?_); refine make_tab 105 rfl 103 (.tmp 18) (.tmp 18) rfl (rs.length + 1) (by go_simp) (by go_simp) hu (by kernel_rfl) (by omega) ?_)
 obtain ⟨g0, hg0⟩ : ∃ g0, w.heap.size = g0 := ⟨_, rfl⟩
 have HT0 := az (TB.made 105 (rs.length + 1) w)
 have HB0 := az (below_alloc (Below.refl w.heap.size w) (.cells (madeCells #[.int .i64 0, .int .i64 0] ((rs.length + 1) * 2)) 105))
 rw [hg0] at HT0 ⊢
 generalize w.alloc (.cells (madeCells #[.int .i64 0, .int .i64 0] ((rs.length + 1) * 2)) 105) = w1 at HT0 HB0 ⊢
 have HG0 := az (show w.heap.size ≤ g0 by omega)
 have HGE := az hg0
 clear q0 hw1 h0
 go_loopg [6] rs.length (fun gg s6 wr => ∃ d : Nat, s6 = .int .i64 ((rs.length : Int) - 1 - (d : Int)) ∧ d ≤ rs.length ∧ rs.length - d ≤ gg ∧ Aside0 (TB 105 g0 (rs.length + 1) ((tabB bs (fitV W wide) (costV bs W wide) rs.length) d) wr) ∧ Aside0 (Below w.heap.size w wr))
 case atStart => exact ⟨0, by go_num, Nat.zero_le _, by omega, HT0, HB0⟩
 case round =>
  clear HT0 HB0
  obtain ⟨d, rfl, hd, hg, HT, HB⟩ := hrel
  by_cases hlt : d < rs.length
  ·
   obtain ⟨a, ha⟩ : ∃ a : Nat, rs.length - 1 - d = a := ⟨_, rfl⟩
   have hai : (rs.length : Int) - 1 - (d : Int) = (a : Int) := by omega
   rw [hai]
   have ha0 : (0 : Int) ≤ (a : Int) := by omega
   have han : (a : Int) < ((rs.length + 1 : Nat) : Int) := by omega
   have halt : a < rs.length + 1 := by omega
   obtain ⟨T, hT⟩ : ∃ T, (tabB bs (fitV W wide) (costV bs W wide) rs.length) d = T := ⟨_, rfl⟩
   have HTE := az hT
   have HTP : Aside0 (∀ j : Nat, j ≤ rs.length → 0 ≤ (T j).1 ∧ (T j).1 ≤ 1000000000000000) := ⟨fun j hj => hT ▸ HTB.out d hd j hj⟩
   have HTA : Aside0 ((T a).1 = 0) := ⟨by rw [← hT, tabB_lo bs (fitV W wide) (costV bs W wide) rs.length d a (by omega)]⟩
   rw [hT] at HT
   obtain ⟨x0, x1, x2, x3⟩ := HT.out.cells halt
   have HT1 : Aside0 (TB 105 g0 (rs.length + 1) (updV T a (0, -1)) (wr.setCell ⟨g0, a * 2 + 1, none⟩ (.int .i64 (-1)))) := ⟨by rw [← HTA.out]; exact HT.out.set1 halt (-1)⟩
   have HB1 : Aside0 (Below w.heap.size w (wr.setCell ⟨g0, a * 2 + 1, none⟩ (.int .i64 (-1)))) := ⟨HB.out.setCell (p := ⟨g0, a * 2 + 1, none⟩) HG0.out _⟩
   have HAL := az halt
   have HAE := az ha
   have HDL := az hlt
   have HML := az (mustN_le bs rs.length (bs.length - a) a (zG HBL.out))
   have HAN := az (show a ≤ bs.length from (zG HBL.out))
   have HNN := az (show bs.length ≤ 1000 from (zG HBL.out))
   clear hT hd hlt ha hai HT HB
   go_upto_region 8 with (go_at_call 65; go_must (refine (mustS_calls gb A0 c0 rs A1 c1 ws A2 c2 bs wide a _ (HS.out.below HB1.out) HAN.out HNN.out).mono ?_); rintro e w4 ⟨rfl, hd4⟩; have HB4 := az (below_then HB1.out HB1.out.size hd4.below); have HT4 := az (HT1.out.below hd4.below); clear hd4)
   have HME : Aside0 (mustV bs rs.length a = mustN bs rs.length (bs.length - a) a) := ⟨rfl⟩
   obtain ⟨en, hen⟩ : ∃ en, mustV bs rs.length a = en := ⟨_, rfl⟩
   have HEN := az (show en ≤ rs.length from hen ▸ HML.out)
   have HEE := az hen
   rw [hen]
   clear HML HME hen x0 x1 x2 x3 HT1 HB1
   go_wp2
   go_loopg [8] rs.length (fun gq s8 wq => ∃ (e : Nat) (u v : Int), s8 = .int .i64 e ∧ a < e ∧ en + 1 - e ≤ gq ∧ Aside0 (rowB bs (fitV W wide) (costV bs W wide) rs.length T a (en + 1 - e) e (u, v) = rowB bs (fitV W wide) (costV bs W wide) rs.length T a (en - a) (a + 1) (0, -1)) ∧ Aside0 (TB 105 g0 (rs.length + 1) (updV T a (u, v)) wq) ∧ Aside0 (Below w.heap.size w wq))
   case atStart => exact ⟨a + 1, 0, -1, by have h9 := HAN.out; have h8 := HNN.out; first | go_num | (congr 1; unfold wrap64; omega), by omega, zG HEN.out, ⟨by rw [show en + 1 - (a + 1) = en - a by omega]⟩, HT4, HB4⟩
   case round =>
    clear HT4 HB4
    obtain ⟨e, u, v, rfl, hi0, hgq, HF, HT, HB⟩ := hrel
    have HQ := az (HS.out.below HB.out)
    by_cases hle : e ≤ en
    ·
     have hlez : (e : Int) ≤ (en : Int) := by omega
     have hq := HF.out
     rw [show en + 1 - e = (en + 1 - (e + 1)) + 1 by omega, rowB] at hq
     obtain ⟨m, hm⟩ : ∃ m : Nat, e = m + 1 := ⟨e - 1, by omega⟩
     have hm0 : (0 : Int) ≤ (m : Int) := by omega
     have hmz : (m : Int) < (bs.length : Int) := by have := HEN.out; have := HBL.out; omega
     have hen9 := HEN.out
     have he0 : (0 : Int) ≤ (e : Int) := by omega
     have hez : (e : Int) < ((rs.length + 1 : Nat) : Int) := by omega
     have hez2 : (e : Int) < (rs.length : Int) + 1 := by omega
     have hez3 : e < rs.length + 1 := by omega
     have q2 := (blk_cell HQ.out.1 2).trans (show _ = some (Value.slice A2 bs.length c2) from rfl)
     obtain ⟨ad5, hA5, hx5⟩ := Kd.at_int HQ.out.2.2.2.2.2.1 (m : Int) hm0 hmz
     have hxx : rd bs (m : Int) = bs.getD m 0 := by simp [rd]
     rw [hxx, Int.toNat_natCast] at hx5
     obtain ⟨y, hy⟩ : ∃ y, bs.getD m 0 = y := ⟨_, rfl⟩
     rw [hy] at hx5
     subst hA5
     have hw1 : IntKind.i64.wrap ((e : Int) - 1) = (m : Int) := by rw [i64_w]; unfold wrap64; omega
     have hw2 : wrap64 ((e : Int) - 1) = (m : Int) := by unfold wrap64; omega
     have HYE : Aside0 (bs.getD (e - 1) 0 = y) := ⟨by rw [show e - 1 = m by omega]; exact hy⟩
     have HYM := az hy
     have HMB := az (show m < bs.length by omega)
     have HEM := az (show (e : Int) - 1 = (m : Int) by omega)
     have HLE := az (show e ≤ rs.length by omega)
     have HLN := az hle
     have HAE2 := az hi0
     obtain ⟨y0, y1, _, _⟩ := HT.out.cells (i := e) (by omega)
     rw [updV_ne T (u, v) (show e ≠ a by omega)] at y0 y1
     obtain ⟨p1, hp1⟩ : ∃ p1, (T e).1 = p1 := ⟨_, rfl⟩
     obtain ⟨p2, hp2⟩ : ∃ p2, (T e).2 = p2 := ⟨_, rfl⟩
     have hpb := HTP.out e (by omega)
     rw [hp1] at y0 hpb
     rw [hp2] at y1
     have HP1 := az hp1
     have HP2 := az hp2
     have HPB := az hpb
     have HQQ := az hq
     clear hxx hy hm hle HF hq hp1 hp2 hpb hen9
     by_cases hy0 : y = 0
     ·
      have b0 : (y == 0) = true := beq_iff_eq.mpr hy0
      have HST : Aside0 ((u, v) = stepB bs (fitV W wide) (costV bs W wide) rs.length T a e (u, v)) := ⟨by unfold stepB; rw [HYE.out, if_pos (Or.inl hy0)]⟩
      clear hy0
      go_wp2
      go_roundg (en + 1 - (e + 1))
      case measure => have := HLN.out; omega
      case rel => exact ⟨e + 1, u, v, by have h9 := HLE.out; have h8 := HN.out; first | go_num | (congr 1; unfold wrap64; omega), zG HAE2.out, Nat.le_refl _, ⟨by rw [← HQQ.out]; congr 1; exact HST.out⟩, HT, HB⟩
     ·
      have b0 : (y == 0) = false := beq_eq_false_iff_ne.mpr hy0
      cases hfi : fitV W wide a e
      case false =>
       have HFI := az hfi
       have HST : Aside0 ((u, v) = stepB bs (fitV W wide) (costV bs W wide) rs.length T a e (u, v)) := ⟨by unfold stepB; rw [if_pos (Or.inr (Or.inl hfi))]⟩
       clear hy0 hfi
       go_wp2_with (go_at_call 64; go_must (refine (fitsS_calls k gb A0 c0 rs A1 c1 ws (some ad5) c2 bs wide (a : Int) (e : Int) (W a e) _ HQ.out (HW.out a e (zG HAE2.out) HLE.out)).mono ?_); rw [show decide (W a e ≤ wide) = false from HFI.out]; rintro e1 w2 ⟨rfl, hb2⟩; have HB2 := az (below_then HB.out HB.out.size hb2); have HT2 := az (HT.out.below hb2); have HL2 := az hb2; have y0 := hb2.cell (World.block_lt_of_cell? _ _ y0) |>.trans y0; have y1 := hb2.cell (World.block_lt_of_cell? _ _ y1) |>.trans y1; clear hb2)
       go_roundg (en + 1 - (e + 1))
       case measure => have := HLN.out; omega
       case rel => exact ⟨e + 1, u, v, by have h9 := HLE.out; have h8 := HN.out; first | go_num | (congr 1; unfold wrap64; omega), zG HAE2.out, Nat.le_refl _, ⟨by rw [← HQQ.out]; congr 1; exact HST.out⟩, HT2, HB2⟩
      case true =>
       have HFI := az hfi
       by_cases hen1 : e < rs.length
       ·
        have henz : (e : Int) < (rs.length : Int) := by omega
        by_cases hp0 : p2 < 0
        ·
         have HST : Aside0 ((u, v) = stepB bs (fitV W wide) (costV bs W wide) rs.length T a e (u, v)) := ⟨by unfold stepB; rw [if_pos (Or.inr (Or.inr ⟨hen1, by rw [HP2.out]; exact hp0⟩))]⟩
         clear hy0 hfi hen1
         go_wp2_with (go_at_call 64; go_must (refine (fitsS_calls k gb A0 c0 rs A1 c1 ws (some ad5) c2 bs wide (a : Int) (e : Int) (W a e) _ HQ.out (HW.out a e (zG HAE2.out) HLE.out)).mono ?_); rw [show decide (W a e ≤ wide) = true from HFI.out]; rintro e1 w2 ⟨rfl, hb2⟩; have HB2 := az (below_then HB.out HB.out.size hb2); have HT2 := az (HT.out.below hb2); have HL2 := az hb2; have y0 := hb2.cell (World.block_lt_of_cell? _ _ y0) |>.trans y0; have y1 := hb2.cell (World.block_lt_of_cell? _ _ y1) |>.trans y1; clear hb2)
         go_roundg (en + 1 - (e + 1))
         case measure => have := HLN.out; omega
         case rel => exact ⟨e + 1, u, v, by have h9 := HLE.out; have h8 := HN.out; first | go_num | (congr 1; unfold wrap64; omega), zG HAE2.out, Nat.le_refl _, ⟨by rw [← HQQ.out]; congr 1; exact HST.out⟩, HT2, HB2⟩
        ·
         have HNG : Aside0 (¬ (bs.getD (e - 1) 0 = 0 ∨ fitV W wide a e = false ∨ (e < rs.length ∧ (T e).2 < 0))) := ⟨by rw [HYE.out, hfi, HP2.out]; intro h; rcases h with h | h | h; exact hy0 h; cases h; exact hp0 h.2⟩
         clear hy0 hfi hen1
         obtain ⟨x, hx⟩ : ∃ x, costV bs W wide a e = x := ⟨_, rfl⟩
         have HCX : Aside0 ((if bs.getD m 0 = 2 then 0 else (wide - W a e) * (wide - W a e)) = x) := ⟨by rw [← hx]; unfold costV; rw [HYE.out, HYM.out]⟩
         have hxb : 0 ≤ x ∧ x ≤ 1000000000000000000 := by rw [← HCX.out]; split; omega; exact sq_fit _ (HWB.out a e (zG HAE2.out) HLE.out)
         have hpb := HPB.out
         obtain ⟨c, hc⟩ : ∃ c, x + p1 = c := ⟨_, rfl⟩
         have hw3 : wrap64 (x + p1) = c := by unfold wrap64; omega
         have hw4 : IntKind.i64.wrap (x + p1) = c := by rw [i64_w]; exact hw3
         have HXC := az (show costV bs W wide a e + (T e).1 = c by rw [hx, HP1.out]; exact hc)
         clear hx hxb hpb hc
         go_upto_region 12 with (go_at_call 64; go_must (refine (fitsS_calls k gb A0 c0 rs A1 c1 ws (some ad5) c2 bs wide (a : Int) (e : Int) (W a e) _ HQ.out (HW.out a e (zG HAE2.out) HLE.out)).mono ?_); rw [show decide (W a e ≤ wide) = true from HFI.out]; rintro e1 w2 ⟨rfl, hb2⟩; have HB2 := az (below_then HB.out HB.out.size hb2); have HT2 := az (HT.out.below hb2); have HL2 := az hb2; have y0 := hb2.cell (World.block_lt_of_cell? _ _ y0) |>.trans y0; have y1 := hb2.cell (World.block_lt_of_cell? _ _ y1) |>.trans y1; clear hb2)
         have hJ := FlJ.of (p := ⟨g0, e * 2, none⟩) (q := ⟨g0, e * 2, none⟩) ⟨HQ.out.below HL2.out, Below.refl _ _, y0, y0⟩
         clear y0 y1 q2 hx5
         unfold FlJ at hJ
         go_region_held3 (fun W' => W'.cell? ⟨gb, 0, none⟩ = some (.slice A0 rs.length c0) ∧ W'.cell? ⟨gb, 1, none⟩ = some (.slice A1 ws.length c1) ∧ W'.cell? ⟨gb, 2, none⟩ = some (.slice (some ad5) bs.length c2) ∧ W'.cell? ⟨gb, 3, none⟩ = some (.int .i64 wide) ∧ W'.cell? ⟨g0, e * 2, none⟩ = some (.int .i64 p1) ∧ W'.cell? ⟨g0, e * 2, none⟩ = some (.int .i64 p1) ∧ Aside0 (FlK 77 gb A0 c0 rs A1 c1 ws (some ad5) c2 bs wide ⟨g0, e * 2, none⟩ p1 ⟨g0, e * 2, none⟩ p1 w2 W')) (first | (with_reducible assumption) | (with_reducible refine FlJ.below ?_ zI; with_reducible assumption) | (with_reducible exact FlJ.drew zI)) (first | (go_at_call 67; (with_reducible refine (costS_calls k gb A0 c0 rs A1 c1 ws (some ad5) c2 bs wide (a : Int) (e : Int) (W a e) m _ ?s1 HEM.out HMB.out (HW.out a e (zG HAE2.out) HLE.out) (HWB.out a e (zG HAE2.out) HLE.out)).mono ?_); (case s1 => exact (show FlJ 77 gb A0 c0 rs A1 c1 ws (some ad5) c2 bs wide ⟨g0, e * 2, none⟩ p1 ⟨g0, e * 2, none⟩ p1 w2 _ from zI).2.2.2.2.2.2.out.1); rw [HCX.out]; rintro e3 w3 ⟨rfl, p⟩))
         all_goals
          have HB6 := az (show FlJ 77 gb A0 c0 rs A1 c1 ws (some ad5) c2 bs wide ⟨g0, e * 2, none⟩ p1 ⟨g0, e * 2, none⟩ p1 w2 _ from zI).2.2.2.2.2.2.out.2.1
          have HB7 := az (below_then HB2.out HB2.out.size HB6.out)
          have HT7 := az (HT2.out.below HB6.out)
          obtain ⟨z0, z1, z2, z3⟩ := HT7.out.cells HAL.out
          rw [updV_at] at z0 z1
          by_cases hv0 : v < 0
          ·
           have HST : Aside0 ((c, (e : Int)) = stepB bs (fitV W wide) (costV bs W wide) rs.length T a e (u, v)) := ⟨by unfold stepB; rw [if_neg HNG.out, HXC.out, if_pos (Or.inl hv0)]⟩
           go_wp2
           go_roundg (en + 1 - (e + 1))
           case measure => have := HLN.out; omega
           case rel => exact ⟨e + 1, c, (e : Int), by have h9 := HLE.out; have h8 := HN.out; first | go_num | (congr 1; unfold wrap64; omega), zG HAE2.out, Nat.le_refl _, ⟨by rw [← HQQ.out]; congr 1; exact HST.out⟩, ⟨by have h := HT7.out.set HAL.out c (e : Int); rw [updV_updV] at h; exact h⟩, ⟨(HB7.out.setCell (p := ⟨g0, a * 2, none⟩) HG0.out _).setCell (p := ⟨g0, a * 2 + 1, none⟩) HG0.out _⟩⟩
          ·
           by_cases hcu : c < u
           ·
            have HST : Aside0 ((c, (e : Int)) = stepB bs (fitV W wide) (costV bs W wide) rs.length T a e (u, v)) := ⟨by unfold stepB; rw [if_neg HNG.out, HXC.out, if_pos (Or.inr hcu)]⟩
            go_wp2
            go_roundg (en + 1 - (e + 1))
            case measure => have := HLN.out; omega
            case rel => exact ⟨e + 1, c, (e : Int), by have h9 := HLE.out; have h8 := HN.out; first | go_num | (congr 1; unfold wrap64; omega), zG HAE2.out, Nat.le_refl _, ⟨by rw [← HQQ.out]; congr 1; exact HST.out⟩, ⟨by have h := HT7.out.set HAL.out c (e : Int); rw [updV_updV] at h; exact h⟩, ⟨(HB7.out.setCell (p := ⟨g0, a * 2, none⟩) HG0.out _).setCell (p := ⟨g0, a * 2 + 1, none⟩) HG0.out _⟩⟩
           ·
            have HST : Aside0 ((u, v) = stepB bs (fitV W wide) (costV bs W wide) rs.length T a e (u, v)) := ⟨by unfold stepB; rw [if_neg HNG.out, HXC.out, if_neg (show ¬ (v < 0 ∨ c < u) by omega)]⟩
            go_wp2
            go_roundg (en + 1 - (e + 1))
            case measure => have := HLN.out; omega
            case rel => exact ⟨e + 1, u, v, by have h9 := HLE.out; have h8 := HN.out; first | go_num | (congr 1; unfold wrap64; omega), zG HAE2.out, Nat.le_refl _, ⟨by rw [← HQQ.out]; congr 1; exact HST.out⟩, HT7, HB7⟩
       ·
        have henz : ¬ (e : Int) < (rs.length : Int) := by omega
        have HNG : Aside0 (¬ (bs.getD (e - 1) 0 = 0 ∨ fitV W wide a e = false ∨ (e < rs.length ∧ (T e).2 < 0))) := ⟨by rw [HYE.out, hfi, HP2.out]; intro h; rcases h with h | h | h; exact hy0 h; cases h; exact hen1 h.1⟩
        clear hy0 hfi hen1
        obtain ⟨x, hx⟩ : ∃ x, costV bs W wide a e = x := ⟨_, rfl⟩
        have HCX : Aside0 ((if bs.getD m 0 = 2 then 0 else (wide - W a e) * (wide - W a e)) = x) := ⟨by rw [← hx]; unfold costV; rw [HYE.out, HYM.out]⟩
        have hxb : 0 ≤ x ∧ x ≤ 1000000000000000000 := by rw [← HCX.out]; split; omega; exact sq_fit _ (HWB.out a e (zG HAE2.out) HLE.out)
        have hpb := HPB.out
        obtain ⟨c, hc⟩ : ∃ c, x + p1 = c := ⟨_, rfl⟩
        have hw3 : wrap64 (x + p1) = c := by unfold wrap64; omega
        have hw4 : IntKind.i64.wrap (x + p1) = c := by rw [i64_w]; exact hw3
        have HXC := az (show costV bs W wide a e + (T e).1 = c by rw [hx, HP1.out]; exact hc)
        clear hx hxb hpb hc
        go_upto_region 12 with (go_at_call 64; go_must (refine (fitsS_calls k gb A0 c0 rs A1 c1 ws (some ad5) c2 bs wide (a : Int) (e : Int) (W a e) _ HQ.out (HW.out a e (zG HAE2.out) HLE.out)).mono ?_); rw [show decide (W a e ≤ wide) = true from HFI.out]; rintro e1 w2 ⟨rfl, hb2⟩; have HB2 := az (below_then HB.out HB.out.size hb2); have HT2 := az (HT.out.below hb2); have HL2 := az hb2; have y0 := hb2.cell (World.block_lt_of_cell? _ _ y0) |>.trans y0; have y1 := hb2.cell (World.block_lt_of_cell? _ _ y1) |>.trans y1; clear hb2)
        have hJ := FlJ.of (p := ⟨g0, e * 2, none⟩) (q := ⟨g0, e * 2, none⟩) ⟨HQ.out.below HL2.out, Below.refl _ _, y0, y0⟩
        clear y0 y1 q2 hx5
        unfold FlJ at hJ
        go_region_held3 (fun W' => W'.cell? ⟨gb, 0, none⟩ = some (.slice A0 rs.length c0) ∧ W'.cell? ⟨gb, 1, none⟩ = some (.slice A1 ws.length c1) ∧ W'.cell? ⟨gb, 2, none⟩ = some (.slice (some ad5) bs.length c2) ∧ W'.cell? ⟨gb, 3, none⟩ = some (.int .i64 wide) ∧ W'.cell? ⟨g0, e * 2, none⟩ = some (.int .i64 p1) ∧ W'.cell? ⟨g0, e * 2, none⟩ = some (.int .i64 p1) ∧ Aside0 (FlK 77 gb A0 c0 rs A1 c1 ws (some ad5) c2 bs wide ⟨g0, e * 2, none⟩ p1 ⟨g0, e * 2, none⟩ p1 w2 W')) (first | (with_reducible assumption) | (with_reducible refine FlJ.below ?_ zI; with_reducible assumption) | (with_reducible exact FlJ.drew zI)) (first | (go_at_call 67; (with_reducible refine (costS_calls k gb A0 c0 rs A1 c1 ws (some ad5) c2 bs wide (a : Int) (e : Int) (W a e) m _ ?s1 HEM.out HMB.out (HW.out a e (zG HAE2.out) HLE.out) (HWB.out a e (zG HAE2.out) HLE.out)).mono ?_); (case s1 => exact (show FlJ 77 gb A0 c0 rs A1 c1 ws (some ad5) c2 bs wide ⟨g0, e * 2, none⟩ p1 ⟨g0, e * 2, none⟩ p1 w2 _ from zI).2.2.2.2.2.2.out.1); rw [HCX.out]; rintro e3 w3 ⟨rfl, p⟩))
        all_goals
         have HB6 := az (show FlJ 77 gb A0 c0 rs A1 c1 ws (some ad5) c2 bs wide ⟨g0, e * 2, none⟩ p1 ⟨g0, e * 2, none⟩ p1 w2 _ from zI).2.2.2.2.2.2.out.2.1
         have HB7 := az (below_then HB2.out HB2.out.size HB6.out)
         have HT7 := az (HT2.out.below HB6.out)
         obtain ⟨z0, z1, z2, z3⟩ := HT7.out.cells HAL.out
         rw [updV_at] at z0 z1
         by_cases hv0 : v < 0
         ·
          have HST : Aside0 ((c, (e : Int)) = stepB bs (fitV W wide) (costV bs W wide) rs.length T a e (u, v)) := ⟨by unfold stepB; rw [if_neg HNG.out, HXC.out, if_pos (Or.inl hv0)]⟩
          go_wp2
          go_roundg (en + 1 - (e + 1))
          case measure => have := HLN.out; omega
          case rel => exact ⟨e + 1, c, (e : Int), by have h9 := HLE.out; have h8 := HN.out; first | go_num | (congr 1; unfold wrap64; omega), zG HAE2.out, Nat.le_refl _, ⟨by rw [← HQQ.out]; congr 1; exact HST.out⟩, ⟨by have h := HT7.out.set HAL.out c (e : Int); rw [updV_updV] at h; exact h⟩, ⟨(HB7.out.setCell (p := ⟨g0, a * 2, none⟩) HG0.out _).setCell (p := ⟨g0, a * 2 + 1, none⟩) HG0.out _⟩⟩
         ·
          by_cases hcu : c < u
          ·
           have HST : Aside0 ((c, (e : Int)) = stepB bs (fitV W wide) (costV bs W wide) rs.length T a e (u, v)) := ⟨by unfold stepB; rw [if_neg HNG.out, HXC.out, if_pos (Or.inr hcu)]⟩
           go_wp2
           go_roundg (en + 1 - (e + 1))
           case measure => have := HLN.out; omega
           case rel => exact ⟨e + 1, c, (e : Int), by have h9 := HLE.out; have h8 := HN.out; first | go_num | (congr 1; unfold wrap64; omega), zG HAE2.out, Nat.le_refl _, ⟨by rw [← HQQ.out]; congr 1; exact HST.out⟩, ⟨by have h := HT7.out.set HAL.out c (e : Int); rw [updV_updV] at h; exact h⟩, ⟨(HB7.out.setCell (p := ⟨g0, a * 2, none⟩) HG0.out _).setCell (p := ⟨g0, a * 2 + 1, none⟩) HG0.out _⟩⟩
          ·
           have HST : Aside0 ((u, v) = stepB bs (fitV W wide) (costV bs W wide) rs.length T a e (u, v)) := ⟨by unfold stepB; rw [if_neg HNG.out, HXC.out, if_neg (show ¬ (v < 0 ∨ c < u) by omega)]⟩
           go_wp2
           go_roundg (en + 1 - (e + 1))
           case measure => have := HLN.out; omega
           case rel => exact ⟨e + 1, u, v, by have h9 := HLE.out; have h8 := HN.out; first | go_num | (congr 1; unfold wrap64; omega), zG HAE2.out, Nat.le_refl _, ⟨by rw [← HQQ.out]; congr 1; exact HST.out⟩, HT7, HB7⟩
    ·
     have hlez : ¬ (e : Int) ≤ (en : Int) := by omega
     have hq := HF.out
     rw [show en + 1 - e = 0 by omega, rowB] at hq
     have HQQ := az hq
     clear hq HF hle
     go_wp2
     go_roundg (rs.length - (d + 1))
     case measure => have := HDL.out; omega
     case rel => exact ⟨d + 1, by have h9 := HAE.out; have h8 := HDL.out; have h7 := HN.out; first | go_num | (congr 1; unfold wrap64; omega), HDL.out, Nat.le_refl _, ⟨by rw [tabB, HAE.out, HTE.out, HEE.out, ← HQQ.out]; exact HT.out⟩, HB⟩
  ·
   obtain rfl : d = rs.length := by omega
   have hzz : (rs.length : Int) - 1 - (rs.length : Int) = -1 := by omega
   rw [hzz]
   obtain ⟨wo, hwo⟩ : ∃ wo, wo = wr := ⟨_, rfl⟩
   subst hwo
   have HTB2 : Aside0 (∀ j : Nat, True) := ⟨fun _ => trivial⟩
   obtain ⟨T, hT⟩ : ∃ T, (tabB bs (fitV W wide) (costV bs W wide) rs.length) rs.length = T := ⟨_, rfl⟩
   rw [hT] at HT HRR
   clear hlt hzz hT HTB HTB2 hd hg
   go_wp2_with ((with_reducible refine gate_dst (N := 100) rfl ?_); refine Kd.R_lit (Kd.int .i64) wo.heap.size 3 ?hg (N := 100) ?hd (xs := ([] : List Int)) (inner := []) (ok := fun _ => True) (okp := fun _ => True) ?hr ?hp (fun _ hk => hk) trivial (Below.refl _ _) (Nat.le_refl _) (by simp) ?_; (case hd => rfl); (case hg => rfl); (case hr => first | (go_simp; done) | (go_simp; rfl)); (case hp => exact (Reps.none _ _)); intro v1 w2 ho1 hb1 hg_ hnew_; clear hg_ hnew_; have HO1 := az ho1; have HB1 := az hb1; clear ho1 hb1)
   go_loopg [10, 11] rs.length (fun gg s10 s11 wr => ∃ (i g : Nat) (out : List Int), s11 = .int .i64 i ∧ i ≤ rs.length ∧ g ≤ gg ∧ Aside0 (∃ res, outB T rs.length g i = some res ∧ (if ok = true then some r else none) = res.map (fun l => out ++ l)) ∧ Aside0 (out.length + g ≤ rs.length) ∧ Aside0 (Kd.R (Kd.int .i64) 3 wr wo.heap.size (fun _ => True) s10 out) ∧ Aside0 (Below wo.heap.size wo wr))
   case atStart => exact ⟨0, rs.length, [], rfl, Nat.zero_le _, Nat.le_refl _, ⟨_, HRR.out, by cases ok <;> rfl⟩, ⟨by simp⟩, HO1, HB1⟩
   case round =>
    clear HRR HO1 HB1
    obtain ⟨i, g, out, rfl, hi, hg, HF, HLO, HO, HBX⟩ := hrel
    obtain ⟨res, hq, hres⟩ := HF.out
    have HTX := az (HT.out.below HBX.out)
    by_cases hlt : i < rs.length
    ·
     have hltz : (i : Int) < (rs.length : Int) := by omega
     have hi0 : (0 : Int) ≤ (i : Int) := by omega
     have hiz : (i : Int) < ((rs.length + 1 : Nat) : Int) := by omega
     obtain ⟨y0, y1, _, _⟩ := HTX.out.cells (i := i) (by omega)
     cases g with
     | zero => rw [outB, if_pos hlt] at hq; cases hq
     | succ g =>
     rw [outB, if_pos hlt] at hq
     obtain ⟨x, hx⟩ : ∃ x, (T i).2 = x := ⟨_, rfl⟩
     rw [hx] at hq y1
     by_cases hx0 : x < 0
     ·
      rw [if_pos hx0] at hq
      obtain rfl := Option.some.inj hq
      have HOK : Aside0 (ok = false ∧ r = []) := ⟨by
       cases ok
       · exact ⟨rfl, HR0.out rfl⟩
       · rw [if_pos rfl] at hres; cases hres⟩
      clear hq hres HF hx hlt
      go_wp2_with ((with_reducible refine gate_dst (N := 110) rfl ?_); refine Kd.R_lit (Kd.int .i64) wo.heap.size 3 ?hg (N := 110) ?hd (xs := ([] : List Int)) (inner := []) (ok := fun _ => True) (okp := fun _ => True) ?hr ?hp (fun _ hk => hk) trivial HBX.out HBX.out.size (by simp) ?_; (case hd => rfl); (case hg => rfl); (case hr => first | (go_simp; done) | (go_simp; rfl)); (case hp => exact (Reps.none _ _)); intro v2 w5 ho2 hb2 hg_ hnew_; clear hg_ hnew_; have HO2 := az ho2; have HB2 := az hb2; clear ho2 hb2)
      go_ret2
      exact ⟨_, by rw [HOK.out.1]; first | done | rfl, by rw [HOK.out.2, ← HGE.out]; exact Kd.R_lower HO2.out HB.out.size, by first | exact below_then HB.out HB.out.size HB2.out | (rw [← HGE.out]; exact below_then HB.out HB.out.size HB2.out)⟩
     ·
      rw [if_neg hx0] at hq
      by_cases hxn : x ≤ (rs.length : Int)
      case neg => rw [if_neg hxn] at hq; cases hq
      case pos =>
      rw [if_pos hxn] at hq
      replace hq := Option.bind_eq_some_iff.mp hq
      obtain ⟨l, hl, hq⟩ := hq
      obtain rfl := Option.some.inj hq
      obtain ⟨z, rfl⟩ : ∃ z : Nat, x = (z : Int) := ⟨x.toNat, by omega⟩
      rw [Int.toNat_natCast] at hl
      have HLL := az hl
      have HRE := az hres
      have HXB := az (show z ≤ rs.length by omega)
      have HGG := az hg
      clear hl hres hx hlt HF hg hxn
      go_wp2_with ((with_reducible refine gate_builtin (b := .append) (xs := #[.tmp 116, .tmp 118]) rfl ?_); at_builtin; go_must (refine appI (w0 := wo) (base := wo.heap.size) Tryz.underlying22 info3 rfl (.tmp 116) (.tmp 118) rfl _ out (z : Int) rfl rfl HO.out HBX.out HBX.out.size ?aL ?_); (case aL => have := HLO.out; have := HN.out; omega); intro v9 w9 ho9 hb9 hg9 hat9; have HO9 := az ho9; have HB9 := az hb9; clear ho9 hb9 hg9 hat9)
      go_roundg g
      case measure => have := HGG.out; omega
      case rel => exact ⟨z, g, _, rfl, HXB.out, Nat.le_refl _, ⟨l, HLL.out, by have h := HRE.out; rw [h]; cases l <;> simp⟩, ⟨by have := HLO.out; rw [List.length_append]; simp; omega⟩, HO9, HB9⟩
    ·
     have hltz : ¬ (i : Int) < (rs.length : Int) := by omega
     have HRE : Aside0 (ok = true ∧ out = r) := by
      have : res = some [] := by
       cases g with
       | zero => rw [outB, if_neg hlt] at hq; exact (Option.some.inj hq).symm
       | succ g => rw [outB, if_neg hlt] at hq; exact (Option.some.inj hq).symm
      subst this
      cases ok
      · rw [if_neg (by decide)] at hres; cases hres
      · rw [if_pos rfl] at hres; exact ⟨rfl, by have h := Option.some.inj hres; simpa using h.symm⟩
     clear hq hres HF hlt
     go_wp2
     go_ret2
     exact ⟨_, by rw [HRE.out.1]; first | done | rfl, by rw [← HRE.out.2, ← HGE.out]; exact Kd.R_lower HO.out HB.out.size, by first | exact below_then HB.out HB.out.size HBX.out | (rw [← HGE.out]; exact below_then HB.out HB.out.size HBX.out)⟩
def spec_l7Least.f (a0 : Int) (a1 : Int) : Option (Int) := if a0 < a1 then (some a0) else (some a1)
theorem spec_l7Least.calls (a0 : Int) (a1 : Int) (r : Int) (w : World) (h : spec_l7Least.f a0 a1 = some r) :
  Calls Tryz.prog 129 #[.int .i64 a0, .int .i64 a1] w fun e w' => e = .returned (.int .i64 r) ∧ Drawn0 w w' := by
 have H : (if a0 < a1 then (some a0) else (some a1)) = some r := h
 clear h
 by_cases c3 : a0 < a1
 ·
  rw [if_pos c3] at H
  have c3b0 : decide (a0 < a1) = true := decide_eq_true c3
  clear c3
  obtain rfl := Option.some.inj H
  go_enter Tryz.func129, Tryz.ntmps129
  go_wp2
  go_ret
  exact ⟨zB, zE⟩
 ·
  rw [if_neg c3] at H
  have c3b0 : decide (a0 < a1) = false := decide_eq_false c3
  clear c3
  obtain rfl := Option.some.inj H
  go_enter Tryz.func129, Tryz.ntmps129
  go_wp2
  go_ret
  exact ⟨zB, zE⟩
theorem forcedS_calls (k : Nat) (gb : Nat) (A0 : Option Addr) (c0 : Nat) (rs : List Int) (A1 : Option Addr) (c1 : Nat) (ws : List Int) (A2 : Option Addr) (c2 : Nat) (bs : List Int) (wide : Int) (W : Nat → Nat → Int) (J : Nat → Bool) (fr : Nat) (w : World) (hf : FlO 77 gb A0 c0 rs A1 c1 ws A2 c2 bs wide w) (hfr : fr ≤ rs.length) (hn : rs.length ≤ 1000) (hW : ∀ j : Nat, fr ≤ j → j ≤ rs.length → spec_l7Wide.f k rs ws (fr : Int) (j : Int) = some (W fr j)) (hJ : ∀ i : Nat, 0 < i → i < rs.length → spec_l2Joins.f k rs (i : Int) = some (J i)) :
  Calls Tryz.prog 130 #[.pointer (some ⟨gb, 0, none⟩), .int .i64 fr] w fun e w' => e = .returned (.int .i64 (forcedN (fitV W wide) J rs.length fr (rs.length - fr) (fr + 1) fr : Nat)) ∧ Below w.heap.size w w' := by
 have HS := az hf
 have HW := az hW
 have HJ := az hJ
 have HFR := az hfr
 clear hf hW hJ
 go_enter Tryz.func130, Tryz.ntmps130
 go_wp2
 go_loopg [5, 6] rs.length (fun gg s5 s6 wr => ∃ i tq : Nat, s5 = .int .i64 tq ∧ s6 = .int .i64 i ∧ i ≤ rs.length + 1 ∧ fr < i ∧ tq ≤ rs.length ∧ rs.length + 1 - i ≤ gg ∧ Aside0 (forcedN (fitV W wide) J rs.length fr (rs.length + 1 - i) i tq = forcedN (fitV W wide) J rs.length fr (rs.length - fr) (fr + 1) fr) ∧ Aside0 (Below w.heap.size w wr))
 case atStart => exact ⟨fr + 1, fr, rfl, by go_num, by omega, by omega, hfr, by omega, ⟨by rw [show rs.length + 1 - (fr + 1) = rs.length - fr by omega]⟩, ⟨Below.refl _ _⟩⟩
 case round =>
  obtain ⟨i, tq, rfl, rfl, hi, hi0, hto, hg, HF, HB⟩ := hrel
  have HQ := az (HS.out.below HB.out)
  have q0 := (blk_cell HQ.out.1 0).trans (show _ = some (Value.slice A0 rs.length c0) from rfl)
  have HFRI := az hi0
  by_cases hle : i ≤ rs.length
  ·
   have hlez : (i : Int) ≤ (rs.length : Int) := by omega
   have hq := HF.out
   rw [show rs.length + 1 - i = (rs.length + 1 - (i + 1)) + 1 by omega, forcedN] at hq
   clear HF
   have HLE := az hle
   have HTO := az hto
   clear hi hto hle
   by_cases hlt : i < rs.length
   ·
    have hltz : (i : Int) < (rs.length : Int) := by omega
    cases hj : J i
    case true =>
     rw [if_pos ⟨hlt, hj⟩] at hq
     have HJI := az (HJ.out i (by omega) hlt)
     rw [hj] at HJI
     have HQQ := az hq
     clear hq hlt hj
     go_wp2_with (go_at_call 124; go_must (refine (spec_l2Joins.calls k A0 c0 rs (i : Int) true _ HQ.out.2.1 HQ.out.2.2.1 HJI.out).mono ?_); rintro e w1 ⟨rfl, hb1⟩; have HB1 := az (below_then HB.out HB.out.size hb1); clear hb1)
     go_roundg (rs.length + 1 - (i + 1))
     case measure => have := HLE.out; omega
     case rel => exact ⟨i + 1, tq, rfl, by go_num, zG HLE.out, zG HFRI.out, HTO.out, Nat.le_refl _, HQQ, HB1⟩
    case false =>
     rw [if_neg (show ¬ (i < rs.length ∧ J i = true) from fun h => by rw [hj] at h; exact absurd h.2 (by decide))] at hq
     have HJI := az (HJ.out i (by omega) hlt)
     rw [hj] at HJI
     clear hlt hj
     by_cases hft : fr < tq
     ·
      have hftz : (fr : Int) < (tq : Int) := by omega
      cases hfi : fitV W wide fr i
      case true =>
       rw [if_neg (show ¬ (fr < tq ∧ fitV W wide fr i = false) from fun h => by rw [hfi] at h; exact absurd h.2 (by decide))] at hq
       have HFI := az hfi
       have HQQ := az hq
       clear hq hfi hft
       go_wp2_with (first | (go_at_call 124; go_must (refine (spec_l2Joins.calls k A0 c0 rs (i : Int) false _ HQ.out.2.1 HQ.out.2.2.1 HJI.out).mono ?_); rintro e w1 ⟨rfl, hb1⟩; have HB1 := az (below_then HB.out HB.out.size hb1); clear hb1) | (go_at_call 64; go_must (refine (fitsS_calls k gb A0 c0 rs A1 c1 ws A2 c2 bs wide (fr : Int) (i : Int) (W fr i) _ (HS.out.below HB1.out) (HW.out i (zG HFRI.out) HLE.out)).mono ?_); rw [(show decide (W fr i ≤ wide) = true from HFI.out)]; rintro e w2 ⟨rfl, hb2⟩; have HB2 := az (below_then HB1.out HB1.out.size hb2); clear hb2))
       go_roundg (rs.length + 1 - (i + 1))
       case measure => have := HLE.out; omega
       case rel => exact ⟨i + 1, i, rfl, by go_num, zG HLE.out, zG HFRI.out, HLE.out, Nat.le_refl _, HQQ, HB2⟩
      case false =>
       rw [if_pos ⟨hft, hfi⟩] at hq
       have HFI := az hfi
       have HQQ := az hq
       clear hq hfi hft
       go_wp2_with (first | (go_at_call 124; go_must (refine (spec_l2Joins.calls k A0 c0 rs (i : Int) false _ HQ.out.2.1 HQ.out.2.2.1 HJI.out).mono ?_); rintro e w1 ⟨rfl, hb1⟩; have HB1 := az (below_then HB.out HB.out.size hb1); clear hb1) | (go_at_call 64; go_must (refine (fitsS_calls k gb A0 c0 rs A1 c1 ws A2 c2 bs wide (fr : Int) (i : Int) (W fr i) _ (HS.out.below HB1.out) (HW.out i (zG HFRI.out) HLE.out)).mono ?_); rw [(show decide (W fr i ≤ wide) = false from HFI.out)]; rintro e w2 ⟨rfl, hb2⟩; have HB2 := az (below_then HB1.out HB1.out.size hb2); clear hb2))
       go_ret
       exact ⟨by rw [← HQQ.out]; first | done | rfl, HB2.out⟩
     ·
      have hftz : ¬ (fr : Int) < (tq : Int) := by omega
      rw [if_neg (show ¬ (fr < tq ∧ fitV W wide fr i = false) from fun h => hft h.1)] at hq
      have HQQ := az hq
      clear hq hft
      go_wp2_with (first | (go_at_call 124; go_must (refine (spec_l2Joins.calls k A0 c0 rs (i : Int) false _ HQ.out.2.1 HQ.out.2.2.1 HJI.out).mono ?_); rintro e w1 ⟨rfl, hb1⟩; have HB1 := az (below_then HB.out HB.out.size hb1); clear hb1))
      go_roundg (rs.length + 1 - (i + 1))
      case measure => have := HLE.out; omega
      case rel => exact ⟨i + 1, i, rfl, by go_num, zG HLE.out, zG HFRI.out, HLE.out, Nat.le_refl _, HQQ, HB1⟩
   ·
    have hltz : ¬ (i : Int) < (rs.length : Int) := by omega
    rw [if_neg (show ¬ (i < rs.length ∧ J i = true) from fun h => hlt h.1)] at hq
    clear hlt
    by_cases hft : fr < tq
    ·
     have hftz : (fr : Int) < (tq : Int) := by omega
     cases hfi : fitV W wide fr i
     case true =>
      rw [if_neg (show ¬ (fr < tq ∧ fitV W wide fr i = false) from fun h => by rw [hfi] at h; exact absurd h.2 (by decide))] at hq
      have HFI := az hfi
      have HQQ := az hq
      clear hq hfi hft
      go_wp2_with (first | (go_at_call 64; go_must (refine (fitsS_calls k gb A0 c0 rs A1 c1 ws A2 c2 bs wide (fr : Int) (i : Int) (W fr i) _ (HS.out.below HB.out) (HW.out i (zG HFRI.out) HLE.out)).mono ?_); rw [(show decide (W fr i ≤ wide) = true from HFI.out)]; rintro e w2 ⟨rfl, hb2⟩; have HB2 := az (below_then HB.out HB.out.size hb2); clear hb2))
      go_roundg (rs.length + 1 - (i + 1))
      case measure => have := HLE.out; omega
      case rel => exact ⟨i + 1, i, rfl, by go_num, zG HLE.out, zG HFRI.out, HLE.out, Nat.le_refl _, HQQ, HB2⟩
     case false =>
      rw [if_pos ⟨hft, hfi⟩] at hq
      have HFI := az hfi
      have HQQ := az hq
      clear hq hfi hft
      go_wp2_with (first | (go_at_call 64; go_must (refine (fitsS_calls k gb A0 c0 rs A1 c1 ws A2 c2 bs wide (fr : Int) (i : Int) (W fr i) _ (HS.out.below HB.out) (HW.out i (zG HFRI.out) HLE.out)).mono ?_); rw [(show decide (W fr i ≤ wide) = false from HFI.out)]; rintro e w2 ⟨rfl, hb2⟩; have HB2 := az (below_then HB.out HB.out.size hb2); clear hb2))
      go_ret
      exact ⟨by rw [← HQQ.out]; first | done | rfl, HB2.out⟩
    ·
     have hftz : ¬ (fr : Int) < (tq : Int) := by omega
     rw [if_neg (show ¬ (fr < tq ∧ fitV W wide fr i = false) from fun h => hft h.1)] at hq
     have HQQ := az hq
     clear hq hft
     go_wp2
     go_roundg (rs.length + 1 - (i + 1))
     case measure => have := HLE.out; omega
     case rel => exact ⟨i + 1, i, rfl, by go_num, zG HLE.out, zG HFRI.out, HLE.out, Nat.le_refl _, HQQ, HB⟩
  ·
   have hlez : ¬ (i : Int) ≤ (rs.length : Int) := by omega
   obtain rfl : i = rs.length + 1 := by omega
   have hq := HF.out
   rw [Nat.sub_self, forcedN] at hq
   have HQQ := az hq
   clear hq HF
   go_wp2
   go_ret
   exact ⟨by rw [← HQQ.out]; first | done | rfl, HB.out⟩
theorem nextS_calls (k : Nat) (gb : Nat) (A0 : Option Addr) (c0 : Nat) (rs : List Int) (A1 : Option Addr) (c1 : Nat) (ws : List Int) (A2 : Option Addr) (c2 : Nat) (bs : List Int) (wide : Int) (W : Nat → Nat → Int) (J : Nat → Bool) (fr : Nat) (w : World) (hf : FlO 77 gb A0 c0 rs A1 c1 ws A2 c2 bs wide w) (hfr : fr ≤ rs.length) (hn : rs.length ≤ 1000) (hbl : bs.length = rs.length) (hW : ∀ j : Nat, fr ≤ j → j ≤ rs.length → spec_l7Wide.f k rs ws (fr : Int) (j : Int) = some (W fr j)) (hJ : ∀ i : Nat, 0 < i → i < rs.length → spec_l2Joins.f k rs (i : Int) = some (J i)) :
  Calls Tryz.prog 97 #[.pointer (some ⟨gb, 0, none⟩), .int .i64 fr] w fun e w' => e = .returned (.int .i64 (nextV bs (fitV W wide) J rs.length fr)) ∧ Below w.heap.size w w' := by
 have HS := az hf
 have HW := az hW
 have HJ := az hJ
 have HFR := az hfr
 have HBL := az hbl
 have HN := az hn
 have HML := az (mustN_le bs rs.length (bs.length - fr) fr (by omega))
 clear hf hW hJ hbl hfr
 go_enter Tryz.func97, Tryz.ntmps97
 go_upto_region 2 with (go_at_call 65; go_must (refine (mustS_calls gb A0 c0 rs A1 c1 ws A2 c2 bs wide fr _ HS.out (zS HBL.out HFR.out) (zS HBL.out HN.out)).mono ?_); rintro e w1 ⟨rfl, hd1⟩; have HB0 := az hd1.below; clear hd1)
 have HME : Aside0 (mustV bs rs.length fr = mustN bs rs.length (bs.length - fr) fr) := ⟨rfl⟩
 obtain ⟨en, hen⟩ : ∃ en, mustV bs rs.length fr = en := ⟨_, rfl⟩
 have HEN := az (show en ≤ rs.length from hen ▸ HML.out)
 have HEE := az hen
 rw [hen]
 clear HML HME hen
 go_wp2
 go_loopg [6, 7] rs.length (fun gg s6 s7 wr => ∃ (i : Nat) (b : Int), s6 = .int .i64 b ∧ s7 = .int .i64 i ∧ fr < i ∧ en + 1 - i ≤ gg ∧ Aside0 (nextN bs (fitV W wide) fr (en + 1 - i) i b = nextN bs (fitV W wide) fr (en - fr) (fr + 1) (-1)) ∧ Aside0 (Below w.heap.size w wr))
 case atStart => exact ⟨fr + 1, -1, rfl, by have h9 := HFR.out; clear HEN HEE HB0; first | go_num | (congr 1; unfold wrap64; omega), by omega, zS HEN.out HFR.out, ⟨by rw [show en + 1 - (fr + 1) = en - fr by omega]⟩, HB0⟩
 case round =>
  obtain ⟨i, b, rfl, rfl, hi0, hg, HF, HB⟩ := hrel
  have HQ := az (HS.out.below HB.out)
  by_cases hle : i ≤ en
  ·
   have hlez : (i : Int) ≤ (en : Int) := by omega
   have hq := HF.out
   rw [show en + 1 - i = (en + 1 - (i + 1)) + 1 by omega, nextN] at hq
   obtain ⟨m, hm⟩ : ∃ m : Nat, i = m + 1 := ⟨i - 1, by omega⟩
   have hm0 : (0 : Int) ≤ (m : Int) := by omega
   have hmz : (m : Int) < (bs.length : Int) := by have := HEN.out; have := HBL.out; omega
   have q2 := (blk_cell HQ.out.1 2).trans (show _ = some (Value.slice A2 bs.length c2) from rfl)
   obtain ⟨ad5, hA5, hx5⟩ := Kd.at_int HQ.out.2.2.2.2.2.1 (m : Int) hm0 hmz
   have hxx : rd bs (m : Int) = bs.getD m 0 := by simp [rd]
   rw [hxx, Int.toNat_natCast] at hx5
   obtain ⟨y, hy⟩ : ∃ y, bs.getD m 0 = y := ⟨_, rfl⟩
   rw [show i - 1 = m by omega] at hq
   rw [hy] at hx5 hq
   subst hA5
   have h99 := HEN.out
   have hw1 : IntKind.i64.wrap ((i : Int) - 1) = (m : Int) := by rw [i64_w]; unfold wrap64; omega
   have hw2 : wrap64 ((i : Int) - 1) = (m : Int) := by unfold wrap64; omega
   have HLE := az (show i ≤ rs.length from (zG HEN.out))
   have HLN := az hle
   have HFRI := az hi0
   clear hxx hy hm hle HF
   by_cases hy0 : y = 0
   ·
    rw [if_neg (show ¬ (¬ y = 0 ∧ fitV W wide fr i = true) from fun h => h.1 hy0)] at hq
    have b0 : (y != 0) = false := bne_eq_false_iff_eq.mpr hy0
    have HQQ := az hq
    clear hq hy0
    go_wp2
    go_roundg (en + 1 - (i + 1))
    case measure => have := HLN.out; omega
    case rel => exact ⟨i + 1, b, rfl, by have h9 := HLE.out; first | go_num | (congr 1; unfold wrap64; omega), zG HFRI.out, Nat.le_refl _, HQQ, HB⟩
   ·
    have b0 : (y != 0) = true := bne_iff_ne.mpr hy0
    cases hfi : fitV W wide fr i
    case true =>
     rw [if_pos ⟨hy0, hfi⟩] at hq
     have HFI := az hfi
     have HQQ := az hq
     clear hq hy0 hfi
     go_wp2_with (go_at_call 64; go_must (refine (fitsS_calls k gb A0 c0 rs A1 c1 ws (some ad5) c2 bs wide (fr : Int) (i : Int) (W fr i) _ HQ.out (HW.out i (zG HFRI.out) HLE.out)).mono ?_); rw [(show decide (W fr i ≤ wide) = true from HFI.out)]; rintro e w2 ⟨rfl, hb2⟩; have HB2 := az (below_then HB.out HB.out.size hb2); clear hb2)
     go_roundg (en + 1 - (i + 1))
     case measure => have := HLN.out; omega
     case rel => exact ⟨i + 1, i, rfl, by have h9 := HLE.out; first | go_num | (congr 1; unfold wrap64; omega), zG HFRI.out, Nat.le_refl _, HQQ, HB2⟩
    case false =>
     rw [if_neg (show ¬ (¬ y = 0 ∧ fitV W wide fr i = true) from fun h => by rw [hfi] at h; exact absurd h.2 (by decide))] at hq
     have HFI := az hfi
     have HQQ := az hq
     clear hq hy0 hfi
     go_wp2_with (go_at_call 64; go_must (refine (fitsS_calls k gb A0 c0 rs A1 c1 ws (some ad5) c2 bs wide (fr : Int) (i : Int) (W fr i) _ HQ.out (HW.out i (zG HFRI.out) HLE.out)).mono ?_); rw [(show decide (W fr i ≤ wide) = false from HFI.out)]; rintro e w2 ⟨rfl, hb2⟩; have HB2 := az (below_then HB.out HB.out.size hb2); clear hb2)
     go_roundg (en + 1 - (i + 1))
     case measure => have := HLN.out; omega
     case rel => exact ⟨i + 1, b, rfl, by have h9 := HLE.out; first | go_num | (congr 1; unfold wrap64; omega), zG HFRI.out, Nat.le_refl _, HQQ, HB2⟩
  ·
   have hlez : ¬ (i : Int) ≤ (en : Int) := by omega
   have hq := HF.out
   rw [show en + 1 - i = 0 by omega, nextN] at hq
   have HQQ := az hq
   clear hq HF hle
   by_cases hb0 : 0 < b
   ·
    have HV : Aside0 (nextV bs (fitV W wide) J rs.length fr = b) := ⟨by unfold nextV; rw [HEE.out, ← HQQ.out, if_pos hb0]⟩
    go_wp2
    go_ret
    exact ⟨by rw [HV.out]; first | done | rfl, HB.out⟩
   ·
    obtain ⟨fv, hfv⟩ : ∃ fv, forcedN (fitV W wide) J rs.length fr (rs.length - fr) (fr + 1) fr = fv := ⟨_, rfl⟩
    have HV : Aside0 (nextV bs (fitV W wide) J rs.length fr = if (fv : Int) < (en : Int) then (fv : Int) else (en : Int)) := ⟨by unfold nextV; rw [HEE.out, ← HQQ.out, if_neg hb0, hfv]⟩
    have HFV := az hfv
    obtain ⟨mv, hmv⟩ : ∃ mv, (if (fv : Int) < (en : Int) then (fv : Int) else (en : Int)) = mv := ⟨_, rfl⟩
    rw [hmv] at HV
    have HLV : Aside0 (spec_l7Least.f (fv : Int) (en : Int) = some mv) := ⟨by rw [← hmv]; unfold spec_l7Least.f; split <;> rfl⟩
    clear hmv
    clear hfv
    go_wp2_with (first
     | (go_at_call 130; go_must (refine (forcedS_calls k gb A0 c0 rs A1 c1 ws A2 c2 bs wide W J fr _ HQ.out HFR.out HN.out HW.out HJ.out).mono ?_); rw [HFV.out]; rintro e w3 ⟨rfl, hb3⟩; have HB3 := az (below_then HB.out HB.out.size hb3); clear hb3)
     | (go_at_call 129; go_must (refine (spec_l7Least.calls (fv : Int) (en : Int) _ _ HLV.out).mono ?_); rintro e w4 ⟨rfl, hd4⟩; have HB4 := az (below_then HB3.out HB3.out.size hd4.below); clear hd4))
    go_ret
    exact ⟨by rw [HV.out]; first | done | rfl, HB4.out⟩
theorem greedyS_calls (k : Nat) (gb : Nat) (A0 : Option Addr) (c0 : Nat) (rs : List Int) (A1 : Option Addr) (c1 : Nat) (ws : List Int) (A2 : Option Addr) (c2 : Nat) (bs : List Int) (wide : Int) (W : Nat → Nat → Int) (J : Nat → Bool) (r : List Int) (w : World) (hf : FlO 77 gb A0 c0 rs A1 c1 ws A2 c2 bs wide w) (hn : rs.length ≤ 1000) (hbl : bs.length = rs.length) (hW : ∀ i j : Nat, i ≤ j → j ≤ rs.length → spec_l7Wide.f k rs ws (i : Int) (j : Int) = some (W i j)) (hJ : ∀ i : Nat, 0 < i → i < rs.length → spec_l2Joins.f k rs (i : Int) = some (J i)) (hr : greedyN (nextV bs (fitV W wide) J rs.length) rs.length rs.length 0 = some r) :
  Calls Tryz.prog 71 #[.pointer (some ⟨gb, 0, none⟩)] w fun e w' => ∃ v0_ : Value, e = .returned v0_ ∧ Kd.R (Kd.int .i64) 3 w' w.heap.size (fun _ => True) v0_ r ∧ Below w.heap.size w w' := by
 have HS := az hf
 have HW := az hW
 have HJ := az hJ
 have HBL := az hbl
 have HN := az hn
 have HRR := az hr
 clear hf hW hJ hbl hr
 go_enter Tryz.func71, Tryz.ntmps71
 go_wp2_with ((with_reducible refine gate_dst (N := 5) rfl ?_); refine Kd.R_lit (Kd.int .i64) w.heap.size 3 ?hg (N := 5) ?hd (xs := ([] : List Int)) (inner := []) (ok := fun _ => True) (okp := fun _ => True) ?hr ?hp (fun _ hk => hk) trivial (Below.refl _ _) (Nat.le_refl _) (by simp) ?_; (case hd => rfl); (case hg => rfl); (case hr => first | (go_simp; done) | (go_simp; rfl)); (case hp => exact (Reps.none _ _)); intro v1 w1 ho1 hb1 hg_ hnew_; clear hg_ hnew_; have HO1 := az ho1; have HB1 := az hb1; clear ho1 hb1)
 go_loopg [3, 4] rs.length (fun gg s3 s4 wr => ∃ (i g : Nat) (out : List Int), s4 = .int .i64 i ∧ i ≤ rs.length ∧ g ≤ gg ∧ Aside0 (∃ rest, greedyN (nextV bs (fitV W wide) J rs.length) rs.length g i = some rest ∧ out ++ rest = r) ∧ Aside0 (out.length + g ≤ rs.length) ∧ Aside0 (Kd.R (Kd.int .i64) 3 wr w.heap.size (fun _ => True) s3 out) ∧ Aside0 (Below w.heap.size w wr))
 case atStart => exact ⟨0, rs.length, [], rfl, Nat.zero_le _, Nat.le_refl _, ⟨_, HRR.out, rfl⟩, ⟨by simp⟩, HO1, HB1⟩
 case round =>
  clear HRR HO1 HB1
  obtain ⟨i, g, out, rfl, hi, hg, HF, HLO, HO, HB⟩ := hrel
  obtain ⟨rest, hq, hrest⟩ := HF.out
  have HQ := az (HS.out.below HB.out)
  have q0 := (blk_cell HQ.out.1 0).trans (show _ = some (Value.slice A0 rs.length c0) from rfl)
  by_cases hlt : i < rs.length
  ·
   have hltz : (i : Int) < (rs.length : Int) := by omega
   cases g with
   | zero => rw [greedyN, if_pos hlt] at hq; cases hq
   | succ g =>
   rw [greedyN, if_pos hlt] at hq
   by_cases hb : 0 ≤ nextV bs (fitV W wide) J rs.length i ∧ nextV bs (fitV W wide) J rs.length i ≤ (rs.length : Int)
   case neg => rw [if_neg hb] at hq; cases hq
   case pos =>
   rw [if_pos hb] at hq
   replace hq := Option.bind_eq_some_iff.mp hq
   obtain ⟨l, hl, hq⟩ := hq
   obtain rfl := Option.some.inj hq
   obtain ⟨x, hx⟩ : ∃ x : Nat, nextV bs (fitV W wide) J rs.length i = x := ⟨(nextV bs (fitV W wide) J rs.length i).toNat, by omega⟩
   rw [hx, Int.toNat_natCast] at hl
   rw [hx] at hb hrest
   have HXV := az hx
   have HXB := az hb.2
   have HLL := az hl
   have HRE := az hrest
   have HIL := az hi
   have HGG := az hg
   clear hx hb hl hrest hlt HF hg
   go_wp2_with (first
    | (go_at_call 97; go_must (refine (nextS_calls k gb A0 c0 rs A1 c1 ws A2 c2 bs wide W J i _ HQ.out HIL.out HN.out HBL.out (fun j h1 h2 => HW.out i j h1 h2) HJ.out).mono ?_); rw [HXV.out]; rintro e w2 ⟨rfl, hb2⟩; have HO2 := az (Kd.R_below HO.out hb2); have HB2 := az (below_then HB.out HB.out.size hb2); clear hb2)
    | ((with_reducible refine gate_builtin (b := .append) (xs := #[.tmp 16, .tmp 18]) rfl ?_); at_builtin; go_must (refine appI (w0 := w) (base := w.heap.size) Tryz.underlying22 info3 rfl (.tmp 16) (.tmp 18) rfl _ out (x : Int) rfl rfl HO2.out HB2.out HB2.out.size ?aL ?_); (case aL => have := HLO.out; have := HN.out; omega); intro v9 w9 ho9 hb9 hg9 hat9; have HO9 := az ho9; have HB9 := az hb9; clear ho9 hb9 hg9 hat9))
   go_roundg g
   case measure => have := HGG.out; omega
   case rel => exact ⟨x, g, _, rfl, zG HXB.out, Nat.le_refl _, ⟨l, HLL.out, by rw [List.append_assoc]; exact HRE.out⟩, ⟨by have := HLO.out; rw [List.length_append]; simp; omega⟩, HO9, HB9⟩
  ·
   have hltz : ¬ (i : Int) < (rs.length : Int) := by omega
   have HRE : Aside0 (out = r) := by
    have : rest = [] := by
     cases g with
     | zero => rw [greedyN, if_neg hlt] at hq; exact (Option.some.inj hq).symm
     | succ g => rw [greedyN, if_neg hlt] at hq; exact (Option.some.inj hq).symm
    subst this
    exact ⟨by rw [← hrest, List.append_nil]⟩
   clear hq hrest HF
   go_wp2
   go_ret
   exact ⟨_, rfl, by rw [← HRE.out]; exact HO.out, HB.out⟩
theorem l7Lines_calls (k : Nat) (A0 : Option Addr) (c0 : Nat) (rs : List Int) (A1 : Option Addr) (c1 : Nat) (sp : List S50) (wide mode : Int) (ws bs : List Int) (W : Nat → Nat → Int) (J : Nat → Bool) (r : List Int) (w : World) (hr0 : Kd.C (Kd.int .i64) w A0 rs.length rs) (hc0 : rs.length ≤ c0) (hr1 : Kd.C k50 w A1 sp.length sp) (hc1 : sp.length ≤ c1) (hw : spec_l6Wides.f k rs sp = some ws) (hb : spec_l5Breaks.f k rs = some bs) (hn : rs.length ≤ 1000) (hbl : bs.length = rs.length) (hW : ∀ i j : Nat, i ≤ j → j ≤ rs.length → spec_l7Wide.f k rs ws (i : Int) (j : Int) = some (W i j)) (hWb : ∀ i j : Nat, i ≤ j → j ≤ rs.length → (wide - W i j).natAbs ≤ 1000000000) (hTb : ∀ d, d ≤ rs.length → ∀ j, j ≤ rs.length → 0 ≤ (tabB bs (fitV W wide) (costV bs W wide) rs.length d j).1 ∧ (tabB bs (fitV W wide) (costV bs W wide) rs.length d j).1 ≤ 1000000000000000) (hJ : ∀ i : Nat, 0 < i → i < rs.length → spec_l2Joins.f k rs (i : Int) = some (J i)) (hr : linesV bs W J wide rs.length mode = some r) :
  Calls Tryz.prog 37 #[.slice A0 rs.length c0, .slice A1 sp.length c1, .int .i64 wide, .int .i64 mode] w fun e w' => ∃ v0_ : Value, e = .returned v0_ ∧ Kd.R (Kd.int .i64) 3 w' w.heap.size (fun _ => True) v0_ r ∧ Below w.heap.size w w' := by
 have HR := az hr0
 have HC := az hc0
 have HR1 := az hr1
 have HC1 := az hc1
 have HWS := az hw
 have HBS := az hb
 have HN := az hn
 have HBL := az hbl
 have HW := az hW
 have HWB := az hWb
 have HTB := az hTb
 have HJ := az hJ
 clear hr0 hc0 hr1 hc1 hw hb hn hbl hW hWb hTb hJ
 unfold linesV at hr
 by_cases hm : mode = 1
 ·
  rw [if_pos hm] at hr
  have bm : (mode == 1) = true := beq_iff_eq.mpr hm
  clear hm
  replace hr := Option.bind_eq_some_iff.mp hr
  obtain ⟨o, ho, hr⟩ := hr
  cases o with
  | some l =>
   obtain rfl := Option.some.inj hr
   have HO := az (show _ = some (if true = true then some l else none) from ho)
   clear ho hr
   go_enter Tryz.func37, Tryz.ntmps37
   go_wp2_with (first
    | (go_at_call 63; go_must (refine (l7Made_calls k A0 c0 rs A1 c1 sp wide ws bs _ HR.out HC.out HR1.out HC1.out HWS.out HBS.out).mono ?_); rintro e w3 ⟨gb, A4, c4, A5, c5, rfl, hfl, hb3⟩; have HFL := az hfl; have HB3 := az hb3; clear hfl hb3)
    | (go_at_call 70; go_must (refine (bestS_calls k gb A0 c0 rs A4 c4 ws A5 c5 bs wide W _ l true HFL.out HN.out HBL.out HW.out HWB.out HTB.out HO.out (fun h => by cases h)).mono ?_); rintro e w5 ⟨v5, rfl, ho5, hb5⟩; have HO5 := az ho5; have HB5 := az hb5; clear ho5 hb5))
   go_ret
   exact ⟨_, rfl, Kd.R_lower HO5.out HB3.out.size, below_then HB3.out HB3.out.size HB5.out⟩
  | none =>
   have HO := az (show _ = some (if false = true then some [] else none) from ho)
   have HG := az hr
   clear ho hr
   go_enter Tryz.func37, Tryz.ntmps37
   go_wp2_with (first
    | (go_at_call 63; go_must (refine (l7Made_calls k A0 c0 rs A1 c1 sp wide ws bs _ HR.out HC.out HR1.out HC1.out HWS.out HBS.out).mono ?_); rintro e w3 ⟨gb, A4, c4, A5, c5, rfl, hfl, hb3⟩; have HFL := az hfl; have HB3 := az hb3; clear hfl hb3)
    | (go_at_call 70; go_must (refine (bestS_calls k gb A0 c0 rs A4 c4 ws A5 c5 bs wide W _ [] false HFL.out HN.out HBL.out HW.out HWB.out HTB.out HO.out (fun _ => rfl)).mono ?_); rintro e w5 ⟨v5, rfl, ho5, hb5⟩; have HB5 := az (below_then HB3.out HB3.out.size hb5); have HFL5 := az (HFL.out.below hb5); clear ho5 hb5)
    | (go_at_call 71; go_must (refine (greedyS_calls k gb A0 c0 rs A4 c4 ws A5 c5 bs wide W J r _ HFL5.out HN.out HBL.out HW.out HJ.out HG.out).mono ?_); rintro e w6 ⟨v6, rfl, ho6, hb6⟩; have HO6 := az ho6; have HB6 := az hb6; clear ho6 hb6))
   go_ret
   exact ⟨_, rfl, Kd.R_lower HO6.out HB5.out.size, below_then HB5.out HB5.out.size HB6.out⟩
 ·
  rw [if_neg hm] at hr
  have bm : (mode == 1) = false := beq_eq_false_iff_ne.mpr hm
  have HG := az hr
  clear hm hr
  go_enter Tryz.func37, Tryz.ntmps37
  go_wp2_with (first
   | (go_at_call 63; go_must (refine (l7Made_calls k A0 c0 rs A1 c1 sp wide ws bs _ HR.out HC.out HR1.out HC1.out HWS.out HBS.out).mono ?_); rintro e w3 ⟨gb, A4, c4, A5, c5, rfl, hfl, hb3⟩; have HFL := az hfl; have HB3 := az hb3; clear hfl hb3)
   | (go_at_call 71; go_must (refine (greedyS_calls k gb A0 c0 rs A4 c4 ws A5 c5 bs wide W J r _ HFL.out HN.out HBL.out HW.out HJ.out HG.out).mono ?_); rintro e w6 ⟨v6, rfl, ho6, hb6⟩; have HO6 := az ho6; have HB6 := az hb6; clear ho6 hb6))
  go_ret
  exact ⟨_, rfl, Kd.R_lower HO6.out HB3.out.size, below_then HB3.out HB3.out.size HB6.out⟩
def tabWS (k : Nat) (rs ws : List Int) : Nat → Nat → Int := fun i j => if i ≤ j ∧ j ≤ rs.length then (spec_l7Wide.f k rs ws (i : Int) (j : Int)).getD 0 else 0
def tabJS (k : Nat) (rs : List Int) : Nat → Bool := fun i => if 0 < i ∧ i < rs.length then (spec_l2Joins.f k rs (i : Int)).getD false else false
def okWS (k : Nat) (rs ws : List Int) : Prop := ∀ j, j ≤ rs.length → ∀ i, i ≤ j → (spec_l7Wide.f k rs ws (i : Int) (j : Int)).isSome = true
instance (k : Nat) (rs ws : List Int) : Decidable (okWS k rs ws) := by unfold okWS; infer_instance
def okJS (k : Nat) (rs : List Int) : Prop := ∀ i, i < rs.length → 0 < i → (spec_l2Joins.f k rs (i : Int)).isSome = true
instance (k : Nat) (rs : List Int) : Decidable (okJS k rs) := by unfold okJS; infer_instance
def spec_FillLines.f (k : Nat) (l0 : List Int) (l1 : List S50) (a2 a3 : Int) : Option (List Int) :=
 (spec_l7All.f k l0 l1 a2).bind fun a => if a = true then (spec_l1In.f a3 0 1).bind fun b => if b = true then (spec_l6Wides.f k l0 l1).bind fun ws => (spec_l5Breaks.f k l0).bind fun bs => if okWS k l0 ws then (if okJS k l0 then linesO bs (tabWS k l0 ws) (tabJS k l0) a2 l0.length a3 else none) else none else some [] else some []
theorem tabWS_up {k : Nat} {rs ws : List Int} (h : okWS k rs ws) : okWS (k + 1) rs ws ∧ tabWS (k + 1) rs ws = tabWS k rs ws := by
 have e : ∀ j, j ≤ rs.length → ∀ i, i ≤ j → spec_l7Wide.f (k + 1) rs ws (i : Int) (j : Int) = spec_l7Wide.f k rs ws (i : Int) (j : Int) := fun j hj i hi => by
  obtain ⟨x, hx⟩ := Option.isSome_iff_exists.mp (h j hj i hi)
  rw [hx]
  exact spec_l7Wide.mono _ _ _ _ _ _ hx
 refine ⟨fun j hj i hi => by rw [e j hj i hi]; exact h j hj i hi, ?_⟩
 funext i j
 unfold tabWS
 split
 ·
  rename_i hh
  rw [e j hh.2 i hh.1]
 · rfl
theorem tabJS_up {k : Nat} {rs : List Int} (h : okJS k rs) : okJS (k + 1) rs ∧ tabJS (k + 1) rs = tabJS k rs := by
 have e : ∀ i, i < rs.length → 0 < i → spec_l2Joins.f (k + 1) rs (i : Int) = spec_l2Joins.f k rs (i : Int) := fun i hi h0 => by
  obtain ⟨x, hx⟩ := Option.isSome_iff_exists.mp (h i hi h0)
  rw [hx]
  exact spec_l2Joins.mono _ _ _ _ hx
 refine ⟨fun i hi h0 => by rw [e i hi h0]; exact h i hi h0, ?_⟩
 funext i
 unfold tabJS
 split
 ·
  rename_i hh
  rw [e i hh.2 hh.1]
 · rfl
theorem spec_FillLines.mono : ∀ a0 a1 a2 a3 k, LeO (spec_FillLines.f k a0 a1 a2 a3) (spec_FillLines.f (k + 1) a0 a1 a2 a3) := by
 intro a0 a1 a2 a3 k
 unfold spec_FillLines.f
 refine LeO.bind (spec_l7All.mono _ _ _ _) (fun a => LeO.ite (LeO.bind (LeO.refl _) (fun b => LeO.ite (LeO.bind (spec_l6Wides.mono _ _ _) (fun ws => LeO.bind (spec_l5Breaks.mono _ _) (fun bs => ?_))) (LeO.refl _))) (LeO.refl _))
 intro r hr
 by_cases h1 : okWS k a0 ws
 ·
  rw [if_pos h1] at hr
  by_cases h2 : okJS k a0
  ·
   rw [if_pos h2] at hr
   rw [if_pos (tabWS_up h1).1, if_pos (tabJS_up h2).1, (tabWS_up h1).2, (tabJS_up h2).2]
   exact hr
  · rw [if_neg h2] at hr; cases hr
 · rw [if_neg h1] at hr; cases hr
theorem spec_FillLines.calls (k : Nat) (A0 : Option Addr) (c0 : Nat) (l0 : List Int) (A1 : Option Addr) (c1 : Nat) (l1 : List S50) (a2 : Int) (a3 : Int) (r : List Int) (w : World) (hr0 : Kd.C (Kd.int .i64) w A0 l0.length l0) (hc0 : l0.length ≤ c0) (hr1 : Kd.C k50 w A1 l1.length l1) (hc1 : l1.length ≤ c1) (h : spec_FillLines.f k l0 l1 a2 a3 = some r) :
  Calls Tryz.prog 12 #[.slice A0 l0.length c0, .slice A1 l1.length c1, .int .i64 a2, .int .i64 a3] w fun e w' => ∃ v0_ : Value, e = .returned (v0_) ∧ Kd.R (Kd.int .i64) 3 w' w.heap.size (fun _ => True) v0_ r ∧ Below w.heap.size w w' := by
 have HR := az hr0
 have HC := az hc0
 have HR1 := az hr1
 have HC1 := az hc1
 clear hr0 hc0 hr1 hc1
 unfold spec_FillLines.f at h
 replace h := Option.bind_eq_some_iff.mp h
 obtain ⟨a, ha, h⟩ := h
 have HA := az ha
 clear ha
 cases a
 ·
  rw [if_neg (by decide)] at h
  obtain rfl := Option.some.inj h
  clear h
  go_enter Tryz.func12, Tryz.ntmps12
  go_wp2_with (first
   | (go_at_call 35; go_must (refine (spec_l7All.calls k A0 c0 l0 A1 c1 l1 a2 false _ HR.out HC.out HR1.out HC1.out HA.out).mono ?_); rintro e w1 ⟨rfl, hb1⟩; have HB1 := az hb1; clear hb1)
   | ((with_reducible refine gate_dst (N := 19) rfl ?_); refine Kd.R_lit (Kd.int .i64) w.heap.size 3 ?hg (N := 19) ?hd (xs := ([] : List Int)) (inner := []) (ok := fun _ => True) (okp := fun _ => True) ?hr ?hp (fun _ hk => hk) trivial HB1.out HB1.out.size (by simp) ?_; (case hd => rfl); (case hg => rfl); (case hr => first | (go_simp; done) | (go_simp; rfl)); (case hp => exact (Reps.none _ _)); intro v1 w2 ho1 hb1 hg_ hnew_; clear hg_ hnew_; have HO1 := az ho1; have HB2 := az hb1; clear ho1 hb1))
  go_ret
  exact ⟨_, rfl, HO1.out, HB2.out⟩
 rw [if_pos rfl] at h
 replace h := Option.bind_eq_some_iff.mp h
 obtain ⟨b, hb, h⟩ := h
 have HE := az hb
 clear hb
 cases b
 ·
  rw [if_neg (by decide)] at h
  obtain rfl := Option.some.inj h
  clear h
  go_enter Tryz.func12, Tryz.ntmps12
  go_wp2_with (first
   | (go_at_call 35; go_must (refine (spec_l7All.calls k A0 c0 l0 A1 c1 l1 a2 true _ HR.out HC.out HR1.out HC1.out HA.out).mono ?_); rintro e w1 ⟨rfl, hb1⟩; have HB0 := az hb1; clear hb1)
   | (go_at_call 36; go_must (refine (spec_l1In.calls a3 0 1 false _ HE.out).mono ?_); rintro e w2 ⟨rfl, hd2⟩; have HB1 := az (below_then HB0.out HB0.out.size hd2.below); clear hd2)
   | ((with_reducible refine gate_dst (N := 19) rfl ?_); refine Kd.R_lit (Kd.int .i64) w.heap.size 3 ?hg (N := 19) ?hd (xs := ([] : List Int)) (inner := []) (ok := fun _ => True) (okp := fun _ => True) ?hr ?hp (fun _ hk => hk) trivial HB1.out HB1.out.size (by simp) ?_; (case hd => rfl); (case hg => rfl); (case hr => first | (go_simp; done) | (go_simp; rfl)); (case hp => exact (Reps.none _ _)); intro v1 w2 ho1 hb1 hg_ hnew_; clear hg_ hnew_; have HO1 := az ho1; have HB2 := az hb1; clear ho1 hb1))
  go_ret
  exact ⟨_, rfl, HO1.out, HB2.out⟩
 rw [if_pos rfl] at h
 replace h := Option.bind_eq_some_iff.mp h
 obtain ⟨ws, hws, h⟩ := h
 replace h := Option.bind_eq_some_iff.mp h
 obtain ⟨bs, hbs, h⟩ := h
 by_cases h1 : okWS k l0 ws
 case neg => rw [if_neg h1] at h; cases h
 case pos =>
 rw [if_pos h1] at h
 by_cases h2 : okJS k l0
 case neg => rw [if_neg h2] at h; cases h
 case pos =>
 rw [if_pos h2] at h
 unfold linesO at h
 by_cases h3 : l0.length ≤ 1000 ∧ bs.length = l0.length ∧ okB bs (tabWS k l0 ws) a2 l0.length
 case neg => rw [if_neg h3] at h; cases h
 case pos =>
 rw [if_pos h3] at h
 have HW : Aside0 (∀ i j : Nat, i ≤ j → j ≤ l0.length → spec_l7Wide.f k l0 ws (i : Int) (j : Int) = some (tabWS k l0 ws i j)) := ⟨fun i j hi hj => by
  obtain ⟨x, hx⟩ := Option.isSome_iff_exists.mp (h1 j hj i hi)
  unfold tabWS
  rw [if_pos ⟨hi, hj⟩, hx]
  rfl⟩
 have HJ : Aside0 (∀ i : Nat, 0 < i → i < l0.length → spec_l2Joins.f k l0 (i : Int) = some (tabJS k l0 i)) := ⟨fun i h0 hi => by
  obtain ⟨x, hx⟩ := Option.isSome_iff_exists.mp (h2 i hi h0)
  unfold tabJS
  rw [if_pos ⟨h0, hi⟩, hx]
  rfl⟩
 have HOK := az h3
 have HH := az h
 have HWS := az hws
 have HBS := az hbs
 clear h h1 h2 h3 hws hbs
 go_enter Tryz.func12, Tryz.ntmps12
 go_wp2_with (first
  | (go_at_call 35; go_must (refine (spec_l7All.calls k A0 c0 l0 A1 c1 l1 a2 true _ HR.out HC.out HR1.out HC1.out HA.out).mono ?_); rintro e w1 ⟨rfl, hb1⟩; have HB0 := az hb1; clear hb1)
  | (go_at_call 36; go_must (refine (spec_l1In.calls a3 0 1 true _ HE.out).mono ?_); rintro e w2 ⟨rfl, hd2⟩; have HB1 := az (below_then HB0.out HB0.out.size hd2.below); clear hd2)
  | (go_at_call 37; go_must (refine (l7Lines_calls k A0 c0 l0 A1 c1 l1 a2 a3 ws bs (tabWS k l0 ws) (tabJS k l0) r _ (Kd.C_below HR.out HB1.out) HC.out (Kd.C_below HR1.out HB1.out) HC1.out HWS.out HBS.out HOK.out.1 HOK.out.2.1 HW.out (fun i j hi hj => HOK.out.2.2.1 j hj i hi) HOK.out.2.2.2 HJ.out HH.out).mono ?_); rintro e w3 ⟨v3, rfl, ho3, hb3⟩; have HO3 := az ho3; have HB3 := az hb3; clear ho3 hb3))
 go_ret
 exact ⟨_, rfl, Kd.R_lower HO3.out HB1.out.size, below_then HB1.out HB1.out.size HB3.out⟩
def laws_toIntS.l0 : Nat → List Int → List Int → Int → Option (List Int)
 | 0, _, _, _ => none
 | k + 1, x0, x3, x4 => if x4 < (x0.length : Int) then (if 0 ≤ x4 then (if x4 < (x3.length : Int) then (laws_toIntS.l0 k x0 (x3.set (x4 : Int).toNat (rd x0 x4)) (wrap64 (x4 + 1))) else (none)) else (none)) else (some x3)
def laws_toIntS.f (k : Nat) (l0 : List Int) : Option (List Int) := if 0 ≤ (l0.length : Int) then (if ((l0.length : Int) : Int).toNat ≤ 35184372088832 then (laws_toIntS.l0 k l0 (List.replicate ((l0.length : Int) : Int).toNat 0) 0) else (none)) else (none)
theorem laws_toIntS.mono_l : ∀ k, (∀ y0 y1 y2, LeO (laws_toIntS.l0 k y0 y1 y2) (laws_toIntS.l0 (k + 1) y0 y1 y2))
 | 0 => fun _ _ _ r h => by simp [laws_toIntS.l0] at h
 | k + 1 => by
  have ih0 := laws_toIntS.mono_l k
  ·
   intro y0 y1 y2; unfold laws_toIntS.l0
   repeat' first
   | (with_reducible exact ih0 _ _ _)
   | (with_reducible exact LeO.refl _)
   | (with_reducible exact LeO.none _)
   | (with_reducible refine LeO.ite ?_ ?_)
   | (with_reducible refine LeO.bind ?_ (fun _ => ?_))
   | exact ih0 _ _ _
   | exact LeO.none _
   | refine LeO.ite ?_ ?_
   | refine LeO.bind ?_ (fun _ => ?_)
theorem laws_toIntS.mono : ∀ a0 k, LeO (laws_toIntS.f k a0) (laws_toIntS.f (k + 1) a0) := by
 intro a0 k; have ih0 := laws_toIntS.mono_l k; unfold laws_toIntS.f
 repeat' first
   | (with_reducible exact ih0 _ _ _)
   | (with_reducible exact LeO.refl _)
   | (with_reducible exact LeO.none _)
   | (with_reducible refine LeO.ite ?_ ?_)
   | (with_reducible refine LeO.bind ?_ (fun _ => ?_))
   | exact ih0 _ _ _
   | exact LeO.none _
   | refine LeO.ite ?_ ?_
   | refine LeO.bind ?_ (fun _ => ?_)
theorem laws_toIntS.calls (k : Nat) (A0 : Option Addr) (c0 : Nat) (l0 : List Int) (r : List Int) (w : World) (hr0 : Kd.C (Kd.int .i64) w A0 l0.length l0) (hc0 : l0.length ≤ c0) (h : laws_toIntS.f k l0 = some r) :
  Calls Tryz.prog 13 #[.slice A0 l0.length c0] w fun e w' => ∃ v0_ : Value, e = .returned (v0_) ∧ Kd.R (Kd.int .i64) 3 w' w.heap.size (fun _ => True) v0_ r ∧ Below w.heap.size w w' := by
 have HR0 := az hr0; have HC0 := az hc0; clear hr0 hc0; have HB := az (Below.refl w.heap.size w); have H : (if 0 ≤ (l0.length : Int) then (if ((l0.length : Int) : Int).toNat ≤ 35184372088832 then (laws_toIntS.l0 k l0 (List.replicate ((l0.length : Int) : Int).toNat 0) 0) else (none)) else (none)) = some r := h; clear h; by_cases c2 : 0 ≤ (l0.length : Int)
 ·
  rw [if_pos c2] at H; have c2b0 := eq_true c2; have c2b1 : decide (0 ≤ (l0.length : Int)) = true := decide_eq_true c2; clear c2; by_cases c3 : ((l0.length : Int) : Int).toNat ≤ 35184372088832
  ·
   rw [if_pos c3] at H; have c3b0 := eq_true c3; have c3b1 : decide (((l0.length : Int) : Int).toNat ≤ 35184372088832) = true := decide_eq_true c3; clear c3; obtain ⟨y252, hy252⟩ : ∃ y_ : List Int, y_ = (List.replicate ((l0.length : Int) : Int).toNat 0) := ⟨_, rfl⟩; replace H : (laws_toIntS.l0 k l0 y252 0) = some r := by first | (rw [hy252]; with_reducible exact H) | (have H2_ := (Option.bind_some _ _).symm.trans H; rw [hy252]; with_reducible exact H2_) | (have H2_ := (Option.bind_some _ _).symm.trans H; with_reducible exact H2_) | with_reducible exact H | (rw [hy252]; exact H) | exact H
   have Ny252 := az hy252; clear hy252; have H' := az H; clear H; go_enter Tryz.func13, Tryz.ntmps13; go_wp2_with (first | ((with_reducible refine gate_dst (N := 7) rfl ?_); refine Kd.R_make (Kd.int .i64) _ 3 rfl (N := 7) rfl 22 _ _ rfl (l0.length : Int) rfl rfl Tryz.underlying22 (.int .i64 0) 8 info3 rfl (by decide) (by omega) 0 (ok := fun _ => True) (okp := fun _ => True) rfl (fun _ hk => hk) trivial (of_decide_eq_true (by assumption)) (Nat.le_trans (Nat.mul_le_mul_right _ (of_decide_eq_true (by assumption) : (l0.length : Int).toNat ≤ 35184372088832)) (by omega)) (Below.refl _ _) (Nat.le_refl _) ?_; intro v253 w4 ho5 hb hg_ hnew_; clear hg_ hnew_; (first | rw [← Ny252.out] at ho5 | (simp only [Int.reduceToNat] at ho5; rw [← Ny252.out] at ho5)); have n0_ := az (Kd.R_lower ho5 (below_size (zA HB.out))); have n1_ := az (below_step (zA HB.out) hb); clear HB; have HO254 := n0_; have HB := n1_; clear n0_ n1_; clear hb ho5)); go_loopg [4] k (fun kq v4 w' => ∃ (x3_1 : List Int) (x4_1 : Int), v4 = .int .i64 x4_1 ∧ Aside0 (laws_toIntS.l0 kq l0 x3_1 x4_1 = some r) ∧ Aside0 (kq ≤ k) ∧ Aside0 (Kd.R (Kd.int .i64) 3 w' w.heap.size (fun _ => True) v253 x3_1) ∧ Aside0 (Below w.heap.size w w'))
   case atStart => exact ⟨(y252), (0), zB, H', ⟨Nat.le_refl _⟩, ⟨zC HO254.out⟩, ⟨zA HB.out⟩⟩
   case round =>
    clear H'; (try clear c1); (try clear c2); (try clear c2b0); (try clear c2b1); (try clear p2); (try clear c3); (try clear c3b0); (try clear c3b1); obtain ⟨x3_1, x4_1, rfl, HA, HK1, HO_3, HB⟩ := hrel
    cases gk with
    | zero => exact absurd HA.out (by simp [laws_toIntS.l0])
    | succ k1 =>
     have H := HA.out; clear HA; simp only [laws_toIntS.l0] at H; by_cases c6 : x4_1 < (l0.length : Int)
     ·
      rw [if_pos c6] at H; have c6b0 : decide (x4_1 < (l0.length : Int)) = true := decide_eq_true c6; clear c6; by_cases c7 : 0 ≤ x4_1
      ·
       rw [if_pos c7] at H; have c7b0 : decide (0 ≤ x4_1) = true := decide_eq_true c7; clear c7; by_cases c8 : x4_1 < (x3_1.length : Int)
       ·
        rw [if_pos c8] at H; have c8b0 : decide (x4_1 < (x3_1.length : Int)) = true := decide_eq_true c8; clear c8; obtain ⟨y256, hy256⟩ : ∃ y_ : List Int, y_ = (x3_1.set (x4_1 : Int).toNat (rd l0 x4_1)) := ⟨_, rfl⟩; replace H : (laws_toIntS.l0 k1 l0 y256 (wrap64 (x4_1 + 1))) = some r := by first | (rw [hy256]; with_reducible exact H) | (have H2_ := (Option.bind_some _ _).symm.trans H; rw [hy256]; with_reducible exact H2_) | (have H2_ := (Option.bind_some _ _).symm.trans H; with_reducible exact H2_) | with_reducible exact H | (rw [hy256]; exact H) | exact H
        have Ny256 := az hy256; clear hy256; have H' := az H; clear H; have p255 : 0 ≤ (x4_1 : Int) := of_decide_eq_true (by assumption); have q255 : x4_1 < (l0.length : Int) := of_decide_eq_true (by assumption); obtain ⟨ad255, e255, hx255_0⟩ := Kd.at_int HR0.out x4_1 p255 q255
        cases e255
        replace hx255_0 := (HB.out.cell (World.block_lt_of_cell? w _ hx255_0)).trans hx255_0; replace p255 := eq_true p255; replace q255 := eq_true q255; have p9 : 0 ≤ (x4_1 : Int) := of_decide_eq_true (by assumption); have q9 : (x4_1 : Int) < ((x3_1.length : Int) : Int) := of_decide_eq_true (by assumption); obtain ⟨go9, co9, eo9, gb9, gl9, cl9, HG9⟩ := Kd.R_form HO_3.out (by omega); (first | cases eo9 | (injection eo9 with ea_ en_ ec_; (first | subst ea_ | (injection ea_ with ea_; subst ea_)); subst ec_; clear en_)); have GB9 := az gb9; have GG9 := az HG9; clear gb9 gl9 HG9; obtain ⟨hx9_0, hf9_0⟩ := Kd.R_celln 0 HO_3.out (x4_1 : Int) p9 q9; replace p9 := eq_true p9; replace q9 := eq_true q9; have HP10 := Kd.R_putg HO_3.out (x4_1 : Int) (rd l0 x4_1); go_wp2_with (first | ((with_reducible refine gate_store (t := 3) (p := 20) rfl ?_); refine store_event (t := 3) (p := 20) (v := ?vo_w11) (w1 := (wr.setCell ⟨go9, (x4_1 : Int).toNat, none⟩ (.int .i64 (rd l0 x4_1)))) ?hg ?ho ?hn ?hr ?_; (case ho => rfl); (case hg => rfl); (case hn => rfl); (case hr => first | (go_simp; done) | (go_simp; rfl)); intro w11 hw; have hg : wr.grownBy w11 (some go9) := (by rw [hw]; exact HP10.2); have hp_ : Kd.R (Kd.int .i64) 3 w11 w.heap.size (fun _ => True) (.slice (some ⟨go9, 0, none⟩) x3_1.length co9) y256 := (by rw [hw, Ny256.out]; exact HP10.1); clear HP10; have n0_ := az (hp_); have n1_ := az ((by rw [hw]; exact below_set (HB.out) GB9.out : Below w.heap.size w w11)); clear HO_3; clear HB; have HO_3 := n0_; have HB := n1_; clear n0_ n1_; clear hg hw hp_)); go_roundg k1
        case measure => have := HK1.out; omega
        case rel => exact ⟨(y256), (wrap64 (x4_1 + 1)), zB, H', ⟨zG HK1.out⟩, ⟨zC HO_3.out⟩, ⟨zA HB.out⟩⟩
       ·
        rw [if_neg c8] at H; exact absurd H (by simp)
      ·
       rw [if_neg c7] at H; exact absurd H (by simp)
     ·
      rw [if_neg c6] at H; have c6b0 : decide (x4_1 < (l0.length : Int)) = false := decide_eq_false c6; clear c6; obtain rfl := Option.some.inj H; go_wp2; go_ret; exact ⟨_, zF, zC HO_3.out, zA HB.out⟩
  ·
   rw [if_neg c3] at H; exact absurd H (by simp)
 ·
  rw [if_neg c2] at H; exact absurd H (by simp)
def laws_toSpan.f (a0_0 : Int) (a0_1 : Int) (a0_2 : Int) (a0_3 : Int) : Option (Int × Int × Int × Int) := some (a0_0, a0_1, a0_2, a0_3)
theorem laws_toSpan.calls (a0_0 : Int) (a0_1 : Int) (a0_2 : Int) (a0_3 : Int) (r1 : Int) (r2 : Int) (r3 : Int) (r4 : Int) (w : World) (h : laws_toSpan.f a0_0 a0_1 a0_2 a0_3 = some (r1, r2, r3, r4)) :
  Calls Tryz.prog 38 #[.agg #[.int .i64 a0_0, .int .i64 a0_1, .int .i64 a0_2, .int .i64 a0_3]] w fun e w' => e = .returned (.agg #[.int .i64 r1, .int .i64 r2, .int .i64 r3, .int .i64 r4]) ∧ Below w.heap.size w w' := by
 have hu52 := Tryz.underlying52; have hu50 := Tryz.underlying50; have HB := az (Below.refl w.heap.size w); have H : (some (a0_0, a0_1, a0_2, a0_3)) = some (r1, r2, r3, r4) := h; clear h; simp only [Option.some.injEq, Prod.mk.injEq] at H; obtain ⟨rfl, rfl, rfl, rfl⟩ := H; go_enter Tryz.func38, Tryz.ntmps38; go_wp2_with (first | ((with_reducible refine gate_dst (N := 1) rfl ?_); refine box_event ?hg (N := 1) ?hd (cs := #[.int .i64 a0_0, .int .i64 a0_1, .int .i64 a0_2, .int .i64 a0_3]) (t := 52) ?hr ?_; (case hd => rfl); (case hg => rfl); (case hr => first | (go_simp; done) | (go_simp; rfl)); intro gb257 hg w2 hbox hb; have n0_ := az (below_step (zA HB.out) hb); have n1_ := az (hbox); have n2_ := az ((by rw [hg]; exact (below_size (zA HB.out)) : w.heap.size ≤ gb257)); have n3_ := az ((by rw [hg]; exact (below_size (zA HB.out)) : w.heap.size ≤ gb257)); clear HB; have HB := n0_; have BK257 := n1_; have GW257 := n2_; have GE257 := n3_; clear n0_ n1_ n2_ n3_; clear hb hbox hg) | ((with_reducible refine gate_dst (N := 2) rfl ?_); refine box_event ?hg (N := 2) ?hd (cs := #[.int .i64 0, .int .i64 0, .int .i64 0, .int .i64 0]) (t := 50) ?hr ?_; (case hd => rfl); (case hg => rfl); (case hr => first | (go_simp; done) | (go_simp; rfl)); intro gb258 hg w3 hbox hb; have n0_ := az (blk_below (g := gb257) (o := .cells #[.int .i64 a0_0, .int .i64 a0_1, .int .i64 a0_2, .int .i64 a0_3] 52 (0, 0)) (zJ BK257.out) hb); have n1_ := az (below_step (zH HB.out GE257.out) hb); have n2_ := az (hbox); have n3_ := az ((by rw [hg]; exact (below_size (zH HB.out GE257.out)) : w.heap.size ≤ gb258)); have n4_ := az ((by rw [hg]; exact (below_size (zH HB.out GE257.out)) : w.heap.size ≤ gb258)); have n5_ := az ((by rw [hg]; exact Nat.ne_of_lt (blk_lt (g := gb257) (o := .cells #[.int .i64 a0_0, .int .i64 a0_1, .int .i64 a0_2, .int .i64 a0_3] 52 (0, 0)) (zJ BK257.out)) : gb257 ≠ gb258)); have n6_ := az ((by rw [hg]; exact Nat.ne_of_gt (blk_lt (g := gb257) (o := .cells #[.int .i64 a0_0, .int .i64 a0_1, .int .i64 a0_2, .int .i64 a0_3] 52 (0, 0)) (zJ BK257.out)) : gb258 ≠ gb257)); clear BK257; clear HB; have BK257 := n0_; have HB := n1_; have BK258 := n2_; have GW258 := n3_; have GE258 := n4_; have NB257_258 := n5_; have NB258_257 := n6_; clear n0_ n1_ n2_ n3_ n4_ n5_ n6_; clear hb hbox hg) | ((with_reducible refine gate_dst (N := 3) rfl ?_); refine box_event ?hg (N := 3) ?hd (cs := #[.int .i64 0, .int .i64 0, .int .i64 0, .int .i64 0]) (t := 50) ?hr ?_; (case hd => rfl); (case hg => rfl); (case hr => first | (go_simp; done) | (go_simp; rfl)); intro gb259 hg w4 hbox hb; have n0_ := az (blk_below (g := gb257) (o := .cells #[.int .i64 a0_0, .int .i64 a0_1, .int .i64 a0_2, .int .i64 a0_3] 52 (0, 0)) (zJ BK257.out) hb); have n1_ := az (blk_below (g := gb258) (o := .cells #[.int .i64 0, .int .i64 0, .int .i64 0, .int .i64 0] 50 (0, 0)) (zJ BK258.out) hb); have n2_ := az (below_step (zQ HB.out GE257.out GE258.out) hb); have n3_ := az (hbox); have n4_ := az ((by rw [hg]; exact (below_size (zQ HB.out GE257.out GE258.out)) : w.heap.size ≤ gb259)); have n5_ := az ((by rw [hg]; exact (below_size (zQ HB.out GE257.out GE258.out)) : w.heap.size ≤ gb259)); have n6_ := az ((by rw [hg]; exact Nat.ne_of_lt (blk_lt (g := gb257) (o := .cells #[.int .i64 a0_0, .int .i64 a0_1, .int .i64 a0_2, .int .i64 a0_3] 52 (0, 0)) (zJ BK257.out)) : gb257 ≠ gb259)); have n7_ := az ((by rw [hg]; exact Nat.ne_of_gt (blk_lt (g := gb257) (o := .cells #[.int .i64 a0_0, .int .i64 a0_1, .int .i64 a0_2, .int .i64 a0_3] 52 (0, 0)) (zJ BK257.out)) : gb259 ≠ gb257)); have n8_ := az ((by rw [hg]; exact Nat.ne_of_lt (blk_lt (g := gb258) (o := .cells #[.int .i64 0, .int .i64 0, .int .i64 0, .int .i64 0] 50 (0, 0)) (zJ BK258.out)) : gb258 ≠ gb259)); have n9_ := az ((by rw [hg]; exact Nat.ne_of_gt (blk_lt (g := gb258) (o := .cells #[.int .i64 0, .int .i64 0, .int .i64 0, .int .i64 0] 50 (0, 0)) (zJ BK258.out)) : gb259 ≠ gb258)); clear BK257; clear BK258; clear HB; have BK257 := n0_; have BK258 := n1_; have HB := n2_; have BK259 := n3_; have GW259 := n4_; have GE259 := n5_; have NB257_259 := n6_; have NB259_257 := n7_; have NB258_259 := n8_; have NB259_258 := n9_; clear n0_ n1_ n2_ n3_ n4_ n5_ n6_ n7_ n8_ n9_; clear hb hbox hg; have hnb5 := NB257_258.out; have hnc5 := NB258_257.out; have hnb6 := NB257_259.out; have hnc6 := NB259_257.out; have hcz7_0 : w4.cell? ⟨gb257, 0, none⟩ = some (.int .i64 a0_0) := (blk_cell BK257.out 0).trans rfl; have hcz7_1 : w4.cell? ⟨gb257, 1, none⟩ = some (.int .i64 a0_1) := (blk_cell BK257.out 1).trans rfl; have hcz7_2 : w4.cell? ⟨gb257, 2, none⟩ = some (.int .i64 a0_2) := (blk_cell BK257.out 2).trans rfl; have hcz7_3 : w4.cell? ⟨gb257, 3, none⟩ = some (.int .i64 a0_3) := (blk_cell BK257.out 3).trans rfl; have hfz7_0 := blk_frozen BK257.out 0; have hfz7_1 := blk_frozen BK257.out 1; have hfz7_2 := blk_frozen BK257.out 2; have hfz7_3 := blk_frozen BK257.out 3; have hnb8 := NB259_258.out; have hnc8 := NB258_259.out; have hcz9_0 : w4.cell? ⟨gb259, 0, none⟩ = some (.int .i64 0) := (blk_cell BK259.out 0).trans rfl; have hcz9_1 : w4.cell? ⟨gb259, 1, none⟩ = some (.int .i64 0) := (blk_cell BK259.out 1).trans rfl; have hcz9_2 : w4.cell? ⟨gb259, 2, none⟩ = some (.int .i64 0) := (blk_cell BK259.out 2).trans rfl; have hcz9_3 : w4.cell? ⟨gb259, 3, none⟩ = some (.int .i64 0) := (blk_cell BK259.out 3).trans rfl; have hfz9_0 := blk_frozen BK259.out 0; have hfz9_1 := blk_frozen BK259.out 1; have hfz9_2 := blk_frozen BK259.out 2; have hfz9_3 := blk_frozen BK259.out 3; have hcz10_0 : w4.cell? ⟨gb258, 0, none⟩ = some (.int .i64 0) := (blk_cell BK258.out 0).trans rfl; have hcz10_1 : w4.cell? ⟨gb258, 1, none⟩ = some (.int .i64 0) := (blk_cell BK258.out 1).trans rfl; have hcz10_2 : w4.cell? ⟨gb258, 2, none⟩ = some (.int .i64 0) := (blk_cell BK258.out 2).trans rfl; have hcz10_3 : w4.cell? ⟨gb258, 3, none⟩ = some (.int .i64 0) := (blk_cell BK258.out 3).trans rfl; have hfz10_0 := blk_frozen BK258.out 0; have hfz10_1 := blk_frozen BK258.out 1; have hfz10_2 := blk_frozen BK258.out 2; have hfz10_3 := blk_frozen BK258.out 3))
 refine bodyPost_ret (results_cell_row rfl _ _ gb258 50 #[.int .i64 a0_0, .int .i64 a0_1, .int .i64 a0_2, .int .i64 a0_3] (0, 0) _ rfl (by (with_reducible repeat (first | refine blk_drewN ?_ _ | refine blk_drew ?_ | refine blk_alloc ?_ _)); refine blk_put (cs := #[.int .i64 a0_0, .int .i64 a0_1, .int .i64 a0_2, .int .i64 0]) ?_ 3 _ rfl; (with_reducible repeat (first | refine blk_drewN ?_ _ | refine blk_drew ?_ | refine blk_alloc ?_ _)); refine blk_put (cs := #[.int .i64 a0_0, .int .i64 a0_1, .int .i64 0, .int .i64 0]) ?_ 2 _ rfl; (with_reducible repeat (first | refine blk_drewN ?_ _ | refine blk_drew ?_ | refine blk_alloc ?_ _)); refine blk_put (cs := #[.int .i64 a0_0, .int .i64 0, .int .i64 0, .int .i64 0]) ?_ 1 _ rfl; (with_reducible repeat (first | refine blk_drewN ?_ _ | refine blk_drew ?_ | refine blk_alloc ?_ _)); refine blk_put (cs := #[.int .i64 0, .int .i64 0, .int .i64 0, .int .i64 0]) ?_ 0 _ rfl; (with_reducible repeat (first | refine blk_drewN ?_ _ | refine blk_drew ?_ | refine blk_alloc ?_ _)); refine blk_far ?_ NB258_259.out _; (with_reducible repeat (first | refine blk_drewN ?_ _ | refine blk_drew ?_ | refine blk_alloc ?_ _)); refine blk_far ?_ NB258_259.out _; (with_reducible repeat (first | refine blk_drewN ?_ _ | refine blk_drew ?_ | refine blk_alloc ?_ _)); refine blk_far ?_ NB258_259.out _; (with_reducible repeat (first | refine blk_drewN ?_ _ | refine blk_drew ?_ | refine blk_alloc ?_ _)); refine blk_far ?_ NB258_259.out _; (with_reducible repeat (first | refine blk_drewN ?_ _ | refine blk_drew ?_ | refine blk_alloc ?_ _)); exact BK258.out) Tryz.underlying50 rfl (by kernel_rfl)) rfl ?_; exact ⟨zF, by repeat (first | (with_reducible first | exact HB.out | apply below_alloc | apply pw_below_drewN | apply below_drew1 | refine below_set ?_ GE257.out | refine below_set ?_ GE258.out | refine below_set ?_ GE259.out) | exact HB.out)⟩
def laws_toSpanS.l0 : Nat → List (S52) → List (S50) → Int → Option ((List (S50)))
 | 0, _, _, _ => none
 | k + 1, x0, x3, x4 => if x4 < (x0.length : Int) then (if 0 ≤ x4 then ((laws_toSpan.f ((rd_T52 x0 x4).f0) ((rd_T52 x0 x4).f1) ((rd_T52 x0 x4).f2) ((rd_T52 x0 x4).f3)).bind fun bt264 => (if x4 < (x3.length : Int) then (laws_toSpanS.l0 k x0 (x3.set (x4 : Int).toNat (⟨bt264.1, bt264.2.1, bt264.2.2.1, bt264.2.2.2⟩ : S50)) (wrap64 (x4 + 1))) else (none))) else (none)) else (some x3)
def laws_toSpanS.f (k : Nat) (l0 : List (S52)) : Option ((List (S50))) := if 0 ≤ (l0.length : Int) then (if ((l0.length : Int) : Int).toNat ≤ 8796093022208 then (laws_toSpanS.l0 k l0 (List.replicate ((l0.length : Int) : Int).toNat z50) 0) else (none)) else (none)
theorem laws_toSpanS.mono_l : ∀ k, (∀ y0 y1 y2, LeO (laws_toSpanS.l0 k y0 y1 y2) (laws_toSpanS.l0 (k + 1) y0 y1 y2))
 | 0 => fun _ _ _ r h => by simp [laws_toSpanS.l0] at h
 | k + 1 => by
  have ih0 := laws_toSpanS.mono_l k
  ·
   intro y0 y1 y2; unfold laws_toSpanS.l0
   repeat' first
   | (with_reducible exact ih0 _ _ _)
   | (with_reducible exact LeO.refl _)
   | (with_reducible exact LeO.none _)
   | (with_reducible refine LeO.ite ?_ ?_)
   | (with_reducible refine LeO.bind ?_ (fun _ => ?_))
   | exact ih0 _ _ _
   | exact LeO.none _
   | refine LeO.ite ?_ ?_
   | refine LeO.bind ?_ (fun _ => ?_)
theorem laws_toSpanS.mono : ∀ a0 k, LeO (laws_toSpanS.f k a0) (laws_toSpanS.f (k + 1) a0) := by
 intro a0 k; have ih0 := laws_toSpanS.mono_l k; unfold laws_toSpanS.f
 repeat' first
   | (with_reducible exact ih0 _ _ _)
   | (with_reducible exact LeO.refl _)
   | (with_reducible exact LeO.none _)
   | (with_reducible refine LeO.ite ?_ ?_)
   | (with_reducible refine LeO.bind ?_ (fun _ => ?_))
   | exact ih0 _ _ _
   | exact LeO.none _
   | refine LeO.ite ?_ ?_
   | refine LeO.bind ?_ (fun _ => ?_)
theorem laws_toSpanS.calls (k : Nat) (A0 : Option Addr) (c0 : Nat) (l0 : List (S52)) (r : List (S50)) (w : World) (hr0 : Kd.C k52 w A0 l0.length l0) (hc0 : l0.length ≤ c0) (h : laws_toSpanS.f k l0 = some r) :
  Calls Tryz.prog 14 #[.slice A0 l0.length c0] w fun e w' => ∃ v0_ : Value, e = .returned (v0_) ∧ Kd.R k50 50 w' w.heap.size (fun _ => True) v0_ r ∧ Below w.heap.size w w' := by
 have hu52 := Tryz.underlying52; have hu50 := Tryz.underlying50; have HR0 := az hr0; have HC0 := az hc0; clear hr0 hc0; have HB := az (Below.refl w.heap.size w); have H : (if 0 ≤ (l0.length : Int) then (if ((l0.length : Int) : Int).toNat ≤ 8796093022208 then (laws_toSpanS.l0 k l0 (List.replicate ((l0.length : Int) : Int).toNat z50) 0) else (none)) else (none)) = some r := h; clear h; by_cases c2 : 0 ≤ (l0.length : Int)
 ·
  rw [if_pos c2] at H; have c2b0 := eq_true c2; have c2b1 : decide (0 ≤ (l0.length : Int)) = true := decide_eq_true c2; clear c2; by_cases c3 : ((l0.length : Int) : Int).toNat ≤ 8796093022208
  ·
   rw [if_pos c3] at H; have c3b0 := eq_true c3; have c3b1 : decide (((l0.length : Int) : Int).toNat ≤ 8796093022208) = true := decide_eq_true c3; clear c3; obtain ⟨y260, hy260⟩ : ∃ y_ : List (S50), y_ = (List.replicate ((l0.length : Int) : Int).toNat z50) := ⟨_, rfl⟩; replace H : (laws_toSpanS.l0 k l0 y260 0) = some r := by first | (rw [hy260]; with_reducible exact H) | (have H2_ := (Option.bind_some _ _).symm.trans H; rw [hy260]; with_reducible exact H2_) | (have H2_ := (Option.bind_some _ _).symm.trans H; with_reducible exact H2_) | with_reducible exact H | (rw [hy260]; exact H) | exact H
   have Ny260 := az hy260; clear hy260; have H' := az H; clear H; go_enter Tryz.func14, Tryz.ntmps14; go_wp2_with (first | ((with_reducible refine gate_dst (N := 7) rfl ?_); refine Kd.R_make k50 _ 50 rfl (N := 7) rfl 27 _ _ rfl (l0.length : Int) rfl rfl Tryz.underlying27 (.agg #[(.int .i64 0), (.int .i64 0), (.int .i64 0), (.int .i64 0)]) 32 info50 rfl (by decide) (by omega) z50 (ok := fun _ => True) (okp := fun _ => True) (k50_mkM _ _ _ z50 ) (fun _ hk => hk) trivial (of_decide_eq_true (by assumption)) (Nat.le_trans (Nat.mul_le_mul_right _ (of_decide_eq_true (by assumption) : (l0.length : Int).toNat ≤ 8796093022208)) (by omega)) (Below.refl _ _) (Nat.le_refl _) ?_; intro v261 w4 ho5 hb hg_ hnew_; clear hg_ hnew_; (first | rw [← Ny260.out] at ho5 | (simp only [Int.reduceToNat] at ho5; rw [← Ny260.out] at ho5)); have n0_ := az (Kd.R_lower ho5 (below_size (zA HB.out))); have n1_ := az (below_step (zA HB.out) hb); clear HB; have HO262 := n0_; have HB := n1_; clear n0_ n1_; clear hb ho5)); go_loopg [4] k (fun kq v4 w' => ∃ (x3_1 : List (S50)) (x4_1 : Int), v4 = .int .i64 x4_1 ∧ Aside0 (laws_toSpanS.l0 kq l0 x3_1 x4_1 = some r) ∧ Aside0 (kq ≤ k) ∧ Aside0 (Kd.R k50 50 w' w.heap.size (fun _ => True) v261 x3_1) ∧ Aside0 (Below w.heap.size w w'))
   case atStart => exact ⟨(y260), (0), zB, H', ⟨Nat.le_refl _⟩, ⟨zC HO262.out⟩, ⟨zA HB.out⟩⟩
   case round =>
    clear H'; (try clear c1); (try clear c2); (try clear c2b0); (try clear c2b1); (try clear p2); (try clear c3); (try clear c3b0); (try clear c3b1); obtain ⟨x3_1, x4_1, rfl, HA, HK1, HO_3, HB⟩ := hrel
    cases gk with
    | zero => exact absurd HA.out (by simp [laws_toSpanS.l0])
    | succ k1 =>
     have H := HA.out; clear HA; simp only [laws_toSpanS.l0] at H; by_cases c6 : x4_1 < (l0.length : Int)
     ·
      rw [if_pos c6] at H; have c6b0 : decide (x4_1 < (l0.length : Int)) = true := decide_eq_true c6; clear c6; by_cases c7 : 0 ≤ x4_1
      ·
       rw [if_pos c7] at H; have c7b0 : decide (0 ≤ x4_1) = true := decide_eq_true c7; clear c7; replace H := Option.bind_eq_some_iff.mp H; obtain ⟨⟨t264, t265, t266, t267⟩, A80, H⟩ := H; replace H : (if x4_1 < (x3_1.length : Int) then (laws_toSpanS.l0 k1 l0 (x3_1.set (x4_1 : Int).toNat (⟨t264, t265, t266, t267⟩ : S50)) (wrap64 (x4_1 + 1))) else (none)) = some r := H; have A8 := az A80; clear A80; by_cases c9 : x4_1 < (x3_1.length : Int)
       ·
        rw [if_pos c9] at H; have c9b0 : decide (x4_1 < (x3_1.length : Int)) = true := decide_eq_true c9; clear c9; obtain ⟨y268, hy268⟩ : ∃ y_ : List (S50), y_ = (x3_1.set (x4_1 : Int).toNat (⟨t264, t265, t266, t267⟩ : S50)) := ⟨_, rfl⟩; replace H : (laws_toSpanS.l0 k1 l0 y268 (wrap64 (x4_1 + 1))) = some r := by first | (rw [hy268]; with_reducible exact H) | (have H2_ := (Option.bind_some _ _).symm.trans H; rw [hy268]; with_reducible exact H2_) | (have H2_ := (Option.bind_some _ _).symm.trans H; with_reducible exact H2_) | with_reducible exact H | (rw [hy268]; exact H) | exact H
        have Ny268 := az hy268; clear hy268; have H' := az H; clear H; have p263 : 0 ≤ (x4_1 : Int) := of_decide_eq_true (by assumption); have q263 : x4_1 < (l0.length : Int) := of_decide_eq_true (by assumption); obtain ⟨ad263, e263, hx263_0, hx263_1, hx263_2, hx263_3⟩ := at_T52 HR0.out x4_1 p263 q263
        cases e263
        replace hx263_0 := (HB.out.cell (World.block_lt_of_cell? w _ hx263_0)).trans hx263_0; replace hx263_1 := (HB.out.cell (World.block_lt_of_cell? w _ hx263_1)).trans hx263_1; replace hx263_2 := (HB.out.cell (World.block_lt_of_cell? w _ hx263_2)).trans hx263_2; replace hx263_3 := (HB.out.cell (World.block_lt_of_cell? w _ hx263_3)).trans hx263_3; replace p263 := eq_true p263; replace q263 := eq_true q263; go_wp2_with (first | ((with_reducible refine gate_callee (f := 38) rfl ?_); refine goesL_ (some 20) rfl rfl Tryz.func38 (by kernel_rfl) rfl #[.agg #[.int .i64 ((rd_T52 l0 x4_1).f0), .int .i64 ((rd_T52 l0 x4_1).f1), .int .i64 ((rd_T52 l0 x4_1).f2), .int .i64 ((rd_T52 l0 x4_1).f3)]] rfl zD ?_; (with_reducible refine (laws_toSpan.calls ((rd_T52 l0 x4_1).f0) ((rd_T52 l0 x4_1).f1) ((rd_T52 l0 x4_1).f2) ((rd_T52 l0 x4_1).f3) t264 t265 t266 t267 _ A8.out).mono ?_); rintro e w11 ⟨rfl, hb⟩; refine ⟨_, rfl, ?_⟩; have n0_ := az (Kd.R_below (zC HO_3.out) hb); have n1_ := az (below_step (zA HB.out) hb); clear HO_3; clear HB; have HO_3 := n0_; have HB := n1_; clear n0_ n1_; (try clear hb); (try clear hb2); (try clear hk); (try clear hi); have p10 : 0 ≤ (x4_1 : Int) := of_decide_eq_true (by assumption); have q10 : (x4_1 : Int) < ((x3_1.length : Int) : Int) := of_decide_eq_true (by assumption); obtain ⟨go10, co10, eo10, gb10, gl10, cl10, HG10⟩ := Kd.R_form HO_3.out (by omega); (first | cases eo10 | (injection eo10 with ea_ en_ ec_; (first | subst ea_ | (injection ea_ with ea_; subst ea_)); subst ec_; clear en_)); have GB10 := az gb10; have GG10 := az HG10; clear gb10 gl10 HG10; obtain ⟨ce10, hcl10, hM10, hcc10, hfr10⟩ := Kd.R_elem HO_3.out z50 (x4_1 : Int) p10 q10; obtain rfl := k50_openM hM10; have hx10_0 : w11.cell? ⟨go10, (x4_1 : Int).toNat * 4, none⟩ = some (.int .i64 ((rd_T50 x3_1 x4_1).f0)) := hcc10 0 _ rfl; have hx10_1 : w11.cell? ⟨go10, (x4_1 : Int).toNat * 4 + 1, none⟩ = some (.int .i64 ((rd_T50 x3_1 x4_1).f1)) := hcc10 1 _ rfl; have hx10_2 : w11.cell? ⟨go10, (x4_1 : Int).toNat * 4 + 2, none⟩ = some (.int .i64 ((rd_T50 x3_1 x4_1).f2)) := hcc10 2 _ rfl; have hx10_3 : w11.cell? ⟨go10, (x4_1 : Int).toNat * 4 + 3, none⟩ = some (.int .i64 ((rd_T50 x3_1 x4_1).f3)) := hcc10 3 _ rfl; have hf10_0 : w11.frozen? ⟨go10, (x4_1 : Int).toNat * 4, none⟩ = false := hfr10 0; have hf10_1 : w11.frozen? ⟨go10, (x4_1 : Int).toNat * 4 + 1, none⟩ = false := hfr10 1; have hf10_2 : w11.frozen? ⟨go10, (x4_1 : Int).toNat * 4 + 2, none⟩ = false := hfr10 2; have hf10_3 : w11.frozen? ⟨go10, (x4_1 : Int).toNat * 4 + 3, none⟩ = false := hfr10 3; clear hcl10 hcc10 hfr10 hM10; replace p10 := eq_true p10; replace q10 := eq_true q10; have HX12 := az (show Kd.R k50 50 w11 w.heap.size (fun _ => True) (.slice (some ⟨go10, 0, none⟩) x3_1.length co10) x3_1 from (zC HO_3.out)); obtain ⟨ce12, hcl12, hM12, hcc12, hfr12⟩ := Kd.R_elem HX12.out z50 (x4_1 : Int) (of_decide_eq_true (by assumption)) (by have h_ : (x4_1 : Int) < ((x3_1.length : Int) : Int) := of_decide_eq_true (by assumption); first | exact h_ | (have e_ := (Kd.R_reads' HO_3.out).1; omega) | simpa using h_); obtain rfl := k50_openM hM12; have HP12 := Kd.R_seg HX12.out (x4_1 : Int) (of_decide_eq_true (by assumption)) (by have h_ : (x4_1 : Int) < ((x3_1.length : Int) : Int) := of_decide_eq_true (by assumption); first | exact h_ | (have e_ := (Kd.R_reads' HO_3.out).1; omega) | simpa using h_) (seg := [.int .i64 t264, .int .i64 t265, .int .i64 t266, .int .i64 t267]) (j := 0) hcl12 hcc12 (show 4 ≤ 4 from by decide) (x' := (⟨t264, t265, t266, t267⟩ : S50)) (k50_mkM _ _ _ (⟨t264, t265, t266, t267⟩ : S50) ) (fun _ hk => hk); have hx12_0 := hcc12 0 _ rfl; (try simp only [show (k50).sz = 4 from rfl, Nat.mul_one, Nat.add_zero] at hx12_0); have hf12_0 := hfr12 0; (try simp only [show (k50).sz = 4 from rfl, Nat.mul_one, Nat.add_zero] at hf12_0); have hx12_1 := hcc12 1 _ rfl; (try simp only [show (k50).sz = 4 from rfl, Nat.mul_one, Nat.add_zero] at hx12_1); have hf12_1 := hfr12 1; (try simp only [show (k50).sz = 4 from rfl, Nat.mul_one, Nat.add_zero] at hf12_1); have hx12_2 := hcc12 2 _ rfl; (try simp only [show (k50).sz = 4 from rfl, Nat.mul_one, Nat.add_zero] at hx12_2); have hf12_2 := hfr12 2; (try simp only [show (k50).sz = 4 from rfl, Nat.mul_one, Nat.add_zero] at hf12_2); have hx12_3 := hcc12 3 _ rfl; (try simp only [show (k50).sz = 4 from rfl, Nat.mul_one, Nat.add_zero] at hx12_3); have hf12_3 := hfr12 3; (try simp only [show (k50).sz = 4 from rfl, Nat.mul_one, Nat.add_zero] at hf12_3); clear hcl12 hcc12 hfr12 hM12) | ((with_reducible refine gate_store (t := 50) (p := 21) rfl ?_); refine store_event (t := 50) (p := 21) (v := ?vo_w13) (w1 := ((((w11.setCell ⟨go10, (x4_1 : Int).toNat * 4, none⟩ (.int .i64 t264)).setCell ⟨go10, (x4_1 : Int).toNat * 4 + 1, none⟩ (.int .i64 t265)).setCell ⟨go10, (x4_1 : Int).toNat * 4 + 2, none⟩ (.int .i64 t266)).setCell ⟨go10, (x4_1 : Int).toNat * 4 + 3, none⟩ (.int .i64 t267))) ?hg ?ho ?hn ?hr ?_; (case ho => rfl); (case hg => rfl); (case hn => rfl); (case hr => first | (go_simp; done) | (go_simp; rfl)); intro w13 hw; have hg : w11.grownBy w13 (some go10) := (by rw [hw]; exact HP12.2); have hp_ : Kd.R k50 50 w13 w.heap.size (fun _ => True) (.slice (some ⟨go10, 0, none⟩) x3_1.length co10) y268 := (by rw [hw, Ny268.out]; exact HP12.1); clear HP12; have n0_ := az (hp_); have n1_ := az ((by rw [hw]; exact below_set (below_set (below_set (below_set (HB.out) GB10.out) GB10.out) GB10.out) GB10.out : Below w.heap.size w w13)); clear HO_3; clear HB; have HO_3 := n0_; have HB := n1_; clear n0_ n1_; clear hg hw hp_))
        go_roundg k1
        case measure => have := HK1.out; omega
        case rel => exact ⟨(y268), (wrap64 (x4_1 + 1)), zB, H', ⟨zG HK1.out⟩, ⟨zC HO_3.out⟩, ⟨zA HB.out⟩⟩
       ·
        rw [if_neg c9] at H; exact absurd H (by simp)
      ·
       rw [if_neg c7] at H; exact absurd H (by simp)
     ·
      rw [if_neg c6] at H; have c6b0 : decide (x4_1 < (l0.length : Int)) = false := decide_eq_false c6; clear c6; obtain rfl := Option.some.inj H; go_wp2; go_ret; exact ⟨_, zF, zC HO_3.out, zA HB.out⟩
  ·
   rw [if_neg c3] at H; exact absurd H (by simp)
 ·
  rw [if_neg c2] at H; exact absurd H (by simp)
def pairL (l : List Value) : Option (DataW (Int × Int) × List MemPlace) :=
 match l with
 | [.int .i64 a, .int .i64 b] => some (.held (a, b), [])
 | _ => none
def pairElem (v : Value) : Option (DataW (Int × Int) × List MemPlace) :=
 match v with
 | .agg cs => pairL cs.toList
 | _ => none
theorem pairElem_inv {v : Value} {z : DataW (Int × Int) × List MemPlace} (h : pairElem v = some z) : ∃ a b, v = .agg #[.int .i64 a, .int .i64 b] ∧ z = (.held (a, b), []) := by
 unfold pairElem at h
 split at h
 ·
  rename_i cs
  unfold pairL at h
  split at h
  ·
   rename_i a b he
   cases h
   refine ⟨a, b, ?_, rfl⟩
   congr 1
   exact Array.toList_inj.mp he
  · cases h
 · cases h
def MapP (w : World) (b n : Nat) (f : Int → Option (Int × Int)) : Prop := ∃ D : DataW (Int × Int), w.ownsMap Tryz.prog 3 pairElem b n D ∧ Maps.IsMap D ∧ ∀ a, (Lit.int .i64 a).wf = true → ∀ zd, D.atKey (.int .i64 a) zd = (match f a with | some v => .held v | none => zd)
theorem MapP.made (w : World) : MapP (w.alloc (.map #[] 0)) w.heap.size 0 (fun _ => none) :=
 ⟨_, World.ownsMap_made _ _ _ _, Maps.isMap_empty, fun _ _ _ => rfl⟩
theorem MapP.kept {w w' : World} {b n : Nat} {f : Int → Option (Int × Int)} (h : MapP w b n f) {row : Option Nat} (hg : w.grownBy w' row) (hne : some b ≠ row) : MapP w' b n f := by
 obtain ⟨D, h1, h2, h3⟩ := h
 exact ⟨D, h1.kept hg hne, h2, h3⟩
theorem MapP.below {w w' : World} {b n : Nat} {f : Int → Option (Int × Int)} (h : MapP w b n f) (hb : Below w.heap.size w w') : MapP w' b n f := h.kept (grown_of_below hb none) (by simp)
theorem MapP.lt {w : World} {b n : Nat} {f : Int → Option (Int × Int)} (h : MapP w b n f) : b < w.heap.size := by
 obtain ⟨D, h1, _⟩ := h
 exact h1.lt
theorem MapP.obj {w : World} {b n : Nat} {f : Int → Option (Int × Int)} (h : MapP w b n f) : ∃ es c, w.heap[b]? = some (.map es c) := by
 obtain ⟨D, ⟨es, c, h1, _⟩, _⟩ := h
 exact ⟨es, c, h1⟩
theorem mapP_zero (w : World) : (zeroValue 143).run Tryz.prog w = .ok (.agg #[.int .i64 0, .int .i64 0]) w := by kernel_rfl
theorem MapP.look {w : World} {b n : Nat} {f : Int → Option (Int × Int)} (h : MapP w b n f) (a : Int) (ha : (Lit.int .i64 a).wf = true) :
  (Instr.lookup 82 (.map (some b)) (.int .i64 a) true).run Tryz.prog w = .ok (.tuple #[.agg #[.int .i64 ((f a).getD (0, 0)).1, .int .i64 ((f a).getD (0, 0)).2], .bool (f a).isSome]) w := by
 obtain ⟨D, h1, h2, h3⟩ := h
 obtain ⟨es, clock, hb, F, _, rfl⟩ := h1
 have h3' := h3 a ha
 rcases Maps.fit_look true (Maps.int_keyed Tryz.underlying3) Tryz.underlying82 (mapP_zero w) hb F (Maps.keyOf_int_mk Tryz.underlying3 ha) with ⟨hrun, _, hat⟩ | ⟨e0, y, _, _, hrun, hRv, hat, _⟩
 ·
  cases hf : f a with
  | none => simpa using hrun
  | some v =>
   have e1 := (h3' .nil).symm.trans (hat .nil)
   rw [hf] at e1
   cases e1
 ·
  obtain ⟨c, d, hc, hc2⟩ := pairElem_inv hRv
  have e1 := (h3' .nil).symm.trans (hat .nil)
  subst hc2
  cases hf : f a with
  | none => rw [hf] at e1; cases e1
  | some v =>
   rw [hf] at e1
   simp at e1
   subst e1
   rw [hc] at hrun
   simpa using hrun
theorem MapP.put {w : World} {b n : Nat} {f : Int → Option (Int × Int)} (h : MapP w b n f) (hn : n < 1000000) (k : Int) (v : Int × Int) (hk : (Lit.int .i64 k).wf = true) :
  ∃ w', (Instr.mapUpdate 82 (.map (some b)) (.int .i64 k) (.agg #[.int .i64 v.1, .int .i64 v.2])).run Tryz.prog w = .ok () w' ∧ MapP w' b (n + 1) (fun a => if a = k then some v else f a) ∧ w.grownBy w' (some b) := by
 obtain ⟨D, h1, h2, h3⟩ := h
 obtain ⟨w', hrun, r1, r2⟩ := h1.update (Maps.int_keyed Tryz.underlying3) Tryz.underlying82 (by unfold maxLen; omega) (Maps.keyOf_int_mk Tryz.underlying3 hk) (show pairElem (.agg #[.int .i64 v.1, .int .i64 v.2]) = some (.held (v.1, v.2), []) from rfl)
 refine ⟨w', hrun, ⟨_, r1, h2.put _ _, fun a ha zd => ?_⟩, r2⟩
 show _ = (match (if a = k then some v else f a) with | some v => DataW.held v | none => zd)
 by_cases e : a = k
 ·
  subst e
  rw [if_pos rfl, Maps.atKey_put_same h2 (show WideAt.IsKeyLit (.int .i64 a) from trivial)]
 · rw [if_neg e, Maps.atKey_put_other (fun h => e (by injection h)), h3 a ha]
def cntF (f : Int → Option (Int × Int)) : Nat → Nat
 | 0 => 0
 | m + 1 => cntF f m + (if (f (m : Int)).isSome = true then 1 else 0)
theorem cntF_le (f : Int → Option (Int × Int)) : ∀ m, cntF f m ≤ m
 | 0 => Nat.le_refl _
 | m + 1 => by
  rw [cntF]
  have := cntF_le f m
  split <;> omega
theorem cntF_lo (f : Int → Option (Int × Int)) (k : Nat) (v : Int × Int) : ∀ m, m ≤ k → cntF (fun a => if a = (k : Int) then some v else f a) m = cntF f m
 | 0, _ => rfl
 | m + 1, h => by
  rw [cntF, cntF, cntF_lo f k v m (by omega)]
  rw [if_neg (show ¬ (m : Int) = (k : Int) by omega)]
theorem cntF_put (f : Int → Option (Int × Int)) (k : Nat) (v : Int × Int) (hf : f (k : Int) = none) : ∀ m, k < m → cntF (fun a => if a = (k : Int) then some v else f a) m = cntF f m + 1
 | 0, h => absurd h (Nat.not_lt_zero _)
 | m + 1, h => by
  rw [cntF, cntF]
  by_cases e : k = m
  ·
   subst e
   rw [cntF_lo f k v k (Nat.le_refl _), if_pos rfl, hf]
   rfl
  ·
   rw [cntF_put f k v hf m (by omega), if_neg (show ¬ (m : Int) = (k : Int) by omega)]
   omega
def KnO (P : Nat → Int × Int) (n mb : Nat) (f : Int → Option (Int × Int)) (W : World) : Prop := MapP W mb (cntF f n) f ∧ ∀ a v, f a = some v → ∃ j : Nat, a = (j : Int) ∧ j < n ∧ v = P j
theorem KnO.below {P : Nat → Int × Int} {n mb : Nat} {f : Int → Option (Int × Int)} {W W' : World} (h : KnO P n mb f W) (hb : Below W.heap.size W W') : KnO P n mb f W' := ⟨h.1.below hb, h.2⟩
def stepP (bs : List Int) (F : Nat → Nat → Bool) (C : Nat → Nat → Int) (P : Nat → Int × Int) (at_ e : Nat) (cur : Int × Int) : Int × Int :=
 if bs.getD (e - 1) 0 = 0 ∨ F at_ e = false ∨ (P e).2 = 0 then cur else if cur.2 = 0 ∨ (P e).1 + C at_ e < cur.1 then ((P e).1 + C at_ e, (e : Int)) else cur
def rowP (bs : List Int) (F : Nat → Nat → Bool) (C : Nat → Nat → Int) (P : Nat → Int × Int) (at_ : Nat) : Nat → Nat → Int × Int → Int × Int
 | 0, _, cur => cur
 | g + 1, e, cur => rowP bs F C P at_ g (e + 1) (stepP bs F C P at_ e cur)
def IsPlan (bs : List Int) (F : Nat → Nat → Bool) (C : Nat → Nat → Int) (M : Nat → Nat) (n : Nat) (P : Nat → Int × Int) : Prop :=
 P n = (0, (n : Int)) ∧ ∀ i, i < n → P i = rowP bs F C P i (M i - i) (i + 1) (0, 0)
def impl_isLetter.f (a0 : Int) : Option (Bool) := if a0 ≥ 0 then (if a0 ≤ 1114111 then (if a0 < 55296 then (some true) else (some (decide (a0 > 57343)))) else (some false)) else (some false)
theorem impl_isLetter.calls (a0 : Int) (r : Bool) (w : World) (h : impl_isLetter.f a0 = some r) :
  Calls Tryz.prog 77 #[.int .i64 a0] w fun e w' => e = .returned (.bool r) ∧ Drawn0 w w' := by
 have H : (if a0 ≥ 0 then (if a0 ≤ 1114111 then (if a0 < 55296 then (some true) else (some (decide (a0 > 57343)))) else (some false)) else (some false)) = some r := h
 clear h
 by_cases c2 : a0 ≥ 0
 ·
  rw [if_pos c2] at H
  have c2b0 : decide (0 ≤ a0) = true := decide_eq_true c2
  clear c2
  by_cases c3 : a0 ≤ 1114111
  ·
   rw [if_pos c3] at H
   have c3b0 : decide (a0 ≤ 1114111) = true := decide_eq_true c3
   clear c3
   by_cases c4 : a0 < 55296
   ·
    rw [if_pos c4] at H
    have c4b0 : decide (a0 < 55296) = true := decide_eq_true c4
    clear c4
    obtain rfl := Option.some.inj H
    go_enter Tryz.func77, Tryz.ntmps77
    go_wp2
    go_ret
    exact ⟨zB, zE⟩
   ·
    rw [if_neg c4] at H
    have c4b0 : decide (a0 < 55296) = false := decide_eq_false c4
    clear c4
    obtain rfl := Option.some.inj H
    go_enter Tryz.func77, Tryz.ntmps77
    go_wp2
    go_ret
    exact ⟨zB, zE⟩
  ·
   rw [if_neg c3] at H
   have c3b0 : decide (a0 ≤ 1114111) = false := decide_eq_false c3
   clear c3
   obtain rfl := Option.some.inj H
   go_enter Tryz.func77, Tryz.ntmps77
   go_wp2
   go_ret
   exact ⟨zB, zE⟩
 ·
  rw [if_neg c2] at H
  have c2b0 : decide (0 ≤ a0) = false := decide_eq_false c2
  clear c2
  obtain rfl := Option.some.inj H
  go_enter Tryz.func77, Tryz.ntmps77
  go_wp2
  go_ret
  exact ⟨zB, zE⟩
def idxI (p : Int → Bool) (l : List Int) : Int := if l.any p then (l.findIdx p : Int) else -1
theorem idxI_hit {p : Int → Bool} {l : List Int} {k : Nat} (hk : k < l.length) (hp : p (l.getD k 0) = true) (hb : ∀ j, j < k → p (l.getD j 0) = false) : idxI p l = k := by
 have hm : l.getD k 0 = l[k] := by simp [List.getD_eq_getElem?_getD, hk]
 have ha : l.any p = true := List.any_eq_true.2 ⟨l[k], List.getElem_mem hk, by rw [← hm]; exact hp⟩
 have hf : l.findIdx p = k := by
  rw [List.findIdx_eq hk]
  refine ⟨by rw [← hm]; exact hp, fun j hj => ?_⟩
  have := hb j hj
  simpa [List.getD_eq_getElem?_getD, show j < l.length by omega] using this
 rw [idxI, if_pos ha, hf]
theorem idxI_miss {p : Int → Bool} {l : List Int} (hb : ∀ j, j < l.length → p (l.getD j 0) = false) : idxI p l = -1 := by
 have ha : ¬ l.any p = true := by
  rw [List.any_eq_true]
  rintro ⟨x, hx, hp⟩
  obtain ⟨j, hj, rfl⟩ := List.getElem_of_mem hx
  have := hb j hj
  simp [List.getD_eq_getElem?_getD, hj] at this
  rw [this] at hp
  cases hp
 rw [idxI, if_neg ha]
theorem idxI_nonneg (p : Int → Bool) (l : List Int) : decide (0 ≤ idxI p l) = l.any p := by
 unfold idxI
 cases l.any p <;> simp <;> omega
theorem idxI_calls (p : Int → Bool) (g : Nat) (lb : Array Value) (eg : ∀ args w, (callFunc g args).run Tryz.prog w = .ok (.enter g args) w) (A0 : Option Addr) (c0 : Nat) (l0 : List Int) (w : World) (hr0 : Kd.C (Kd.int .i64) w A0 l0.length l0)
  (hn : l0.length ≤ 9223372036854775806) (hp : ∀ W, Below w.heap.size w W → ∀ j, j < l0.length → Calls Tryz.prog g (#[.int .i64 (l0.getD j 0)] ++ lb) W fun e w' => e = .returned (.bool (p (l0.getD j 0))) ∧ Below w.heap.size w w') :
  Calls Tryz.prog 88 #[.slice A0 l0.length c0, .func (.func g) #[] lb] w fun e w' => e = .returned (.int .i64 (idxI p l0)) ∧ Below w.heap.size w w' := by
 have HR0 := az hr0
 have HP := az hp
 clear hr0 hp
 go_enter Tryz.func88, Tryz.ntmps88
 go_wp2
 go_loopg [5, 8] l0.length (fun gg _ s8 wr => ∃ kk : Nat, kk ≤ l0.length ∧ l0.length - kk ≤ gg ∧ s8 = .int .i64 kk ∧ Aside0 (Below w.heap.size w wr) ∧ Aside0 (∀ j, j < kk → p (l0.getD j 0) = false))
 case atStart => exact ⟨0, Nat.zero_le _, by omega, rfl, ⟨Below.refl _ w⟩, ⟨fun j hj => absurd hj (Nat.not_lt_zero _)⟩⟩
 case round =>
  obtain ⟨kk, hkk, hg, rfl, HB, HA⟩ := hrel
  by_cases hlt : kk < l0.length
  ·
   have hltz : (kk : Int) < (l0.length : Int) := by omega
   obtain ⟨ad, rfl, hx⟩ := Kd.at_int HR0.out (kk : Int) (by omega) hltz
   replace hx := (HB.out.cell (World.block_lt_of_cell? w _ hx)).trans hx
   have hcall := HP.out wr HB.out kk hlt
   simp only [rd, Int.toNat_natCast] at hx
   generalize hy : l0.getD kk 0 = y at hx hcall
   have HY := az hy
   clear hy
   cases hq : p y with
   | true =>
    have HQ := az hq
    rw [hq] at hcall
    clear hq
    go_wp2_with (go_at_fn g; refine hcall.mono ?_; rintro e w' ⟨rfl, hb'⟩)
    go_ret
    refine ⟨?_, hb'⟩
    rw [idxI_hit hlt (by rw [HY.out]; exact HQ.out) HA.out]
    rfl
   | false =>
    have HQ := az hq
    rw [hq] at hcall
    clear hq
    go_wp2_with (go_at_fn g; refine hcall.mono ?_; rintro e w' ⟨rfl, hb'⟩)
    go_roundg (l0.length - (kk + 1))
    case measure => omega
    case rel =>
     refine ⟨kk + 1, by omega, by omega, by go_num, ⟨hb'⟩, ⟨fun j hj => ?_⟩⟩
     by_cases e : j = kk
     ·
      subst e
      rw [HY.out]; exact HQ.out
     · exact HA.out j (by omega)
  ·
   have hltz : ¬ (kk : Int) < (l0.length : Int) := by omega
   have hk : kk = l0.length := by omega
   subst hk
   go_wp2
   go_ret
   refine ⟨?_, HB.out⟩
   rw [idxI_miss HA.out]
   rfl
def isLetV (r : Int) : Bool := decide (0 ≤ r) && decide (r ≤ 1114111) && (decide (r < 55296) || decide (57343 < r))
theorem isLet_f (r : Int) : impl_isLetter.f r = some (isLetV r) := by
 unfold impl_isLetter.f isLetV
 by_cases h0 : 0 ≤ r
 ·
  by_cases h1 : r ≤ 1114111
  ·
   by_cases h2 : r < 55296
   · simp [h0, h1, h2]
   · simp [h0, h1, h2]
  · simp [h0, h1]
 · simp [h0]
theorem hasI_calls (p : Int → Bool) (g : Nat) (lb : Array Value) (eg : ∀ args w, (callFunc g args).run Tryz.prog w = .ok (.enter g args) w) (A0 : Option Addr) (c0 : Nat) (l0 : List Int) (w : World) (hr0 : Kd.C (Kd.int .i64) w A0 l0.length l0)
  (hn : l0.length ≤ 9223372036854775806) (hp : ∀ W, Below w.heap.size w W → ∀ j, j < l0.length → Calls Tryz.prog g (#[.int .i64 (l0.getD j 0)] ++ lb) W fun e w' => e = .returned (.bool (p (l0.getD j 0))) ∧ Below w.heap.size w w') :
  Calls Tryz.prog 56 #[.slice A0 l0.length c0, .func (.func g) #[] lb] w fun e w' => e = .returned (.bool (l0.any p)) ∧ Below w.heap.size w w' := by
 rw [← idxI_nonneg]
 go_enter Tryz.func56, Tryz.ntmps56
 go_wp2_with (go_at_call 88; refine (idxI_calls p g lb eg A0 c0 l0 _ hr0 hn hp).mono ?_; rintro e w' ⟨rfl, hb'⟩)
 go_ret
 exact ⟨rfl, hb'⟩
def okV (l : List Int) : Bool := decide (l.length ≤ 80) && l.all isLetV
def impl_lettersOk.f (l0 : List Int) : Option Bool := some (okV l0)
theorem lettersOk_1_calls (x : Int) (W : World) : Calls Tryz.prog 76 #[.int .i64 x] W fun e w' => e = .returned (.bool (!isLetV x)) ∧ Drawn0 W w' := by
 go_enter Tryz.func76, Tryz.ntmps76
 go_wp2_with (go_at_call 77; refine (impl_isLetter.calls x (isLetV x) _ (isLet_f x)).mono ?_; rintro e w' ⟨rfl, ⟨nd, rfl⟩⟩)
 go_ret
 exact ⟨rfl, Drawn0.step (Drawn0.refl _) _⟩
theorem impl_lettersOk.calls (A0 : Option Addr) (c0 : Nat) (l0 : List Int) (r : Bool) (w : World) (hr0 : Kd.C (Kd.int .i64) w A0 l0.length l0) (hc0 : l0.length ≤ c0) (h : impl_lettersOk.f l0 = some r) :
  Calls Tryz.prog 48 #[.slice A0 l0.length c0] w fun e w' => e = .returned (.bool r) ∧ Below w.heap.size w w' := by
 obtain rfl := Option.some.inj h
 clear h
 by_cases hl : l0.length ≤ 80
 ·
  have hd : decide ((l0.length : Int) ≤ 80) = true := decide_eq_true (by omega)
  have e : okV l0 = !(l0.any fun x => !isLetV x) := by simp [okV, hl, List.all_eq_not_any_not]
  have HE := az e
  have HL := az hl
  clear e hl
  go_enter Tryz.func48, Tryz.ntmps48
  go_wp2_with (go_at_call 56; refine (hasI_calls (fun x => !isLetV x) 76 #[] (fun _ _ => by first | rfl | (go_simp; done)) A0 c0 l0 _ hr0 (zG HL.out) (fun W hb j hj => ((lettersOk_1_calls _ W).mono fun _ _ ⟨he, hd⟩ => ⟨he, hb.trans (hd.below.mono hb.size)⟩))).mono ?_; rintro e w' ⟨rfl, hb'⟩)
  go_ret
  exact ⟨by rw [HE.out]; rfl, hb'⟩
 ·
  have hd : decide ((l0.length : Int) ≤ 80) = false := decide_eq_false (by omega)
  have e : okV l0 = false := by simp [okV, hl]
  have HE := az e
  clear e hl
  go_enter Tryz.func48, Tryz.ntmps48
  go_wp2
  go_ret
  exact ⟨by rw [HE.out]; rfl, Below.refl _ _⟩
def impl_spanOk.f (a0_0 : Int) (a0_1 : Int) (a0_2 : Int) (a0_3 : Int) (a1 : Int) : Option (Bool) := if a0_0 ≥ 0 then (if a0_0 < a1 then (if a0_1 > a0_0 then (if a0_1 ≤ a1 then (if a0_2 ≥ 1 then (if a0_2 ≤ 40 then (if a0_3 ≥ 0 then (some (decide (a0_3 ≤ 9))) else (some false)) else (some false)) else (some false)) else (some false)) else (some false)) else (some false)) else (some false)
theorem impl_spanOk.calls (a0_0 : Int) (a0_1 : Int) (a0_2 : Int) (a0_3 : Int) (a1 : Int) (r : Bool) (w : World) (h : impl_spanOk.f a0_0 a0_1 a0_2 a0_3 a1 = some r) :
  Calls Tryz.prog 84 #[.agg #[.int .i64 a0_0, .int .i64 a0_1, .int .i64 a0_2, .int .i64 a0_3], .int .i64 a1] w fun e w' => e = .returned (.bool r) ∧ Below w.heap.size w w' := by
 have hu50 := Tryz.underlying50; have HB := az (Below.refl w.heap.size w); have H : (if a0_0 ≥ 0 then (if a0_0 < a1 then (if a0_1 > a0_0 then (if a0_1 ≤ a1 then (if a0_2 ≥ 1 then (if a0_2 ≤ 40 then (if a0_3 ≥ 0 then (some (decide (a0_3 ≤ 9))) else (some false)) else (some false)) else (some false)) else (some false)) else (some false)) else (some false)) else (some false)) = some r := h; clear h; by_cases c3 : a0_0 ≥ 0
 ·
  rw [if_pos c3] at H; have c3b0 : decide (0 ≤ a0_0) = true := decide_eq_true c3; clear c3; by_cases c4 : a0_0 < a1
  ·
   rw [if_pos c4] at H; have c4b0 : decide (a0_0 < a1) = true := decide_eq_true c4; clear c4; by_cases c5 : a0_1 > a0_0
   ·
    rw [if_pos c5] at H; have c5b0 : decide (a0_0 < a0_1) = true := decide_eq_true c5; clear c5; by_cases c6 : a0_1 ≤ a1
    ·
     rw [if_pos c6] at H; have c6b0 : decide (a0_1 ≤ a1) = true := decide_eq_true c6; clear c6; by_cases c7 : a0_2 ≥ 1
     ·
      rw [if_pos c7] at H; have c7b0 : decide (1 ≤ a0_2) = true := decide_eq_true c7; clear c7; by_cases c8 : a0_2 ≤ 40
      ·
       rw [if_pos c8] at H; have c8b0 : decide (a0_2 ≤ 40) = true := decide_eq_true c8; clear c8; by_cases c9 : a0_3 ≥ 0
       ·
        rw [if_pos c9] at H; have c9b0 : decide (0 ≤ a0_3) = true := decide_eq_true c9; clear c9; obtain rfl := Option.some.inj H; go_enter Tryz.func84, Tryz.ntmps84; go_wp2_with (first | ((with_reducible refine gate_dst (N := 2) rfl ?_); refine box_event ?hg (N := 2) ?hd (cs := #[.int .i64 a0_0, .int .i64 a0_1, .int .i64 a0_2, .int .i64 a0_3]) (t := 50) ?hr ?_; (case hd => rfl); (case hg => rfl); (case hr => first | (go_simp; done) | (go_simp; rfl)); intro gb269 hg w10 hbox hb; have n0_ := az (below_step (zA HB.out) hb); have n1_ := az (hbox); have n2_ := az ((by rw [hg]; exact (below_size (zA HB.out)) : w.heap.size ≤ gb269)); have n3_ := az ((by rw [hg]; exact (below_size (zA HB.out)) : w.heap.size ≤ gb269)); clear HB; have HB := n0_; have BK269 := n1_; have GW269 := n2_; have GE269 := n3_; clear n0_ n1_ n2_ n3_; clear hb hbox hg; have hcz11_0 : w10.cell? ⟨gb269, 0, none⟩ = some (.int .i64 a0_0) := (blk_cell BK269.out 0).trans rfl; have hcz11_1 : w10.cell? ⟨gb269, 1, none⟩ = some (.int .i64 a0_1) := (blk_cell BK269.out 1).trans rfl; have hcz11_2 : w10.cell? ⟨gb269, 2, none⟩ = some (.int .i64 a0_2) := (blk_cell BK269.out 2).trans rfl; have hcz11_3 : w10.cell? ⟨gb269, 3, none⟩ = some (.int .i64 a0_3) := (blk_cell BK269.out 3).trans rfl; have hfz11_0 := blk_frozen BK269.out 0; have hfz11_1 := blk_frozen BK269.out 1; have hfz11_2 := blk_frozen BK269.out 2; have hfz11_3 := blk_frozen BK269.out 3)); go_ret; exact ⟨zF, zH HB.out GE269.out⟩
       ·
        rw [if_neg c9] at H; have c9b0 : decide (0 ≤ a0_3) = false := decide_eq_false c9; clear c9; obtain rfl := Option.some.inj H; go_enter Tryz.func84, Tryz.ntmps84; go_wp2_with (first | ((with_reducible refine gate_dst (N := 2) rfl ?_); refine box_event ?hg (N := 2) ?hd (cs := #[.int .i64 a0_0, .int .i64 a0_1, .int .i64 a0_2, .int .i64 a0_3]) (t := 50) ?hr ?_; (case hd => rfl); (case hg => rfl); (case hr => first | (go_simp; done) | (go_simp; rfl)); intro gb269 hg w12 hbox hb; have n0_ := az (below_step (zA HB.out) hb); have n1_ := az (hbox); have n2_ := az ((by rw [hg]; exact (below_size (zA HB.out)) : w.heap.size ≤ gb269)); have n3_ := az ((by rw [hg]; exact (below_size (zA HB.out)) : w.heap.size ≤ gb269)); clear HB; have HB := n0_; have BK269 := n1_; have GW269 := n2_; have GE269 := n3_; clear n0_ n1_ n2_ n3_; clear hb hbox hg; have hcz13_0 : w12.cell? ⟨gb269, 0, none⟩ = some (.int .i64 a0_0) := (blk_cell BK269.out 0).trans rfl; have hcz13_1 : w12.cell? ⟨gb269, 1, none⟩ = some (.int .i64 a0_1) := (blk_cell BK269.out 1).trans rfl; have hcz13_2 : w12.cell? ⟨gb269, 2, none⟩ = some (.int .i64 a0_2) := (blk_cell BK269.out 2).trans rfl; have hcz13_3 : w12.cell? ⟨gb269, 3, none⟩ = some (.int .i64 a0_3) := (blk_cell BK269.out 3).trans rfl; have hfz13_0 := blk_frozen BK269.out 0; have hfz13_1 := blk_frozen BK269.out 1; have hfz13_2 := blk_frozen BK269.out 2; have hfz13_3 := blk_frozen BK269.out 3)); go_ret; exact ⟨zF, zH HB.out GE269.out⟩
      ·
       rw [if_neg c8] at H; have c8b0 : decide (a0_2 ≤ 40) = false := decide_eq_false c8; clear c8; obtain rfl := Option.some.inj H; go_enter Tryz.func84, Tryz.ntmps84; go_wp2_with (first | ((with_reducible refine gate_dst (N := 2) rfl ?_); refine box_event ?hg (N := 2) ?hd (cs := #[.int .i64 a0_0, .int .i64 a0_1, .int .i64 a0_2, .int .i64 a0_3]) (t := 50) ?hr ?_; (case hd => rfl); (case hg => rfl); (case hr => first | (go_simp; done) | (go_simp; rfl)); intro gb269 hg w14 hbox hb; have n0_ := az (below_step (zA HB.out) hb); have n1_ := az (hbox); have n2_ := az ((by rw [hg]; exact (below_size (zA HB.out)) : w.heap.size ≤ gb269)); have n3_ := az ((by rw [hg]; exact (below_size (zA HB.out)) : w.heap.size ≤ gb269)); clear HB; have HB := n0_; have BK269 := n1_; have GW269 := n2_; have GE269 := n3_; clear n0_ n1_ n2_ n3_; clear hb hbox hg; have hcz15_0 : w14.cell? ⟨gb269, 0, none⟩ = some (.int .i64 a0_0) := (blk_cell BK269.out 0).trans rfl; have hcz15_1 : w14.cell? ⟨gb269, 1, none⟩ = some (.int .i64 a0_1) := (blk_cell BK269.out 1).trans rfl; have hcz15_2 : w14.cell? ⟨gb269, 2, none⟩ = some (.int .i64 a0_2) := (blk_cell BK269.out 2).trans rfl; have hcz15_3 : w14.cell? ⟨gb269, 3, none⟩ = some (.int .i64 a0_3) := (blk_cell BK269.out 3).trans rfl; have hfz15_0 := blk_frozen BK269.out 0; have hfz15_1 := blk_frozen BK269.out 1; have hfz15_2 := blk_frozen BK269.out 2; have hfz15_3 := blk_frozen BK269.out 3)); go_ret; exact ⟨zF, zH HB.out GE269.out⟩
     ·
      rw [if_neg c7] at H; have c7b0 : decide (1 ≤ a0_2) = false := decide_eq_false c7; clear c7; obtain rfl := Option.some.inj H; go_enter Tryz.func84, Tryz.ntmps84; go_wp2_with (first | ((with_reducible refine gate_dst (N := 2) rfl ?_); refine box_event ?hg (N := 2) ?hd (cs := #[.int .i64 a0_0, .int .i64 a0_1, .int .i64 a0_2, .int .i64 a0_3]) (t := 50) ?hr ?_; (case hd => rfl); (case hg => rfl); (case hr => first | (go_simp; done) | (go_simp; rfl)); intro gb269 hg w16 hbox hb; have n0_ := az (below_step (zA HB.out) hb); have n1_ := az (hbox); have n2_ := az ((by rw [hg]; exact (below_size (zA HB.out)) : w.heap.size ≤ gb269)); have n3_ := az ((by rw [hg]; exact (below_size (zA HB.out)) : w.heap.size ≤ gb269)); clear HB; have HB := n0_; have BK269 := n1_; have GW269 := n2_; have GE269 := n3_; clear n0_ n1_ n2_ n3_; clear hb hbox hg; have hcz17_0 : w16.cell? ⟨gb269, 0, none⟩ = some (.int .i64 a0_0) := (blk_cell BK269.out 0).trans rfl; have hcz17_1 : w16.cell? ⟨gb269, 1, none⟩ = some (.int .i64 a0_1) := (blk_cell BK269.out 1).trans rfl; have hcz17_2 : w16.cell? ⟨gb269, 2, none⟩ = some (.int .i64 a0_2) := (blk_cell BK269.out 2).trans rfl; have hcz17_3 : w16.cell? ⟨gb269, 3, none⟩ = some (.int .i64 a0_3) := (blk_cell BK269.out 3).trans rfl; have hfz17_0 := blk_frozen BK269.out 0; have hfz17_1 := blk_frozen BK269.out 1; have hfz17_2 := blk_frozen BK269.out 2; have hfz17_3 := blk_frozen BK269.out 3)); go_ret; exact ⟨zF, zH HB.out GE269.out⟩
    ·
     rw [if_neg c6] at H; have c6b0 : decide (a0_1 ≤ a1) = false := decide_eq_false c6; clear c6; obtain rfl := Option.some.inj H; go_enter Tryz.func84, Tryz.ntmps84; go_wp2_with (first | ((with_reducible refine gate_dst (N := 2) rfl ?_); refine box_event ?hg (N := 2) ?hd (cs := #[.int .i64 a0_0, .int .i64 a0_1, .int .i64 a0_2, .int .i64 a0_3]) (t := 50) ?hr ?_; (case hd => rfl); (case hg => rfl); (case hr => first | (go_simp; done) | (go_simp; rfl)); intro gb269 hg w18 hbox hb; have n0_ := az (below_step (zA HB.out) hb); have n1_ := az (hbox); have n2_ := az ((by rw [hg]; exact (below_size (zA HB.out)) : w.heap.size ≤ gb269)); have n3_ := az ((by rw [hg]; exact (below_size (zA HB.out)) : w.heap.size ≤ gb269)); clear HB; have HB := n0_; have BK269 := n1_; have GW269 := n2_; have GE269 := n3_; clear n0_ n1_ n2_ n3_; clear hb hbox hg; have hcz19_0 : w18.cell? ⟨gb269, 0, none⟩ = some (.int .i64 a0_0) := (blk_cell BK269.out 0).trans rfl; have hcz19_1 : w18.cell? ⟨gb269, 1, none⟩ = some (.int .i64 a0_1) := (blk_cell BK269.out 1).trans rfl; have hcz19_2 : w18.cell? ⟨gb269, 2, none⟩ = some (.int .i64 a0_2) := (blk_cell BK269.out 2).trans rfl; have hcz19_3 : w18.cell? ⟨gb269, 3, none⟩ = some (.int .i64 a0_3) := (blk_cell BK269.out 3).trans rfl; have hfz19_0 := blk_frozen BK269.out 0; have hfz19_1 := blk_frozen BK269.out 1; have hfz19_2 := blk_frozen BK269.out 2; have hfz19_3 := blk_frozen BK269.out 3)); go_ret; exact ⟨zF, zH HB.out GE269.out⟩
   ·
    rw [if_neg c5] at H; have c5b0 : decide (a0_0 < a0_1) = false := decide_eq_false c5; clear c5; obtain rfl := Option.some.inj H; go_enter Tryz.func84, Tryz.ntmps84; go_wp2_with (first | ((with_reducible refine gate_dst (N := 2) rfl ?_); refine box_event ?hg (N := 2) ?hd (cs := #[.int .i64 a0_0, .int .i64 a0_1, .int .i64 a0_2, .int .i64 a0_3]) (t := 50) ?hr ?_; (case hd => rfl); (case hg => rfl); (case hr => first | (go_simp; done) | (go_simp; rfl)); intro gb269 hg w20 hbox hb; have n0_ := az (below_step (zA HB.out) hb); have n1_ := az (hbox); have n2_ := az ((by rw [hg]; exact (below_size (zA HB.out)) : w.heap.size ≤ gb269)); have n3_ := az ((by rw [hg]; exact (below_size (zA HB.out)) : w.heap.size ≤ gb269)); clear HB; have HB := n0_; have BK269 := n1_; have GW269 := n2_; have GE269 := n3_; clear n0_ n1_ n2_ n3_; clear hb hbox hg; have hcz21_0 : w20.cell? ⟨gb269, 0, none⟩ = some (.int .i64 a0_0) := (blk_cell BK269.out 0).trans rfl; have hcz21_1 : w20.cell? ⟨gb269, 1, none⟩ = some (.int .i64 a0_1) := (blk_cell BK269.out 1).trans rfl; have hcz21_2 : w20.cell? ⟨gb269, 2, none⟩ = some (.int .i64 a0_2) := (blk_cell BK269.out 2).trans rfl; have hcz21_3 : w20.cell? ⟨gb269, 3, none⟩ = some (.int .i64 a0_3) := (blk_cell BK269.out 3).trans rfl; have hfz21_0 := blk_frozen BK269.out 0; have hfz21_1 := blk_frozen BK269.out 1; have hfz21_2 := blk_frozen BK269.out 2; have hfz21_3 := blk_frozen BK269.out 3)); go_ret; exact ⟨zF, zH HB.out GE269.out⟩
  ·
   rw [if_neg c4] at H; have c4b0 : decide (a0_0 < a1) = false := decide_eq_false c4; clear c4; obtain rfl := Option.some.inj H; go_enter Tryz.func84, Tryz.ntmps84; go_wp2_with (first | ((with_reducible refine gate_dst (N := 2) rfl ?_); refine box_event ?hg (N := 2) ?hd (cs := #[.int .i64 a0_0, .int .i64 a0_1, .int .i64 a0_2, .int .i64 a0_3]) (t := 50) ?hr ?_; (case hd => rfl); (case hg => rfl); (case hr => first | (go_simp; done) | (go_simp; rfl)); intro gb269 hg w22 hbox hb; have n0_ := az (below_step (zA HB.out) hb); have n1_ := az (hbox); have n2_ := az ((by rw [hg]; exact (below_size (zA HB.out)) : w.heap.size ≤ gb269)); have n3_ := az ((by rw [hg]; exact (below_size (zA HB.out)) : w.heap.size ≤ gb269)); clear HB; have HB := n0_; have BK269 := n1_; have GW269 := n2_; have GE269 := n3_; clear n0_ n1_ n2_ n3_; clear hb hbox hg; have hcz23_0 : w22.cell? ⟨gb269, 0, none⟩ = some (.int .i64 a0_0) := (blk_cell BK269.out 0).trans rfl; have hcz23_1 : w22.cell? ⟨gb269, 1, none⟩ = some (.int .i64 a0_1) := (blk_cell BK269.out 1).trans rfl; have hcz23_2 : w22.cell? ⟨gb269, 2, none⟩ = some (.int .i64 a0_2) := (blk_cell BK269.out 2).trans rfl; have hcz23_3 : w22.cell? ⟨gb269, 3, none⟩ = some (.int .i64 a0_3) := (blk_cell BK269.out 3).trans rfl; have hfz23_0 := blk_frozen BK269.out 0; have hfz23_1 := blk_frozen BK269.out 1; have hfz23_2 := blk_frozen BK269.out 2; have hfz23_3 := blk_frozen BK269.out 3)); go_ret; exact ⟨zF, zH HB.out GE269.out⟩
 ·
  rw [if_neg c3] at H; have c3b0 : decide (0 ≤ a0_0) = false := decide_eq_false c3; clear c3; obtain rfl := Option.some.inj H; go_enter Tryz.func84, Tryz.ntmps84; go_wp2_with (first | ((with_reducible refine gate_dst (N := 2) rfl ?_); refine box_event ?hg (N := 2) ?hd (cs := #[.int .i64 a0_0, .int .i64 a0_1, .int .i64 a0_2, .int .i64 a0_3]) (t := 50) ?hr ?_; (case hd => rfl); (case hg => rfl); (case hr => first | (go_simp; done) | (go_simp; rfl)); intro gb269 hg w24 hbox hb; have n0_ := az (below_step (zA HB.out) hb); have n1_ := az (hbox); have n2_ := az ((by rw [hg]; exact (below_size (zA HB.out)) : w.heap.size ≤ gb269)); have n3_ := az ((by rw [hg]; exact (below_size (zA HB.out)) : w.heap.size ≤ gb269)); clear HB; have HB := n0_; have BK269 := n1_; have GW269 := n2_; have GE269 := n3_; clear n0_ n1_ n2_ n3_; clear hb hbox hg; have hcz25_0 : w24.cell? ⟨gb269, 0, none⟩ = some (.int .i64 a0_0) := (blk_cell BK269.out 0).trans rfl; have hcz25_1 : w24.cell? ⟨gb269, 1, none⟩ = some (.int .i64 a0_1) := (blk_cell BK269.out 1).trans rfl; have hcz25_2 : w24.cell? ⟨gb269, 2, none⟩ = some (.int .i64 a0_2) := (blk_cell BK269.out 2).trans rfl; have hcz25_3 : w24.cell? ⟨gb269, 3, none⟩ = some (.int .i64 a0_3) := (blk_cell BK269.out 3).trans rfl; have hfz25_0 := blk_frozen BK269.out 0; have hfz25_1 := blk_frozen BK269.out 1; have hfz25_2 := blk_frozen BK269.out 2; have hfz25_3 := blk_frozen BK269.out 3)); go_ret; exact ⟨zF, zH HB.out GE269.out⟩
abbrev q27M0 : Array Bool := #[false, false, false, false, false, false, false, false, false, false, false, false, false, false, false, false, false, false, false]
abbrev q27M1 : Array Bool := #[false, true, false, false, false, false, false, false, false, false, false, false, false, false, false, false, false, false, false]
abbrev q27M2 : Array Bool := #[true, true, false, false, false, false, false, false, false, false, false, false, false, false, false, false, false, false, false]
abbrev q27M3 : Array Bool := #[true, true, true, false, false, false, false, false, false, false, false, false, false, false, false, false, false, false, false]
abbrev q27M4 : Array Bool := #[true, true, true, true, false, false, false, false, false, false, false, false, false, false, false, false, false, false, false]
abbrev q27M5 : Array Bool := #[true, true, true, true, true, false, false, false, false, false, false, false, false, false, false, false, false, false, false]
abbrev q27M6 : Array Bool := #[true, true, true, true, true, true, false, false, false, false, false, false, false, false, false, false, false, false, false]
abbrev q27M7 : Array Bool := #[true, true, true, true, true, true, true, false, false, false, false, false, false, false, false, false, false, false, false]
abbrev q27M8 : Array Bool := #[true, true, true, true, true, true, true, true, false, false, false, false, false, false, false, false, false, false, false]
abbrev q27M9 : Array Bool := #[true, true, true, true, true, true, true, true, true, false, false, false, false, false, false, false, false, false, false]
abbrev q27M10 : Array Bool := #[true, true, true, true, true, true, true, true, true, true, false, false, false, false, false, false, false, false, false]
abbrev q27M11 : Array Bool := #[true, true, true, true, true, true, true, true, true, true, true, false, false, false, false, false, false, false, false]
abbrev q27M12 : Array Bool := #[true, true, true, true, true, true, true, true, true, true, true, true, false, false, false, false, false, false, false]
abbrev q27M13 : Array Bool := #[true, true, true, true, true, true, true, true, true, true, true, true, true, false, false, false, false, false, false]
abbrev q27M14 : Array Bool := #[true, true, true, true, true, true, true, true, true, true, true, true, true, false, true, false, false, false, false]
abbrev q27M15 : Array Bool := #[true, true, true, true, true, true, true, true, true, true, true, true, true, true, true, false, false, false, false]
abbrev q27M16 : Array Bool := #[true, true, true, true, true, true, true, true, true, true, true, true, true, true, true, true, false, false, false]
abbrev q27M17 : Array Bool := #[true, true, true, true, true, true, true, true, true, true, true, true, true, true, true, true, true, false, false]
abbrev q27M18 : Array Bool := #[true, true, true, true, true, true, true, true, true, true, true, true, true, true, true, true, true, true, false]
abbrev q27M19 : Array Bool := #[true, true, true, true, true, true, true, true, true, true, true, true, true, true, true, true, true, true, true]
abbrev q27M20 : Array Bool := #[true, true, true, true, true, true, true, true, true, true, true, true, true, true, false, false, false, false, false]
theorem q27s {α : Type} (l : List α) (i : Nat) (a : α) : l.toArray.setIfInBounds i a = (l.set i a).toArray := List.setIfInBounds_toArray ..
theorem q27z {α : Type} (a : α) (l : List α) (b : α) : (a :: l).set 0 b = b :: l := List.set_cons_zero ..
theorem q27n {α : Type} (a : α) (l : List α) (i : Nat) (b : α) : (a :: l).set (i + 1) b = a :: l.set i b := List.set_cons_succ ..
def impl_SpansOk.l0 : Nat → List (S50) → Int → List (S50) → Int → Int → Option (Bool)
 | 0, _, _, _, _, _ => none
 | k + 1, x0, x1, x7, x8, x9 => if x9 < x8 then (if 0 ≤ x9 then (if x9 < (x7.length : Int) then ((impl_spanOk.f ((rd_T50 x7 x9).f0) ((rd_T50 x7 x9).f1) ((rd_T50 x7 x9).f2) ((rd_T50 x7 x9).f3) x1).bind fun t272 => (if t272 = true then (if x9 > 0 then (if 0 ≤ (wrap64 (x9 - 1)) then (if (wrap64 (x9 - 1)) < (x0.length : Int) then (if ((rd_T50 x0 (wrap64 (x9 - 1))).f1) > ((rd_T50 x7 x9).f0) then (some false) else (impl_SpansOk.l0 k x0 x1 x7 x8 (wrap64 (x9 + 1)))) else (none)) else (none)) else (impl_SpansOk.l0 k x0 x1 x7 x8 (wrap64 (x9 + 1)))) else (some false))) else (none)) else (none)) else (if x1 ≥ 0 then (if x1 ≤ 80 then (some (decide ((x0.length : Int) ≤ 12))) else (some false)) else (some false))
def impl_SpansOk.f (k : Nat) (l0 : List (S50)) (a1 : Int) : Option (Bool) := impl_SpansOk.l0 k l0 a1 l0 (l0.length : Int) 0
theorem impl_SpansOk.mono_l : ∀ k, (∀ y0 y1 y2 y3 y4, LeO (impl_SpansOk.l0 k y0 y1 y2 y3 y4) (impl_SpansOk.l0 (k + 1) y0 y1 y2 y3 y4))
 | 0 => fun _ _ _ _ _ r h => by simp [impl_SpansOk.l0] at h
 | k + 1 => by
  have ih0 := impl_SpansOk.mono_l k
  ·
   intro y0 y1 y2 y3 y4; unfold impl_SpansOk.l0
   repeat' first
   | (with_reducible exact ih0 _ _ _ _ _)
   | (with_reducible exact LeO.refl _)
   | (with_reducible exact LeO.none _)
   | (with_reducible refine LeO.ite ?_ ?_)
   | (with_reducible refine LeO.bind ?_ (fun _ => ?_))
   | exact ih0 _ _ _ _ _
   | exact LeO.none _
   | refine LeO.ite ?_ ?_
   | refine LeO.bind ?_ (fun _ => ?_)
theorem impl_SpansOk.mono : ∀ a0 a1 k, LeO (impl_SpansOk.f k a0 a1) (impl_SpansOk.f (k + 1) a0 a1) := by
 intro a0 a1 k; have ih0 := impl_SpansOk.mono_l k; unfold impl_SpansOk.f
 repeat' first
   | (with_reducible exact ih0 _ _ _ _ _)
   | (with_reducible exact LeO.refl _)
   | (with_reducible exact LeO.none _)
   | (with_reducible refine LeO.ite ?_ ?_)
   | (with_reducible refine LeO.bind ?_ (fun _ => ?_))
   | exact ih0 _ _ _ _ _
   | exact LeO.none _
   | refine LeO.ite ?_ ?_
   | refine LeO.bind ?_ (fun _ => ?_)
def impl_SpansOk.T4 : Bool × List (List Nat × List Nat) := (true, [([], []), ([], []), ([0, 1], [0, 1]), ([2], [2]), ([3, 2], [3]), ([4], [4]), ([5, 4], [4, 5]), ([6, 4, 4], [4, 6]), ([7], [7]), ([7], [7]), ([9, 7], [7, 9]), ([8, 10, 7], [7, 8, 10]), ([11, 7], [7, 11]), ([12, 7], [7, 12]), ([7], [7]), ([14, 7], [7, 14]), ([13, 15, 7], [7, 13, 15]), ([7, 16, 4], [4, 7, 16]), ([4, 17], [4, 17])])
def impl_SpansOk.B4 : List Nat := [0, 0, 3, 7, 15, 31, 63, 127, 255, 255, 767, 2047, 4095, 8191, 255, 16639, 65535, 131071, 262143]
theorem impl_SpansOk.tab4 : rtab .any (opsOf Tryz.f54 4) = impl_SpansOk.T4 := by kernel_rfl
theorem impl_SpansOk.bits4 : waitsOk impl_SpansOk.T4.2 impl_SpansOk.B4 = true := by kernel_rfl
theorem impl_SpansOk.calls (k : Nat) (A0 : Option Addr) (c0 : Nat) (l0 : List (S50)) (a1 : Int) (r : Bool) (w : World) (hr0 : Kd.C k50 w A0 l0.length l0) (hc0 : l0.length ≤ c0) (h : impl_SpansOk.f k l0 a1 = some r) :
  Calls Tryz.prog 54 #[.slice A0 l0.length c0, .int .i64 a1] w fun e w' => e = .returned (.bool r) ∧ Below w.heap.size w w' := by
 have hu50 := Tryz.underlying50; have HR0 := az hr0; have HC0 := az hc0; clear hr0 hc0; have HB := az (Below.refl w.heap.size w); have H : (impl_SpansOk.l0 k l0 a1 l0 (l0.length : Int) 0) = some r := h; clear h; have H' := az H; clear H; go_enter Tryz.func54, Tryz.ntmps54; go_wp2; go_loopg [9] k (fun kq v9 w' => ∃ (x9_1 : Int), v9 = .int .i64 x9_1 ∧ Aside0 (impl_SpansOk.l0 kq l0 a1 l0 (l0.length : Int) x9_1 = some r) ∧ Aside0 (kq ≤ k) ∧ Aside0 (Below w.heap.size w w'))
 case atStart => exact ⟨(0), zB, H', ⟨Nat.le_refl _⟩, ⟨zA HB.out⟩⟩
 case round =>
  clear H'; (try clear p2); obtain ⟨x9_1, rfl, HA, HK1, HB⟩ := hrel
  cases gk with
  | zero => exact absurd HA.out (by simp [impl_SpansOk.l0])
  | succ k1 =>
   have H := HA.out; clear HA; simp only [impl_SpansOk.l0] at H; by_cases c3 : x9_1 < (l0.length : Int)
   ·
    rw [if_pos c3] at H; have c3b0 : decide (x9_1 < (l0.length : Int)) = true := decide_eq_true c3; clear c3; by_cases c4 : 0 ≤ x9_1
    ·
     rw [if_pos c4] at H; have c4b0 : decide (0 ≤ x9_1) = true := decide_eq_true c4; clear c4; by_cases c5 : x9_1 < (l0.length : Int)
     ·
      rw [if_pos c5] at H; have c5b0 : decide (x9_1 < (l0.length : Int)) = true := decide_eq_true c5; clear c5; replace H := Option.bind_eq_some_iff.mp H; obtain ⟨t272, A60, H⟩ := H; replace H : (if t272 = true then (if x9_1 > 0 then (if 0 ≤ (wrap64 (x9_1 - 1)) then (if (wrap64 (x9_1 - 1)) < (l0.length : Int) then (if ((rd_T50 l0 (wrap64 (x9_1 - 1))).f1) > ((rd_T50 l0 x9_1).f0) then (some false) else (impl_SpansOk.l0 k1 l0 a1 l0 (l0.length : Int) (wrap64 (x9_1 + 1)))) else (none)) else (none)) else (impl_SpansOk.l0 k1 l0 a1 l0 (l0.length : Int) (wrap64 (x9_1 + 1)))) else (some false)) = some r := H; have A6 := az A60; clear A60; by_cases c7 : t272 = true
      ·
       subst c7; have H1 : (if x9_1 > 0 then (if 0 ≤ (wrap64 (x9_1 - 1)) then (if (wrap64 (x9_1 - 1)) < (l0.length : Int) then (if ((rd_T50 l0 (wrap64 (x9_1 - 1))).f1) > ((rd_T50 l0 x9_1).f0) then (some false) else (impl_SpansOk.l0 k1 l0 a1 l0 (l0.length : Int) (wrap64 (x9_1 + 1)))) else (none)) else (none)) else (impl_SpansOk.l0 k1 l0 a1 l0 (l0.length : Int) (wrap64 (x9_1 + 1)))) = some r := by rw [if_pos rfl] at H; exact H
       clear H; have H := H1; clear H1; by_cases c8 : x9_1 > 0
       ·
        rw [if_pos c8] at H; have c8b0 : decide (0 < x9_1) = true := decide_eq_true c8; clear c8; obtain ⟨ji9, hji9⟩ : ∃ j_ : Int, (wrap64 (x9_1 - 1)) = j_ := ⟨_, rfl⟩; replace H : (if 0 ≤ (ji9) then (if (ji9) < (l0.length : Int) then (if ((rd_T50 l0 (ji9)).f1) > ((rd_T50 l0 x9_1).f0) then (some false) else (impl_SpansOk.l0 k1 l0 a1 l0 (l0.length : Int) (wrap64 (x9_1 + 1)))) else (none)) else (none)) = some r := by first | (rw [hji9] at H; exact H) | (simp only [hji9] at H ⊢; exact H)
        (try rw [hji9] at A6); have hji9w : (IntKind.i64.wrap (x9_1 - 1)) = ji9 := (i64_w _).trans hji9; by_cases c10 : 0 ≤ (ji9)
        ·
         rw [if_pos c10] at H; have c10b0 : decide (0 ≤ (ji9)) = true := decide_eq_true c10; clear c10; by_cases c11 : (ji9) < (l0.length : Int)
         ·
          rw [if_pos c11] at H; have c11b0 : decide ((ji9) < (l0.length : Int)) = true := decide_eq_true c11; clear c11; by_cases c12 : ((rd_T50 l0 (ji9)).f1) > ((rd_T50 l0 x9_1).f0)
          ·
           rw [if_pos c12] at H; have c12b0 : decide (((rd_T50 l0 x9_1).f0) < ((rd_T50 l0 (ji9)).f1)) = true := decide_eq_true c12; clear c12; obtain rfl := Option.some.inj H; have p270 : 0 ≤ (x9_1 : Int) := of_decide_eq_true (by assumption); have q270 : x9_1 < (l0.length : Int) := of_decide_eq_true (by assumption); obtain ⟨ad270, e270, hx270_0, hx270_1, hx270_2, hx270_3⟩ := at_T50 HR0.out x9_1 p270 q270
           cases e270
           replace hx270_0 := (HB.out.cell (World.block_lt_of_cell? w _ hx270_0)).trans hx270_0; replace hx270_1 := (HB.out.cell (World.block_lt_of_cell? w _ hx270_1)).trans hx270_1; replace hx270_2 := (HB.out.cell (World.block_lt_of_cell? w _ hx270_2)).trans hx270_2; replace hx270_3 := (HB.out.cell (World.block_lt_of_cell? w _ hx270_3)).trans hx270_3; replace p270 := eq_true p270; replace q270 := eq_true q270; (try go_wp2_with (first | ((with_reducible refine gate_dst (N := 6) rfl ?_); (try (refine gate_guard (by rfl) ?_; dsimp only)); refine box_event ?hg (N := 6) ?hd (cs := #[.int .i64 0, .int .i64 0, .int .i64 0, .int .i64 0]) (t := 50) ?hr ?_; (case hd => rfl); (case hg => rfl); (case hr => first | (go_simp; done) | (go_simp; rfl)); intro gb271 hg w13 hbox hb; have n0_ := az (below_step (zA HB.out) hb); have n1_ := az (hbox); have n2_ := az ((by rw [hg]; exact (below_size (zA HB.out)) : w.heap.size ≤ gb271)); have n3_ := az ((by rw [hg]; exact (below_size (zA HB.out)) : w.heap.size ≤ gb271)); clear HB; have HB := n0_; have BK271 := n1_; have GW271 := n2_; have GE271 := n3_; clear n0_ n1_ n2_ n3_; clear hb hbox hg; have hcz14_0 : w13.cell? ⟨gb271, 0, none⟩ = some (.int .i64 0) := (blk_cell BK271.out 0).trans rfl; have hcz14_1 : w13.cell? ⟨gb271, 1, none⟩ = some (.int .i64 0) := (blk_cell BK271.out 1).trans rfl; have hcz14_2 : w13.cell? ⟨gb271, 2, none⟩ = some (.int .i64 0) := (blk_cell BK271.out 2).trans rfl; have hcz14_3 : w13.cell? ⟨gb271, 3, none⟩ = some (.int .i64 0) := (blk_cell BK271.out 3).trans rfl; have hfz14_0 := blk_frozen BK271.out 0; have hfz14_1 := blk_frozen BK271.out 1; have hfz14_2 := blk_frozen BK271.out 2; have hfz14_3 := blk_frozen BK271.out 3))); have n0_ : Aside0 (((((w13.setCell ⟨gb271, 0, none⟩ (.int .i64 ((rd_T50 l0 x9_1).f0))).setCell ⟨gb271, 1, none⟩ (.int .i64 ((rd_T50 l0 x9_1).f1))).setCell ⟨gb271, 2, none⟩ (.int .i64 ((rd_T50 l0 x9_1).f2))).setCell ⟨gb271, 3, none⟩ (.int .i64 ((rd_T50 l0 x9_1).f3))).heap[gb271]? = some (.cells #[.int .i64 ((rd_T50 l0 x9_1).f0), .int .i64 ((rd_T50 l0 x9_1).f1), .int .i64 ((rd_T50 l0 x9_1).f2), .int .i64 ((rd_T50 l0 x9_1).f3)] 50 (0, 0))) := ⟨by (with_reducible repeat (first | refine blk_drewN ?_ _ | refine blk_drew ?_ | refine blk_alloc ?_ _)); refine blk_put (cs := #[.int .i64 ((rd_T50 l0 x9_1).f0), .int .i64 ((rd_T50 l0 x9_1).f1), .int .i64 ((rd_T50 l0 x9_1).f2), .int .i64 0]) ?_ 3 _ rfl; (with_reducible repeat (first | refine blk_drewN ?_ _ | refine blk_drew ?_ | refine blk_alloc ?_ _)); refine blk_put (cs := #[.int .i64 ((rd_T50 l0 x9_1).f0), .int .i64 ((rd_T50 l0 x9_1).f1), .int .i64 0, .int .i64 0]) ?_ 2 _ rfl; (with_reducible repeat (first | refine blk_drewN ?_ _ | refine blk_drew ?_ | refine blk_alloc ?_ _)); refine blk_put (cs := #[.int .i64 ((rd_T50 l0 x9_1).f0), .int .i64 0, .int .i64 0, .int .i64 0]) ?_ 1 _ rfl; (with_reducible repeat (first | refine blk_drewN ?_ _ | refine blk_drew ?_ | refine blk_alloc ?_ _)); refine blk_put (cs := #[.int .i64 0, .int .i64 0, .int .i64 0, .int .i64 0]) ?_ 0 _ rfl; (with_reducible repeat (first | refine blk_drewN ?_ _ | refine blk_drew ?_ | refine blk_alloc ?_ _)); exact BK271.out⟩; have n1_ : Aside0 (Below w.heap.size w ((((w13.setCell ⟨gb271, 0, none⟩ (.int .i64 ((rd_T50 l0 x9_1).f0))).setCell ⟨gb271, 1, none⟩ (.int .i64 ((rd_T50 l0 x9_1).f1))).setCell ⟨gb271, 2, none⟩ (.int .i64 ((rd_T50 l0 x9_1).f2))).setCell ⟨gb271, 3, none⟩ (.int .i64 ((rd_T50 l0 x9_1).f3)))) := ⟨zH HB.out GE271.out⟩
           (try clear BK271); (try clear HB); generalize ((((w13.setCell ⟨gb271, 0, none⟩ (.int .i64 ((rd_T50 l0 x9_1).f0))).setCell ⟨gb271, 1, none⟩ (.int .i64 ((rd_T50 l0 x9_1).f1))).setCell ⟨gb271, 2, none⟩ (.int .i64 ((rd_T50 l0 x9_1).f2))).setCell ⟨gb271, 3, none⟩ (.int .i64 ((rd_T50 l0 x9_1).f3))) = w15 at n0_ n1_ ⊢; have BK271 := n0_; have HB := n1_; clear n0_ n1_; have n0_ := az (blk_drew BK271.out); have n1_ := az (below_drew1 HB.out); clear BK271; clear HB; have BK271 := n0_; have HB := n1_; clear n0_ n1_; have p273 : 0 ≤ ((ji9) : Int) := of_decide_eq_true (by assumption); have q273 : (ji9) < (l0.length : Int) := of_decide_eq_true (by assumption); obtain ⟨ad273, e273, hx273_0, hx273_1, hx273_2, hx273_3⟩ := at_T50 HR0.out (ji9) p273 q273; have hw273_3 := hx273_3; have hw273_2 := hx273_2; have hw273_1 := hx273_1; have hw273_0 := hx273_0; obtain rfl : ad270 = ad273 := (by injection e273); replace hx273_0 := (HB.out.cell (World.block_lt_of_cell? w _ hx273_0)).trans hx273_0; replace hx273_1 := (HB.out.cell (World.block_lt_of_cell? w _ hx273_1)).trans hx273_1; replace hx273_2 := (HB.out.cell (World.block_lt_of_cell? w _ hx273_2)).trans hx273_2; replace hx273_3 := (HB.out.cell (World.block_lt_of_cell? w _ hx273_3)).trans hx273_3; replace p273 := eq_true p273; replace q273 := eq_true q273; refine start_ (n := 19) (S := fun w' => w'.cell? ⟨gb271, 0, none⟩ = some (.int .i64 ((rd_T50 l0 x9_1).f0)) ∧ w'.cell? ⟨gb271, 1, none⟩ = some (.int .i64 ((rd_T50 l0 x9_1).f1)) ∧ w'.cell? ⟨gb271, 2, none⟩ = some (.int .i64 ((rd_T50 l0 x9_1).f2)) ∧ w'.cell? ⟨gb271, 3, none⟩ = some (.int .i64 ((rd_T50 l0 x9_1).f3)) ∧ w'.cell? (ad270.add (((ji9)).toNat * 4)) = some (.int .i64 ((rd_T50 l0 (ji9)).f0)) ∧ w'.cell? ⟨(ad270.add (((ji9)).toNat * 4)).block, (ad270.add (((ji9)).toNat * 4)).off + 1, none⟩ = some (.int .i64 ((rd_T50 l0 (ji9)).f1)) ∧ w'.cell? ⟨(ad270.add (((ji9)).toNat * 4)).block, (ad270.add (((ji9)).toNat * 4)).off + 2, none⟩ = some (.int .i64 ((rd_T50 l0 (ji9)).f2)) ∧ w'.cell? ⟨(ad270.add (((ji9)).toNat * 4)).block, (ad270.add (((ji9)).toNat * 4)).off + 3, none⟩ = some (.int .i64 ((rd_T50 l0 (ji9)).f3))) (ds := []) q27M0 (by kernel_rfl) rfl rfl ⟨(blk_cell BK271.out 0).trans rfl, (blk_cell BK271.out 1).trans rfl, (blk_cell BK271.out 2).trans rfl, (blk_cell BK271.out 3).trans rfl, ((HB.out.cell (World.block_lt_of_cell? w _ hw273_0)).trans hw273_0), ((HB.out.cell (World.block_lt_of_cell? w _ hw273_1)).trans hw273_1), ((HB.out.cell (World.block_lt_of_cell? w _ hw273_2)).trans hw273_2), ((HB.out.cell (World.block_lt_of_cell? w _ hw273_3)).trans hw273_3)⟩ (fun hHeld => ?_); refine with_tabW impl_SpansOk.tab4 impl_SpansOk.bits4 (fun HT_ HW_ => ?_); generalize w15.drew = w16 at BK271 HB hx273_0 hx273_1 hx273_2 hx273_3 hHeld ⊢; refine pure_ (i := 1) (N := some 15) (v := ?_) (a' := ?_) q27M1 rfl rfl (any_of HT_.out (by kernel_rfl)) (fun _ _ _ => id) (Or.inl ⟨by rfl, ?_⟩) ?_ ?_; rotate_left; intro w'; go_simp; (with_reducible rfl); rotate_left; simp only [Act.put, q27s, q27z, q27n, i64_w, i32_w]; rfl; refine take_ (i := 0) (N := some 14) (v := ?_) (a' := ?_) q27M2 rfl rfl (take_ofW HT_.out HW_.out (by kernel_rfl)) (fun _ _ _ => id) (Or.inl ⟨by rfl, ?_⟩) hHeld ?_ ?_; rotate_left
           ·
            rintro w' ⟨s0, s1, s2, s3, s4, s5, s6, s7⟩; go_simp; with_reducible rfl
           rotate_left
           · simp only [Act.put, q27s, q27z, q27n, i64_w, i32_w]; rfl
           refine one_ (i := 2) (N := some 16) q27M3 rfl rfl (one_of HT_.out (by kernel_rfl)) (by decide) (fun K hK => ?_); refine goes_ Tryz.func84 (by kernel_rfl) rfl #[.agg #[.int .i64 ((rd_T50 l0 x9_1).f0), .int .i64 ((rd_T50 l0 x9_1).f1), .int .i64 ((rd_T50 l0 x9_1).f2), .int .i64 ((rd_T50 l0 x9_1).f3)], .int .i64 a1] (by rfl) rfl rfl zD ?_; with_reducible refine (impl_spanOk.calls ((rd_T50 l0 x9_1).f0) ((rd_T50 l0 x9_1).f1) ((rd_T50 l0 x9_1).f2) ((rd_T50 l0 x9_1).f3) a1 true _ A6.out).mono ?_
           rintro e w17 ⟨rfl, hb⟩; refine ⟨_, rfl, ?_⟩; have n0_ := az (blk_below (g := gb271) (o := .cells #[.int .i64 ((rd_T50 l0 x9_1).f0), .int .i64 ((rd_T50 l0 x9_1).f1), .int .i64 ((rd_T50 l0 x9_1).f2), .int .i64 ((rd_T50 l0 x9_1).f3)] 50 (0, 0)) (zJ BK271.out) hb); have n1_ := az (below_step (zH HB.out GE271.out) hb); clear BK271; clear HB; have BK271 := n0_; have HB := n1_; clear n0_ n1_; (try clear hb); (try clear hb2); (try clear hk); (try clear hi); refine hK.out _ _ ⟨(blk_cell BK271.out 0).trans rfl, (blk_cell BK271.out 1).trans rfl, (blk_cell BK271.out 2).trans rfl, (blk_cell BK271.out 3).trans rfl, ((HB.out.cell (World.block_lt_of_cell? w _ hw273_0)).trans hw273_0), ((HB.out.cell (World.block_lt_of_cell? w _ hw273_1)).trans hw273_1), ((HB.out.cell (World.block_lt_of_cell? w _ hw273_2)).trans hw273_2), ((HB.out.cell (World.block_lt_of_cell? w _ hw273_3)).trans hw273_3)⟩ (fun hHeld => ?_); clear hK K; refine norm_ (a' := ?_) ?_ ?_; rotate_left
           ·
            show Act.put _ (some 16) _ = _; simp only [Act.put, q27s, q27z, q27n, i64_w, i32_w]; rfl
           refine pure_ (i := 3) (N := some 17) (v := ?_) (a' := ?_) q27M4 rfl rfl (any_of HT_.out (by kernel_rfl)) (fun _ _ _ => id) (Or.inl ⟨by rfl, ?_⟩) ?_ ?_; rotate_left; intro w'; go_simp; (with_reducible rfl); rotate_left; simp only [Act.put, q27s, q27z, q27n, i64_w, i32_w]; rfl; refine pure_ (i := 4) (N := some 18) (v := ?_) (a' := ?_) q27M5 rfl rfl (any_of HT_.out (by kernel_rfl)) (fun _ _ _ => id) (Or.inl ⟨by rfl, ?_⟩) ?_ ?_; rotate_left; intro w'; go_simp; (with_reducible rfl); rotate_left; simp only [Act.put, q27s, q27z, q27n, i64_w, i32_w]; rfl; refine pure_ (i := 5) (N := some 19) (v := ?_) (a' := ?_) q27M6 rfl rfl (any_of HT_.out (by kernel_rfl)) (fun _ _ _ => id) (Or.inl ⟨by rfl, ?_⟩) ?_ ?_; rotate_left; intro w'; go_simp; (with_reducible rfl); rotate_left; simp only [Act.put, q27s, q27z, q27n, i64_w, i32_w]; rfl; refine pure_ (i := 6) (N := some 20) (v := ?_) (a' := ?_) q27M7 rfl rfl (any_of HT_.out (by kernel_rfl)) (fun _ _ _ => id) (Or.inl ⟨by rfl, ?_⟩) ?_ ?_; rotate_left; intro w'; go_simp; (with_reducible rfl); rotate_left; simp only [Act.put, q27s, q27z, q27n, i64_w, i32_w]; rfl; refine pure_ (i := 7) (N := some 21) (v := ?_) (a' := ?_) q27M8 rfl rfl (any_of HT_.out (by kernel_rfl)) (fun _ _ _ => id) (Or.inl ⟨by rfl, ?_⟩) ?_ ?_; rotate_left; intro w'; go_simp; (with_reducible rfl); rotate_left; simp only [Act.put, q27s, q27z, q27n, i64_w, i32_w]; rfl; refine pure_ (i := 8) (N := some 22) (v := ?_) (a' := ?_) q27M9 rfl rfl (any_of HT_.out (by kernel_rfl)) (fun _ _ _ => id) (Or.inl ⟨by rfl, ?_⟩) ?_ ?_; rotate_left; intro w'; go_simp; (with_reducible rfl); rotate_left; simp only [Act.put, q27s, q27z, q27n, i64_w, i32_w]; rfl; refine pure_ (i := 9) (N := some 23) (v := ?_) (a' := ?_) q27M10 rfl rfl (any_of HT_.out (by kernel_rfl)) (fun _ _ _ => id) (Or.inl ⟨by rfl, ?_⟩) ?_ ?_; rotate_left; intro w'; go_simp; (with_reducible rfl); rotate_left; simp only [Act.put, q27s, q27z, q27n, i64_w, i32_w]; rfl; refine pure_ (i := 10) (N := some 24) (v := ?_) (a' := ?_) q27M11 rfl rfl (any_of HT_.out (by kernel_rfl)) (fun _ _ _ => id) (Or.inl ⟨by rfl, ?_⟩) ?_ ?_; rotate_left; intro w'; go_simp; (with_reducible rfl); rotate_left; simp only [Act.put, q27s, q27z, q27n, i64_w, i32_w]; rfl; refine pure_ (i := 11) (N := some 25) (v := ?_) (a' := ?_) q27M12 rfl rfl (any_of HT_.out (by kernel_rfl)) (fun _ _ _ => id) (Or.inl ⟨by rfl, ?_⟩) ?_ ?_; rotate_left; intro w'; go_simp; (with_reducible rfl); rotate_left; simp only [Act.put, q27s, q27z, q27n, i64_w, i32_w]; rfl; refine pure_ (i := 12) (N := some 26) (v := ?_) (a' := ?_) q27M13 rfl rfl (any_of HT_.out (by kernel_rfl)) (fun _ _ _ => id) (Or.inl ⟨by rfl, ?_⟩) ?_ ?_; rotate_left; intro w'; go_simp; (with_reducible rfl); rotate_left; simp only [Act.put, q27s, q27z, q27n, i64_w, i32_w]; rfl; refine pure_ (i := 14) (N := some 28) (v := ?_) (a' := ?_) q27M14 rfl rfl (any_of HT_.out (by kernel_rfl)) (fun _ _ _ => id) (Or.inl ⟨by rfl, ?_⟩) ?_ ?_; rotate_left; intro w'; go_simp; (with_reducible rfl); rotate_left; simp only [Act.put, q27s, q27z, q27n, i64_w, i32_w]; rfl; refine take_ (i := 13) (N := some 27) (v := ?_) (a' := ?_) q27M15 rfl rfl (take_ofW HT_.out HW_.out (by kernel_rfl)) (fun _ _ _ => id) (Or.inl ⟨by rfl, ?_⟩) hHeld ?_ ?_; rotate_left
           ·
            rintro w' ⟨s0, s1, s2, s3, s4, s5, s6, s7⟩; go_simp; with_reducible rfl
           rotate_left
           · simp only [Act.put, q27s, q27z, q27n, i64_w, i32_w]; rfl
           refine take_ (i := 15) (N := some 29) (v := ?_) (a' := ?_) q27M16 rfl rfl (take_ofW HT_.out HW_.out (by kernel_rfl)) (fun _ _ _ => id) (Or.inl ⟨by rfl, ?_⟩) hHeld ?_ ?_; rotate_left
           ·
            rintro w' ⟨s0, s1, s2, s3, s4, s5, s6, s7⟩; go_simp; with_reducible rfl
           rotate_left
           · simp only [Act.put, q27s, q27z, q27n, i64_w, i32_w]; rfl
           refine pure_ (i := 16) (N := some 30) (v := ?_) (a' := ?_) q27M17 rfl rfl (any_of HT_.out (by kernel_rfl)) (fun _ _ _ => id) (Or.inl ⟨by rfl, ?_⟩) ?_ ?_; rotate_left; intro w'; go_simp; (with_reducible rfl); rotate_left; simp only [Act.put, q27s, q27z, q27n, i64_w, i32_w]; rfl; refine pure_ (i := 17) (N := some 31) (v := ?_) (a' := ?_) q27M18 rfl rfl (any_of HT_.out (by kernel_rfl)) (fun _ _ _ => id) (Or.inl ⟨by rfl, ?_⟩) ?_ ?_; rotate_left; intro w'; go_simp; (with_reducible rfl); rotate_left; simp only [Act.put, q27s, q27z, q27n, i64_w, i32_w]; rfl; refine pure_ (i := 18) (N := some 32) (v := ?_) (a' := ?_) q27M19 rfl rfl (any_of HT_.out (by kernel_rfl)) (fun _ _ _ => id) (Or.inl ⟨by rfl, ?_⟩) ?_ ?_; rotate_left; intro w'; go_simp; (with_reducible rfl); rotate_left; simp only [Act.put, q27s, q27z, q27n, i64_w, i32_w]; rfl; refine done_ (done_of HT_.out (by kernel_rfl)) ?_; (try go_wp2); go_ret; exact ⟨by first | rfl | (simp [errW_none, errW_some] <;> rfl) | (simp only [← hji9]; first | rfl | (simp [errW_none, errW_some] <;> rfl)) | (simp [*, errW_none, errW_some] <;> rfl), zH HB.out GE271.out⟩
          ·
           rw [if_neg c12] at H; have c12b0 : decide (((rd_T50 l0 x9_1).f0) < ((rd_T50 l0 (ji9)).f1)) = false := decide_eq_false c12; clear c12; have H' := az H; clear H; have p270 : 0 ≤ (x9_1 : Int) := of_decide_eq_true (by assumption); have q270 : x9_1 < (l0.length : Int) := of_decide_eq_true (by assumption); obtain ⟨ad270, e270, hx270_0, hx270_1, hx270_2, hx270_3⟩ := at_T50 HR0.out x9_1 p270 q270
           cases e270
           replace hx270_0 := (HB.out.cell (World.block_lt_of_cell? w _ hx270_0)).trans hx270_0; replace hx270_1 := (HB.out.cell (World.block_lt_of_cell? w _ hx270_1)).trans hx270_1; replace hx270_2 := (HB.out.cell (World.block_lt_of_cell? w _ hx270_2)).trans hx270_2; replace hx270_3 := (HB.out.cell (World.block_lt_of_cell? w _ hx270_3)).trans hx270_3; replace p270 := eq_true p270; replace q270 := eq_true q270; (try go_wp2_with (first | ((with_reducible refine gate_dst (N := 6) rfl ?_); (try (refine gate_guard (by rfl) ?_; dsimp only)); refine box_event ?hg (N := 6) ?hd (cs := #[.int .i64 0, .int .i64 0, .int .i64 0, .int .i64 0]) (t := 50) ?hr ?_; (case hd => rfl); (case hg => rfl); (case hr => first | (go_simp; done) | (go_simp; rfl)); intro gb271 hg w18 hbox hb; have n0_ := az (below_step (zA HB.out) hb); have n1_ := az (hbox); have n2_ := az ((by rw [hg]; exact (below_size (zA HB.out)) : w.heap.size ≤ gb271)); have n3_ := az ((by rw [hg]; exact (below_size (zA HB.out)) : w.heap.size ≤ gb271)); clear HB; have HB := n0_; have BK271 := n1_; have GW271 := n2_; have GE271 := n3_; clear n0_ n1_ n2_ n3_; clear hb hbox hg; have hcz19_0 : w18.cell? ⟨gb271, 0, none⟩ = some (.int .i64 0) := (blk_cell BK271.out 0).trans rfl; have hcz19_1 : w18.cell? ⟨gb271, 1, none⟩ = some (.int .i64 0) := (blk_cell BK271.out 1).trans rfl; have hcz19_2 : w18.cell? ⟨gb271, 2, none⟩ = some (.int .i64 0) := (blk_cell BK271.out 2).trans rfl; have hcz19_3 : w18.cell? ⟨gb271, 3, none⟩ = some (.int .i64 0) := (blk_cell BK271.out 3).trans rfl; have hfz19_0 := blk_frozen BK271.out 0; have hfz19_1 := blk_frozen BK271.out 1; have hfz19_2 := blk_frozen BK271.out 2; have hfz19_3 := blk_frozen BK271.out 3))); have n0_ : Aside0 (((((w18.setCell ⟨gb271, 0, none⟩ (.int .i64 ((rd_T50 l0 x9_1).f0))).setCell ⟨gb271, 1, none⟩ (.int .i64 ((rd_T50 l0 x9_1).f1))).setCell ⟨gb271, 2, none⟩ (.int .i64 ((rd_T50 l0 x9_1).f2))).setCell ⟨gb271, 3, none⟩ (.int .i64 ((rd_T50 l0 x9_1).f3))).heap[gb271]? = some (.cells #[.int .i64 ((rd_T50 l0 x9_1).f0), .int .i64 ((rd_T50 l0 x9_1).f1), .int .i64 ((rd_T50 l0 x9_1).f2), .int .i64 ((rd_T50 l0 x9_1).f3)] 50 (0, 0))) := ⟨by (with_reducible repeat (first | refine blk_drewN ?_ _ | refine blk_drew ?_ | refine blk_alloc ?_ _)); refine blk_put (cs := #[.int .i64 ((rd_T50 l0 x9_1).f0), .int .i64 ((rd_T50 l0 x9_1).f1), .int .i64 ((rd_T50 l0 x9_1).f2), .int .i64 0]) ?_ 3 _ rfl; (with_reducible repeat (first | refine blk_drewN ?_ _ | refine blk_drew ?_ | refine blk_alloc ?_ _)); refine blk_put (cs := #[.int .i64 ((rd_T50 l0 x9_1).f0), .int .i64 ((rd_T50 l0 x9_1).f1), .int .i64 0, .int .i64 0]) ?_ 2 _ rfl; (with_reducible repeat (first | refine blk_drewN ?_ _ | refine blk_drew ?_ | refine blk_alloc ?_ _)); refine blk_put (cs := #[.int .i64 ((rd_T50 l0 x9_1).f0), .int .i64 0, .int .i64 0, .int .i64 0]) ?_ 1 _ rfl; (with_reducible repeat (first | refine blk_drewN ?_ _ | refine blk_drew ?_ | refine blk_alloc ?_ _)); refine blk_put (cs := #[.int .i64 0, .int .i64 0, .int .i64 0, .int .i64 0]) ?_ 0 _ rfl; (with_reducible repeat (first | refine blk_drewN ?_ _ | refine blk_drew ?_ | refine blk_alloc ?_ _)); exact BK271.out⟩; have n1_ : Aside0 (Below w.heap.size w ((((w18.setCell ⟨gb271, 0, none⟩ (.int .i64 ((rd_T50 l0 x9_1).f0))).setCell ⟨gb271, 1, none⟩ (.int .i64 ((rd_T50 l0 x9_1).f1))).setCell ⟨gb271, 2, none⟩ (.int .i64 ((rd_T50 l0 x9_1).f2))).setCell ⟨gb271, 3, none⟩ (.int .i64 ((rd_T50 l0 x9_1).f3)))) := ⟨zH HB.out GE271.out⟩
           (try clear BK271); (try clear HB); generalize ((((w18.setCell ⟨gb271, 0, none⟩ (.int .i64 ((rd_T50 l0 x9_1).f0))).setCell ⟨gb271, 1, none⟩ (.int .i64 ((rd_T50 l0 x9_1).f1))).setCell ⟨gb271, 2, none⟩ (.int .i64 ((rd_T50 l0 x9_1).f2))).setCell ⟨gb271, 3, none⟩ (.int .i64 ((rd_T50 l0 x9_1).f3))) = w20 at n0_ n1_ ⊢; have BK271 := n0_; have HB := n1_; clear n0_ n1_; have n0_ := az (blk_drew BK271.out); have n1_ := az (below_drew1 HB.out); clear BK271; clear HB; have BK271 := n0_; have HB := n1_; clear n0_ n1_; have p273 : 0 ≤ ((ji9) : Int) := of_decide_eq_true (by assumption); have q273 : (ji9) < (l0.length : Int) := of_decide_eq_true (by assumption); obtain ⟨ad273, e273, hx273_0, hx273_1, hx273_2, hx273_3⟩ := at_T50 HR0.out (ji9) p273 q273; have hw273_3 := hx273_3; have hw273_2 := hx273_2; have hw273_1 := hx273_1; have hw273_0 := hx273_0; obtain rfl : ad270 = ad273 := (by injection e273); replace hx273_0 := (HB.out.cell (World.block_lt_of_cell? w _ hx273_0)).trans hx273_0; replace hx273_1 := (HB.out.cell (World.block_lt_of_cell? w _ hx273_1)).trans hx273_1; replace hx273_2 := (HB.out.cell (World.block_lt_of_cell? w _ hx273_2)).trans hx273_2; replace hx273_3 := (HB.out.cell (World.block_lt_of_cell? w _ hx273_3)).trans hx273_3; replace p273 := eq_true p273; replace q273 := eq_true q273; refine start_ (n := 19) (S := fun w' => w'.cell? ⟨gb271, 0, none⟩ = some (.int .i64 ((rd_T50 l0 x9_1).f0)) ∧ w'.cell? ⟨gb271, 1, none⟩ = some (.int .i64 ((rd_T50 l0 x9_1).f1)) ∧ w'.cell? ⟨gb271, 2, none⟩ = some (.int .i64 ((rd_T50 l0 x9_1).f2)) ∧ w'.cell? ⟨gb271, 3, none⟩ = some (.int .i64 ((rd_T50 l0 x9_1).f3)) ∧ w'.cell? (ad270.add (((ji9)).toNat * 4)) = some (.int .i64 ((rd_T50 l0 (ji9)).f0)) ∧ w'.cell? ⟨(ad270.add (((ji9)).toNat * 4)).block, (ad270.add (((ji9)).toNat * 4)).off + 1, none⟩ = some (.int .i64 ((rd_T50 l0 (ji9)).f1)) ∧ w'.cell? ⟨(ad270.add (((ji9)).toNat * 4)).block, (ad270.add (((ji9)).toNat * 4)).off + 2, none⟩ = some (.int .i64 ((rd_T50 l0 (ji9)).f2)) ∧ w'.cell? ⟨(ad270.add (((ji9)).toNat * 4)).block, (ad270.add (((ji9)).toNat * 4)).off + 3, none⟩ = some (.int .i64 ((rd_T50 l0 (ji9)).f3))) (ds := []) q27M0 (by kernel_rfl) rfl rfl ⟨(blk_cell BK271.out 0).trans rfl, (blk_cell BK271.out 1).trans rfl, (blk_cell BK271.out 2).trans rfl, (blk_cell BK271.out 3).trans rfl, ((HB.out.cell (World.block_lt_of_cell? w _ hw273_0)).trans hw273_0), ((HB.out.cell (World.block_lt_of_cell? w _ hw273_1)).trans hw273_1), ((HB.out.cell (World.block_lt_of_cell? w _ hw273_2)).trans hw273_2), ((HB.out.cell (World.block_lt_of_cell? w _ hw273_3)).trans hw273_3)⟩ (fun hHeld => ?_); refine with_tabW impl_SpansOk.tab4 impl_SpansOk.bits4 (fun HT_ HW_ => ?_); generalize w20.drew = w21 at BK271 HB hx273_0 hx273_1 hx273_2 hx273_3 hHeld ⊢; refine pure_ (i := 1) (N := some 15) (v := ?_) (a' := ?_) q27M1 rfl rfl (any_of HT_.out (by kernel_rfl)) (fun _ _ _ => id) (Or.inl ⟨by rfl, ?_⟩) ?_ ?_; rotate_left; intro w'; go_simp; (with_reducible rfl); rotate_left; simp only [Act.put, q27s, q27z, q27n, i64_w, i32_w]; rfl; refine take_ (i := 0) (N := some 14) (v := ?_) (a' := ?_) q27M2 rfl rfl (take_ofW HT_.out HW_.out (by kernel_rfl)) (fun _ _ _ => id) (Or.inl ⟨by rfl, ?_⟩) hHeld ?_ ?_; rotate_left
           ·
            rintro w' ⟨s0, s1, s2, s3, s4, s5, s6, s7⟩; go_simp; with_reducible rfl
           rotate_left
           · simp only [Act.put, q27s, q27z, q27n, i64_w, i32_w]; rfl
           refine one_ (i := 2) (N := some 16) q27M3 rfl rfl (one_of HT_.out (by kernel_rfl)) (by decide) (fun K hK => ?_); refine goes_ Tryz.func84 (by kernel_rfl) rfl #[.agg #[.int .i64 ((rd_T50 l0 x9_1).f0), .int .i64 ((rd_T50 l0 x9_1).f1), .int .i64 ((rd_T50 l0 x9_1).f2), .int .i64 ((rd_T50 l0 x9_1).f3)], .int .i64 a1] (by rfl) rfl rfl zD ?_; with_reducible refine (impl_spanOk.calls ((rd_T50 l0 x9_1).f0) ((rd_T50 l0 x9_1).f1) ((rd_T50 l0 x9_1).f2) ((rd_T50 l0 x9_1).f3) a1 true _ A6.out).mono ?_
           rintro e w22 ⟨rfl, hb⟩; refine ⟨_, rfl, ?_⟩; have n0_ := az (blk_below (g := gb271) (o := .cells #[.int .i64 ((rd_T50 l0 x9_1).f0), .int .i64 ((rd_T50 l0 x9_1).f1), .int .i64 ((rd_T50 l0 x9_1).f2), .int .i64 ((rd_T50 l0 x9_1).f3)] 50 (0, 0)) (zJ BK271.out) hb); have n1_ := az (below_step (zH HB.out GE271.out) hb); clear BK271; clear HB; have BK271 := n0_; have HB := n1_; clear n0_ n1_; (try clear hb); (try clear hb2); (try clear hk); (try clear hi); refine hK.out _ _ ⟨(blk_cell BK271.out 0).trans rfl, (blk_cell BK271.out 1).trans rfl, (blk_cell BK271.out 2).trans rfl, (blk_cell BK271.out 3).trans rfl, ((HB.out.cell (World.block_lt_of_cell? w _ hw273_0)).trans hw273_0), ((HB.out.cell (World.block_lt_of_cell? w _ hw273_1)).trans hw273_1), ((HB.out.cell (World.block_lt_of_cell? w _ hw273_2)).trans hw273_2), ((HB.out.cell (World.block_lt_of_cell? w _ hw273_3)).trans hw273_3)⟩ (fun hHeld => ?_); clear hK K; refine norm_ (a' := ?_) ?_ ?_; rotate_left
           ·
            show Act.put _ (some 16) _ = _; simp only [Act.put, q27s, q27z, q27n, i64_w, i32_w]; rfl
           refine pure_ (i := 3) (N := some 17) (v := ?_) (a' := ?_) q27M4 rfl rfl (any_of HT_.out (by kernel_rfl)) (fun _ _ _ => id) (Or.inl ⟨by rfl, ?_⟩) ?_ ?_; rotate_left; intro w'; go_simp; (with_reducible rfl); rotate_left; simp only [Act.put, q27s, q27z, q27n, i64_w, i32_w]; rfl; refine pure_ (i := 4) (N := some 18) (v := ?_) (a' := ?_) q27M5 rfl rfl (any_of HT_.out (by kernel_rfl)) (fun _ _ _ => id) (Or.inl ⟨by rfl, ?_⟩) ?_ ?_; rotate_left; intro w'; go_simp; (with_reducible rfl); rotate_left; simp only [Act.put, q27s, q27z, q27n, i64_w, i32_w]; rfl; refine pure_ (i := 5) (N := some 19) (v := ?_) (a' := ?_) q27M6 rfl rfl (any_of HT_.out (by kernel_rfl)) (fun _ _ _ => id) (Or.inl ⟨by rfl, ?_⟩) ?_ ?_; rotate_left; intro w'; go_simp; (with_reducible rfl); rotate_left; simp only [Act.put, q27s, q27z, q27n, i64_w, i32_w]; rfl; refine pure_ (i := 6) (N := some 20) (v := ?_) (a' := ?_) q27M7 rfl rfl (any_of HT_.out (by kernel_rfl)) (fun _ _ _ => id) (Or.inl ⟨by rfl, ?_⟩) ?_ ?_; rotate_left; intro w'; go_simp; (with_reducible rfl); rotate_left; simp only [Act.put, q27s, q27z, q27n, i64_w, i32_w]; rfl; refine pure_ (i := 7) (N := some 21) (v := ?_) (a' := ?_) q27M8 rfl rfl (any_of HT_.out (by kernel_rfl)) (fun _ _ _ => id) (Or.inl ⟨by rfl, ?_⟩) ?_ ?_; rotate_left; intro w'; go_simp; (with_reducible rfl); rotate_left; simp only [Act.put, q27s, q27z, q27n, i64_w, i32_w]; rfl; refine pure_ (i := 8) (N := some 22) (v := ?_) (a' := ?_) q27M9 rfl rfl (any_of HT_.out (by kernel_rfl)) (fun _ _ _ => id) (Or.inl ⟨by rfl, ?_⟩) ?_ ?_; rotate_left; intro w'; go_simp; (with_reducible rfl); rotate_left; simp only [Act.put, q27s, q27z, q27n, i64_w, i32_w]; rfl; refine pure_ (i := 9) (N := some 23) (v := ?_) (a' := ?_) q27M10 rfl rfl (any_of HT_.out (by kernel_rfl)) (fun _ _ _ => id) (Or.inl ⟨by rfl, ?_⟩) ?_ ?_; rotate_left; intro w'; go_simp; (with_reducible rfl); rotate_left; simp only [Act.put, q27s, q27z, q27n, i64_w, i32_w]; rfl; refine pure_ (i := 10) (N := some 24) (v := ?_) (a' := ?_) q27M11 rfl rfl (any_of HT_.out (by kernel_rfl)) (fun _ _ _ => id) (Or.inl ⟨by rfl, ?_⟩) ?_ ?_; rotate_left; intro w'; go_simp; (with_reducible rfl); rotate_left; simp only [Act.put, q27s, q27z, q27n, i64_w, i32_w]; rfl; refine pure_ (i := 11) (N := some 25) (v := ?_) (a' := ?_) q27M12 rfl rfl (any_of HT_.out (by kernel_rfl)) (fun _ _ _ => id) (Or.inl ⟨by rfl, ?_⟩) ?_ ?_; rotate_left; intro w'; go_simp; (with_reducible rfl); rotate_left; simp only [Act.put, q27s, q27z, q27n, i64_w, i32_w]; rfl; refine pure_ (i := 12) (N := some 26) (v := ?_) (a' := ?_) q27M13 rfl rfl (any_of HT_.out (by kernel_rfl)) (fun _ _ _ => id) (Or.inl ⟨by rfl, ?_⟩) ?_ ?_; rotate_left; intro w'; go_simp; (with_reducible rfl); rotate_left; simp only [Act.put, q27s, q27z, q27n, i64_w, i32_w]; rfl; refine pure_ (i := 14) (N := some 28) (v := ?_) (a' := ?_) q27M14 rfl rfl (any_of HT_.out (by kernel_rfl)) (fun _ _ _ => id) (Or.inl ⟨by rfl, ?_⟩) ?_ ?_; rotate_left; intro w'; go_simp; (with_reducible rfl); rotate_left; simp only [Act.put, q27s, q27z, q27n, i64_w, i32_w]; rfl; refine take_ (i := 13) (N := some 27) (v := ?_) (a' := ?_) q27M15 rfl rfl (take_ofW HT_.out HW_.out (by kernel_rfl)) (fun _ _ _ => id) (Or.inl ⟨by rfl, ?_⟩) hHeld ?_ ?_; rotate_left
           ·
            rintro w' ⟨s0, s1, s2, s3, s4, s5, s6, s7⟩; go_simp; with_reducible rfl
           rotate_left
           · simp only [Act.put, q27s, q27z, q27n, i64_w, i32_w]; rfl
           refine take_ (i := 15) (N := some 29) (v := ?_) (a' := ?_) q27M16 rfl rfl (take_ofW HT_.out HW_.out (by kernel_rfl)) (fun _ _ _ => id) (Or.inl ⟨by rfl, ?_⟩) hHeld ?_ ?_; rotate_left
           ·
            rintro w' ⟨s0, s1, s2, s3, s4, s5, s6, s7⟩; go_simp; with_reducible rfl
           rotate_left
           · simp only [Act.put, q27s, q27z, q27n, i64_w, i32_w]; rfl
           refine pure_ (i := 16) (N := some 30) (v := ?_) (a' := ?_) q27M17 rfl rfl (any_of HT_.out (by kernel_rfl)) (fun _ _ _ => id) (Or.inl ⟨by rfl, ?_⟩) ?_ ?_; rotate_left; intro w'; go_simp; (with_reducible rfl); rotate_left; simp only [Act.put, q27s, q27z, q27n, i64_w, i32_w]; rfl; refine pure_ (i := 17) (N := some 31) (v := ?_) (a' := ?_) q27M18 rfl rfl (any_of HT_.out (by kernel_rfl)) (fun _ _ _ => id) (Or.inl ⟨by rfl, ?_⟩) ?_ ?_; rotate_left; intro w'; go_simp; (with_reducible rfl); rotate_left; simp only [Act.put, q27s, q27z, q27n, i64_w, i32_w]; rfl; refine pure_ (i := 18) (N := some 32) (v := ?_) (a' := ?_) q27M19 rfl rfl (any_of HT_.out (by kernel_rfl)) (fun _ _ _ => id) (Or.inl ⟨by rfl, ?_⟩) ?_ ?_; rotate_left; intro w'; go_simp; (with_reducible rfl); rotate_left; simp only [Act.put, q27s, q27z, q27n, i64_w, i32_w]; rfl; refine done_ (done_of HT_.out (by kernel_rfl)) ?_; (try go_wp2); go_roundg k1
           case measure => have := HK1.out; omega
           case rel => exact ⟨(wrap64 (x9_1 + 1)), zB, H', ⟨zG HK1.out⟩, ⟨zH HB.out GE271.out⟩⟩
         ·
          rw [if_neg c11] at H; exact absurd H (by simp)
        ·
         rw [if_neg c10] at H; exact absurd H (by simp)
       ·
        rw [if_neg c8] at H; have c8b0 : decide (0 < x9_1) = false := decide_eq_false c8; clear c8; have H' := az H; clear H; have p270 : 0 ≤ (x9_1 : Int) := of_decide_eq_true (by assumption); have q270 : x9_1 < (l0.length : Int) := of_decide_eq_true (by assumption); obtain ⟨ad270, e270, hx270_0, hx270_1, hx270_2, hx270_3⟩ := at_T50 HR0.out x9_1 p270 q270
        cases e270
        replace hx270_0 := (HB.out.cell (World.block_lt_of_cell? w _ hx270_0)).trans hx270_0; replace hx270_1 := (HB.out.cell (World.block_lt_of_cell? w _ hx270_1)).trans hx270_1; replace hx270_2 := (HB.out.cell (World.block_lt_of_cell? w _ hx270_2)).trans hx270_2; replace hx270_3 := (HB.out.cell (World.block_lt_of_cell? w _ hx270_3)).trans hx270_3; replace p270 := eq_true p270; replace q270 := eq_true q270; (try go_wp2_with (first | ((with_reducible refine gate_dst (N := 6) rfl ?_); (try (refine gate_guard (by rfl) ?_; dsimp only)); refine box_event ?hg (N := 6) ?hd (cs := #[.int .i64 0, .int .i64 0, .int .i64 0, .int .i64 0]) (t := 50) ?hr ?_; (case hd => rfl); (case hg => rfl); (case hr => first | (go_simp; done) | (go_simp; rfl)); intro gb271 hg w23 hbox hb; have n0_ := az (below_step (zA HB.out) hb); have n1_ := az (hbox); have n2_ := az ((by rw [hg]; exact (below_size (zA HB.out)) : w.heap.size ≤ gb271)); have n3_ := az ((by rw [hg]; exact (below_size (zA HB.out)) : w.heap.size ≤ gb271)); clear HB; have HB := n0_; have BK271 := n1_; have GW271 := n2_; have GE271 := n3_; clear n0_ n1_ n2_ n3_; clear hb hbox hg; have hcz24_0 : w23.cell? ⟨gb271, 0, none⟩ = some (.int .i64 0) := (blk_cell BK271.out 0).trans rfl; have hcz24_1 : w23.cell? ⟨gb271, 1, none⟩ = some (.int .i64 0) := (blk_cell BK271.out 1).trans rfl; have hcz24_2 : w23.cell? ⟨gb271, 2, none⟩ = some (.int .i64 0) := (blk_cell BK271.out 2).trans rfl; have hcz24_3 : w23.cell? ⟨gb271, 3, none⟩ = some (.int .i64 0) := (blk_cell BK271.out 3).trans rfl; have hfz24_0 := blk_frozen BK271.out 0; have hfz24_1 := blk_frozen BK271.out 1; have hfz24_2 := blk_frozen BK271.out 2; have hfz24_3 := blk_frozen BK271.out 3))); have n0_ : Aside0 (((((w23.setCell ⟨gb271, 0, none⟩ (.int .i64 ((rd_T50 l0 x9_1).f0))).setCell ⟨gb271, 1, none⟩ (.int .i64 ((rd_T50 l0 x9_1).f1))).setCell ⟨gb271, 2, none⟩ (.int .i64 ((rd_T50 l0 x9_1).f2))).setCell ⟨gb271, 3, none⟩ (.int .i64 ((rd_T50 l0 x9_1).f3))).heap[gb271]? = some (.cells #[.int .i64 ((rd_T50 l0 x9_1).f0), .int .i64 ((rd_T50 l0 x9_1).f1), .int .i64 ((rd_T50 l0 x9_1).f2), .int .i64 ((rd_T50 l0 x9_1).f3)] 50 (0, 0))) := ⟨by (with_reducible repeat (first | refine blk_drewN ?_ _ | refine blk_drew ?_ | refine blk_alloc ?_ _)); refine blk_put (cs := #[.int .i64 ((rd_T50 l0 x9_1).f0), .int .i64 ((rd_T50 l0 x9_1).f1), .int .i64 ((rd_T50 l0 x9_1).f2), .int .i64 0]) ?_ 3 _ rfl; (with_reducible repeat (first | refine blk_drewN ?_ _ | refine blk_drew ?_ | refine blk_alloc ?_ _)); refine blk_put (cs := #[.int .i64 ((rd_T50 l0 x9_1).f0), .int .i64 ((rd_T50 l0 x9_1).f1), .int .i64 0, .int .i64 0]) ?_ 2 _ rfl; (with_reducible repeat (first | refine blk_drewN ?_ _ | refine blk_drew ?_ | refine blk_alloc ?_ _)); refine blk_put (cs := #[.int .i64 ((rd_T50 l0 x9_1).f0), .int .i64 0, .int .i64 0, .int .i64 0]) ?_ 1 _ rfl; (with_reducible repeat (first | refine blk_drewN ?_ _ | refine blk_drew ?_ | refine blk_alloc ?_ _)); refine blk_put (cs := #[.int .i64 0, .int .i64 0, .int .i64 0, .int .i64 0]) ?_ 0 _ rfl; (with_reducible repeat (first | refine blk_drewN ?_ _ | refine blk_drew ?_ | refine blk_alloc ?_ _)); exact BK271.out⟩; have n1_ : Aside0 (Below w.heap.size w ((((w23.setCell ⟨gb271, 0, none⟩ (.int .i64 ((rd_T50 l0 x9_1).f0))).setCell ⟨gb271, 1, none⟩ (.int .i64 ((rd_T50 l0 x9_1).f1))).setCell ⟨gb271, 2, none⟩ (.int .i64 ((rd_T50 l0 x9_1).f2))).setCell ⟨gb271, 3, none⟩ (.int .i64 ((rd_T50 l0 x9_1).f3)))) := ⟨zH HB.out GE271.out⟩
        (try clear BK271); (try clear HB); generalize ((((w23.setCell ⟨gb271, 0, none⟩ (.int .i64 ((rd_T50 l0 x9_1).f0))).setCell ⟨gb271, 1, none⟩ (.int .i64 ((rd_T50 l0 x9_1).f1))).setCell ⟨gb271, 2, none⟩ (.int .i64 ((rd_T50 l0 x9_1).f2))).setCell ⟨gb271, 3, none⟩ (.int .i64 ((rd_T50 l0 x9_1).f3))) = w25 at n0_ n1_ ⊢; have BK271 := n0_; have HB := n1_; clear n0_ n1_; have n0_ := az (blk_drew BK271.out); have n1_ := az (below_drew1 HB.out); clear BK271; clear HB; have BK271 := n0_; have HB := n1_; clear n0_ n1_; refine start_ (n := 19) (S := fun w' => w'.cell? ⟨gb271, 0, none⟩ = some (.int .i64 ((rd_T50 l0 x9_1).f0)) ∧ w'.cell? ⟨gb271, 1, none⟩ = some (.int .i64 ((rd_T50 l0 x9_1).f1)) ∧ w'.cell? ⟨gb271, 2, none⟩ = some (.int .i64 ((rd_T50 l0 x9_1).f2)) ∧ w'.cell? ⟨gb271, 3, none⟩ = some (.int .i64 ((rd_T50 l0 x9_1).f3))) (ds := []) q27M0 (by kernel_rfl) rfl rfl ⟨(blk_cell BK271.out 0).trans rfl, (blk_cell BK271.out 1).trans rfl, (blk_cell BK271.out 2).trans rfl, (blk_cell BK271.out 3).trans rfl⟩ (fun hHeld => ?_); refine with_tabW impl_SpansOk.tab4 impl_SpansOk.bits4 (fun HT_ HW_ => ?_); generalize w25.drew = w26 at BK271 HB hHeld ⊢; refine pure_ (i := 1) (N := some 15) (v := ?_) (a' := ?_) q27M1 rfl rfl (any_of HT_.out (by kernel_rfl)) (fun _ _ _ => id) (Or.inl ⟨by rfl, ?_⟩) ?_ ?_; rotate_left; intro w'; go_simp; (with_reducible rfl); rotate_left; simp only [Act.put, q27s, q27z, q27n, i64_w, i32_w]; rfl; refine take_ (i := 0) (N := some 14) (v := ?_) (a' := ?_) q27M2 rfl rfl (take_ofW HT_.out HW_.out (by kernel_rfl)) (fun _ _ _ => id) (Or.inl ⟨by rfl, ?_⟩) hHeld ?_ ?_; rotate_left
        ·
         rintro w' ⟨s0, s1, s2, s3⟩; go_simp; with_reducible rfl
        rotate_left
        · simp only [Act.put, q27s, q27z, q27n, i64_w, i32_w]; rfl
        refine one_ (i := 2) (N := some 16) q27M3 rfl rfl (one_of HT_.out (by kernel_rfl)) (by decide) (fun K hK => ?_); refine goes_ Tryz.func84 (by kernel_rfl) rfl #[.agg #[.int .i64 ((rd_T50 l0 x9_1).f0), .int .i64 ((rd_T50 l0 x9_1).f1), .int .i64 ((rd_T50 l0 x9_1).f2), .int .i64 ((rd_T50 l0 x9_1).f3)], .int .i64 a1] (by rfl) rfl rfl zD ?_; with_reducible refine (impl_spanOk.calls ((rd_T50 l0 x9_1).f0) ((rd_T50 l0 x9_1).f1) ((rd_T50 l0 x9_1).f2) ((rd_T50 l0 x9_1).f3) a1 true _ A6.out).mono ?_
        rintro e w27 ⟨rfl, hb⟩; refine ⟨_, rfl, ?_⟩; have n0_ := az (blk_below (g := gb271) (o := .cells #[.int .i64 ((rd_T50 l0 x9_1).f0), .int .i64 ((rd_T50 l0 x9_1).f1), .int .i64 ((rd_T50 l0 x9_1).f2), .int .i64 ((rd_T50 l0 x9_1).f3)] 50 (0, 0)) (zJ BK271.out) hb); have n1_ := az (below_step (zH HB.out GE271.out) hb); clear BK271; clear HB; have BK271 := n0_; have HB := n1_; clear n0_ n1_; (try clear hb); (try clear hb2); (try clear hk); (try clear hi); refine hK.out _ _ ⟨(blk_cell BK271.out 0).trans rfl, (blk_cell BK271.out 1).trans rfl, (blk_cell BK271.out 2).trans rfl, (blk_cell BK271.out 3).trans rfl⟩ (fun hHeld => ?_); clear hK K; refine norm_ (a' := ?_) ?_ ?_; rotate_left
        ·
         show Act.put _ (some 16) _ = _; simp only [Act.put, q27s, q27z, q27n, i64_w, i32_w]; rfl
        refine pure_ (i := 3) (N := some 17) (v := ?_) (a' := ?_) q27M4 rfl rfl (any_of HT_.out (by kernel_rfl)) (fun _ _ _ => id) (Or.inl ⟨by rfl, ?_⟩) ?_ ?_; rotate_left; intro w'; go_simp; (with_reducible rfl); rotate_left; simp only [Act.put, q27s, q27z, q27n, i64_w, i32_w]; rfl; refine pure_ (i := 4) (N := some 18) (v := ?_) (a' := ?_) q27M5 rfl rfl (any_of HT_.out (by kernel_rfl)) (fun _ _ _ => id) (Or.inl ⟨by rfl, ?_⟩) ?_ ?_; rotate_left; intro w'; go_simp; (with_reducible rfl); rotate_left; simp only [Act.put, q27s, q27z, q27n, i64_w, i32_w]; rfl; refine pure_ (i := 5) (N := some 19) (v := ?_) (a' := ?_) q27M6 rfl rfl (any_of HT_.out (by kernel_rfl)) (fun _ _ _ => id) (Or.inl ⟨by rfl, ?_⟩) ?_ ?_; rotate_left; intro w'; go_simp; (with_reducible rfl); rotate_left; simp only [Act.put, q27s, q27z, q27n, i64_w, i32_w]; rfl; refine pure_ (i := 6) (N := some 20) (v := ?_) (a' := ?_) q27M7 rfl rfl (any_of HT_.out (by kernel_rfl)) (fun _ _ _ => id) (Or.inl ⟨by rfl, ?_⟩) ?_ ?_; rotate_left; intro w'; go_simp; (with_reducible rfl); rotate_left; simp only [Act.put, q27s, q27z, q27n, i64_w, i32_w]; rfl; refine pure_ (i := 7) (N := some 21) (v := ?_) (a' := ?_) q27M8 rfl rfl (any_of HT_.out (by kernel_rfl)) (fun _ _ _ => id) (Or.inl ⟨by rfl, ?_⟩) ?_ ?_; rotate_left; intro w'; go_simp; (with_reducible rfl); rotate_left; simp only [Act.put, q27s, q27z, q27n, i64_w, i32_w]; rfl; refine pure_ (i := 8) (N := some 22) (v := undef) (a' := ?_) q27M9 rfl rfl (any_of HT_.out (by kernel_rfl)) (fun _ _ _ => id) (Or.inr ⟨by rfl, rfl⟩) ?_ ?_; rotate_left
        · simp only [Act.put, q27s, q27z, q27n, i64_w, i32_w]; rfl
        refine pure_ (i := 9) (N := some 23) (v := undef) (a' := ?_) q27M10 rfl rfl (any_of HT_.out (by kernel_rfl)) (fun _ _ _ => id) (Or.inr ⟨by rfl, rfl⟩) ?_ ?_; rotate_left
        · simp only [Act.put, q27s, q27z, q27n, i64_w, i32_w]; rfl
        refine pure_ (i := 10) (N := some 24) (v := undef) (a' := ?_) q27M11 rfl rfl (any_of HT_.out (by kernel_rfl)) (fun _ _ _ => id) (Or.inr ⟨by rfl, rfl⟩) ?_ ?_; rotate_left
        · simp only [Act.put, q27s, q27z, q27n, i64_w, i32_w]; rfl
        refine pure_ (i := 11) (N := some 25) (v := undef) (a' := ?_) q27M12 rfl rfl (any_of HT_.out (by kernel_rfl)) (fun _ _ _ => id) (Or.inr ⟨by rfl, rfl⟩) ?_ ?_; rotate_left
        · simp only [Act.put, q27s, q27z, q27n, i64_w, i32_w]; rfl
        refine pure_ (i := 12) (N := some 26) (v := undef) (a' := ?_) q27M13 rfl rfl (any_of HT_.out (by kernel_rfl)) (fun _ _ _ => id) (Or.inr ⟨by rfl, rfl⟩) ?_ ?_; rotate_left
        · simp only [Act.put, q27s, q27z, q27n, i64_w, i32_w]; rfl
        refine pure_ (i := 13) (N := some 27) (v := undef) (a' := ?_) q27M20 rfl rfl (any_of HT_.out (by kernel_rfl)) (fun _ _ _ => id) (Or.inr ⟨by rfl, rfl⟩) ?_ ?_; rotate_left
        · simp only [Act.put, q27s, q27z, q27n, i64_w, i32_w]; rfl
        refine pure_ (i := 14) (N := some 28) (v := undef) (a' := ?_) q27M15 rfl rfl (any_of HT_.out (by kernel_rfl)) (fun _ _ _ => id) (Or.inr ⟨by rfl, rfl⟩) ?_ ?_; rotate_left
        · simp only [Act.put, q27s, q27z, q27n, i64_w, i32_w]; rfl
        refine pure_ (i := 15) (N := some 29) (v := undef) (a' := ?_) q27M16 rfl rfl (any_of HT_.out (by kernel_rfl)) (fun _ _ _ => id) (Or.inr ⟨by rfl, rfl⟩) ?_ ?_; rotate_left
        · simp only [Act.put, q27s, q27z, q27n, i64_w, i32_w]; rfl
        refine pure_ (i := 16) (N := some 30) (v := undef) (a' := ?_) q27M17 rfl rfl (any_of HT_.out (by kernel_rfl)) (fun _ _ _ => id) (Or.inr ⟨by rfl, rfl⟩) ?_ ?_; rotate_left
        · simp only [Act.put, q27s, q27z, q27n, i64_w, i32_w]; rfl
        refine pure_ (i := 17) (N := some 31) (v := ?_) (a' := ?_) q27M18 rfl rfl (any_of HT_.out (by kernel_rfl)) (fun _ _ _ => id) (Or.inl ⟨by rfl, ?_⟩) ?_ ?_; rotate_left; intro w'; go_simp; (with_reducible rfl); rotate_left; simp only [Act.put, q27s, q27z, q27n, i64_w, i32_w]; rfl; refine pure_ (i := 18) (N := some 32) (v := ?_) (a' := ?_) q27M19 rfl rfl (any_of HT_.out (by kernel_rfl)) (fun _ _ _ => id) (Or.inl ⟨by rfl, ?_⟩) ?_ ?_; rotate_left; intro w'; go_simp; (with_reducible rfl); rotate_left; simp only [Act.put, q27s, q27z, q27n, i64_w, i32_w]; rfl; refine done_ (done_of HT_.out (by kernel_rfl)) ?_; (try go_wp2); go_roundg k1
        case measure => have := HK1.out; omega
        case rel => exact ⟨(wrap64 (x9_1 + 1)), zB, H', ⟨zG HK1.out⟩, ⟨zH HB.out GE271.out⟩⟩
      ·
       replace c7 := Bool.eq_false_iff.mpr c7; subst c7; have H1 : (some false) = some r := by rw [if_neg (show ¬ (false = true) by decide)] at H; exact H
       clear H; have H := H1; clear H1; obtain rfl := Option.some.inj H; have p270 : 0 ≤ (x9_1 : Int) := of_decide_eq_true (by assumption); have q270 : x9_1 < (l0.length : Int) := of_decide_eq_true (by assumption); obtain ⟨ad270, e270, hx270_0, hx270_1, hx270_2, hx270_3⟩ := at_T50 HR0.out x9_1 p270 q270
       cases e270
       replace hx270_0 := (HB.out.cell (World.block_lt_of_cell? w _ hx270_0)).trans hx270_0; replace hx270_1 := (HB.out.cell (World.block_lt_of_cell? w _ hx270_1)).trans hx270_1; replace hx270_2 := (HB.out.cell (World.block_lt_of_cell? w _ hx270_2)).trans hx270_2; replace hx270_3 := (HB.out.cell (World.block_lt_of_cell? w _ hx270_3)).trans hx270_3; replace p270 := eq_true p270; replace q270 := eq_true q270; (try go_wp2_with (first | ((with_reducible refine gate_dst (N := 6) rfl ?_); (try (refine gate_guard (by rfl) ?_; dsimp only)); refine box_event ?hg (N := 6) ?hd (cs := #[.int .i64 0, .int .i64 0, .int .i64 0, .int .i64 0]) (t := 50) ?hr ?_; (case hd => rfl); (case hg => rfl); (case hr => first | (go_simp; done) | (go_simp; rfl)); intro gb271 hg w28 hbox hb; have n0_ := az (below_step (zA HB.out) hb); have n1_ := az (hbox); have n2_ := az ((by rw [hg]; exact (below_size (zA HB.out)) : w.heap.size ≤ gb271)); have n3_ := az ((by rw [hg]; exact (below_size (zA HB.out)) : w.heap.size ≤ gb271)); clear HB; have HB := n0_; have BK271 := n1_; have GW271 := n2_; have GE271 := n3_; clear n0_ n1_ n2_ n3_; clear hb hbox hg; have hcz29_0 : w28.cell? ⟨gb271, 0, none⟩ = some (.int .i64 0) := (blk_cell BK271.out 0).trans rfl; have hcz29_1 : w28.cell? ⟨gb271, 1, none⟩ = some (.int .i64 0) := (blk_cell BK271.out 1).trans rfl; have hcz29_2 : w28.cell? ⟨gb271, 2, none⟩ = some (.int .i64 0) := (blk_cell BK271.out 2).trans rfl; have hcz29_3 : w28.cell? ⟨gb271, 3, none⟩ = some (.int .i64 0) := (blk_cell BK271.out 3).trans rfl; have hfz29_0 := blk_frozen BK271.out 0; have hfz29_1 := blk_frozen BK271.out 1; have hfz29_2 := blk_frozen BK271.out 2; have hfz29_3 := blk_frozen BK271.out 3))); have n0_ : Aside0 (((((w28.setCell ⟨gb271, 0, none⟩ (.int .i64 ((rd_T50 l0 x9_1).f0))).setCell ⟨gb271, 1, none⟩ (.int .i64 ((rd_T50 l0 x9_1).f1))).setCell ⟨gb271, 2, none⟩ (.int .i64 ((rd_T50 l0 x9_1).f2))).setCell ⟨gb271, 3, none⟩ (.int .i64 ((rd_T50 l0 x9_1).f3))).heap[gb271]? = some (.cells #[.int .i64 ((rd_T50 l0 x9_1).f0), .int .i64 ((rd_T50 l0 x9_1).f1), .int .i64 ((rd_T50 l0 x9_1).f2), .int .i64 ((rd_T50 l0 x9_1).f3)] 50 (0, 0))) := ⟨by (with_reducible repeat (first | refine blk_drewN ?_ _ | refine blk_drew ?_ | refine blk_alloc ?_ _)); refine blk_put (cs := #[.int .i64 ((rd_T50 l0 x9_1).f0), .int .i64 ((rd_T50 l0 x9_1).f1), .int .i64 ((rd_T50 l0 x9_1).f2), .int .i64 0]) ?_ 3 _ rfl; (with_reducible repeat (first | refine blk_drewN ?_ _ | refine blk_drew ?_ | refine blk_alloc ?_ _)); refine blk_put (cs := #[.int .i64 ((rd_T50 l0 x9_1).f0), .int .i64 ((rd_T50 l0 x9_1).f1), .int .i64 0, .int .i64 0]) ?_ 2 _ rfl; (with_reducible repeat (first | refine blk_drewN ?_ _ | refine blk_drew ?_ | refine blk_alloc ?_ _)); refine blk_put (cs := #[.int .i64 ((rd_T50 l0 x9_1).f0), .int .i64 0, .int .i64 0, .int .i64 0]) ?_ 1 _ rfl; (with_reducible repeat (first | refine blk_drewN ?_ _ | refine blk_drew ?_ | refine blk_alloc ?_ _)); refine blk_put (cs := #[.int .i64 0, .int .i64 0, .int .i64 0, .int .i64 0]) ?_ 0 _ rfl; (with_reducible repeat (first | refine blk_drewN ?_ _ | refine blk_drew ?_ | refine blk_alloc ?_ _)); exact BK271.out⟩; have n1_ : Aside0 (Below w.heap.size w ((((w28.setCell ⟨gb271, 0, none⟩ (.int .i64 ((rd_T50 l0 x9_1).f0))).setCell ⟨gb271, 1, none⟩ (.int .i64 ((rd_T50 l0 x9_1).f1))).setCell ⟨gb271, 2, none⟩ (.int .i64 ((rd_T50 l0 x9_1).f2))).setCell ⟨gb271, 3, none⟩ (.int .i64 ((rd_T50 l0 x9_1).f3)))) := ⟨zH HB.out GE271.out⟩
       (try clear BK271); (try clear HB); generalize ((((w28.setCell ⟨gb271, 0, none⟩ (.int .i64 ((rd_T50 l0 x9_1).f0))).setCell ⟨gb271, 1, none⟩ (.int .i64 ((rd_T50 l0 x9_1).f1))).setCell ⟨gb271, 2, none⟩ (.int .i64 ((rd_T50 l0 x9_1).f2))).setCell ⟨gb271, 3, none⟩ (.int .i64 ((rd_T50 l0 x9_1).f3))) = w30 at n0_ n1_ ⊢; have BK271 := n0_; have HB := n1_; clear n0_ n1_; have n0_ := az (blk_drew BK271.out); have n1_ := az (below_drew1 HB.out); clear BK271; clear HB; have BK271 := n0_; have HB := n1_; clear n0_ n1_; refine start_ (n := 19) (S := fun w' => w'.cell? ⟨gb271, 0, none⟩ = some (.int .i64 ((rd_T50 l0 x9_1).f0)) ∧ w'.cell? ⟨gb271, 1, none⟩ = some (.int .i64 ((rd_T50 l0 x9_1).f1)) ∧ w'.cell? ⟨gb271, 2, none⟩ = some (.int .i64 ((rd_T50 l0 x9_1).f2)) ∧ w'.cell? ⟨gb271, 3, none⟩ = some (.int .i64 ((rd_T50 l0 x9_1).f3))) (ds := []) q27M0 (by kernel_rfl) rfl rfl ⟨(blk_cell BK271.out 0).trans rfl, (blk_cell BK271.out 1).trans rfl, (blk_cell BK271.out 2).trans rfl, (blk_cell BK271.out 3).trans rfl⟩ (fun hHeld => ?_); refine with_tabW impl_SpansOk.tab4 impl_SpansOk.bits4 (fun HT_ HW_ => ?_); generalize w30.drew = w31 at BK271 HB hHeld ⊢; refine pure_ (i := 1) (N := some 15) (v := ?_) (a' := ?_) q27M1 rfl rfl (any_of HT_.out (by kernel_rfl)) (fun _ _ _ => id) (Or.inl ⟨by rfl, ?_⟩) ?_ ?_; rotate_left; intro w'; go_simp; (with_reducible rfl); rotate_left; simp only [Act.put, q27s, q27z, q27n, i64_w, i32_w]; rfl; refine take_ (i := 0) (N := some 14) (v := ?_) (a' := ?_) q27M2 rfl rfl (take_ofW HT_.out HW_.out (by kernel_rfl)) (fun _ _ _ => id) (Or.inl ⟨by rfl, ?_⟩) hHeld ?_ ?_; rotate_left
       ·
        rintro w' ⟨s0, s1, s2, s3⟩; go_simp; with_reducible rfl
       rotate_left
       · simp only [Act.put, q27s, q27z, q27n, i64_w, i32_w]; rfl
       refine one_ (i := 2) (N := some 16) q27M3 rfl rfl (one_of HT_.out (by kernel_rfl)) (by decide) (fun K hK => ?_); refine goes_ Tryz.func84 (by kernel_rfl) rfl #[.agg #[.int .i64 ((rd_T50 l0 x9_1).f0), .int .i64 ((rd_T50 l0 x9_1).f1), .int .i64 ((rd_T50 l0 x9_1).f2), .int .i64 ((rd_T50 l0 x9_1).f3)], .int .i64 a1] (by rfl) rfl rfl zD ?_; with_reducible refine (impl_spanOk.calls ((rd_T50 l0 x9_1).f0) ((rd_T50 l0 x9_1).f1) ((rd_T50 l0 x9_1).f2) ((rd_T50 l0 x9_1).f3) a1 false _ A6.out).mono ?_
       rintro e w32 ⟨rfl, hb⟩; refine ⟨_, rfl, ?_⟩; have n0_ := az (blk_below (g := gb271) (o := .cells #[.int .i64 ((rd_T50 l0 x9_1).f0), .int .i64 ((rd_T50 l0 x9_1).f1), .int .i64 ((rd_T50 l0 x9_1).f2), .int .i64 ((rd_T50 l0 x9_1).f3)] 50 (0, 0)) (zJ BK271.out) hb); have n1_ := az (below_step (zH HB.out GE271.out) hb); clear BK271; clear HB; have BK271 := n0_; have HB := n1_; clear n0_ n1_; (try clear hb); (try clear hb2); (try clear hk); (try clear hi); refine hK.out _ _ ⟨(blk_cell BK271.out 0).trans rfl, (blk_cell BK271.out 1).trans rfl, (blk_cell BK271.out 2).trans rfl, (blk_cell BK271.out 3).trans rfl⟩ (fun hHeld => ?_); clear hK K; refine norm_ (a' := ?_) ?_ ?_; rotate_left
       ·
        show Act.put _ (some 16) _ = _; simp only [Act.put, q27s, q27z, q27n, i64_w, i32_w]; rfl
       refine pure_ (i := 3) (N := some 17) (v := ?_) (a' := ?_) q27M4 rfl rfl (any_of HT_.out (by kernel_rfl)) (fun _ _ _ => id) (Or.inl ⟨by rfl, ?_⟩) ?_ ?_; rotate_left; intro w'; go_simp; (with_reducible rfl); rotate_left; simp only [Act.put, q27s, q27z, q27n, i64_w, i32_w]; rfl; refine pure_ (i := 4) (N := some 18) (v := ?_) (a' := ?_) q27M5 rfl rfl (any_of HT_.out (by kernel_rfl)) (fun _ _ _ => id) (Or.inl ⟨by rfl, ?_⟩) ?_ ?_; rotate_left; intro w'; go_simp; (with_reducible rfl); rotate_left; simp only [Act.put, q27s, q27z, q27n, i64_w, i32_w]; rfl; refine pure_ (i := 5) (N := some 19) (v := undef) (a' := ?_) q27M6 rfl rfl (any_of HT_.out (by kernel_rfl)) (fun _ _ _ => id) (Or.inr ⟨by rfl, rfl⟩) ?_ ?_; rotate_left
       · simp only [Act.put, q27s, q27z, q27n, i64_w, i32_w]; rfl
       refine pure_ (i := 6) (N := some 20) (v := undef) (a' := ?_) q27M7 rfl rfl (any_of HT_.out (by kernel_rfl)) (fun _ _ _ => id) (Or.inr ⟨by rfl, rfl⟩) ?_ ?_; rotate_left
       · simp only [Act.put, q27s, q27z, q27n, i64_w, i32_w]; rfl
       refine pure_ (i := 7) (N := some 21) (v := undef) (a' := ?_) q27M8 rfl rfl (any_of HT_.out (by kernel_rfl)) (fun _ _ _ => id) (Or.inr ⟨by rfl, rfl⟩) ?_ ?_; rotate_left
       · simp only [Act.put, q27s, q27z, q27n, i64_w, i32_w]; rfl
       refine pure_ (i := 8) (N := some 22) (v := undef) (a' := ?_) q27M9 rfl rfl (any_of HT_.out (by kernel_rfl)) (fun _ _ _ => id) (Or.inr ⟨by rfl, rfl⟩) ?_ ?_; rotate_left
       · simp only [Act.put, q27s, q27z, q27n, i64_w, i32_w]; rfl
       refine pure_ (i := 9) (N := some 23) (v := undef) (a' := ?_) q27M10 rfl rfl (any_of HT_.out (by kernel_rfl)) (fun _ _ _ => id) (Or.inr ⟨by rfl, rfl⟩) ?_ ?_; rotate_left
       · simp only [Act.put, q27s, q27z, q27n, i64_w, i32_w]; rfl
       refine pure_ (i := 10) (N := some 24) (v := undef) (a' := ?_) q27M11 rfl rfl (any_of HT_.out (by kernel_rfl)) (fun _ _ _ => id) (Or.inr ⟨by rfl, rfl⟩) ?_ ?_; rotate_left
       · simp only [Act.put, q27s, q27z, q27n, i64_w, i32_w]; rfl
       refine pure_ (i := 11) (N := some 25) (v := undef) (a' := ?_) q27M12 rfl rfl (any_of HT_.out (by kernel_rfl)) (fun _ _ _ => id) (Or.inr ⟨by rfl, rfl⟩) ?_ ?_; rotate_left
       · simp only [Act.put, q27s, q27z, q27n, i64_w, i32_w]; rfl
       refine pure_ (i := 12) (N := some 26) (v := undef) (a' := ?_) q27M13 rfl rfl (any_of HT_.out (by kernel_rfl)) (fun _ _ _ => id) (Or.inr ⟨by rfl, rfl⟩) ?_ ?_; rotate_left
       · simp only [Act.put, q27s, q27z, q27n, i64_w, i32_w]; rfl
       refine pure_ (i := 13) (N := some 27) (v := undef) (a' := ?_) q27M20 rfl rfl (any_of HT_.out (by kernel_rfl)) (fun _ _ _ => id) (Or.inr ⟨by rfl, rfl⟩) ?_ ?_; rotate_left
       · simp only [Act.put, q27s, q27z, q27n, i64_w, i32_w]; rfl
       refine pure_ (i := 14) (N := some 28) (v := undef) (a' := ?_) q27M15 rfl rfl (any_of HT_.out (by kernel_rfl)) (fun _ _ _ => id) (Or.inr ⟨by rfl, rfl⟩) ?_ ?_; rotate_left
       · simp only [Act.put, q27s, q27z, q27n, i64_w, i32_w]; rfl
       refine pure_ (i := 15) (N := some 29) (v := undef) (a' := ?_) q27M16 rfl rfl (any_of HT_.out (by kernel_rfl)) (fun _ _ _ => id) (Or.inr ⟨by rfl, rfl⟩) ?_ ?_; rotate_left
       · simp only [Act.put, q27s, q27z, q27n, i64_w, i32_w]; rfl
       refine pure_ (i := 16) (N := some 30) (v := undef) (a' := ?_) q27M17 rfl rfl (any_of HT_.out (by kernel_rfl)) (fun _ _ _ => id) (Or.inr ⟨by rfl, rfl⟩) ?_ ?_; rotate_left
       · simp only [Act.put, q27s, q27z, q27n, i64_w, i32_w]; rfl
       refine pure_ (i := 17) (N := some 31) (v := undef) (a' := ?_) q27M18 rfl rfl (any_of HT_.out (by kernel_rfl)) (fun _ _ _ => id) (Or.inr ⟨by rfl, rfl⟩) ?_ ?_; rotate_left
       · simp only [Act.put, q27s, q27z, q27n, i64_w, i32_w]; rfl
       refine pure_ (i := 18) (N := some 32) (v := ?_) (a' := ?_) q27M19 rfl rfl (any_of HT_.out (by kernel_rfl)) (fun _ _ _ => id) (Or.inl ⟨by rfl, ?_⟩) ?_ ?_; rotate_left; intro w'; go_simp; (with_reducible rfl); rotate_left; simp only [Act.put, q27s, q27z, q27n, i64_w, i32_w]; rfl; refine done_ (done_of HT_.out (by kernel_rfl)) ?_; (try go_wp2); go_ret; exact ⟨zF, zH HB.out GE271.out⟩
     ·
      rw [if_neg c5] at H; exact absurd H (by simp)
    ·
     rw [if_neg c4] at H; exact absurd H (by simp)
   ·
    rw [if_neg c3] at H; have c3b0 : decide (x9_1 < (l0.length : Int)) = false := decide_eq_false c3; clear c3; by_cases c33 : a1 ≥ 0
    ·
     rw [if_pos c33] at H; have c33b0 : decide (0 ≤ a1) = true := decide_eq_true c33; clear c33; by_cases c34 : a1 ≤ 80
     ·
      rw [if_pos c34] at H; have c34b0 : decide (a1 ≤ 80) = true := decide_eq_true c34; clear c34; obtain rfl := Option.some.inj H; go_wp2; go_ret; exact ⟨zF, zA HB.out⟩
     ·
      rw [if_neg c34] at H; have c34b0 : decide (a1 ≤ 80) = false := decide_eq_false c34; clear c34; obtain rfl := Option.some.inj H; go_wp2; go_ret; exact ⟨zF, zA HB.out⟩
    ·
     rw [if_neg c33] at H; have c33b0 : decide (0 ≤ a1) = false := decide_eq_false c33; clear c33; obtain rfl := Option.some.inj H; go_wp2; go_ret; exact ⟨zF, zA HB.out⟩
def impl_isWide.f (a0 : Int) : Option (Bool) := if a0 ≥ 0 then (some (decide (a0 ≤ 20000))) else (some false)
theorem impl_isWide.calls (a0 : Int) (r : Bool) (w : World) (h : impl_isWide.f a0 = some r) :
  Calls Tryz.prog 58 #[.int .i64 a0] w fun e w' => e = .returned (.bool r) ∧ Drawn0 w w' := by
 have H : (if a0 ≥ 0 then (some (decide (a0 ≤ 20000))) else (some false)) = some r := h
 clear h
 by_cases c2 : a0 ≥ 0
 ·
  rw [if_pos c2] at H
  have c2b0 : decide (0 ≤ a0) = true := decide_eq_true c2
  clear c2
  obtain rfl := Option.some.inj H
  go_enter Tryz.func58, Tryz.ntmps58
  go_wp2
  go_ret
  exact ⟨zB, zE⟩
 ·
  rw [if_neg c2] at H
  have c2b0 : decide (0 ≤ a0) = false := decide_eq_false c2
  clear c2
  obtain rfl := Option.some.inj H
  go_enter Tryz.func58, Tryz.ntmps58
  go_wp2
  go_ret
  exact ⟨zB, zE⟩
def impl_fillable.f (k : Nat) (l0 : List Int) (l1 : List (S50)) (a2 : Int) : Option (Bool) := (impl_lettersOk.f l0).bind fun t274 => (if t274 = true then ((impl_SpansOk.f k l1 (l0.length : Int)).bind fun t275 => (if t275 = true then ((impl_isWide.f a2).bind fun t276 => (some t276)) else (some false))) else (some false))
theorem impl_fillable.mono : ∀ a0 a1 a2 k, LeO (impl_fillable.f k a0 a1 a2) (impl_fillable.f (k + 1) a0 a1 a2) := by
 intro a0 a1 a2 k; unfold impl_fillable.f
 repeat' first
   | (with_reducible exact impl_SpansOk.mono _ _ _)
   | (with_reducible exact LeO.refl _)
   | (with_reducible exact LeO.none _)
   | (with_reducible refine LeO.ite ?_ ?_)
   | (with_reducible refine LeO.bind ?_ (fun _ => ?_))
   | exact impl_SpansOk.mono _ _ _
   | exact LeO.none _
   | refine LeO.ite ?_ ?_
   | refine LeO.bind ?_ (fun _ => ?_)
theorem impl_fillable.calls (k : Nat) (A0 : Option Addr) (c0 : Nat) (l0 : List Int) (A1 : Option Addr) (c1 : Nat) (l1 : List (S50)) (a2 : Int) (r : Bool) (w : World) (hr0 : Kd.C (Kd.int .i64) w A0 l0.length l0) (hc0 : l0.length ≤ c0) (hr1 : Kd.C k50 w A1 l1.length l1) (hc1 : l1.length ≤ c1) (h : impl_fillable.f k l0 l1 a2 = some r) :
  Calls Tryz.prog 39 #[.slice A0 l0.length c0, .slice A1 l1.length c1, .int .i64 a2] w fun e w' => e = .returned (.bool r) ∧ Below w.heap.size w w' := by
 have HR0 := az hr0; have HC0 := az hc0; clear hr0 hc0; have HR1 := az hr1; have HC1 := az hc1; clear hr1 hc1; have HB := az (Below.refl w.heap.size w); have H : ((impl_lettersOk.f l0).bind fun t274 => (if t274 = true then ((impl_SpansOk.f k l1 (l0.length : Int)).bind fun t275 => (if t275 = true then ((impl_isWide.f a2).bind fun t276 => (some t276)) else (some false))) else (some false))) = some r := h; clear h; replace H := Option.bind_eq_some_iff.mp H; obtain ⟨t274, A40, H⟩ := H; replace H : (if t274 = true then ((impl_SpansOk.f k l1 (l0.length : Int)).bind fun t275 => (if t275 = true then ((impl_isWide.f a2).bind fun t276 => (some t276)) else (some false))) else (some false)) = some r := H; have A4 := az A40; clear A40; by_cases c5 : t274 = true
 ·
  subst c5; have H1 : ((impl_SpansOk.f k l1 (l0.length : Int)).bind fun t275 => (if t275 = true then ((impl_isWide.f a2).bind fun t276 => (some t276)) else (some false))) = some r := by rw [if_pos rfl] at H; exact H
  clear H; have H := H1; clear H1; replace H := Option.bind_eq_some_iff.mp H; obtain ⟨t275, A60, H⟩ := H; replace H : (if t275 = true then ((impl_isWide.f a2).bind fun t276 => (some t276)) else (some false)) = some r := H; have A6 := az A60; clear A60; by_cases c7 : t275 = true
  ·
   subst c7; have H1 : ((impl_isWide.f a2).bind fun t276 => (some t276)) = some r := by rw [if_pos rfl] at H; exact H
   clear H; have H := H1; clear H1; replace H := Option.bind_eq_some_iff.mp H; obtain ⟨t276, A80, H⟩ := H; replace H : (some t276) = some r := H; have A8 := az A80; clear A80; obtain rfl := Option.some.inj H; go_enter Tryz.func39, Tryz.ntmps39; go_wp2_with (first | ((with_reducible refine gate_callee (f := 48) rfl ?_); refine goesL_ (some 8) rfl rfl Tryz.func48 (by kernel_rfl) rfl #[.slice A0 l0.length c0] rfl zD ?_; (with_reducible refine (impl_lettersOk.calls _ _ l0 true _ ?side1 ?side2 A4.out).mono ?_); (case side1 => exact (zP HR0.out)); (case side2 => exact HC0.out); rintro e w9 ⟨rfl, hb⟩; refine ⟨_, rfl, ?_⟩; have n0_ := az (below_step (zA HB.out) hb); clear HB; have HB := n0_; clear n0_; (try clear hb); (try clear hb2); (try clear hk); (try clear hi)) | (go_at_call 54; (with_reducible refine (impl_SpansOk.calls k _ _ l1 (l0.length : Int) true _ ?side1 ?side2 A6.out).mono ?_); (case side1 => exact (zN HR1.out HB.out)); (case side2 => exact HC1.out); rintro e w10 ⟨rfl, hb⟩; have n0_ := az (below_step (zA HB.out) hb); clear HB; have HB := n0_; clear n0_; (try clear hb); (try clear hb2); (try clear hk); (try clear hi)) | (go_at_call 58; (with_reducible refine (impl_isWide.calls a2 t276 _ A8.out).mono ?_); rintro e w' ⟨rfl, ⟨nd, rfl⟩⟩)); go_ret; exact ⟨zF, zA HB.out⟩
  ·
   replace c7 := Bool.eq_false_iff.mpr c7; subst c7; have H1 : (some false) = some r := by rw [if_neg (show ¬ (false = true) by decide)] at H; exact H
   clear H; have H := H1; clear H1; obtain rfl := Option.some.inj H; go_enter Tryz.func39, Tryz.ntmps39; go_wp2_with (first | ((with_reducible refine gate_callee (f := 48) rfl ?_); refine goesL_ (some 8) rfl rfl Tryz.func48 (by kernel_rfl) rfl #[.slice A0 l0.length c0] rfl zD ?_; (with_reducible refine (impl_lettersOk.calls _ _ l0 true _ ?side1 ?side2 A4.out).mono ?_); (case side1 => exact (zP HR0.out)); (case side2 => exact HC0.out); rintro e w11 ⟨rfl, hb⟩; refine ⟨_, rfl, ?_⟩; have n0_ := az (below_step (zA HB.out) hb); clear HB; have HB := n0_; clear n0_; (try clear hb); (try clear hb2); (try clear hk); (try clear hi)) | (go_at_call 54; (with_reducible refine (impl_SpansOk.calls k _ _ l1 (l0.length : Int) false _ ?side1 ?side2 A6.out).mono ?_); (case side1 => exact (zN HR1.out HB.out)); (case side2 => exact HC1.out); rintro e w12 ⟨rfl, hb⟩; have n0_ := az (below_step (zA HB.out) hb); clear HB; have HB := n0_; clear n0_; (try clear hb); (try clear hb2); (try clear hk); (try clear hi))); go_ret; exact ⟨zF, zA HB.out⟩
 ·
  replace c5 := Bool.eq_false_iff.mpr c5; subst c5; have H1 : (some false) = some r := by rw [if_neg (show ¬ (false = true) by decide)] at H; exact H
  clear H; have H := H1; clear H1; obtain rfl := Option.some.inj H; go_enter Tryz.func39, Tryz.ntmps39; go_wp2_with (first | ((with_reducible refine gate_callee (f := 48) rfl ?_); refine goesL_ (some 8) rfl rfl Tryz.func48 (by kernel_rfl) rfl #[.slice A0 l0.length c0] rfl zD ?_; (with_reducible refine (impl_lettersOk.calls _ _ l0 false _ ?side1 ?side2 A4.out).mono ?_); (case side1 => exact (zP HR0.out)); (case side2 => exact HC0.out); rintro e w13 ⟨rfl, hb⟩; refine ⟨_, rfl, ?_⟩; have n0_ := az (below_step (zA HB.out) hb); clear HB; have HB := n0_; clear n0_; (try clear hb); (try clear hb2); (try clear hk); (try clear hi))); go_ret; exact ⟨zF, zA HB.out⟩
def cmp_isNaN_int.f (a0 : Int) : Option (Bool) := some (a0 != a0)
theorem cmp_isNaN_int.calls (a0 : Int) (r : Bool) (w : World) (h : cmp_isNaN_int.f a0 = some r) :
  Calls Tryz.prog 142 #[.int .i64 a0] w fun e w' => e = .returned (.bool r) ∧ Drawn0 w w' := by
 have H : (some (a0 != a0)) = some r := h
 clear h
 obtain rfl := Option.some.inj H
 go_enter Tryz.func142, Tryz.ntmps142
 go_wp2
 go_ret
 exact ⟨zB, zE⟩
def cmp_Compare_int.f (a0 : Int) (a1 : Int) : Option (Int) := (cmp_isNaN_int.f a0).bind fun t277 => ((cmp_isNaN_int.f a1).bind fun t278 => (if t277 = true then (if t278 = true then (some 0) else (some (-1))) else (if t278 = true then (some 1) else (if a0 < a1 then (some (-1)) else (if a0 > a1 then (some 1) else (some 0))))))
theorem cmp_Compare_int.calls (a0 : Int) (a1 : Int) (r : Int) (w : World) (h : cmp_Compare_int.f a0 a1 = some r) :
  Calls Tryz.prog 135 #[.int .i64 a0, .int .i64 a1] w fun e w' => e = .returned (.int .i64 r) ∧ Drawn0 w w' := by
 have H : ((cmp_isNaN_int.f a0).bind fun t277 => ((cmp_isNaN_int.f a1).bind fun t278 => (if t277 = true then (if t278 = true then (some 0) else (some (-1))) else (if t278 = true then (some 1) else (if a0 < a1 then (some (-1)) else (if a0 > a1 then (some 1) else (some 0))))))) = some r := h; clear h; replace H := Option.bind_eq_some_iff.mp H; obtain ⟨t277, A30, H⟩ := H; replace H : ((cmp_isNaN_int.f a1).bind fun t278 => (if t277 = true then (if t278 = true then (some 0) else (some (-1))) else (if t278 = true then (some 1) else (if a0 < a1 then (some (-1)) else (if a0 > a1 then (some 1) else (some 0)))))) = some r := H; have A3 := az A30; clear A30; replace H := Option.bind_eq_some_iff.mp H; obtain ⟨t278, A40, H⟩ := H; replace H : (if t277 = true then (if t278 = true then (some 0) else (some (-1))) else (if t278 = true then (some 1) else (if a0 < a1 then (some (-1)) else (if a0 > a1 then (some 1) else (some 0))))) = some r := H; have A4 := az A40; clear A40; by_cases c5 : t277 = true
 ·
  subst c5; have H1 : (if t278 = true then (some 0) else (some (-1))) = some r := by rw [if_pos rfl] at H; exact H
  clear H; have H := H1; clear H1; by_cases c6 : t278 = true
  ·
   subst c6; have H1 : (some 0) = some r := by rw [if_pos rfl] at H; exact H
   clear H; have H := H1; clear H1; obtain rfl := Option.some.inj H; go_enter Tryz.func135, Tryz.ntmps135; go_wp2_with (first | ((with_reducible refine gate_callee (f := 142) rfl ?_); refine goesL_ (some 8) rfl rfl Tryz.func142 (by kernel_rfl) rfl #[.int .i64 a0] rfl zD ?_; (with_reducible refine (cmp_isNaN_int.calls a0 true _ A3.out).mono ?_); rintro e w' ⟨rfl, ⟨nd, rfl⟩⟩; refine ⟨_, rfl, ?_⟩) | ((with_reducible refine gate_callee (f := 142) rfl ?_); refine goesL_ (some 10) rfl rfl Tryz.func142 (by kernel_rfl) rfl #[.int .i64 a1] rfl zD ?_; (with_reducible refine (cmp_isNaN_int.calls a1 true _ A4.out).mono ?_); rintro e w' ⟨rfl, ⟨nd, rfl⟩⟩; refine ⟨_, rfl, ?_⟩)); go_ret; exact ⟨zB, zE⟩
  ·
   replace c6 := Bool.eq_false_iff.mpr c6; subst c6; have H1 : (some (-1)) = some r := by rw [if_neg (show ¬ (false = true) by decide)] at H; exact H
   clear H; have H := H1; clear H1; obtain rfl := Option.some.inj H; go_enter Tryz.func135, Tryz.ntmps135; go_wp2_with (first | ((with_reducible refine gate_callee (f := 142) rfl ?_); refine goesL_ (some 8) rfl rfl Tryz.func142 (by kernel_rfl) rfl #[.int .i64 a0] rfl zD ?_; (with_reducible refine (cmp_isNaN_int.calls a0 true _ A3.out).mono ?_); rintro e w' ⟨rfl, ⟨nd, rfl⟩⟩; refine ⟨_, rfl, ?_⟩) | ((with_reducible refine gate_callee (f := 142) rfl ?_); refine goesL_ (some 10) rfl rfl Tryz.func142 (by kernel_rfl) rfl #[.int .i64 a1] rfl zD ?_; (with_reducible refine (cmp_isNaN_int.calls a1 false _ A4.out).mono ?_); rintro e w' ⟨rfl, ⟨nd, rfl⟩⟩; refine ⟨_, rfl, ?_⟩)); go_ret; exact ⟨zB, zE⟩
 ·
  replace c5 := Bool.eq_false_iff.mpr c5; subst c5; have H1 : (if t278 = true then (some 1) else (if a0 < a1 then (some (-1)) else (if a0 > a1 then (some 1) else (some 0)))) = some r := by rw [if_neg (show ¬ (false = true) by decide)] at H; exact H
  clear H; have H := H1; clear H1; by_cases c7 : t278 = true
  ·
   subst c7; have H1 : (some 1) = some r := by rw [if_pos rfl] at H; exact H
   clear H; have H := H1; clear H1; obtain rfl := Option.some.inj H; go_enter Tryz.func135, Tryz.ntmps135; go_wp2_with (first | ((with_reducible refine gate_callee (f := 142) rfl ?_); refine goesL_ (some 8) rfl rfl Tryz.func142 (by kernel_rfl) rfl #[.int .i64 a0] rfl zD ?_; (with_reducible refine (cmp_isNaN_int.calls a0 false _ A3.out).mono ?_); rintro e w' ⟨rfl, ⟨nd, rfl⟩⟩; refine ⟨_, rfl, ?_⟩) | ((with_reducible refine gate_callee (f := 142) rfl ?_); refine goesL_ (some 10) rfl rfl Tryz.func142 (by kernel_rfl) rfl #[.int .i64 a1] rfl zD ?_; (with_reducible refine (cmp_isNaN_int.calls a1 true _ A4.out).mono ?_); rintro e w' ⟨rfl, ⟨nd, rfl⟩⟩; refine ⟨_, rfl, ?_⟩)); go_ret; exact ⟨zB, zE⟩
  ·
   replace c7 := Bool.eq_false_iff.mpr c7; subst c7; have H1 : (if a0 < a1 then (some (-1)) else (if a0 > a1 then (some 1) else (some 0))) = some r := by rw [if_neg (show ¬ (false = true) by decide)] at H; exact H
   clear H; have H := H1; clear H1; by_cases c8 : a0 < a1
   ·
    rw [if_pos c8] at H; have c8b0 : decide (a0 < a1) = true := decide_eq_true c8; clear c8; obtain rfl := Option.some.inj H; go_enter Tryz.func135, Tryz.ntmps135; go_wp2_with (first | ((with_reducible refine gate_callee (f := 142) rfl ?_); refine goesL_ (some 8) rfl rfl Tryz.func142 (by kernel_rfl) rfl #[.int .i64 a0] rfl zD ?_; (with_reducible refine (cmp_isNaN_int.calls a0 false _ A3.out).mono ?_); rintro e w' ⟨rfl, ⟨nd, rfl⟩⟩; refine ⟨_, rfl, ?_⟩) | ((with_reducible refine gate_callee (f := 142) rfl ?_); refine goesL_ (some 10) rfl rfl Tryz.func142 (by kernel_rfl) rfl #[.int .i64 a1] rfl zD ?_; (with_reducible refine (cmp_isNaN_int.calls a1 false _ A4.out).mono ?_); rintro e w' ⟨rfl, ⟨nd, rfl⟩⟩; refine ⟨_, rfl, ?_⟩)); go_ret; exact ⟨zB, zE⟩
   ·
    rw [if_neg c8] at H; have c8b0 : decide (a0 < a1) = false := decide_eq_false c8; clear c8; by_cases c9 : a0 > a1
    ·
     rw [if_pos c9] at H; have c9b0 : decide (a1 < a0) = true := decide_eq_true c9; clear c9; obtain rfl := Option.some.inj H; go_enter Tryz.func135, Tryz.ntmps135; go_wp2_with (first | ((with_reducible refine gate_callee (f := 142) rfl ?_); refine goesL_ (some 8) rfl rfl Tryz.func142 (by kernel_rfl) rfl #[.int .i64 a0] rfl zD ?_; (with_reducible refine (cmp_isNaN_int.calls a0 false _ A3.out).mono ?_); rintro e w' ⟨rfl, ⟨nd, rfl⟩⟩; refine ⟨_, rfl, ?_⟩) | ((with_reducible refine gate_callee (f := 142) rfl ?_); refine goesL_ (some 10) rfl rfl Tryz.func142 (by kernel_rfl) rfl #[.int .i64 a1] rfl zD ?_; (with_reducible refine (cmp_isNaN_int.calls a1 false _ A4.out).mono ?_); rintro e w' ⟨rfl, ⟨nd, rfl⟩⟩; refine ⟨_, rfl, ?_⟩)); go_ret; exact ⟨zB, zE⟩
    ·
     rw [if_neg c9] at H; have c9b0 : decide (a1 < a0) = false := decide_eq_false c9; clear c9; obtain rfl := Option.some.inj H; go_enter Tryz.func135, Tryz.ntmps135; go_wp2_with (first | ((with_reducible refine gate_callee (f := 142) rfl ?_); refine goesL_ (some 8) rfl rfl Tryz.func142 (by kernel_rfl) rfl #[.int .i64 a0] rfl zD ?_; (with_reducible refine (cmp_isNaN_int.calls a0 false _ A3.out).mono ?_); rintro e w' ⟨rfl, ⟨nd, rfl⟩⟩; refine ⟨_, rfl, ?_⟩) | ((with_reducible refine gate_callee (f := 142) rfl ?_); refine goesL_ (some 10) rfl rfl Tryz.func142 (by kernel_rfl) rfl #[.int .i64 a1] rfl zD ?_; (with_reducible refine (cmp_isNaN_int.calls a1 false _ A4.out).mono ?_); rintro e w' ⟨rfl, ⟨nd, rfl⟩⟩; refine ⟨_, rfl, ?_⟩)); go_ret; exact ⟨zB, zE⟩
def impl_find_1.f (a0_0 : Int) (a0_1 : Int) (a0_2 : Int) (a1 : Int) : Option (Int) := if a1 ≥ a0_0 then (if a1 ≤ a0_1 then (some 0) else ((cmp_Compare_int.f a0_0 a1).bind fun t280 => (some t280))) else ((cmp_Compare_int.f a0_0 a1).bind fun t281 => (some t281))
theorem impl_find_1.calls (a0_0 : Int) (a0_1 : Int) (a0_2 : Int) (a1 : Int) (r : Int) (w : World) (h : impl_find_1.f a0_0 a0_1 a0_2 a1 = some r) :
  Calls Tryz.prog 134 #[.agg #[.int .i64 a0_0, .int .i64 a0_1, .int .i64 a0_2], .int .i64 a1] w fun e w' => e = .returned (.int .i64 r) ∧ Below w.heap.size w w' := by
 have hu120 := Tryz.underlying120; have HB := az (Below.refl w.heap.size w); have H : (if a1 ≥ a0_0 then (if a1 ≤ a0_1 then (some 0) else ((cmp_Compare_int.f a0_0 a1).bind fun t280 => (some t280))) else ((cmp_Compare_int.f a0_0 a1).bind fun t281 => (some t281))) = some r := h; clear h; by_cases c3 : a1 ≥ a0_0
 ·
  rw [if_pos c3] at H; have c3b0 : decide (a0_0 ≤ a1) = true := decide_eq_true c3; clear c3; by_cases c4 : a1 ≤ a0_1
  ·
   rw [if_pos c4] at H; have c4b0 : decide (a1 ≤ a0_1) = true := decide_eq_true c4; clear c4; obtain rfl := Option.some.inj H; go_enter Tryz.func134, Tryz.ntmps134; go_wp2_with (first | ((with_reducible refine gate_dst (N := 2) rfl ?_); refine box_event ?hg (N := 2) ?hd (cs := #[.int .i64 a0_0, .int .i64 a0_1, .int .i64 a0_2]) (t := 120) ?hr ?_; (case hd => rfl); (case hg => rfl); (case hr => first | (go_simp; done) | (go_simp; rfl)); intro gb279 hg w5 hbox hb; have n0_ := az (below_step (zA HB.out) hb); have n1_ := az (hbox); have n2_ := az ((by rw [hg]; exact (below_size (zA HB.out)) : w.heap.size ≤ gb279)); have n3_ := az ((by rw [hg]; exact (below_size (zA HB.out)) : w.heap.size ≤ gb279)); clear HB; have HB := n0_; have BK279 := n1_; have GW279 := n2_; have GE279 := n3_; clear n0_ n1_ n2_ n3_; clear hb hbox hg; have hcz6_0 : w5.cell? ⟨gb279, 0, none⟩ = some (.int .i64 a0_0) := (blk_cell BK279.out 0).trans rfl; have hcz6_1 : w5.cell? ⟨gb279, 1, none⟩ = some (.int .i64 a0_1) := (blk_cell BK279.out 1).trans rfl; have hcz6_2 : w5.cell? ⟨gb279, 2, none⟩ = some (.int .i64 a0_2) := (blk_cell BK279.out 2).trans rfl; have hfz6_0 := blk_frozen BK279.out 0; have hfz6_1 := blk_frozen BK279.out 1; have hfz6_2 := blk_frozen BK279.out 2)); go_ret; exact ⟨zF, zH HB.out GE279.out⟩
  ·
   rw [if_neg c4] at H; have c4b0 : decide (a1 ≤ a0_1) = false := decide_eq_false c4; clear c4; replace H := Option.bind_eq_some_iff.mp H; obtain ⟨t280, A70, H⟩ := H; replace H : (some t280) = some r := H; have A7 := az A70; clear A70; obtain rfl := Option.some.inj H; go_enter Tryz.func134, Tryz.ntmps134; go_wp2_with (first | ((with_reducible refine gate_dst (N := 2) rfl ?_); refine box_event ?hg (N := 2) ?hd (cs := #[.int .i64 a0_0, .int .i64 a0_1, .int .i64 a0_2]) (t := 120) ?hr ?_; (case hd => rfl); (case hg => rfl); (case hr => first | (go_simp; done) | (go_simp; rfl)); intro gb279 hg w8 hbox hb; have n0_ := az (below_step (zA HB.out) hb); have n1_ := az (hbox); have n2_ := az ((by rw [hg]; exact (below_size (zA HB.out)) : w.heap.size ≤ gb279)); have n3_ := az ((by rw [hg]; exact (below_size (zA HB.out)) : w.heap.size ≤ gb279)); clear HB; have HB := n0_; have BK279 := n1_; have GW279 := n2_; have GE279 := n3_; clear n0_ n1_ n2_ n3_; clear hb hbox hg; have hcz9_0 : w8.cell? ⟨gb279, 0, none⟩ = some (.int .i64 a0_0) := (blk_cell BK279.out 0).trans rfl; have hcz9_1 : w8.cell? ⟨gb279, 1, none⟩ = some (.int .i64 a0_1) := (blk_cell BK279.out 1).trans rfl; have hcz9_2 : w8.cell? ⟨gb279, 2, none⟩ = some (.int .i64 a0_2) := (blk_cell BK279.out 2).trans rfl; have hfz9_0 := blk_frozen BK279.out 0; have hfz9_1 := blk_frozen BK279.out 1; have hfz9_2 := blk_frozen BK279.out 2) | ((with_reducible refine gate_callee (f := 135) rfl ?_); refine goesL_ (some 18) rfl rfl Tryz.func135 (by kernel_rfl) rfl #[.int .i64 a0_0, .int .i64 a1] rfl zD ?_; (with_reducible refine (cmp_Compare_int.calls a0_0 a1 t280 _ A7.out).mono ?_); rintro e w' ⟨rfl, ⟨nd, rfl⟩⟩; refine ⟨_, rfl, ?_⟩)); go_ret; exact ⟨zF, zH HB.out GE279.out⟩
 ·
  rw [if_neg c3] at H; have c3b0 : decide (a0_0 ≤ a1) = false := decide_eq_false c3; clear c3; replace H := Option.bind_eq_some_iff.mp H; obtain ⟨t281, A100, H⟩ := H; replace H : (some t281) = some r := H; have A10 := az A100; clear A100; obtain rfl := Option.some.inj H; go_enter Tryz.func134, Tryz.ntmps134; go_wp2_with (first | ((with_reducible refine gate_dst (N := 2) rfl ?_); refine box_event ?hg (N := 2) ?hd (cs := #[.int .i64 a0_0, .int .i64 a0_1, .int .i64 a0_2]) (t := 120) ?hr ?_; (case hd => rfl); (case hg => rfl); (case hr => first | (go_simp; done) | (go_simp; rfl)); intro gb279 hg w11 hbox hb; have n0_ := az (below_step (zA HB.out) hb); have n1_ := az (hbox); have n2_ := az ((by rw [hg]; exact (below_size (zA HB.out)) : w.heap.size ≤ gb279)); have n3_ := az ((by rw [hg]; exact (below_size (zA HB.out)) : w.heap.size ≤ gb279)); clear HB; have HB := n0_; have BK279 := n1_; have GW279 := n2_; have GE279 := n3_; clear n0_ n1_ n2_ n3_; clear hb hbox hg; have hcz12_0 : w11.cell? ⟨gb279, 0, none⟩ = some (.int .i64 a0_0) := (blk_cell BK279.out 0).trans rfl; have hcz12_1 : w11.cell? ⟨gb279, 1, none⟩ = some (.int .i64 a0_1) := (blk_cell BK279.out 1).trans rfl; have hcz12_2 : w11.cell? ⟨gb279, 2, none⟩ = some (.int .i64 a0_2) := (blk_cell BK279.out 2).trans rfl; have hfz12_0 := blk_frozen BK279.out 0; have hfz12_1 := blk_frozen BK279.out 1; have hfz12_2 := blk_frozen BK279.out 2) | ((with_reducible refine gate_callee (f := 135) rfl ?_); refine goesL_ (some 18) rfl rfl Tryz.func135 (by kernel_rfl) rfl #[.int .i64 a0_0, .int .i64 a1] rfl zD ?_; (with_reducible refine (cmp_Compare_int.calls a0_0 a1 t281 _ A10.out).mono ?_); rintro e w' ⟨rfl, ⟨nd, rfl⟩⟩; refine ⟨_, rfl, ?_⟩)); go_ret; exact ⟨zF, zH HB.out GE279.out⟩
def cmpR (x : S120) (r : Int) : Int := if x.f0 ≤ r ∧ r ≤ x.f1 then 0 else if x.f0 < r then -1 else if r < x.f0 then 1 else 0
def bsR (l : List S120) (r : Int) : Nat → Nat → Nat → Nat
 | 0, lo, _ => lo
 | k + 1, lo, hi => if lo < hi then (if cmpR (l.getD ((lo + hi) / 2) z120) r < 0 then bsR l r k ((lo + hi) / 2 + 1) hi else bsR l r k lo ((lo + hi) / 2)) else lo
theorem bsR_end (l : List S120) (r : Int) (k lo : Nat) : bsR l r k lo lo = lo := by cases k <;> simp [bsR]
theorem bsR_lt {l : List S120} {r : Int} {k lo hi : Nat} (h : lo < hi) (hc : cmpR (l.getD ((lo + hi) / 2) z120) r < 0) : bsR l r (k + 1) lo hi = bsR l r k ((lo + hi) / 2 + 1) hi := by
 rw [bsR, if_pos h, if_pos hc]
theorem bsR_ge {l : List S120} {r : Int} {k lo hi : Nat} (h : lo < hi) (hc : ¬ cmpR (l.getD ((lo + hi) / 2) z120) r < 0) : bsR l r (k + 1) lo hi = bsR l r k lo ((lo + hi) / 2) := by
 rw [bsR, if_pos h, if_neg hc]
theorem bsR_more (l : List S120) (r : Int) : ∀ (k k' lo hi : Nat), hi - lo ≤ k → hi - lo ≤ k' → bsR l r k lo hi = bsR l r k' lo hi
 | 0, 0, _, _, _, _ => rfl
 | 0, k' + 1, lo, hi, h, _ => by rw [bsR, bsR, if_neg (by omega)]
 | k + 1, 0, lo, hi, _, h => by rw [bsR, bsR, if_neg (by omega)]
 | k + 1, k' + 1, lo, hi, h, h' => by
  rw [bsR, bsR]
  by_cases hlt : lo < hi
  · rw [if_pos hlt, if_pos hlt, bsR_more l r k k' ((lo + hi) / 2 + 1) hi (by omega) (by omega), bsR_more l r k k' lo ((lo + hi) / 2) (by omega) (by omega)]
  · rw [if_neg hlt, if_neg hlt]
theorem cmpC_f (a b : Int) : cmp_Compare_int.f a b = some (if a < b then -1 else if b < a then 1 else 0) := by
 simp only [cmp_Compare_int.f, cmp_isNaN_int.f, Option.bind_some, bne_self_eq_false, Bool.false_eq_true, if_false, gt_iff_lt]
 split
 · rfl
 · split <;> rfl
theorem cmpR_f (x : S120) (r : Int) : impl_find_1.f x.f0 x.f1 x.f2 r = some (cmpR x r) := by
 simp only [impl_find_1.f, cmpR, cmpC_f, Option.bind_some, ge_iff_le]
 by_cases h0 : x.f0 ≤ r
 ·
  by_cases h1 : r ≤ x.f1
  · simp [h0, h1]
  · simp [h0, h1]
 · simp [h0]
theorem bsR_calls (A0 : Option Addr) (c0 : Nat) (l0 : List S120) (a1 : Int) (w : World) (hr0 : Kd.C k120 w A0 l0.length l0) (hn : l0.length ≤ 1000) :
  Calls Tryz.prog 133 #[.slice A0 l0.length c0, .int .i64 a1, .func (.func 134) #[] #[]] w fun e w' =>
   e = .returned (.tuple #[.int .i64 (bsR l0 a1 l0.length 0 l0.length : Nat), .bool (decide (bsR l0 a1 l0.length 0 l0.length < l0.length) && decide (cmpR (l0.getD (bsR l0 a1 l0.length 0 l0.length) z120) a1 = 0))]) ∧ Below w.heap.size w w' := by
 have HR0 := az hr0
 clear hr0
 go_enter Tryz.func133, Tryz.ntmps133
 go_wp2
 go_loopg [9, 10] l0.length (fun kx s9 s10 wr => ∃ lo hi : Nat, s9 = .int .i64 lo ∧ s10 = .int .i64 hi ∧ lo ≤ hi ∧ hi ≤ l0.length ∧ hi - lo ≤ kx ∧ Aside0 (Below w.heap.size w wr) ∧ Aside0 (bsR l0 a1 (hi - lo) lo hi = bsR l0 a1 l0.length 0 l0.length))
 case atStart => exact ⟨0, l0.length, rfl, rfl, Nat.zero_le _, Nat.le_refl _, by omega, ⟨Below.refl _ _⟩, ⟨rfl⟩⟩
 case round =>
  obtain ⟨lo, hi, rfl, rfl, hlh, hin, hg, HB, HI⟩ := hrel
  by_cases hlt : lo < hi
  ·
   obtain ⟨ad, rfl, hx⟩ := at_T120 HR0.out (((lo + hi) / 2 : Nat) : Int) (by omega) (by omega)
   have HM := az (cmpR_f (l0.getD ((lo + hi) / 2) z120) a1)
   simp only [rd_T120, Int.toNat_natCast] at hx
   obtain ⟨x0, x1, x2⟩ := hx
   replace x0 := (HB.out.cell (World.block_lt_of_cell? w _ x0)).trans x0
   replace x1 := (HB.out.cell (World.block_lt_of_cell? w _ x1)).trans x1
   replace x2 := (HB.out.cell (World.block_lt_of_cell? w _ x2)).trans x2
   generalize hy : l0.getD ((lo + hi) / 2) z120 = y at x0 x1 x2 HM
   have HY := az hy
   clear hy
   by_cases hc : cmpR y a1 < 0
   ·
    have hcb : decide (cmpR y a1 < 0) = true := decide_eq_true hc
    have HC := az hc
    clear hc
    go_wp2_with (go_at_call 134; refine (impl_find_1.calls _ _ _ _ _ _ HM.out).mono ?_; rintro e w' ⟨rfl, hb'⟩)
    go_roundg (hi - ((lo + hi) / 2 + 1))
    case measure => omega
    case rel =>
     refine ⟨(lo + hi) / 2 + 1, hi, by rw [show ((lo : Int) + (hi : Int)) / 2 + 1 = (((lo + hi) / 2 + 1 : Nat) : Int) by omega], rfl, by omega, hin, Nat.le_refl _, ⟨below_then HB.out HB.out.size hb'⟩, ⟨?_⟩⟩
     rw [← HI.out, show hi - lo = (hi - lo - 1) + 1 by omega, bsR_lt hlt (by rw [HY.out]; exact HC.out)]
     exact bsR_more _ _ _ _ _ _ (by omega) (by omega)
   ·
    have hcb : decide (cmpR y a1 < 0) = false := decide_eq_false hc
    have HC := az hc
    clear hc
    go_wp2_with (go_at_call 134; refine (impl_find_1.calls _ _ _ _ _ _ HM.out).mono ?_; rintro e w' ⟨rfl, hb'⟩)
    go_roundg ((lo + hi) / 2 - lo)
    case measure => omega
    case rel =>
     refine ⟨lo, (lo + hi) / 2, rfl, by rw [show ((lo : Int) + (hi : Int)) / 2 = (((lo + hi) / 2 : Nat) : Int) by omega], by omega, by omega, Nat.le_refl _, ⟨below_then HB.out HB.out.size hb'⟩, ⟨?_⟩⟩
     rw [← HI.out, show hi - lo = (hi - lo - 1) + 1 by omega, bsR_ge hlt (by rw [HY.out]; have := HC.out; omega)]
     exact bsR_more _ _ _ _ _ _ (by omega) (by omega)
  ·
   obtain rfl : hi = lo := by omega
   have e : bsR l0 a1 l0.length 0 l0.length = hi := by rw [← HI.out, bsR_end]
   have E := az e
   clear e HI
   by_cases hn2 : hi < l0.length
   ·
    obtain ⟨ad, rfl, hx⟩ := at_T120 HR0.out (hi : Int) (by omega) (by omega)
    have HM := az (cmpR_f (l0.getD hi z120) a1)
    simp only [rd_T120, Int.toNat_natCast] at hx
    obtain ⟨x0, x1, x2⟩ := hx
    replace x0 := (HB.out.cell (World.block_lt_of_cell? w _ x0)).trans x0
    replace x1 := (HB.out.cell (World.block_lt_of_cell? w _ x1)).trans x1
    replace x2 := (HB.out.cell (World.block_lt_of_cell? w _ x2)).trans x2
    generalize hy : l0.getD hi z120 = y at x0 x1 x2 HM
    have HY := az hy
    clear hy
    by_cases hyx : cmpR y a1 = 0
    ·
     go_wp2_with (go_at_call 134; refine (impl_find_1.calls _ _ _ _ _ _ HM.out).mono ?_; rintro e w' ⟨rfl, hb'⟩)
     go_ret2
     exact ⟨by rw [E.out, HY.out]; simp [hn2, hyx], below_then HB.out HB.out.size hb'⟩
    ·
     go_wp2_with (go_at_call 134; refine (impl_find_1.calls _ _ _ _ _ _ HM.out).mono ?_; rintro e w' ⟨rfl, hb'⟩)
     go_ret2
     exact ⟨by rw [E.out, HY.out]; simp [hn2, hyx], below_then HB.out HB.out.size hb'⟩
   ·
    go_wp2
    go_ret2
    exact ⟨by rw [E.out]; simp [hn2], HB.out⟩
def findV (l0 : List S120) (a1 a2 : Int) : Int := if bsR l0 a1 l0.length 0 l0.length < l0.length ∧ cmpR (l0.getD (bsR l0 a1 l0.length 0 l0.length) z120) a1 = 0 then (l0.getD (bsR l0 a1 l0.length 0 l0.length) z120).f2 else a2
def impl_find.f (l0 : List S120) (a1 a2 : Int) : Option Int := if l0.length ≤ 1000 then some (findV l0 a1 a2) else none
theorem impl_find.calls (A0 : Option Addr) (c0 : Nat) (l0 : List (S120)) (a1 : Int) (a2 : Int) (r : Int) (w : World) (hr0 : Kd.C k120 w A0 l0.length l0) (hc0 : l0.length ≤ c0) (h : impl_find.f l0 a1 a2 = some r) :
  Calls Tryz.prog 116 #[.slice A0 l0.length c0, .int .i64 a1, .int .i64 a2] w fun e w' => e = .returned (.int .i64 r) ∧ Below w.heap.size w w' := by
 unfold impl_find.f at h
 by_cases hn : l0.length ≤ 1000
 ·
  rw [if_pos hn] at h
  obtain rfl := Option.some.inj h
  have HC := az (bsR_calls A0 c0 l0 a1)
  have HR := az hr0
  unfold findV
  clear h hc0
  generalize hi : bsR l0 a1 l0.length 0 l0.length = i at HC
  clear hi
  by_cases h1 : i < l0.length
  ·
   by_cases h2 : cmpR (l0.getD i z120) a1 = 0
   ·
    rw [if_pos ⟨h1, h2⟩]
    simp only [decide_eq_true h1, decide_eq_true h2, Bool.and_self] at HC
    clear h2
    obtain ⟨ad, rfl, hx⟩ := at_T120 hr0 (i : Int) (by omega) (by omega)
    simp only [rd_T120, Int.toNat_natCast] at hx
    obtain ⟨x0, x1, x2⟩ := hx
    clear hr0
    have HX := az x2
    clear x0 x1 x2
    have h1' : (i : Int) < (l0.length : Int) := by omega
    generalize l0.getD i z120 = y at HX
    go_enter Tryz.func116, Tryz.ntmps116
    go_wp2_with (go_at_call 133; refine (HC.out _ HR.out hn).mono ?_; rintro e w' ⟨rfl, hb'⟩; have hx2 := (hb'.cell (World.block_lt_of_cell? w _ HX.out)).trans HX.out)
    go_ret
    exact ⟨rfl, hb'⟩
   ·
    rw [if_neg (fun h => h2 h.2)]
    simp only [decide_eq_false h2, Bool.and_false] at HC
    go_enter Tryz.func116, Tryz.ntmps116
    go_wp2_with (go_at_call 133; refine (HC.out _ HR.out hn).mono ?_; rintro e w' ⟨rfl, hb'⟩)
    go_ret
    exact ⟨rfl, hb'⟩
  ·
   rw [if_neg (fun h => h1 h.1)]
   simp only [decide_eq_false h1, Bool.false_and] at HC
   go_enter Tryz.func116, Tryz.ntmps116
   go_wp2_with (go_at_call 133; refine (HC.out _ HR.out hn).mono ?_; rintro e w' ⟨rfl, hb'⟩)
   go_ret
   exact ⟨rfl, hb'⟩
 ·
  rw [if_neg hn] at h
  exact absurd h (by simp)
def impl_bidiReaches.f  : Option ((List (S120))) := some (([(⟨9, 9, 11⟩ : S120), (⟨32, 32, 12⟩ : S120), (⟨35, 37, 6⟩ : S120), (⟨43, 43, 5⟩ : S120), (⟨44, 44, 8⟩ : S120), (⟨45, 45, 5⟩ : S120), (⟨46, 47, 8⟩ : S120), (⟨48, 57, 4⟩ : S120), (⟨58, 58, 8⟩ : S120), (⟨65, 90, 1⟩ : S120), (⟨97, 122, 1⟩ : S120), (⟨173, 173, 10⟩ : S120), (⟨768, 879, 9⟩ : S120), (⟨1488, 1514, 2⟩ : S120), (⟨1569, 1610, 3⟩ : S120), (⟨1632, 1641, 7⟩ : S120), (⟨8203, 8203, 10⟩ : S120), (⟨8205, 8205, 10⟩ : S120), (⟨8234, 8234, 14⟩ : S120), (⟨8235, 8235, 15⟩ : S120), (⟨8236, 8236, 16⟩ : S120), (⟨8237, 8237, 17⟩ : S120), (⟨8238, 8238, 18⟩ : S120), (⟨8294, 8294, 19⟩ : S120), (⟨8295, 8295, 20⟩ : S120), (⟨8296, 8296, 21⟩ : S120), (⟨8297, 8297, 22⟩ : S120), (⟨19968, 40959, 1⟩ : S120)] : List (S120)))
theorem impl_bidiReaches.calls  (r : List (S120)) (w : World) (h : impl_bidiReaches.f  = some r) :
  Calls Tryz.prog 132 #[] w fun e w' => ∃ v0_ : Value, e = .returned (v0_) ∧ Kd.R k120 120 w' w.heap.size (fun _ => True) v0_ r ∧ Below w.heap.size w w' := by
 have hu120 := Tryz.underlying120; have HB := az (Below.refl w.heap.size w); have H : (some (([(⟨9, 9, 11⟩ : S120), (⟨32, 32, 12⟩ : S120), (⟨35, 37, 6⟩ : S120), (⟨43, 43, 5⟩ : S120), (⟨44, 44, 8⟩ : S120), (⟨45, 45, 5⟩ : S120), (⟨46, 47, 8⟩ : S120), (⟨48, 57, 4⟩ : S120), (⟨58, 58, 8⟩ : S120), (⟨65, 90, 1⟩ : S120), (⟨97, 122, 1⟩ : S120), (⟨173, 173, 10⟩ : S120), (⟨768, 879, 9⟩ : S120), (⟨1488, 1514, 2⟩ : S120), (⟨1569, 1610, 3⟩ : S120), (⟨1632, 1641, 7⟩ : S120), (⟨8203, 8203, 10⟩ : S120), (⟨8205, 8205, 10⟩ : S120), (⟨8234, 8234, 14⟩ : S120), (⟨8235, 8235, 15⟩ : S120), (⟨8236, 8236, 16⟩ : S120), (⟨8237, 8237, 17⟩ : S120), (⟨8238, 8238, 18⟩ : S120), (⟨8294, 8294, 19⟩ : S120), (⟨8295, 8295, 20⟩ : S120), (⟨8296, 8296, 21⟩ : S120), (⟨8297, 8297, 22⟩ : S120), (⟨19968, 40959, 1⟩ : S120)] : List (S120)))) = some r := h; clear h; obtain ⟨y282, hy282⟩ : ∃ y_ : List (S120), y_ = (([(⟨9, 9, 11⟩ : S120), (⟨32, 32, 12⟩ : S120), (⟨35, 37, 6⟩ : S120), (⟨43, 43, 5⟩ : S120), (⟨44, 44, 8⟩ : S120), (⟨45, 45, 5⟩ : S120), (⟨46, 47, 8⟩ : S120), (⟨48, 57, 4⟩ : S120), (⟨58, 58, 8⟩ : S120), (⟨65, 90, 1⟩ : S120), (⟨97, 122, 1⟩ : S120), (⟨173, 173, 10⟩ : S120), (⟨768, 879, 9⟩ : S120), (⟨1488, 1514, 2⟩ : S120), (⟨1569, 1610, 3⟩ : S120), (⟨1632, 1641, 7⟩ : S120), (⟨8203, 8203, 10⟩ : S120), (⟨8205, 8205, 10⟩ : S120), (⟨8234, 8234, 14⟩ : S120), (⟨8235, 8235, 15⟩ : S120), (⟨8236, 8236, 16⟩ : S120), (⟨8237, 8237, 17⟩ : S120), (⟨8238, 8238, 18⟩ : S120), (⟨8294, 8294, 19⟩ : S120), (⟨8295, 8295, 20⟩ : S120), (⟨8296, 8296, 21⟩ : S120), (⟨8297, 8297, 22⟩ : S120), (⟨19968, 40959, 1⟩ : S120)] : List (S120))) := ⟨_, rfl⟩; replace H : (some y282) = some r := by first | (rw [hy282]; with_reducible exact H) | (have H2_ := (Option.bind_some _ _).symm.trans H; rw [hy282]; with_reducible exact H2_) | (have H2_ := (Option.bind_some _ _).symm.trans H; with_reducible exact H2_) | with_reducible exact H | (rw [hy282]; exact H) | exact H
 have Ny282 := az hy282; clear hy282; obtain rfl := Option.some.inj H; go_enter Tryz.func132, Tryz.ntmps132; go_wp2_with (first | ((with_reducible refine gate_dst (N := 29) rfl ?_); refine Kd.R_lit k120 _ 120 ?hg (N := 29) ?hd (xs := ([(⟨9, 9, 11⟩ : S120), (⟨32, 32, 12⟩ : S120), (⟨35, 37, 6⟩ : S120), (⟨43, 43, 5⟩ : S120), (⟨44, 44, 8⟩ : S120), (⟨45, 45, 5⟩ : S120), (⟨46, 47, 8⟩ : S120), (⟨48, 57, 4⟩ : S120), (⟨58, 58, 8⟩ : S120), (⟨65, 90, 1⟩ : S120), (⟨97, 122, 1⟩ : S120), (⟨173, 173, 10⟩ : S120), (⟨768, 879, 9⟩ : S120), (⟨1488, 1514, 2⟩ : S120), (⟨1569, 1610, 3⟩ : S120), (⟨1632, 1641, 7⟩ : S120), (⟨8203, 8203, 10⟩ : S120), (⟨8205, 8205, 10⟩ : S120), (⟨8234, 8234, 14⟩ : S120), (⟨8235, 8235, 15⟩ : S120), (⟨8236, 8236, 16⟩ : S120), (⟨8237, 8237, 17⟩ : S120), (⟨8238, 8238, 18⟩ : S120), (⟨8294, 8294, 19⟩ : S120), (⟨8295, 8295, 20⟩ : S120), (⟨8296, 8296, 21⟩ : S120), (⟨8297, 8297, 22⟩ : S120), (⟨19968, 40959, 1⟩ : S120)] : List (S120))) (inner := [.int .i64 9, .int .i64 9, .int .i64 11, .int .i64 32, .int .i64 32, .int .i64 12, .int .i64 35, .int .i64 37, .int .i64 6, .int .i64 43, .int .i64 43, .int .i64 5, .int .i64 44, .int .i64 44, .int .i64 8, .int .i64 45, .int .i64 45, .int .i64 5, .int .i64 46, .int .i64 47, .int .i64 8, .int .i64 48, .int .i64 57, .int .i64 4, .int .i64 58, .int .i64 58, .int .i64 8, .int .i64 65, .int .i64 90, .int .i64 1, .int .i64 97, .int .i64 122, .int .i64 1, .int .i64 173, .int .i64 173, .int .i64 10, .int .i64 768, .int .i64 879, .int .i64 9, .int .i64 1488, .int .i64 1514, .int .i64 2, .int .i64 1569, .int .i64 1610, .int .i64 3, .int .i64 1632, .int .i64 1641, .int .i64 7, .int .i64 8203, .int .i64 8203, .int .i64 10, .int .i64 8205, .int .i64 8205, .int .i64 10, .int .i64 8234, .int .i64 8234, .int .i64 14, .int .i64 8235, .int .i64 8235, .int .i64 15, .int .i64 8236, .int .i64 8236, .int .i64 16, .int .i64 8237, .int .i64 8237, .int .i64 17, .int .i64 8238, .int .i64 8238, .int .i64 18, .int .i64 8294, .int .i64 8294, .int .i64 19, .int .i64 8295, .int .i64 8295, .int .i64 20, .int .i64 8296, .int .i64 8296, .int .i64 21, .int .i64 8297, .int .i64 8297, .int .i64 22, .int .i64 19968, .int .i64 40959, .int .i64 1]) (ok := fun _ => True) (okp := fun _ => True) ?hr ?hp (fun _ hk => hk) trivial (Below.refl _ _) (Nat.le_refl _) (by simp) ?_; (case hd => rfl); (case hg => rfl); (case hr => first | (go_simp; done) | (go_simp; rfl)); (case hp => exact (Reps.c3 (show Kd.M k120 _ _ _ (⟨9, 9, 11⟩ : S120) [.int .i64 9, .int .i64 9, .int .i64 11] from (k120_mkM _ _ _ (⟨9, 9, 11⟩ : S120) )) (Reps.c3 (show Kd.M k120 _ _ _ (⟨32, 32, 12⟩ : S120) [.int .i64 32, .int .i64 32, .int .i64 12] from (k120_mkM _ _ _ (⟨32, 32, 12⟩ : S120) )) (Reps.c3 (show Kd.M k120 _ _ _ (⟨35, 37, 6⟩ : S120) [.int .i64 35, .int .i64 37, .int .i64 6] from (k120_mkM _ _ _ (⟨35, 37, 6⟩ : S120) )) (Reps.c3 (show Kd.M k120 _ _ _ (⟨43, 43, 5⟩ : S120) [.int .i64 43, .int .i64 43, .int .i64 5] from (k120_mkM _ _ _ (⟨43, 43, 5⟩ : S120) )) (Reps.c3 (show Kd.M k120 _ _ _ (⟨44, 44, 8⟩ : S120) [.int .i64 44, .int .i64 44, .int .i64 8] from (k120_mkM _ _ _ (⟨44, 44, 8⟩ : S120) )) (Reps.c3 (show Kd.M k120 _ _ _ (⟨45, 45, 5⟩ : S120) [.int .i64 45, .int .i64 45, .int .i64 5] from (k120_mkM _ _ _ (⟨45, 45, 5⟩ : S120) )) (Reps.c3 (show Kd.M k120 _ _ _ (⟨46, 47, 8⟩ : S120) [.int .i64 46, .int .i64 47, .int .i64 8] from (k120_mkM _ _ _ (⟨46, 47, 8⟩ : S120) )) (Reps.c3 (show Kd.M k120 _ _ _ (⟨48, 57, 4⟩ : S120) [.int .i64 48, .int .i64 57, .int .i64 4] from (k120_mkM _ _ _ (⟨48, 57, 4⟩ : S120) )) (Reps.c3 (show Kd.M k120 _ _ _ (⟨58, 58, 8⟩ : S120) [.int .i64 58, .int .i64 58, .int .i64 8] from (k120_mkM _ _ _ (⟨58, 58, 8⟩ : S120) )) (Reps.c3 (show Kd.M k120 _ _ _ (⟨65, 90, 1⟩ : S120) [.int .i64 65, .int .i64 90, .int .i64 1] from (k120_mkM _ _ _ (⟨65, 90, 1⟩ : S120) )) (Reps.c3 (show Kd.M k120 _ _ _ (⟨97, 122, 1⟩ : S120) [.int .i64 97, .int .i64 122, .int .i64 1] from (k120_mkM _ _ _ (⟨97, 122, 1⟩ : S120) )) (Reps.c3 (show Kd.M k120 _ _ _ (⟨173, 173, 10⟩ : S120) [.int .i64 173, .int .i64 173, .int .i64 10] from (k120_mkM _ _ _ (⟨173, 173, 10⟩ : S120) )) (Reps.c3 (show Kd.M k120 _ _ _ (⟨768, 879, 9⟩ : S120) [.int .i64 768, .int .i64 879, .int .i64 9] from (k120_mkM _ _ _ (⟨768, 879, 9⟩ : S120) )) (Reps.c3 (show Kd.M k120 _ _ _ (⟨1488, 1514, 2⟩ : S120) [.int .i64 1488, .int .i64 1514, .int .i64 2] from (k120_mkM _ _ _ (⟨1488, 1514, 2⟩ : S120) )) (Reps.c3 (show Kd.M k120 _ _ _ (⟨1569, 1610, 3⟩ : S120) [.int .i64 1569, .int .i64 1610, .int .i64 3] from (k120_mkM _ _ _ (⟨1569, 1610, 3⟩ : S120) )) (Reps.c3 (show Kd.M k120 _ _ _ (⟨1632, 1641, 7⟩ : S120) [.int .i64 1632, .int .i64 1641, .int .i64 7] from (k120_mkM _ _ _ (⟨1632, 1641, 7⟩ : S120) )) (Reps.c3 (show Kd.M k120 _ _ _ (⟨8203, 8203, 10⟩ : S120) [.int .i64 8203, .int .i64 8203, .int .i64 10] from (k120_mkM _ _ _ (⟨8203, 8203, 10⟩ : S120) )) (Reps.c3 (show Kd.M k120 _ _ _ (⟨8205, 8205, 10⟩ : S120) [.int .i64 8205, .int .i64 8205, .int .i64 10] from (k120_mkM _ _ _ (⟨8205, 8205, 10⟩ : S120) )) (Reps.c3 (show Kd.M k120 _ _ _ (⟨8234, 8234, 14⟩ : S120) [.int .i64 8234, .int .i64 8234, .int .i64 14] from (k120_mkM _ _ _ (⟨8234, 8234, 14⟩ : S120) )) (Reps.c3 (show Kd.M k120 _ _ _ (⟨8235, 8235, 15⟩ : S120) [.int .i64 8235, .int .i64 8235, .int .i64 15] from (k120_mkM _ _ _ (⟨8235, 8235, 15⟩ : S120) )) (Reps.c3 (show Kd.M k120 _ _ _ (⟨8236, 8236, 16⟩ : S120) [.int .i64 8236, .int .i64 8236, .int .i64 16] from (k120_mkM _ _ _ (⟨8236, 8236, 16⟩ : S120) )) (Reps.c3 (show Kd.M k120 _ _ _ (⟨8237, 8237, 17⟩ : S120) [.int .i64 8237, .int .i64 8237, .int .i64 17] from (k120_mkM _ _ _ (⟨8237, 8237, 17⟩ : S120) )) (Reps.c3 (show Kd.M k120 _ _ _ (⟨8238, 8238, 18⟩ : S120) [.int .i64 8238, .int .i64 8238, .int .i64 18] from (k120_mkM _ _ _ (⟨8238, 8238, 18⟩ : S120) )) (Reps.c3 (show Kd.M k120 _ _ _ (⟨8294, 8294, 19⟩ : S120) [.int .i64 8294, .int .i64 8294, .int .i64 19] from (k120_mkM _ _ _ (⟨8294, 8294, 19⟩ : S120) )) (Reps.c3 (show Kd.M k120 _ _ _ (⟨8295, 8295, 20⟩ : S120) [.int .i64 8295, .int .i64 8295, .int .i64 20] from (k120_mkM _ _ _ (⟨8295, 8295, 20⟩ : S120) )) (Reps.c3 (show Kd.M k120 _ _ _ (⟨8296, 8296, 21⟩ : S120) [.int .i64 8296, .int .i64 8296, .int .i64 21] from (k120_mkM _ _ _ (⟨8296, 8296, 21⟩ : S120) )) (Reps.c3 (show Kd.M k120 _ _ _ (⟨8297, 8297, 22⟩ : S120) [.int .i64 8297, .int .i64 8297, .int .i64 22] from (k120_mkM _ _ _ (⟨8297, 8297, 22⟩ : S120) )) (Reps.c3 (show Kd.M k120 _ _ _ (⟨19968, 40959, 1⟩ : S120) [.int .i64 19968, .int .i64 40959, .int .i64 1] from (k120_mkM _ _ _ (⟨19968, 40959, 1⟩ : S120) )) (Reps.none _ _)))))))))))))))))))))))))))))); intro v283 w1 ho2 hb hg_ hnew_; clear hg_ hnew_; (first | rw [← Ny282.out] at ho2 | (simp only [Int.reduceToNat] at ho2; rw [← Ny282.out] at ho2)); have n0_ := az (Kd.R_lower ho2 (below_size (zA HB.out))); have n1_ := az (below_step (zA HB.out) hb); clear HB; have HO284 := n0_; have HB := n1_; clear n0_ n1_; clear hb ho2))
 go_ret; exact ⟨_, zF, zC HO284.out, zA HB.out⟩
def impl_RuneBidi.f (a0 : Int) : Option (Int) := (impl_bidiReaches.f).bind fun t285 => ((impl_find.f t285 a0 13).bind fun t288 => (some t288))
theorem impl_RuneBidi.calls (a0 : Int) (r : Int) (w : World) (h : impl_RuneBidi.f a0 = some r) :
  Calls Tryz.prog 115 #[.int .i64 a0] w fun e w' => e = .returned (.int .i64 r) ∧ Below w.heap.size w w' := by
 have HB := az (Below.refl w.heap.size w); have H : ((impl_bidiReaches.f).bind fun t285 => ((impl_find.f t285 a0 13).bind fun t288 => (some t288))) = some r := h; clear h; replace H := Option.bind_eq_some_iff.mp H; obtain ⟨t285, A20, H⟩ := H; replace H : ((impl_find.f t285 a0 13).bind fun t288 => (some t288)) = some r := H; have A2 := az A20; clear A20; replace H := Option.bind_eq_some_iff.mp H; obtain ⟨t288, A30, H⟩ := H; replace H : (some t288) = some r := H; have A3 := az A30; clear A30; obtain rfl := Option.some.inj H; go_enter Tryz.func115, Tryz.ntmps115; go_wp2_with (first | ((with_reducible refine gate_callee (f := 132) rfl ?_); refine goesL_ (some 3) rfl rfl Tryz.func132 (by kernel_rfl) rfl #[] rfl zD ?_; (with_reducible refine (impl_bidiReaches.calls  t285 _ A2.out).mono ?_); rintro e w4 ⟨v286, rfl, ho0, hb⟩; refine ⟨_, rfl, ?_⟩; have n0_ := az (Kd.R_lower ho0 (below_size (zA HB.out))); have n1_ := az (below_step (zA HB.out) hb); clear HB; have HO287 := n0_; have HB := n1_; clear n0_ n1_; (try clear hb); (try clear hb2); (try clear hk); (try clear hi); (try clear ho0); obtain ⟨Ao5, co5, eo5⟩ := Kd.R_slice HO287.out; subst eo5) | ((with_reducible refine gate_callee (f := 116) rfl ?_); refine goesL_ (some 5) rfl rfl Tryz.func116 (by kernel_rfl) rfl #[.slice Ao5 t285.length co5, .int .i64 a0, .int .i64 13] rfl zD ?_; (with_reducible refine (impl_find.calls _ _ t285 a0 13 t288 _ ?side1 ?side2 A3.out).mono ?_); (case side1 => exact (zM HO287.out)); (case side2 => exact (Kd.R_reads' HO287.out).2.1); rintro e w6 ⟨rfl, hb⟩; refine ⟨_, rfl, ?_⟩; have n0_ := az (Kd.R_below (zC HO287.out) hb); have n1_ := az (below_step (zA HB.out) hb); clear HO287; clear HB; have HO287 := n0_; have HB := n1_; clear n0_ n1_; (try clear hb); (try clear hb2); (try clear hk); (try clear hi))); go_ret; exact ⟨zF, zA HB.out⟩
def impl_lineReaches.f  : Option ((List (S120))) := some (([(⟨9, 9, 14⟩ : S120), (⟨10, 10, 4⟩ : S120), (⟨32, 32, 3⟩ : S120), (⟨33, 33, 10⟩ : S120), (⟨34, 34, 11⟩ : S120), (⟨40, 40, 8⟩ : S120), (⟨41, 41, 9⟩ : S120), (⟨44, 44, 13⟩ : S120), (⟨45, 45, 12⟩ : S120), (⟨46, 47, 13⟩ : S120), (⟨48, 57, 2⟩ : S120), (⟨58, 59, 13⟩ : S120), (⟨63, 63, 10⟩ : S120), (⟨91, 91, 8⟩ : S120), (⟨93, 93, 9⟩ : S120), (⟨123, 123, 8⟩ : S120), (⟨125, 125, 9⟩ : S120), (⟨160, 160, 5⟩ : S120), (⟨173, 173, 14⟩ : S120), (⟨1632, 1641, 2⟩ : S120), (⟨8203, 8203, 6⟩ : S120), (⟨8205, 8205, 7⟩ : S120), (⟨19968, 40959, 15⟩ : S120)] : List (S120)))
theorem impl_lineReaches.calls  (r : List (S120)) (w : World) (h : impl_lineReaches.f  = some r) :
  Calls Tryz.prog 117 #[] w fun e w' => ∃ v0_ : Value, e = .returned (v0_) ∧ Kd.R k120 120 w' w.heap.size (fun _ => True) v0_ r ∧ Below w.heap.size w w' := by
 have hu120 := Tryz.underlying120; have HB := az (Below.refl w.heap.size w); have H : (some (([(⟨9, 9, 14⟩ : S120), (⟨10, 10, 4⟩ : S120), (⟨32, 32, 3⟩ : S120), (⟨33, 33, 10⟩ : S120), (⟨34, 34, 11⟩ : S120), (⟨40, 40, 8⟩ : S120), (⟨41, 41, 9⟩ : S120), (⟨44, 44, 13⟩ : S120), (⟨45, 45, 12⟩ : S120), (⟨46, 47, 13⟩ : S120), (⟨48, 57, 2⟩ : S120), (⟨58, 59, 13⟩ : S120), (⟨63, 63, 10⟩ : S120), (⟨91, 91, 8⟩ : S120), (⟨93, 93, 9⟩ : S120), (⟨123, 123, 8⟩ : S120), (⟨125, 125, 9⟩ : S120), (⟨160, 160, 5⟩ : S120), (⟨173, 173, 14⟩ : S120), (⟨1632, 1641, 2⟩ : S120), (⟨8203, 8203, 6⟩ : S120), (⟨8205, 8205, 7⟩ : S120), (⟨19968, 40959, 15⟩ : S120)] : List (S120)))) = some r := h; clear h; obtain ⟨y289, hy289⟩ : ∃ y_ : List (S120), y_ = (([(⟨9, 9, 14⟩ : S120), (⟨10, 10, 4⟩ : S120), (⟨32, 32, 3⟩ : S120), (⟨33, 33, 10⟩ : S120), (⟨34, 34, 11⟩ : S120), (⟨40, 40, 8⟩ : S120), (⟨41, 41, 9⟩ : S120), (⟨44, 44, 13⟩ : S120), (⟨45, 45, 12⟩ : S120), (⟨46, 47, 13⟩ : S120), (⟨48, 57, 2⟩ : S120), (⟨58, 59, 13⟩ : S120), (⟨63, 63, 10⟩ : S120), (⟨91, 91, 8⟩ : S120), (⟨93, 93, 9⟩ : S120), (⟨123, 123, 8⟩ : S120), (⟨125, 125, 9⟩ : S120), (⟨160, 160, 5⟩ : S120), (⟨173, 173, 14⟩ : S120), (⟨1632, 1641, 2⟩ : S120), (⟨8203, 8203, 6⟩ : S120), (⟨8205, 8205, 7⟩ : S120), (⟨19968, 40959, 15⟩ : S120)] : List (S120))) := ⟨_, rfl⟩; replace H : (some y289) = some r := by first | (rw [hy289]; with_reducible exact H) | (have H2_ := (Option.bind_some _ _).symm.trans H; rw [hy289]; with_reducible exact H2_) | (have H2_ := (Option.bind_some _ _).symm.trans H; with_reducible exact H2_) | with_reducible exact H | (rw [hy289]; exact H) | exact H
 have Ny289 := az hy289; clear hy289; obtain rfl := Option.some.inj H; go_enter Tryz.func117, Tryz.ntmps117; go_wp2_with (first | ((with_reducible refine gate_dst (N := 24) rfl ?_); refine Kd.R_lit k120 _ 120 ?hg (N := 24) ?hd (xs := ([(⟨9, 9, 14⟩ : S120), (⟨10, 10, 4⟩ : S120), (⟨32, 32, 3⟩ : S120), (⟨33, 33, 10⟩ : S120), (⟨34, 34, 11⟩ : S120), (⟨40, 40, 8⟩ : S120), (⟨41, 41, 9⟩ : S120), (⟨44, 44, 13⟩ : S120), (⟨45, 45, 12⟩ : S120), (⟨46, 47, 13⟩ : S120), (⟨48, 57, 2⟩ : S120), (⟨58, 59, 13⟩ : S120), (⟨63, 63, 10⟩ : S120), (⟨91, 91, 8⟩ : S120), (⟨93, 93, 9⟩ : S120), (⟨123, 123, 8⟩ : S120), (⟨125, 125, 9⟩ : S120), (⟨160, 160, 5⟩ : S120), (⟨173, 173, 14⟩ : S120), (⟨1632, 1641, 2⟩ : S120), (⟨8203, 8203, 6⟩ : S120), (⟨8205, 8205, 7⟩ : S120), (⟨19968, 40959, 15⟩ : S120)] : List (S120))) (inner := [.int .i64 9, .int .i64 9, .int .i64 14, .int .i64 10, .int .i64 10, .int .i64 4, .int .i64 32, .int .i64 32, .int .i64 3, .int .i64 33, .int .i64 33, .int .i64 10, .int .i64 34, .int .i64 34, .int .i64 11, .int .i64 40, .int .i64 40, .int .i64 8, .int .i64 41, .int .i64 41, .int .i64 9, .int .i64 44, .int .i64 44, .int .i64 13, .int .i64 45, .int .i64 45, .int .i64 12, .int .i64 46, .int .i64 47, .int .i64 13, .int .i64 48, .int .i64 57, .int .i64 2, .int .i64 58, .int .i64 59, .int .i64 13, .int .i64 63, .int .i64 63, .int .i64 10, .int .i64 91, .int .i64 91, .int .i64 8, .int .i64 93, .int .i64 93, .int .i64 9, .int .i64 123, .int .i64 123, .int .i64 8, .int .i64 125, .int .i64 125, .int .i64 9, .int .i64 160, .int .i64 160, .int .i64 5, .int .i64 173, .int .i64 173, .int .i64 14, .int .i64 1632, .int .i64 1641, .int .i64 2, .int .i64 8203, .int .i64 8203, .int .i64 6, .int .i64 8205, .int .i64 8205, .int .i64 7, .int .i64 19968, .int .i64 40959, .int .i64 15]) (ok := fun _ => True) (okp := fun _ => True) ?hr ?hp (fun _ hk => hk) trivial (Below.refl _ _) (Nat.le_refl _) (by simp) ?_; (case hd => rfl); (case hg => rfl); (case hr => first | (go_simp; done) | (go_simp; rfl)); (case hp => exact (Reps.c3 (show Kd.M k120 _ _ _ (⟨9, 9, 14⟩ : S120) [.int .i64 9, .int .i64 9, .int .i64 14] from (k120_mkM _ _ _ (⟨9, 9, 14⟩ : S120) )) (Reps.c3 (show Kd.M k120 _ _ _ (⟨10, 10, 4⟩ : S120) [.int .i64 10, .int .i64 10, .int .i64 4] from (k120_mkM _ _ _ (⟨10, 10, 4⟩ : S120) )) (Reps.c3 (show Kd.M k120 _ _ _ (⟨32, 32, 3⟩ : S120) [.int .i64 32, .int .i64 32, .int .i64 3] from (k120_mkM _ _ _ (⟨32, 32, 3⟩ : S120) )) (Reps.c3 (show Kd.M k120 _ _ _ (⟨33, 33, 10⟩ : S120) [.int .i64 33, .int .i64 33, .int .i64 10] from (k120_mkM _ _ _ (⟨33, 33, 10⟩ : S120) )) (Reps.c3 (show Kd.M k120 _ _ _ (⟨34, 34, 11⟩ : S120) [.int .i64 34, .int .i64 34, .int .i64 11] from (k120_mkM _ _ _ (⟨34, 34, 11⟩ : S120) )) (Reps.c3 (show Kd.M k120 _ _ _ (⟨40, 40, 8⟩ : S120) [.int .i64 40, .int .i64 40, .int .i64 8] from (k120_mkM _ _ _ (⟨40, 40, 8⟩ : S120) )) (Reps.c3 (show Kd.M k120 _ _ _ (⟨41, 41, 9⟩ : S120) [.int .i64 41, .int .i64 41, .int .i64 9] from (k120_mkM _ _ _ (⟨41, 41, 9⟩ : S120) )) (Reps.c3 (show Kd.M k120 _ _ _ (⟨44, 44, 13⟩ : S120) [.int .i64 44, .int .i64 44, .int .i64 13] from (k120_mkM _ _ _ (⟨44, 44, 13⟩ : S120) )) (Reps.c3 (show Kd.M k120 _ _ _ (⟨45, 45, 12⟩ : S120) [.int .i64 45, .int .i64 45, .int .i64 12] from (k120_mkM _ _ _ (⟨45, 45, 12⟩ : S120) )) (Reps.c3 (show Kd.M k120 _ _ _ (⟨46, 47, 13⟩ : S120) [.int .i64 46, .int .i64 47, .int .i64 13] from (k120_mkM _ _ _ (⟨46, 47, 13⟩ : S120) )) (Reps.c3 (show Kd.M k120 _ _ _ (⟨48, 57, 2⟩ : S120) [.int .i64 48, .int .i64 57, .int .i64 2] from (k120_mkM _ _ _ (⟨48, 57, 2⟩ : S120) )) (Reps.c3 (show Kd.M k120 _ _ _ (⟨58, 59, 13⟩ : S120) [.int .i64 58, .int .i64 59, .int .i64 13] from (k120_mkM _ _ _ (⟨58, 59, 13⟩ : S120) )) (Reps.c3 (show Kd.M k120 _ _ _ (⟨63, 63, 10⟩ : S120) [.int .i64 63, .int .i64 63, .int .i64 10] from (k120_mkM _ _ _ (⟨63, 63, 10⟩ : S120) )) (Reps.c3 (show Kd.M k120 _ _ _ (⟨91, 91, 8⟩ : S120) [.int .i64 91, .int .i64 91, .int .i64 8] from (k120_mkM _ _ _ (⟨91, 91, 8⟩ : S120) )) (Reps.c3 (show Kd.M k120 _ _ _ (⟨93, 93, 9⟩ : S120) [.int .i64 93, .int .i64 93, .int .i64 9] from (k120_mkM _ _ _ (⟨93, 93, 9⟩ : S120) )) (Reps.c3 (show Kd.M k120 _ _ _ (⟨123, 123, 8⟩ : S120) [.int .i64 123, .int .i64 123, .int .i64 8] from (k120_mkM _ _ _ (⟨123, 123, 8⟩ : S120) )) (Reps.c3 (show Kd.M k120 _ _ _ (⟨125, 125, 9⟩ : S120) [.int .i64 125, .int .i64 125, .int .i64 9] from (k120_mkM _ _ _ (⟨125, 125, 9⟩ : S120) )) (Reps.c3 (show Kd.M k120 _ _ _ (⟨160, 160, 5⟩ : S120) [.int .i64 160, .int .i64 160, .int .i64 5] from (k120_mkM _ _ _ (⟨160, 160, 5⟩ : S120) )) (Reps.c3 (show Kd.M k120 _ _ _ (⟨173, 173, 14⟩ : S120) [.int .i64 173, .int .i64 173, .int .i64 14] from (k120_mkM _ _ _ (⟨173, 173, 14⟩ : S120) )) (Reps.c3 (show Kd.M k120 _ _ _ (⟨1632, 1641, 2⟩ : S120) [.int .i64 1632, .int .i64 1641, .int .i64 2] from (k120_mkM _ _ _ (⟨1632, 1641, 2⟩ : S120) )) (Reps.c3 (show Kd.M k120 _ _ _ (⟨8203, 8203, 6⟩ : S120) [.int .i64 8203, .int .i64 8203, .int .i64 6] from (k120_mkM _ _ _ (⟨8203, 8203, 6⟩ : S120) )) (Reps.c3 (show Kd.M k120 _ _ _ (⟨8205, 8205, 7⟩ : S120) [.int .i64 8205, .int .i64 8205, .int .i64 7] from (k120_mkM _ _ _ (⟨8205, 8205, 7⟩ : S120) )) (Reps.c3 (show Kd.M k120 _ _ _ (⟨19968, 40959, 15⟩ : S120) [.int .i64 19968, .int .i64 40959, .int .i64 15] from (k120_mkM _ _ _ (⟨19968, 40959, 15⟩ : S120) )) (Reps.none _ _))))))))))))))))))))))))); intro v290 w1 ho2 hb hg_ hnew_; clear hg_ hnew_; (first | rw [← Ny289.out] at ho2 | (simp only [Int.reduceToNat] at ho2; rw [← Ny289.out] at ho2)); have n0_ := az (Kd.R_lower ho2 (below_size (zA HB.out))); have n1_ := az (below_step (zA HB.out) hb); clear HB; have HO291 := n0_; have HB := n1_; clear n0_ n1_; clear hb ho2))
 go_ret; exact ⟨_, zF, zC HO291.out, zA HB.out⟩
def impl_RuneLine.j0 : Nat → Int → Bool → Option (Int)
 | 0, _, _ => none
 | k + 1, x0, x11 => if x11 = true then (some 7) else ((impl_lineReaches.f).bind fun t293 => ((impl_find.f t293 x0 1).bind fun t296 => (some t296)))
def impl_RuneLine.f (k : Nat) (a0 : Int) : Option (Int) := (impl_RuneBidi.f a0).bind fun t292 => (if t292 = 9 then (impl_RuneLine.j0 k a0 true) else (impl_RuneLine.j0 k a0 (decide (t292 ≥ 14))))
theorem impl_RuneLine.mono_l : ∀ k, (∀ y0 y1, LeO (impl_RuneLine.j0 k y0 y1) (impl_RuneLine.j0 (k + 1) y0 y1))
 | 0 => fun _ _ r h => by simp [impl_RuneLine.j0] at h
 | k + 1 => by
  have ih0 := impl_RuneLine.mono_l k
  ·
   intro y0 y1; unfold impl_RuneLine.j0
   repeat' first
   | (with_reducible exact ih0 _ _)
   | (with_reducible exact LeO.refl _)
   | (with_reducible exact LeO.none _)
   | (with_reducible refine LeO.ite ?_ ?_)
   | (with_reducible refine LeO.bind ?_ (fun _ => ?_))
   | exact ih0 _ _
   | exact LeO.none _
   | refine LeO.ite ?_ ?_
   | refine LeO.bind ?_ (fun _ => ?_)
theorem impl_RuneLine.mono : ∀ a0 k, LeO (impl_RuneLine.f k a0) (impl_RuneLine.f (k + 1) a0) := by
 intro a0 k; have ih0 := impl_RuneLine.mono_l k; unfold impl_RuneLine.f
 repeat' first
   | (with_reducible exact ih0 _ _)
   | (with_reducible exact LeO.refl _)
   | (with_reducible exact LeO.none _)
   | (with_reducible refine LeO.ite ?_ ?_)
   | (with_reducible refine LeO.bind ?_ (fun _ => ?_))
   | exact ih0 _ _
   | exact LeO.none _
   | refine LeO.ite ?_ ?_
   | refine LeO.bind ?_ (fun _ => ?_)
theorem impl_RuneLine.calls (k : Nat) (a0 : Int) (r : Int) (w : World) (h : impl_RuneLine.f k a0 = some r) :
  Calls Tryz.prog 81 #[.int .i64 a0] w fun e w' => e = .returned (.int .i64 r) ∧ Below w.heap.size w w' := by
 have HB := az (Below.refl w.heap.size w); have H : ((impl_RuneBidi.f a0).bind fun t292 => (if t292 = 9 then (impl_RuneLine.j0 k a0 true) else (impl_RuneLine.j0 k a0 (decide (t292 ≥ 14))))) = some r := h; clear h; replace H := Option.bind_eq_some_iff.mp H; obtain ⟨t292, A20, H⟩ := H; replace H : (if t292 = 9 then (impl_RuneLine.j0 k a0 true) else (impl_RuneLine.j0 k a0 (decide (t292 ≥ 14)))) = some r := H; have A2 := az A20; clear A20; have HC3 := az H; clear H; go_enter Tryz.func81, Tryz.ntmps81; go_upto_region 2 with (first | ((with_reducible refine gate_callee (f := 115) rfl ?_); refine goesL_ (some 5) rfl rfl Tryz.func115 (by kernel_rfl) rfl #[.int .i64 a0] rfl zD ?_; (with_reducible refine (impl_RuneBidi.calls a0 t292 _ A2.out).mono ?_); rintro e w4 ⟨rfl, hb⟩; refine ⟨_, rfl, ?_⟩; have n0_ := az (below_step (zA HB.out) hb); clear HB; have HB := n0_; clear n0_; (try clear hb); (try clear hb2); (try clear hk); (try clear hi)))
 (try simp only [Act.put, List.setIfInBounds_toArray, List.set_cons_zero, List.set_cons_succ]); go_cut [11] (fun v11 wc => ∃ (kq : Nat) (x11_2 : Bool), v11 = .bool x11_2 ∧ Aside0 (impl_RuneLine.j0 kq a0 x11_2 = some r) ∧ Aside0 (kq ≤ k) ∧ Aside0 (Below w.heap.size w wc))
 case first =>
  have H := HC3.out; clear HC3; by_cases c5 : t292 = 9
  ·
   rw [if_pos c5] at H; have c5b0 : (t292 == 9) = true := beq_iff_eq.mpr c5; have c5b1 : (t292 != 9) = false := bne_eq_false_iff_eq.mpr c5; clear c5; (first | rw [c5b0] | (simp only [i64_w, i32_w]; rw [c5b0]) | skip); have H' := az H; clear H; go_wp2; go_meet
   case rel => exact ⟨_, (true), zB, H', ⟨zK⟩, ⟨zA HB.out⟩⟩
  ·
   rw [if_neg c5] at H; have c5b0 : (t292 == 9) = false := beq_eq_false_iff_ne.mpr c5; have c5b1 : (t292 != 9) = true := bne_iff_ne.mpr c5; (first | rw [c5b0] | (simp only [i64_w, i32_w]; rw [c5b0]) | skip); have H' := az H; clear H; go_wp2; go_meet
   case rel => exact ⟨_, (decide (t292 ≥ 14)), zB, H', ⟨zK⟩, ⟨zA HB.out⟩⟩
 case rest =>
  clear HC3; (try clear c1); (try clear p2); (try clear c5); (try clear c5b0); (try clear c5b1); obtain ⟨kq, x11_2, rfl, HA, HJ2, HB⟩ := hcut
  cases kq with
  | zero => exact absurd HA.out (by simp [impl_RuneLine.j0])
  | succ kj2 =>
   have H := HA.out; clear HA; simp only [impl_RuneLine.j0] at H; by_cases c6 : x11_2 = true
   ·
    subst c6; have H1 : (some 7) = some r := by rw [if_pos rfl] at H; exact H
    clear H; have H := H1; clear H1; obtain rfl := Option.some.inj H; go_wp2; go_ret; exact ⟨zF, zA HB.out⟩
   ·
    replace c6 := Bool.eq_false_iff.mpr c6; subst c6; have H1 : ((impl_lineReaches.f).bind fun t293 => ((impl_find.f t293 a0 1).bind fun t296 => (some t296))) = some r := by rw [if_neg (show ¬ (false = true) by decide)] at H; exact H
    clear H; have H := H1; clear H1; replace H := Option.bind_eq_some_iff.mp H; obtain ⟨t293, A70, H⟩ := H; replace H : ((impl_find.f t293 a0 1).bind fun t296 => (some t296)) = some r := H; have A7 := az A70; clear A70; replace H := Option.bind_eq_some_iff.mp H; obtain ⟨t296, A80, H⟩ := H; replace H : (some t296) = some r := H; have A8 := az A80; clear A80; obtain rfl := Option.some.inj H; go_wp2_with (first | ((with_reducible refine gate_callee (f := 117) rfl ?_); refine goesL_ (some 12) rfl rfl Tryz.func117 (by kernel_rfl) rfl #[] rfl zD ?_; (with_reducible refine (impl_lineReaches.calls  t293 _ A7.out).mono ?_); rintro e w9 ⟨v294, rfl, ho0, hb⟩; refine ⟨_, rfl, ?_⟩; have n0_ := az (Kd.R_lower ho0 (below_size (zA HB.out))); have n1_ := az (below_step (zA HB.out) hb); clear HB; have HO295 := n0_; have HB := n1_; clear n0_ n1_; (try clear hb); (try clear hb2); (try clear hk); (try clear hi); (try clear ho0); obtain ⟨Ao10, co10, eo10⟩ := Kd.R_slice HO295.out; subst eo10) | ((with_reducible refine gate_callee (f := 116) rfl ?_); refine goesL_ (some 14) rfl rfl Tryz.func116 (by kernel_rfl) rfl #[.slice Ao10 t293.length co10, .int .i64 a0, .int .i64 1] rfl zD ?_; (with_reducible refine (impl_find.calls _ _ t293 a0 1 t296 _ ?side1 ?side2 A8.out).mono ?_); (case side1 => exact (zM HO295.out)); (case side2 => exact (Kd.R_reads' HO295.out).2.1); rintro e w11 ⟨rfl, hb⟩; refine ⟨_, rfl, ?_⟩; have n0_ := az (Kd.R_below (zC HO295.out) hb); have n1_ := az (below_step (zA HB.out) hb); clear HO295; clear HB; have HO295 := n0_; have HB := n1_; clear n0_ n1_; (try clear hb); (try clear hb2); (try clear hk); (try clear hi))); go_ret; exact ⟨zF, zA HB.out⟩
end Go.Proofs.YtmcdcogedcbndaaGreat.S
