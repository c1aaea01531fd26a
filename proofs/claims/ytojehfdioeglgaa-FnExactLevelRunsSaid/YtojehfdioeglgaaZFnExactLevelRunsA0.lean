/- The program's LevelRuns answers as the reference's, for every list of whole numbers and every level at first; it writes into no argument and its answer is memory of its own, row by row. No condition beyond the statement's own. (text 1 of 5 of this claim: functions of the program and of the reference as plain Lean functions, what a call of each comes to, and what follows.) -/
import Derived.Test.YtojehfdioeglgaaProg
import Derived.Test.YtojehfdioeglgaaWWords
import Derived.Test.YtojehfdioeglgaaWLast
import Derived.Test.YtojehfdioeglgaaWQPut
import Derived.Test.YtojehfdioeglgaaWApart
import Derived.Test.YtojehfdioeglgaaWArr
import Derived.Test.YtojehfdioeglgaaWZeros
import Derived.Test.YtojehfdioeglgaaWFoot
import Derived.Test.YtojehfdioeglgaaWKept
import Derived.Test.YtojehfdioeglgaaWShare
import Derived.Test.YtojehfdioeglgaaWN
import Derived.Test.YtojehfdioeglgaaWRepsOne
import Derived.Test.YtojehfdioeglgaaWNEv
import Derived.Test.YtojehfdioeglgaaWMore
import Derived.Below
import Derived.Deep.Draws
import Derived.Deep.AppendLies
import Derived.Maps.AppendAt
import Derived.OwnWalk
import Derived.Laws.BytesArg
import Derived.Laws.MakeOwn
import Derived.Laws.OwnMore
import Derived.Deep.OwnRows
import Derived.Tactics
import Derived.Lib.ConvBytes
import Derived.Laws.Slices
import Derived.WalkKit
import Derived.KernelRfl
import Derived.RowKit3
import Derived.Deep.LoopGhost
import Derived.Deep.QuietTactic
import Derived.BigQuiet
import Derived.WideLaws
import Derived.Deep.DeepCutAuto
import Derived.Deep.CutBlock
import Derived.Deep.RegionHeld3
import Derived.Laws.Rows
import Derived.Lib.AppendStr
import Derived.ArgAppend
import Derived.Laws.IdiomCopy
import Derived.OrdersHeld
import Derived.Laws.BitsLemmas
import Derived.RowKit
import Derived.Maps.Own
import Derived.Maps.OwnOps
import Derived.Maps.Views
import Derived.Shelf.Abstract
import Derived.BigRegion
import Derived.ChangeMaps5
import Derived.Deep.RegionLaw
import Derived.LaidEqlPtr
import Derived.Laws.Cover3
import Derived.RegionTactic
import Derived.WalkArith
import Derived.WideKeyEntry
set_option maxHeartbeats 16000000
set_option maxRecDepth 100000
namespace Go.Proofs.Ytojehfdioeglgaa.S
open Go.RowKit Go.Proofs.YtojehfdioeglgaaW.PrintWords Go.Proofs.YtojehfdioeglgaaW.PrintLast
theorem az {p : Prop} (h : p) : Aside0 p := ⟨h⟩
set_option linter.unusedVariables false
set_option linter.unusedSimpArgs false
def errW : Option Int → Value
 | none => .nilIface
 | some c => .iface 0 (.int .i64 c)
theorem errW_none : errW none = .nilIface := rfl
theorem errW_some (c : Int) : errW (some c) = .iface 0 (.int .i64 c) := rfl
theorem info3 : (Try.prog.info? 3).map (fun i => (i.zero, i.size, i.bytes)) = some (some (.int .i64 0), 1, 8) := by kernel_rfl
theorem info22 : (Try.prog.info? 22).map (fun i => (i.zero, i.size, i.bytes)) = some (some (.slice none 0 0), 1, 24) := by kernel_rfl
theorem info62 : (Try.prog.info? 62).map (fun i => (i.zero, i.size, i.bytes)) = some (some (.agg #[(.slice none 0 0), (.int .i64 0)]), 2, 32) := by kernel_rfl
def rd_L1 (xs : List (List Int)) (i : Int) : (List Int) := xs.getD i.toNat ([] : List Int)
theorem at_L1 {w : World} {A : Option Addr} {n : Nat} {xs : List (List Int)} (h : Kd.C (Kd.slice 3 (Kd.int .i64)) w A n xs) (i : Int) (h0 : 0 ≤ i) (h1 : i < n) : ∃ ad A0 c0, A = some ad ∧ w.cell? (ad.add i.toNat) = some (.slice A0 (rd_L1 xs i).length c0) ∧ (rd_L1 xs i).length ≤ c0 ∧ (Kd.int .i64).C w A0 (rd_L1 xs i).length (rd_L1 xs i) := by
 obtain ⟨ad, c, e, _, hK, hc0⟩ := Kd.C_get h ([] : List Int) i h0 h1
 have hc : ∀ j u, c[j]? = some u → w.cell? (ad.add (i.toNat * 1 + j)) = some u := hc0
 obtain ⟨A0, c0, rfl, l0, g0⟩ := hK
 exact ⟨ad, A0, c0, e, by have hq := hc 0 _ rfl; rwa [Nat.mul_one, Nat.add_zero] at hq, l0, g0⟩
structure S74 where
 f0 : Int
 f1 : Int
 f2 : Bool
def z74 : S74 := ⟨(0 : Int), (0 : Int), false⟩
def k74 : Kd S74 := Kd.iso (Kd.pair (Kd.int .i64) (Kd.pair (Kd.int .i64) Kd.bool)) (fun x : S74 => (x.f0, x.f1, x.f2))
theorem k74_open {w : World} {x : S74} {cs : List Value} (h : k74.K w x cs) : cs = [.int .i64 x.f0, .int .i64 x.f1, .bool x.f2] := by
 obtain ⟨_, _, rfl, rfl, ⟨_, _, rfl, rfl, rfl⟩⟩ := h
 exact rfl
theorem k74_mkM (w : World) (base : Nat) (ok : Nat → Prop) (x : S74)  : k74.M w base ok x [.int .i64 x.f0, .int .i64 x.f1, .bool x.f2] := ⟨[.int .i64 x.f0], [.int .i64 x.f1, .bool x.f2], rfl, rfl, ⟨[.int .i64 x.f1], [.bool x.f2], rfl, rfl, rfl⟩⟩
def rd_T74 (xs : List S74) (i : Int) : S74 := xs.getD i.toNat z74
theorem at_T74 {w : World} {A : Option Addr} {n : Nat} {xs : List S74} (h : Kd.C k74 w A n xs) (i : Int) (h0 : 0 ≤ i) (h1 : i < n) : ∃ ad , A = some ad ∧ w.cell? (ad.add (i.toNat * 3)) = some (.int .i64 (rd_T74 xs i).f0) ∧ w.cell? ⟨(ad.add (i.toNat * 3)).block, (ad.add (i.toNat * 3)).off + 1, none⟩ = some (.int .i64 (rd_T74 xs i).f1) ∧ w.cell? ⟨(ad.add (i.toNat * 3)).block, (ad.add (i.toNat * 3)).off + 2, none⟩ = some (.bool (rd_T74 xs i).f2) := by
 obtain ⟨ad, c, e, _, hK, hc0⟩ := Kd.C_get h z74 i h0 h1
 have hc : ∀ j u, c[j]? = some u → w.cell? (ad.add (i.toNat * 3 + j)) = some u := hc0
 obtain rfl := k74_open hK
 exact ⟨ad, e, hc 0 _ rfl, by rw [← add_field _ _ 1 (by omega)]; exact hc 1 _ rfl, by rw [← add_field _ _ 2 (by omega)]; exact hc 2 _ rfl⟩
structure S87 where
 f0 : Int
 f1 : Int
 f2 : Bool
structure S108 where
 f0 : Int
 f1 : Int
 f2 : Int
def z108 : S108 := ⟨(0 : Int), (0 : Int), (0 : Int)⟩
def k108 : Kd S108 := Kd.iso (Kd.pair (Kd.int .i64) (Kd.pair (Kd.int .i64) (Kd.int .i64))) (fun x : S108 => (x.f0, x.f1, x.f2))
theorem k108_open {w : World} {x : S108} {cs : List Value} (h : k108.K w x cs) : cs = [.int .i64 x.f0, .int .i64 x.f1, .int .i64 x.f2] := by
 obtain ⟨_, _, rfl, rfl, ⟨_, _, rfl, rfl, rfl⟩⟩ := h
 exact rfl
theorem k108_mkM (w : World) (base : Nat) (ok : Nat → Prop) (x : S108)  : k108.M w base ok x [.int .i64 x.f0, .int .i64 x.f1, .int .i64 x.f2] := ⟨[.int .i64 x.f0], [.int .i64 x.f1, .int .i64 x.f2], rfl, rfl, ⟨[.int .i64 x.f1], [.int .i64 x.f2], rfl, rfl, rfl⟩⟩
def rd_T108 (xs : List S108) (i : Int) : S108 := xs.getD i.toNat z108
theorem at_T108 {w : World} {A : Option Addr} {n : Nat} {xs : List S108} (h : Kd.C k108 w A n xs) (i : Int) (h0 : 0 ≤ i) (h1 : i < n) : ∃ ad , A = some ad ∧ w.cell? (ad.add (i.toNat * 3)) = some (.int .i64 (rd_T108 xs i).f0) ∧ w.cell? ⟨(ad.add (i.toNat * 3)).block, (ad.add (i.toNat * 3)).off + 1, none⟩ = some (.int .i64 (rd_T108 xs i).f1) ∧ w.cell? ⟨(ad.add (i.toNat * 3)).block, (ad.add (i.toNat * 3)).off + 2, none⟩ = some (.int .i64 (rd_T108 xs i).f2) := by
 obtain ⟨ad, c, e, _, hK, hc0⟩ := Kd.C_get h z108 i h0 h1
 have hc : ∀ j u, c[j]? = some u → w.cell? (ad.add (i.toNat * 3 + j)) = some u := hc0
 obtain rfl := k108_open hK
 exact ⟨ad, e, hc 0 _ rfl, by rw [← add_field _ _ 1 (by omega)]; exact hc 1 _ rfl, by rw [← add_field _ _ 2 (by omega)]; exact hc 2 _ rfl⟩
structure S62 where
 f0 : (List Int)
 f1 : Int
def z62 : S62 := ⟨([] : List Int), (0 : Int)⟩
def k62 : Kd S62 := Kd.iso (Kd.pair (Kd.slice 3 (Kd.int .i64)) (Kd.int .i64)) (fun x : S62 => (x.f0, x.f1))
theorem k62_open {w : World} {x : S62} {cs : List Value} (h : k62.K w x cs) : ∃ A0 c0, cs = [.slice A0 x.f0.length c0, .int .i64 x.f1] ∧ x.f0.length ≤ c0 ∧ (Kd.int .i64).C w A0 x.f0.length x.f0 := by
 obtain ⟨_, _, rfl, ⟨A0, c0, rfl, l0, g0⟩, rfl⟩ := h
 exact ⟨A0, c0, rfl, l0, g0⟩
theorem k62_openM {w : World} {base : Nat} {ok : Nat → Prop} {x : S62} {cs : List Value} (h : k62.M w base ok x cs) : ∃ v0, cs = [v0, .int .i64 x.f1] ∧ (Kd.int .i64).R 3 w base ok v0 x.f0 := by
 obtain ⟨_, _, rfl, ⟨v0, rfl, g0⟩, rfl⟩ := h
 exact ⟨v0, rfl, g0⟩
theorem k62_mkM (w : World) (base : Nat) (ok : Nat → Prop) (x : S62) {v0 : Value} (g0 : (Kd.int .i64).R 3 w base ok v0 x.f0) : k62.M w base ok x [v0, .int .i64 x.f1] := ⟨[v0], [.int .i64 x.f1], rfl, ⟨v0, rfl, g0⟩, rfl⟩
def rd_T62 (xs : List S62) (i : Int) : S62 := xs.getD i.toNat z62
theorem at_T62 {w : World} {A : Option Addr} {n : Nat} {xs : List S62} (h : Kd.C k62 w A n xs) (i : Int) (h0 : 0 ≤ i) (h1 : i < n) : ∃ ad A0 c0, A = some ad ∧ w.cell? (ad.add (i.toNat * 2)) = some (.slice A0 (rd_T62 xs i).f0.length c0) ∧ w.cell? ⟨(ad.add (i.toNat * 2)).block, (ad.add (i.toNat * 2)).off + 1, none⟩ = some (.int .i64 (rd_T62 xs i).f1) ∧ (rd_T62 xs i).f0.length ≤ c0 ∧ (Kd.int .i64).C w A0 (rd_T62 xs i).f0.length (rd_T62 xs i).f0 := by
 obtain ⟨ad, c, e, _, hK, hc0⟩ := Kd.C_get h z62 i h0 h1
 have hc : ∀ j u, c[j]? = some u → w.cell? (ad.add (i.toNat * 2 + j)) = some u := hc0
 obtain ⟨A0, c0, rfl, l0, g0⟩ := k62_open hK
 exact ⟨ad, A0, c0, e, hc 0 _ rfl, by rw [← add_field _ _ 1 (by omega)]; exact hc 1 _ rfl, l0, g0⟩
def laws_toIntS.l0 : Nat → List Int → List Int → Int → Option (List Int)
 | 0, _, _, _ => none
 | k + 1, x0, x3, x4 => if x4 < (x0.length : Int) then (if 0 ≤ x4 then (if x4 < (x3.length : Int) then (laws_toIntS.l0 k x0 (x3.set (x4 : Int).toNat (rd x0 x4)) (wrap64 (x4 + 1))) else (none)) else (none)) else (some x3)
def laws_toIntS.f (k : Nat) (l0 : List Int) : Option (List Int) := if 0 ≤ (l0.length : Int) then (if ((l0.length : Int) : Int).toNat ≤ 35184372088832 then (laws_toIntS.l0 k l0 (List.replicate ((l0.length : Int) : Int).toNat 0) 0) else (none)) else (none)
theorem laws_toIntS.mono_l : ∀ k, (∀ y0 y1 y2, LeO (laws_toIntS.l0 k y0 y1 y2) (laws_toIntS.l0 (k + 1) y0 y1 y2))
 | 0 => fun _ _ _ r h => by simp [laws_toIntS.l0] at h
 | k + 1 => by
  have ih0 := laws_toIntS.mono_l k
  ·
   intro y0 y1 y2; unfold laws_toIntS.l0
   repeat' first
   | (with_reducible exact ih0 _ _ _)
   | (with_reducible exact LeO.refl _)
   | (with_reducible exact LeO.none _)
   | (with_reducible refine LeO.ite ?_ ?_)
   | (with_reducible refine LeO.bind ?_ (fun _ => ?_))
   | exact ih0 _ _ _
   | exact LeO.none _
   | refine LeO.ite ?_ ?_
   | refine LeO.bind ?_ (fun _ => ?_)
theorem laws_toIntS.mono : ∀ a0 k, LeO (laws_toIntS.f k a0) (laws_toIntS.f (k + 1) a0) := by
 intro a0 k; have ih0 := laws_toIntS.mono_l k; unfold laws_toIntS.f
 repeat' first
   | (with_reducible exact ih0 _ _ _)
   | (with_reducible exact LeO.refl _)
   | (with_reducible exact LeO.none _)
   | (with_reducible refine LeO.ite ?_ ?_)
   | (with_reducible refine LeO.bind ?_ (fun _ => ?_))
   | exact ih0 _ _ _
   | exact LeO.none _
   | refine LeO.ite ?_ ?_
   | refine LeO.bind ?_ (fun _ => ?_)
theorem laws_toIntS.calls (k : Nat) (A0 : Option Addr) (c0 : Nat) (l0 : List Int) (r : List Int) (w : World) (hr0 : Kd.C (Kd.int .i64) w A0 l0.length l0) (hc0 : l0.length ≤ c0) (h : laws_toIntS.f k l0 = some r) :
  Calls Try.prog 10 #[.slice A0 l0.length c0] w fun e w' => ∃ v0_ : Value, e = .returned (v0_) ∧ Kd.R (Kd.int .i64) 3 w' w.heap.size (fun _ => True) v0_ r ∧ Below w.heap.size w w' := by
 have HR0 := az hr0; have HC0 := az hc0; clear hr0 hc0; have HB := az (Below.refl w.heap.size w); have H : (if 0 ≤ (l0.length : Int) then (if ((l0.length : Int) : Int).toNat ≤ 35184372088832 then (laws_toIntS.l0 k l0 (List.replicate ((l0.length : Int) : Int).toNat 0) 0) else (none)) else (none)) = some r := h; clear h; by_cases c2 : 0 ≤ (l0.length : Int)
 ·
  rw [if_pos c2] at H; have c2b0 := eq_true c2; have c2b1 : decide (0 ≤ (l0.length : Int)) = true := decide_eq_true c2; clear c2; by_cases c3 : ((l0.length : Int) : Int).toNat ≤ 35184372088832
  ·
   rw [if_pos c3] at H; have c3b0 := eq_true c3; have c3b1 : decide (((l0.length : Int) : Int).toNat ≤ 35184372088832) = true := decide_eq_true c3; clear c3; obtain ⟨y167, hy167⟩ : ∃ y_ : List Int, y_ = (List.replicate ((l0.length : Int) : Int).toNat 0) := ⟨_, rfl⟩; replace H : (laws_toIntS.l0 k l0 y167 0) = some r := by first | (rw [hy167]; with_reducible exact H) | (have H2_ := (Option.bind_some _ _).symm.trans H; rw [hy167]; with_reducible exact H2_) | (have H2_ := (Option.bind_some _ _).symm.trans H; with_reducible exact H2_) | with_reducible exact H | (rw [hy167]; exact H) | exact H
   have Ny167 := az hy167; clear hy167; have H' := az H; clear H; go_enter Try.func10, Try.ntmps10; go_wp2_with (first | ((with_reducible refine gate_dst (N := 7) rfl ?_); refine Kd.R_make (Kd.int .i64) _ 3 rfl (N := 7) rfl 22 _ _ rfl (l0.length : Int) rfl rfl Try.underlying22 (.int .i64 0) 8 info3 rfl (by decide) (by omega) 0 (ok := fun _ => True) (okp := fun _ => True) rfl (fun _ hk => hk) trivial (of_decide_eq_true (by assumption)) (Nat.le_trans (Nat.mul_le_mul_right _ (of_decide_eq_true (by assumption) : (l0.length : Int).toNat ≤ 35184372088832)) (by omega)) (Below.refl _ _) (Nat.le_refl _) ?_; intro v168 w4 ho5 hb hg_ hnew_; clear hg_ hnew_; (first | rw [← Ny167.out] at ho5 | (simp only [Int.reduceToNat] at ho5; rw [← Ny167.out] at ho5)); have n0_ := az (Kd.R_lower ho5 (below_size (by repeat (first | (with_reducible first | exact HB.out | apply below_alloc | apply pw_below_drewN | apply below_drew1) | exact HB.out)))); have n1_ := az (below_step (by repeat (first | (with_reducible first | exact HB.out | apply below_alloc | apply pw_below_drewN | apply below_drew1) | exact HB.out)) hb); clear HB; have HO169 := n0_; have HB := n1_; clear n0_ n1_; clear hb ho5)); go_loopg [4] k (fun kq v4 w' => ∃ (x3_1 : List Int) (x4_1 : Int), v4 = .int .i64 x4_1 ∧ Aside0 (laws_toIntS.l0 kq l0 x3_1 x4_1 = some r) ∧ Aside0 (kq ≤ k) ∧ Aside0 (Kd.R (Kd.int .i64) 3 w' w.heap.size (fun _ => True) v168 x3_1) ∧ Aside0 (Below w.heap.size w w'))
   case atStart => exact ⟨(y167), (0), (by first | rfl | (simp; done) | (simp [*]; done)), H', ⟨Nat.le_refl _⟩, ⟨by (with_reducible repeat (first | apply Kd.R_alloc | apply Kd.R_drewN | apply Kd.R_drew)); exact HO169.out⟩, ⟨by repeat (first | (with_reducible first | exact HB.out | apply below_alloc | apply pw_below_drewN | apply below_drew1) | exact HB.out)⟩⟩
   case round =>
    clear H'; (try clear c1); (try clear c2); (try clear c2b0); (try clear c2b1); (try clear p2); (try clear c3); (try clear c3b0); (try clear c3b1); obtain ⟨x3_1, x4_1, rfl, HA, HK1, HO_3, HB⟩ := hrel
    cases gk with
    | zero => exact absurd HA.out (by simp [laws_toIntS.l0])
    | succ k1 =>
     have H := HA.out; clear HA; simp only [laws_toIntS.l0] at H; by_cases c6 : x4_1 < (l0.length : Int)
     ·
      rw [if_pos c6] at H; have c6b0 : decide (x4_1 < (l0.length : Int)) = true := decide_eq_true c6; clear c6; by_cases c7 : 0 ≤ x4_1
      ·
       rw [if_pos c7] at H; have c7b0 : decide (0 ≤ x4_1) = true := decide_eq_true c7; clear c7; by_cases c8 : x4_1 < (x3_1.length : Int)
       ·
        rw [if_pos c8] at H; have c8b0 : decide (x4_1 < (x3_1.length : Int)) = true := decide_eq_true c8; clear c8; obtain ⟨y171, hy171⟩ : ∃ y_ : List Int, y_ = (x3_1.set (x4_1 : Int).toNat (rd l0 x4_1)) := ⟨_, rfl⟩; replace H : (laws_toIntS.l0 k1 l0 y171 (wrap64 (x4_1 + 1))) = some r := by first | (rw [hy171]; with_reducible exact H) | (have H2_ := (Option.bind_some _ _).symm.trans H; rw [hy171]; with_reducible exact H2_) | (have H2_ := (Option.bind_some _ _).symm.trans H; with_reducible exact H2_) | with_reducible exact H | (rw [hy171]; exact H) | exact H
        have Ny171 := az hy171; clear hy171; have H' := az H; clear H; have p170 : 0 ≤ (x4_1 : Int) := of_decide_eq_true (by assumption); have q170 : x4_1 < (l0.length : Int) := of_decide_eq_true (by assumption); obtain ⟨ad170, e170, hx170_0⟩ := Kd.at_int HR0.out x4_1 p170 q170
        cases e170
        replace hx170_0 := (HB.out.cell (World.block_lt_of_cell? w _ hx170_0)).trans hx170_0; replace p170 := eq_true p170; replace q170 := eq_true q170; have p9 : 0 ≤ (x4_1 : Int) := of_decide_eq_true (by assumption); have q9 : (x4_1 : Int) < ((x3_1.length : Int) : Int) := of_decide_eq_true (by assumption); obtain ⟨go9, co9, eo9, gb9, gl9, cl9, HG9⟩ := Kd.R_form HO_3.out (by omega); (first | cases eo9 | (injection eo9 with ea_ en_ ec_; (first | subst ea_ | (injection ea_ with ea_; subst ea_)); subst ec_; clear en_)); have GB9 := az gb9; have GG9 := az HG9; clear gb9 gl9 HG9; obtain ⟨hx9_0, hf9_0⟩ := Kd.R_celln 0 HO_3.out (x4_1 : Int) p9 q9; replace p9 := eq_true p9; replace q9 := eq_true q9; have HP10 := Kd.R_putg HO_3.out (x4_1 : Int) (rd l0 x4_1); go_wp2_with (first | ((with_reducible refine gate_store (t := 3) (p := 20) rfl ?_); refine store_event (t := 3) (p := 20) (v := ?vo_w11) (w1 := (wr.setCell ⟨go9, (x4_1 : Int).toNat, none⟩ (.int .i64 (rd l0 x4_1)))) ?hg ?ho ?hn ?hr ?_; (case ho => rfl); (case hg => rfl); (case hn => rfl); (case hr => first | (go_simp; done) | (go_simp; rfl)); intro w11 hw; have hg : wr.grownBy w11 (some go9) := (by rw [hw]; exact HP10.2); have hp_ : Kd.R (Kd.int .i64) 3 w11 w.heap.size (fun _ => True) (.slice (some ⟨go9, 0, none⟩) x3_1.length co9) y171 := (by rw [hw, Ny171.out]; exact HP10.1); clear HP10; have n0_ := az (hp_); have n1_ := az ((by rw [hw]; exact below_set (HB.out) GB9.out : Below w.heap.size w w11)); clear HO_3; clear HB; have HO_3 := n0_; have HB := n1_; clear n0_ n1_; clear hg hw hp_)); go_roundg k1
        case measure => have := HK1.out; omega
        case rel => exact ⟨(y171), (wrap64 (x4_1 + 1)), (by first | rfl | (simp; done) | (simp [*]; done)), H', ⟨by have := HK1.out; omega⟩, ⟨by (with_reducible repeat (first | apply Kd.R_alloc | apply Kd.R_drewN | apply Kd.R_drew)); exact HO_3.out⟩, ⟨by repeat (first | (with_reducible first | exact HB.out | apply below_alloc | apply pw_below_drewN | apply below_drew1) | exact HB.out)⟩⟩
       ·
        rw [if_neg c8] at H; exact absurd H (by simp)
      ·
       rw [if_neg c7] at H; exact absurd H (by simp)
     ·
      rw [if_neg c6] at H; have c6b0 : decide (x4_1 < (l0.length : Int)) = false := decide_eq_false c6; clear c6; obtain rfl := Option.some.inj H; go_wp2; go_ret; exact ⟨_, by first | rfl | (simp [errW_none, errW_some] <;> rfl) | (simp [*, errW_none, errW_some] <;> rfl), by (with_reducible repeat (first | apply Kd.R_alloc | apply Kd.R_drewN | apply Kd.R_drew)); exact HO_3.out, by repeat (first | (with_reducible first | exact HB.out | apply below_alloc | apply pw_below_drewN | apply below_drew1) | exact HB.out)⟩
  ·
   rw [if_neg c3] at H; exact absurd H (by simp)
 ·
  rw [if_neg c2] at H; exact absurd H (by simp)
def laws_eqIntS.l0 : Nat → List Int → List Int → Int → Option (Bool)
 | 0, _, _, _ => none
 | k + 1, x0, x1, x5 => if x5 < (x0.length : Int) then (if 0 ≤ x5 then (if x5 < (x1.length : Int) then (if (rd x0 x5) = (rd x1 x5) then (laws_eqIntS.l0 k x0 x1 (wrap64 (x5 + 1))) else (some false)) else (none)) else (none)) else (some true)
def laws_eqIntS.f (k : Nat) (l0 : List Int) (l1 : List Int) : Option (Bool) := if (l0.length : Int) = (l1.length : Int) then (laws_eqIntS.l0 k l0 l1 0) else (some false)
theorem laws_eqIntS.mono_l : ∀ k, (∀ y0 y1 y2, LeO (laws_eqIntS.l0 k y0 y1 y2) (laws_eqIntS.l0 (k + 1) y0 y1 y2))
 | 0 => fun _ _ _ r h => by simp [laws_eqIntS.l0] at h
 | k + 1 => by
  have ih0 := laws_eqIntS.mono_l k
  ·
   intro y0 y1 y2; unfold laws_eqIntS.l0
   repeat' first
   | (with_reducible exact ih0 _ _ _)
   | (with_reducible exact LeO.refl _)
   | (with_reducible exact LeO.none _)
   | (with_reducible refine LeO.ite ?_ ?_)
   | (with_reducible refine LeO.bind ?_ (fun _ => ?_))
   | exact ih0 _ _ _
   | exact LeO.none _
   | refine LeO.ite ?_ ?_
   | refine LeO.bind ?_ (fun _ => ?_)
theorem laws_eqIntS.mono : ∀ a0 a1 k, LeO (laws_eqIntS.f k a0 a1) (laws_eqIntS.f (k + 1) a0 a1) := by
 intro a0 a1 k; have ih0 := laws_eqIntS.mono_l k; unfold laws_eqIntS.f
 repeat' first
   | (with_reducible exact ih0 _ _ _)
   | (with_reducible exact LeO.refl _)
   | (with_reducible exact LeO.none _)
   | (with_reducible refine LeO.ite ?_ ?_)
   | (with_reducible refine LeO.bind ?_ (fun _ => ?_))
   | exact ih0 _ _ _
   | exact LeO.none _
   | refine LeO.ite ?_ ?_
   | refine LeO.bind ?_ (fun _ => ?_)
theorem laws_eqIntS.calls (k : Nat) (A0 : Option Addr) (c0 : Nat) (l0 : List Int) (A1 : Option Addr) (c1 : Nat) (l1 : List Int) (r : Bool) (w : World) (hr0 : Kd.C (Kd.int .i64) w A0 l0.length l0) (hc0 : l0.length ≤ c0) (hr1 : Kd.C (Kd.int .i64) w A1 l1.length l1) (hc1 : l1.length ≤ c1) (h : laws_eqIntS.f k l0 l1 = some r) :
  Calls Try.prog 12 #[.slice A0 l0.length c0, .slice A1 l1.length c1] w fun e w' => e = .returned (.bool r) ∧ Drawn0 w w' := by
 have HR0 := az hr0; have HC0 := az hc0; clear hr0 hc0; have HR1 := az hr1; have HC1 := az hc1; clear hr1 hc1; have H : (if (l0.length : Int) = (l1.length : Int) then (laws_eqIntS.l0 k l0 l1 0) else (some false)) = some r := h; clear h; by_cases c3 : (l0.length : Int) = (l1.length : Int)
 ·
  rw [if_pos c3] at H; have c3b0 : ((l0.length : Int) == (l1.length : Int)) = true := beq_iff_eq.mpr c3; have c3b1 : ((l0.length : Int) != (l1.length : Int)) = false := bne_eq_false_iff_eq.mpr c3; have c3b2 : (l0.length == l1.length) = true := by first | simpa using c3 | (simp at c3 ⊢; omega)
  clear c3; have H' := az H; clear H; go_enter Try.func12, Try.ntmps12; go_wp2; repeat (go_quiet (fail); try go_wp2)
  go_loopg [5] k (fun kq v5 w' => ∃ (x5_1 : Int), v5 = .int .i64 x5_1 ∧ Aside0 (laws_eqIntS.l0 kq l0 l1 x5_1 = some r) ∧ Aside0 (kq ≤ k) ∧ Drawn0 w w')
  case atStart => exact ⟨(0), (by first | rfl | (simp; done) | (simp [*]; done)), H', ⟨Nat.le_refl _⟩, by repeat (first | exact Drawn0.refl _ | apply Drawn0.step)⟩
  case round =>
   clear H'; (try clear c1); (try clear p2); (try clear c3); (try clear c3b0); (try clear c3b1); (try clear c3b2); obtain ⟨x5_1, rfl, HA, HK1, ⟨m1, rfl⟩⟩ := hrel
   cases gk with
   | zero => exact absurd HA.out (by simp [laws_eqIntS.l0])
   | succ k1 =>
    have H := HA.out; clear HA; simp only [laws_eqIntS.l0] at H; by_cases c4 : x5_1 < (l0.length : Int)
    ·
     rw [if_pos c4] at H; have c4b0 : decide (x5_1 < (l0.length : Int)) = true := decide_eq_true c4; clear c4; by_cases c5 : 0 ≤ x5_1
     ·
      rw [if_pos c5] at H; have c5b0 : decide (0 ≤ x5_1) = true := decide_eq_true c5; clear c5; by_cases c6 : x5_1 < (l1.length : Int)
      ·
       rw [if_pos c6] at H; have c6b0 : decide (x5_1 < (l1.length : Int)) = true := decide_eq_true c6; clear c6; by_cases c7 : (rd l0 x5_1) = (rd l1 x5_1)
       ·
        rw [if_pos c7] at H; have c7b0 : ((rd l0 x5_1) == (rd l1 x5_1)) = true := beq_iff_eq.mpr c7; have c7b1 : ((rd l0 x5_1) != (rd l1 x5_1)) = false := bne_eq_false_iff_eq.mpr c7; clear c7; have H' := az H; clear H; have p172 : 0 ≤ (x5_1 : Int) := of_decide_eq_true (by assumption); have q172 : x5_1 < (l0.length : Int) := of_decide_eq_true (by assumption); obtain ⟨ad172, e172, hx172_0⟩ := Kd.at_int HR0.out x5_1 p172 q172
        cases e172
        replace p172 := eq_true p172; replace q172 := eq_true q172; have p173 : 0 ≤ (x5_1 : Int) := of_decide_eq_true (by assumption); have q173 : x5_1 < (l1.length : Int) := of_decide_eq_true (by assumption); obtain ⟨ad173, e173, hx173_0⟩ := Kd.at_int HR1.out x5_1 p173 q173
        cases e173
        replace p173 := eq_true p173; replace q173 := eq_true q173; go_wp2; repeat (go_quiet (fail); try go_wp2)
        go_roundg k1
        case measure => have := HK1.out; omega
        case rel => exact ⟨(wrap64 (x5_1 + 1)), (by first | rfl | (simp; done) | (simp [*]; done)), H', ⟨by have := HK1.out; omega⟩, by repeat (first | exact Drawn0.refl _ | apply Drawn0.step)⟩
       ·
        rw [if_neg c7] at H; have c7b0 : ((rd l0 x5_1) == (rd l1 x5_1)) = false := beq_eq_false_iff_ne.mpr c7; have c7b1 : ((rd l0 x5_1) != (rd l1 x5_1)) = true := bne_iff_ne.mpr c7; obtain rfl := Option.some.inj H; have p172 : 0 ≤ (x5_1 : Int) := of_decide_eq_true (by assumption); have q172 : x5_1 < (l0.length : Int) := of_decide_eq_true (by assumption); obtain ⟨ad172, e172, hx172_0⟩ := Kd.at_int HR0.out x5_1 p172 q172
        cases e172
        replace p172 := eq_true p172; replace q172 := eq_true q172; have p173 : 0 ≤ (x5_1 : Int) := of_decide_eq_true (by assumption); have q173 : x5_1 < (l1.length : Int) := of_decide_eq_true (by assumption); obtain ⟨ad173, e173, hx173_0⟩ := Kd.at_int HR1.out x5_1 p173 q173
        cases e173
        replace p173 := eq_true p173; replace q173 := eq_true q173; go_wp2; repeat (go_quiet (fail); try go_wp2)
        go_ret; exact ⟨by first | rfl | (simp; done) | (simp [*]; done), by repeat (first | exact Drawn0.refl _ | apply Drawn0.step)⟩
      ·
       rw [if_neg c6] at H; exact absurd H (by simp)
     ·
      rw [if_neg c5] at H; exact absurd H (by simp)
    ·
     rw [if_neg c4] at H; have c4b0 : decide (x5_1 < (l0.length : Int)) = false := decide_eq_false c4; clear c4; obtain rfl := Option.some.inj H; go_wp2; repeat (go_quiet (fail); try go_wp2)
     go_ret; exact ⟨by first | rfl | (simp; done) | (simp [*]; done), by repeat (first | exact Drawn0.refl _ | apply Drawn0.step)⟩
 ·
  rw [if_neg c3] at H; have c3b0 : ((l0.length : Int) == (l1.length : Int)) = false := beq_eq_false_iff_ne.mpr c3; have c3b1 : ((l0.length : Int) != (l1.length : Int)) = true := bne_iff_ne.mpr c3; have c3b2 : (l0.length == l1.length) = false := by first | simpa using c3 | (simp at c3 ⊢; omega)
  obtain rfl := Option.some.inj H; go_enter Try.func12, Try.ntmps12; go_wp2; repeat (go_quiet (fail); try go_wp2)
  go_ret; exact ⟨by first | rfl | (simp; done) | (simp [*]; done), by repeat (first | exact Drawn0.refl _ | apply Drawn0.step)⟩
def laws_markIntS.l0 : Nat → List Int → Int → Int → Option (Int × List Int)
 | 0, _, _, _ => none
 | k + 1, x0, x1, x5 => if x5 < (x0.length : Int) then (if 0 ≤ x5 then (laws_markIntS.l0 k (x0.set (x5 : Int).toNat x1) (wrap64 (x1 + 1)) (wrap64 (x5 + 1))) else (none)) else (some (x1, x0))
def laws_markIntS.f (k : Nat) (l0 : List Int) (a1 : Int) : Option (Int × List Int) := laws_markIntS.l0 k l0 a1 0
theorem laws_markIntS.mono_l : ∀ k, (∀ y0 y1 y2, LeO (laws_markIntS.l0 k y0 y1 y2) (laws_markIntS.l0 (k + 1) y0 y1 y2))
 | 0 => fun _ _ _ r h => by simp [laws_markIntS.l0] at h
 | k + 1 => by
  have ih0 := laws_markIntS.mono_l k
  ·
   intro y0 y1 y2; unfold laws_markIntS.l0
   repeat' first
   | (with_reducible exact ih0 _ _ _)
   | (with_reducible exact LeO.refl _)
   | (with_reducible exact LeO.none _)
   | (with_reducible refine LeO.ite ?_ ?_)
   | (with_reducible refine LeO.bind ?_ (fun _ => ?_))
   | exact ih0 _ _ _
   | exact LeO.none _
   | refine LeO.ite ?_ ?_
   | refine LeO.bind ?_ (fun _ => ?_)
theorem laws_markIntS.mono : ∀ a0 a1 k, LeO (laws_markIntS.f k a0 a1) (laws_markIntS.f (k + 1) a0 a1) := by
 intro a0 a1 k; have ih0 := laws_markIntS.mono_l k; unfold laws_markIntS.f
 repeat' first
   | (with_reducible exact ih0 _ _ _)
   | (with_reducible exact LeO.refl _)
   | (with_reducible exact LeO.none _)
   | (with_reducible refine LeO.ite ?_ ?_)
   | (with_reducible refine LeO.bind ?_ (fun _ => ?_))
   | exact ih0 _ _ _
   | exact LeO.none _
   | refine LeO.ite ?_ ?_
   | refine LeO.bind ?_ (fun _ => ?_)
theorem laws_markIntS.calls (k : Nat) (P0_ : Nat → Prop) (u9000_ : Value) (l0 : List Int) (a1 : Int) (r1 : Int) (r2 : List Int) (w0 w : World) (hB : Below w0.heap.size w0 w) (ho0 : Kd.R (Kd.int .i64) 3 w w0.heap.size P0_ u9000_ l0) (h : laws_markIntS.f k l0 a1 = some (r1, r2)) :
  Calls Try.prog 13 #[u9000_, .int .i64 a1] w fun e w' => e = .returned (.int .i64 r1) ∧ Kd.R (Kd.int .i64) 3 w' w0.heap.size (fun k_ => (P0_ k_ ∨ w.heap.size ≤ k_)) u9000_ r2 ∧ Below w0.heap.size w0 w' ∧ Kept w w' (fun k_ => P0_ k_) := by
 have HO0 := az (show Kd.R (Kd.int .i64) 3 w w0.heap.size (fun k_ => (P0_ k_ ∨ w.heap.size ≤ k_)) u9000_ l0 from Kd.R_mono ho0 (fun k_ hk => (.inl hk))); have HK := az (Kept.refl w (fun k_ => P0_ k_)); have HW0 := az hB.size; have HB := az hB; clear hB; have H : (laws_markIntS.l0 k l0 a1 0) = some (r1, r2) := h; clear h; have H' := az H; clear H; go_enter Try.func13, Try.ntmps13; go_wp2; go_loopg [1, 5] k (fun kq v1 v5 w' => ∃ (x0_1 : List Int) (x1_1 : Int) (x5_1 : Int), v1 = .int .i64 x1_1 ∧ v5 = .int .i64 x5_1 ∧ Aside0 (laws_markIntS.l0 kq x0_1 x1_1 x5_1 = some (r1, r2)) ∧ Aside0 (kq ≤ k) ∧ Aside0 (Kd.R (Kd.int .i64) 3 w' w0.heap.size (fun k_ => (P0_ k_ ∨ w.heap.size ≤ k_)) u9000_ x0_1) ∧ Aside0 (Kept w w' (fun k_ => P0_ k_)) ∧ Aside0 (Below w0.heap.size w0 w'))
 case atStart => exact ⟨(l0), (a1), (0), (by first | rfl | (simp; done) | (simp [*]; done)), (by first | rfl | (simp; done) | (simp [*]; done)), H', ⟨Nat.le_refl _⟩, ⟨by (with_reducible repeat (first | apply Kd.R_alloc | apply Kd.R_drewN | apply Kd.R_drew)); exact HO0.out⟩, ⟨by repeat (first | (with_reducible first | exact HK.out | apply Kept.alloc | apply Kept.drewN | apply Kept.drew) | exact HK.out)⟩, ⟨by repeat (first | (with_reducible first | exact HB.out | apply below_alloc | apply pw_below_drewN | apply below_drew1) | exact HB.out)⟩⟩
 case round =>
  clear H'; (try clear c1); (try clear p2); obtain ⟨x0_1, x1_1, x5_1, rfl, rfl, HA, HK1, HO_0, HK, HB⟩ := hrel
  cases gk with
  | zero => exact absurd HA.out (by simp [laws_markIntS.l0])
  | succ k1 =>
   have H := HA.out; clear HA; simp only [laws_markIntS.l0] at H; by_cases c3 : x5_1 < (x0_1.length : Int)
   ·
    rw [if_pos c3] at H; have c3b0 : decide (x5_1 < (x0_1.length : Int)) = true := decide_eq_true c3; clear c3; by_cases c4 : 0 ≤ x5_1
    ·
     rw [if_pos c4] at H; have c4b0 : decide (0 ≤ x5_1) = true := decide_eq_true c4; clear c4; obtain ⟨y174, hy174⟩ : ∃ y_ : List Int, y_ = (x0_1.set (x5_1 : Int).toNat x1_1) := ⟨_, rfl⟩; replace H : (laws_markIntS.l0 k1 y174 (wrap64 (x1_1 + 1)) (wrap64 (x5_1 + 1))) = some (r1, r2) := by first | (rw [hy174]; with_reducible exact H) | (have H2_ := (Option.bind_some _ _).symm.trans H; rw [hy174]; with_reducible exact H2_) | (have H2_ := (Option.bind_some _ _).symm.trans H; with_reducible exact H2_) | with_reducible exact H | (rw [hy174]; exact H) | exact H
     have Ny174 := az hy174; clear hy174; have H' := az H; clear H; obtain ⟨Ao6, co6, eo6⟩ := Kd.R_slice HO_0.out; subst eo6; have p5 : 0 ≤ (x5_1 : Int) := of_decide_eq_true (by assumption); have q5 : (x5_1 : Int) < ((x0_1.length : Int) : Int) := of_decide_eq_true (by assumption); obtain ⟨go5, co5, eo5, gb5, gl5, cl5, HG5⟩ := Kd.R_form HO_0.out (by omega); (first | cases eo5 | (injection eo5 with ea_ en_ ec_; (first | subst ea_ | (injection ea_ with ea_; subst ea_)); subst ec_; clear en_)); have GB5 := az gb5; have GG5 := az HG5; clear gb5 gl5 HG5; have HMgo5 := az (show (P0_ go5 ∨ w.heap.size ≤ go5) from (HO_0.out.1 _ rfl)); obtain ⟨hx5_0, hf5_0⟩ := Kd.R_celln 0 HO_0.out (x5_1 : Int) p5 q5; replace p5 := eq_true p5; replace q5 := eq_true q5; have HP7 := Kd.R_putg HO_0.out (x5_1 : Int) x1_1; go_wp2_with (first | ((with_reducible refine gate_store (t := 3) (p := 15) rfl ?_); refine store_event (t := 3) (p := 15) (v := ?vo_w8) (w1 := (wr.setCell ⟨go5, (x5_1 : Int).toNat, none⟩ (.int .i64 x1_1))) ?hg ?ho ?hn ?hr ?_; (case ho => rfl); (case hg => rfl); (case hn => rfl); (case hr => first | (go_simp; done) | (go_simp; rfl)); intro w8 hw; have hg : wr.grownBy w8 (some go5) := (by rw [hw]; exact HP7.2); have hp_ : Kd.R (Kd.int .i64) 3 w8 w0.heap.size (fun k_ => (P0_ k_ ∨ w.heap.size ≤ k_)) (.slice (some ⟨go5, 0, none⟩) x0_1.length co6) y174 := (by rw [hw, Ny174.out]; exact HP7.1); clear HP7; have n0_ := az (hp_); have n1_ := az ((by rw [hw]; exact below_set (HB.out) GB5.out : Below w0.heap.size w0 w8)); have n2_ := az (Kept.of_grown (S := (fun k_ => P0_ k_)) hg (by repeat (first | (with_reducible first | exact HK.out | apply Kept.alloc | apply Kept.drewN | apply Kept.drew) | exact HK.out)) (fun k_ e_ => (HO_0.out.1 k_ e_))); clear HO_0; clear HB; clear HK; have HO_0 := n0_; have HB := n1_; have HK := n2_; clear n0_ n1_ n2_; clear hg hw hp_)); go_roundg k1
     case measure => have := HK1.out; omega
     case rel => exact ⟨(y174), (wrap64 (x1_1 + 1)), (wrap64 (x5_1 + 1)), (by first | rfl | (simp; done) | (simp [*]; done)), (by first | rfl | (simp; done) | (simp [*]; done)), H', ⟨by have := HK1.out; omega⟩, ⟨by (with_reducible repeat (first | apply Kd.R_alloc | apply Kd.R_drewN | apply Kd.R_drew)); exact HO_0.out⟩, ⟨by repeat (first | (with_reducible first | exact HK.out | apply Kept.alloc | apply Kept.drewN | apply Kept.drew) | exact HK.out)⟩, ⟨by repeat (first | (with_reducible first | exact HB.out | apply below_alloc | apply pw_below_drewN | apply below_drew1) | exact HB.out)⟩⟩
    ·
     rw [if_neg c4] at H; exact absurd H (by simp)
   ·
    rw [if_neg c3] at H; have c3b0 : decide (x5_1 < (x0_1.length : Int)) = false := decide_eq_false c3; clear c3; simp only [Option.some.injEq, Prod.mk.injEq] at H; obtain ⟨rfl, rfl⟩ := H; obtain ⟨Ao9, co9, eo9⟩ := Kd.R_slice HO_0.out; subst eo9; go_wp2; go_ret; exact ⟨by first | rfl | (simp [errW_none, errW_some] <;> rfl) | (simp [*, errW_none, errW_some] <;> rfl), by (with_reducible repeat (first | apply Kd.R_alloc | apply Kd.R_drewN | apply Kd.R_drew)); exact HO_0.out, by repeat (first | (with_reducible first | exact HB.out | apply below_alloc | apply pw_below_drewN | apply below_drew1) | exact HB.out), by repeat (first | (with_reducible first | exact HK.out | apply Kept.alloc | apply Kept.drewN | apply Kept.drew) | exact HK.out)⟩
def spec_l1In.f (a0 : Int) (a1 : Int) (a2 : Int) : Option (Bool) := if a0 ≥ a1 then (some (decide (a0 ≤ a2))) else (some false)
theorem spec_l1In.calls (a0 : Int) (a1 : Int) (a2 : Int) (r : Bool) (w : World) (h : spec_l1In.f a0 a1 a2 = some r) :
  Calls Try.prog 53 #[.int .i64 a0, .int .i64 a1, .int .i64 a2] w fun e w' => e = .returned (.bool r) ∧ Drawn0 w w' := by
 have H : (if a0 ≥ a1 then (some (decide (a0 ≤ a2))) else (some false)) = some r := h
 clear h
 by_cases c4 : a0 ≥ a1
 ·
  rw [if_pos c4] at H
  have c4b0 : decide (a1 ≤ a0) = true := decide_eq_true c4
  clear c4
  obtain rfl := Option.some.inj H
  go_enter Try.func53, Try.ntmps53
  go_wp2
  go_ret
  exact ⟨by first | rfl | (simp; done) | (simp [*]; done), by repeat (first | exact Drawn0.refl _ | apply Drawn0.step)⟩
 ·
  rw [if_neg c4] at H
  have c4b0 : decide (a1 ≤ a0) = false := decide_eq_false c4
  clear c4
  obtain rfl := Option.some.inj H
  go_enter Try.func53, Try.ntmps53
  go_wp2
  go_ret
  exact ⟨by first | rfl | (simp; done) | (simp [*]; done), by repeat (first | exact Drawn0.refl _ | apply Drawn0.step)⟩
def spec_l1Moves.l0 : Nat → Int → List Int → Int → Option (Int)
 | 0, _, _, _ => none
 | k + 1, x0, x3, x4 => if x4 < (x3.length : Int) then (if 0 ≤ x4 then (if (rd x3 x4) = x0 then (some (wrap64 (14 + x4))) else (spec_l1Moves.l0 k x0 x3 (wrap64 (x4 + 1)))) else (none)) else (some 13)
def spec_l1Moves.f (k : Nat) (a0 : Int) : Option (Int) := spec_l1Moves.l0 k a0 (([8234, 8235, 8236, 8237, 8238, 8294, 8295, 8296, 8297] : List Int)) 0
theorem spec_l1Moves.mono_l : ∀ k, (∀ y0 y1 y2, LeO (spec_l1Moves.l0 k y0 y1 y2) (spec_l1Moves.l0 (k + 1) y0 y1 y2))
 | 0 => fun _ _ _ r h => by simp [spec_l1Moves.l0] at h
 | k + 1 => by
  have ih0 := spec_l1Moves.mono_l k
  ·
   intro y0 y1 y2; unfold spec_l1Moves.l0
   repeat' first
   | (with_reducible exact ih0 _ _ _)
   | (with_reducible exact LeO.refl _)
   | (with_reducible exact LeO.none _)
   | (with_reducible refine LeO.ite ?_ ?_)
   | (with_reducible refine LeO.bind ?_ (fun _ => ?_))
   | exact ih0 _ _ _
   | exact LeO.none _
   | refine LeO.ite ?_ ?_
   | refine LeO.bind ?_ (fun _ => ?_)
theorem spec_l1Moves.mono : ∀ a0 k, LeO (spec_l1Moves.f k a0) (spec_l1Moves.f (k + 1) a0) := by
 intro a0 k; have ih0 := spec_l1Moves.mono_l k; unfold spec_l1Moves.f
 repeat' first
   | (with_reducible exact ih0 _ _ _)
   | (with_reducible exact LeO.refl _)
   | (with_reducible exact LeO.none _)
   | (with_reducible refine LeO.ite ?_ ?_)
   | (with_reducible refine LeO.bind ?_ (fun _ => ?_))
   | exact ih0 _ _ _
   | exact LeO.none _
   | refine LeO.ite ?_ ?_
   | refine LeO.bind ?_ (fun _ => ?_)
theorem spec_l1Moves.calls (k : Nat) (a0 : Int) (r : Int) (w : World) (h : spec_l1Moves.f k a0 = some r) :
  Calls Try.prog 80 #[.int .i64 a0] w fun e w' => e = .returned (.int .i64 r) ∧ Below w.heap.size w w' := by
 have HB := az (Below.refl w.heap.size w); have H : (spec_l1Moves.l0 k a0 (([8234, 8235, 8236, 8237, 8238, 8294, 8295, 8296, 8297] : List Int)) 0) = some r := h; clear h; obtain ⟨y297, hy297⟩ : ∃ y_ : List Int, y_ = (([8234, 8235, 8236, 8237, 8238, 8294, 8295, 8296, 8297] : List Int)) := ⟨_, rfl⟩; replace H : (spec_l1Moves.l0 k a0 y297 0) = some r := by first | (rw [hy297]; with_reducible exact H) | (have H2_ := (Option.bind_some _ _).symm.trans H; rw [hy297]; with_reducible exact H2_) | (have H2_ := (Option.bind_some _ _).symm.trans H; with_reducible exact H2_) | with_reducible exact H | (rw [hy297]; exact H) | exact H
 have Ny297 := az hy297; clear hy297; have H' := az H; clear H; go_enter Try.func80, Try.ntmps80; go_wp2_with (first | ((with_reducible refine gate_dst (N := 5) rfl ?_); refine Kd.R_lit (Kd.int .i64) _ 3 ?hg (N := 5) ?hd (xs := ([8234, 8235, 8236, 8237, 8238, 8294, 8295, 8296, 8297] : List Int)) (inner := [.int .i64 8234, .int .i64 8235, .int .i64 8236, .int .i64 8237, .int .i64 8238, .int .i64 8294, .int .i64 8295, .int .i64 8296, .int .i64 8297]) (ok := fun _ => True) (okp := fun _ => True) ?hr ?hp (fun _ hk => hk) trivial (Below.refl _ _) (Nat.le_refl _) (by simp) ?_; (case hd => rfl); (case hg => rfl); (case hr => first | (go_simp; done) | (go_simp; rfl)); (case hp => exact (Reps.one (show Kd.M (Kd.int .i64) _ _ _ 8234 [.int .i64 8234] from rfl) (Reps.one (show Kd.M (Kd.int .i64) _ _ _ 8235 [.int .i64 8235] from rfl) (Reps.one (show Kd.M (Kd.int .i64) _ _ _ 8236 [.int .i64 8236] from rfl) (Reps.one (show Kd.M (Kd.int .i64) _ _ _ 8237 [.int .i64 8237] from rfl) (Reps.one (show Kd.M (Kd.int .i64) _ _ _ 8238 [.int .i64 8238] from rfl) (Reps.one (show Kd.M (Kd.int .i64) _ _ _ 8294 [.int .i64 8294] from rfl) (Reps.one (show Kd.M (Kd.int .i64) _ _ _ 8295 [.int .i64 8295] from rfl) (Reps.one (show Kd.M (Kd.int .i64) _ _ _ 8296 [.int .i64 8296] from rfl) (Reps.one (show Kd.M (Kd.int .i64) _ _ _ 8297 [.int .i64 8297] from rfl) (Reps.none _ _))))))))))); intro v298 w2 ho3 hb hg_ hnew_; clear hg_ hnew_; (first | rw [← Ny297.out] at ho3 | (simp only [Int.reduceToNat] at ho3; rw [← Ny297.out] at ho3)); have n0_ := az (Kd.R_lower ho3 (below_size (by repeat (first | (with_reducible first | exact HB.out | apply below_alloc | apply pw_below_drewN | apply below_drew1) | exact HB.out)))); have n1_ := az (below_step (by repeat (first | (with_reducible first | exact HB.out | apply below_alloc | apply pw_below_drewN | apply below_drew1) | exact HB.out)) hb); clear HB; have HO299 := n0_; have HB := n1_; clear n0_ n1_; clear hb ho3)); go_loopg [4] k (fun kq v4 w' => ∃ (x4_1 : Int), v4 = .int .i64 x4_1 ∧ Aside0 (spec_l1Moves.l0 kq a0 y297 x4_1 = some r) ∧ Aside0 (kq ≤ k) ∧ Aside0 (Kd.R (Kd.int .i64) 3 w' w.heap.size (fun _ => True) v298 y297) ∧ Aside0 (Below w.heap.size w w'))
 case atStart => exact ⟨(0), (by first | rfl | (simp; done) | (simp [*]; done)), H', ⟨Nat.le_refl _⟩, ⟨by (with_reducible repeat (first | apply Kd.R_alloc | apply Kd.R_drewN | apply Kd.R_drew)); exact HO299.out⟩, ⟨by repeat (first | (with_reducible first | exact HB.out | apply below_alloc | apply pw_below_drewN | apply below_drew1) | exact HB.out)⟩⟩
 case round =>
  clear H'; (try clear p2); obtain ⟨x4_1, rfl, HA, HK1, HO_3, HB⟩ := hrel
  cases gk with
  | zero => exact absurd HA.out (by simp [spec_l1Moves.l0])
  | succ k1 =>
   have H := HA.out; clear HA; simp only [spec_l1Moves.l0] at H; by_cases c4 : x4_1 < (y297.length : Int)
   ·
    rw [if_pos c4] at H; have c4b0 : decide (x4_1 < (y297.length : Int)) = true := decide_eq_true c4; clear c4; by_cases c5 : 0 ≤ x4_1
    ·
     rw [if_pos c5] at H; have c5b0 : decide (0 ≤ x4_1) = true := decide_eq_true c5; clear c5; by_cases c6 : (rd y297 x4_1) = a0
     ·
      rw [if_pos c6] at H; have c6b0 : ((rd y297 x4_1) == a0) = true := beq_iff_eq.mpr c6; have c6b1 : ((rd y297 x4_1) != a0) = false := bne_eq_false_iff_eq.mpr c6; clear c6; obtain rfl := Option.some.inj H; obtain ⟨Ao7, co7, eo7⟩ := Kd.R_slice HO_3.out; subst eo7; have p300 : 0 ≤ (x4_1 : Int) := of_decide_eq_true (by assumption); have q300 : x4_1 < (y297.length : Int) := of_decide_eq_true (by assumption); obtain ⟨ad300, e300, hx300_0⟩ := Kd.at_int (Kd.R_reads' HO_3.out).2.2 x4_1 p300 q300
      cases e300
      replace p300 := eq_true p300; replace q300 := eq_true q300; go_wp2; go_ret; exact ⟨by first | rfl | (simp [errW_none, errW_some] <;> rfl) | (simp [*, errW_none, errW_some] <;> rfl), by repeat (first | (with_reducible first | exact HB.out | apply below_alloc | apply pw_below_drewN | apply below_drew1) | exact HB.out)⟩
     ·
      rw [if_neg c6] at H; have c6b0 : ((rd y297 x4_1) == a0) = false := beq_eq_false_iff_ne.mpr c6; have c6b1 : ((rd y297 x4_1) != a0) = true := bne_iff_ne.mpr c6; have H' := az H; clear H; obtain ⟨Ao8, co8, eo8⟩ := Kd.R_slice HO_3.out; subst eo8; have p300 : 0 ≤ (x4_1 : Int) := of_decide_eq_true (by assumption); have q300 : x4_1 < (y297.length : Int) := of_decide_eq_true (by assumption); obtain ⟨ad300, e300, hx300_0⟩ := Kd.at_int (Kd.R_reads' HO_3.out).2.2 x4_1 p300 q300
      cases e300
      replace p300 := eq_true p300; replace q300 := eq_true q300; go_wp2; go_roundg k1
      case measure => have := HK1.out; omega
      case rel => exact ⟨(wrap64 (x4_1 + 1)), (by first | rfl | (simp; done) | (simp [*]; done)), H', ⟨by have := HK1.out; omega⟩, ⟨by (with_reducible repeat (first | apply Kd.R_alloc | apply Kd.R_drewN | apply Kd.R_drew)); exact HO_3.out⟩, ⟨by repeat (first | (with_reducible first | exact HB.out | apply below_alloc | apply pw_below_drewN | apply below_drew1) | exact HB.out)⟩⟩
    ·
     rw [if_neg c5] at H; exact absurd H (by simp)
   ·
    rw [if_neg c4] at H; have c4b0 : decide (x4_1 < (y297.length : Int)) = false := decide_eq_false c4; clear c4; obtain rfl := Option.some.inj H; obtain ⟨Ao9, co9, eo9⟩ := Kd.R_slice HO_3.out; subst eo9; go_wp2; go_ret; exact ⟨by first | rfl | (simp [errW_none, errW_some] <;> rfl) | (simp [*, errW_none, errW_some] <;> rfl), by repeat (first | (with_reducible first | exact HB.out | apply below_alloc | apply pw_below_drewN | apply below_drew1) | exact HB.out)⟩
mutual
def spec_l1Signs.j0 : Nat → Int → Bool → Option (Int)
 | 0, _, _ => none
 | k + 1, x0, x3 => if x3 = true then (some 5) else ((spec_l1In.f x0 35 37).bind fun t301 => (if t301 = true then (some 6) else (if x0 = 44 then (spec_l1Signs.j1 k x0 true) else (if x0 = 46 then (spec_l1Signs.j1 k x0 true) else (if x0 = 47 then (spec_l1Signs.j1 k x0 true) else (spec_l1Signs.j1 k x0 (x0 == 58)))))))
def spec_l1Signs.j1 : Nat → Int → Bool → Option (Int)
 | 0, _, _ => none
 | k + 1, x0, x13 => if x13 = true then (some 8) else ((spec_l1In.f x0 768 879).bind fun t302 => (if t302 = true then (some 9) else (if x0 = 8203 then (spec_l1Signs.j2 k x0 true) else (if x0 = 8205 then (spec_l1Signs.j2 k x0 true) else (spec_l1Signs.j2 k x0 (x0 == 173))))))
def spec_l1Signs.j2 : Nat → Int → Bool → Option (Int)
 | 0, _, _ => none
 | k + 1, x0, x31 => if x31 = true then (some 10) else (if x0 = 9 then (some 11) else (if x0 = 32 then (some 12) else ((spec_l1Moves.f k x0).bind fun t303 => (some t303))))
end
def spec_l1Signs.f (k : Nat) (a0 : Int) : Option (Int) := if a0 = 43 then (spec_l1Signs.j0 k a0 true) else (spec_l1Signs.j0 k a0 (a0 == 45))
theorem spec_l1Signs.mono_l : ∀ k, (∀ y0 y1, LeO (spec_l1Signs.j0 k y0 y1) (spec_l1Signs.j0 (k + 1) y0 y1)) ∧ (∀ y0 y1, LeO (spec_l1Signs.j1 k y0 y1) (spec_l1Signs.j1 (k + 1) y0 y1)) ∧ (∀ y0 y1, LeO (spec_l1Signs.j2 k y0 y1) (spec_l1Signs.j2 (k + 1) y0 y1))
 | 0 => ⟨fun _ _ r h => by simp [spec_l1Signs.j0] at h, fun _ _ r h => by simp [spec_l1Signs.j1] at h, fun _ _ r h => by simp [spec_l1Signs.j2] at h⟩
 | k + 1 => by
  obtain ⟨ih0, ih1, ih2⟩ := spec_l1Signs.mono_l k; refine ⟨?_, ?_, ?_⟩
  ·
   intro y0 y1; unfold spec_l1Signs.j0
   repeat' first
   | (with_reducible exact ih0 _ _)
   | (with_reducible exact ih1 _ _)
   | (with_reducible exact ih2 _ _)
   | (with_reducible exact spec_l1Moves.mono _ _)
   | (with_reducible exact LeO.refl _)
   | (with_reducible exact LeO.none _)
   | (with_reducible refine LeO.ite ?_ ?_)
   | (with_reducible refine LeO.bind ?_ (fun _ => ?_))
   | exact ih0 _ _
   | exact ih1 _ _
   | exact ih2 _ _
   | exact spec_l1Moves.mono _ _
   | exact LeO.none _
   | refine LeO.ite ?_ ?_
   | refine LeO.bind ?_ (fun _ => ?_)
  ·
   intro y0 y1; unfold spec_l1Signs.j1
   repeat' first
   | (with_reducible exact ih0 _ _)
   | (with_reducible exact ih1 _ _)
   | (with_reducible exact ih2 _ _)
   | (with_reducible exact spec_l1Moves.mono _ _)
   | (with_reducible exact LeO.refl _)
   | (with_reducible exact LeO.none _)
   | (with_reducible refine LeO.ite ?_ ?_)
   | (with_reducible refine LeO.bind ?_ (fun _ => ?_))
   | exact ih0 _ _
   | exact ih1 _ _
   | exact ih2 _ _
   | exact spec_l1Moves.mono _ _
   | exact LeO.none _
   | refine LeO.ite ?_ ?_
   | refine LeO.bind ?_ (fun _ => ?_)
  ·
   intro y0 y1; unfold spec_l1Signs.j2
   repeat' first
   | (with_reducible exact ih0 _ _)
   | (with_reducible exact ih1 _ _)
   | (with_reducible exact ih2 _ _)
   | (with_reducible exact spec_l1Moves.mono _ _)
   | (with_reducible exact LeO.refl _)
   | (with_reducible exact LeO.none _)
   | (with_reducible refine LeO.ite ?_ ?_)
   | (with_reducible refine LeO.bind ?_ (fun _ => ?_))
   | exact ih0 _ _
   | exact ih1 _ _
   | exact ih2 _ _
   | exact spec_l1Moves.mono _ _
   | exact LeO.none _
   | refine LeO.ite ?_ ?_
   | refine LeO.bind ?_ (fun _ => ?_)
theorem spec_l1Signs.mono : ∀ a0 k, LeO (spec_l1Signs.f k a0) (spec_l1Signs.f (k + 1) a0) := by
 intro a0 k; obtain ⟨ih0, ih1, ih2⟩ := spec_l1Signs.mono_l k; unfold spec_l1Signs.f
 repeat' first
   | (with_reducible exact ih0 _ _)
   | (with_reducible exact ih1 _ _)
   | (with_reducible exact ih2 _ _)
   | (with_reducible exact spec_l1Moves.mono _ _)
   | (with_reducible exact LeO.refl _)
   | (with_reducible exact LeO.none _)
   | (with_reducible refine LeO.ite ?_ ?_)
   | (with_reducible refine LeO.bind ?_ (fun _ => ?_))
   | exact ih0 _ _
   | exact ih1 _ _
   | exact ih2 _ _
   | exact spec_l1Moves.mono _ _
   | exact LeO.none _
   | refine LeO.ite ?_ ?_
   | refine LeO.bind ?_ (fun _ => ?_)
theorem spec_l1Signs.calls (k : Nat) (a0 : Int) (r : Int) (w : World) (h : spec_l1Signs.f k a0 = some r) :
  Calls Try.prog 54 #[.int .i64 a0] w fun e w' => e = .returned (.int .i64 r) ∧ Below w.heap.size w w' := by
 have HB := az (Below.refl w.heap.size w); have H : (if a0 = 43 then (spec_l1Signs.j0 k a0 true) else (spec_l1Signs.j0 k a0 (a0 == 45))) = some r := h; clear h; have HC2 := az H; clear H; go_enter Try.func54, Try.ntmps54; go_upto_region 1 with (fail)
 go_cut [3] (fun v3 wc => ∃ (kq : Nat) (x3_1 : Bool), v3 = .bool x3_1 ∧ Aside0 (spec_l1Signs.j0 kq a0 x3_1 = some r) ∧ Aside0 (kq ≤ k) ∧ Aside0 (Below w.heap.size w wc))
 case first =>
  have H := HC2.out; clear HC2; by_cases c3 : a0 = 43
  ·
   rw [if_pos c3] at H; have c3b0 : (a0 == 43) = true := beq_iff_eq.mpr c3; have c3b1 : (a0 != 43) = false := bne_eq_false_iff_eq.mpr c3; clear c3; (first | rw [c3b0] | (simp only [i64_w, i32_w]; rw [c3b0]) | skip); have H' := az H; clear H; go_wp2; go_meet
   case rel => exact ⟨_, (true), (by first | rfl | (simp; done) | (simp [*]; done)), H', ⟨by first | omega | exact Nat.le_refl _⟩, ⟨by repeat (first | (with_reducible first | exact HB.out | apply below_alloc | apply pw_below_drewN | apply below_drew1) | exact HB.out)⟩⟩
  ·
   rw [if_neg c3] at H; have c3b0 : (a0 == 43) = false := beq_eq_false_iff_ne.mpr c3; have c3b1 : (a0 != 43) = true := bne_iff_ne.mpr c3; (first | rw [c3b0] | (simp only [i64_w, i32_w]; rw [c3b0]) | skip); have H' := az H; clear H; go_wp2; go_meet
   case rel => exact ⟨_, ((a0 == 45)), (by first | rfl | (simp; done) | (simp [*]; done)), H', ⟨by first | omega | exact Nat.le_refl _⟩, ⟨by repeat (first | (with_reducible first | exact HB.out | apply below_alloc | apply pw_below_drewN | apply below_drew1) | exact HB.out)⟩⟩
 case rest =>
  clear HC2; (try clear p2); (try clear c3); (try clear c3b0); (try clear c3b1); obtain ⟨kq, x3_1, rfl, HA, HJ1, HB⟩ := hcut
  cases kq with
  | zero => exact absurd HA.out (by simp [spec_l1Signs.j0])
  | succ kj1 =>
   have H := HA.out; clear HA; simp only [spec_l1Signs.j0] at H; by_cases c4 : x3_1 = true
   ·
    subst c4; have H1 : (some 5) = some r := by rw [if_pos rfl] at H; exact H
    clear H; have H := H1; clear H1; obtain rfl := Option.some.inj H; go_wp2; go_ret; exact ⟨by first | rfl | (simp [errW_none, errW_some] <;> rfl) | (simp [*, errW_none, errW_some] <;> rfl), by repeat (first | (with_reducible first | exact HB.out | apply below_alloc | apply pw_below_drewN | apply below_drew1) | exact HB.out)⟩
   ·
    replace c4 := Bool.eq_false_iff.mpr c4; subst c4; have H1 : ((spec_l1In.f a0 35 37).bind fun t301 => (if t301 = true then (some 6) else (if a0 = 44 then (spec_l1Signs.j1 kj1 a0 true) else (if a0 = 46 then (spec_l1Signs.j1 kj1 a0 true) else (if a0 = 47 then (spec_l1Signs.j1 kj1 a0 true) else (spec_l1Signs.j1 kj1 a0 (a0 == 58))))))) = some r := by rw [if_neg (show ¬ (false = true) by decide)] at H; exact H
    clear H; have H := H1; clear H1; replace H := Option.bind_eq_some_iff.mp H; obtain ⟨t301, A50, H⟩ := H; replace H : (if t301 = true then (some 6) else (if a0 = 44 then (spec_l1Signs.j1 kj1 a0 true) else (if a0 = 46 then (spec_l1Signs.j1 kj1 a0 true) else (if a0 = 47 then (spec_l1Signs.j1 kj1 a0 true) else (spec_l1Signs.j1 kj1 a0 (a0 == 58)))))) = some r := H; have A5 := az A50; clear A50; by_cases c6 : t301 = true
    ·
     subst c6; have H1 : (some 6) = some r := by rw [if_pos rfl] at H; exact H
     clear H; have H := H1; clear H1; obtain rfl := Option.some.inj H; go_wp2_with (first | ((with_reducible refine gate_callee (f := 53) rfl ?_); refine goesL_ (some 12) rfl rfl Try.func53 (by kernel_rfl) rfl #[.int .i64 a0, .int .i64 35, .int .i64 37] rfl (by (try simp only [List.map_toArray, List.map_cons, List.map_nil]); first | done | rfl) ?_; (with_reducible refine (spec_l1In.calls a0 35 37 true _ A5.out).mono ?_); rintro e w' ⟨rfl, ⟨nd, rfl⟩⟩; refine ⟨_, rfl, ?_⟩)); go_ret; exact ⟨by first | rfl | (simp [errW_none, errW_some] <;> rfl) | (simp [*, errW_none, errW_some] <;> rfl), by repeat (first | (with_reducible first | exact HB.out | apply below_alloc | apply pw_below_drewN | apply below_drew1) | exact HB.out)⟩
    ·
     replace c6 := Bool.eq_false_iff.mpr c6; subst c6; have H1 : (if a0 = 44 then (spec_l1Signs.j1 kj1 a0 true) else (if a0 = 46 then (spec_l1Signs.j1 kj1 a0 true) else (if a0 = 47 then (spec_l1Signs.j1 kj1 a0 true) else (spec_l1Signs.j1 kj1 a0 (a0 == 58))))) = some r := by rw [if_neg (show ¬ (false = true) by decide)] at H; exact H
     clear H; have H := H1; clear H1; have HC7 := az H; clear H; go_upto_region 5 with (first | ((with_reducible refine gate_callee (f := 53) rfl ?_); refine goesL_ (some 12) rfl rfl Try.func53 (by kernel_rfl) rfl #[.int .i64 a0, .int .i64 35, .int .i64 37] rfl (by (try simp only [List.map_toArray, List.map_cons, List.map_nil]); first | done | rfl) ?_; (with_reducible refine (spec_l1In.calls a0 35 37 false _ A5.out).mono ?_); rintro e w' ⟨rfl, ⟨nd, rfl⟩⟩; refine ⟨_, rfl, ?_⟩))
     (try simp only [Act.put, List.setIfInBounds_toArray, List.set_cons_zero, List.set_cons_succ]); go_cut [13] (fun v13 wc => ∃ (kq : Nat) (x13_6 : Bool), v13 = .bool x13_6 ∧ Aside0 (spec_l1Signs.j1 kq a0 x13_6 = some r) ∧ Aside0 (kq ≤ kj1) ∧ Aside0 (Below w.heap.size w wc))
     case first =>
      have H := HC7.out; clear HC7; by_cases c8 : a0 = 44
      ·
       rw [if_pos c8] at H; have c8b0 : (a0 == 44) = true := beq_iff_eq.mpr c8; have c8b1 : (a0 != 44) = false := bne_eq_false_iff_eq.mpr c8; clear c8; (first | rw [c8b0] | (simp only [i64_w, i32_w]; rw [c8b0]) | skip); have H' := az H; clear H; go_wp2; go_meet
       case rel => exact ⟨_, (true), (by first | rfl | (simp; done) | (simp [*]; done)), H', ⟨by have := HJ1.out; first | omega | exact Nat.le_refl _⟩, ⟨by repeat (first | (with_reducible first | exact HB.out | apply below_alloc | apply pw_below_drewN | apply below_drew1) | exact HB.out)⟩⟩
      ·
       rw [if_neg c8] at H; have c8b0 : (a0 == 44) = false := beq_eq_false_iff_ne.mpr c8; have c8b1 : (a0 != 44) = true := bne_iff_ne.mpr c8; (first | rw [c8b0] | (simp only [i64_w, i32_w]; rw [c8b0]) | skip); by_cases c9 : a0 = 46
       ·
        rw [if_pos c9] at H; have c9b0 : (a0 == 46) = true := beq_iff_eq.mpr c9; have c9b1 : (a0 != 46) = false := bne_eq_false_iff_eq.mpr c9; clear c9; have H' := az H; clear H; go_wp2; go_meet
        case rel => exact ⟨_, (true), (by first | rfl | (simp; done) | (simp [*]; done)), H', ⟨by have := HJ1.out; first | omega | exact Nat.le_refl _⟩, ⟨by repeat (first | (with_reducible first | exact HB.out | apply below_alloc | apply pw_below_drewN | apply below_drew1) | exact HB.out)⟩⟩
       ·
        rw [if_neg c9] at H; have c9b0 : (a0 == 46) = false := beq_eq_false_iff_ne.mpr c9; have c9b1 : (a0 != 46) = true := bne_iff_ne.mpr c9; by_cases c10 : a0 = 47
        ·
         rw [if_pos c10] at H; have c10b0 : (a0 == 47) = true := beq_iff_eq.mpr c10; have c10b1 : (a0 != 47) = false := bne_eq_false_iff_eq.mpr c10; clear c10; have H' := az H; clear H; go_wp2; go_meet
         case rel => exact ⟨_, (true), (by first | rfl | (simp; done) | (simp [*]; done)), H', ⟨by have := HJ1.out; first | omega | exact Nat.le_refl _⟩, ⟨by repeat (first | (with_reducible first | exact HB.out | apply below_alloc | apply pw_below_drewN | apply below_drew1) | exact HB.out)⟩⟩
        ·
         rw [if_neg c10] at H; have c10b0 : (a0 == 47) = false := beq_eq_false_iff_ne.mpr c10; have c10b1 : (a0 != 47) = true := bne_iff_ne.mpr c10; have H' := az H; clear H; go_wp2; go_meet
         case rel => exact ⟨_, ((a0 == 58)), (by first | rfl | (simp; done) | (simp [*]; done)), H', ⟨by have := HJ1.out; first | omega | exact Nat.le_refl _⟩, ⟨by repeat (first | (with_reducible first | exact HB.out | apply below_alloc | apply pw_below_drewN | apply below_drew1) | exact HB.out)⟩⟩
     case rest =>
      clear HC7; (try clear c1); (try clear p2); (try clear c3); (try clear c3b0); (try clear c3b1); (try clear c4); (try clear c5); (try clear c6); (try clear c8); (try clear c8b0); (try clear c8b1); (try clear c9); (try clear c9b0); (try clear c9b1); (try clear c10); (try clear c10b0); (try clear c10b1); (try clear p2); obtain ⟨kq, x13_6, rfl, HA, HJ6, HB⟩ := hcut
      cases kq with
      | zero => exact absurd HA.out (by simp [spec_l1Signs.j1])
      | succ kj6 =>
       have H := HA.out; clear HA; simp only [spec_l1Signs.j1] at H; by_cases c11 : x13_6 = true
       ·
        subst c11; have H1 : (some 8) = some r := by rw [if_pos rfl] at H; exact H
        clear H; have H := H1; clear H1; obtain rfl := Option.some.inj H; go_wp2; go_ret; exact ⟨by first | rfl | (simp [errW_none, errW_some] <;> rfl) | (simp [*, errW_none, errW_some] <;> rfl), by repeat (first | (with_reducible first | exact HB.out | apply below_alloc | apply pw_below_drewN | apply below_drew1) | exact HB.out)⟩
       ·
        replace c11 := Bool.eq_false_iff.mpr c11; subst c11; have H1 : ((spec_l1In.f a0 768 879).bind fun t302 => (if t302 = true then (some 9) else (if a0 = 8203 then (spec_l1Signs.j2 kj6 a0 true) else (if a0 = 8205 then (spec_l1Signs.j2 kj6 a0 true) else (spec_l1Signs.j2 kj6 a0 (a0 == 173)))))) = some r := by rw [if_neg (show ¬ (false = true) by decide)] at H; exact H
        clear H; have H := H1; clear H1; replace H := Option.bind_eq_some_iff.mp H; obtain ⟨t302, A120, H⟩ := H; replace H : (if t302 = true then (some 9) else (if a0 = 8203 then (spec_l1Signs.j2 kj6 a0 true) else (if a0 = 8205 then (spec_l1Signs.j2 kj6 a0 true) else (spec_l1Signs.j2 kj6 a0 (a0 == 173))))) = some r := H; have A12 := az A120; clear A120; by_cases c13 : t302 = true
        ·
         subst c13; have H1 : (some 9) = some r := by rw [if_pos rfl] at H; exact H
         clear H; have H := H1; clear H1; obtain rfl := Option.some.inj H; go_wp2_with (first | ((with_reducible refine gate_callee (f := 53) rfl ?_); refine goesL_ (some 30) rfl rfl Try.func53 (by kernel_rfl) rfl #[.int .i64 a0, .int .i64 768, .int .i64 879] rfl (by (try simp only [List.map_toArray, List.map_cons, List.map_nil]); first | done | rfl) ?_; (with_reducible refine (spec_l1In.calls a0 768 879 true _ A12.out).mono ?_); rintro e w' ⟨rfl, ⟨nd, rfl⟩⟩; refine ⟨_, rfl, ?_⟩)); go_ret; exact ⟨by first | rfl | (simp [errW_none, errW_some] <;> rfl) | (simp [*, errW_none, errW_some] <;> rfl), by repeat (first | (with_reducible first | exact HB.out | apply below_alloc | apply pw_below_drewN | apply below_drew1) | exact HB.out)⟩
        ·
         replace c13 := Bool.eq_false_iff.mpr c13; subst c13; have H1 : (if a0 = 8203 then (spec_l1Signs.j2 kj6 a0 true) else (if a0 = 8205 then (spec_l1Signs.j2 kj6 a0 true) else (spec_l1Signs.j2 kj6 a0 (a0 == 173)))) = some r := by rw [if_neg (show ¬ (false = true) by decide)] at H; exact H
         clear H; have H := H1; clear H1; have HC14 := az H; clear H; go_upto_region 9 with (first | ((with_reducible refine gate_callee (f := 53) rfl ?_); refine goesL_ (some 30) rfl rfl Try.func53 (by kernel_rfl) rfl #[.int .i64 a0, .int .i64 768, .int .i64 879] rfl (by (try simp only [List.map_toArray, List.map_cons, List.map_nil]); first | done | rfl) ?_; (with_reducible refine (spec_l1In.calls a0 768 879 false _ A12.out).mono ?_); rintro e w' ⟨rfl, ⟨nd, rfl⟩⟩; refine ⟨_, rfl, ?_⟩))
         (try simp only [Act.put, List.setIfInBounds_toArray, List.set_cons_zero, List.set_cons_succ]); go_cut [31] (fun v31 wc => ∃ (kq : Nat) (x31_13 : Bool), v31 = .bool x31_13 ∧ Aside0 (spec_l1Signs.j2 kq a0 x31_13 = some r) ∧ Aside0 (kq ≤ kj6) ∧ Aside0 (Below w.heap.size w wc))
         case first =>
          have H := HC14.out; clear HC14; by_cases c15 : a0 = 8203
          ·
           rw [if_pos c15] at H; have c15b0 : (a0 == 8203) = true := beq_iff_eq.mpr c15; have c15b1 : (a0 != 8203) = false := bne_eq_false_iff_eq.mpr c15; clear c15; (first | rw [c15b0] | (simp only [i64_w, i32_w]; rw [c15b0]) | skip); have H' := az H; clear H; go_wp2; go_meet
           case rel => exact ⟨_, (true), (by first | rfl | (simp; done) | (simp [*]; done)), H', ⟨by have := HJ1.out; have := HJ6.out; first | omega | exact Nat.le_refl _⟩, ⟨by repeat (first | (with_reducible first | exact HB.out | apply below_alloc | apply pw_below_drewN | apply below_drew1) | exact HB.out)⟩⟩
          ·
           rw [if_neg c15] at H; have c15b0 : (a0 == 8203) = false := beq_eq_false_iff_ne.mpr c15; have c15b1 : (a0 != 8203) = true := bne_iff_ne.mpr c15; (first | rw [c15b0] | (simp only [i64_w, i32_w]; rw [c15b0]) | skip); by_cases c16 : a0 = 8205
           ·
            rw [if_pos c16] at H; have c16b0 : (a0 == 8205) = true := beq_iff_eq.mpr c16; have c16b1 : (a0 != 8205) = false := bne_eq_false_iff_eq.mpr c16; clear c16; have H' := az H; clear H; go_wp2; go_meet
            case rel => exact ⟨_, (true), (by first | rfl | (simp; done) | (simp [*]; done)), H', ⟨by have := HJ1.out; have := HJ6.out; first | omega | exact Nat.le_refl _⟩, ⟨by repeat (first | (with_reducible first | exact HB.out | apply below_alloc | apply pw_below_drewN | apply below_drew1) | exact HB.out)⟩⟩
           ·
            rw [if_neg c16] at H; have c16b0 : (a0 == 8205) = false := beq_eq_false_iff_ne.mpr c16; have c16b1 : (a0 != 8205) = true := bne_iff_ne.mpr c16; have H' := az H; clear H; go_wp2; go_meet
            case rel => exact ⟨_, ((a0 == 173)), (by first | rfl | (simp; done) | (simp [*]; done)), H', ⟨by have := HJ1.out; have := HJ6.out; first | omega | exact Nat.le_refl _⟩, ⟨by repeat (first | (with_reducible first | exact HB.out | apply below_alloc | apply pw_below_drewN | apply below_drew1) | exact HB.out)⟩⟩
         case rest =>
          clear HC14; (try clear c1); (try clear p2); (try clear c3); (try clear c3b0); (try clear c3b1); (try clear c4); (try clear c5); (try clear c6); (try clear c8); (try clear c8b0); (try clear c8b1); (try clear c9); (try clear c9b0); (try clear c9b1); (try clear c10); (try clear c10b0); (try clear c10b1); (try clear c11); (try clear c13); (try clear c15); (try clear c15b0); (try clear c15b1); (try clear c16); (try clear c16b0); (try clear c16b1); (try clear p2); obtain ⟨kq, x31_13, rfl, HA, HJ13, HB⟩ := hcut
          cases kq with
          | zero => exact absurd HA.out (by simp [spec_l1Signs.j2])
          | succ kj13 =>
           have H := HA.out; clear HA; simp only [spec_l1Signs.j2] at H; by_cases c17 : x31_13 = true
           ·
            subst c17; have H1 : (some 10) = some r := by rw [if_pos rfl] at H; exact H
            clear H; have H := H1; clear H1; obtain rfl := Option.some.inj H; go_wp2; go_ret; exact ⟨by first | rfl | (simp [errW_none, errW_some] <;> rfl) | (simp [*, errW_none, errW_some] <;> rfl), by repeat (first | (with_reducible first | exact HB.out | apply below_alloc | apply pw_below_drewN | apply below_drew1) | exact HB.out)⟩
           ·
            replace c17 := Bool.eq_false_iff.mpr c17; subst c17; have H1 : (if a0 = 9 then (some 11) else (if a0 = 32 then (some 12) else ((spec_l1Moves.f kj13 a0).bind fun t303 => (some t303)))) = some r := by rw [if_neg (show ¬ (false = true) by decide)] at H; exact H
            clear H; have H := H1; clear H1; by_cases c18 : a0 = 9
            ·
             rw [if_pos c18] at H; have c18b0 : (a0 == 9) = true := beq_iff_eq.mpr c18; have c18b1 : (a0 != 9) = false := bne_eq_false_iff_eq.mpr c18; clear c18; obtain rfl := Option.some.inj H; go_wp2; go_ret; exact ⟨by first | rfl | (simp [errW_none, errW_some] <;> rfl) | (simp [*, errW_none, errW_some] <;> rfl), by repeat (first | (with_reducible first | exact HB.out | apply below_alloc | apply pw_below_drewN | apply below_drew1) | exact HB.out)⟩
            ·
             rw [if_neg c18] at H; have c18b0 : (a0 == 9) = false := beq_eq_false_iff_ne.mpr c18; have c18b1 : (a0 != 9) = true := bne_iff_ne.mpr c18; by_cases c19 : a0 = 32
             ·
              rw [if_pos c19] at H; have c19b0 : (a0 == 32) = true := beq_iff_eq.mpr c19; have c19b1 : (a0 != 32) = false := bne_eq_false_iff_eq.mpr c19; clear c19; obtain rfl := Option.some.inj H; go_wp2; go_ret; exact ⟨by first | rfl | (simp [errW_none, errW_some] <;> rfl) | (simp [*, errW_none, errW_some] <;> rfl), by repeat (first | (with_reducible first | exact HB.out | apply below_alloc | apply pw_below_drewN | apply below_drew1) | exact HB.out)⟩
             ·
              rw [if_neg c19] at H; have c19b0 : (a0 == 32) = false := beq_eq_false_iff_ne.mpr c19; have c19b1 : (a0 != 32) = true := bne_iff_ne.mpr c19; replace H := Option.bind_eq_some_iff.mp H; obtain ⟨t303, A200, H⟩ := H; replace H : (some t303) = some r := H; have A20 := az A200; clear A200; obtain rfl := Option.some.inj H; go_wp2_with (first | ((with_reducible refine gate_callee (f := 80) rfl ?_); refine goesL_ (some 49) rfl rfl Try.func80 (by kernel_rfl) rfl #[.int .i64 a0] rfl (by (try simp only [List.map_toArray, List.map_cons, List.map_nil]); first | done | rfl) ?_; (with_reducible refine (spec_l1Moves.calls kj13 a0 t303 _ A20.out).mono ?_); rintro e w21 ⟨rfl, hb⟩; refine ⟨_, rfl, ?_⟩; have n0_ := az (below_step (by repeat (first | (with_reducible first | exact HB.out | apply below_alloc | apply pw_below_drewN | apply below_drew1) | exact HB.out)) hb); clear HB; have HB := n0_; clear n0_; (try clear hb); (try clear hb2); (try clear hk); (try clear hi))); go_ret; exact ⟨by first | rfl | (simp [errW_none, errW_some] <;> rfl) | (simp [*, errW_none, errW_some] <;> rfl), by repeat (first | (with_reducible first | exact HB.out | apply below_alloc | apply pw_below_drewN | apply below_drew1) | exact HB.out)⟩
def spec_RuneBidi.j0 : Nat → Int → Bool → Option (Int)
 | 0, _, _ => none
 | k + 1, x0, x3 => if x3 = true then (some 1) else ((spec_l1In.f x0 1488 1514).bind fun t307 => (if t307 = true then (some 2) else ((spec_l1In.f x0 1569 1610).bind fun t308 => (if t308 = true then (some 3) else ((spec_l1In.f x0 48 57).bind fun t309 => (if t309 = true then (some 4) else ((spec_l1In.f x0 1632 1641).bind fun t310 => (if t310 = true then (some 7) else ((spec_l1Signs.f k x0).bind fun t311 => (some t311))))))))))
def spec_RuneBidi.f (k : Nat) (a0 : Int) : Option (Int) := (spec_l1In.f a0 97 122).bind fun t304 => (if t304 = true then (spec_RuneBidi.j0 k a0 true) else ((spec_l1In.f a0 65 90).bind fun t305 => (if t305 = true then (spec_RuneBidi.j0 k a0 true) else ((spec_l1In.f a0 19968 40959).bind fun t306 => (spec_RuneBidi.j0 k a0 t306)))))
theorem spec_RuneBidi.mono_l : ∀ k, (∀ y0 y1, LeO (spec_RuneBidi.j0 k y0 y1) (spec_RuneBidi.j0 (k + 1) y0 y1))
 | 0 => fun _ _ r h => by simp [spec_RuneBidi.j0] at h
 | k + 1 => by
  have ih0 := spec_RuneBidi.mono_l k
  ·
   intro y0 y1; unfold spec_RuneBidi.j0
   repeat' first
   | (with_reducible exact ih0 _ _)
   | (with_reducible exact spec_l1Signs.mono _ _)
   | (with_reducible exact LeO.refl _)
   | (with_reducible exact LeO.none _)
   | (with_reducible refine LeO.ite ?_ ?_)
   | (with_reducible refine LeO.bind ?_ (fun _ => ?_))
   | exact ih0 _ _
   | exact spec_l1Signs.mono _ _
   | exact LeO.none _
   | refine LeO.ite ?_ ?_
   | refine LeO.bind ?_ (fun _ => ?_)
theorem spec_RuneBidi.mono : ∀ a0 k, LeO (spec_RuneBidi.f k a0) (spec_RuneBidi.f (k + 1) a0) := by
 intro a0 k; have ih0 := spec_RuneBidi.mono_l k; unfold spec_RuneBidi.f
 repeat' first
   | (with_reducible exact ih0 _ _)
   | (with_reducible exact spec_l1Signs.mono _ _)
   | (with_reducible exact LeO.refl _)
   | (with_reducible exact LeO.none _)
   | (with_reducible refine LeO.ite ?_ ?_)
   | (with_reducible refine LeO.bind ?_ (fun _ => ?_))
   | exact ih0 _ _
   | exact spec_l1Signs.mono _ _
   | exact LeO.none _
   | refine LeO.ite ?_ ?_
   | refine LeO.bind ?_ (fun _ => ?_)
theorem spec_RuneBidi.calls (k : Nat) (a0 : Int) (r : Int) (w : World) (h : spec_RuneBidi.f k a0 = some r) :
  Calls Try.prog 20 #[.int .i64 a0] w fun e w' => e = .returned (.int .i64 r) ∧ Below w.heap.size w w' := by
 have HB := az (Below.refl w.heap.size w); have H : ((spec_l1In.f a0 97 122).bind fun t304 => (if t304 = true then (spec_RuneBidi.j0 k a0 true) else ((spec_l1In.f a0 65 90).bind fun t305 => (if t305 = true then (spec_RuneBidi.j0 k a0 true) else ((spec_l1In.f a0 19968 40959).bind fun t306 => (spec_RuneBidi.j0 k a0 t306)))))) = some r := h; clear h; have HC2 := az H; clear H; go_enter Try.func20, Try.ntmps20; go_upto_region 1 with (fail)
 go_cut [3] (fun v3 wc => ∃ (kq : Nat) (x3_1 : Bool), v3 = .bool x3_1 ∧ Aside0 (spec_RuneBidi.j0 kq a0 x3_1 = some r) ∧ Aside0 (kq ≤ k) ∧ Aside0 (Below w.heap.size w wc))
 case first =>
  have H := HC2.out; clear HC2; replace H := Option.bind_eq_some_iff.mp H; obtain ⟨t304, A30, H⟩ := H; replace H : (if t304 = true then (spec_RuneBidi.j0 k a0 true) else ((spec_l1In.f a0 65 90).bind fun t305 => (if t305 = true then (spec_RuneBidi.j0 k a0 true) else ((spec_l1In.f a0 19968 40959).bind fun t306 => (spec_RuneBidi.j0 k a0 t306))))) = some r := H; have A3 := az A30; clear A30; by_cases c4 : t304 = true
  ·
   subst c4; have H1 : (spec_RuneBidi.j0 k a0 true) = some r := by rw [if_pos rfl] at H; exact H
   clear H; have H := H1; clear H1; have H' := az H; clear H; go_wp2_with (first | ((with_reducible refine gate_callee (f := 53) rfl ?_); refine goesL_ (some 5) rfl rfl Try.func53 (by kernel_rfl) rfl #[.int .i64 a0, .int .i64 97, .int .i64 122] rfl (by (try simp only [List.map_toArray, List.map_cons, List.map_nil]); first | done | rfl) ?_; (with_reducible refine (spec_l1In.calls a0 97 122 true _ A3.out).mono ?_); rintro e w' ⟨rfl, ⟨nd, rfl⟩⟩; refine ⟨_, rfl, ?_⟩)); go_meet
   case rel => exact ⟨_, (true), (by first | rfl | (simp; done) | (simp [*]; done)), H', ⟨by first | omega | exact Nat.le_refl _⟩, ⟨by repeat (first | (with_reducible first | exact HB.out | apply below_alloc | apply pw_below_drewN | apply below_drew1) | exact HB.out)⟩⟩
  ·
   replace c4 := Bool.eq_false_iff.mpr c4; subst c4; have H1 : ((spec_l1In.f a0 65 90).bind fun t305 => (if t305 = true then (spec_RuneBidi.j0 k a0 true) else ((spec_l1In.f a0 19968 40959).bind fun t306 => (spec_RuneBidi.j0 k a0 t306)))) = some r := by rw [if_neg (show ¬ (false = true) by decide)] at H; exact H
   clear H; have H := H1; clear H1; replace H := Option.bind_eq_some_iff.mp H; obtain ⟨t305, A50, H⟩ := H; replace H : (if t305 = true then (spec_RuneBidi.j0 k a0 true) else ((spec_l1In.f a0 19968 40959).bind fun t306 => (spec_RuneBidi.j0 k a0 t306))) = some r := H; have A5 := az A50; clear A50; by_cases c6 : t305 = true
   ·
    subst c6; have H1 : (spec_RuneBidi.j0 k a0 true) = some r := by rw [if_pos rfl] at H; exact H
    clear H; have H := H1; clear H1; have H' := az H; clear H; go_wp2_with (first | ((with_reducible refine gate_callee (f := 53) rfl ?_); refine goesL_ (some 5) rfl rfl Try.func53 (by kernel_rfl) rfl #[.int .i64 a0, .int .i64 97, .int .i64 122] rfl (by (try simp only [List.map_toArray, List.map_cons, List.map_nil]); first | done | rfl) ?_; (with_reducible refine (spec_l1In.calls a0 97 122 false _ A3.out).mono ?_); rintro e w' ⟨rfl, ⟨nd, rfl⟩⟩; refine ⟨_, rfl, ?_⟩) | (go_at_call 53; (with_reducible refine (spec_l1In.calls a0 65 90 true _ A5.out).mono ?_); rintro e w' ⟨rfl, ⟨nd, rfl⟩⟩)); go_meet
    case rel => exact ⟨_, (true), (by first | rfl | (simp; done) | (simp [*]; done)), H', ⟨by first | omega | exact Nat.le_refl _⟩, ⟨by repeat (first | (with_reducible first | exact HB.out | apply below_alloc | apply pw_below_drewN | apply below_drew1) | exact HB.out)⟩⟩
   ·
    replace c6 := Bool.eq_false_iff.mpr c6; subst c6; have H1 : ((spec_l1In.f a0 19968 40959).bind fun t306 => (spec_RuneBidi.j0 k a0 t306)) = some r := by rw [if_neg (show ¬ (false = true) by decide)] at H; exact H
    clear H; have H := H1; clear H1; replace H := Option.bind_eq_some_iff.mp H; obtain ⟨t306, A70, H⟩ := H; replace H : (spec_RuneBidi.j0 k a0 t306) = some r := H; have A7 := az A70; clear A70; have H' := az H; clear H; go_wp2_with (first | ((with_reducible refine gate_callee (f := 53) rfl ?_); refine goesL_ (some 5) rfl rfl Try.func53 (by kernel_rfl) rfl #[.int .i64 a0, .int .i64 97, .int .i64 122] rfl (by (try simp only [List.map_toArray, List.map_cons, List.map_nil]); first | done | rfl) ?_; (with_reducible refine (spec_l1In.calls a0 97 122 false _ A3.out).mono ?_); rintro e w' ⟨rfl, ⟨nd, rfl⟩⟩; refine ⟨_, rfl, ?_⟩) | (go_at_call 53; (with_reducible refine (spec_l1In.calls a0 65 90 false _ A5.out).mono ?_); rintro e w' ⟨rfl, ⟨nd, rfl⟩⟩) | (go_at_call 53; (with_reducible refine (spec_l1In.calls a0 19968 40959 t306 _ A7.out).mono ?_); rintro e w' ⟨rfl, ⟨nd, rfl⟩⟩)); go_meet
    case rel => exact ⟨_, (t306), (by first | rfl | (simp; done) | (simp [*]; done)), H', ⟨by first | omega | exact Nat.le_refl _⟩, ⟨by repeat (first | (with_reducible first | exact HB.out | apply below_alloc | apply pw_below_drewN | apply below_drew1) | exact HB.out)⟩⟩
 case rest =>
  clear HC2; (try clear c2); (try clear p2); (try clear c4); (try clear c5); (try clear c6); obtain ⟨kq, x3_1, rfl, HA, HJ1, HB⟩ := hcut
  cases kq with
  | zero => exact absurd HA.out (by simp [spec_RuneBidi.j0])
  | succ kj1 =>
   have H := HA.out; clear HA; simp only [spec_RuneBidi.j0] at H; by_cases c8 : x3_1 = true
   ·
    subst c8; have H1 : (some 1) = some r := by rw [if_pos rfl] at H; exact H
    clear H; have H := H1; clear H1; obtain rfl := Option.some.inj H; go_wp2; go_ret; exact ⟨by first | rfl | (simp [errW_none, errW_some] <;> rfl) | (simp [*, errW_none, errW_some] <;> rfl), by repeat (first | (with_reducible first | exact HB.out | apply below_alloc | apply pw_below_drewN | apply below_drew1) | exact HB.out)⟩
   ·
    replace c8 := Bool.eq_false_iff.mpr c8; subst c8; have H1 : ((spec_l1In.f a0 1488 1514).bind fun t307 => (if t307 = true then (some 2) else ((spec_l1In.f a0 1569 1610).bind fun t308 => (if t308 = true then (some 3) else ((spec_l1In.f a0 48 57).bind fun t309 => (if t309 = true then (some 4) else ((spec_l1In.f a0 1632 1641).bind fun t310 => (if t310 = true then (some 7) else ((spec_l1Signs.f kj1 a0).bind fun t311 => (some t311)))))))))) = some r := by rw [if_neg (show ¬ (false = true) by decide)] at H; exact H
    clear H; have H := H1; clear H1; replace H := Option.bind_eq_some_iff.mp H; obtain ⟨t307, A90, H⟩ := H; replace H : (if t307 = true then (some 2) else ((spec_l1In.f a0 1569 1610).bind fun t308 => (if t308 = true then (some 3) else ((spec_l1In.f a0 48 57).bind fun t309 => (if t309 = true then (some 4) else ((spec_l1In.f a0 1632 1641).bind fun t310 => (if t310 = true then (some 7) else ((spec_l1Signs.f kj1 a0).bind fun t311 => (some t311))))))))) = some r := H; have A9 := az A90; clear A90; by_cases c10 : t307 = true
    ·
     subst c10; have H1 : (some 2) = some r := by rw [if_pos rfl] at H; exact H
     clear H; have H := H1; clear H1; obtain rfl := Option.some.inj H; go_wp2_with (first | ((with_reducible refine gate_callee (f := 53) rfl ?_); refine goesL_ (some 16) rfl rfl Try.func53 (by kernel_rfl) rfl #[.int .i64 a0, .int .i64 1488, .int .i64 1514] rfl (by (try simp only [List.map_toArray, List.map_cons, List.map_nil]); first | done | rfl) ?_; (with_reducible refine (spec_l1In.calls a0 1488 1514 true _ A9.out).mono ?_); rintro e w' ⟨rfl, ⟨nd, rfl⟩⟩; refine ⟨_, rfl, ?_⟩)); go_ret; exact ⟨by first | rfl | (simp [errW_none, errW_some] <;> rfl) | (simp [*, errW_none, errW_some] <;> rfl), by repeat (first | (with_reducible first | exact HB.out | apply below_alloc | apply pw_below_drewN | apply below_drew1) | exact HB.out)⟩
    ·
     replace c10 := Bool.eq_false_iff.mpr c10; subst c10; have H1 : ((spec_l1In.f a0 1569 1610).bind fun t308 => (if t308 = true then (some 3) else ((spec_l1In.f a0 48 57).bind fun t309 => (if t309 = true then (some 4) else ((spec_l1In.f a0 1632 1641).bind fun t310 => (if t310 = true then (some 7) else ((spec_l1Signs.f kj1 a0).bind fun t311 => (some t311)))))))) = some r := by rw [if_neg (show ¬ (false = true) by decide)] at H; exact H
     clear H; have H := H1; clear H1; replace H := Option.bind_eq_some_iff.mp H; obtain ⟨t308, A110, H⟩ := H; replace H : (if t308 = true then (some 3) else ((spec_l1In.f a0 48 57).bind fun t309 => (if t309 = true then (some 4) else ((spec_l1In.f a0 1632 1641).bind fun t310 => (if t310 = true then (some 7) else ((spec_l1Signs.f kj1 a0).bind fun t311 => (some t311))))))) = some r := H; have A11 := az A110; clear A110; by_cases c12 : t308 = true
     ·
      subst c12; have H1 : (some 3) = some r := by rw [if_pos rfl] at H; exact H
      clear H; have H := H1; clear H1; obtain rfl := Option.some.inj H; go_wp2_with (first | ((with_reducible refine gate_callee (f := 53) rfl ?_); refine goesL_ (some 16) rfl rfl Try.func53 (by kernel_rfl) rfl #[.int .i64 a0, .int .i64 1488, .int .i64 1514] rfl (by (try simp only [List.map_toArray, List.map_cons, List.map_nil]); first | done | rfl) ?_; (with_reducible refine (spec_l1In.calls a0 1488 1514 false _ A9.out).mono ?_); rintro e w' ⟨rfl, ⟨nd, rfl⟩⟩; refine ⟨_, rfl, ?_⟩) | ((with_reducible refine gate_callee (f := 53) rfl ?_); refine goesL_ (some 19) rfl rfl Try.func53 (by kernel_rfl) rfl #[.int .i64 a0, .int .i64 1569, .int .i64 1610] rfl (by (try simp only [List.map_toArray, List.map_cons, List.map_nil]); first | done | rfl) ?_; (with_reducible refine (spec_l1In.calls a0 1569 1610 true _ A11.out).mono ?_); rintro e w' ⟨rfl, ⟨nd, rfl⟩⟩; refine ⟨_, rfl, ?_⟩)); go_ret; exact ⟨by first | rfl | (simp [errW_none, errW_some] <;> rfl) | (simp [*, errW_none, errW_some] <;> rfl), by repeat (first | (with_reducible first | exact HB.out | apply below_alloc | apply pw_below_drewN | apply below_drew1) | exact HB.out)⟩
     ·
      replace c12 := Bool.eq_false_iff.mpr c12; subst c12; have H1 : ((spec_l1In.f a0 48 57).bind fun t309 => (if t309 = true then (some 4) else ((spec_l1In.f a0 1632 1641).bind fun t310 => (if t310 = true then (some 7) else ((spec_l1Signs.f kj1 a0).bind fun t311 => (some t311)))))) = some r := by rw [if_neg (show ¬ (false = true) by decide)] at H; exact H
      clear H; have H := H1; clear H1; replace H := Option.bind_eq_some_iff.mp H; obtain ⟨t309, A130, H⟩ := H; replace H : (if t309 = true then (some 4) else ((spec_l1In.f a0 1632 1641).bind fun t310 => (if t310 = true then (some 7) else ((spec_l1Signs.f kj1 a0).bind fun t311 => (some t311))))) = some r := H; have A13 := az A130; clear A130; by_cases c14 : t309 = true
      ·
       subst c14; have H1 : (some 4) = some r := by rw [if_pos rfl] at H; exact H
       clear H; have H := H1; clear H1; obtain rfl := Option.some.inj H; go_wp2_with (first | ((with_reducible refine gate_callee (f := 53) rfl ?_); refine goesL_ (some 16) rfl rfl Try.func53 (by kernel_rfl) rfl #[.int .i64 a0, .int .i64 1488, .int .i64 1514] rfl (by (try simp only [List.map_toArray, List.map_cons, List.map_nil]); first | done | rfl) ?_; (with_reducible refine (spec_l1In.calls a0 1488 1514 false _ A9.out).mono ?_); rintro e w' ⟨rfl, ⟨nd, rfl⟩⟩; refine ⟨_, rfl, ?_⟩) | ((with_reducible refine gate_callee (f := 53) rfl ?_); refine goesL_ (some 19) rfl rfl Try.func53 (by kernel_rfl) rfl #[.int .i64 a0, .int .i64 1569, .int .i64 1610] rfl (by (try simp only [List.map_toArray, List.map_cons, List.map_nil]); first | done | rfl) ?_; (with_reducible refine (spec_l1In.calls a0 1569 1610 false _ A11.out).mono ?_); rintro e w' ⟨rfl, ⟨nd, rfl⟩⟩; refine ⟨_, rfl, ?_⟩) | ((with_reducible refine gate_callee (f := 53) rfl ?_); refine goesL_ (some 22) rfl rfl Try.func53 (by kernel_rfl) rfl #[.int .i64 a0, .int .i64 48, .int .i64 57] rfl (by (try simp only [List.map_toArray, List.map_cons, List.map_nil]); first | done | rfl) ?_; (with_reducible refine (spec_l1In.calls a0 48 57 true _ A13.out).mono ?_); rintro e w' ⟨rfl, ⟨nd, rfl⟩⟩; refine ⟨_, rfl, ?_⟩)); go_ret; exact ⟨by first | rfl | (simp [errW_none, errW_some] <;> rfl) | (simp [*, errW_none, errW_some] <;> rfl), by repeat (first | (with_reducible first | exact HB.out | apply below_alloc | apply pw_below_drewN | apply below_drew1) | exact HB.out)⟩
      ·
       replace c14 := Bool.eq_false_iff.mpr c14; subst c14; have H1 : ((spec_l1In.f a0 1632 1641).bind fun t310 => (if t310 = true then (some 7) else ((spec_l1Signs.f kj1 a0).bind fun t311 => (some t311)))) = some r := by rw [if_neg (show ¬ (false = true) by decide)] at H; exact H
       clear H; have H := H1; clear H1; replace H := Option.bind_eq_some_iff.mp H; obtain ⟨t310, A150, H⟩ := H; replace H : (if t310 = true then (some 7) else ((spec_l1Signs.f kj1 a0).bind fun t311 => (some t311))) = some r := H; have A15 := az A150; clear A150; by_cases c16 : t310 = true
       ·
        subst c16; have H1 : (some 7) = some r := by rw [if_pos rfl] at H; exact H
        clear H; have H := H1; clear H1; obtain rfl := Option.some.inj H; go_wp2_with (first | ((with_reducible refine gate_callee (f := 53) rfl ?_); refine goesL_ (some 16) rfl rfl Try.func53 (by kernel_rfl) rfl #[.int .i64 a0, .int .i64 1488, .int .i64 1514] rfl (by (try simp only [List.map_toArray, List.map_cons, List.map_nil]); first | done | rfl) ?_; (with_reducible refine (spec_l1In.calls a0 1488 1514 false _ A9.out).mono ?_); rintro e w' ⟨rfl, ⟨nd, rfl⟩⟩; refine ⟨_, rfl, ?_⟩) | ((with_reducible refine gate_callee (f := 53) rfl ?_); refine goesL_ (some 19) rfl rfl Try.func53 (by kernel_rfl) rfl #[.int .i64 a0, .int .i64 1569, .int .i64 1610] rfl (by (try simp only [List.map_toArray, List.map_cons, List.map_nil]); first | done | rfl) ?_; (with_reducible refine (spec_l1In.calls a0 1569 1610 false _ A11.out).mono ?_); rintro e w' ⟨rfl, ⟨nd, rfl⟩⟩; refine ⟨_, rfl, ?_⟩) | ((with_reducible refine gate_callee (f := 53) rfl ?_); refine goesL_ (some 22) rfl rfl Try.func53 (by kernel_rfl) rfl #[.int .i64 a0, .int .i64 48, .int .i64 57] rfl (by (try simp only [List.map_toArray, List.map_cons, List.map_nil]); first | done | rfl) ?_; (with_reducible refine (spec_l1In.calls a0 48 57 false _ A13.out).mono ?_); rintro e w' ⟨rfl, ⟨nd, rfl⟩⟩; refine ⟨_, rfl, ?_⟩) | ((with_reducible refine gate_callee (f := 53) rfl ?_); refine goesL_ (some 25) rfl rfl Try.func53 (by kernel_rfl) rfl #[.int .i64 a0, .int .i64 1632, .int .i64 1641] rfl (by (try simp only [List.map_toArray, List.map_cons, List.map_nil]); first | done | rfl) ?_; (with_reducible refine (spec_l1In.calls a0 1632 1641 true _ A15.out).mono ?_); rintro e w' ⟨rfl, ⟨nd, rfl⟩⟩; refine ⟨_, rfl, ?_⟩)); go_ret; exact ⟨by first | rfl | (simp [errW_none, errW_some] <;> rfl) | (simp [*, errW_none, errW_some] <;> rfl), by repeat (first | (with_reducible first | exact HB.out | apply below_alloc | apply pw_below_drewN | apply below_drew1) | exact HB.out)⟩
       ·
        replace c16 := Bool.eq_false_iff.mpr c16; subst c16; have H1 : ((spec_l1Signs.f kj1 a0).bind fun t311 => (some t311)) = some r := by rw [if_neg (show ¬ (false = true) by decide)] at H; exact H
        clear H; have H := H1; clear H1; replace H := Option.bind_eq_some_iff.mp H; obtain ⟨t311, A170, H⟩ := H; replace H : (some t311) = some r := H; have A17 := az A170; clear A170; obtain rfl := Option.some.inj H; go_wp2_with (first | ((with_reducible refine gate_callee (f := 53) rfl ?_); refine goesL_ (some 16) rfl rfl Try.func53 (by kernel_rfl) rfl #[.int .i64 a0, .int .i64 1488, .int .i64 1514] rfl (by (try simp only [List.map_toArray, List.map_cons, List.map_nil]); first | done | rfl) ?_; (with_reducible refine (spec_l1In.calls a0 1488 1514 false _ A9.out).mono ?_); rintro e w' ⟨rfl, ⟨nd, rfl⟩⟩; refine ⟨_, rfl, ?_⟩) | ((with_reducible refine gate_callee (f := 53) rfl ?_); refine goesL_ (some 19) rfl rfl Try.func53 (by kernel_rfl) rfl #[.int .i64 a0, .int .i64 1569, .int .i64 1610] rfl (by (try simp only [List.map_toArray, List.map_cons, List.map_nil]); first | done | rfl) ?_; (with_reducible refine (spec_l1In.calls a0 1569 1610 false _ A11.out).mono ?_); rintro e w' ⟨rfl, ⟨nd, rfl⟩⟩; refine ⟨_, rfl, ?_⟩) | ((with_reducible refine gate_callee (f := 53) rfl ?_); refine goesL_ (some 22) rfl rfl Try.func53 (by kernel_rfl) rfl #[.int .i64 a0, .int .i64 48, .int .i64 57] rfl (by (try simp only [List.map_toArray, List.map_cons, List.map_nil]); first | done | rfl) ?_; (with_reducible refine (spec_l1In.calls a0 48 57 false _ A13.out).mono ?_); rintro e w' ⟨rfl, ⟨nd, rfl⟩⟩; refine ⟨_, rfl, ?_⟩) | ((with_reducible refine gate_callee (f := 53) rfl ?_); refine goesL_ (some 25) rfl rfl Try.func53 (by kernel_rfl) rfl #[.int .i64 a0, .int .i64 1632, .int .i64 1641] rfl (by (try simp only [List.map_toArray, List.map_cons, List.map_nil]); first | done | rfl) ?_; (with_reducible refine (spec_l1In.calls a0 1632 1641 false _ A15.out).mono ?_); rintro e w' ⟨rfl, ⟨nd, rfl⟩⟩; refine ⟨_, rfl, ?_⟩) | ((with_reducible refine gate_callee (f := 54) rfl ?_); refine goesL_ (some 27) rfl rfl Try.func54 (by kernel_rfl) rfl #[.int .i64 a0] rfl (by (try simp only [List.map_toArray, List.map_cons, List.map_nil]); first | done | rfl) ?_; (with_reducible refine (spec_l1Signs.calls kj1 a0 t311 _ A17.out).mono ?_); rintro e w18 ⟨rfl, hb⟩; refine ⟨_, rfl, ?_⟩; have n0_ := az (below_step (by repeat (first | (with_reducible first | exact HB.out | apply below_alloc | apply pw_below_drewN | apply below_drew1) | exact HB.out)) hb); clear HB; have HB := n0_; clear n0_; (try clear hb); (try clear hb2); (try clear hk); (try clear hi))); go_ret; exact ⟨by first | rfl | (simp [errW_none, errW_some] <;> rfl) | (simp [*, errW_none, errW_some] <;> rfl), by repeat (first | (with_reducible first | exact HB.out | apply below_alloc | apply pw_below_drewN | apply below_drew1) | exact HB.out)⟩
def spec_l1Size.f (a0 : Int) : Option (Int) := (spec_l1In.f a0 0 127).bind fun t288 => (if t288 = true then (some 1) else ((spec_l1In.f a0 128 2047).bind fun t289 => (if t289 = true then (some 2) else ((spec_l1In.f a0 55296 57343).bind fun t290 => (if t290 = true then (some 0) else ((spec_l1In.f a0 2048 65535).bind fun t291 => (if t291 = true then (some 3) else ((spec_l1In.f a0 65536 1114111).bind fun t292 => (if t292 = true then (some 4) else (some 0))))))))))
theorem spec_l1Size.calls (a0 : Int) (r : Int) (w : World) (h : spec_l1Size.f a0 = some r) :
  Calls Try.prog 88 #[.int .i64 a0] w fun e w' => e = .returned (.int .i64 r) ∧ Drawn0 w w' := by
 have H : ((spec_l1In.f a0 0 127).bind fun t288 => (if t288 = true then (some 1) else ((spec_l1In.f a0 128 2047).bind fun t289 => (if t289 = true then (some 2) else ((spec_l1In.f a0 55296 57343).bind fun t290 => (if t290 = true then (some 0) else ((spec_l1In.f a0 2048 65535).bind fun t291 => (if t291 = true then (some 3) else ((spec_l1In.f a0 65536 1114111).bind fun t292 => (if t292 = true then (some 4) else (some 0))))))))))) = some r := h; clear h; replace H := Option.bind_eq_some_iff.mp H; obtain ⟨t288, A20, H⟩ := H; replace H : (if t288 = true then (some 1) else ((spec_l1In.f a0 128 2047).bind fun t289 => (if t289 = true then (some 2) else ((spec_l1In.f a0 55296 57343).bind fun t290 => (if t290 = true then (some 0) else ((spec_l1In.f a0 2048 65535).bind fun t291 => (if t291 = true then (some 3) else ((spec_l1In.f a0 65536 1114111).bind fun t292 => (if t292 = true then (some 4) else (some 0)))))))))) = some r := H; have A2 := az A20; clear A20; by_cases c3 : t288 = true
 ·
  subst c3; have H1 : (some 1) = some r := by rw [if_pos rfl] at H; exact H
  clear H; have H := H1; clear H1; obtain rfl := Option.some.inj H; go_enter Try.func88, Try.ntmps88; go_wp2_with (first | ((with_reducible refine gate_callee (f := 53) rfl ?_); refine goesL_ (some 5) rfl rfl Try.func53 (by kernel_rfl) rfl #[.int .i64 a0, .int .i64 0, .int .i64 127] rfl (by (try simp only [List.map_toArray, List.map_cons, List.map_nil]); first | done | rfl) ?_; (with_reducible refine (spec_l1In.calls a0 0 127 true _ A2.out).mono ?_); rintro e w' ⟨rfl, ⟨nd, rfl⟩⟩; refine ⟨_, rfl, ?_⟩)); go_ret; exact ⟨by first | rfl | (simp; done) | (simp [*]; done), by repeat (first | exact Drawn0.refl _ | apply Drawn0.step)⟩
 ·
  replace c3 := Bool.eq_false_iff.mpr c3; subst c3; have H1 : ((spec_l1In.f a0 128 2047).bind fun t289 => (if t289 = true then (some 2) else ((spec_l1In.f a0 55296 57343).bind fun t290 => (if t290 = true then (some 0) else ((spec_l1In.f a0 2048 65535).bind fun t291 => (if t291 = true then (some 3) else ((spec_l1In.f a0 65536 1114111).bind fun t292 => (if t292 = true then (some 4) else (some 0))))))))) = some r := by rw [if_neg (show ¬ (false = true) by decide)] at H; exact H
  clear H; have H := H1; clear H1; replace H := Option.bind_eq_some_iff.mp H; obtain ⟨t289, A40, H⟩ := H; replace H : (if t289 = true then (some 2) else ((spec_l1In.f a0 55296 57343).bind fun t290 => (if t290 = true then (some 0) else ((spec_l1In.f a0 2048 65535).bind fun t291 => (if t291 = true then (some 3) else ((spec_l1In.f a0 65536 1114111).bind fun t292 => (if t292 = true then (some 4) else (some 0)))))))) = some r := H; have A4 := az A40; clear A40; by_cases c5 : t289 = true
  ·
   subst c5; have H1 : (some 2) = some r := by rw [if_pos rfl] at H; exact H
   clear H; have H := H1; clear H1; obtain rfl := Option.some.inj H; go_enter Try.func88, Try.ntmps88; go_wp2_with (first | ((with_reducible refine gate_callee (f := 53) rfl ?_); refine goesL_ (some 5) rfl rfl Try.func53 (by kernel_rfl) rfl #[.int .i64 a0, .int .i64 0, .int .i64 127] rfl (by (try simp only [List.map_toArray, List.map_cons, List.map_nil]); first | done | rfl) ?_; (with_reducible refine (spec_l1In.calls a0 0 127 false _ A2.out).mono ?_); rintro e w' ⟨rfl, ⟨nd, rfl⟩⟩; refine ⟨_, rfl, ?_⟩) | ((with_reducible refine gate_callee (f := 53) rfl ?_); refine goesL_ (some 8) rfl rfl Try.func53 (by kernel_rfl) rfl #[.int .i64 a0, .int .i64 128, .int .i64 2047] rfl (by (try simp only [List.map_toArray, List.map_cons, List.map_nil]); first | done | rfl) ?_; (with_reducible refine (spec_l1In.calls a0 128 2047 true _ A4.out).mono ?_); rintro e w' ⟨rfl, ⟨nd, rfl⟩⟩; refine ⟨_, rfl, ?_⟩)); go_ret; exact ⟨by first | rfl | (simp; done) | (simp [*]; done), by repeat (first | exact Drawn0.refl _ | apply Drawn0.step)⟩
  ·
   replace c5 := Bool.eq_false_iff.mpr c5; subst c5; have H1 : ((spec_l1In.f a0 55296 57343).bind fun t290 => (if t290 = true then (some 0) else ((spec_l1In.f a0 2048 65535).bind fun t291 => (if t291 = true then (some 3) else ((spec_l1In.f a0 65536 1114111).bind fun t292 => (if t292 = true then (some 4) else (some 0))))))) = some r := by rw [if_neg (show ¬ (false = true) by decide)] at H; exact H
   clear H; have H := H1; clear H1; replace H := Option.bind_eq_some_iff.mp H; obtain ⟨t290, A60, H⟩ := H; replace H : (if t290 = true then (some 0) else ((spec_l1In.f a0 2048 65535).bind fun t291 => (if t291 = true then (some 3) else ((spec_l1In.f a0 65536 1114111).bind fun t292 => (if t292 = true then (some 4) else (some 0)))))) = some r := H; have A6 := az A60; clear A60; by_cases c7 : t290 = true
   ·
    subst c7; have H1 : (some 0) = some r := by rw [if_pos rfl] at H; exact H
    clear H; have H := H1; clear H1; obtain rfl := Option.some.inj H; go_enter Try.func88, Try.ntmps88; go_wp2_with (first | ((with_reducible refine gate_callee (f := 53) rfl ?_); refine goesL_ (some 5) rfl rfl Try.func53 (by kernel_rfl) rfl #[.int .i64 a0, .int .i64 0, .int .i64 127] rfl (by (try simp only [List.map_toArray, List.map_cons, List.map_nil]); first | done | rfl) ?_; (with_reducible refine (spec_l1In.calls a0 0 127 false _ A2.out).mono ?_); rintro e w' ⟨rfl, ⟨nd, rfl⟩⟩; refine ⟨_, rfl, ?_⟩) | ((with_reducible refine gate_callee (f := 53) rfl ?_); refine goesL_ (some 8) rfl rfl Try.func53 (by kernel_rfl) rfl #[.int .i64 a0, .int .i64 128, .int .i64 2047] rfl (by (try simp only [List.map_toArray, List.map_cons, List.map_nil]); first | done | rfl) ?_; (with_reducible refine (spec_l1In.calls a0 128 2047 false _ A4.out).mono ?_); rintro e w' ⟨rfl, ⟨nd, rfl⟩⟩; refine ⟨_, rfl, ?_⟩) | ((with_reducible refine gate_callee (f := 53) rfl ?_); refine goesL_ (some 11) rfl rfl Try.func53 (by kernel_rfl) rfl #[.int .i64 a0, .int .i64 55296, .int .i64 57343] rfl (by (try simp only [List.map_toArray, List.map_cons, List.map_nil]); first | done | rfl) ?_; (with_reducible refine (spec_l1In.calls a0 55296 57343 true _ A6.out).mono ?_); rintro e w' ⟨rfl, ⟨nd, rfl⟩⟩; refine ⟨_, rfl, ?_⟩)); go_ret; exact ⟨by first | rfl | (simp; done) | (simp [*]; done), by repeat (first | exact Drawn0.refl _ | apply Drawn0.step)⟩
   ·
    replace c7 := Bool.eq_false_iff.mpr c7; subst c7; have H1 : ((spec_l1In.f a0 2048 65535).bind fun t291 => (if t291 = true then (some 3) else ((spec_l1In.f a0 65536 1114111).bind fun t292 => (if t292 = true then (some 4) else (some 0))))) = some r := by rw [if_neg (show ¬ (false = true) by decide)] at H; exact H
    clear H; have H := H1; clear H1; replace H := Option.bind_eq_some_iff.mp H; obtain ⟨t291, A80, H⟩ := H; replace H : (if t291 = true then (some 3) else ((spec_l1In.f a0 65536 1114111).bind fun t292 => (if t292 = true then (some 4) else (some 0)))) = some r := H; have A8 := az A80; clear A80; by_cases c9 : t291 = true
    ·
     subst c9; have H1 : (some 3) = some r := by rw [if_pos rfl] at H; exact H
     clear H; have H := H1; clear H1; obtain rfl := Option.some.inj H; go_enter Try.func88, Try.ntmps88; go_wp2_with (first | ((with_reducible refine gate_callee (f := 53) rfl ?_); refine goesL_ (some 5) rfl rfl Try.func53 (by kernel_rfl) rfl #[.int .i64 a0, .int .i64 0, .int .i64 127] rfl (by (try simp only [List.map_toArray, List.map_cons, List.map_nil]); first | done | rfl) ?_; (with_reducible refine (spec_l1In.calls a0 0 127 false _ A2.out).mono ?_); rintro e w' ⟨rfl, ⟨nd, rfl⟩⟩; refine ⟨_, rfl, ?_⟩) | ((with_reducible refine gate_callee (f := 53) rfl ?_); refine goesL_ (some 8) rfl rfl Try.func53 (by kernel_rfl) rfl #[.int .i64 a0, .int .i64 128, .int .i64 2047] rfl (by (try simp only [List.map_toArray, List.map_cons, List.map_nil]); first | done | rfl) ?_; (with_reducible refine (spec_l1In.calls a0 128 2047 false _ A4.out).mono ?_); rintro e w' ⟨rfl, ⟨nd, rfl⟩⟩; refine ⟨_, rfl, ?_⟩) | ((with_reducible refine gate_callee (f := 53) rfl ?_); refine goesL_ (some 11) rfl rfl Try.func53 (by kernel_rfl) rfl #[.int .i64 a0, .int .i64 55296, .int .i64 57343] rfl (by (try simp only [List.map_toArray, List.map_cons, List.map_nil]); first | done | rfl) ?_; (with_reducible refine (spec_l1In.calls a0 55296 57343 false _ A6.out).mono ?_); rintro e w' ⟨rfl, ⟨nd, rfl⟩⟩; refine ⟨_, rfl, ?_⟩) | ((with_reducible refine gate_callee (f := 53) rfl ?_); refine goesL_ (some 14) rfl rfl Try.func53 (by kernel_rfl) rfl #[.int .i64 a0, .int .i64 2048, .int .i64 65535] rfl (by (try simp only [List.map_toArray, List.map_cons, List.map_nil]); first | done | rfl) ?_; (with_reducible refine (spec_l1In.calls a0 2048 65535 true _ A8.out).mono ?_); rintro e w' ⟨rfl, ⟨nd, rfl⟩⟩; refine ⟨_, rfl, ?_⟩)); go_ret; exact ⟨by first | rfl | (simp; done) | (simp [*]; done), by repeat (first | exact Drawn0.refl _ | apply Drawn0.step)⟩
    ·
     replace c9 := Bool.eq_false_iff.mpr c9; subst c9; have H1 : ((spec_l1In.f a0 65536 1114111).bind fun t292 => (if t292 = true then (some 4) else (some 0))) = some r := by rw [if_neg (show ¬ (false = true) by decide)] at H; exact H
     clear H; have H := H1; clear H1; replace H := Option.bind_eq_some_iff.mp H; obtain ⟨t292, A100, H⟩ := H; replace H : (if t292 = true then (some 4) else (some 0)) = some r := H; have A10 := az A100; clear A100; by_cases c11 : t292 = true
     ·
      subst c11; have H1 : (some 4) = some r := by rw [if_pos rfl] at H; exact H
      clear H; have H := H1; clear H1; obtain rfl := Option.some.inj H; go_enter Try.func88, Try.ntmps88; go_wp2_with (first | ((with_reducible refine gate_callee (f := 53) rfl ?_); refine goesL_ (some 5) rfl rfl Try.func53 (by kernel_rfl) rfl #[.int .i64 a0, .int .i64 0, .int .i64 127] rfl (by (try simp only [List.map_toArray, List.map_cons, List.map_nil]); first | done | rfl) ?_; (with_reducible refine (spec_l1In.calls a0 0 127 false _ A2.out).mono ?_); rintro e w' ⟨rfl, ⟨nd, rfl⟩⟩; refine ⟨_, rfl, ?_⟩) | ((with_reducible refine gate_callee (f := 53) rfl ?_); refine goesL_ (some 8) rfl rfl Try.func53 (by kernel_rfl) rfl #[.int .i64 a0, .int .i64 128, .int .i64 2047] rfl (by (try simp only [List.map_toArray, List.map_cons, List.map_nil]); first | done | rfl) ?_; (with_reducible refine (spec_l1In.calls a0 128 2047 false _ A4.out).mono ?_); rintro e w' ⟨rfl, ⟨nd, rfl⟩⟩; refine ⟨_, rfl, ?_⟩) | ((with_reducible refine gate_callee (f := 53) rfl ?_); refine goesL_ (some 11) rfl rfl Try.func53 (by kernel_rfl) rfl #[.int .i64 a0, .int .i64 55296, .int .i64 57343] rfl (by (try simp only [List.map_toArray, List.map_cons, List.map_nil]); first | done | rfl) ?_; (with_reducible refine (spec_l1In.calls a0 55296 57343 false _ A6.out).mono ?_); rintro e w' ⟨rfl, ⟨nd, rfl⟩⟩; refine ⟨_, rfl, ?_⟩) | ((with_reducible refine gate_callee (f := 53) rfl ?_); refine goesL_ (some 14) rfl rfl Try.func53 (by kernel_rfl) rfl #[.int .i64 a0, .int .i64 2048, .int .i64 65535] rfl (by (try simp only [List.map_toArray, List.map_cons, List.map_nil]); first | done | rfl) ?_; (with_reducible refine (spec_l1In.calls a0 2048 65535 false _ A8.out).mono ?_); rintro e w' ⟨rfl, ⟨nd, rfl⟩⟩; refine ⟨_, rfl, ?_⟩) | ((with_reducible refine gate_callee (f := 53) rfl ?_); refine goesL_ (some 17) rfl rfl Try.func53 (by kernel_rfl) rfl #[.int .i64 a0, .int .i64 65536, .int .i64 1114111] rfl (by (try simp only [List.map_toArray, List.map_cons, List.map_nil]); first | done | rfl) ?_; (with_reducible refine (spec_l1In.calls a0 65536 1114111 true _ A10.out).mono ?_); rintro e w' ⟨rfl, ⟨nd, rfl⟩⟩; refine ⟨_, rfl, ?_⟩)); go_ret; exact ⟨by first | rfl | (simp; done) | (simp [*]; done), by repeat (first | exact Drawn0.refl _ | apply Drawn0.step)⟩
     ·
      replace c11 := Bool.eq_false_iff.mpr c11; subst c11; have H1 : (some 0) = some r := by rw [if_neg (show ¬ (false = true) by decide)] at H; exact H
      clear H; have H := H1; clear H1; obtain rfl := Option.some.inj H; go_enter Try.func88, Try.ntmps88; go_wp2_with (first | ((with_reducible refine gate_callee (f := 53) rfl ?_); refine goesL_ (some 5) rfl rfl Try.func53 (by kernel_rfl) rfl #[.int .i64 a0, .int .i64 0, .int .i64 127] rfl (by (try simp only [List.map_toArray, List.map_cons, List.map_nil]); first | done | rfl) ?_; (with_reducible refine (spec_l1In.calls a0 0 127 false _ A2.out).mono ?_); rintro e w' ⟨rfl, ⟨nd, rfl⟩⟩; refine ⟨_, rfl, ?_⟩) | ((with_reducible refine gate_callee (f := 53) rfl ?_); refine goesL_ (some 8) rfl rfl Try.func53 (by kernel_rfl) rfl #[.int .i64 a0, .int .i64 128, .int .i64 2047] rfl (by (try simp only [List.map_toArray, List.map_cons, List.map_nil]); first | done | rfl) ?_; (with_reducible refine (spec_l1In.calls a0 128 2047 false _ A4.out).mono ?_); rintro e w' ⟨rfl, ⟨nd, rfl⟩⟩; refine ⟨_, rfl, ?_⟩) | ((with_reducible refine gate_callee (f := 53) rfl ?_); refine goesL_ (some 11) rfl rfl Try.func53 (by kernel_rfl) rfl #[.int .i64 a0, .int .i64 55296, .int .i64 57343] rfl (by (try simp only [List.map_toArray, List.map_cons, List.map_nil]); first | done | rfl) ?_; (with_reducible refine (spec_l1In.calls a0 55296 57343 false _ A6.out).mono ?_); rintro e w' ⟨rfl, ⟨nd, rfl⟩⟩; refine ⟨_, rfl, ?_⟩) | ((with_reducible refine gate_callee (f := 53) rfl ?_); refine goesL_ (some 14) rfl rfl Try.func53 (by kernel_rfl) rfl #[.int .i64 a0, .int .i64 2048, .int .i64 65535] rfl (by (try simp only [List.map_toArray, List.map_cons, List.map_nil]); first | done | rfl) ?_; (with_reducible refine (spec_l1In.calls a0 2048 65535 false _ A8.out).mono ?_); rintro e w' ⟨rfl, ⟨nd, rfl⟩⟩; refine ⟨_, rfl, ?_⟩) | ((with_reducible refine gate_callee (f := 53) rfl ?_); refine goesL_ (some 17) rfl rfl Try.func53 (by kernel_rfl) rfl #[.int .i64 a0, .int .i64 65536, .int .i64 1114111] rfl (by (try simp only [List.map_toArray, List.map_cons, List.map_nil]); first | done | rfl) ?_; (with_reducible refine (spec_l1In.calls a0 65536 1114111 false _ A10.out).mono ?_); rintro e w' ⟨rfl, ⟨nd, rfl⟩⟩; refine ⟨_, rfl, ?_⟩)); go_ret; exact ⟨by first | rfl | (simp; done) | (simp [*]; done), by repeat (first | exact Drawn0.refl _ | apply Drawn0.step)⟩
def spec_l1Ok.l0 : Nat → List Int → Int → Option (Bool)
 | 0, _, _ => none
 | k + 1, x0, x3 => if x3 < (x0.length : Int) then (if 0 ≤ x3 then ((spec_l1Size.f (rd x0 x3)).bind fun t294 => (if t294 = 0 then (some false) else (spec_l1Ok.l0 k x0 (wrap64 (x3 + 1))))) else (none)) else (some (decide ((x0.length : Int) ≤ 80)))
def spec_l1Ok.f (k : Nat) (l0 : List Int) : Option (Bool) := spec_l1Ok.l0 k l0 0
theorem spec_l1Ok.mono_l : ∀ k, (∀ y0 y1, LeO (spec_l1Ok.l0 k y0 y1) (spec_l1Ok.l0 (k + 1) y0 y1))
 | 0 => fun _ _ r h => by simp [spec_l1Ok.l0] at h
 | k + 1 => by
  have ih0 := spec_l1Ok.mono_l k
  ·
   intro y0 y1; unfold spec_l1Ok.l0
   repeat' first
   | (with_reducible exact ih0 _ _)
   | (with_reducible exact LeO.refl _)
   | (with_reducible exact LeO.none _)
   | (with_reducible refine LeO.ite ?_ ?_)
   | (with_reducible refine LeO.bind ?_ (fun _ => ?_))
   | exact ih0 _ _
   | exact LeO.none _
   | refine LeO.ite ?_ ?_
   | refine LeO.bind ?_ (fun _ => ?_)
theorem spec_l1Ok.mono : ∀ a0 k, LeO (spec_l1Ok.f k a0) (spec_l1Ok.f (k + 1) a0) := by
 intro a0 k; have ih0 := spec_l1Ok.mono_l k; unfold spec_l1Ok.f
 repeat' first
   | (with_reducible exact ih0 _ _)
   | (with_reducible exact LeO.refl _)
   | (with_reducible exact LeO.none _)
   | (with_reducible refine LeO.ite ?_ ?_)
   | (with_reducible refine LeO.bind ?_ (fun _ => ?_))
   | exact ih0 _ _
   | exact LeO.none _
   | refine LeO.ite ?_ ?_
   | refine LeO.bind ?_ (fun _ => ?_)
theorem spec_l1Ok.calls (k : Nat) (A0 : Option Addr) (c0 : Nat) (l0 : List Int) (r : Bool) (w : World) (hr0 : Kd.C (Kd.int .i64) w A0 l0.length l0) (hc0 : l0.length ≤ c0) (h : spec_l1Ok.f k l0 = some r) :
  Calls Try.prog 71 #[.slice A0 l0.length c0] w fun e w' => e = .returned (.bool r) ∧ Drawn0 w w' := by
 have HR0 := az hr0; have HC0 := az hc0; clear hr0 hc0; have H : (spec_l1Ok.l0 k l0 0) = some r := h; clear h; have H' := az H; clear H; go_enter Try.func71, Try.ntmps71; go_wp2; go_loopg [3] k (fun kq v3 w' => ∃ (x3_1 : Int), v3 = .int .i64 x3_1 ∧ Aside0 (spec_l1Ok.l0 kq l0 x3_1 = some r) ∧ Aside0 (kq ≤ k) ∧ Drawn0 w w')
 case atStart => exact ⟨(0), (by first | rfl | (simp; done) | (simp [*]; done)), H', ⟨Nat.le_refl _⟩, by repeat (first | exact Drawn0.refl _ | apply Drawn0.step)⟩
 case round =>
  clear H'; obtain ⟨x3_1, rfl, HA, HK1, ⟨m1, rfl⟩⟩ := hrel
  cases gk with
  | zero => exact absurd HA.out (by simp [spec_l1Ok.l0])
  | succ k1 =>
   have H := HA.out; clear HA; simp only [spec_l1Ok.l0] at H; by_cases c2 : x3_1 < (l0.length : Int)
   ·
    rw [if_pos c2] at H; have c2b0 : decide (x3_1 < (l0.length : Int)) = true := decide_eq_true c2; clear c2; by_cases c3 : 0 ≤ x3_1
    ·
     rw [if_pos c3] at H; have c3b0 : decide (0 ≤ x3_1) = true := decide_eq_true c3; clear c3; replace H := Option.bind_eq_some_iff.mp H; obtain ⟨t294, A40, H⟩ := H; replace H : (if t294 = 0 then (some false) else (spec_l1Ok.l0 k1 l0 (wrap64 (x3_1 + 1)))) = some r := H; have A4 := az A40; clear A40; by_cases c5 : t294 = 0
     ·
      rw [if_pos c5] at H; have c5b0 : (t294 == 0) = true := beq_iff_eq.mpr c5; have c5b1 : (t294 != 0) = false := bne_eq_false_iff_eq.mpr c5; clear c5; obtain rfl := Option.some.inj H; have p293 : 0 ≤ (x3_1 : Int) := of_decide_eq_true (by assumption); have q293 : x3_1 < (l0.length : Int) := of_decide_eq_true (by assumption); obtain ⟨ad293, e293, hx293_0⟩ := Kd.at_int HR0.out x3_1 p293 q293
      cases e293
      replace p293 := eq_true p293; replace q293 := eq_true q293; go_wp2_with (first | ((with_reducible refine gate_callee (f := 88) rfl ?_); refine goesL_ (some 14) rfl rfl Try.func88 (by kernel_rfl) rfl #[.int .i64 (rd l0 x3_1)] rfl (by (try simp only [List.map_toArray, List.map_cons, List.map_nil]); first | done | rfl) ?_; (with_reducible refine (spec_l1Size.calls (rd l0 x3_1) t294 _ A4.out).mono ?_); rintro e w' ⟨rfl, ⟨nd, rfl⟩⟩; refine ⟨_, rfl, ?_⟩)); go_ret; exact ⟨by first | rfl | (simp; done) | (simp [*]; done), by repeat (first | exact Drawn0.refl _ | apply Drawn0.step)⟩
     ·
      rw [if_neg c5] at H; have c5b0 : (t294 == 0) = false := beq_eq_false_iff_ne.mpr c5; have c5b1 : (t294 != 0) = true := bne_iff_ne.mpr c5; have H' := az H; clear H; have p293 : 0 ≤ (x3_1 : Int) := of_decide_eq_true (by assumption); have q293 : x3_1 < (l0.length : Int) := of_decide_eq_true (by assumption); obtain ⟨ad293, e293, hx293_0⟩ := Kd.at_int HR0.out x3_1 p293 q293
      cases e293
      replace p293 := eq_true p293; replace q293 := eq_true q293; go_wp2_with (first | ((with_reducible refine gate_callee (f := 88) rfl ?_); refine goesL_ (some 14) rfl rfl Try.func88 (by kernel_rfl) rfl #[.int .i64 (rd l0 x3_1)] rfl (by (try simp only [List.map_toArray, List.map_cons, List.map_nil]); first | done | rfl) ?_; (with_reducible refine (spec_l1Size.calls (rd l0 x3_1) t294 _ A4.out).mono ?_); rintro e w' ⟨rfl, ⟨nd, rfl⟩⟩; refine ⟨_, rfl, ?_⟩)); go_roundg k1
      case measure => have := HK1.out; omega
      case rel => exact ⟨(wrap64 (x3_1 + 1)), (by first | rfl | (simp; done) | (simp [*]; done)), H', ⟨by have := HK1.out; omega⟩, by repeat (first | exact Drawn0.refl _ | apply Drawn0.step)⟩
    ·
     rw [if_neg c3] at H; exact absurd H (by simp)
   ·
    rw [if_neg c2] at H; have c2b0 : decide (x3_1 < (l0.length : Int)) = false := decide_eq_false c2; clear c2; obtain rfl := Option.some.inj H; go_wp2; go_ret; exact ⟨by first | rfl | (simp; done) | (simp [*]; done), by repeat (first | exact Drawn0.refl _ | apply Drawn0.step)⟩
def spec_l3Ok.f (k : Nat) (l0 : List Int) (a1 : Int) : Option (Bool) := (spec_l1Ok.f k l0).bind fun t295 => (if t295 = true then ((spec_l1In.f a1 0 1).bind fun t296 => (some t296)) else (some false))
theorem spec_l3Ok.mono : ∀ a0 a1 k, LeO (spec_l3Ok.f k a0 a1) (spec_l3Ok.f (k + 1) a0 a1) := by
 intro a0 a1 k; unfold spec_l3Ok.f
 repeat' first
   | (with_reducible exact spec_l1Ok.mono _ _)
   | (with_reducible exact LeO.refl _)
   | (with_reducible exact LeO.none _)
   | (with_reducible refine LeO.ite ?_ ?_)
   | (with_reducible refine LeO.bind ?_ (fun _ => ?_))
   | exact spec_l1Ok.mono _ _
   | exact LeO.none _
   | refine LeO.ite ?_ ?_
   | refine LeO.bind ?_ (fun _ => ?_)
theorem spec_l3Ok.calls (k : Nat) (A0 : Option Addr) (c0 : Nat) (l0 : List Int) (a1 : Int) (r : Bool) (w : World) (hr0 : Kd.C (Kd.int .i64) w A0 l0.length l0) (hc0 : l0.length ≤ c0) (h : spec_l3Ok.f k l0 a1 = some r) :
  Calls Try.prog 45 #[.slice A0 l0.length c0, .int .i64 a1] w fun e w' => e = .returned (.bool r) ∧ Drawn0 w w' := by
 have HR0 := az hr0; have HC0 := az hc0; clear hr0 hc0; have H : ((spec_l1Ok.f k l0).bind fun t295 => (if t295 = true then ((spec_l1In.f a1 0 1).bind fun t296 => (some t296)) else (some false))) = some r := h; clear h; replace H := Option.bind_eq_some_iff.mp H; obtain ⟨t295, A30, H⟩ := H; replace H : (if t295 = true then ((spec_l1In.f a1 0 1).bind fun t296 => (some t296)) else (some false)) = some r := H; have A3 := az A30; clear A30; by_cases c4 : t295 = true
 ·
  subst c4; have H1 : ((spec_l1In.f a1 0 1).bind fun t296 => (some t296)) = some r := by rw [if_pos rfl] at H; exact H
  clear H; have H := H1; clear H1; replace H := Option.bind_eq_some_iff.mp H; obtain ⟨t296, A50, H⟩ := H; replace H : (some t296) = some r := H; have A5 := az A50; clear A50; obtain rfl := Option.some.inj H; go_enter Try.func45, Try.ntmps45; go_wp2_with (first | ((with_reducible refine gate_callee (f := 71) rfl ?_); refine goesL_ (some 6) rfl rfl Try.func71 (by kernel_rfl) rfl #[.slice A0 l0.length c0] rfl (by (try simp only [List.map_toArray, List.map_cons, List.map_nil]); first | done | rfl) ?_; (with_reducible refine (spec_l1Ok.calls k _ _ l0 true _ ?side1 ?side2 A3.out).mono ?_); (case side1 => repeat (first | exact HR0.out | (with_reducible refine Kd.C_alloc ?_ _) | (with_reducible refine Kd.C_drewN ?_ _) | (with_reducible refine Kd.C_drew ?_))); (case side2 => exact HC0.out); rintro e w' ⟨rfl, ⟨nd, rfl⟩⟩; refine ⟨_, rfl, ?_⟩) | (go_at_call 53; (with_reducible refine (spec_l1In.calls a1 0 1 t296 _ A5.out).mono ?_); rintro e w' ⟨rfl, ⟨nd, rfl⟩⟩)); go_ret; exact ⟨by first | rfl | (simp; done) | (simp [*]; done), by repeat (first | exact Drawn0.refl _ | apply Drawn0.step)⟩
 ·
  replace c4 := Bool.eq_false_iff.mpr c4; subst c4; have H1 : (some false) = some r := by rw [if_neg (show ¬ (false = true) by decide)] at H; exact H
  clear H; have H := H1; clear H1; obtain rfl := Option.some.inj H; go_enter Try.func45, Try.ntmps45; go_wp2_with (first | ((with_reducible refine gate_callee (f := 71) rfl ?_); refine goesL_ (some 6) rfl rfl Try.func71 (by kernel_rfl) rfl #[.slice A0 l0.length c0] rfl (by (try simp only [List.map_toArray, List.map_cons, List.map_nil]); first | done | rfl) ?_; (with_reducible refine (spec_l1Ok.calls k _ _ l0 false _ ?side1 ?side2 A3.out).mono ?_); (case side1 => repeat (first | exact HR0.out | (with_reducible refine Kd.C_alloc ?_ _) | (with_reducible refine Kd.C_drewN ?_ _) | (with_reducible refine Kd.C_drew ?_))); (case side2 => exact HC0.out); rintro e w' ⟨rfl, ⟨nd, rfl⟩⟩; refine ⟨_, rfl, ?_⟩)); go_ret; exact ⟨by first | rfl | (simp; done) | (simp [*]; done), by repeat (first | exact Drawn0.refl _ | apply Drawn0.step)⟩
def entV (e : S87) : Value := .iface 87 (.agg #[.int .i64 e.f0, .int .i64 e.f1, .bool e.f2])
def topA (gl : Nat) : List (Nat × S87) → Addr
 | [] => ⟨gl, 0, none⟩
 | p :: _ => ⟨p.1, 0, none⟩
def botA (gl : Nat) : List (Nat × S87) → Addr
 | [] => ⟨gl, 0, none⟩
 | p :: r => if r = [] then ⟨p.1, 0, none⟩ else botA gl r
def Chain (w : World) (gl : Nat) : Addr → List (Nat × S87) → Prop
 | _, [] => True
 | nx, p :: r => w.heap[p.1]? = some (.cells #[.pointer (some nx), .pointer (some (topA gl r)), .pointer (some ⟨gl, 0, none⟩), entV p.2] 99 (0, 0)) ∧ Chain w gl ⟨p.1, 0, none⟩ r
def IsRing (w : World) (base gl : Nat) (l : List (Nat × S87)) : Prop :=
 w.heap[gl]? = some (.cells #[.pointer (some (botA gl l)), .pointer (some (topA gl l)), .pointer none, .nilIface, .int .i64 l.length] 101 (0, 0)) ∧ Chain w gl ⟨gl, 0, none⟩ l ∧ base ≤ gl ∧ (∀ p ∈ l, base ≤ p.1) ∧ (l.map (·.1)).Nodup
theorem Chain.move {w w' : World} {gl : Nat} : ∀ {nx : Addr} {l : List (Nat × S87)}, Chain w gl nx l → (∀ p ∈ l, w'.heap[p.1]? = w.heap[p.1]?) → Chain w' gl nx l
 | _, [], _, _ => trivial
 | nx, p :: r, ⟨h1, h2⟩, hm => ⟨(hm p (by simp)).trans h1, Chain.move h2 (fun q hq => hm q (by simp [hq]))⟩
theorem Chain.typed {w : World} {gl : Nat} : ∀ {nx : Addr} {l : List (Nat × S87)}, Chain w gl nx l → ∀ p ∈ l, ∃ cs, w.heap[p.1]? = some (.cells cs 99 (0, 0))
 | _, [], _, p, hp => by simp at hp
 | nx, q :: r, ⟨h1, h2⟩, p, hp => by
  rcases List.mem_cons.mp hp with rfl | h
  · exact ⟨_, h1⟩
  · exact Chain.typed h2 p h
def FrT (ts : List Nat) (w w' : World) : Prop := w.heap.size ≤ w'.heap.size ∧ ∀ (k : Nat) (o : Obj), w.heap[k]? = some o → (∀ t ∈ ts, ∀ cs, o ≠ Obj.cells cs t (0, 0)) → w'.heap[k]? = some o
theorem FrT.refl (ts : List Nat) (w : World) : FrT ts w w := ⟨Nat.le_refl _, fun _ _ h _ => h⟩
theorem FrT.below {ts : List Nat} {w w' : World} (h : Below w.heap.size w w') : FrT ts w w' := ⟨h.size, fun k o hk _ => blk_below hk h⟩
theorem FrT.trans {ts : List Nat} {w w1 w2 : World} (h : FrT ts w w1) (k : FrT ts w1 w2) : FrT ts w w2 := ⟨Nat.le_trans h.1 k.1, fun i o hi ho => k.2 i o (h.2 i o hi ho) ho⟩
theorem FrT.R {ts : List Nat} {w w' : World} (h : FrT ts w w') {base : Nat} {ok : Nat → Prop} {v : Value} {xs : List Int} (hr : Kd.R (Kd.int .i64) 3 w base ok v xs) (h3 : 3 ∉ ts) : Kd.R (Kd.int .i64) 3 w' base ok v xs := by
 refine Kd.R_mono (Kd.R_move (Kd.R_bound hr) (fun k hk => ?_)) (fun _ hk => hk.1)
 obtain ⟨_, _, _, q, hq, cells, hc⟩ := hk
 have hq3 : q = 3 := by
  rcases List.mem_cons.mp hq with h | h
  · exact h
  · exact absurd h (by intro h; cases h)
 subst hq3
 rw [hc]
 exact h.2 k _ hc (fun t ht cs he => by injection he with _ e _; exact h3 (e ▸ ht))
theorem IsRing.below {w w' : World} {base gl : Nat} {l : List (Nat × S87)} (h : IsRing w base gl l) (hb : Below w.heap.size w w') : IsRing w' base gl l := by
 obtain ⟨h1, h2, h3⟩ := h
 refine ⟨blk_below h1 hb, h2.move (fun p hp => ?_), h3⟩
 obtain ⟨cs, hc⟩ := h2.typed p hp
 rw [hc]; exact blk_below hc hb
theorem listNew_calls (w : World) : Calls Try.prog 76 #[] w fun e w' => e = .returned (.pointer (some ⟨w.heap.size, 0, none⟩)) ∧ IsRing w' w.heap.size w.heap.size [] ∧ Below w.heap.size w w' := by
 go_enter Try.func76, Try.ntmps76
 go_wp2
 go_ret
 refine ⟨rfl, ⟨blk_new w _, trivial, Nat.le_refl _, by simp, by simp⟩, below_alloc (Below.refl _ _) _⟩
theorem listBack_calls (w : World) (base gl : Nat) (p : Nat × S87) (r : List (Nat × S87)) (hr : IsRing w base gl (p :: r)) (hl : r.length < 1000) : Calls Try.prog 114 #[.pointer (some ⟨gl, 0, none⟩)] w fun e w' => e = .returned (.pointer (some ⟨p.1, 0, none⟩)) ∧ w' = w := by
 obtain ⟨h1, _⟩ := hr
 have hc1 := (blk_cell h1 1).trans (show _ = some (.pointer (some ⟨p.1, 0, none⟩)) from rfl)
 have hc4 := (blk_cell h1 4).trans (show _ = some (.int .i64 ((r.length + 1 : Nat) : Int)) from rfl)
 have hz : (((r.length + 1 : Nat) : Int) == 0) = false := beq_eq_false_iff_ne.mpr (by omega)
 clear h1
 generalize ((r.length + 1 : Nat) : Int) = n at hc4 hz
 go_enter Try.func114, Try.ntmps114
 go_wp2
 go_ret
 exact ⟨rfl, rfl⟩
theorem listLen_calls (w : World) (base gl : Nat) (l : List (Nat × S87)) (hr : IsRing w base gl l) : Calls Try.prog 111 #[.pointer (some ⟨gl, 0, none⟩)] w fun e w' => e = .returned (.int .i64 l.length) ∧ w' = w := by
 obtain ⟨h1, _⟩ := hr
 have hc4 := (blk_cell h1 4).trans (show _ = some (.int .i64 ((l.length : Nat) : Int)) from rfl)
 clear h1
 go_enter Try.func111, Try.ntmps111
 go_wp2
 go_ret
 exact ⟨rfl, rfl⟩
theorem listFront_calls (w : World) (base gl : Nat) (l : List (Nat × S87)) (hr : IsRing w base gl l) (h0 : l ≠ []) : Calls Try.prog 117 #[.pointer (some ⟨gl, 0, none⟩)] w fun e w' => e = .returned (.pointer (some (botA gl l))) ∧ w' = w := by
 obtain ⟨h1, _⟩ := hr
 have hc0 := (blk_cell h1 0).trans (show _ = some (.pointer (some (botA gl l))) from rfl)
 have hc4 := (blk_cell h1 4).trans (show _ = some (.int .i64 ((l.length : Nat) : Int)) from rfl)
 have hz : ((l.length : Int) == 0) = false := beq_eq_false_iff_ne.mpr (by have := List.length_pos_iff.mpr h0; omega)
 clear h1
 go_enter Try.func117, Try.ntmps117
 go_wp2
 go_ret
 exact ⟨rfl, rfl⟩
theorem heap_setCell_ne {w : World} {a : Addr} {v : Value} {k : Nat} (h : k ≠ a.block) : (w.setCell a v).heap[k]? = w.heap[k]? := by
 simp [World.setCell, Array.getElem?_modify, Ne.symm h]
theorem listPush0_calls (w0 w : World) (gl : Nat) (e0 : S87) (hB : Below w0.heap.size w0 w) (hr : IsRing w w0.heap.size gl []) : Calls Try.prog 77 #[.pointer (some ⟨gl, 0, none⟩), .iface 87 (.agg #[.int .i64 e0.f0, .int .i64 e0.f1, .bool e0.f2])] w fun e w' => (∃ v, e = .returned v) ∧ IsRing w' w0.heap.size gl [(w.heap.size, e0)] ∧ Below w0.heap.size w0 w' ∧ FrT [99, 101] w w' := by
 obtain ⟨h1, h2, h3, h4, h5⟩ := hr
 have hc0 := (blk_cell h1 0).trans (show _ = some (.pointer (some ⟨gl, 0, none⟩)) from rfl)
 have hc1 := (blk_cell h1 1).trans (show _ = some (.pointer (some ⟨gl, 0, none⟩)) from rfl)
 have hc4 := (blk_cell h1 4).trans (show _ = some (.int .i64 0) from rfl)
 have hf0 := blk_frozen h1 0
 have hf1 := blk_frozen h1 1
 have hf4 := blk_frozen h1 4
 have hlt := blk_lt h1
 have hne1 : ¬ gl = w.heap.size := by omega
 have hne2 : ¬ w.heap.size = gl := by omega
 have H1 := az h1
 have HB := az hB
 have HG := az h3
 clear h1 h2 h3 h4 h5 hB
 go_enter Try.func77, Try.ntmps77
 go_wp2
 go_end0
 go_wp2
 go_ret
 refine ⟨⟨_, rfl⟩, ?_, ?_, ?_⟩
 ·
  have b1 := blk_set H1.out 0 (.pointer (some ⟨w.heap.size, 0, none⟩))
  have b2 := blk_set b1 1 (.pointer (some ⟨w.heap.size, 0, none⟩))
  have b3 := blk_set b2 4 (.int .i64 1)
  have hn := blk_new (((w.setCell ⟨gl, 0, none⟩ (.pointer (some ⟨w.heap.size, 0, none⟩))).setCell ⟨gl, 1, none⟩ (.pointer (some ⟨w.heap.size, 0, none⟩))).setCell ⟨gl, 4, none⟩ (.int .i64 1)) (.cells #[.pointer (some ⟨gl, 0, none⟩), .pointer (some ⟨gl, 0, none⟩), .pointer (some ⟨gl, 0, none⟩), .iface 87 (.agg #[.int .i64 e0.f0, .int .i64 e0.f1, .bool e0.f2])] 99)
  rw [show (((w.setCell ⟨gl, 0, none⟩ (.pointer (some ⟨w.heap.size, 0, none⟩))).setCell ⟨gl, 1, none⟩ (.pointer (some ⟨w.heap.size, 0, none⟩))).setCell ⟨gl, 4, none⟩ (.int .i64 1)).heap.size = w.heap.size by simp] at hn
  exact ⟨blk_alloc b3 _, ⟨hn, trivial⟩, HG.out, fun p hp => by rw [List.mem_singleton.mp hp]; exact HB.out.size, by simp⟩
 · exact below_alloc (((HB.out.setCell (p := ⟨gl, 0, none⟩) HG.out _).setCell (p := ⟨gl, 1, none⟩) HG.out _).setCell (p := ⟨gl, 4, none⟩) HG.out _) _
 ·
  refine ⟨by simp, fun k o hk ho => ?_⟩
  have k1 : k ≠ gl := fun e => by subst e; rw [H1.out] at hk; exact ho 101 (by simp) _ (Option.some.inj hk).symm
  exact blk_alloc (((heap_setCell_ne k1).trans ((heap_setCell_ne k1).trans (heap_setCell_ne k1))).trans hk) _
theorem listPush_calls (w0 w : World) (gl : Nat) (p : Nat × S87) (r : List (Nat × S87)) (e0 : S87) (hB : Below w0.heap.size w0 w) (hr : IsRing w w0.heap.size gl (p :: r)) (hl : r.length < 1000) : Calls Try.prog 77 #[.pointer (some ⟨gl, 0, none⟩), .iface 87 (.agg #[.int .i64 e0.f0, .int .i64 e0.f1, .bool e0.f2])] w fun e w' => (∃ v, e = .returned v) ∧ IsRing w' w0.heap.size gl ((w.heap.size, e0) :: p :: r) ∧ Below w0.heap.size w0 w' ∧ FrT [99, 101] w w' := by
 obtain ⟨h1, h2, h3, h4, h5⟩ := hr
 obtain ⟨b, e1⟩ := p
 obtain ⟨g1, g2⟩ := h2
 have hc0 := (blk_cell h1 0).trans (show _ = some (.pointer (some (botA gl ((b, e1) :: r)))) from rfl)
 have hc1 := (blk_cell h1 1).trans (show _ = some (.pointer (some ⟨b, 0, none⟩)) from rfl)
 have hc4 := (blk_cell h1 4).trans (show _ = some (.int .i64 ((r.length + 1 : Nat) : Int)) from rfl)
 have hd0 := (blk_cell g1 0).trans (show _ = some (.pointer (some ⟨gl, 0, none⟩)) from rfl)
 have hf0 := blk_frozen h1 0
 have hf1 := blk_frozen h1 1
 have hf4 := blk_frozen h1 4
 have hfb := blk_frozen g1 0
 have hlt := blk_lt h1
 have hlb := blk_lt g1
 simp only at hlb
 have hbg := blk_ne h1 g1 (by decide)
 simp only at hbg
 have hne1 : ¬ gl = w.heap.size := by omega
 have hne2 : ¬ w.heap.size = gl := by omega
 have hne3 : ¬ b = w.heap.size := by omega
 have hne4 : ¬ w.heap.size = b := by omega
 have hne5 : ¬ gl = b := hbg
 have hne6 : ¬ b = gl := fun h => hbg h.symm
 have hn9 : ((r.length + 1 : Nat) : Int) ≤ 1000 := by omega
 have hn8 : 0 ≤ ((r.length + 1 : Nat) : Int) := by omega
 have H1 := az h1
 have G1 := az g1
 have G2 := az g2
 have HB := az hB
 have HG := az h3
 have H4 := az h4
 have H5 := az h5
 clear h1 g1 g2 h3 h4 h5 hB hbg
 generalize hN : ((r.length + 1 : Nat) : Int) = N at hc4 hn9 hn8
 have HN := az hN
 clear hN
 go_enter Try.func77, Try.ntmps77
 go_wp2
 go_end0
 go_wp2
 go_ret
 refine ⟨⟨_, rfl⟩, ?_, ?_, ?_⟩
 ·
  have b1 := (heap_setCell_ne (w := w) (a := ⟨b, 0, none⟩) (v := .pointer (some ⟨w.heap.size, 0, none⟩)) (k := gl) hne5).trans H1.out
  have b2 := blk_set b1 1 (.pointer (some ⟨w.heap.size, 0, none⟩))
  have b3 := blk_set b2 4 (.int .i64 (N + 1))
  have d1 := blk_set G1.out 0 (.pointer (some ⟨w.heap.size, 0, none⟩))
  have d2 := (heap_setCell_ne (a := ⟨gl, 1, none⟩) (v := .pointer (some ⟨w.heap.size, 0, none⟩)) (k := b) hne6).trans d1
  have d3 := (heap_setCell_ne (a := ⟨gl, 4, none⟩) (v := .int .i64 (N + 1)) (k := b) hne6).trans d2
  have hn := blk_new (((w.setCell ⟨b, 0, none⟩ (.pointer (some ⟨w.heap.size, 0, none⟩))).setCell ⟨gl, 1, none⟩ (.pointer (some ⟨w.heap.size, 0, none⟩))).setCell ⟨gl, 4, none⟩ (.int .i64 (N + 1))) (.cells #[.pointer (some ⟨gl, 0, none⟩), .pointer (some ⟨b, 0, none⟩), .pointer (some ⟨gl, 0, none⟩), .iface 87 (.agg #[.int .i64 e0.f0, .int .i64 e0.f1, .bool e0.f2])] 99)
  rw [show (((w.setCell ⟨b, 0, none⟩ (.pointer (some ⟨w.heap.size, 0, none⟩))).setCell ⟨gl, 1, none⟩ (.pointer (some ⟨w.heap.size, 0, none⟩))).setCell ⟨gl, 4, none⟩ (.int .i64 (N + 1))).heap.size = w.heap.size by simp] at hn
  have hnd := H5.out
  have hb4 := H4.out
  refine ⟨?_, ⟨hn, blk_alloc d3 _, ?_⟩, HG.out, ?_, ?_⟩
  ·
   have h := blk_alloc b3 (.cells #[.pointer (some ⟨gl, 0, none⟩), .pointer (some ⟨b, 0, none⟩), .pointer (some ⟨gl, 0, none⟩), .iface 87 (.agg #[.int .i64 e0.f0, .int .i64 e0.f1, .bool e0.f2])] 99)
   rw [← HN.out] at h ⊢
   exact h
  ·
   refine G2.out.move (fun p hp => ?_)
   obtain ⟨cs, hc⟩ := G2.out.typed p hp
   have p1 : p.1 ≠ gl := blk_ne hc H1.out (by decide)
   have p2 : p.1 ≠ b := by
    simp only [List.map_cons, List.nodup_cons, List.mem_map] at hnd
    exact fun e => hnd.1 ⟨p, hp, e⟩
   rw [hc]
   exact blk_alloc ((heap_setCell_ne p1).trans ((heap_setCell_ne p1).trans ((heap_setCell_ne p2).trans hc))) _
  ·
   intro p hp
   rcases List.mem_cons.mp hp with rfl | hp
   · exact HB.out.size
   · exact hb4 p hp
  ·
   rw [List.map_cons, List.nodup_cons]
   refine ⟨?_, hnd⟩
   rw [List.map_cons, List.mem_cons]
   rintro (h | h)
   · exact hne4 h
   ·
    obtain ⟨p, hp, e⟩ := List.mem_map.mp h
    obtain ⟨cs, hc⟩ := G2.out.typed p hp
    have := blk_lt hc
    simp only at e
    omega
 · exact below_alloc (((HB.out.setCell (p := ⟨b, 0, none⟩) (H4.out (b, e1) (by simp)) _).setCell (p := ⟨gl, 1, none⟩) HG.out _).setCell (p := ⟨gl, 4, none⟩) HG.out _) _
 ·
  refine ⟨by simp, fun k o hk ho => ?_⟩
  have k1 : k ≠ gl := fun e => by subst e; rw [H1.out] at hk; exact ho 101 (by simp) _ (Option.some.inj hk).symm
  have k2 : k ≠ b := fun e => by subst e; rw [G1.out] at hk; exact ho 99 (by simp) _ (Option.some.inj hk).symm
  exact blk_alloc (((heap_setCell_ne k1).trans ((heap_setCell_ne k1).trans (heap_setCell_ne k2))).trans hk) _
theorem run_neq_ptr_sameX {P : Program} (w : World) {tp te : TypeId} {j : TypeInfo} (a : Addr) (hp : P.underlying tp = some (.pointer te)) (hte : P.info? te = some j) :
  (binOp .neq tp (.pointer (some a)) (.pointer (some a))).run P w = .ok (.bool false) w := by
 have h := run_eql_ptr_same (P := P) w a hp hte
 simp only [binOp] at h ⊢
 cases e : (Op.equal tp (.pointer (some a)) (.pointer (some a))).run P w with
 | ok b w' => simp [e] at h; obtain ⟨rfl, rfl⟩ := h; simp [e]
 | halt _ _ => simp [e] at h
theorem run_neq_ptr_otherX {P : Program} (w : World) {tp te : TypeId} {j : TypeInfo} {a b : Addr} {ca cb : Array Value} {ta tb : TypeId} (hp : P.underlying tp = some (.pointer te)) (hte : P.info? te = some j) (hsz : j.size ≠ 0)
  (hne : a ≠ b) (ha : w.heap[a.block]? = some (.cells ca ta (0, 0))) (hb : w.heap[b.block]? = some (.cells cb tb (0, 0))) :
  (binOp .neq tp (.pointer (some a)) (.pointer (some b))).run P w = .ok (.bool true) w := by
 have h := run_eql_ptr_other (P := P) w hp hte hsz hne ha hb
 simp only [binOp] at h ⊢
 cases e : (Op.equal tp (.pointer (some a)) (.pointer (some b))).run P w with
 | ok b w' => simp [e] at h; obtain ⟨rfl, rfl⟩ := h; simp [e]
 | halt _ _ => simp [e] at h
theorem infoL : ∃ j, Try.prog.info? 101 = some j ∧ j.size ≠ 0 := by
 obtain ⟨j, h, e⟩ := Option.map_eq_some_iff.mp (show (Try.prog.info? 101).map (·.size) = some 5 by kernel_rfl)
 exact ⟨j, h, by omega⟩
theorem infoE : ∃ j, Try.prog.info? 99 = some j ∧ j.size ≠ 0 := by
 obtain ⟨j, h, e⟩ := Option.map_eq_some_iff.mp (show (Try.prog.info? 99).map (·.size) = some 4 by kernel_rfl)
 exact ⟨j, h, by omega⟩
theorem ring_drew {w : World} {base gl : Nat} {l : List (Nat × S87)} (h : IsRing w base gl l) : IsRing w.drew base gl l := by
 obtain ⟨h1, h2, h3⟩ := h
 exact ⟨h1, h2.move (fun _ _ => rfl), h3⟩
theorem below_drew {b : Nat} {w0 w : World} (h : Below b w0 w) : Below b w0 w.drew := pw_below_drewN h 1
theorem FrT.drew {ts : List Nat} {w w' : World} (h : FrT ts w w') : FrT ts w w'.drew := h
theorem listRemove_calls (w0 w : World) (gl : Nat) (p q : Nat × S87) (r : List (Nat × S87)) (hB : Below w0.heap.size w0 w) (hr : IsRing w w0.heap.size gl (p :: q :: r)) (hl : r.length < 1000) : Calls Try.prog 116 #[.pointer (some ⟨gl, 0, none⟩), .pointer (some ⟨p.1, 0, none⟩)] w fun e w' => (∃ v, e = .returned v) ∧ IsRing w' w0.heap.size gl (q :: r) ∧ Below w0.heap.size w0 w' ∧ FrT [99, 101] w w' := by
 obtain ⟨h1, h2, h3, h4, h5⟩ := hr
 obtain ⟨b, e0⟩ := p
 obtain ⟨c, e1⟩ := q
 obtain ⟨g1, g2, g3⟩ := h2
 simp only at g1 g2
 have hc0 := (blk_cell h1 0).trans (show _ = some (.pointer (some (botA gl ((b, e0) :: (c, e1) :: r)))) from rfl)
 have hc1 := (blk_cell h1 1).trans (show _ = some (.pointer (some ⟨b, 0, none⟩)) from rfl)
 have hc4 := (blk_cell h1 4).trans (show _ = some (.int .i64 ((r.length + 2 : Nat) : Int)) from rfl)
 have hb0 := (blk_cell g1 0).trans (show _ = some (.pointer (some ⟨gl, 0, none⟩)) from rfl)
 have hb1 := (blk_cell g1 1).trans (show _ = some (.pointer (some ⟨c, 0, none⟩)) from rfl)
 have hb2 := (blk_cell g1 2).trans (show _ = some (.pointer (some ⟨gl, 0, none⟩)) from rfl)
 have hb3 := (blk_cell g1 3).trans (show _ = some (.iface 87 (.agg #[.int .i64 e0.f0, .int .i64 e0.f1, .bool e0.f2])) from rfl)
 have hd0 := (blk_cell g2 0).trans (show _ = some (.pointer (some ⟨b, 0, none⟩)) from rfl)
 have hf1 := blk_frozen h1 1
 have hf4 := blk_frozen h1 4
 have hfb0 := blk_frozen g1 0
 have hfb1 := blk_frozen g1 1
 have hfb2 := blk_frozen g1 2
 have hfc := blk_frozen g2 0
 have hbg := blk_ne h1 g1 (by decide)
 have hcg := blk_ne h1 g2 (by decide)
 have hbc : b ≠ c := by
  simp only [List.map_cons, List.nodup_cons, List.mem_cons] at h5
  exact fun e => h5.1 (.inl e)
 have hne1 : ¬ gl = b := hbg
 have hne2 : ¬ b = gl := fun h => hbg h.symm
 have hne3 : ¬ gl = c := hcg
 have hne4 : ¬ c = gl := fun h => hcg h.symm
 have hne5 : ¬ b = c := hbc
 have hne6 : ¬ c = b := fun h => hbc h.symm
 have hn9 : ((r.length + 2 : Nat) : Int) ≤ 1002 := by omega
 have hn8 : 1 ≤ ((r.length + 2 : Nat) : Int) := by omega
 obtain ⟨j, hj, hj2⟩ := infoL
 have heq := fun W => run_eql_ptr_same (P := Try.prog) W ⟨gl, 0, none⟩ Try.underlying80 hj
 have H1 := az h1
 have G1 := az g1
 have G2 := az g2
 have G3 := az g3
 have HB := az hB
 have HG := az h3
 have H4 := az h4
 have H5 := az h5
 clear h1 g1 g2 g3 h3 h4 h5 hB hbg hcg hbc hj hj2
 generalize hN : ((r.length + 2 : Nat) : Int) = N at hc4 hn9 hn8
 have HN := az hN
 clear hN
 go_enter Try.func116, Try.ntmps116
 go_wp2
 go_region
 go_wp2
 go_region
 go_wp2
 go_end0
 go_wp2
 go_ret
 refine ⟨⟨_, rfl⟩, ?_, ?_, ?_⟩
 ·
  refine ring_drew (ring_drew ?_)
  have b0 := (heap_setCell_ne (w := w) (a := ⟨c, 0, none⟩) (v := .pointer (some ⟨gl, 0, none⟩)) (k := gl) hne3).trans H1.out
  have b1 := blk_set b0 1 (.pointer (some ⟨c, 0, none⟩))
  have b2 := (heap_setCell_ne (a := ⟨b, 0, none⟩) (v := .pointer none) (k := gl) hne1).trans b1
  have b3 := (heap_setCell_ne (a := ⟨b, 1, none⟩) (v := .pointer none) (k := gl) hne1).trans b2
  have b4 := (heap_setCell_ne (a := ⟨b, 2, none⟩) (v := .pointer none) (k := gl) hne1).trans b3
  have b5 := blk_set b4 4 (.int .i64 (N - 1))
  have d0 := blk_set G2.out 0 (.pointer (some ⟨gl, 0, none⟩))
  have d1 := (heap_setCell_ne (a := ⟨gl, 1, none⟩) (v := .pointer (some ⟨c, 0, none⟩)) (k := c) hne4).trans d0
  have d2 := (heap_setCell_ne (a := ⟨b, 0, none⟩) (v := .pointer none) (k := c) hne6).trans d1
  have d3 := (heap_setCell_ne (a := ⟨b, 1, none⟩) (v := .pointer none) (k := c) hne6).trans d2
  have d4 := (heap_setCell_ne (a := ⟨b, 2, none⟩) (v := .pointer none) (k := c) hne6).trans d3
  have d5 := (heap_setCell_ne (a := ⟨gl, 4, none⟩) (v := .int .i64 (N - 1)) (k := c) hne4).trans d4
  have hnd := H5.out
  have hb4 := H4.out
  have e1' : N - 1 = (((c, e1) :: r).length : Int) := by rw [← HN.out, List.length_cons]; omega
  have e2' : botA gl ((b, e0) :: (c, e1) :: r) = botA gl ((c, e1) :: r) := if_neg (by simp)
  refine ⟨?_, ⟨d5, ?_⟩, HG.out, fun p hp => hb4 p (List.mem_cons_of_mem _ hp), ?_⟩
  ·
   rw [← e1', ← e2']
   exact b5
  ·
   refine G3.out.move (fun p hp => ?_)
   obtain ⟨cs, hc⟩ := G3.out.typed p hp
   have p1 : p.1 ≠ gl := blk_ne hc H1.out (by decide)
   simp only [List.map_cons, List.nodup_cons, List.mem_cons, List.mem_map, not_or] at hnd
   have p2 : p.1 ≠ b := fun e => hnd.1.2 ⟨p, hp, e⟩
   have p3 : p.1 ≠ c := fun e => hnd.2.1 ⟨p, hp, e⟩
   exact (heap_setCell_ne p1).trans ((heap_setCell_ne p2).trans ((heap_setCell_ne p2).trans ((heap_setCell_ne p2).trans ((heap_setCell_ne p1).trans (heap_setCell_ne p3)))))
  ·
   rw [List.map_cons, List.nodup_cons] at hnd
   exact hnd.2
 ·
  have hb4 := H4.out
  have q1 : w0.heap.size ≤ b := hb4 (b, e0) (by simp)
  have q2 : w0.heap.size ≤ c := hb4 (c, e1) (by simp)
  refine below_drew (below_drew ?_)
  exact ((((((HB.out.setCell (p := ⟨c, 0, none⟩) q2 _).setCell (p := ⟨gl, 1, none⟩) HG.out _).setCell (p := ⟨b, 0, none⟩) q1 _).setCell (p := ⟨b, 1, none⟩) q1 _).setCell (p := ⟨b, 2, none⟩) q1 _).setCell (p := ⟨gl, 4, none⟩) HG.out _)
 ·
  refine FrT.drew (FrT.drew ?_)
  refine ⟨Nat.le_of_eq (by simp), fun k o hk ho => ?_⟩
  have k1 : k ≠ gl := fun e => by subst e; rw [H1.out] at hk; exact ho 101 (by simp) _ (Option.some.inj hk).symm
  have k2 : k ≠ b := fun e => by subst e; rw [G1.out] at hk; exact ho 99 (by simp) _ (Option.some.inj hk).symm
  have k3 : k ≠ c := fun e => by subst e; rw [G2.out] at hk; exact ho 99 (by simp) _ (Option.some.inj hk).symm
  exact ((heap_setCell_ne k1).trans ((heap_setCell_ne k2).trans ((heap_setCell_ne k2).trans ((heap_setCell_ne k2).trans ((heap_setCell_ne k1).trans (heap_setCell_ne k3)))))).trans hk
theorem Chain.at_ {w : World} {gl : Nat} {p : Nat × S87} {r : List (Nat × S87)} : ∀ {u : List (Nat × S87)} {nx : Addr}, Chain w gl nx (u ++ p :: r) → Chain w gl (match u.getLast? with | none => nx | some q => ⟨q.1, 0, none⟩) (p :: r)
 | [], nx, h => h
 | [q], nx, h => h.2
 | q :: q2 :: u, nx, h => by
  have := Chain.at_ (u := q2 :: u) h.2
  rw [List.getLast?_cons_cons]
  obtain ⟨x, hx⟩ : ∃ x, (q2 :: u).getLast? = some x := ⟨_, List.getLast?_eq_some_getLast (by simp)⟩
  rw [hx] at this ⊢
  exact this
theorem listNext_calls (w : World) (base gl : Nat) (p : Nat × S87) (u r : List (Nat × S87)) (hr : IsRing w base gl (u ++ p :: r)) : Calls Try.prog 118 #[.pointer (some ⟨p.1, 0, none⟩)] w fun e w' => e = .returned (.pointer (u.getLast?.map fun q => ⟨q.1, 0, none⟩)) ∧ w' = w := by
 obtain ⟨h1, h2, h3, h4, h5⟩ := hr
 have hch := h2.at_
 obtain ⟨g1, g2⟩ := hch
 obtain ⟨b, e0⟩ := p
 simp only at g1
 have hb2 := (blk_cell g1 2).trans (show _ = some (.pointer (some ⟨gl, 0, none⟩)) from rfl)
 obtain ⟨j, hj, hj2⟩ := infoE
 cases hu : u.getLast? with
 | none =>
  rw [hu] at g1
  have hb0 := (blk_cell g1 0).trans (show _ = some (.pointer (some ⟨gl, 0, none⟩)) from rfl)
  have heq := run_neq_ptr_sameX (P := Try.prog) w ⟨gl, 0, none⟩ Try.underlying84 hj
  have hnil := run_neq_pointer_nil (P := Try.prog) w 80 (some ⟨gl, 0, none⟩) (by rw [Try.underlying80]; rfl)
  clear h1 h2 h3 h4 h5 g1 g2 hj hj2 hu
  go_enter Try.func118, Try.ntmps118
  go_wp2
  go_ret
  exact ⟨rfl, rfl⟩
 | some q =>
  rw [hu] at g1
  have hq : q ∈ u ++ (b, e0) :: r := List.mem_append.mpr (.inl (List.mem_of_getLast? hu))
  obtain ⟨cs, hc⟩ := h2.typed q hq
  have hb0 := (blk_cell g1 0).trans (show _ = some (.pointer (some ⟨q.1, 0, none⟩)) from rfl)
  have hqg : q.1 ≠ gl := blk_ne hc h1 (by decide)
  have heq := run_neq_ptr_otherX (P := Try.prog) w (a := ⟨q.1, 0, none⟩) (b := ⟨gl, 0, none⟩) Try.underlying84 hj hj2 (fun e => hqg (by injection e)) hc h1
  have hnil := run_neq_pointer_nil (P := Try.prog) w 80 (some ⟨gl, 0, none⟩) (by rw [Try.underlying80]; rfl)
  clear h1 h2 h3 h4 h5 g1 g2 hj hj2 hu hq hc hqg
  go_enter Try.func118, Try.ntmps118
  go_wp2
  go_ret
  exact ⟨rfl, rfl⟩
def spec_l3Up.f (a0 : Int) (a1 : Bool) : Option (Int) := if (a1 == ((Int.tmod a0 2) == 0)) = true then (some (wrap64 (a0 + 1))) else (some (wrap64 (a0 + 2)))
theorem spec_l3Up.calls (a0 : Int) (a1 : Bool) (r : Int) (w : World) (h : spec_l3Up.f a0 a1 = some r) :
  Calls Try.prog 106 #[.int .i64 a0, .bool a1] w fun e w' => e = .returned (.int .i64 r) ∧ Drawn0 w w' := by
 have H : (if (a1 == ((Int.tmod a0 2) == 0)) = true then (some (wrap64 (a0 + 1))) else (some (wrap64 (a0 + 2)))) = some r := h
 clear h
 by_cases c3 : (a1 == ((Int.tmod a0 2) == 0)) = true
 ·
  rw [if_pos c3] at H
  have c3b0 : (a1 == ((Int.tmod a0 2) == 0)) = true := c3
  (try (have c3b1 : decide (a1 = ((Int.tmod a0 2) == 0)) = true := by simpa using c3))
  (try (have c3b2 : (a1 == ((Int.tmod a0 2) == 0)) = true := by simpa using c3))
  clear c3
  obtain rfl := Option.some.inj H
  go_enter Try.func106, Try.ntmps106
  go_wp2
  go_ret
  exact ⟨by first | rfl | (simp; done) | (simp [*]; done), by repeat (first | exact Drawn0.refl _ | apply Drawn0.step)⟩
 ·
  rw [if_neg c3] at H
  have c3b0 : (a1 == ((Int.tmod a0 2) == 0)) = false := by simpa using c3
  (try (have c3b1 : decide (a1 = ((Int.tmod a0 2) == 0)) = false := by simpa using c3))
  (try (have c3b2 : (a1 == ((Int.tmod a0 2) == 0)) = false := by simpa using c3))
  (try (have c3b3 : ¬ (a1 = ((Int.tmod a0 2) == 0)) := by simpa using c3))
  clear c3
  obtain rfl := Option.some.inj H
  go_enter Try.func106, Try.ntmps106
  go_wp2
  go_ret
  exact ⟨by first | rfl | (simp; done) | (simp [*]; done), by repeat (first | exact Drawn0.refl _ | apply Drawn0.step)⟩
structure WkS where
 lv : List Int
 cl : List Int
 st : List S74
 lost : Int
 sk : Int
 al : Int
def WkS.top (s : WkS) : S74 := s.st.getD (s.st.length - 1) z74
def IsWk (w : World) (base gb : Nat) (A : Option Addr) (c n : Nat) (s : WkS) : Prop := ∃ vl vc vs : Value,
 w.heap[gb]? = some (.cells #[.slice A n c, vl, vc, vs, .int .i64 s.lost, .int .i64 s.sk, .int .i64 s.al] 53 (0, 0)) ∧ Kd.R (Kd.int .i64) 3 w base (fun k => some k ≠ vc.ownBlock) vl s.lv ∧ Kd.R (Kd.int .i64) 3 w base (fun k => some k ≠ vl.ownBlock) vc s.cl ∧ Kd.R k74 74 w base (fun _ => True) vs s.st ∧ base ≤ gb
theorem IsWk.below {w w1 : World} {base gb : Nat} {A : Option Addr} {c n : Nat} {s : WkS} (h : IsWk w base gb A c n s) (hb : Below w.heap.size w w1) : IsWk w1 base gb A c n s := by
 obtain ⟨vl, vc, vs, h1, h2, h3, h4, h5⟩ := h
 exact ⟨vl, vc, vs, blk_below h1 hb, Kd.R_below h2 hb, Kd.R_below h3 hb, Kd.R_below h4 hb, h5⟩
theorem infoT : (Try.prog.info? 74).map (fun i => (i.zero, i.size, i.bytes)) = some (some (.agg #[.int .i64 0, .int .i64 0, .bool false]), 3, 24) := by kernel_rfl
def upV (l : Int) (r : Bool) : Int := (spec_l3Up.f l r).getD 0
theorem upV_f (l : Int) (r : Bool) : spec_l3Up.f l r = some (upV l r) := by
 unfold upV spec_l3Up.f
 split <;> rfl
def pushS (right : Bool) (side : Int) (alone : Bool) (s : WkS) : WkS :=
 if upV s.top.f0 right ≤ 20 ∧ s.lost = 0 ∧ s.sk = 0 then (if alone = true then { s with al := s.al + 1, st := s.st ++ [⟨upV s.top.f0 right, side, true⟩] } else { s with st := s.st ++ [⟨upV s.top.f0 right, side, false⟩] })
 else if alone = true then { s with lost := s.lost + 1 } else if s.lost = 0 then { s with sk := s.sk + 1 } else s
def dropsS (s : WkS) : WkS :=
 if 0 < s.lost then s else if 0 < s.sk then { s with sk := s.sk - 1 } else if s.top.f2 = false ∧ 1 < s.st.length then { s with st := s.st.take (s.st.length - 1) } else s
def hereS (i : Nat) (c : Int) (s : WkS) : WkS := { s with lv := s.lv.set i s.top.f0, cl := s.cl.set i (if s.top.f1 = 0 then c else s.top.f1) }
def popA (st : List S74) : Nat → List S74
 | 0 => []
 | n + 1 => if (st.getD n z74).f2 = true then st.take n else popA st n
def endsS (s : WkS) : WkS := if 0 < s.lost then { s with lost := s.lost - 1 } else if s.al = 0 then s else { s with sk := 0, st := popA s.st s.st.length, al := s.al - 1 }
def Wb (s : WkS) : Prop := 0 ≤ s.lost ∧ s.lost ≤ 1000 ∧ 0 ≤ s.sk ∧ s.sk ≤ 1000 ∧ 0 ≤ s.al ∧ s.al ≤ 1000 ∧ 1 ≤ s.st.length ∧ s.st.length ≤ 1000
theorem upQ (l : Int) (b : Bool) (w : World) (n : Nat) : Calls Try.prog 106 #[.int .i64 l, .bool b] (w.drewN n) fun e w'' => e = .returned (.int .i64 (upV l b)) ∧ ∃ m, w'' = w.drewN m :=
 Calls.quiet_of ((spec_l3Up.calls l b (upV l b) (w.drewN n) (upV_f l b)).mono fun _ _ ⟨he, hd⟩ => ⟨he, hd.out⟩)
theorem IsWk.put {w0 w : World} {gb c n : Nat} {A : Option Addr} {s : WkS} {vl vc vs : Value} {a4 a5 a6 : Int} (h1 : w.heap[gb]? = some (.cells #[.slice A n c, vl, vc, vs, .int .i64 a4, .int .i64 a5, .int .i64 a6] 53 (0, 0))) (hL : Kd.R (Kd.int .i64) 3 w w0.heap.size (fun k => some k ≠ vc.ownBlock) vl s.lv) (hC : Kd.R (Kd.int .i64) 3 w w0.heap.size (fun k => some k ≠ vl.ownBlock) vc s.cl)
  (hbg : w0.heap.size ≤ gb) (hB : Below w0.heap.size w0 w) (m j : Nat) (u vs' : Value) (hS : Kd.R k74 74 w w0.heap.size (fun _ => True) vs' s.st) (hj : (#[.slice A n c, vl, vc, vs, .int .i64 a4, .int .i64 a5, .int .i64 a6] : Array Value).setIfInBounds j u = #[.slice A n c, vl, vc, vs', .int .i64 s.lost, .int .i64 s.sk, .int .i64 s.al]) :
  IsWk ((w.drewN m).setCell ⟨gb, j, none⟩ u) w0.heap.size gb A c n s ∧ Below w0.heap.size w0 ((w.drewN m).setCell ⟨gb, j, none⟩ u) := by
 have h1' : (w.drewN m).heap[gb]? = some (.cells #[.slice A n c, vl, vc, vs, .int .i64 a4, .int .i64 a5, .int .i64 a6] 53 (0, 0)) := h1
 refine ⟨⟨vl, vc, vs', by have h := blk_set h1' j u; rwa [hj] at h, Kd.R_set (Kd.R_drewN hL m) h1' (by decide) j _, Kd.R_set (Kd.R_drewN hC m) h1' (by decide) j _, Kd.R_set (Kd.R_drewN hS m) h1' (by decide) j _, hbg⟩, (pw_below_drewN hB m).setCell (p := ⟨gb, j, none⟩) hbg _⟩
theorem IsWk.same {w0 w : World} {gb c n : Nat} {A : Option Addr} {s : WkS} {vl vc vs : Value} (h1 : w.heap[gb]? = some (.cells #[.slice A n c, vl, vc, vs, .int .i64 s.lost, .int .i64 s.sk, .int .i64 s.al] 53 (0, 0))) (hL : Kd.R (Kd.int .i64) 3 w w0.heap.size (fun k => some k ≠ vc.ownBlock) vl s.lv) (hC : Kd.R (Kd.int .i64) 3 w w0.heap.size (fun k => some k ≠ vl.ownBlock) vc s.cl)
  (hbg : w0.heap.size ≤ gb) (hB : Below w0.heap.size w0 w) (m : Nat) (hS : Kd.R k74 74 w w0.heap.size (fun _ => True) vs s.st) : IsWk (w.drewN m) w0.heap.size gb A c n s ∧ Below w0.heap.size w0 (w.drewN m) :=
 ⟨⟨vl, vc, vs, h1, Kd.R_drewN hL m, Kd.R_drewN hC m, Kd.R_drewN hS m, hbg⟩, pw_below_drewN hB m⟩
theorem drops_calls (w0 w : World) (gb : Nat) (A : Option Addr) (c n : Nat) (s : WkS) (hB : Below w0.heap.size w0 w) (hs : IsWk w w0.heap.size gb A c n s) (hw : Wb s) :
  Calls Try.prog 90 #[.pointer (some ⟨gb, 0, none⟩)] w fun e w' => e = .returned (.tuple #[]) ∧ IsWk w' w0.heap.size gb A c n (dropsS s) ∧ Below w0.heap.size w0 w' := by
 obtain ⟨vl, vc, vs, h1, hL, hC, hS, hbg⟩ := hs
 obtain ⟨As, cs, hvs, hlcs, hSC⟩ := Kd.R_reads hS
 subst hvs
 obtain ⟨b1, b2, b3, b4, b5, b6, b7, b8⟩ := hw
 have hc3 := (blk_cell h1 3).trans (show (#[.slice A n c, vl, vc, .slice As s.st.length cs, .int .i64 s.lost, .int .i64 s.sk, .int .i64 s.al] : Array Value)[3]? = some (.slice As s.st.length cs) from rfl)
 have hc4 := (blk_cell h1 4).trans (show (#[.slice A n c, vl, vc, .slice As s.st.length cs, .int .i64 s.lost, .int .i64 s.sk, .int .i64 s.al] : Array Value)[4]? = some (.int .i64 s.lost) from rfl)
 have hc5 := (blk_cell h1 5).trans (show (#[.slice A n c, vl, vc, .slice As s.st.length cs, .int .i64 s.lost, .int .i64 s.sk, .int .i64 s.al] : Array Value)[5]? = some (.int .i64 s.sk) from rfl)
 have hc6 := (blk_cell h1 6).trans (show (#[.slice A n c, vl, vc, .slice As s.st.length cs, .int .i64 s.lost, .int .i64 s.sk, .int .i64 s.al] : Array Value)[6]? = some (.int .i64 s.al) from rfl)
 obtain ⟨ad, e1, y0, y1, y2⟩ := at_T74 hSC ((s.st.length - 1 : Nat) : Int) (by omega) (by omega)
 subst e1
 rw [Int.toNat_natCast] at y0 y1 y2
 have hrd : rd_T74 s.st ((s.st.length - 1 : Nat) : Int) = s.top := by simp only [rd_T74, Int.toNat_natCast, WkS.top]
 rw [hrd] at y0 y1 y2
 clear hrd
 have hf3 := blk_frozen h1 3
 have hf4 := blk_frozen h1 4
 have hf5 := blk_frozen h1 5
 have hf6 := blk_frozen h1 6
 have hw1 : IntKind.i64.wrap ((s.st.length : Int) - 1) = (s.st.length : Int) - 1 := IntWalk.i64_in _ (by omega)
 have hw2 : ((s.st.length : Int) - 1).toNat = s.st.length - 1 := by omega
 have hw3 : 0 ≤ (s.st.length : Int) - 1 := by omega
 have hw4 : (s.st.length : Int) - 1 < (s.st.length : Int) := by omega
 have hw5 : (s.st.length : Int) - 1 ≤ (s.st.length : Int) := by omega
 have H1 := az h1
 have HL := az hL
 have HC := az hC
 have HS := az hS
 have HB := az hB
 have HG := az hbg
 have HLC := az hlcs
 clear h1 hL hC hS hB hbg hSC hlcs
 unfold dropsS
 by_cases c1 : 0 < s.lost
 ·
  rw [if_pos c1]
  have c1b : decide (0 < s.lost) = true := decide_eq_true c1
  clear c1
  go_enter Try.func90, Try.ntmps90
  go_wp2
  ((try simp only [Exit.inBlock, Exit.then]); refine bodyPost_ret (results_none rfl _ _ _) rfl ?_)
  exact ⟨rfl, IsWk.same H1.out HL.out HC.out HG.out HB.out 0 HS.out⟩
 ·
  have hl0 : s.lost = 0 := by omega
  rw [if_neg c1]
  have c1b : decide (0 < s.lost) = false := decide_eq_false c1
  clear c1
  by_cases c2 : 0 < s.sk
  ·
   rw [if_pos c2]
   have c2b : decide (0 < s.sk) = true := decide_eq_true c2
   clear hl0 c2
   go_enter Try.func90, Try.ntmps90
   go_wp2
   ((try simp only [Exit.inBlock, Exit.then]); refine bodyPost_ret (results_none rfl _ _ _) rfl ?_)
   exact ⟨rfl, IsWk.put (s := { s with sk := s.sk - 1 }) H1.out HL.out HC.out HG.out HB.out 0 5 (.int .i64 (s.sk - 1)) _ HS.out (by simp)⟩
  ·
   rw [if_neg c2]
   have c2b : decide (0 < s.sk) = false := decide_eq_false c2
   clear hl0 c2
   generalize s.top = tp at y0 y1 y2
   cases h2 : tp.f2 with
   | true =>
    rw [h2] at y2
    rw [if_neg (fun h => absurd h.1 (by decide))]
    clear h2
    go_enter Try.func90, Try.ntmps90
    go_wp2
    go_quiet (fail)
    go_wp2
    go_end0
    exact ⟨rfl, IsWk.same H1.out HL.out HC.out HG.out HB.out _ HS.out⟩
   | false =>
    rw [h2] at y2
    by_cases c3 : 1 < s.st.length
    ·
     rw [if_pos ⟨rfl, c3⟩]
     have c3b : decide (1 < (s.st.length : Int)) = true := decide_eq_true (by omega)
     have c3c : (1 : Int) < (s.st.length : Int) := by omega
     have hcut : ∀ W : World, (Instr.slice 51 (.slice (some ad) s.st.length cs) none (some (.int .i64 ((s.st.length : Int) - 1))) none).run Try.prog W = .ok (.slice (some ad) (s.st.length - 1) cs) W := by
      intro W
      obtain ⟨i0, hi0, _, _, _⟩ := info_parts infoT
      have h := cut_to (P := Try.prog) 51 74 .i64 Try.underlying51 hi0 (some ad) s.st.length cs ((s.st.length : Int) - 1) (by omega) (by omega) HLC.out W
      rwa [show ((s.st.length : Int) - 1).toNat = s.st.length - 1 by omega] at h
     have HTk := az (Kd.R_take (m := s.st.length - 1) HS.out (by omega))
     clear h2
     go_enter Try.func90, Try.ntmps90
     go_wp2
     go_quiet (fail)
     go_wp2
     go_region
     go_wp2
     go_end0
     exact ⟨rfl, IsWk.put (s := { s with st := s.st.take (s.st.length - 1) }) H1.out HL.out HC.out HG.out HB.out (nq + 1) 3 (.slice (some ad) (s.st.length - 1) cs) _ HTk.out (by simp)⟩
    ·
     rw [if_neg (fun h => c3 h.2)]
     have c3b : decide (1 < (s.st.length : Int)) = false := decide_eq_false (by omega)
     clear h2 c3
     go_enter Try.func90, Try.ntmps90
     go_wp2
     go_quiet (fail)
     go_wp2
     go_end0
     exact ⟨rfl, IsWk.same H1.out HL.out HC.out HG.out HB.out _ HS.out⟩
theorem push_calls (w0 w : World) (gb : Nat) (A : Option Addr) (c n : Nat) (s : WkS) (right : Bool) (side : Int) (alone : Bool) (hB : Below w0.heap.size w0 w) (hs : IsWk w w0.heap.size gb A c n s) (hw : Wb s) :
  Calls Try.prog 89 #[.pointer (some ⟨gb, 0, none⟩), .bool right, .int .i64 side, .bool alone] w fun e w' => e = .returned (.tuple #[]) ∧ IsWk w' w0.heap.size gb A c n (pushS right side alone s) ∧ Below w0.heap.size w0 w' := by
 obtain ⟨vl, vc, vs, h1, hL, hC, hS, hbg⟩ := hs
 obtain ⟨As, cs, hvs, hlcs, hSC⟩ := Kd.R_reads hS
 subst hvs
 obtain ⟨b1, b2, b3, b4, b5, b6, b7, b8⟩ := hw
 have hc3 := (blk_cell h1 3).trans (show (#[.slice A n c, vl, vc, .slice As s.st.length cs, .int .i64 s.lost, .int .i64 s.sk, .int .i64 s.al] : Array Value)[3]? = some (.slice As s.st.length cs) from rfl)
 have hc4 := (blk_cell h1 4).trans (show (#[.slice A n c, vl, vc, .slice As s.st.length cs, .int .i64 s.lost, .int .i64 s.sk, .int .i64 s.al] : Array Value)[4]? = some (.int .i64 s.lost) from rfl)
 have hc5 := (blk_cell h1 5).trans (show (#[.slice A n c, vl, vc, .slice As s.st.length cs, .int .i64 s.lost, .int .i64 s.sk, .int .i64 s.al] : Array Value)[5]? = some (.int .i64 s.sk) from rfl)
 have hc6 := (blk_cell h1 6).trans (show (#[.slice A n c, vl, vc, .slice As s.st.length cs, .int .i64 s.lost, .int .i64 s.sk, .int .i64 s.al] : Array Value)[6]? = some (.int .i64 s.al) from rfl)
 obtain ⟨ad, e1, y0, y1, y2⟩ := at_T74 hSC ((s.st.length - 1 : Nat) : Int) (by omega) (by omega)
 subst e1
 rw [Int.toNat_natCast] at y0 y1 y2
 have hrd : rd_T74 s.st ((s.st.length - 1 : Nat) : Int) = s.top := by simp only [rd_T74, Int.toNat_natCast, WkS.top]
 rw [hrd] at y0 y1 y2
 clear hrd
 have hf3 := blk_frozen h1 3
 have hf4 := blk_frozen h1 4
 have hf5 := blk_frozen h1 5
 have hf6 := blk_frozen h1 6
 have hw1 : IntKind.i64.wrap ((s.st.length : Int) - 1) = (s.st.length : Int) - 1 := IntWalk.i64_in _ (by omega)
 have hw2 : ((s.st.length : Int) - 1).toNat = s.st.length - 1 := by omega
 have hw3 : 0 ≤ (s.st.length : Int) - 1 := by omega
 have hw4 : (s.st.length : Int) - 1 < (s.st.length : Int) := by omega
 have hw5 : (s.st.length : Int) - 1 ≤ (s.st.length : Int) := by omega
 have H1 := az h1
 have HL := az hL
 have HC := az hC
 have HS := az hS
 have HB := az hB
 have HG := az hbg
 have HLC := az hlcs
 clear h1 hL hC hS hB hbg hSC hlcs
 unfold pushS
 generalize s.top = tp at y0 y1 y2
 have hup := fun w m => upQ tp.f0 right w m
 generalize upV tp.f0 right = nl at hup
 have HUP := az hup
 clear hup
 by_cases c1 : nl ≤ 20 ∧ s.lost = 0 ∧ s.sk = 0
 ·
  rw [if_pos c1]
  obtain ⟨d1, d2, d3⟩ := c1
  have d1b : decide (nl ≤ 20) = true := decide_eq_true d1
  have d2b : (s.lost == 0) = true := beq_iff_eq.mpr d2
  have d3b : (s.sk == 0) = true := beq_iff_eq.mpr d3
  have HNE0 := az (Kd.R_ne HS.out H1.out (by decide))
  clear d1 d2 d3
  cases alone with
  | false =>
   rw [if_neg (by decide)]
   go_enter Try.func89, Try.ntmps89
   go_wp2
   go_quiet ((go_at_call 106; exact HUP.out _ _))
   have HSW := az (Kd.R_drewN HS.out nq)
   have HLW := az (Kd.R_drewN HL.out nq)
   have HCW := az (Kd.R_drewN HC.out nq)
   have HBW := az (pw_below_drewN HB.out nq)
   have H1W := az (show (w.drewN nq).heap[gb]? = _ from H1.out)
   have HNE := HNE0
   go_wp2_with ((with_reducible refine gate_builtin (b := .append) (xs := #[.tmp 53, .tmp 58]) rfl ?_); at_builtin; refine Kd.R_append k74 (w0 := w0) w0.heap.size rfl (.tmp 53) (.tmp 58) 51 74 (.agg #[.int .i64 0, .int .i64 0, .bool false]) 24 rfl Try.underlying51 infoT rfl (by decide) (by omega) (.slice (some ad) s.st.length cs) s.st ⟨nl, side, false⟩ [.int .i64 nl, .int .i64 side, .bool false] (fun _ => True) (fun _ => False) rfl rfl ?aP (fun _ hk => hk.elim) ?aF ?aO ?aB ?aS ?aL ?_; (case aP => exact k74_mkM _ _ _ (⟨nl, side, false⟩ : S74)); (case aF => exact (fun _ _ => trivial)); (case aO => exact HSW.out); (case aB => exact HBW.out); (case aS => exact HBW.out.size); (case aL => omega); intro v1 w1 ho1 hb1 hg1 hat1; obtain ⟨A1, c1, hv1⟩ := Kd.R_slice ho1; subst hv1; simp only [List.length_append, List.length_cons, List.length_nil, Nat.zero_add] at ho1; have h11 := blk_grown H1W.out hg1 HNE.out; have hc11 := (blk_cell h11 3).trans (show (#[.slice A n c, vl, vc, .slice (some ad) s.st.length cs, .int .i64 s.lost, .int .i64 s.sk, .int .i64 s.al] : Array Value)[3]? = some (.slice (some ad) s.st.length cs) from rfl); have hf11 := blk_frozen h11 3; have H11 := az h11; have HO1 := az ho1; have HB1 := az hb1; have HL1 := az (Kd.R_over' HLW.out (Kd.R_typed HSW.out) (by decide) hg1); have HC1 := az (Kd.R_over' HCW.out (Kd.R_typed HSW.out) (by decide) hg1); clear h11 ho1 hb1 hg1 hat1)
   ((try simp only [Exit.inBlock, Exit.then]); refine bodyPost_ret (results_none rfl _ _ _) rfl ?_)
   exact ⟨rfl, IsWk.put (s := { s with st := s.st ++ [⟨nl, side, false⟩] }) H11.out HL1.out HC1.out HG.out HB1.out 0 3 (.slice A1 (s.st.length + 1) c1) _ HO1.out (by simp)⟩
  | true =>
   rw [if_pos rfl]
   go_enter Try.func89, Try.ntmps89
   go_wp2
   go_quiet ((go_at_call 106; exact HUP.out _ _))
   have H1V := az (show (w.drewN nq).heap[gb]? = _ from H1.out)
   go_wp2_with (first | ((with_reducible refine gate_store (t := 3) (p := 48) rfl ?_); refine store_event (t := 3) (p := 48) (v := ?vo_w10) (w1 := ((w.drewN nq).setCell ⟨gb, 6, none⟩ (.int .i64 (s.al + 1)))) ?hg ?ho ?hn ?hr ?_; (case ho => rfl); (case hg => rfl); (case hn => rfl); (case hr => first | (go_simp; done) | (go_simp; rfl)); intro w10 hw; have HSW := az (show Kd.R k74 74 w10 w0.heap.size (fun _ => True) (.slice (some ad) s.st.length cs) s.st by rw [hw]; exact Kd.R_set (Kd.R_drewN HS.out nq) H1V.out (by decide) 6 (.int .i64 (s.al + 1))); have HLW := az (show Kd.R (Kd.int .i64) 3 w10 w0.heap.size (fun k => some k ≠ vc.ownBlock) vl s.lv by rw [hw]; exact Kd.R_set (Kd.R_drewN HL.out nq) H1V.out (by decide) 6 (.int .i64 (s.al + 1))); have HCW := az (show Kd.R (Kd.int .i64) 3 w10 w0.heap.size (fun k => some k ≠ vl.ownBlock) vc s.cl by rw [hw]; exact Kd.R_set (Kd.R_drewN HC.out nq) H1V.out (by decide) 6 (.int .i64 (s.al + 1))); have HBW := az (show Below w0.heap.size w0 w10 by rw [hw]; exact (pw_below_drewN HB.out nq).setCell (p := ⟨gb, 6, none⟩) HG.out (.int .i64 (s.al + 1))); have h1w : w10.heap[gb]? = some (.cells #[.slice A n c, vl, vc, .slice (some ad) s.st.length cs, .int .i64 s.lost, .int .i64 s.sk, .int .i64 (s.al + 1)] 53 (0, 0)) := (by rw [hw]; simpa using blk_set H1V.out 6 (.int .i64 (s.al + 1))); have hd3 := (blk_cell h1w 3).trans (show (#[.slice A n c, vl, vc, .slice (some ad) s.st.length cs, .int .i64 s.lost, .int .i64 s.sk, .int .i64 (s.al + 1)] : Array Value)[3]? = some (.slice (some ad) s.st.length cs) from rfl); have H1W := az h1w; have HNE := az (Kd.R_ne HSW.out h1w (by decide)); clear h1w hw) | ((with_reducible refine gate_builtin (b := .append) (xs := #[.tmp 53, .tmp 58]) rfl ?_); at_builtin; refine Kd.R_append k74 (w0 := w0) w0.heap.size rfl (.tmp 53) (.tmp 58) 51 74 (.agg #[.int .i64 0, .int .i64 0, .bool false]) 24 rfl Try.underlying51 infoT rfl (by decide) (by omega) (.slice (some ad) s.st.length cs) s.st ⟨nl, side, true⟩ [.int .i64 nl, .int .i64 side, .bool true] (fun _ => True) (fun _ => False) rfl rfl ?aP (fun _ hk => hk.elim) ?aF ?aO ?aB ?aS ?aL ?_; (case aP => exact k74_mkM _ _ _ (⟨nl, side, true⟩ : S74)); (case aF => exact (fun _ _ => trivial)); (case aO => exact HSW.out); (case aB => exact HBW.out); (case aS => exact HBW.out.size); (case aL => omega); intro v1 w1 ho1 hb1 hg1 hat1; obtain ⟨A1, c1, hv1⟩ := Kd.R_slice ho1; subst hv1; simp only [List.length_append, List.length_cons, List.length_nil, Nat.zero_add] at ho1; have h11 := blk_grown H1W.out hg1 HNE.out; have hc11 := (blk_cell h11 3).trans (show (#[.slice A n c, vl, vc, .slice (some ad) s.st.length cs, .int .i64 s.lost, .int .i64 s.sk, .int .i64 (s.al + 1)] : Array Value)[3]? = some (.slice (some ad) s.st.length cs) from rfl); have hf11 := blk_frozen h11 3; have H11 := az h11; have HO1 := az ho1; have HB1 := az hb1; have HL1 := az (Kd.R_over' HLW.out (Kd.R_typed HSW.out) (by decide) hg1); have HC1 := az (Kd.R_over' HCW.out (Kd.R_typed HSW.out) (by decide) hg1); clear h11 ho1 hb1 hg1 hat1))
   ((try simp only [Exit.inBlock, Exit.then]); refine bodyPost_ret (results_none rfl _ _ _) rfl ?_)
   exact ⟨rfl, IsWk.put (s := { s with st := s.st ++ [⟨nl, side, true⟩], al := s.al + 1 }) H11.out HL1.out HC1.out HG.out HB1.out 0 3 (.slice A1 (s.st.length + 1) c1) _ HO1.out (by simp)⟩
 ·
  rw [if_neg c1]
  have key : (decide (nl ≤ 20) = false) ∨ (decide (nl ≤ 20) = true ∧ (s.lost == 0) = false) ∨ (decide (nl ≤ 20) = true ∧ (s.lost == 0) = true ∧ (s.sk == 0) = false) := by
   by_cases d1 : nl ≤ 20
   ·
    by_cases d2 : s.lost = 0
    ·
     right; right
     exact ⟨decide_eq_true d1, beq_iff_eq.mpr d2, beq_eq_false_iff_ne.mpr (fun d3 => c1 ⟨d1, d2, d3⟩)⟩
    ·
     right; left
     exact ⟨decide_eq_true d1, beq_eq_false_iff_ne.mpr d2⟩
   · left; exact decide_eq_false d1
  clear c1
  cases alone with
  | true =>
   rw [if_pos rfl]
   rcases key with k1 | ⟨k1, k2⟩ | ⟨k1, k2, k3⟩
   all_goals
    go_enter Try.func89, Try.ntmps89
    go_wp2
    go_quiet ((go_at_call 106; exact HUP.out _ _))
    go_wp2
    go_end0
    exact ⟨rfl, IsWk.put (s := { s with lost := s.lost + 1 }) H1.out HL.out HC.out HG.out HB.out nq 4 (.int .i64 (s.lost + 1)) _ HS.out (by simp)⟩
  | false =>
   rw [if_neg (by decide)]
   by_cases d2 : s.lost = 0
   ·
    rw [if_pos d2]
    have d2b : (s.lost == 0) = true := beq_iff_eq.mpr d2
    clear d2
    rcases key with k1 | ⟨k1, k2⟩ | ⟨k1, k2, k3⟩
    ·
     go_enter Try.func89, Try.ntmps89
     go_wp2
     go_quiet ((go_at_call 106; exact HUP.out _ _))
     go_wp2
     go_end0
     exact ⟨rfl, IsWk.put (s := { s with sk := s.sk + 1 }) H1.out HL.out HC.out HG.out HB.out nq 5 (.int .i64 (s.sk + 1)) _ HS.out (by simp)⟩
    · rw [d2b] at k2; cases k2
    ·
     go_enter Try.func89, Try.ntmps89
     go_wp2
     go_quiet ((go_at_call 106; exact HUP.out _ _))
     go_wp2
     go_end0
     exact ⟨rfl, IsWk.put (s := { s with sk := s.sk + 1 }) H1.out HL.out HC.out HG.out HB.out nq 5 (.int .i64 (s.sk + 1)) _ HS.out (by simp)⟩
   ·
    rw [if_neg d2]
    have d2b : (s.lost == 0) = false := beq_eq_false_iff_ne.mpr d2
    clear d2
    rcases key with k1 | ⟨k1, k2⟩ | ⟨k1, k2, k3⟩
    ·
     go_enter Try.func89, Try.ntmps89
     go_wp2
     go_quiet ((go_at_call 106; exact HUP.out _ _))
     go_wp2
     go_end0
     exact ⟨rfl, IsWk.same H1.out HL.out HC.out HG.out HB.out _ HS.out⟩
    ·
     go_enter Try.func89, Try.ntmps89
     go_wp2
     go_quiet ((go_at_call 106; exact HUP.out _ _))
     go_wp2
     go_end0
     exact ⟨rfl, IsWk.same H1.out HL.out HC.out HG.out HB.out _ HS.out⟩
    · rw [d2b] at k2; cases k2
theorem hereFin {w0 w : World} {gb c n gl gc cpl cpc : Nat} {A : Option Addr} {s : WkS} {vs : Value} (h1 : w.heap[gb]? = some (.cells #[.slice A n c, .slice (some ⟨gl, 0, none⟩) s.lv.length cpl, .slice (some ⟨gc, 0, none⟩) s.cl.length cpc, vs, .int .i64 s.lost, .int .i64 s.sk, .int .i64 s.al] 53 (0, 0)))
  (hL : Kd.R (Kd.int .i64) 3 w w0.heap.size (fun k => some k ≠ (Value.slice (some ⟨gc, 0, none⟩) s.cl.length cpc).ownBlock) (.slice (some ⟨gl, 0, none⟩) s.lv.length cpl) s.lv) (hC : Kd.R (Kd.int .i64) 3 w w0.heap.size (fun k => some k ≠ (Value.slice (some ⟨gl, 0, none⟩) s.lv.length cpl).ownBlock) (.slice (some ⟨gc, 0, none⟩) s.cl.length cpc) s.cl)
  (hbg : w0.heap.size ≤ gb) (hB : Below w0.heap.size w0 w) (hS : Kd.R k74 74 w w0.heap.size (fun _ => True) vs s.st) (i : Nat) (a x : Int) (o : Obj) :
  IsWk ((((w.setCell ⟨gl, i, none⟩ (.int .i64 a)).setCell ⟨gc, i, none⟩ (.int .i64 x)).alloc o).drew.drew) w0.heap.size gb A c n { s with lv := s.lv.set i a, cl := s.cl.set i x } ∧ Below w0.heap.size w0 ((((w.setCell ⟨gl, i, none⟩ (.int .i64 a)).setCell ⟨gc, i, none⟩ (.int .i64 x)).alloc o).drew.drew) := by
 have hgl : w0.heap.size ≤ gl := Kd.R_base hL gl rfl
 have hgc : w0.heap.size ≤ gc := Kd.R_base hC gc rfl
 have pL := Kd.R_putg hL (i : Int) a
 rw [Int.toNat_natCast] at pL
 have hC1 := Kd.R_grown hC pL.2 (fun k hk => hk)
 have hS1 := Kd.R_over' hS (Kd.R_typed hL) (by decide) pL.2
 have h11 := blk_grown h1 pL.2 (Kd.R_ne hL h1 (by decide))
 have pC := Kd.R_putg hC1 (i : Int) x
 rw [Int.toNat_natCast] at pC
 have hL2 := Kd.R_grown pL.1 pC.2 (fun k hk => hk)
 have hS2 := Kd.R_over' hS1 (Kd.R_typed hC1) (by decide) pC.2
 have h12 := blk_grown h11 pC.2 (Kd.R_ne hC1 h11 (by decide))
 exact ⟨⟨_, _, vs, blk_drew (blk_drew (blk_alloc h12 o)), Kd.R_drew (Kd.R_drew (Kd.R_alloc hL2 o)), Kd.R_drew (Kd.R_drew (Kd.R_alloc pC.1 o)), Kd.R_drew (Kd.R_drew (Kd.R_alloc hS2 o)), hbg⟩, below_drew (below_drew (below_alloc ((hB.setCell (p := ⟨gl, i, none⟩) hgl _).setCell (p := ⟨gc, i, none⟩) hgc _) o))⟩
theorem here_calls (w0 w : World) (gb : Nat) (A : Option Addr) (c n : Nat) (s : WkS) (i : Nat) (k : Int) (hB : Below w0.heap.size w0 w) (hs : IsWk w w0.heap.size gb A c n s) (hw : Wb s) (hi : i < s.lv.length) (hi2 : i < s.cl.length) (hi3 : i < 1000) :
  Calls Try.prog 91 #[.pointer (some ⟨gb, 0, none⟩), .int .i64 i, .int .i64 k] w fun e w' => e = .returned (.tuple #[]) ∧ IsWk w' w0.heap.size gb A c n (hereS i k s) ∧ Below w0.heap.size w0 w' := by
 obtain ⟨vl, vc, vs, h1, hL, hC, hS, hbg⟩ := hs
 obtain ⟨As, cs, hvs, hlcs, hSC⟩ := Kd.R_reads hS
 subst hvs
 obtain ⟨b1, b2, b3, b4, b5, b6, b7, b8⟩ := hw
 have hc3 := (blk_cell h1 3).trans (show (#[.slice A n c, vl, vc, .slice As s.st.length cs, .int .i64 s.lost, .int .i64 s.sk, .int .i64 s.al] : Array Value)[3]? = some (.slice As s.st.length cs) from rfl)
 have hc4 := (blk_cell h1 4).trans (show (#[.slice A n c, vl, vc, .slice As s.st.length cs, .int .i64 s.lost, .int .i64 s.sk, .int .i64 s.al] : Array Value)[4]? = some (.int .i64 s.lost) from rfl)
 have hc5 := (blk_cell h1 5).trans (show (#[.slice A n c, vl, vc, .slice As s.st.length cs, .int .i64 s.lost, .int .i64 s.sk, .int .i64 s.al] : Array Value)[5]? = some (.int .i64 s.sk) from rfl)
 have hc6 := (blk_cell h1 6).trans (show (#[.slice A n c, vl, vc, .slice As s.st.length cs, .int .i64 s.lost, .int .i64 s.sk, .int .i64 s.al] : Array Value)[6]? = some (.int .i64 s.al) from rfl)
 obtain ⟨ad, e1, y0, y1, y2⟩ := at_T74 hSC ((s.st.length - 1 : Nat) : Int) (by omega) (by omega)
 subst e1
 rw [Int.toNat_natCast] at y0 y1 y2
 have hrd : rd_T74 s.st ((s.st.length - 1 : Nat) : Int) = s.top := by simp only [rd_T74, Int.toNat_natCast, WkS.top]
 rw [hrd] at y0 y1 y2
 clear hrd
 have hf3 := blk_frozen h1 3
 have hf4 := blk_frozen h1 4
 have hf5 := blk_frozen h1 5
 have hf6 := blk_frozen h1 6
 have hw1 : IntKind.i64.wrap ((s.st.length : Int) - 1) = (s.st.length : Int) - 1 := IntWalk.i64_in _ (by omega)
 have hw2 : ((s.st.length : Int) - 1).toNat = s.st.length - 1 := by omega
 have hw3 : 0 ≤ (s.st.length : Int) - 1 := by omega
 have hw4 : (s.st.length : Int) - 1 < (s.st.length : Int) := by omega
 have hw5 : (s.st.length : Int) - 1 ≤ (s.st.length : Int) := by omega
 have H1 := az h1
 have HL := az hL
 have HC := az hC
 have HS := az hS
 have HB := az hB
 have HG := az hbg
 have HLC := az hlcs
 obtain ⟨gl, cpl, hvl, _, hgl, _⟩ := Kd.R_form hL (by omega)
 obtain ⟨gc, cpc, hvc, _, hgc, _⟩ := Kd.R_form hC (by omega)
 subst hvl
 subst hvc
 have hgb := blk_lt h1
 have hlc : gl ≠ gc := fun h => by have := hL.1 gl rfl; simp [Value.ownBlock] at this; exact this h
 have hcl : gc ≠ gl := fun h => hlc h.symm
 have hbl : gb ≠ gl := fun h => by have := Kd.R_ne hL h1 (by decide); simp [Value.ownBlock] at this; exact this h
 have hbc : gb ≠ gc := fun h => by have := Kd.R_ne hC h1 (by decide); simp [Value.ownBlock] at this; exact this h
 obtain ⟨hxl, hfl⟩ := Kd.R_celln 0 hL (i : Int) (by omega) (by omega)
 obtain ⟨hxc, hfc⟩ := Kd.R_celln 0 hC (i : Int) (by omega) (by omega)
 rw [Int.toNat_natCast] at hxl hfl hxc hfc
 have hc1 := (blk_cell h1 1).trans (show (#[.slice A n c, .slice (some ⟨gl, 0, none⟩) s.lv.length cpl, .slice (some ⟨gc, 0, none⟩) s.cl.length cpc, .slice (some ad) s.st.length cs, .int .i64 s.lost, .int .i64 s.sk, .int .i64 s.al] : Array Value)[1]? = some (.slice (some ⟨gl, 0, none⟩) s.lv.length cpl) from rfl)
 have hc2 := (blk_cell h1 2).trans (show (#[.slice A n c, .slice (some ⟨gl, 0, none⟩) s.lv.length cpl, .slice (some ⟨gc, 0, none⟩) s.cl.length cpc, .slice (some ad) s.st.length cs, .int .i64 s.lost, .int .i64 s.sk, .int .i64 s.al] : Array Value)[2]? = some (.slice (some ⟨gc, 0, none⟩) s.cl.length cpc) from rfl)
 have hlt1 : (i : Int) < (s.lv.length : Int) := by omega
 have hlt2 : (i : Int) < (s.cl.length : Int) := by omega
 have had := World.block_lt_of_cell? w _ y0
 clear hc4 hc5 hc6 hf4 hf5 hf6 hf3 h1 hL hC hS hB hbg hSC hlcs
 unfold hereS
 generalize s.top = tp at y0 y1 y2
 by_cases c1 : tp.f1 = 0
 ·
  have c1b : (tp.f1 != 0) = false := bne_eq_false_iff_eq.mpr c1
  rw [if_pos c1]
  clear c1
  go_enter Try.func91, Try.ntmps91
  go_wp2
  go_region
  go_wp2
  go_region
  go_wp2
  go_end0
  exact ⟨rfl, hereFin H1.out HL.out HC.out HG.out HB.out HS.out i tp.f0 _ _⟩
 ·
  have c1b : (tp.f1 != 0) = true := bne_iff_ne.mpr c1
  rw [if_neg c1]
  clear c1
  go_enter Try.func91, Try.ntmps91
  go_wp2
  go_region
  go_wp2
  go_region
  go_wp2
  go_end0
  exact ⟨rfl, hereFin H1.out HL.out HC.out HG.out HB.out HS.out i tp.f0 _ _⟩
def spec_l3Opens.f (a0 : Int) : Option (Bool) := (spec_l1In.f a0 19 21).bind fun t103 => (some t103)
theorem spec_l3Opens.calls (a0 : Int) (r : Bool) (w : World) (h : spec_l3Opens.f a0 = some r) :
  Calls Try.prog 86 #[.int .i64 a0] w fun e w' => e = .returned (.bool r) ∧ Drawn0 w w' := by
 have H : ((spec_l1In.f a0 19 21).bind fun t103 => (some t103)) = some r := h
 clear h
 replace H := Option.bind_eq_some_iff.mp H
 obtain ⟨t103, A20, H⟩ := H
 replace H : (some t103) = some r := H
 have A2 := az A20
 clear A20
 obtain rfl := Option.some.inj H
 go_enter Try.func86, Try.ntmps86
 go_wp2_with (first | ((with_reducible refine gate_callee (f := 53) rfl ?_); refine goesL_ (some 4) rfl rfl Try.func53 (by kernel_rfl) rfl #[.int .i64 a0, .int .i64 19, .int .i64 21] rfl (by (try simp only [List.map_toArray, List.map_cons, List.map_nil]); first | done | rfl | (simp only [List.length_drop, List.length_take]; rfl)) ?_; (with_reducible refine (spec_l1In.calls a0 19 21 t103 _ A2.out).mono ?_); rintro e w' ⟨rfl, ⟨nd, rfl⟩⟩; refine ⟨_, rfl, ?_⟩))
 go_ret
 exact ⟨by first | rfl | (simp; done) | (simp [*]; done), by repeat (first | exact Drawn0.refl _ | apply Drawn0.step)⟩
mutual
def spec_l3Mate.l0 : Nat → List Int → Int → Int → Option (Int)
 | 0, _, _, _ => none
 | k + 1, x0, x5, x6 => if x6 < (x0.length : Int) then (if 0 ≤ x6 then ((spec_RuneBidi.f k (rd x0 x6)).bind fun t313 => ((spec_l3Opens.f t313).bind fun t314 => (if t314 = true then (spec_l3Mate.j1 k x0 (wrap64 (x5 + 1)) x6 t313) else (spec_l3Mate.j1 k x0 x5 x6 t313)))) else (none)) else (some (x0.length : Int))
def spec_l3Mate.j1 : Nat → List Int → Int → Int → Int → Option (Int)
 | 0, _, _, _, _ => none
 | k + 1, x0, x5, x6, x7 => if x7 = 22 then (if (wrap64 (x5 - 1)) = 0 then (some x6) else (spec_l3Mate.l0 k x0 (wrap64 (x5 - 1)) (wrap64 (x6 + 1)))) else (if x5 = 0 then (some x6) else (spec_l3Mate.l0 k x0 x5 (wrap64 (x6 + 1))))
end
def spec_l3Mate.f (k : Nat) (l0 : List Int) (a1 : Int) : Option (Int) := spec_l3Mate.l0 k l0 0 a1
theorem spec_l3Mate.mono_l : ∀ k, (∀ y0 y1 y2, LeO (spec_l3Mate.l0 k y0 y1 y2) (spec_l3Mate.l0 (k + 1) y0 y1 y2)) ∧ (∀ y0 y1 y2 y3, LeO (spec_l3Mate.j1 k y0 y1 y2 y3) (spec_l3Mate.j1 (k + 1) y0 y1 y2 y3))
 | 0 => ⟨fun _ _ _ r h => by simp [spec_l3Mate.l0] at h, fun _ _ _ _ r h => by simp [spec_l3Mate.j1] at h⟩
 | k + 1 => by
  obtain ⟨ih0, ih1⟩ := spec_l3Mate.mono_l k; refine ⟨?_, ?_⟩
  ·
   intro y0 y1 y2; unfold spec_l3Mate.l0
   repeat' first
   | (with_reducible exact ih0 _ _ _)
   | (with_reducible exact ih1 _ _ _ _)
   | (with_reducible exact spec_RuneBidi.mono _ _)
   | (with_reducible exact LeO.refl _)
   | (with_reducible exact LeO.none _)
   | (with_reducible refine LeO.ite ?_ ?_)
   | (with_reducible refine LeO.bind ?_ (fun _ => ?_))
   | exact ih0 _ _ _
   | exact ih1 _ _ _ _
   | exact spec_RuneBidi.mono _ _
   | exact LeO.none _
   | refine LeO.ite ?_ ?_
   | refine LeO.bind ?_ (fun _ => ?_)
  ·
   intro y0 y1 y2 y3; unfold spec_l3Mate.j1
   repeat' first
   | (with_reducible exact ih0 _ _ _)
   | (with_reducible exact ih1 _ _ _ _)
   | (with_reducible exact spec_RuneBidi.mono _ _)
   | (with_reducible exact LeO.refl _)
   | (with_reducible exact LeO.none _)
   | (with_reducible refine LeO.ite ?_ ?_)
   | (with_reducible refine LeO.bind ?_ (fun _ => ?_))
   | exact ih0 _ _ _
   | exact ih1 _ _ _ _
   | exact spec_RuneBidi.mono _ _
   | exact LeO.none _
   | refine LeO.ite ?_ ?_
   | refine LeO.bind ?_ (fun _ => ?_)
theorem spec_l3Mate.mono : ∀ a0 a1 k, LeO (spec_l3Mate.f k a0 a1) (spec_l3Mate.f (k + 1) a0 a1) := by
 intro a0 a1 k; obtain ⟨ih0, ih1⟩ := spec_l3Mate.mono_l k; unfold spec_l3Mate.f
 repeat' first
   | (with_reducible exact ih0 _ _ _)
   | (with_reducible exact ih1 _ _ _ _)
   | (with_reducible exact spec_RuneBidi.mono _ _)
   | (with_reducible exact LeO.refl _)
   | (with_reducible exact LeO.none _)
   | (with_reducible refine LeO.ite ?_ ?_)
   | (with_reducible refine LeO.bind ?_ (fun _ => ?_))
   | exact ih0 _ _ _
   | exact ih1 _ _ _ _
   | exact spec_RuneBidi.mono _ _
   | exact LeO.none _
   | refine LeO.ite ?_ ?_
   | refine LeO.bind ?_ (fun _ => ?_)
theorem spec_l3Mate.calls (k : Nat) (A0 : Option Addr) (c0 : Nat) (l0 : List Int) (a1 : Int) (r : Int) (w : World) (hr0 : Kd.C (Kd.int .i64) w A0 l0.length l0) (hc0 : l0.length ≤ c0) (h : spec_l3Mate.f k l0 a1 = some r) :
  Calls Try.prog 93 #[.slice A0 l0.length c0, .int .i64 a1] w fun e w' => e = .returned (.int .i64 r) ∧ Below w.heap.size w w' := by
 have HR0 := az hr0; have HC0 := az hc0; clear hr0 hc0; have HB := az (Below.refl w.heap.size w); have H : (spec_l3Mate.l0 k l0 0 a1) = some r := h; clear h; have H' := az H; clear H; go_enter Try.func93, Try.ntmps93; go_wp2; go_loopg [5, 6] k (fun kq v5 v6 w' => ∃ (x5_1 : Int) (x6_1 : Int), v5 = .int .i64 x5_1 ∧ v6 = .int .i64 x6_1 ∧ Aside0 (spec_l3Mate.l0 kq l0 x5_1 x6_1 = some r) ∧ Aside0 (kq ≤ k) ∧ Aside0 (Below w.heap.size w w'))
 case atStart => exact ⟨(0), (a1), (by first | rfl | (simp; done) | (simp [*]; done)), (by first | rfl | (simp; done) | (simp [*]; done)), H', ⟨Nat.le_refl _⟩, ⟨by repeat (first | (with_reducible first | exact HB.out | apply below_alloc | apply pw_below_drewN | apply below_drew1) | exact HB.out)⟩⟩
 case round =>
  clear H'; (try clear p2); obtain ⟨x5_1, x6_1, rfl, rfl, HA, HK1, HB⟩ := hrel
  cases gk with
  | zero => exact absurd HA.out (by simp [spec_l3Mate.l0])
  | succ k1 =>
   have H := HA.out; clear HA; simp only [spec_l3Mate.l0] at H; by_cases c3 : x6_1 < (l0.length : Int)
   ·
    rw [if_pos c3] at H; have c3b0 : decide (x6_1 < (l0.length : Int)) = true := decide_eq_true c3; clear c3; by_cases c4 : 0 ≤ x6_1
    ·
     rw [if_pos c4] at H; have c4b0 : decide (0 ≤ x6_1) = true := decide_eq_true c4; clear c4; replace H := Option.bind_eq_some_iff.mp H; obtain ⟨t313, A50, H⟩ := H; replace H : ((spec_l3Opens.f t313).bind fun t314 => (if t314 = true then (spec_l3Mate.j1 k1 l0 (wrap64 (x5_1 + 1)) x6_1 t313) else (spec_l3Mate.j1 k1 l0 x5_1 x6_1 t313))) = some r := H; have A5 := az A50; clear A50; replace H := Option.bind_eq_some_iff.mp H; obtain ⟨t314, A60, H⟩ := H; replace H : (if t314 = true then (spec_l3Mate.j1 k1 l0 (wrap64 (x5_1 + 1)) x6_1 t313) else (spec_l3Mate.j1 k1 l0 x5_1 x6_1 t313)) = some r := H; have A6 := az A60; clear A60; have HC7 := az H; clear H; have p312 : 0 ≤ (x6_1 : Int) := of_decide_eq_true (by assumption); have q312 : x6_1 < (l0.length : Int) := of_decide_eq_true (by assumption); obtain ⟨ad312, e312, hx312_0⟩ := Kd.at_int HR0.out x6_1 p312 q312
     cases e312
     replace hx312_0 := (HB.out.cell (World.block_lt_of_cell? w _ hx312_0)).trans hx312_0; replace p312 := eq_true p312; replace q312 := eq_true q312; go_upto_if 21 with (first | ((with_reducible refine gate_callee (f := 20) rfl ?_); refine goesL_ (some 19) rfl rfl Try.func20 (by kernel_rfl) rfl #[.int .i64 (rd l0 x6_1)] rfl (by (try simp only [List.map_toArray, List.map_cons, List.map_nil]); first | done | rfl) ?_; (with_reducible refine (spec_RuneBidi.calls k1 (rd l0 x6_1) t313 _ A5.out).mono ?_); rintro e w8 ⟨rfl, hb⟩; refine ⟨_, rfl, ?_⟩; have n0_ := az (below_step (by repeat (first | (with_reducible first | exact HB.out | apply below_alloc | apply pw_below_drewN | apply below_drew1) | exact HB.out)) hb); clear HB; have HB := n0_; clear n0_; (try clear hb); (try clear hb2); (try clear hk); (try clear hi)) | ((with_reducible refine gate_callee (f := 86) rfl ?_); refine goesL_ (some 21) rfl rfl Try.func86 (by kernel_rfl) rfl #[.int .i64 t313] rfl (by (try simp only [List.map_toArray, List.map_cons, List.map_nil]); first | done | rfl) ?_; (with_reducible refine (spec_l3Opens.calls t313 t314 _ A6.out).mono ?_); rintro e w' ⟨rfl, ⟨nd, rfl⟩⟩; refine ⟨_, rfl, ?_⟩))
     (try simp only [Act.put, List.setIfInBounds_toArray, List.set_cons_zero, List.set_cons_succ]); go_cut [5] (fun v5 wc => ∃ (kq : Nat) (x5_6 : Int), v5 = .int .i64 x5_6 ∧ Aside0 (spec_l3Mate.j1 kq l0 x5_6 x6_1 t313 = some r) ∧ Aside0 (kq ≤ k1) ∧ Aside0 (Below w.heap.size w wc))
     case first =>
      have H := HC7.out; clear HC7; by_cases c9 : t314 = true
      ·
       subst c9; have H1 : (spec_l3Mate.j1 k1 l0 (wrap64 (x5_1 + 1)) x6_1 t313) = some r := by rw [if_pos rfl] at H; exact H
       clear H; have H := H1; clear H1; have H' := az H; clear H; go_wp2; go_meet
       case rel => exact ⟨_, (wrap64 (x5_1 + 1)), (by first | rfl | (simp; done) | (simp [*]; done)), H', ⟨by have := HK1.out; first | omega | exact Nat.le_refl _⟩, ⟨by repeat (first | (with_reducible first | exact HB.out | apply below_alloc | apply pw_below_drewN | apply below_drew1) | exact HB.out)⟩⟩
      ·
       replace c9 := Bool.eq_false_iff.mpr c9; subst c9; have H1 : (spec_l3Mate.j1 k1 l0 x5_1 x6_1 t313) = some r := by rw [if_neg (show ¬ (false = true) by decide)] at H; exact H
       clear H; have H := H1; clear H1; have H' := az H; clear H; go_wp2; go_meet
       case rel => exact ⟨_, (x5_1), (by first | rfl | (simp; done) | (simp [*]; done)), H', ⟨by have := HK1.out; first | omega | exact Nat.le_refl _⟩, ⟨by repeat (first | (with_reducible first | exact HB.out | apply below_alloc | apply pw_below_drewN | apply below_drew1) | exact HB.out)⟩⟩
     case rest =>
      clear HC7; (try clear c2); (try clear p2); (try clear c3); (try clear c3b0); (try clear p3); (try clear q3); (try clear hx3); (try clear c4); (try clear c4b0); (try clear p6); (try clear c8); (try clear c9); (try clear hx312_0); (try clear p2); (try clear p312); (try clear q312); obtain ⟨kq, x5_6, rfl, HA, HJ6, HB⟩ := hcut
      cases kq with
      | zero => exact absurd HA.out (by simp [spec_l3Mate.j1])
      | succ kj6 =>
       have H := HA.out; clear HA; simp only [spec_l3Mate.j1] at H; by_cases c10 : t313 = 22
       ·
        rw [if_pos c10] at H; have c10b0 : (t313 == 22) = true := beq_iff_eq.mpr c10; have c10b1 : (t313 != 22) = false := bne_eq_false_iff_eq.mpr c10; clear c10; by_cases c11 : (wrap64 (x5_6 - 1)) = 0
        ·
         rw [if_pos c11] at H; have c11b0 : ((wrap64 (x5_6 - 1)) == 0) = true := beq_iff_eq.mpr c11; have c11b1 : ((wrap64 (x5_6 - 1)) != 0) = false := bne_eq_false_iff_eq.mpr c11; clear c11; obtain rfl := Option.some.inj H; go_wp2; go_ret; exact ⟨by first | rfl | (simp [errW_none, errW_some] <;> rfl) | (simp [*, errW_none, errW_some] <;> rfl), by repeat (first | (with_reducible first | exact HB.out | apply below_alloc | apply pw_below_drewN | apply below_drew1) | exact HB.out)⟩
        ·
         rw [if_neg c11] at H; have c11b0 : ((wrap64 (x5_6 - 1)) == 0) = false := beq_eq_false_iff_ne.mpr c11; have c11b1 : ((wrap64 (x5_6 - 1)) != 0) = true := bne_iff_ne.mpr c11; have H' := az H; clear H; go_wp2; go_roundg kj6
         case measure => have := HK1.out; have := HJ6.out; omega
         case rel => exact ⟨(wrap64 (x5_6 - 1)), (wrap64 (x6_1 + 1)), (by first | rfl | (simp; done) | (simp [*]; done)), (by first | rfl | (simp; done) | (simp [*]; done)), H', ⟨by have := HK1.out; have := HJ6.out; omega⟩, ⟨by repeat (first | (with_reducible first | exact HB.out | apply below_alloc | apply pw_below_drewN | apply below_drew1) | exact HB.out)⟩⟩
       ·
        rw [if_neg c10] at H; have c10b0 : (t313 == 22) = false := beq_eq_false_iff_ne.mpr c10; have c10b1 : (t313 != 22) = true := bne_iff_ne.mpr c10; by_cases c12 : x5_6 = 0
        ·
         rw [if_pos c12] at H; have c12b0 : (x5_6 == 0) = true := beq_iff_eq.mpr c12; have c12b1 : (x5_6 != 0) = false := bne_eq_false_iff_eq.mpr c12; clear c12; obtain rfl := Option.some.inj H; go_wp2; go_ret; exact ⟨by first | rfl | (simp [errW_none, errW_some] <;> rfl) | (simp [*, errW_none, errW_some] <;> rfl), by repeat (first | (with_reducible first | exact HB.out | apply below_alloc | apply pw_below_drewN | apply below_drew1) | exact HB.out)⟩
        ·
         rw [if_neg c12] at H; have c12b0 : (x5_6 == 0) = false := beq_eq_false_iff_ne.mpr c12; have c12b1 : (x5_6 != 0) = true := bne_iff_ne.mpr c12; have H' := az H; clear H; go_wp2; go_roundg kj6
         case measure => have := HK1.out; have := HJ6.out; omega
         case rel => exact ⟨(x5_6), (wrap64 (x6_1 + 1)), (by first | rfl | (simp; done) | (simp [*]; done)), (by first | rfl | (simp; done) | (simp [*]; done)), H', ⟨by have := HK1.out; have := HJ6.out; omega⟩, ⟨by repeat (first | (with_reducible first | exact HB.out | apply below_alloc | apply pw_below_drewN | apply below_drew1) | exact HB.out)⟩⟩
    ·
     rw [if_neg c4] at H; exact absurd H (by simp)
   ·
    rw [if_neg c3] at H; have c3b0 : decide (x6_1 < (l0.length : Int)) = false := decide_eq_false c3; clear c3; obtain rfl := Option.some.inj H; go_wp2; go_ret; exact ⟨by first | rfl | (simp [errW_none, errW_some] <;> rfl) | (simp [*, errW_none, errW_some] <;> rfl), by repeat (first | (with_reducible first | exact HB.out | apply below_alloc | apply pw_below_drewN | apply below_drew1) | exact HB.out)⟩
mutual
def spec_l3Base.l0 : Nat → List Int → Int → Int → Option (Int)
 | 0, _, _, _ => none
 | k + 1, x0, x2, x7 => if x7 < x2 then (if 0 ≤ x7 then (if x7 < (x0.length : Int) then ((spec_RuneBidi.f k (rd x0 x7)).bind fun t316 => (if t316 = 1 then (some 0) else (if t316 = 2 then (spec_l3Base.j1 k x0 x2 x7 t316 (t316 == 2)) else (spec_l3Base.j1 k x0 x2 x7 t316 (t316 == 3))))) else (none)) else (none)) else (some 0)
def spec_l3Base.j1 : Nat → List Int → Int → Int → Int → Bool → Option (Int)
 | 0, _, _, _, _, _ => none
 | k + 1, x0, x2, x7, x8, x23 => if x23 = true then (some 1) else ((spec_l3Opens.f x8).bind fun t317 => (if t317 = true then ((spec_l3Mate.f k x0 x7).bind fun t318 => (spec_l3Base.l0 k x0 x2 (wrap64 (t318 + 1)))) else (spec_l3Base.l0 k x0 x2 (wrap64 (x7 + 1)))))
end
def spec_l3Base.f (k : Nat) (l0 : List Int) (a1 : Int) (a2 : Int) : Option (Int) := spec_l3Base.l0 k l0 a2 a1
theorem spec_l3Base.mono_l : ∀ k, (∀ y0 y1 y2, LeO (spec_l3Base.l0 k y0 y1 y2) (spec_l3Base.l0 (k + 1) y0 y1 y2)) ∧ (∀ y0 y1 y2 y3 y4, LeO (spec_l3Base.j1 k y0 y1 y2 y3 y4) (spec_l3Base.j1 (k + 1) y0 y1 y2 y3 y4))
 | 0 => ⟨fun _ _ _ r h => by simp [spec_l3Base.l0] at h, fun _ _ _ _ _ r h => by simp [spec_l3Base.j1] at h⟩
 | k + 1 => by
  obtain ⟨ih0, ih1⟩ := spec_l3Base.mono_l k; refine ⟨?_, ?_⟩
  ·
   intro y0 y1 y2; unfold spec_l3Base.l0
   repeat' first
   | (with_reducible exact ih0 _ _ _)
   | (with_reducible exact ih1 _ _ _ _ _)
   | (with_reducible exact spec_RuneBidi.mono _ _)
   | (with_reducible exact spec_l3Mate.mono _ _ _)
   | (with_reducible exact LeO.refl _)
   | (with_reducible exact LeO.none _)
   | (with_reducible refine LeO.ite ?_ ?_)
   | (with_reducible refine LeO.bind ?_ (fun _ => ?_))
   | exact ih0 _ _ _
   | exact ih1 _ _ _ _ _
   | exact spec_RuneBidi.mono _ _
   | exact spec_l3Mate.mono _ _ _
   | exact LeO.none _
   | refine LeO.ite ?_ ?_
   | refine LeO.bind ?_ (fun _ => ?_)
  ·
   intro y0 y1 y2 y3 y4; unfold spec_l3Base.j1
   repeat' first
   | (with_reducible exact ih0 _ _ _)
   | (with_reducible exact ih1 _ _ _ _ _)
   | (with_reducible exact spec_RuneBidi.mono _ _)
   | (with_reducible exact spec_l3Mate.mono _ _ _)
   | (with_reducible exact LeO.refl _)
   | (with_reducible exact LeO.none _)
   | (with_reducible refine LeO.ite ?_ ?_)
   | (with_reducible refine LeO.bind ?_ (fun _ => ?_))
   | exact ih0 _ _ _
   | exact ih1 _ _ _ _ _
   | exact spec_RuneBidi.mono _ _
   | exact spec_l3Mate.mono _ _ _
   | exact LeO.none _
   | refine LeO.ite ?_ ?_
   | refine LeO.bind ?_ (fun _ => ?_)
theorem spec_l3Base.mono : ∀ a0 a1 a2 k, LeO (spec_l3Base.f k a0 a1 a2) (spec_l3Base.f (k + 1) a0 a1 a2) := by
 intro a0 a1 a2 k; obtain ⟨ih0, ih1⟩ := spec_l3Base.mono_l k; unfold spec_l3Base.f
 repeat' first
   | (with_reducible exact ih0 _ _ _)
   | (with_reducible exact ih1 _ _ _ _ _)
   | (with_reducible exact spec_RuneBidi.mono _ _)
   | (with_reducible exact spec_l3Mate.mono _ _ _)
   | (with_reducible exact LeO.refl _)
   | (with_reducible exact LeO.none _)
   | (with_reducible refine LeO.ite ?_ ?_)
   | (with_reducible refine LeO.bind ?_ (fun _ => ?_))
   | exact ih0 _ _ _
   | exact ih1 _ _ _ _ _
   | exact spec_RuneBidi.mono _ _
   | exact spec_l3Mate.mono _ _ _
   | exact LeO.none _
   | refine LeO.ite ?_ ?_
   | refine LeO.bind ?_ (fun _ => ?_)
theorem spec_l3Base.calls (k : Nat) (A0 : Option Addr) (c0 : Nat) (l0 : List Int) (a1 : Int) (a2 : Int) (r : Int) (w : World) (hr0 : Kd.C (Kd.int .i64) w A0 l0.length l0) (hc0 : l0.length ≤ c0) (h : spec_l3Base.f k l0 a1 a2 = some r) :
  Calls Try.prog 92 #[.slice A0 l0.length c0, .int .i64 a1, .int .i64 a2] w fun e w' => e = .returned (.int .i64 r) ∧ Below w.heap.size w w' := by
 have HR0 := az hr0; have HC0 := az hc0; clear hr0 hc0; have HB := az (Below.refl w.heap.size w); have H : (spec_l3Base.l0 k l0 a2 a1) = some r := h; clear h; have H' := az H; clear H; go_enter Try.func92, Try.ntmps92; go_wp2; go_loopg [7] k (fun kq v7 w' => ∃ (x7_1 : Int), v7 = .int .i64 x7_1 ∧ Aside0 (spec_l3Base.l0 kq l0 a2 x7_1 = some r) ∧ Aside0 (kq ≤ k) ∧ Aside0 (Below w.heap.size w w'))
 case atStart => exact ⟨(a1), (by first | rfl | (simp; done) | (simp [*]; done)), H', ⟨Nat.le_refl _⟩, ⟨by repeat (first | (with_reducible first | exact HB.out | apply below_alloc | apply pw_below_drewN | apply below_drew1) | exact HB.out)⟩⟩
 case round =>
  clear H'; (try clear p2); obtain ⟨x7_1, rfl, HA, HK1, HB⟩ := hrel
  cases gk with
  | zero => exact absurd HA.out (by simp [spec_l3Base.l0])
  | succ k1 =>
   have H := HA.out; clear HA; simp only [spec_l3Base.l0] at H; by_cases c4 : x7_1 < a2
   ·
    rw [if_pos c4] at H; have c4b0 : decide (x7_1 < a2) = true := decide_eq_true c4; clear c4; by_cases c5 : 0 ≤ x7_1
    ·
     rw [if_pos c5] at H; have c5b0 : decide (0 ≤ x7_1) = true := decide_eq_true c5; clear c5; by_cases c6 : x7_1 < (l0.length : Int)
     ·
      rw [if_pos c6] at H; have c6b0 : decide (x7_1 < (l0.length : Int)) = true := decide_eq_true c6; clear c6; replace H := Option.bind_eq_some_iff.mp H; obtain ⟨t316, A70, H⟩ := H; replace H : (if t316 = 1 then (some 0) else (if t316 = 2 then (spec_l3Base.j1 k1 l0 a2 x7_1 t316 (t316 == 2)) else (spec_l3Base.j1 k1 l0 a2 x7_1 t316 (t316 == 3)))) = some r := H; have A7 := az A70; clear A70; by_cases c8 : t316 = 1
      ·
       rw [if_pos c8] at H; have c8b0 : (t316 == 1) = true := beq_iff_eq.mpr c8; have c8b1 : (t316 != 1) = false := bne_eq_false_iff_eq.mpr c8; clear c8; obtain rfl := Option.some.inj H; have p315 : 0 ≤ (x7_1 : Int) := of_decide_eq_true (by assumption); have q315 : x7_1 < (l0.length : Int) := of_decide_eq_true (by assumption); obtain ⟨ad315, e315, hx315_0⟩ := Kd.at_int HR0.out x7_1 p315 q315
       cases e315
       replace hx315_0 := (HB.out.cell (World.block_lt_of_cell? w _ hx315_0)).trans hx315_0; replace p315 := eq_true p315; replace q315 := eq_true q315; go_wp2_with (first | ((with_reducible refine gate_callee (f := 20) rfl ?_); refine goesL_ (some 19) rfl rfl Try.func20 (by kernel_rfl) rfl #[.int .i64 (rd l0 x7_1)] rfl (by (try simp only [List.map_toArray, List.map_cons, List.map_nil]); first | done | rfl) ?_; (with_reducible refine (spec_RuneBidi.calls k1 (rd l0 x7_1) t316 _ A7.out).mono ?_); rintro e w9 ⟨rfl, hb⟩; refine ⟨_, rfl, ?_⟩; have n0_ := az (below_step (by repeat (first | (with_reducible first | exact HB.out | apply below_alloc | apply pw_below_drewN | apply below_drew1) | exact HB.out)) hb); clear HB; have HB := n0_; clear n0_; (try clear hb); (try clear hb2); (try clear hk); (try clear hi))); go_ret; exact ⟨by first | rfl | (simp [errW_none, errW_some] <;> rfl) | (simp [*, errW_none, errW_some] <;> rfl), by repeat (first | (with_reducible first | exact HB.out | apply below_alloc | apply pw_below_drewN | apply below_drew1) | exact HB.out)⟩
      ·
       rw [if_neg c8] at H; have c8b0 : (t316 == 1) = false := beq_eq_false_iff_ne.mpr c8; have c8b1 : (t316 != 1) = true := bne_iff_ne.mpr c8; have HC10 := az H; clear H; have p315 : 0 ≤ (x7_1 : Int) := of_decide_eq_true (by assumption); have q315 : x7_1 < (l0.length : Int) := of_decide_eq_true (by assumption); obtain ⟨ad315, e315, hx315_0⟩ := Kd.at_int HR0.out x7_1 p315 q315
       cases e315
       replace hx315_0 := (HB.out.cell (World.block_lt_of_cell? w _ hx315_0)).trans hx315_0; replace p315 := eq_true p315; replace q315 := eq_true q315; go_upto_if 23 with (first | ((with_reducible refine gate_callee (f := 20) rfl ?_); refine goesL_ (some 19) rfl rfl Try.func20 (by kernel_rfl) rfl #[.int .i64 (rd l0 x7_1)] rfl (by (try simp only [List.map_toArray, List.map_cons, List.map_nil]); first | done | rfl) ?_; (with_reducible refine (spec_RuneBidi.calls k1 (rd l0 x7_1) t316 _ A7.out).mono ?_); rintro e w11 ⟨rfl, hb⟩; refine ⟨_, rfl, ?_⟩; have n0_ := az (below_step (by repeat (first | (with_reducible first | exact HB.out | apply below_alloc | apply pw_below_drewN | apply below_drew1) | exact HB.out)) hb); clear HB; have HB := n0_; clear n0_; (try clear hb); (try clear hb2); (try clear hk); (try clear hi)))
       (try simp only [Act.put, List.setIfInBounds_toArray, List.set_cons_zero, List.set_cons_succ]); go_cut [23] (fun v23 wc => ∃ (kq : Nat) (x23_9 : Bool), v23 = .bool x23_9 ∧ Aside0 (spec_l3Base.j1 kq l0 a2 x7_1 t316 x23_9 = some r) ∧ Aside0 (kq ≤ k1) ∧ Aside0 (Below w.heap.size w wc))
       case first =>
        have H := HC10.out; clear HC10; by_cases c12 : t316 = 2
        ·
         rw [if_pos c12] at H; have c12b0 : (t316 == 2) = true := beq_iff_eq.mpr c12; have c12b1 : (t316 != 2) = false := bne_eq_false_iff_eq.mpr c12; clear c12; (first | rw [c12b0] | (simp only [i64_w, i32_w]; rw [c12b0]) | skip); have H' := az H; clear H; go_wp2; go_meet
         case rel => exact ⟨_, ((t316 == 2)), (by first | rfl | (simp; done) | (simp [*]; done)), H', ⟨by have := HK1.out; first | omega | exact Nat.le_refl _⟩, ⟨by repeat (first | (with_reducible first | exact HB.out | apply below_alloc | apply pw_below_drewN | apply below_drew1) | exact HB.out)⟩⟩
        ·
         rw [if_neg c12] at H; have c12b0 : (t316 == 2) = false := beq_eq_false_iff_ne.mpr c12; have c12b1 : (t316 != 2) = true := bne_iff_ne.mpr c12; (first | rw [c12b0] | (simp only [i64_w, i32_w]; rw [c12b0]) | skip); have H' := az H; clear H; go_wp2; go_meet
         case rel => exact ⟨_, ((t316 == 3)), (by first | rfl | (simp; done) | (simp [*]; done)), H', ⟨by have := HK1.out; first | omega | exact Nat.le_refl _⟩, ⟨by repeat (first | (with_reducible first | exact HB.out | apply below_alloc | apply pw_below_drewN | apply below_drew1) | exact HB.out)⟩⟩
       case rest =>
        clear HC10; (try clear c1); (try clear c2); (try clear p2); (try clear p3); (try clear q3); (try clear hx3); (try clear c4); (try clear c4b0); (try clear c5); (try clear c5b0); (try clear c6); (try clear c6b0); (try clear c8); (try clear c8b0); (try clear c8b1); (try clear c9); (try clear c12); (try clear c12b0); (try clear c12b1); (try clear hx315_0); (try clear p2); (try clear p315); (try clear q315); obtain ⟨kq, x23_9, rfl, HA, HJ9, HB⟩ := hcut
        cases kq with
        | zero => exact absurd HA.out (by simp [spec_l3Base.j1])
        | succ kj9 =>
         have H := HA.out; clear HA; simp only [spec_l3Base.j1] at H; by_cases c13 : x23_9 = true
         ·
          subst c13; have H1 : (some 1) = some r := by rw [if_pos rfl] at H; exact H
          clear H; have H := H1; clear H1; obtain rfl := Option.some.inj H; go_wp2; go_ret; exact ⟨by first | rfl | (simp [errW_none, errW_some] <;> rfl) | (simp [*, errW_none, errW_some] <;> rfl), by repeat (first | (with_reducible first | exact HB.out | apply below_alloc | apply pw_below_drewN | apply below_drew1) | exact HB.out)⟩
         ·
          replace c13 := Bool.eq_false_iff.mpr c13; subst c13; have H1 : ((spec_l3Opens.f t316).bind fun t317 => (if t317 = true then ((spec_l3Mate.f kj9 l0 x7_1).bind fun t318 => (spec_l3Base.l0 kj9 l0 a2 (wrap64 (t318 + 1)))) else (spec_l3Base.l0 kj9 l0 a2 (wrap64 (x7_1 + 1))))) = some r := by rw [if_neg (show ¬ (false = true) by decide)] at H; exact H
          clear H; have H := H1; clear H1; replace H := Option.bind_eq_some_iff.mp H; obtain ⟨t317, A140, H⟩ := H; replace H : (if t317 = true then ((spec_l3Mate.f kj9 l0 x7_1).bind fun t318 => (spec_l3Base.l0 kj9 l0 a2 (wrap64 (t318 + 1)))) else (spec_l3Base.l0 kj9 l0 a2 (wrap64 (x7_1 + 1)))) = some r := H; have A14 := az A140; clear A140; by_cases c15 : t317 = true
          ·
           subst c15; have H1 : ((spec_l3Mate.f kj9 l0 x7_1).bind fun t318 => (spec_l3Base.l0 kj9 l0 a2 (wrap64 (t318 + 1)))) = some r := by rw [if_pos rfl] at H; exact H
           clear H; have H := H1; clear H1; replace H := Option.bind_eq_some_iff.mp H; obtain ⟨t318, A160, H⟩ := H; replace H : (spec_l3Base.l0 kj9 l0 a2 (wrap64 (t318 + 1))) = some r := H; have A16 := az A160; clear A160; have H' := az H; clear H; go_wp2_with (first | ((with_reducible refine gate_callee (f := 86) rfl ?_); refine goesL_ (some 30) rfl rfl Try.func86 (by kernel_rfl) rfl #[.int .i64 t316] rfl (by (try simp only [List.map_toArray, List.map_cons, List.map_nil]); first | done | rfl) ?_; (with_reducible refine (spec_l3Opens.calls t316 true _ A14.out).mono ?_); rintro e w' ⟨rfl, ⟨nd, rfl⟩⟩; refine ⟨_, rfl, ?_⟩) | ((with_reducible refine gate_callee (f := 93) rfl ?_); refine goesL_ (some 33) rfl rfl Try.func93 (by kernel_rfl) rfl #[.slice (some ad315) l0.length c0, .int .i64 x7_1] rfl (by (try simp only [List.map_toArray, List.map_cons, List.map_nil]); first | done | rfl) ?_; (with_reducible refine (spec_l3Mate.calls kj9 _ _ l0 x7_1 t318 _ ?side1 ?side2 A16.out).mono ?_); (case side1 => repeat (first | exact (Kd.C_below HR0.out (by repeat (first | (with_reducible first | exact HB.out | apply below_alloc | apply pw_below_drewN | apply below_drew1) | exact HB.out))) | (with_reducible refine Kd.C_alloc ?_ _) | (with_reducible refine Kd.C_drewN ?_ _) | (with_reducible refine Kd.C_drew ?_))); (case side2 => exact HC0.out); rintro e w17 ⟨rfl, hb⟩; refine ⟨_, rfl, ?_⟩; have n0_ := az (below_step (by repeat (first | (with_reducible first | exact HB.out | apply below_alloc | apply pw_below_drewN | apply below_drew1) | exact HB.out)) hb); clear HB; have HB := n0_; clear n0_; (try clear hb); (try clear hb2); (try clear hk); (try clear hi))); go_roundg kj9
           case measure => have := HK1.out; have := HJ9.out; omega
           case rel => exact ⟨(wrap64 (t318 + 1)), (by first | rfl | (simp; done) | (simp [*]; done)), H', ⟨by have := HK1.out; have := HJ9.out; omega⟩, ⟨by repeat (first | (with_reducible first | exact HB.out | apply below_alloc | apply pw_below_drewN | apply below_drew1) | exact HB.out)⟩⟩
          ·
           replace c15 := Bool.eq_false_iff.mpr c15; subst c15; have H1 : (spec_l3Base.l0 kj9 l0 a2 (wrap64 (x7_1 + 1))) = some r := by rw [if_neg (show ¬ (false = true) by decide)] at H; exact H
           clear H; have H := H1; clear H1; have H' := az H; clear H; go_wp2_with (first | ((with_reducible refine gate_callee (f := 86) rfl ?_); refine goesL_ (some 30) rfl rfl Try.func86 (by kernel_rfl) rfl #[.int .i64 t316] rfl (by (try simp only [List.map_toArray, List.map_cons, List.map_nil]); first | done | rfl) ?_; (with_reducible refine (spec_l3Opens.calls t316 false _ A14.out).mono ?_); rintro e w' ⟨rfl, ⟨nd, rfl⟩⟩; refine ⟨_, rfl, ?_⟩)); go_roundg kj9
           case measure => have := HK1.out; have := HJ9.out; omega
           case rel => exact ⟨(wrap64 (x7_1 + 1)), (by first | rfl | (simp; done) | (simp [*]; done)), H', ⟨by have := HK1.out; have := HJ9.out; omega⟩, ⟨by repeat (first | (with_reducible first | exact HB.out | apply below_alloc | apply pw_below_drewN | apply below_drew1) | exact HB.out)⟩⟩
     ·
      rw [if_neg c6] at H; exact absurd H (by simp)
    ·
     rw [if_neg c5] at H; exact absurd H (by simp)
   ·
    rw [if_neg c4] at H; have c4b0 : decide (x7_1 < a2) = false := decide_eq_false c4; clear c4; obtain rfl := Option.some.inj H; go_wp2; go_ret; exact ⟨by first | rfl | (simp [errW_none, errW_some] <;> rfl) | (simp [*, errW_none, errW_some] <;> rfl), by repeat (first | (with_reducible first | exact HB.out | apply below_alloc | apply pw_below_drewN | apply below_drew1) | exact HB.out)⟩
theorem IsWk.put2 {w0 w : World} {gb c n : Nat} {A : Option Addr} {s : WkS} {vl vc vs : Value} {a4 a5 a6 : Int} (h1 : w.heap[gb]? = some (.cells #[.slice A n c, vl, vc, vs, .int .i64 a4, .int .i64 a5, .int .i64 a6] 53 (0, 0))) (hL : Kd.R (Kd.int .i64) 3 w w0.heap.size (fun k => some k ≠ vc.ownBlock) vl s.lv) (hC : Kd.R (Kd.int .i64) 3 w w0.heap.size (fun k => some k ≠ vl.ownBlock) vc s.cl)
  (hbg : w0.heap.size ≤ gb) (hB : Below w0.heap.size w0 w) (m j : Nat) (u : Value) (j2 : Nat) (u2 vs' : Value) (hS : Kd.R k74 74 w w0.heap.size (fun _ => True) vs' s.st) (hj : ((#[.slice A n c, vl, vc, vs, .int .i64 a4, .int .i64 a5, .int .i64 a6] : Array Value).setIfInBounds j u).setIfInBounds j2 u2 = #[.slice A n c, vl, vc, vs', .int .i64 s.lost, .int .i64 s.sk, .int .i64 s.al]) :
  IsWk (((w.drewN m).setCell ⟨gb, j, none⟩ u).setCell ⟨gb, j2, none⟩ u2) w0.heap.size gb A c n s ∧ Below w0.heap.size w0 (((w.drewN m).setCell ⟨gb, j, none⟩ u).setCell ⟨gb, j2, none⟩ u2) := by
 have h1' : (w.drewN m).heap[gb]? = some (.cells #[.slice A n c, vl, vc, vs, .int .i64 a4, .int .i64 a5, .int .i64 a6] 53 (0, 0)) := h1
 have h2 := blk_set h1' j u
 have h3 := blk_set h2 j2 u2
 rw [hj] at h3
 exact ⟨⟨vl, vc, vs', h3, Kd.R_set (Kd.R_set (Kd.R_drewN hL m) h1' (by decide) j _) h2 (by decide) j2 _, Kd.R_set (Kd.R_set (Kd.R_drewN hC m) h1' (by decide) j _) h2 (by decide) j2 _, Kd.R_set (Kd.R_set (Kd.R_drewN hS m) h1' (by decide) j _) h2 (by decide) j2 _, hbg⟩, ((pw_below_drewN hB m).setCell (p := ⟨gb, j, none⟩) hbg _).setCell (p := ⟨gb, j2, none⟩) hbg _⟩
theorem ends_calls (w0 w : World) (gb : Nat) (A : Option Addr) (c n : Nat) (s : WkS) (hB : Below w0.heap.size w0 w) (hs : IsWk w w0.heap.size gb A c n s) (hw : Wb s) (ha : s.al ≠ 0 → ∃ j, j < s.st.length ∧ (s.st.getD j z74).f2 = true) :
  Calls Try.prog 94 #[.pointer (some ⟨gb, 0, none⟩)] w fun e w' => e = .returned (.tuple #[]) ∧ IsWk w' w0.heap.size gb A c n (endsS s) ∧ Below w0.heap.size w0 w' := by
 obtain ⟨vl, vc, vs, h1, hL, hC, hS, hbg⟩ := hs
 obtain ⟨As, cs, hvs, hlcs, hSC⟩ := Kd.R_reads hS
 subst hvs
 obtain ⟨b1, b2, b3, b4, b5, b6, b7, b8⟩ := hw
 have hc3 := (blk_cell h1 3).trans (show (#[.slice A n c, vl, vc, .slice As s.st.length cs, .int .i64 s.lost, .int .i64 s.sk, .int .i64 s.al] : Array Value)[3]? = some (.slice As s.st.length cs) from rfl)
 have hc4 := (blk_cell h1 4).trans (show (#[.slice A n c, vl, vc, .slice As s.st.length cs, .int .i64 s.lost, .int .i64 s.sk, .int .i64 s.al] : Array Value)[4]? = some (.int .i64 s.lost) from rfl)
 have hc5 := (blk_cell h1 5).trans (show (#[.slice A n c, vl, vc, .slice As s.st.length cs, .int .i64 s.lost, .int .i64 s.sk, .int .i64 s.al] : Array Value)[5]? = some (.int .i64 s.sk) from rfl)
 have hc6 := (blk_cell h1 6).trans (show (#[.slice A n c, vl, vc, .slice As s.st.length cs, .int .i64 s.lost, .int .i64 s.sk, .int .i64 s.al] : Array Value)[6]? = some (.int .i64 s.al) from rfl)
 obtain ⟨ad, e1, y0, y1, y2⟩ := at_T74 hSC ((s.st.length - 1 : Nat) : Int) (by omega) (by omega)
 subst e1
 rw [Int.toNat_natCast] at y0 y1 y2
 have hrd : rd_T74 s.st ((s.st.length - 1 : Nat) : Int) = s.top := by simp only [rd_T74, Int.toNat_natCast, WkS.top]
 rw [hrd] at y0 y1 y2
 clear hrd
 have hf3 := blk_frozen h1 3
 have hf4 := blk_frozen h1 4
 have hf5 := blk_frozen h1 5
 have hf6 := blk_frozen h1 6
 have hw1 : IntKind.i64.wrap ((s.st.length : Int) - 1) = (s.st.length : Int) - 1 := IntWalk.i64_in _ (by omega)
 have hw2 : ((s.st.length : Int) - 1).toNat = s.st.length - 1 := by omega
 have hw3 : 0 ≤ (s.st.length : Int) - 1 := by omega
 have hw4 : (s.st.length : Int) - 1 < (s.st.length : Int) := by omega
 have hw5 : (s.st.length : Int) - 1 ≤ (s.st.length : Int) := by omega
 have H1 := az h1
 have HL := az hL
 have HC := az hC
 have HS := az hS
 have HB := az hB
 have HG := az hbg
 have HLC := az hlcs
 clear h1 hL hC hS hB hbg hSC hlcs
 have HA := az ha
 clear ha y0 y1 y2
 unfold endsS
 by_cases c1 : 0 < s.lost
 ·
  rw [if_pos c1]
  have c1b : decide (0 < s.lost) = true := decide_eq_true c1
  clear c1
  go_enter Try.func94, Try.ntmps94
  go_wp2
  ((try simp only [Exit.inBlock, Exit.then]); refine bodyPost_ret (results_none rfl _ _ _) rfl ?_)
  exact ⟨rfl, IsWk.put (s := { s with lost := s.lost - 1 }) H1.out HL.out HC.out HG.out HB.out 0 4 (.int .i64 (s.lost - 1)) _ HS.out (by simp)⟩
 ·
  rw [if_neg c1]
  have c1b : decide (0 < s.lost) = false := decide_eq_false c1
  clear c1
  by_cases c2 : s.al = 0
  ·
   rw [if_pos c2]
   have c2b : (s.al == 0) = true := beq_iff_eq.mpr c2
   clear c2
   go_enter Try.func94, Try.ntmps94
   go_wp2
   ((try simp only [Exit.inBlock, Exit.then]); refine bodyPost_ret (results_none rfl _ _ _) rfl ?_)
   exact ⟨rfl, IsWk.same H1.out HL.out HC.out HG.out HB.out 0 HS.out⟩
  ·
   rw [if_neg c2]
   have c2b : (s.al == 0) = false := beq_eq_false_iff_ne.mpr c2
   have HX := az (HA.out c2)
   have HWB := az (show 0 ≤ s.lost ∧ s.lost ≤ 1000 ∧ 1 ≤ s.al ∧ s.al ≤ 1000 ∧ s.st.length ≤ 1000 by omega)
   clear c2
   go_enter Try.func94, Try.ntmps94
   go_wp2
   clear hc3 hc4 hc5 hc6 hf3 hf4 hf5 hf6 hw1 hw2 hw3 hw4 hw5 c1b c2b
   go_loopg [23] s.st.length (fun gg _ wr => ∃ m : Nat, Aside0 (1 ≤ m ∧ m ≤ s.st.length) ∧ m ≤ gg ∧ Aside0 (popA s.st m = popA s.st s.st.length) ∧ Aside0 (∃ j, j < m ∧ (s.st.getD j z74).f2 = true) ∧ Aside0 (IsWk wr w0.heap.size gb A c n { s with sk := 0, st := s.st.take m }) ∧ Aside0 (Below w0.heap.size w0 wr))
   case atStart =>
    have h := IsWk.put (s := { s with sk := 0, st := s.st.take s.st.length }) H1.out HL.out HC.out HG.out HB.out 0 5 (.int .i64 0) _ (by rw [List.take_length]; exact HS.out) (by simp)
    exact ⟨s.st.length, ⟨b7, Nat.le_refl _⟩, Nat.le_refl _, ⟨rfl⟩, HX, ⟨h.1⟩, ⟨h.2⟩⟩
   case round =>
    clear H1 HL HC HS HB HX
    obtain ⟨m, HM, hmg, HP, HX, HS1, HB⟩ := hrel
    obtain ⟨s1, hs1⟩ : ∃ s1 : WkS, s1 = { s with sk := 0, st := s.st.take m } := ⟨_, rfl⟩
    rw [← hs1] at HS1
    have HW1 := az (show Wb s1 by
     have a1 := HWB.out
     have a2 := HM.out
     rw [hs1]
     refine ⟨?_, ?_, ?_, ?_, ?_, ?_, ?_, ?_⟩ <;> simp only [List.length_take] <;> omega)
    have HSL := az (show s1.st.length = m by have a2 := HM.out; rw [hs1]; simp only [List.length_take]; omega)
    have HTP := az (show s1.top = s.st.getD (m - 1) z74 by
     have a2 := HM.out
     unfold WkS.top
     rw [HSL.out, hs1]
     simp only [List.getD_eq_getElem?_getD]
     rw [List.getElem?_take, if_pos (by omega)])
    have HE1 := az hs1
    have hm1 := HM.out
    clear hs1 b1 b2 b3 b4 b5 b6 b7 b8
    obtain ⟨vl, vc, vs, h1, hL, hC, hS, hbg⟩ := HS1.out
    obtain ⟨As, cs, hvs, hlcs, hSC⟩ := Kd.R_reads hS
    subst hvs
    obtain ⟨b1, b2, b3, b4, b5, b6, b7, b8⟩ := HW1.out
    have hc3 := (blk_cell h1 3).trans (show (#[.slice A n c, vl, vc, .slice As s1.st.length cs, .int .i64 s1.lost, .int .i64 s1.sk, .int .i64 s1.al] : Array Value)[3]? = some (.slice As s1.st.length cs) from rfl)
    have hc4 := (blk_cell h1 4).trans (show (#[.slice A n c, vl, vc, .slice As s1.st.length cs, .int .i64 s1.lost, .int .i64 s1.sk, .int .i64 s1.al] : Array Value)[4]? = some (.int .i64 s1.lost) from rfl)
    have hc5 := (blk_cell h1 5).trans (show (#[.slice A n c, vl, vc, .slice As s1.st.length cs, .int .i64 s1.lost, .int .i64 s1.sk, .int .i64 s1.al] : Array Value)[5]? = some (.int .i64 s1.sk) from rfl)
    have hc6 := (blk_cell h1 6).trans (show (#[.slice A n c, vl, vc, .slice As s1.st.length cs, .int .i64 s1.lost, .int .i64 s1.sk, .int .i64 s1.al] : Array Value)[6]? = some (.int .i64 s1.al) from rfl)
    obtain ⟨ad, e1, y0, y1, y2⟩ := at_T74 hSC ((s1.st.length - 1 : Nat) : Int) (by omega) (by omega)
    subst e1
    rw [Int.toNat_natCast] at y0 y1 y2
    have hrd : rd_T74 s1.st ((s1.st.length - 1 : Nat) : Int) = s1.top := by simp only [rd_T74, Int.toNat_natCast, WkS.top]
    rw [hrd] at y0 y1 y2
    clear hrd
    have hf3 := blk_frozen h1 3
    have hf4 := blk_frozen h1 4
    have hf5 := blk_frozen h1 5
    have hf6 := blk_frozen h1 6
    have hw1 : IntKind.i64.wrap ((s1.st.length : Int) - 1) = (s1.st.length : Int) - 1 := IntWalk.i64_in _ (by omega)
    have hw2 : ((s1.st.length : Int) - 1).toNat = s1.st.length - 1 := by omega
    have hw3 : 0 ≤ (s1.st.length : Int) - 1 := by omega
    have hw4 : (s1.st.length : Int) - 1 < (s1.st.length : Int) := by omega
    have hw5 : (s1.st.length : Int) - 1 ≤ (s1.st.length : Int) := by omega
    have H1 := az h1
    have HL := az hL
    have HC := az hC
    have HS := az hS
    have HG := az hbg
    have HLC := az hlcs
    clear h1 hL hC hS hbg hSC hlcs
    obtain ⟨tp, htp⟩ : ∃ tp, s1.top = tp := ⟨_, rfl⟩
    rw [htp] at y0 y1 y2
    rw [htp] at HTP
    have hsl := HSL.out
    have hcut : ∀ W : World, (Instr.slice 51 (.slice (some ad) s1.st.length cs) none (some (.int .i64 ((s1.st.length : Int) - 1))) none).run Try.prog W = .ok (.slice (some ad) (s1.st.length - 1) cs) W := by
     intro W
     obtain ⟨i0, hi0, _, _, _⟩ := info_parts infoT
     have h := cut_to (P := Try.prog) 51 74 .i64 Try.underlying51 hi0 (some ad) s1.st.length cs ((s1.st.length : Int) - 1) (by omega) (by omega) HLC.out W
     rwa [show ((s1.st.length : Int) - 1).toNat = s1.st.length - 1 by omega] at h
    have HTk := az (Kd.R_take (m := s1.st.length - 1) HS.out (by omega))
    have HST := az (show s1.st = s.st.take m by rw [HE1.out])
    clear htp hsl hm1
    cases h2 : tp.f2 with
    | false =>
     rw [h2] at y2
     have HM2 := az (show 2 ≤ m by
      obtain ⟨j, hj, hj2⟩ := HX.out
      by_cases e : j = m - 1
      · rw [e, ← HTP.out, h2] at hj2; cases hj2
      · omega)
     have H2 := az h2
     clear h2
     go_wp2
     go_quiet (fail)
     go_wp2
     go_region
     go_wp2
     go_roundg (m - 1)
     case measure => have a := HM2.out; omega
     case rel =>
      have a := HM2.out
      have a3 := HM.out
      have hS' : Kd.R k74 74 wr w0.heap.size (fun _ => True) (.slice (some ad) (s1.st.length - 1) cs) (s.st.take (m - 1)) := by
       have h := HTk.out
       rw [HST.out, List.take_take] at h
       rw [HST.out]
       rw [show min ((s.st.take m).length - 1) m = m - 1 by rw [List.length_take]; omega] at h
       exact h
      have h := IsWk.put (s := { s with sk := 0, st := s.st.take (m - 1) }) H1.out (by rw [HE1.out] at HL; exact HL.out) (by rw [HE1.out] at HC; exact HC.out) HG.out HB.out (nq + 1) 3 (.slice (some ad) (s1.st.length - 1) cs) _ hS' (by rw [HE1.out]; simp)
      refine ⟨m - 1, ⟨by omega, by omega⟩, Nat.le_refl _, ⟨?_⟩, ⟨?_⟩, ⟨h.1⟩, ⟨h.2⟩⟩
      · rw [← HP.out, show m = (m - 1) + 1 by omega, popA, ← HTP.out, H2.out]; rfl
      ·
       obtain ⟨j, hj, hj2⟩ := HX.out
       refine ⟨j, ?_, hj2⟩
       by_cases e : j = m - 1
       · rw [e, ← HTP.out, H2.out] at hj2; cases hj2
       · omega
    | true =>
     rw [h2] at y2
     have H2 := az h2
     clear h2
     go_wp2
     go_quiet (fail)
     go_wp2
     go_region
     go_wp2
     go_end0
     have h := IsWk.put2 (s := { s with sk := 0, st := popA s.st s.st.length, al := s.al - 1 }) H1.out (by rw [HE1.out] at HL; exact HL.out) (by rw [HE1.out] at HC; exact HC.out) HG.out HB.out (nq + 1) 3 (.slice (some ad) (s1.st.length - 1) cs) 6 (.int .i64 (s1.al - 1)) (.slice (some ad) (s1.st.length - 1) cs) (by
      have a := HM.out
      have h := HTk.out
      rw [HST.out, List.take_take] at h
      rw [HST.out]
      rw [show min ((s.st.take m).length - 1) m = m - 1 by rw [List.length_take]; omega] at h
      show Kd.R k74 74 wr w0.heap.size (fun _ => True) _ (popA s.st s.st.length)
      rw [← HP.out, show m = (m - 1) + 1 by omega, popA, ← HTP.out, H2.out, if_pos rfl]
      rw [show m - 1 + 1 = m by omega]
      exact h) (by rw [HE1.out]; simp)
     exact ⟨rfl, h⟩
def letterF (k : Nat) (rs : List Int) (i : Nat) (s : WkS) : Option WkS :=
 (spec_RuneBidi.f k (rs.getD i 0)).bind fun c =>
  if c = 15 then some (pushS true 0 false s) else if c = 14 then some (pushS false 0 false s) else if c = 18 then some (pushS true 2 false s) else if c = 17 then some (pushS false 1 false s)
  else if c = 16 then some (dropsS s) else if c = 10 then some s else if c = 20 then some (pushS true 0 true (hereS i 20 s)) else if c = 19 then some (pushS false 0 true (hereS i 19 s))
  else if c = 21 then (spec_l3Mate.f k rs i).bind fun m => (spec_l3Base.f k rs ((i : Int) + 1) m).bind fun b => some (pushS (b == 1) 0 true (hereS i 21 s))
  else if c = 22 then some (hereS i 22 (endsS s)) else some (hereS i c s)
theorem IsWk.cell0 {w : World} {base gb c n : Nat} {A : Option Addr} {s : WkS} (h : IsWk w base gb A c n s) : w.cell? ⟨gb, 0, none⟩ = some (.slice A n c) := by
 obtain ⟨vl, vc, vs, h1, _⟩ := h
 exact (blk_cell h1 0).trans rfl
def SL (w0 : World) (gb : Nat) (A : Option Addr) (c n : Nat) (s : WkS) (W : World) : Prop := IsWk W w0.heap.size gb A c n s ∧ Below w0.heap.size w0 W
theorem keepB {w0 W W' : World} {gb c n : Nat} {A : Option Addr} {s : WkS} (h : W.cell? ⟨gb, 0, none⟩ = some (.slice A n c) ∧ Aside0 (SL w0 gb A c n s W)) (hb : Below W.heap.size W W') : W'.cell? ⟨gb, 0, none⟩ = some (.slice A n c) ∧ Aside0 (SL w0 gb A c n s W') :=
 ⟨(h.2.out.1.below hb).cell0, ⟨h.2.out.1.below hb, below_then h.2.out.2 h.2.out.2.size hb⟩⟩
theorem keepO {w0 W : World} {gb c n : Nat} {A : Option Addr} {s : WkS} (h : W.cell? ⟨gb, 0, none⟩ = some (.slice A n c) ∧ Aside0 (SL w0 gb A c n s W)) : Below w0.heap.size w0 W := h.2.out.2
theorem keepD {w0 W : World} {gb c n : Nat} {A : Option Addr} {s : WkS} (h : W.cell? ⟨gb, 0, none⟩ = some (.slice A n c) ∧ Aside0 (SL w0 gb A c n s W)) : W.drew.cell? ⟨gb, 0, none⟩ = some (.slice A n c) ∧ Aside0 (SL w0 gb A c n s W.drew) := keepB h (below_drew (Below.refl _ _))
theorem pushS_lens (r : Bool) (d : Int) (a : Bool) (s : WkS) : (pushS r d a s).lv = s.lv ∧ (pushS r d a s).cl = s.cl := by
 unfold pushS
 repeat' split
 all_goals exact ⟨rfl, rfl⟩
theorem endsS_lens (s : WkS) : (endsS s).lv = s.lv ∧ (endsS s).cl = s.cl := by
 unfold endsS
 repeat' split
 all_goals exact ⟨rfl, rfl⟩
theorem letter_calls (k : Nat) (w0 w : World) (gb : Nat) (A : Option Addr) (c : Nat) (rs : List Int) (s s' : WkS) (i : Nat) (hB : Below w0.heap.size w0 w) (hs : IsWk w w0.heap.size gb A c rs.length s) (hw : Wb s) (hw2 : Wb (endsS s)) (ha : s.al ≠ 0 → ∃ j, j < s.st.length ∧ (s.st.getD j z74).f2 = true)
  (hr : Kd.C (Kd.int .i64) w0 A rs.length rs) (hrc : rs.length ≤ c) (hi : i < rs.length) (hi1 : i < 1000) (hl : s.lv.length = rs.length) (hcl : s.cl.length = rs.length) (h : letterF k rs i s = some s') :
  Calls Try.prog 72 #[.pointer (some ⟨gb, 0, none⟩), .int .i64 i] w fun e w' => e = .returned (.tuple #[]) ∧ IsWk w' w0.heap.size gb A c rs.length s' ∧ Below w0.heap.size w0 w' := by
 unfold letterF at h
 obtain ⟨cc, hcc, h⟩ := Option.bind_eq_some_iff.mp h
 obtain ⟨ad, e1, hx⟩ := Kd.at_int (Kd.C_below hr hB) (i : Int) (by omega) (by omega)
 subst e1
 rw [Int.toNat_natCast, show rd rs (i : Int) = rs.getD i 0 by simp [rd]] at hx
 generalize hy : rs.getD i 0 = y at hx hcc
 have hc0 := hs.cell0
 have hltz : (i : Int) < (rs.length : Int) := by omega
 have HCC := az hcc
 have HS := az hs
 have HB := az hB
 have HW := az hw
 have HW2 := az hw2
 have HA := az ha
 have HR := az hr
 have HRC := az hrc
 have HI := az (show i < s.lv.length ∧ i < s.cl.length ∧ i < 1000 by omega)
 have HN := az hi
 clear hcc hs hB hw hw2 ha hr hrc hl hcl hi hy
 by_cases q15 : cc = 15
 ·
  subst q15
  rw [if_pos rfl] at h
  obtain rfl := Option.some.inj h
  clear h
  go_enter Try.func72, Try.ntmps72
  go_wp2_with (first | (go_at_call 20; refine (spec_RuneBidi.calls k y 15 _ HCC.out).mono ?_; rintro e w1 ⟨rfl, hb⟩; have n0 := az (HS.out.below hb); have n1 := az (below_then HB.out HB.out.size hb); have hc0 := n0.out.cell0; clear HS HB hb; have HS := n0; have HB := n1; clear n0 n1) | (go_at_call 89; refine (push_calls w0 _ gb _ c rs.length s true 0 false HB.out HS.out HW.out).mono ?_; rintro e w2 ⟨rfl, hs2, hb2⟩; have n0 := az hs2; have n1 := az hb2; clear HS HB hs2 hb2; have HS := n0; have HB := n1; clear n0 n1))
  go_end0
  exact ⟨rfl, HS.out, HB.out⟩
 have b15 : (cc == 15) = false := beq_eq_false_iff_ne.mpr q15
 by_cases q14 : cc = 14
 ·
  subst q14
  rw [if_neg q15] at h
  rw [if_pos rfl] at h
  obtain rfl := Option.some.inj h
  clear h q15
  go_enter Try.func72, Try.ntmps72
  go_wp2_with (first | (go_at_call 20; refine (spec_RuneBidi.calls k y 14 _ HCC.out).mono ?_; rintro e w1 ⟨rfl, hb⟩; have n0 := az (HS.out.below hb); have n1 := az (below_then HB.out HB.out.size hb); have hc0 := n0.out.cell0; clear HS HB hb; have HS := n0; have HB := n1; clear n0 n1) | (go_at_call 89; refine (push_calls w0 _ gb _ c rs.length s false 0 false HB.out HS.out HW.out).mono ?_; rintro e w2 ⟨rfl, hs2, hb2⟩; have n0 := az hs2; have n1 := az hb2; clear HS HB hs2 hb2; have HS := n0; have HB := n1; clear n0 n1))
  go_end0
  exact ⟨rfl, HS.out, HB.out⟩
 have b14 : (cc == 14) = false := beq_eq_false_iff_ne.mpr q14
 by_cases q18 : cc = 18
 ·
  subst q18
  rw [if_neg q15] at h
  rw [if_neg q14] at h
  rw [if_pos rfl] at h
  obtain rfl := Option.some.inj h
  clear h q15 q14
  go_enter Try.func72, Try.ntmps72
  go_wp2_with (first | (go_at_call 20; refine (spec_RuneBidi.calls k y 18 _ HCC.out).mono ?_; rintro e w1 ⟨rfl, hb⟩; have n0 := az (HS.out.below hb); have n1 := az (below_then HB.out HB.out.size hb); have hc0 := n0.out.cell0; clear HS HB hb; have HS := n0; have HB := n1; clear n0 n1) | (go_at_call 89; refine (push_calls w0 _ gb _ c rs.length s true 2 false HB.out HS.out HW.out).mono ?_; rintro e w2 ⟨rfl, hs2, hb2⟩; have n0 := az hs2; have n1 := az hb2; clear HS HB hs2 hb2; have HS := n0; have HB := n1; clear n0 n1))
  go_end0
  exact ⟨rfl, HS.out, HB.out⟩
 have b18 : (cc == 18) = false := beq_eq_false_iff_ne.mpr q18
 by_cases q17 : cc = 17
 ·
  subst q17
  rw [if_neg q15] at h
  rw [if_neg q14] at h
  rw [if_neg q18] at h
  rw [if_pos rfl] at h
  obtain rfl := Option.some.inj h
  clear h q15 q14 q18
  go_enter Try.func72, Try.ntmps72
  go_wp2_with (first | (go_at_call 20; refine (spec_RuneBidi.calls k y 17 _ HCC.out).mono ?_; rintro e w1 ⟨rfl, hb⟩; have n0 := az (HS.out.below hb); have n1 := az (below_then HB.out HB.out.size hb); have hc0 := n0.out.cell0; clear HS HB hb; have HS := n0; have HB := n1; clear n0 n1) | (go_at_call 89; refine (push_calls w0 _ gb _ c rs.length s false 1 false HB.out HS.out HW.out).mono ?_; rintro e w2 ⟨rfl, hs2, hb2⟩; have n0 := az hs2; have n1 := az hb2; clear HS HB hs2 hb2; have HS := n0; have HB := n1; clear n0 n1))
  go_end0
  exact ⟨rfl, HS.out, HB.out⟩
 have b17 : (cc == 17) = false := beq_eq_false_iff_ne.mpr q17
 by_cases q16 : cc = 16
 ·
  subst q16
  rw [if_neg q15] at h
  rw [if_neg q14] at h
  rw [if_neg q18] at h
  rw [if_neg q17] at h
  rw [if_pos rfl] at h
  obtain rfl := Option.some.inj h
  clear h q15 q14 q18 q17
  go_enter Try.func72, Try.ntmps72
  go_wp2_with (first | (go_at_call 20; refine (spec_RuneBidi.calls k y 16 _ HCC.out).mono ?_; rintro e w1 ⟨rfl, hb⟩; have n0 := az (HS.out.below hb); have n1 := az (below_then HB.out HB.out.size hb); have hc0 := n0.out.cell0; clear HS HB hb; have HS := n0; have HB := n1; clear n0 n1) | (go_at_call 90; refine (drops_calls w0 _ gb _ c rs.length s HB.out HS.out HW.out).mono ?_; rintro e w2 ⟨rfl, hs2, hb2⟩; have n0 := az hs2; have n1 := az hb2; clear HS HB hs2 hb2; have HS := n0; have HB := n1; clear n0 n1))
  go_end0
  exact ⟨rfl, HS.out, HB.out⟩
 have b16 : (cc == 16) = false := beq_eq_false_iff_ne.mpr q16
 by_cases q10 : cc = 10
 ·
  subst q10
  rw [if_neg q15] at h
  rw [if_neg q14] at h
  rw [if_neg q18] at h
  rw [if_neg q17] at h
  rw [if_neg q16] at h
  rw [if_pos rfl] at h
  obtain rfl := Option.some.inj h
  clear h q15 q14 q18 q17 q16
  go_enter Try.func72, Try.ntmps72
  go_wp2_with (first | (go_at_call 20; refine (spec_RuneBidi.calls k y 10 _ HCC.out).mono ?_; rintro e w1 ⟨rfl, hb⟩; have n0 := az (HS.out.below hb); have n1 := az (below_then HB.out HB.out.size hb); have hc0 := n0.out.cell0; clear HS HB hb; have HS := n0; have HB := n1; clear n0 n1))
  go_end0
  exact ⟨rfl, HS.out, HB.out⟩
 have b10 : (cc == 10) = false := beq_eq_false_iff_ne.mpr q10
 by_cases q20 : cc = 20
 ·
  subst q20
  rw [if_neg q15] at h
  rw [if_neg q14] at h
  rw [if_neg q18] at h
  rw [if_neg q17] at h
  rw [if_neg q16] at h
  rw [if_neg q10] at h
  rw [if_pos rfl] at h
  obtain rfl := Option.some.inj h
  clear h q15 q14 q18 q17 q16 q10
  go_enter Try.func72, Try.ntmps72
  go_wp2_with (first | (go_at_call 20; refine (spec_RuneBidi.calls k y 20 _ HCC.out).mono ?_; rintro e w1 ⟨rfl, hb⟩; have n0 := az (HS.out.below hb); have n1 := az (below_then HB.out HB.out.size hb); have hc0 := n0.out.cell0; clear HS HB hb; have HS := n0; have HB := n1; clear n0 n1) | (go_at_call 91; refine (here_calls w0 _ gb _ c rs.length s i 20 HB.out HS.out HW.out HI.out.1 HI.out.2.1 HI.out.2.2).mono ?_; rintro e w3 ⟨rfl, hs2, hb2⟩; have n0 := az hs2; have n1 := az hb2; have hc0 := n0.out.cell0; clear HS HB hs2 hb2; have HS := n0; have HB := n1; clear n0 n1) | (go_at_call 89; refine (push_calls w0 _ gb _ c rs.length (hereS i 20 s) true 0 true HB.out HS.out (show Wb (hereS i 20 s) from HW.out)).mono ?_; rintro e w2 ⟨rfl, hs2, hb2⟩; have n0 := az hs2; have n1 := az hb2; clear HS HB hs2 hb2; have HS := n0; have HB := n1; clear n0 n1))
  go_end0
  exact ⟨rfl, HS.out, HB.out⟩
 have b20 : (cc == 20) = false := beq_eq_false_iff_ne.mpr q20
 by_cases q19 : cc = 19
 ·
  subst q19
  rw [if_neg q15] at h
  rw [if_neg q14] at h
  rw [if_neg q18] at h
  rw [if_neg q17] at h
  rw [if_neg q16] at h
  rw [if_neg q10] at h
  rw [if_neg q20] at h
  rw [if_pos rfl] at h
  obtain rfl := Option.some.inj h
  clear h q15 q14 q18 q17 q16 q10 q20
  go_enter Try.func72, Try.ntmps72
  go_wp2_with (first | (go_at_call 20; refine (spec_RuneBidi.calls k y 19 _ HCC.out).mono ?_; rintro e w1 ⟨rfl, hb⟩; have n0 := az (HS.out.below hb); have n1 := az (below_then HB.out HB.out.size hb); have hc0 := n0.out.cell0; clear HS HB hb; have HS := n0; have HB := n1; clear n0 n1) | (go_at_call 91; refine (here_calls w0 _ gb _ c rs.length s i 19 HB.out HS.out HW.out HI.out.1 HI.out.2.1 HI.out.2.2).mono ?_; rintro e w3 ⟨rfl, hs2, hb2⟩; have n0 := az hs2; have n1 := az hb2; have hc0 := n0.out.cell0; clear HS HB hs2 hb2; have HS := n0; have HB := n1; clear n0 n1) | (go_at_call 89; refine (push_calls w0 _ gb _ c rs.length (hereS i 19 s) false 0 true HB.out HS.out (show Wb (hereS i 19 s) from HW.out)).mono ?_; rintro e w2 ⟨rfl, hs2, hb2⟩; have n0 := az hs2; have n1 := az hb2; clear HS HB hs2 hb2; have HS := n0; have HB := n1; clear n0 n1))
  go_end0
  exact ⟨rfl, HS.out, HB.out⟩
 have b19 : (cc == 19) = false := beq_eq_false_iff_ne.mpr q19
 by_cases q21 : cc = 21
 ·
  subst q21
  rw [if_neg q15] at h
  rw [if_neg q14] at h
  rw [if_neg q18] at h
  rw [if_neg q17] at h
  rw [if_neg q16] at h
  rw [if_neg q10] at h
  rw [if_neg q20] at h
  rw [if_neg q19] at h
  rw [if_pos rfl] at h
  obtain ⟨m, hm, h⟩ := Option.bind_eq_some_iff.mp h
  obtain ⟨b, hbb, h⟩ := Option.bind_eq_some_iff.mp h
  obtain rfl := Option.some.inj h
  have HM := az hm
  have HBB := az hbb
  have hw1 : IntKind.i64.wrap ((i : Int) + 1) = (i : Int) + 1 := IntWalk.i64_in _ (by omega)
  clear h hm hbb q15 q14 q18 q17 q16 q10 q20 q19
  go_enter Try.func72, Try.ntmps72
  go_wp2_with (first | (go_at_call 20; refine (spec_RuneBidi.calls k y 21 _ HCC.out).mono ?_; rintro e w1 ⟨rfl, hb⟩; have n0 := az (HS.out.below hb); have n1 := az (below_then HB.out HB.out.size hb); have hc0 := n0.out.cell0; clear HS HB hb; have HS := n0; have HB := n1; clear n0 n1) | (go_at_call 91; refine (here_calls w0 _ gb _ c rs.length s i 21 HB.out HS.out HW.out HI.out.1 HI.out.2.1 HI.out.2.2).mono ?_; rintro e w3 ⟨rfl, hs2, hb2⟩; have n0 := az hs2; have n1 := az hb2; have hc0 := n0.out.cell0; clear HS HB hs2 hb2; have HS := n0; have HB := n1; clear n0 n1))
  have hk : w3.cell? ⟨gb, 0, none⟩ = some (.slice (some ad) rs.length c) ∧ Aside0 (SL w0 gb (some ad) c rs.length (hereS i 21 s) w3) := ⟨hc0, ⟨⟨HS.out, HB.out⟩⟩⟩
  clear hc0 HS HB
  go_region_held3 (fun W => W.cell? ⟨gb, 0, none⟩ = some (.slice (some ad) rs.length c) ∧ Aside0 (SL w0 gb (some ad) c rs.length (hereS i 21 s) W)) (first | assumption | (refine keepB ?_ (by assumption); assumption) | exact keepD (by assumption)) (first | (go_at_call 93; refine (spec_l3Mate.calls k _ _ rs (i : Int) m _ ?hC HRC.out HM.out).mono ?_; (case hC => exact Kd.C_below HR.out (keepO (gb := gb) (c := c) (n := rs.length) (A := some ad) (s := hereS i 21 s) (by assumption))); rintro e w' ⟨rfl, hb⟩) | (go_at_call 92; refine (spec_l3Base.calls k _ _ rs _ m b _ ?hC HRC.out HBB.out).mono ?_; (case hC => exact Kd.C_below HR.out (keepO (gb := gb) (c := c) (n := rs.length) (A := some ad) (s := hereS i 21 s) (by assumption))); rintro e w' ⟨rfl, hb⟩))
  obtain ⟨hcz, hz⟩ : w'.cell? ⟨gb, 0, none⟩ = some (.slice (some ad) rs.length c) ∧ Aside0 (SL w0 gb (some ad) c rs.length (hereS i 21 s) w') := by assumption
  have HS := az hz.out.1
  have HB := az hz.out.2
  clear hz
  go_wp2_with (go_at_call 89; refine (push_calls w0 _ gb _ c rs.length (hereS i 21 s) (b == 1) 0 true HB.out HS.out (show Wb (hereS i 21 s) from HW.out)).mono ?_; rintro e w2 ⟨rfl, hs2, hb2⟩; have n0 := az hs2; have n1 := az hb2; clear HS HB hs2 hb2; have HS := n0; have HB := n1; clear n0 n1)
  go_end0
  exact ⟨rfl, HS.out, HB.out⟩
 have b21 : (cc == 21) = false := beq_eq_false_iff_ne.mpr q21
 by_cases q22 : cc = 22
 ·
  subst q22
  rw [if_neg q15] at h
  rw [if_neg q14] at h
  rw [if_neg q18] at h
  rw [if_neg q17] at h
  rw [if_neg q16] at h
  rw [if_neg q10] at h
  rw [if_neg q20] at h
  rw [if_neg q19] at h
  rw [if_neg q21] at h
  rw [if_pos rfl] at h
  obtain rfl := Option.some.inj h
  clear h q15 q14 q18 q17 q16 q10 q20 q19 q21
  go_enter Try.func72, Try.ntmps72
  go_wp2_with (first | (go_at_call 20; refine (spec_RuneBidi.calls k y 22 _ HCC.out).mono ?_; rintro e w1 ⟨rfl, hb⟩; have n0 := az (HS.out.below hb); have n1 := az (below_then HB.out HB.out.size hb); have hc0 := n0.out.cell0; clear HS HB hb; have HS := n0; have HB := n1; clear n0 n1) | (go_at_call 94; refine (ends_calls w0 _ gb _ c rs.length s HB.out HS.out HW.out HA.out).mono ?_; rintro e w2 ⟨rfl, hs2, hb2⟩; have n0 := az hs2; have n1 := az hb2; clear HS HB hs2 hb2; have HS := n0; have HB := n1; clear n0 n1) | (go_at_call 91; refine (here_calls w0 _ gb _ c rs.length (endsS s) i 22 HB.out HS.out HW2.out (by rw [(endsS_lens s).1]; exact HI.out.1) (by rw [(endsS_lens s).2]; exact HI.out.2.1) HI.out.2.2).mono ?_; rintro e w3 ⟨rfl, hs2, hb2⟩; have n0 := az hs2; have n1 := az hb2; have hc0 := n0.out.cell0; clear HS HB hs2 hb2; have HS := n0; have HB := n1; clear n0 n1))
  go_end0
  exact ⟨rfl, HS.out, HB.out⟩
 have b22 : (cc == 22) = false := beq_eq_false_iff_ne.mpr q22
 rw [if_neg q15] at h
 rw [if_neg q14] at h
 rw [if_neg q18] at h
 rw [if_neg q17] at h
 rw [if_neg q16] at h
 rw [if_neg q10] at h
 rw [if_neg q20] at h
 rw [if_neg q19] at h
 rw [if_neg q21] at h
 rw [if_neg q22] at h
 obtain rfl := Option.some.inj h
 clear h q15 q14 q18 q17 q16 q10 q20 q19 q21 q22
 go_enter Try.func72, Try.ntmps72
 go_wp2_with (first | (go_at_call 20; refine (spec_RuneBidi.calls k y cc _ HCC.out).mono ?_; rintro e w1 ⟨rfl, hb⟩; have n0 := az (HS.out.below hb); have n1 := az (below_then HB.out HB.out.size hb); have hc0 := n0.out.cell0; clear HS HB hb; have HS := n0; have HB := n1; clear n0 n1) | (go_at_call 91; refine (here_calls w0 _ gb _ c rs.length s i cc HB.out HS.out HW.out HI.out.1 HI.out.2.1 HI.out.2.2).mono ?_; rintro e w3 ⟨rfl, hs2, hb2⟩; have n0 := az hs2; have n1 := az hb2; have hc0 := n0.out.cell0; clear HS HB hs2 hb2; have HS := n0; have HB := n1; clear n0 n1))
 go_end0
 exact ⟨rfl, HS.out, HB.out⟩
def cntA (st : List S74) : Nat := (st.filter (fun e => e.f2)).length
def InvW (n j : Nat) (s : WkS) : Prop := s.lv.length = n ∧ s.cl.length = n ∧ 0 ≤ s.lost ∧ s.lost ≤ j ∧ 0 ≤ s.sk ∧ s.sk ≤ j ∧ s.al = cntA s.st ∧ s.st.length ≤ j + 1 ∧ ∃ b r, s.st = b :: r ∧ b.f2 = false
theorem cntA_snoc (st : List S74) (e : S74) : cntA (st ++ [e]) = cntA st + (if e.f2 = true then 1 else 0) := by
 unfold cntA
 rw [List.filter_append, List.length_append]
 by_cases h : e.f2 = true <;> simp [h]
theorem take_step (st : List S74) (n : Nat) (h : n < st.length) : st.take (n + 1) = st.take n ++ [st.getD n z74] := by
 rw [List.take_succ_eq_append_getElem h]
 simp [List.getD_eq_getElem?_getD, h]
theorem cntA_le (st : List S74) : cntA st ≤ st.length := List.length_filter_le _ _
theorem cntA_some : ∀ (st : List S74), 0 < cntA st → ∃ j, j < st.length ∧ (st.getD j z74).f2 = true
 | [], h => by simp [cntA] at h
 | e :: r, h => by
  by_cases he : e.f2 = true
  · exact ⟨0, by simp, by simpa using he⟩
  ·
   have : 0 < cntA r := by simpa [cntA, he] using h
   obtain ⟨j, h1, h2⟩ := cntA_some r this
   exact ⟨j + 1, by simp; omega, by simpa using h2⟩
theorem popA_cnt (st : List S74) : ∀ n, n ≤ st.length → 0 < cntA (st.take n) → ∃ m, m < n ∧ popA st n = st.take m ∧ (st.getD m z74).f2 = true ∧ cntA (st.take n) = cntA (st.take m) + 1
 | 0, _, h => by simp [cntA] at h
 | n + 1, hn, h => by
  rw [take_step st n (by omega), cntA_snoc] at h ⊢
  by_cases e : (st.getD n z74).f2 = true
  · exact ⟨n, by omega, by rw [popA, if_pos e], e, by rw [if_pos e]⟩
  ·
   rw [if_neg e] at h ⊢
   obtain ⟨m, h1, h2, h3, h4⟩ := popA_cnt st n (by omega) (by omega)
   exact ⟨m, by omega, by rw [popA, if_neg e]; exact h2, h3, by omega⟩
theorem inv_push {n j : Nat} {s : WkS} (h : InvW n j s) (r : Bool) (d : Int) (a : Bool) : InvW n (j + 1) (pushS r d a s) := by
 obtain ⟨h1, h2, h3, h4, h5, h6, h7, h8, b, q, h9, h10⟩ := h
 unfold pushS
 split
 ·
  split
  ·
   refine ⟨h1, h2, h3, by simp only; omega, h5, by simp only; omega, ?_, by simp; omega, b, q ++ [_], by rw [h9]; rfl, h10⟩
   rw [cntA_snoc, if_pos rfl]; simp only; omega
  ·
   refine ⟨h1, h2, h3, by simp only; omega, h5, by simp only; omega, ?_, by simp; omega, b, q ++ [_], by rw [h9]; rfl, h10⟩
   rw [cntA_snoc, if_neg (by simp)]; simp only; omega
 ·
  split
  · exact ⟨h1, h2, by simp only; omega, by simp only; omega, h5, by simp only; omega, h7, by simp only; omega, b, q, h9, h10⟩
  ·
   split
   · exact ⟨h1, h2, by simp only; omega, by simp only; omega, by simp only; omega, by simp only; omega, h7, by simp only; omega, b, q, h9, h10⟩
   · exact ⟨h1, h2, h3, by omega, h5, by omega, h7, by omega, b, q, h9, h10⟩
theorem inv_here {n j : Nat} {s : WkS} (h : InvW n j s) (i : Nat) (c : Int) : InvW n j (hereS i c s) := by
 obtain ⟨h1, h2, h3⟩ := h
 exact ⟨by simpa [hereS] using h1, by simpa [hereS] using h2, h3⟩
theorem inv_more {n j : Nat} {s : WkS} (h : InvW n j s) : InvW n (j + 1) s := by
 obtain ⟨h1, h2, h3, h4, h5, h6, h7, h8, h9⟩ := h
 exact ⟨h1, h2, h3, by omega, h5, by omega, h7, by omega, h9⟩
theorem inv_drops {n j : Nat} {s : WkS} (h : InvW n j s) : InvW n (j + 1) (dropsS s) := by
 have h' := h
 obtain ⟨h1, h2, h3, h4, h5, h6, h7, h8, b, q, h9, h10⟩ := h
 unfold dropsS
 split
 · exact inv_more h'
 ·
  split
  · exact ⟨h1, h2, h3, by simp only; omega, by simp only; omega, by simp only; omega, h7, by simp only; omega, b, q, h9, h10⟩
  ·
   split
   ·
    rename_i hc
    obtain ⟨hc1, hc2⟩ := hc
    unfold WkS.top at hc1
    have e := take_step s.st (s.st.length - 1) (by omega)
    rw [show s.st.length - 1 + 1 = s.st.length by omega, List.take_length] at e
    refine ⟨h1, h2, h3, by simp only; omega, h5, by simp only; omega, ?_, by simp only [List.length_take]; omega, b, q.take (s.st.length - 2), ?_, h10⟩
    ·
     have := congrArg cntA e
     rw [cntA_snoc, hc1, if_neg (by simp)] at this
     simp only; omega
    ·
     rw [h9]
     have hl : (b :: q).length - 1 = ((b :: q).length - 2) + 1 := by rw [h9] at hc2; simp at hc2 ⊢; omega
     rw [hl, List.take_succ_cons]
   · exact inv_more h'
theorem inv_ends {n j : Nat} {s : WkS} (h : InvW n j s) : InvW n (j + 1) (endsS s) := by
 have h' := h
 obtain ⟨h1, h2, h3, h4, h5, h6, h7, h8, b, q, h9, h10⟩ := h
 unfold endsS
 split
 · exact ⟨h1, h2, by simp only; omega, by simp only; omega, h5, by simp only; omega, h7, by simp only; omega, b, q, h9, h10⟩
 ·
  split
  · exact inv_more h'
  ·
   obtain ⟨m, m1, m2, m3, m4⟩ := popA_cnt s.st s.st.length (Nat.le_refl _) (by rw [List.take_length]; omega)
   rw [List.take_length] at m4
   have hm : m ≠ 0 := by
    rintro rfl
    rw [h9] at m3
    simp [h10] at m3
   refine ⟨h1, h2, h3, by simp only; omega, by simp only; omega, by simp only; omega, by simp only [m2]; omega, by simp only [m2, List.length_take]; omega, b, q.take (m - 1), ?_, h10⟩
   simp only [m2]
   rw [h9, show m = (m - 1) + 1 by omega, List.take_succ_cons]
   rfl
theorem inv_letter {k n j i : Nat} {rs : List Int} {s s' : WkS} (h : InvW n j s) (hl : letterF k rs i s = some s') : InvW n (j + 2) s' := by
 unfold letterF at hl
 obtain ⟨c, _, hl⟩ := Option.bind_eq_some_iff.mp hl
 repeat' split at hl
 all_goals first
  | (obtain rfl := Option.some.inj hl; first | exact inv_more (inv_push h _ _ _) | exact inv_more (inv_drops h) | exact inv_more (inv_more h) | exact inv_more (inv_push (inv_here h _ _) _ _ _) | exact inv_here (inv_more (inv_ends h)) _ _ | exact inv_here (inv_more (inv_more h)) _ _)
  | (obtain ⟨m, _, hl⟩ := Option.bind_eq_some_iff.mp hl; obtain ⟨b, _, hl⟩ := Option.bind_eq_some_iff.mp hl; obtain rfl := Option.some.inj hl; exact inv_more (inv_push (inv_here h _ _) _ _ _))
def walkS (n : Nat) (base : Int) : WkS := ⟨List.replicate n 0, List.replicate n 0, [⟨base, 0, false⟩], 0, 0, 0⟩
def walkF (k : Nat) (rs : List Int) (base : Int) : Nat → Option WkS
 | 0 => some (walkS rs.length base)
 | j + 1 => (walkF k rs base j).bind fun s => letterF k rs j { s with lv := s.lv.set j (-1) }
theorem inv_walk {k : Nat} {rs : List Int} {base : Int} : ∀ (j : Nat) (s : WkS), walkF k rs base j = some s → InvW rs.length (2 * j) s
 | 0, s, h => by
  obtain rfl := Option.some.inj h
  exact ⟨by simp [walkS], by simp [walkS], by simp [walkS], by simp [walkS], by simp [walkS], by simp [walkS], by simp [walkS, cntA], by simp [walkS], _, _, rfl, rfl⟩
 | j + 1, s, h => by
  rw [walkF] at h
  obtain ⟨t, ht, h⟩ := Option.bind_eq_some_iff.mp h
  have ih := inv_walk j t ht
  refine inv_letter (s := { t with lv := t.lv.set j (-1) }) ?_ h
  obtain ⟨h1, h2⟩ := ih
  exact ⟨by simpa using h1, h2⟩
theorem inv_Wb {n j : Nat} {s : WkS} (h : InvW n j s) (hj : j < 900) : Wb s := by
 obtain ⟨h1, h2, h3, h4, h5, h6, h7, h8, b, q, h9, h10⟩ := h
 have := cntA_le s.st
 refine ⟨h3, by omega, h5, by omega, by omega, by omega, by rw [h9]; simp, by omega⟩
theorem IsWk.lv0 {w0 w : World} {gb c n : Nat} {A : Option Addr} {s : WkS} (h : IsWk w w0.heap.size gb A c n s) (hB : Below w0.heap.size w0 w) (i : Nat) (hi : i < s.lv.length) : ∃ gl cpl, w.cell? ⟨gb, 1, none⟩ = some (.slice (some ⟨gl, 0, none⟩) s.lv.length cpl) ∧ w.cell? ⟨gl, i, none⟩ = some (.int .i64 (s.lv.getD i 0)) ∧ w.frozen? ⟨gl, i, none⟩ = false ∧ ∀ x : Int, IsWk (w.setCell ⟨gl, i, none⟩ (.int .i64 x)) w0.heap.size gb A c n { s with lv := s.lv.set i x } ∧ Below w0.heap.size w0 (w.setCell ⟨gl, i, none⟩ (.int .i64 x)) := by
 obtain ⟨vl, vc, vs, h1, hL, hC, hS, hbg⟩ := h
 obtain ⟨gl, cpl, hvl, hg0, hgl, _⟩ := Kd.R_form hL (by omega)
 subst hvl
 obtain ⟨hx, hf⟩ := Kd.R_celln 0 hL (i : Int) (by omega) (by omega)
 rw [Int.toNat_natCast] at hx hf
 refine ⟨gl, cpl, (blk_cell h1 1).trans rfl, by simpa [rdOf] using hx, hf, fun x => ?_⟩
 have pL := Kd.R_putg hL (i : Int) x
 rw [Int.toNat_natCast] at pL
 exact ⟨⟨_, vc, vs, blk_grown h1 pL.2 (Kd.R_ne hL h1 (by decide)), pL.1, Kd.R_grown hC pL.2 (fun k hk => hk), Kd.R_over' hS (Kd.R_typed hL) (by decide) pL.2, hbg⟩, hB.setCell (p := ⟨gl, i, none⟩) hg0 _⟩
theorem R_madeI (W : World) (base n : Nat) (ok : Nat → Prop) (hb : base ≤ W.heap.size) (hok : ok W.heap.size) (hn : n ≤ 1000) : Kd.R (Kd.int .i64) 3 (W.alloc (.cells (madeCells #[.int .i64 0] n) 3)) base ok (.slice (some ⟨W.heap.size, 0, none⟩) n n) (List.replicate n 0) := by
 have h := own_made W base 3 .i64 n hb (by omega)
 have h' : (W.alloc (.cells (madeCells #[.int .i64 0] n) 3)).ownsRow base 3 1 (.slice (some ⟨W.heap.size, 0, none⟩) n n) (List.replicate n (0 : Int)).length (encs (Value.int .i64) (List.replicate n 0)) := by
  rw [List.length_replicate]; exact h
 exact Kd.R_of_own h' (fun k hk => by
  have : k = W.heap.size := by simpa [Value.ownBlock] using hk.symm
  subst this; exact hok)
theorem R_oneT (W : World) (base : Nat) (b : Int) (hb : base ≤ W.heap.size) : Kd.R k74 74 (W.alloc (.cells #[.int .i64 b, .int .i64 0, .bool false] 74)) base (fun _ => True) (.slice (some ⟨W.heap.size, 0, none⟩) 1 1) [⟨b, 0, false⟩] := by
 refine ⟨fun _ _ => trivial, [.int .i64 b, .int .i64 0, .bool false], ?_, ?_⟩
 · exact World.ownsRow_lit (base := base) (e := 74) (size := 3) W #[.int .i64 b, .int .i64 0, .bool false] 1 hb (by decide) rfl
 · exact Reps.c3 (k74_mkM _ _ _ (⟨b, 0, false⟩ : S74)) (Reps.none _ _)
theorem start_0 (w : World) (A : Option Addr) (c n : Nat) (base : Int) (hn : n ≤ 1000) : IsWk (((((w.alloc (.cells (madeCells #[.int .i64 0] n) 3)).alloc (.cells (madeCells #[.int .i64 0] n) 3)).alloc (.cells #[.int .i64 base, .int .i64 0, .bool false] 74)).alloc (.cells #[.slice A n c, .slice (some ⟨w.heap.size, 0, none⟩) n n, .slice (some ⟨w.heap.size + 1, 0, none⟩) n n, .slice (some ⟨w.heap.size + 1 + 1, 0, none⟩) 1 1, .int .i64 0, .int .i64 0, .int .i64 0] 53)).drew) w.heap.size (w.heap.size + 1 + 1 + 1) A c n (walkS n base) ∧ Below w.heap.size w (((((w.alloc (.cells (madeCells #[.int .i64 0] n) 3)).alloc (.cells (madeCells #[.int .i64 0] n) 3)).alloc (.cells #[.int .i64 base, .int .i64 0, .bool false] 74)).alloc (.cells #[.slice A n c, .slice (some ⟨w.heap.size, 0, none⟩) n n, .slice (some ⟨w.heap.size + 1, 0, none⟩) n n, .slice (some ⟨w.heap.size + 1 + 1, 0, none⟩) 1 1, .int .i64 0, .int .i64 0, .int .i64 0] 53)).drew) := by
 refine ⟨⟨(.slice (some ⟨w.heap.size, 0, none⟩) n n), (.slice (some ⟨w.heap.size + 1, 0, none⟩) n n), (.slice (some ⟨w.heap.size + 1 + 1, 0, none⟩) 1 1), ?_, ?_, ?_, ?_, by omega⟩, below_drew (below_alloc (below_alloc (below_alloc (below_alloc (Below.refl _ _) _) _) _) _)⟩
 ·
  have h := blk_new (((w.alloc (.cells (madeCells #[.int .i64 0] n) 3)).alloc (.cells (madeCells #[.int .i64 0] n) 3)).alloc (.cells #[.int .i64 base, .int .i64 0, .bool false] 74)) (.cells #[.slice A n c, .slice (some ⟨w.heap.size, 0, none⟩) n n, .slice (some ⟨w.heap.size + 1, 0, none⟩) n n, .slice (some ⟨w.heap.size + 1 + 1, 0, none⟩) 1 1, .int .i64 0, .int .i64 0, .int .i64 0] 53)
  rw [show ((((w.alloc (.cells (madeCells #[.int .i64 0] n) 3)).alloc (.cells (madeCells #[.int .i64 0] n) 3)).alloc (.cells #[.int .i64 base, .int .i64 0, .bool false] 74))).heap.size = w.heap.size + 1 + 1 + 1 by simp] at h
  exact blk_drew h
 ·
  skip
  have h := R_madeI w w.heap.size n (fun k => some k ≠ Value.ownBlock (.slice (some ⟨w.heap.size + 1, 0, none⟩) n n)) (by simp <;> omega) (by simp [Value.ownBlock] <;> omega) hn
  exact Kd.R_drew (Kd.R_alloc (Kd.R_alloc (Kd.R_alloc h _) _) _)
 ·
  skip
  have h := R_madeI (w.alloc (.cells (madeCells #[.int .i64 0] n) 3)) w.heap.size n (fun k => some k ≠ Value.ownBlock (.slice (some ⟨w.heap.size, 0, none⟩) n n)) (by simp <;> omega) (by simp [Value.ownBlock] <;> omega) hn
  rw [show ((w.alloc (.cells (madeCells #[.int .i64 0] n) 3))).heap.size = w.heap.size + 1 by simp] at h
  exact Kd.R_drew (Kd.R_alloc (Kd.R_alloc h _) _)
 ·
  skip
  have h := R_oneT ((w.alloc (.cells (madeCells #[.int .i64 0] n) 3)).alloc (.cells (madeCells #[.int .i64 0] n) 3)) w.heap.size base (by simp <;> omega)
  rw [show (((w.alloc (.cells (madeCells #[.int .i64 0] n) 3)).alloc (.cells (madeCells #[.int .i64 0] n) 3))).heap.size = w.heap.size + 1 + 1 by simp] at h
  exact Kd.R_drew (Kd.R_alloc h _)
theorem start_1 (w : World) (A : Option Addr) (c n : Nat) (base : Int) (hn : n ≤ 1000) : IsWk (((((w.alloc (.cells (madeCells #[.int .i64 0] n) 3)).alloc (.cells #[.int .i64 base, .int .i64 0, .bool false] 74)).alloc (.cells (madeCells #[.int .i64 0] n) 3)).alloc (.cells #[.slice A n c, .slice (some ⟨w.heap.size, 0, none⟩) n n, .slice (some ⟨w.heap.size + 1 + 1, 0, none⟩) n n, .slice (some ⟨w.heap.size + 1, 0, none⟩) 1 1, .int .i64 0, .int .i64 0, .int .i64 0] 53)).drew) w.heap.size (w.heap.size + 1 + 1 + 1) A c n (walkS n base) ∧ Below w.heap.size w (((((w.alloc (.cells (madeCells #[.int .i64 0] n) 3)).alloc (.cells #[.int .i64 base, .int .i64 0, .bool false] 74)).alloc (.cells (madeCells #[.int .i64 0] n) 3)).alloc (.cells #[.slice A n c, .slice (some ⟨w.heap.size, 0, none⟩) n n, .slice (some ⟨w.heap.size + 1 + 1, 0, none⟩) n n, .slice (some ⟨w.heap.size + 1, 0, none⟩) 1 1, .int .i64 0, .int .i64 0, .int .i64 0] 53)).drew) := by
 refine ⟨⟨(.slice (some ⟨w.heap.size, 0, none⟩) n n), (.slice (some ⟨w.heap.size + 1 + 1, 0, none⟩) n n), (.slice (some ⟨w.heap.size + 1, 0, none⟩) 1 1), ?_, ?_, ?_, ?_, by omega⟩, below_drew (below_alloc (below_alloc (below_alloc (below_alloc (Below.refl _ _) _) _) _) _)⟩
 ·
  have h := blk_new (((w.alloc (.cells (madeCells #[.int .i64 0] n) 3)).alloc (.cells #[.int .i64 base, .int .i64 0, .bool false] 74)).alloc (.cells (madeCells #[.int .i64 0] n) 3)) (.cells #[.slice A n c, .slice (some ⟨w.heap.size, 0, none⟩) n n, .slice (some ⟨w.heap.size + 1 + 1, 0, none⟩) n n, .slice (some ⟨w.heap.size + 1, 0, none⟩) 1 1, .int .i64 0, .int .i64 0, .int .i64 0] 53)
  rw [show ((((w.alloc (.cells (madeCells #[.int .i64 0] n) 3)).alloc (.cells #[.int .i64 base, .int .i64 0, .bool false] 74)).alloc (.cells (madeCells #[.int .i64 0] n) 3))).heap.size = w.heap.size + 1 + 1 + 1 by simp] at h
  exact blk_drew h
 ·
  skip
  have h := R_madeI w w.heap.size n (fun k => some k ≠ Value.ownBlock (.slice (some ⟨w.heap.size + 1 + 1, 0, none⟩) n n)) (by simp <;> omega) (by simp [Value.ownBlock] <;> omega) hn
  exact Kd.R_drew (Kd.R_alloc (Kd.R_alloc (Kd.R_alloc h _) _) _)
 ·
  skip
  have h := R_madeI ((w.alloc (.cells (madeCells #[.int .i64 0] n) 3)).alloc (.cells #[.int .i64 base, .int .i64 0, .bool false] 74)) w.heap.size n (fun k => some k ≠ Value.ownBlock (.slice (some ⟨w.heap.size, 0, none⟩) n n)) (by simp <;> omega) (by simp [Value.ownBlock] <;> omega) hn
  rw [show (((w.alloc (.cells (madeCells #[.int .i64 0] n) 3)).alloc (.cells #[.int .i64 base, .int .i64 0, .bool false] 74))).heap.size = w.heap.size + 1 + 1 by simp] at h
  exact Kd.R_drew (Kd.R_alloc h _)
 ·
  skip
  have h := R_oneT (w.alloc (.cells (madeCells #[.int .i64 0] n) 3)) w.heap.size base (by simp <;> omega)
  rw [show ((w.alloc (.cells (madeCells #[.int .i64 0] n) 3))).heap.size = w.heap.size + 1 by simp] at h
  exact Kd.R_drew (Kd.R_alloc (Kd.R_alloc h _) _)
theorem start_2 (w : World) (A : Option Addr) (c n : Nat) (base : Int) (hn : n ≤ 1000) : IsWk (((((w.alloc (.cells (madeCells #[.int .i64 0] n) 3)).alloc (.cells (madeCells #[.int .i64 0] n) 3)).alloc (.cells #[.int .i64 base, .int .i64 0, .bool false] 74)).alloc (.cells #[.slice A n c, .slice (some ⟨w.heap.size + 1, 0, none⟩) n n, .slice (some ⟨w.heap.size, 0, none⟩) n n, .slice (some ⟨w.heap.size + 1 + 1, 0, none⟩) 1 1, .int .i64 0, .int .i64 0, .int .i64 0] 53)).drew) w.heap.size (w.heap.size + 1 + 1 + 1) A c n (walkS n base) ∧ Below w.heap.size w (((((w.alloc (.cells (madeCells #[.int .i64 0] n) 3)).alloc (.cells (madeCells #[.int .i64 0] n) 3)).alloc (.cells #[.int .i64 base, .int .i64 0, .bool false] 74)).alloc (.cells #[.slice A n c, .slice (some ⟨w.heap.size + 1, 0, none⟩) n n, .slice (some ⟨w.heap.size, 0, none⟩) n n, .slice (some ⟨w.heap.size + 1 + 1, 0, none⟩) 1 1, .int .i64 0, .int .i64 0, .int .i64 0] 53)).drew) := by
 refine ⟨⟨(.slice (some ⟨w.heap.size + 1, 0, none⟩) n n), (.slice (some ⟨w.heap.size, 0, none⟩) n n), (.slice (some ⟨w.heap.size + 1 + 1, 0, none⟩) 1 1), ?_, ?_, ?_, ?_, by omega⟩, below_drew (below_alloc (below_alloc (below_alloc (below_alloc (Below.refl _ _) _) _) _) _)⟩
 ·
  have h := blk_new (((w.alloc (.cells (madeCells #[.int .i64 0] n) 3)).alloc (.cells (madeCells #[.int .i64 0] n) 3)).alloc (.cells #[.int .i64 base, .int .i64 0, .bool false] 74)) (.cells #[.slice A n c, .slice (some ⟨w.heap.size + 1, 0, none⟩) n n, .slice (some ⟨w.heap.size, 0, none⟩) n n, .slice (some ⟨w.heap.size + 1 + 1, 0, none⟩) 1 1, .int .i64 0, .int .i64 0, .int .i64 0] 53)
  rw [show ((((w.alloc (.cells (madeCells #[.int .i64 0] n) 3)).alloc (.cells (madeCells #[.int .i64 0] n) 3)).alloc (.cells #[.int .i64 base, .int .i64 0, .bool false] 74))).heap.size = w.heap.size + 1 + 1 + 1 by simp] at h
  exact blk_drew h
 ·
  skip
  have h := R_madeI (w.alloc (.cells (madeCells #[.int .i64 0] n) 3)) w.heap.size n (fun k => some k ≠ Value.ownBlock (.slice (some ⟨w.heap.size, 0, none⟩) n n)) (by simp <;> omega) (by simp [Value.ownBlock] <;> omega) hn
  rw [show ((w.alloc (.cells (madeCells #[.int .i64 0] n) 3))).heap.size = w.heap.size + 1 by simp] at h
  exact Kd.R_drew (Kd.R_alloc (Kd.R_alloc h _) _)
 ·
  skip
  have h := R_madeI w w.heap.size n (fun k => some k ≠ Value.ownBlock (.slice (some ⟨w.heap.size + 1, 0, none⟩) n n)) (by simp <;> omega) (by simp [Value.ownBlock] <;> omega) hn
  exact Kd.R_drew (Kd.R_alloc (Kd.R_alloc (Kd.R_alloc h _) _) _)
 ·
  skip
  have h := R_oneT ((w.alloc (.cells (madeCells #[.int .i64 0] n) 3)).alloc (.cells (madeCells #[.int .i64 0] n) 3)) w.heap.size base (by simp <;> omega)
  rw [show (((w.alloc (.cells (madeCells #[.int .i64 0] n) 3)).alloc (.cells (madeCells #[.int .i64 0] n) 3))).heap.size = w.heap.size + 1 + 1 by simp] at h
  exact Kd.R_drew (Kd.R_alloc h _)
theorem start_3 (w : World) (A : Option Addr) (c n : Nat) (base : Int) (hn : n ≤ 1000) : IsWk (((((w.alloc (.cells (madeCells #[.int .i64 0] n) 3)).alloc (.cells #[.int .i64 base, .int .i64 0, .bool false] 74)).alloc (.cells (madeCells #[.int .i64 0] n) 3)).alloc (.cells #[.slice A n c, .slice (some ⟨w.heap.size + 1 + 1, 0, none⟩) n n, .slice (some ⟨w.heap.size, 0, none⟩) n n, .slice (some ⟨w.heap.size + 1, 0, none⟩) 1 1, .int .i64 0, .int .i64 0, .int .i64 0] 53)).drew) w.heap.size (w.heap.size + 1 + 1 + 1) A c n (walkS n base) ∧ Below w.heap.size w (((((w.alloc (.cells (madeCells #[.int .i64 0] n) 3)).alloc (.cells #[.int .i64 base, .int .i64 0, .bool false] 74)).alloc (.cells (madeCells #[.int .i64 0] n) 3)).alloc (.cells #[.slice A n c, .slice (some ⟨w.heap.size + 1 + 1, 0, none⟩) n n, .slice (some ⟨w.heap.size, 0, none⟩) n n, .slice (some ⟨w.heap.size + 1, 0, none⟩) 1 1, .int .i64 0, .int .i64 0, .int .i64 0] 53)).drew) := by
 refine ⟨⟨(.slice (some ⟨w.heap.size + 1 + 1, 0, none⟩) n n), (.slice (some ⟨w.heap.size, 0, none⟩) n n), (.slice (some ⟨w.heap.size + 1, 0, none⟩) 1 1), ?_, ?_, ?_, ?_, by omega⟩, below_drew (below_alloc (below_alloc (below_alloc (below_alloc (Below.refl _ _) _) _) _) _)⟩
 ·
  have h := blk_new (((w.alloc (.cells (madeCells #[.int .i64 0] n) 3)).alloc (.cells #[.int .i64 base, .int .i64 0, .bool false] 74)).alloc (.cells (madeCells #[.int .i64 0] n) 3)) (.cells #[.slice A n c, .slice (some ⟨w.heap.size + 1 + 1, 0, none⟩) n n, .slice (some ⟨w.heap.size, 0, none⟩) n n, .slice (some ⟨w.heap.size + 1, 0, none⟩) 1 1, .int .i64 0, .int .i64 0, .int .i64 0] 53)
  rw [show ((((w.alloc (.cells (madeCells #[.int .i64 0] n) 3)).alloc (.cells #[.int .i64 base, .int .i64 0, .bool false] 74)).alloc (.cells (madeCells #[.int .i64 0] n) 3))).heap.size = w.heap.size + 1 + 1 + 1 by simp] at h
  exact blk_drew h
 ·
  skip
  have h := R_madeI ((w.alloc (.cells (madeCells #[.int .i64 0] n) 3)).alloc (.cells #[.int .i64 base, .int .i64 0, .bool false] 74)) w.heap.size n (fun k => some k ≠ Value.ownBlock (.slice (some ⟨w.heap.size, 0, none⟩) n n)) (by simp <;> omega) (by simp [Value.ownBlock] <;> omega) hn
  rw [show (((w.alloc (.cells (madeCells #[.int .i64 0] n) 3)).alloc (.cells #[.int .i64 base, .int .i64 0, .bool false] 74))).heap.size = w.heap.size + 1 + 1 by simp] at h
  exact Kd.R_drew (Kd.R_alloc h _)
 ·
  skip
  have h := R_madeI w w.heap.size n (fun k => some k ≠ Value.ownBlock (.slice (some ⟨w.heap.size + 1 + 1, 0, none⟩) n n)) (by simp <;> omega) (by simp [Value.ownBlock] <;> omega) hn
  exact Kd.R_drew (Kd.R_alloc (Kd.R_alloc (Kd.R_alloc h _) _) _)
 ·
  skip
  have h := R_oneT (w.alloc (.cells (madeCells #[.int .i64 0] n) 3)) w.heap.size base (by simp <;> omega)
  rw [show ((w.alloc (.cells (madeCells #[.int .i64 0] n) 3))).heap.size = w.heap.size + 1 by simp] at h
  exact Kd.R_drew (Kd.R_alloc (Kd.R_alloc h _) _)
theorem start_4 (w : World) (A : Option Addr) (c n : Nat) (base : Int) (hn : n ≤ 1000) : IsWk (((((w.alloc (.cells #[.int .i64 base, .int .i64 0, .bool false] 74)).alloc (.cells (madeCells #[.int .i64 0] n) 3)).alloc (.cells (madeCells #[.int .i64 0] n) 3)).alloc (.cells #[.slice A n c, .slice (some ⟨w.heap.size + 1, 0, none⟩) n n, .slice (some ⟨w.heap.size + 1 + 1, 0, none⟩) n n, .slice (some ⟨w.heap.size, 0, none⟩) 1 1, .int .i64 0, .int .i64 0, .int .i64 0] 53)).drew) w.heap.size (w.heap.size + 1 + 1 + 1) A c n (walkS n base) ∧ Below w.heap.size w (((((w.alloc (.cells #[.int .i64 base, .int .i64 0, .bool false] 74)).alloc (.cells (madeCells #[.int .i64 0] n) 3)).alloc (.cells (madeCells #[.int .i64 0] n) 3)).alloc (.cells #[.slice A n c, .slice (some ⟨w.heap.size + 1, 0, none⟩) n n, .slice (some ⟨w.heap.size + 1 + 1, 0, none⟩) n n, .slice (some ⟨w.heap.size, 0, none⟩) 1 1, .int .i64 0, .int .i64 0, .int .i64 0] 53)).drew) := by
 refine ⟨⟨(.slice (some ⟨w.heap.size + 1, 0, none⟩) n n), (.slice (some ⟨w.heap.size + 1 + 1, 0, none⟩) n n), (.slice (some ⟨w.heap.size, 0, none⟩) 1 1), ?_, ?_, ?_, ?_, by omega⟩, below_drew (below_alloc (below_alloc (below_alloc (below_alloc (Below.refl _ _) _) _) _) _)⟩
 ·
  have h := blk_new (((w.alloc (.cells #[.int .i64 base, .int .i64 0, .bool false] 74)).alloc (.cells (madeCells #[.int .i64 0] n) 3)).alloc (.cells (madeCells #[.int .i64 0] n) 3)) (.cells #[.slice A n c, .slice (some ⟨w.heap.size + 1, 0, none⟩) n n, .slice (some ⟨w.heap.size + 1 + 1, 0, none⟩) n n, .slice (some ⟨w.heap.size, 0, none⟩) 1 1, .int .i64 0, .int .i64 0, .int .i64 0] 53)
  rw [show ((((w.alloc (.cells #[.int .i64 base, .int .i64 0, .bool false] 74)).alloc (.cells (madeCells #[.int .i64 0] n) 3)).alloc (.cells (madeCells #[.int .i64 0] n) 3))).heap.size = w.heap.size + 1 + 1 + 1 by simp] at h
  exact blk_drew h
 ·
  skip
  have h := R_madeI (w.alloc (.cells #[.int .i64 base, .int .i64 0, .bool false] 74)) w.heap.size n (fun k => some k ≠ Value.ownBlock (.slice (some ⟨w.heap.size + 1 + 1, 0, none⟩) n n)) (by simp <;> omega) (by simp [Value.ownBlock] <;> omega) hn
  rw [show ((w.alloc (.cells #[.int .i64 base, .int .i64 0, .bool false] 74))).heap.size = w.heap.size + 1 by simp] at h
  exact Kd.R_drew (Kd.R_alloc (Kd.R_alloc h _) _)
 ·
  skip
  have h := R_madeI ((w.alloc (.cells #[.int .i64 base, .int .i64 0, .bool false] 74)).alloc (.cells (madeCells #[.int .i64 0] n) 3)) w.heap.size n (fun k => some k ≠ Value.ownBlock (.slice (some ⟨w.heap.size + 1, 0, none⟩) n n)) (by simp <;> omega) (by simp [Value.ownBlock] <;> omega) hn
  rw [show (((w.alloc (.cells #[.int .i64 base, .int .i64 0, .bool false] 74)).alloc (.cells (madeCells #[.int .i64 0] n) 3))).heap.size = w.heap.size + 1 + 1 by simp] at h
  exact Kd.R_drew (Kd.R_alloc h _)
 ·
  skip
  have h := R_oneT w w.heap.size base (by simp <;> omega)
  exact Kd.R_drew (Kd.R_alloc (Kd.R_alloc (Kd.R_alloc h _) _) _)
theorem start_5 (w : World) (A : Option Addr) (c n : Nat) (base : Int) (hn : n ≤ 1000) : IsWk (((((w.alloc (.cells #[.int .i64 base, .int .i64 0, .bool false] 74)).alloc (.cells (madeCells #[.int .i64 0] n) 3)).alloc (.cells (madeCells #[.int .i64 0] n) 3)).alloc (.cells #[.slice A n c, .slice (some ⟨w.heap.size + 1 + 1, 0, none⟩) n n, .slice (some ⟨w.heap.size + 1, 0, none⟩) n n, .slice (some ⟨w.heap.size, 0, none⟩) 1 1, .int .i64 0, .int .i64 0, .int .i64 0] 53)).drew) w.heap.size (w.heap.size + 1 + 1 + 1) A c n (walkS n base) ∧ Below w.heap.size w (((((w.alloc (.cells #[.int .i64 base, .int .i64 0, .bool false] 74)).alloc (.cells (madeCells #[.int .i64 0] n) 3)).alloc (.cells (madeCells #[.int .i64 0] n) 3)).alloc (.cells #[.slice A n c, .slice (some ⟨w.heap.size + 1 + 1, 0, none⟩) n n, .slice (some ⟨w.heap.size + 1, 0, none⟩) n n, .slice (some ⟨w.heap.size, 0, none⟩) 1 1, .int .i64 0, .int .i64 0, .int .i64 0] 53)).drew) := by
 refine ⟨⟨(.slice (some ⟨w.heap.size + 1 + 1, 0, none⟩) n n), (.slice (some ⟨w.heap.size + 1, 0, none⟩) n n), (.slice (some ⟨w.heap.size, 0, none⟩) 1 1), ?_, ?_, ?_, ?_, by omega⟩, below_drew (below_alloc (below_alloc (below_alloc (below_alloc (Below.refl _ _) _) _) _) _)⟩
 ·
  have h := blk_new (((w.alloc (.cells #[.int .i64 base, .int .i64 0, .bool false] 74)).alloc (.cells (madeCells #[.int .i64 0] n) 3)).alloc (.cells (madeCells #[.int .i64 0] n) 3)) (.cells #[.slice A n c, .slice (some ⟨w.heap.size + 1 + 1, 0, none⟩) n n, .slice (some ⟨w.heap.size + 1, 0, none⟩) n n, .slice (some ⟨w.heap.size, 0, none⟩) 1 1, .int .i64 0, .int .i64 0, .int .i64 0] 53)
  rw [show ((((w.alloc (.cells #[.int .i64 base, .int .i64 0, .bool false] 74)).alloc (.cells (madeCells #[.int .i64 0] n) 3)).alloc (.cells (madeCells #[.int .i64 0] n) 3))).heap.size = w.heap.size + 1 + 1 + 1 by simp] at h
  exact blk_drew h
 ·
  skip
  have h := R_madeI ((w.alloc (.cells #[.int .i64 base, .int .i64 0, .bool false] 74)).alloc (.cells (madeCells #[.int .i64 0] n) 3)) w.heap.size n (fun k => some k ≠ Value.ownBlock (.slice (some ⟨w.heap.size + 1, 0, none⟩) n n)) (by simp <;> omega) (by simp [Value.ownBlock] <;> omega) hn
  rw [show (((w.alloc (.cells #[.int .i64 base, .int .i64 0, .bool false] 74)).alloc (.cells (madeCells #[.int .i64 0] n) 3))).heap.size = w.heap.size + 1 + 1 by simp] at h
  exact Kd.R_drew (Kd.R_alloc h _)
 ·
  skip
  have h := R_madeI (w.alloc (.cells #[.int .i64 base, .int .i64 0, .bool false] 74)) w.heap.size n (fun k => some k ≠ Value.ownBlock (.slice (some ⟨w.heap.size + 1 + 1, 0, none⟩) n n)) (by simp <;> omega) (by simp [Value.ownBlock] <;> omega) hn
  rw [show ((w.alloc (.cells #[.int .i64 base, .int .i64 0, .bool false] 74))).heap.size = w.heap.size + 1 by simp] at h
  exact Kd.R_drew (Kd.R_alloc (Kd.R_alloc h _) _)
 ·
  skip
  have h := R_oneT w w.heap.size base (by simp <;> omega)
  exact Kd.R_drew (Kd.R_alloc (Kd.R_alloc (Kd.R_alloc h _) _) _)
theorem walk_some {k : Nat} {rs : List Int} {base : Int} {s' : WkS} : ∀ (d j : Nat), walkF k rs base (j + d) = some s' → ∃ t, walkF k rs base j = some t
 | 0, j, h => ⟨s', h⟩
 | d + 1, j, h => by
  obtain ⟨t, ht⟩ := walk_some d (j + 1) (by rw [show j + 1 + d = j + (d + 1) by omega]; exact h)
  rw [walkF] at ht
  obtain ⟨u, hu, _⟩ := Option.bind_eq_some_iff.mp ht
  exact ⟨u, hu⟩
theorem l3All_calls (k : Nat) (A0 : Option Addr) (c0 : Nat) (l0 : List Int) (base : Int) (s' : WkS) (w : World) (hr0 : Kd.C (Kd.int .i64) w A0 l0.length l0) (hc0 : l0.length ≤ c0) (hn : l0.length ≤ 400) (h : walkF k l0 base l0.length = some s') :
  Calls Try.prog 46 #[.slice A0 l0.length c0, .int .i64 base] w fun e w' => ∃ gb, e = .returned (.pointer (some ⟨gb, 0, none⟩)) ∧ IsWk w' w.heap.size gb A0 c0 l0.length s' ∧ Below w.heap.size w w' := by
 have HR := az hr0
 have HC := az hc0
 have HH := az h
 have hmk := print_make (P := Try.prog) 22 3 .i64 8 Try.underlying22 info3 (by decide) l0.length (by omega)
 clear hr0 hc0 h
 go_enter Try.func46, Try.ntmps46
 go_wp2
 go_region
 all_goals
  clear hmk
  go_wp2
  go_loopg [6] l0.length (fun gg s6 wr => ∃ (j : Nat) (s : WkS), s6 = .int .i64 j ∧ j ≤ l0.length ∧ l0.length - j ≤ gg ∧ Aside0 (walkF k l0 base j = some s) ∧ Aside0 (IsWk wr w.heap.size (w.heap.size + 1 + 1 + 1) A0 c0 l0.length s) ∧ Aside0 (Below w.heap.size w wr))
  case atStart => first | exact ⟨0, _, rfl, Nat.zero_le _, by omega, ⟨rfl⟩, ⟨(start_0 w A0 c0 l0.length base (by omega)).1⟩, ⟨(start_0 w A0 c0 l0.length base (by omega)).2⟩⟩ | exact ⟨0, _, rfl, Nat.zero_le _, by omega, ⟨rfl⟩, ⟨(start_1 w A0 c0 l0.length base (by omega)).1⟩, ⟨(start_1 w A0 c0 l0.length base (by omega)).2⟩⟩ | exact ⟨0, _, rfl, Nat.zero_le _, by omega, ⟨rfl⟩, ⟨(start_2 w A0 c0 l0.length base (by omega)).1⟩, ⟨(start_2 w A0 c0 l0.length base (by omega)).2⟩⟩ | exact ⟨0, _, rfl, Nat.zero_le _, by omega, ⟨rfl⟩, ⟨(start_3 w A0 c0 l0.length base (by omega)).1⟩, ⟨(start_3 w A0 c0 l0.length base (by omega)).2⟩⟩ | exact ⟨0, _, rfl, Nat.zero_le _, by omega, ⟨rfl⟩, ⟨(start_4 w A0 c0 l0.length base (by omega)).1⟩, ⟨(start_4 w A0 c0 l0.length base (by omega)).2⟩⟩ | exact ⟨0, _, rfl, Nat.zero_le _, by omega, ⟨rfl⟩, ⟨(start_5 w A0 c0 l0.length base (by omega)).1⟩, ⟨(start_5 w A0 c0 l0.length base (by omega)).2⟩⟩
  case round =>
   obtain ⟨j, s, rfl, hj, hg, HF, HS, HB⟩ := hrel
   by_cases hlt : j < l0.length
   ·
    have hltz : (j : Int) < (l0.length : Int) := by omega
    have HI := az (inv_walk j s HF.out)
    have hj9 : j < 1000 := by omega
    obtain ⟨gl, cpl, f1, f2, f3, f4⟩ := HS.out.lv0 HB.out j (by rw [HI.out.1]; exact hlt)
    have hll := HI.out.1
    rw [hll] at f1
    clear hll
    have F4 := az (f4 (-1))
    clear f4
    obtain ⟨tt, htt⟩ := walk_some (s' := s') (l0.length - (j + 1)) (j + 1) (by rw [show j + 1 + (l0.length - (j + 1)) = l0.length by omega]; exact HH.out)
    have HT := az htt
    have HLT := az (show letterF k l0 j { s with lv := s.lv.set j (-1) } = some tt by
     rw [walkF, HF.out] at htt
     exact htt)
    clear htt
    have HIS := az (show InvW l0.length (2 * j) { s with lv := s.lv.set j (-1) } from ⟨by simpa using HI.out.1, HI.out.2⟩)
    have HLTN := az hlt
    have HN := az hn
    clear hn hlt
    go_wp2_with (go_at_call 72; refine (letter_calls k w _ _ A0 c0 l0 { s with lv := s.lv.set j (-1) } tt j F4.out.2 F4.out.1 (inv_Wb HIS.out (by have := HN.out; have := HLTN.out; omega)) (inv_Wb (inv_ends HIS.out) (by have := HN.out; have := HLTN.out; omega)) (fun h0 => by obtain ⟨_, _, _, _, _, _, h7, _⟩ := HIS.out; exact cntA_some _ (by simp only at h7 h0 ⊢; omega)) HR.out HC.out HLTN.out hj9 HIS.out.1 HIS.out.2.1 HLT.out).mono ?_; rintro e w2 ⟨rfl, hs2, hb2⟩; have HS2 := az hs2; have HB2 := az hb2; clear hs2 hb2)
    go_roundg (l0.length - (j + 1))
    case measure => have := HLTN.out; omega
    case rel => exact ⟨j + 1, tt, by go_num, by have := HLTN.out; omega, Nat.le_refl _, HT, HS2, HB2⟩
   ·
    have hltz : ¬ (j : Int) < (l0.length : Int) := by omega
    obtain rfl : j = l0.length := by omega
    have e : s = s' := by
     have a := HF.out
     rw [HH.out] at a
     exact (Option.some.inj a).symm
    subst e
    go_wp2
    go_ret
    exact ⟨_, rfl, HS.out, HB.out⟩
theorem letterF_mono (rs : List Int) (i : Nat) (s : WkS) (k : Nat) : LeO (letterF k rs i s) (letterF (k + 1) rs i s) := by
 unfold letterF
 refine LeO.bind (spec_RuneBidi.mono _ _) (fun c => ?_)
 repeat' first
  | exact LeO.refl _
  | refine LeO.ite ?_ ?_
  | refine LeO.bind (spec_l3Mate.mono _ _ _) (fun m => ?_)
  | refine LeO.bind (spec_l3Base.mono _ _ _ _) (fun b => ?_)
theorem walkF_mono (rs : List Int) (base : Int) (k : Nat) : ∀ j, LeO (walkF k rs base j) (walkF (k + 1) rs base j)
 | 0 => LeO.refl _
 | j + 1 => by
  rw [walkF, walkF]
  exact LeO.bind (walkF_mono rs base k j) (fun s => letterF_mono _ _ _ _)
theorem mt_row (W : World) (base : Nat) (ok : Nat → Prop) (hb : base ≤ W.heap.size) (hok : ok W.heap.size) : Kd.R (Kd.int .i64) 3 (W.alloc (.cells #[] 3)) base ok (.slice (some ⟨W.heap.size, 0, none⟩) 0 0) [] := by
 have e : madeCells #[Value.int .i64 0] 0 = #[] := by simp [madeCells]
 have h := R_madeI W base 0 ok hb hok (by omega)
 rw [e] at h
 exact h
theorem two_mt (W : World) (base : Nat) (hb : base ≤ W.heap.size) : Kd.R (Kd.int .i64) 3 ((W.alloc (.cells #[] 3)).alloc (.cells #[] 3)) base (fun k_ => some k_ ≠ (Value.slice (some ⟨W.heap.size + 1, 0, none⟩) 0 0).ownBlock) (.slice (some ⟨W.heap.size, 0, none⟩) 0 0) [] ∧ Kd.R (Kd.int .i64) 3 ((W.alloc (.cells #[] 3)).alloc (.cells #[] 3)) base (fun k_ => some k_ ≠ (Value.slice (some ⟨W.heap.size, 0, none⟩) 0 0).ownBlock) (.slice (some ⟨W.heap.size + 1, 0, none⟩) 0 0) [] := by
 have h := mt_row (W.alloc (.cells #[] 3)) base (fun k_ => some k_ ≠ (Value.slice (some ⟨W.heap.size, 0, none⟩) 0 0).ownBlock) (by simp; omega) (by simp [Value.ownBlock])
 rw [show (W.alloc (.cells #[] 3)).heap.size = W.heap.size + 1 by simp] at h
 exact ⟨Kd.R_alloc (mt_row W base _ hb (by simp [Value.ownBlock])) _, h⟩
def spec_LevelsTold.f (k : Nat) (l0 : List Int) (a1 : Int) : Option (List Int × List Int) :=
 (spec_l3Ok.f k l0 a1).bind fun b => if b = true then (if l0.length ≤ 400 then (walkF k l0 a1 l0.length).bind fun s => some (s.lv, s.cl) else none) else some ([], [])
theorem spec_LevelsTold.mono : ∀ a0 a1 k, LeO (spec_LevelsTold.f k a0 a1) (spec_LevelsTold.f (k + 1) a0 a1) := by
 intro a0 a1 k
 unfold spec_LevelsTold.f
 refine LeO.bind (spec_l3Ok.mono _ _ _) (fun b => LeO.ite (LeO.ite (LeO.bind (walkF_mono _ _ _ _) (fun s => LeO.refl _)) (LeO.refl _)) (LeO.refl _))
theorem spec_LevelsTold.calls (k : Nat) (A0 : Option Addr) (c0 : Nat) (l0 : List Int) (a1 : Int) (r1 r2 : List Int) (w : World) (hr0 : Kd.C (Kd.int .i64) w A0 l0.length l0) (hc0 : l0.length ≤ c0) (h : spec_LevelsTold.f k l0 a1 = some (r1, r2)) :
  Calls Try.prog 17 #[.slice A0 l0.length c0, .int .i64 a1] w fun e w' => ∃ v0_ v1_ : Value, e = .returned (.tuple #[v0_, v1_]) ∧ Kd.R (Kd.int .i64) 3 w' w.heap.size (fun k_ => some k_ ≠ (v1_ : Value).ownBlock) v0_ r1 ∧ Kd.R (Kd.int .i64) 3 w' w.heap.size (fun k_ => some k_ ≠ (v0_ : Value).ownBlock) v1_ r2 ∧ Below w.heap.size w w' := by
 have HR := az hr0
 have HC := az hc0
 clear hr0 hc0
 unfold spec_LevelsTold.f at h
 obtain ⟨b, hb, h⟩ := Option.bind_eq_some_iff.mp h
 have HOK := az hb
 clear hb
 cases b with
 | false =>
  rw [if_neg (by decide)] at h
  obtain ⟨rfl, rfl⟩ := Prod.mk.inj (Option.some.inj h)
  clear h
  go_enter Try.func17, Try.ntmps17
  go_wp2_with (go_at_call 45; refine (spec_l3Ok.calls k _ _ l0 a1 false _ HR.out HC.out HOK.out).mono ?_; rintro e w1 ⟨rfl, ⟨nd, rfl⟩⟩)
  try go_region
  all_goals (try go_wp2)
  all_goals go_ret2
  all_goals first
   | exact ⟨_, _, rfl, (two_mt (w.drewN nd) w.heap.size (Nat.le_refl _)).1, (two_mt (w.drewN nd) w.heap.size (Nat.le_refl _)).2, below_alloc (below_alloc (pw_below_drewN (Below.refl _ _) nd) _) _⟩
   | exact ⟨_, _, rfl, (two_mt (w.drewN nd) w.heap.size (Nat.le_refl _)).2, (two_mt (w.drewN nd) w.heap.size (Nat.le_refl _)).1, below_alloc (below_alloc (pw_below_drewN (Below.refl _ _) nd) _) _⟩
   | exact ⟨_, _, rfl, Kd.R_drew (two_mt (w.drewN nd) w.heap.size (Nat.le_refl _)).1, Kd.R_drew (two_mt (w.drewN nd) w.heap.size (Nat.le_refl _)).2, below_drew (below_alloc (below_alloc (pw_below_drewN (Below.refl _ _) nd) _) _)⟩
   | exact ⟨_, _, rfl, Kd.R_drew (two_mt (w.drewN nd) w.heap.size (Nat.le_refl _)).2, Kd.R_drew (two_mt (w.drewN nd) w.heap.size (Nat.le_refl _)).1, below_drew (below_alloc (below_alloc (pw_below_drewN (Below.refl _ _) nd) _) _)⟩
 | true =>
  rw [if_pos rfl] at h
  by_cases hn : l0.length ≤ 400
  ·
   rw [if_pos hn] at h
   obtain ⟨s, hs, h⟩ := Option.bind_eq_some_iff.mp h
   obtain ⟨rfl, rfl⟩ := Prod.mk.inj (Option.some.inj h)
   have HS := az hs
   have HN := az hn
   clear h hs hn
   go_enter Try.func17, Try.ntmps17
   go_wp2_with (first
    | (go_at_call 45; refine (spec_l3Ok.calls k _ _ l0 a1 true _ HR.out HC.out HOK.out).mono ?_; rintro e w1 ⟨rfl, ⟨nd, rfl⟩⟩)
    | (go_at_call 46; refine (l3All_calls k A0 c0 l0 a1 s _ (Kd.C_below HR.out (pw_below_drewN (Below.refl _ _) nd)) HC.out HN.out HS.out).mono ?_; rintro e w2 ⟨gb, rfl, h2, hb2⟩; obtain ⟨vl, vc, vs, q1, q2, q3, q4, q5⟩ := h2; have hc1 := (blk_cell q1 1).trans (show _ = some vl from rfl); have hc2 := (blk_cell q1 2).trans (show _ = some vc from rfl); have Q2 := az q2; have Q3 := az q3; have HB2 := az hb2; clear q1 q2 q3 q4 q5 hb2))
   try go_region
   all_goals (try go_wp2)
   all_goals go_ret2
   all_goals exact ⟨_, _, rfl, Kd.R_drew Q2.out, Kd.R_drew Q3.out, below_drew (below_then (pw_below_drewN (Below.refl w.heap.size w) nd) (pw_below_drewN (Below.refl w.heap.size w) nd).size HB2.out)⟩
  ·
   rw [if_neg hn] at h
   cases h
def spec_l3Left.l0 : Nat → List Int → Int → Option (Int)
 | 0, _, _ => none
 | k + 1, x0, x1 => if x1 < (x0.length : Int) then (if 0 ≤ x1 then (if (rd x0 x1) < 0 then (spec_l3Left.l0 k x0 (wrap64 (x1 + 1))) else (some x1)) else (none)) else (some x1)
def spec_l3Left.f (k : Nat) (l0 : List Int) (a1 : Int) : Option (Int) := spec_l3Left.l0 k l0 a1
theorem spec_l3Left.mono_l : ∀ k, (∀ y0 y1, LeO (spec_l3Left.l0 k y0 y1) (spec_l3Left.l0 (k + 1) y0 y1))
 | 0 => fun _ _ r h => by simp [spec_l3Left.l0] at h
 | k + 1 => by
  have ih0 := spec_l3Left.mono_l k
  ·
   intro y0 y1; unfold spec_l3Left.l0
   repeat' first
   | (with_reducible exact ih0 _ _)
   | (with_reducible exact LeO.refl _)
   | (with_reducible exact LeO.none _)
   | (with_reducible refine LeO.ite ?_ ?_)
   | (with_reducible refine LeO.bind ?_ (fun _ => ?_))
   | exact ih0 _ _
   | exact LeO.none _
   | refine LeO.ite ?_ ?_
   | refine LeO.bind ?_ (fun _ => ?_)
theorem spec_l3Left.mono : ∀ a0 a1 k, LeO (spec_l3Left.f k a0 a1) (spec_l3Left.f (k + 1) a0 a1) := by
 intro a0 a1 k; have ih0 := spec_l3Left.mono_l k; unfold spec_l3Left.f
 repeat' first
   | (with_reducible exact ih0 _ _)
   | (with_reducible exact LeO.refl _)
   | (with_reducible exact LeO.none _)
   | (with_reducible refine LeO.ite ?_ ?_)
   | (with_reducible refine LeO.bind ?_ (fun _ => ?_))
   | exact ih0 _ _
   | exact LeO.none _
   | refine LeO.ite ?_ ?_
   | refine LeO.bind ?_ (fun _ => ?_)
theorem spec_l3Left.calls (k : Nat) (A0 : Option Addr) (c0 : Nat) (l0 : List Int) (a1 : Int) (r : Int) (w : World) (hr0 : Kd.C (Kd.int .i64) w A0 l0.length l0) (hc0 : l0.length ≤ c0) (h : spec_l3Left.f k l0 a1 = some r) :
  Calls Try.prog 81 #[.slice A0 l0.length c0, .int .i64 a1] w fun e w' => e = .returned (.int .i64 r) ∧ Drawn0 w w' := by
 have HR0 := az hr0; have HC0 := az hc0; clear hr0 hc0; have H : (spec_l3Left.l0 k l0 a1) = some r := h; clear h; have H' := az H; clear H; go_enter Try.func81, Try.ntmps81; go_wp2; go_loopg [1] k (fun kq v1 w' => ∃ (x1_1 : Int), v1 = .int .i64 x1_1 ∧ Aside0 (spec_l3Left.l0 kq l0 x1_1 = some r) ∧ Aside0 (kq ≤ k) ∧ Drawn0 w w')
 case atStart => exact ⟨(a1), (by first | rfl | (simp; done) | (simp [*]; done)), H', ⟨Nat.le_refl _⟩, by repeat (first | exact Drawn0.refl _ | apply Drawn0.step)⟩
 case round =>
  clear H'; (try clear p2); obtain ⟨x1_1, rfl, HA, HK1, ⟨m1, rfl⟩⟩ := hrel
  cases gk with
  | zero => exact absurd HA.out (by simp [spec_l3Left.l0])
  | succ k1 =>
   have H := HA.out; clear HA; simp only [spec_l3Left.l0] at H; by_cases c3 : x1_1 < (l0.length : Int)
   ·
    rw [if_pos c3] at H; have c3b0 : decide (x1_1 < (l0.length : Int)) = true := decide_eq_true c3; clear c3; by_cases c4 : 0 ≤ x1_1
    ·
     rw [if_pos c4] at H; have c4b0 : decide (0 ≤ x1_1) = true := decide_eq_true c4; clear c4; by_cases c5 : (rd l0 x1_1) < 0
     ·
      rw [if_pos c5] at H; have c5b0 : decide ((rd l0 x1_1) < 0) = true := decide_eq_true c5; clear c5; have H' := az H; clear H; have p508 : 0 ≤ (x1_1 : Int) := of_decide_eq_true (by assumption); have q508 : x1_1 < (l0.length : Int) := of_decide_eq_true (by assumption); obtain ⟨ad508, e508, hx508_0⟩ := Kd.at_int HR0.out x1_1 p508 q508
      cases e508
      replace p508 := eq_true p508; replace q508 := eq_true q508; go_wp2; go_roundg k1
      case measure => have := HK1.out; omega
      case rel => exact ⟨(wrap64 (x1_1 + 1)), (by first | rfl | (simp; done) | (simp [*]; done)), H', ⟨by have := HK1.out; omega⟩, by repeat (first | exact Drawn0.refl _ | apply Drawn0.step)⟩
     ·
      rw [if_neg c5] at H; have c5b0 : decide ((rd l0 x1_1) < 0) = false := decide_eq_false c5; clear c5; obtain rfl := Option.some.inj H; have p508 : 0 ≤ (x1_1 : Int) := of_decide_eq_true (by assumption); have q508 : x1_1 < (l0.length : Int) := of_decide_eq_true (by assumption); obtain ⟨ad508, e508, hx508_0⟩ := Kd.at_int HR0.out x1_1 p508 q508
      cases e508
      replace p508 := eq_true p508; replace q508 := eq_true q508; go_wp2; go_ret; exact ⟨by first | rfl | (simp; done) | (simp [*]; done), by repeat (first | exact Drawn0.refl _ | apply Drawn0.step)⟩
    ·
     rw [if_neg c4] at H; exact absurd H (by simp)
   ·
    rw [if_neg c3] at H; have c3b0 : decide (x1_1 < (l0.length : Int)) = false := decide_eq_false c3; clear c3; obtain rfl := Option.some.inj H; go_wp2; go_ret; exact ⟨by first | rfl | (simp; done) | (simp [*]; done), by repeat (first | exact Drawn0.refl _ | apply Drawn0.step)⟩
end Go.Proofs.Ytojehfdioeglgaa.S
