/- The program's LevelWeak answers as the reference's, for every list of whole numbers and every side ahead; it writes into no argument and its answer is memory of its own. No condition beyond the statement's own. (text 2 of 3 of this claim: functions of the program and of the reference as plain Lean functions, what a call of each comes to, and what follows.) -/
import Derived.Test.YtojehfdioeglgaaZFnExactLevelWeakA0
namespace Go.Proofs.Ytojehfdioeglgaa.S
open Go.RowKit Go.Proofs.YtojehfdioeglgaaW.PrintWords Go.Proofs.YtojehfdioeglgaaW.PrintLast Go.Proofs.YtojehfdioeglgaaW.PrintMore
attribute [local go_sem] max2_int min2_int max_two min_two max_three min_three max_four min_four   -- for this text's walks alone
set_option linter.unusedVariables false
set_option linter.unusedSimpArgs false

/-! ### impl_beside: function 66: beside.tpl -/
/-- m elements of l from a on become x. -/
def fillV (l : List Int) (a : Nat) (x : Int) : Nat → List Int
  | 0 => l
  | m + 1 => (fillV l a x m).set (a + m) x
theorem fillV_length (l : List Int) (a : Nat) (x : Int) : ∀ m, (fillV l a x m).length = l.length
  | 0 => rfl
  | m + 1 => by rw [fillV, List.length_set, fillV_length l a x m]
/-- Where those end of which p holds, from fr on. -/
def runE (p : Int → Bool) (l : List Int) (fr : Nat) : Nat := fr + ((l.drop fr).takeWhile p).length
theorem takeWhile_stop {p : Int → Bool} : ∀ (l : List Int), (l.takeWhile p).length < l.length → p (l.getD (l.takeWhile p).length 0) = false
  | [], h => by simp at h
  | x :: r, h => by
    by_cases hx : p x = true
    · simp only [List.takeWhile_cons_of_pos hx, List.length_cons] at h ⊢
      simpa using takeWhile_stop r (by omega)
    · simp only [List.takeWhile_cons_of_neg hx, List.length_nil]
      simpa using hx
theorem takeWhile_all {p : Int → Bool} : ∀ (l : List Int) (j : Nat), j < (l.takeWhile p).length → p (l.getD j 0) = true
  | [], j, h => by simp at h
  | x :: r, j, h => by
    by_cases hx : p x = true
    · simp only [List.takeWhile_cons_of_pos hx, List.length_cons] at h
      cases j with
      | zero => simpa using hx
      | succ j => simpa using takeWhile_all r j (by omega)
    · simp [List.takeWhile_cons_of_neg hx] at h
theorem runE_ge (p : Int → Bool) (l : List Int) (fr : Nat) : fr ≤ runE p l fr := Nat.le_add_right _ _
theorem runE_le {p : Int → Bool} {l : List Int} {fr : Nat} (h : fr ≤ l.length) : runE p l fr ≤ l.length := by
  have := (List.takeWhile_sublist p (l := l.drop fr)).length_le
  rw [List.length_drop] at this
  unfold runE; omega
theorem getD_drop (l : List Int) (a j : Nat) : (l.drop a).getD j 0 = l.getD (a + j) 0 := by simp [List.getD_eq_getElem?_getD, List.getElem?_drop]
theorem runE_all {p : Int → Bool} {l : List Int} {fr j : Nat} (h0 : fr ≤ j) (h1 : j < runE p l fr) : p (l.getD j 0) = true := by
  have := takeWhile_all (p := p) (l.drop fr) (j - fr) (by unfold runE at h1; omega)
  rwa [getD_drop, show fr + (j - fr) = j by omega] at this
theorem runE_stop {p : Int → Bool} {l : List Int} {fr : Nat} (h : runE p l fr < l.length) : p (l.getD (runE p l fr) 0) = false := by
  have := takeWhile_stop (p := p) (l.drop fr) (by rw [List.length_drop]; unfold runE at h; omega)
  rwa [getD_drop] at this
def subV (q : Int → Int → Option Int) (l : List Int) (fr tt : Nat) : List Int :=
  match q (if fr = 0 then 0 else l.getD (fr - 1) 0) (if tt < l.length then l.getD tt 0 else 0) with
  | some x => fillV l fr x (tt - fr)
  | none => l
theorem subV_length (q : Int → Int → Option Int) (l : List Int) (fr tt : Nat) : (subV q l fr tt).length = l.length := by
  unfold subV
  split
  · exact fillV_length ..
  · rfl
def besideL (p : Int → Bool) (q : Int → Int → Option Int) : Nat → List Int → Nat → List Int
  | 0, l, _ => l
  | k + 1, l, fr => if fr < l.length then (if runE p l fr = fr then besideL p q k l (fr + 1) else besideL p q k (subV q l fr (runE p l fr)) (runE p l fr)) else l
def besideV (p : Int → Bool) (q : Int → Int → Option Int) (l : List Int) : List Int := besideL p q l.length l 0
theorem besideL_end {p : Int → Bool} {q : Int → Int → Option Int} {k : Nat} {l : List Int} {fr : Nat} (h : ¬ fr < l.length) : besideL p q k l fr = l := by
  cases k with
  | zero => rfl
  | succ k => rw [besideL, if_neg h]
theorem besideL_one {p : Int → Bool} {q : Int → Int → Option Int} {k : Nat} {l : List Int} {fr : Nat} (h : fr < l.length) (e : runE p l fr = fr) : besideL p q (k + 1) l fr = besideL p q k l (fr + 1) := by
  rw [besideL, if_pos h, if_pos e]
theorem besideL_run {p : Int → Bool} {q : Int → Int → Option Int} {k : Nat} {l : List Int} {fr : Nat} (h : fr < l.length) (e : ¬ runE p l fr = fr) : besideL p q (k + 1) l fr = besideL p q k (subV q l fr (runE p l fr)) (runE p l fr) := by
  rw [besideL, if_pos h, if_neg e]
theorem grown_refl (w : World) (row : Option Nat) : w.grownBy w row := grown_of_below (Below.refl _ _) row
theorem grown_then {w w1 w2 : World} {row : Option Nat} (h : w.grownBy w1 row) (k : w1.grownBy w2 row) : w.grownBy w2 row :=
  ⟨k.os.trans h.os, k.tape.trans h.tape, k.output.trans h.output, Nat.le_trans h.size k.size, fun i hi hr => (k.block i (Nat.lt_of_lt_of_le hi h.size) hr).trans (h.block i hi hr)⟩
set_option maxHeartbeats 8000000 in
set_option maxRecDepth 100000 in
theorem fill_calls (g n cap a m : Nat) (x : Int) (l : List Int) (base : Nat) (ok : Nat → Prop) (w : World) (ho : Kd.R (Kd.int .i64) 3 w base ok (.slice (some ⟨g, 0, none⟩) n cap) l) (hm : a + m ≤ n) (hn : n ≤ 1000000) :
    Calls Try.prog 69 #[.slice (some ⟨g, a, none⟩) m (cap - a), .int .i64 x] w fun e w' => e = .returned (.tuple #[]) ∧ Kd.R (Kd.int .i64) 3 w' base ok (.slice (some ⟨g, 0, none⟩) n cap) (fillV l a x m) ∧ w.grownBy w' (some g) := by
  have HO := Aside0.mk ho
  have HM := Aside0.mk hm
  clear ho hm
  go_enter Try.func69, Try.ntmps69
  go_wp2
  go_loopg [4, 7] m (fun gg _ s7 wr => ∃ kk : Nat, kk ≤ m ∧ m - kk ≤ gg ∧ s7 = .int .i64 kk ∧ Aside0 (Kd.R (Kd.int .i64) 3 wr base ok (.slice (some ⟨g, 0, none⟩) n cap) (fillV l a x kk)) ∧ Aside0 (w.grownBy wr (some g)))
  case atStart => exact ⟨0, Nat.zero_le _, by omega, rfl, HO, ⟨grown_refl _ _⟩⟩
  case round =>
    clear HO
    obtain ⟨kk, hkk, hg, rfl, HO, HG⟩ := hrel
    have hm := HM.out
    by_cases hlt : kk < m
    · obtain ⟨hx, hf⟩ := Kd.R_celln 0 HO.out ((a + kk : Nat) : Int) (by omega) (by omega)
      simp only [Int.toNat_natCast] at hx hf
      have hk9 : kk < 1000000 := by omega
      clear hm
      have hltz : (kk : Int) < (m : Int) := by omega
      go_wp2
      go_roundg (m - (kk + 1))
      case measure => omega
      case rel =>
        have hp := Kd.R_putg HO.out ((a + kk : Nat) : Int) x
        simp only [Int.toNat_natCast] at hp
        exact ⟨kk + 1, by omega, by omega, by go_num, ⟨hp.1⟩, ⟨grown_then HG.out hp.2⟩⟩
    · have hltz : ¬ (kk : Int) < (m : Int) := by omega
      obtain rfl : kk = m := by omega
      clear hm
      go_wp2
      go_end0
      exact ⟨rfl, HO.out, HG.out⟩
set_option maxHeartbeats 16000000 in
set_option maxRecDepth 100000 in
theorem beside_calls (p : Int → Bool) (q : Int → Int → Option Int) (f1 f2 : Nat) (lb1 lb2 : Array Value) (eg1 : ∀ args w, (callFunc f1 args).run Try.prog w = .ok (.enter f1 args) w) (eg2 : ∀ args w, (callFunc f2 args).run Try.prog w = .ok (.enter f2 args) w)
    (g n cap : Nat) (l : List Int) (base : Nat) (ok : Nat → Prop) (w : World) (ho : Kd.R (Kd.int .i64) 3 w base ok (.slice (some ⟨g, 0, none⟩) n cap) l) (hn : n ≤ 1000000) (hcap : n ≤ cap)
    (hp : ∀ W x, w.grownBy W (some g) → Calls Try.prog f1 (#[.int .i64 x] ++ lb1) W fun e w' => e = .returned (.bool (p x)) ∧ Drawn0 W w')
    (hd : ∀ W l' a m y z, w.grownBy W (some g) → Kd.R (Kd.int .i64) 3 W base ok (.slice (some ⟨g, 0, none⟩) n cap) l' → a + m ≤ n → 0 < m → Calls Try.prog f2 (#[.slice (some ⟨g, a, none⟩) m (cap - a), .int .i64 y, .int .i64 z] ++ lb2) W fun e w' => e = .returned (.tuple #[]) ∧ Kd.R (Kd.int .i64) 3 w' base ok (.slice (some ⟨g, 0, none⟩) n cap) (match q y z with | some x => fillV l' a x m | none => l') ∧ W.grownBy w' (some g)) :
    Calls Try.prog 66 #[.slice (some ⟨g, 0, none⟩) n cap, .func (.func f1) #[] lb1, .func (.func f2) #[] lb2] w fun e w' => e = .returned (.tuple #[]) ∧ Kd.R (Kd.int .i64) 3 w' base ok (.slice (some ⟨g, 0, none⟩) n cap) (besideV p q l) ∧ w.grownBy w' (some g) := by
  have hnl := (Kd.R_reads' ho).1
  have HO := Aside0.mk ho
  have HP := Aside0.mk hp
  have HD := Aside0.mk hd
  have HNL := Aside0.mk hnl
  clear ho hp hd hnl
  go_enter Try.func66, Try.ntmps66
  go_wp2
  go_loopg [6, 7, 8, 9] n (fun gg s6 _ _ _ wr => ∃ (fr kk : Nat) (x : List Int), s6 = .int .i64 fr ∧ fr ≤ n ∧ n - fr ≤ kk ∧ kk ≤ gg ∧ Aside0 (Kd.R (Kd.int .i64) 3 wr base ok (.slice (some ⟨g, 0, none⟩) n cap) x) ∧ Aside0 (x.length = n) ∧ Aside0 (w.grownBy wr (some g)) ∧ Aside0 (besideL p q kk x fr = besideV p q l))
  case atStart => exact ⟨0, n, l, rfl, Nat.zero_le _, by omega, Nat.le_refl _, HO, ⟨HNL.out.symm⟩, ⟨grown_refl _ _⟩, ⟨by rw [besideV, HNL.out]⟩⟩
  case round =>
    clear HO
    obtain ⟨fr, kk, x, rfl, hfn, hk, hkg, HO, HXL, HG, HE⟩ := hrel
    by_cases hlt : fr < n
    · have hltz : (fr : Int) < (n : Int) := by omega
      obtain ⟨k1, rfl⟩ : ∃ k1, kk = k1 + 1 := ⟨kk - 1, by omega⟩
      have hlx : fr < x.length := by rw [HXL.out]; exact hlt
      obtain ⟨T, hT⟩ : ∃ T, runE p x fr = T := ⟨_, rfl⟩
      have hT0 : fr ≤ T := by rw [← hT]; exact runE_ge ..
      have hT1 : T ≤ n := by rw [← hT, ← HXL.out]; exact runE_le (by omega)
      have HA := Aside0.mk (fun j (h0 : fr ≤ j) (h1 : j < T) => runE_all (p := p) (l := x) (fr := fr) h0 (by rw [hT]; exact h1))
      have HS := Aside0.mk (fun (h : T < n) => show p (x.getD T 0) = false by rw [← hT]; exact runE_stop (by rw [hT, HXL.out]; exact h))
      have HTE := Aside0.mk hT
      have HLX := Aside0.mk hlx
      clear hT hlx
      --BEGIN
      have HM0 := Aside0.mk (show k1 < gk ∧ n - fr ≤ k1 + 1 by omega)
      go_wp2
      go_loopg [7] (T - fr) (fun gi s7 wi => ∃ tt : Nat, s7 = .int .i64 tt ∧ fr ≤ tt ∧ tt ≤ T ∧ T - tt ≤ gi ∧ Aside0 (Kd.R (Kd.int .i64) 3 wi base ok (.slice (some ⟨g, 0, none⟩) n cap) x) ∧ Aside0 (w.grownBy wi (some g)))
      case atStart => exact ⟨fr, rfl, Nat.le_refl _, hT0, Nat.le_refl _, HO, HG⟩
      case round =>
        clear HO HG
        obtain ⟨tt, rfl, h1, h2, h3, HO, HG⟩ := hrel
        by_cases hc : tt < T
        · have htn : tt < n := by omega
          have htz : (tt : Int) < (n : Int) := by omega
          obtain ⟨hx, hf⟩ := Kd.R_celln 0 HO.out (tt : Int) (by omega) htz
          simp only [Int.toNat_natCast] at hx
          have hpp := HA.out tt h1 hc
          have hxe : rdOf 0 x (tt : Int) = x.getD tt 0 := by simp [rdOf]
          rw [hxe] at hx
          clear hxe hf
          generalize x.getD tt 0 = y at hx hpp
          have hcall := HP.out wr y HG.out
          rw [hpp] at hcall
          clear hpp
          have HT3 := Aside0.mk h3
          go_wp2_with (go_at_fn f1; refine hcall.mono ?_; rintro e w' ⟨rfl, hb⟩; obtain ⟨⟨nd, rfl⟩⟩ := hb)
          go_roundg (T - (tt + 1))
          case measure => omega
          case rel => exact ⟨tt + 1, by go_num, by omega, by omega, Nat.le_refl _, ⟨Kd.R_drewN HO.out _⟩, ⟨grown_then HG.out (grown_of_below (pw_below_drewN (Below.refl _ _) _) _)⟩⟩
        · obtain rfl : tt = T := by omega
          clear h2 h3 hc
          have HM := Aside0.mk (show k1 < _ ∧ n - fr ≤ k1 + 1 ∧ fr ≤ tt ∧ tt ≤ n from ⟨HM0.out.1, HM0.out.2, by omega, by omega⟩)
          have hm0 := HM0.out
          clear HM0
          by_cases e1 : tt = fr
          · have hTn : tt < n := by omega
            have htz : (tt : Int) < (n : Int) := by omega
            obtain ⟨hx, hf⟩ := Kd.R_celln 0 HO.out (tt : Int) (by omega) htz
            simp only [Int.toNat_natCast] at hx
            have hpp := HS.out hTn
            have hxe : rdOf 0 x (tt : Int) = x.getD tt 0 := by simp [rdOf]
            rw [hxe] at hx
            clear hxe hf
            obtain ⟨y, hy⟩ : ∃ y, x.getD tt 0 = y := ⟨_, rfl⟩
            rw [hy] at hx hpp
            have HY := Aside0.mk hy
            clear hy
            have hcall := HP.out wr y HG.out
            rw [hpp] at hcall
            clear hpp
            have hef : (tt : Int) = (fr : Int) := by omega
            have hefb : ((tt : Int) == (fr : Int)) = true := beq_iff_eq.mpr hef
            have hfr9 : fr < 1000000 := by omega
            subst e1
            clear hef hm0
            go_wp2_with (go_at_fn f1; refine hcall.mono ?_; rintro e w' ⟨rfl, hb⟩; obtain ⟨⟨nd, rfl⟩⟩ := hb; have n0 := Aside0.mk (Kd.R_drewN HO.out nd); have n1 := Aside0.mk (grown_then HG.out (grown_of_below (pw_below_drewN (Below.refl wr.heap.size wr) nd) (some g))); clear HO HG; have HO := n0; have HG := n1; clear n0 n1)
            go_roundg k1
            case measure => have := HM.out; omega
            case rel => exact ⟨tt + 1, k1, x, by go_num, by have := HM.out; omega, by have := HM.out; omega, Nat.le_refl _, HO, HXL, HG, ⟨by rw [← HE.out, besideL_one HLX.out HTE.out]⟩⟩
          · have hnot : ¬ tt = fr := e1
            by_cases hTn : tt < n
            · by_cases e0 : fr = 0
              · skip
                have htz : (tt : Int) < (n : Int) := by omega
                obtain ⟨hx, hf⟩ := Kd.R_celln 0 HO.out (tt : Int) (by omega) htz
                simp only [Int.toNat_natCast] at hx
                have hpp := HS.out hTn
                have hxe : rdOf 0 x (tt : Int) = x.getD tt 0 := by simp [rdOf]
                rw [hxe] at hx
                clear hxe hf
                obtain ⟨y, hy⟩ : ∃ y, x.getD tt 0 = y := ⟨_, rfl⟩
                rw [hy] at hx hpp
                have HY := Aside0.mk hy
                clear hy
                have hcall := HP.out wr y HG.out
                rw [hpp] at hcall
                clear hpp
                have hefb : ((tt : Int) == (fr : Int)) = false := beq_eq_false_iff_ne.mpr (by omega)
                have hcut : ∀ W : World, (Instr.slice 22 (.slice (some ⟨g, 0, none⟩) n cap) (some (.int .i64 fr)) (some (.int .i64 tt)) none).run Try.prog W = .ok (.slice (some ⟨g, fr, none⟩) (tt - fr) (cap - fr)) W := by
                  intro W
                  obtain ⟨i0, hi0, hz1, hz2, hz3⟩ := info_parts info3
                  have h := cut_mid (P := Try.prog) 22 3 .i64 .i64 Try.underlying22 hi0 1 hz2 (some ⟨g, 0, none⟩) n cap (fr : Int) (tt : Int) (by omega) (by omega) (by omega) hcap W
                  simpa [show ¬ cap = fr by omega, add_plain] using h
                have htc : tt ≤ cap := by omega
                have hz0 : fr = 0 := e0
                subst hz0
                have hdo := fun W hg hr => HD.out W x 0 tt 0 y hg hr (by omega) (by omega)
                simp only [Nat.sub_zero] at hdo
                have HDO := Aside0.mk hdo
                have HDN := Aside0.mk hnot
                have HQ := Aside0.mk (show subV q x 0 tt = (match q 0 y with | some u => fillV x 0 u tt | none => x) by rw [subV, if_pos rfl, if_pos (by rw [HXL.out]; exact hTn), HY.out, Nat.sub_zero])
                have HFT := Aside0.mk (show 0 < tt by omega)
                have HLT := Aside0.mk (show tt ≤ n by omega)
                clear hm0 hdo hnot hT0 hT1 hk hkg hfn hlt hTn
                go_wp2_with (first | (go_at_fn f1; refine hcall.mono ?_; rintro e w' ⟨rfl, hb⟩; obtain ⟨⟨nd, rfl⟩⟩ := hb; have n0 := Aside0.mk (Kd.R_drewN HO.out nd); have n1 := Aside0.mk (grown_then HG.out (grown_of_below (pw_below_drewN (Below.refl wr.heap.size wr) nd) (some g))); clear HO HG; have HO := n0; have HG := n1; clear n0 n1) | (go_at_fn f2; refine (HDO.out _ HG.out HO.out).mono ?_; rintro e w' ⟨rfl, hr, hg⟩; rw [← HQ.out] at hr; have n0 := Aside0.mk hr; have n1 := Aside0.mk (grown_then HG.out hg); clear HO HG hr hg; have HO := n0; have HG := n1; clear n0 n1))
                go_roundg k1
                case measure => have := HM.out; omega
                case rel => exact ⟨tt, k1, _, rfl, HLT.out, by have := HM.out; omega, Nat.le_refl _, HO, ⟨by rw [subV_length]; exact HXL.out⟩, HG, ⟨by rw [← HE.out, besideL_run HLX.out (by rw [HTE.out]; exact HDN.out), HTE.out]⟩⟩
              · skip
                have htz : (tt : Int) < (n : Int) := by omega
                obtain ⟨hx, hf⟩ := Kd.R_celln 0 HO.out (tt : Int) (by omega) htz
                simp only [Int.toNat_natCast] at hx
                have hpp := HS.out hTn
                have hxe : rdOf 0 x (tt : Int) = x.getD tt 0 := by simp [rdOf]
                rw [hxe] at hx
                clear hxe hf
                obtain ⟨y, hy⟩ : ∃ y, x.getD tt 0 = y := ⟨_, rfl⟩
                rw [hy] at hx hpp
                have HY := Aside0.mk hy
                clear hy
                have hcall := HP.out wr y HG.out
                rw [hpp] at hcall
                clear hpp
                have hefb : ((tt : Int) == (fr : Int)) = false := beq_eq_false_iff_ne.mpr (by omega)
                have hcut : ∀ W : World, (Instr.slice 22 (.slice (some ⟨g, 0, none⟩) n cap) (some (.int .i64 fr)) (some (.int .i64 tt)) none).run Try.prog W = .ok (.slice (some ⟨g, fr, none⟩) (tt - fr) (cap - fr)) W := by
                  intro W
                  obtain ⟨i0, hi0, hz1, hz2, hz3⟩ := info_parts info3
                  have h := cut_mid (P := Try.prog) 22 3 .i64 .i64 Try.underlying22 hi0 1 hz2 (some ⟨g, 0, none⟩) n cap (fr : Int) (tt : Int) (by omega) (by omega) (by omega) hcap W
                  simpa [show ¬ cap = fr by omega, add_plain] using h
                have hz0 : 0 < (fr : Int) := by omega
                obtain ⟨ha, hfa⟩ := Kd.R_celln 0 HO.out ((fr : Int) - 1) (by omega) (by omega)
                have hae : rdOf 0 x ((fr : Int) - 1) = x.getD (fr - 1) 0 := by simp [rdOf, show ((fr : Int) - 1).toNat = fr - 1 by omega]
                rw [hae, show ((fr : Int) - 1).toNat = fr - 1 by omega] at ha
                clear hae hfa
                obtain ⟨ya, hya⟩ : ∃ y, x.getD (fr - 1) 0 = y := ⟨_, rfl⟩
                rw [hya] at ha
                have HYA := Aside0.mk hya
                clear hya
                have hw1 : IntKind.i64.wrap ((fr : Int) - 1) = (fr : Int) - 1 := IntWalk.i64_in _ (by omega)
                have hw2 : ((fr : Int) - 1).toNat = fr - 1 := by omega
                have hw3 : 0 ≤ (fr : Int) - 1 := by omega
                have hw4 : (fr : Int) - 1 < (n : Int) := by omega
                have hdo := fun W hg hr => HD.out W x fr (tt - fr) ya y hg hr (by omega) (by omega)
                have HDO := Aside0.mk hdo
                have HDN := Aside0.mk hnot
                have HQ := Aside0.mk (show subV q x fr tt = (match q ya y with | some u => fillV x fr u (tt - fr) | none => x) by rw [subV, if_neg e0, HYA.out, if_pos (by rw [HXL.out]; exact hTn), HY.out])
                have HFT := Aside0.mk (show fr < tt by omega)
                have HLT := Aside0.mk (show tt ≤ n by omega)
                clear hm0 hdo hnot hT0 hT1 hk hkg hfn hlt hTn e0
                go_wp2_with (first | (go_at_fn f1; refine hcall.mono ?_; rintro e w' ⟨rfl, hb⟩; obtain ⟨⟨nd, rfl⟩⟩ := hb; have n0 := Aside0.mk (Kd.R_drewN HO.out nd); have n1 := Aside0.mk (grown_then HG.out (grown_of_below (pw_below_drewN (Below.refl wr.heap.size wr) nd) (some g))); clear HO HG; have HO := n0; have HG := n1; clear n0 n1) | (go_at_fn f2; refine (HDO.out _ HG.out HO.out).mono ?_; rintro e w' ⟨rfl, hr, hg⟩; rw [← HQ.out] at hr; have n0 := Aside0.mk hr; have n1 := Aside0.mk (grown_then HG.out hg); clear HO HG hr hg; have HO := n0; have HG := n1; clear n0 n1))
                go_roundg k1
                case measure => have := HM.out; omega
                case rel => exact ⟨tt, k1, _, rfl, HLT.out, by have := HM.out; omega, Nat.le_refl _, HO, ⟨by rw [subV_length]; exact HXL.out⟩, HG, ⟨by rw [← HE.out, besideL_run HLX.out (by rw [HTE.out]; exact HDN.out), HTE.out]⟩⟩
            · by_cases e0 : fr = 0
              · skip
                have htz : ¬ (tt : Int) < (n : Int) := by omega
                have hefb : ((tt : Int) == (fr : Int)) = false := beq_eq_false_iff_ne.mpr (by omega)
                have hcut : ∀ W : World, (Instr.slice 22 (.slice (some ⟨g, 0, none⟩) n cap) (some (.int .i64 fr)) (some (.int .i64 tt)) none).run Try.prog W = .ok (.slice (some ⟨g, fr, none⟩) (tt - fr) (cap - fr)) W := by
                  intro W
                  obtain ⟨i0, hi0, hz1, hz2, hz3⟩ := info_parts info3
                  have h := cut_mid (P := Try.prog) 22 3 .i64 .i64 Try.underlying22 hi0 1 hz2 (some ⟨g, 0, none⟩) n cap (fr : Int) (tt : Int) (by omega) (by omega) (by omega) hcap W
                  simpa [show ¬ cap = fr by omega, add_plain] using h
                have htc : tt ≤ cap := by omega
                have hz0 : fr = 0 := e0
                subst hz0
                have hdo := fun W hg hr => HD.out W x 0 tt 0 0 hg hr (by omega) (by omega)
                simp only [Nat.sub_zero] at hdo
                have HDO := Aside0.mk hdo
                have HDN := Aside0.mk hnot
                have HQ := Aside0.mk (show subV q x 0 tt = (match q 0 0 with | some u => fillV x 0 u tt | none => x) by rw [subV, if_pos rfl, if_neg (by rw [HXL.out]; exact hTn), Nat.sub_zero])
                have HFT := Aside0.mk (show 0 < tt by omega)
                have HLT := Aside0.mk (show tt ≤ n by omega)
                clear hm0 hdo hnot hT0 hT1 hk hkg hfn hlt hTn
                go_wp2_with (first | (go_at_fn f1; refine hcall.mono ?_; rintro e w' ⟨rfl, hb⟩; obtain ⟨⟨nd, rfl⟩⟩ := hb; have n0 := Aside0.mk (Kd.R_drewN HO.out nd); have n1 := Aside0.mk (grown_then HG.out (grown_of_below (pw_below_drewN (Below.refl wr.heap.size wr) nd) (some g))); clear HO HG; have HO := n0; have HG := n1; clear n0 n1) | (go_at_fn f2; refine (HDO.out _ HG.out HO.out).mono ?_; rintro e w' ⟨rfl, hr, hg⟩; rw [← HQ.out] at hr; have n0 := Aside0.mk hr; have n1 := Aside0.mk (grown_then HG.out hg); clear HO HG hr hg; have HO := n0; have HG := n1; clear n0 n1))
                go_roundg k1
                case measure => have := HM.out; omega
                case rel => exact ⟨tt, k1, _, rfl, HLT.out, by have := HM.out; omega, Nat.le_refl _, HO, ⟨by rw [subV_length]; exact HXL.out⟩, HG, ⟨by rw [← HE.out, besideL_run HLX.out (by rw [HTE.out]; exact HDN.out), HTE.out]⟩⟩
              · skip
                have htz : ¬ (tt : Int) < (n : Int) := by omega
                have hefb : ((tt : Int) == (fr : Int)) = false := beq_eq_false_iff_ne.mpr (by omega)
                have hcut : ∀ W : World, (Instr.slice 22 (.slice (some ⟨g, 0, none⟩) n cap) (some (.int .i64 fr)) (some (.int .i64 tt)) none).run Try.prog W = .ok (.slice (some ⟨g, fr, none⟩) (tt - fr) (cap - fr)) W := by
                  intro W
                  obtain ⟨i0, hi0, hz1, hz2, hz3⟩ := info_parts info3
                  have h := cut_mid (P := Try.prog) 22 3 .i64 .i64 Try.underlying22 hi0 1 hz2 (some ⟨g, 0, none⟩) n cap (fr : Int) (tt : Int) (by omega) (by omega) (by omega) hcap W
                  simpa [show ¬ cap = fr by omega, add_plain] using h
                have hz0 : 0 < (fr : Int) := by omega
                obtain ⟨ha, hfa⟩ := Kd.R_celln 0 HO.out ((fr : Int) - 1) (by omega) (by omega)
                have hae : rdOf 0 x ((fr : Int) - 1) = x.getD (fr - 1) 0 := by simp [rdOf, show ((fr : Int) - 1).toNat = fr - 1 by omega]
                rw [hae, show ((fr : Int) - 1).toNat = fr - 1 by omega] at ha
                clear hae hfa
                obtain ⟨ya, hya⟩ : ∃ y, x.getD (fr - 1) 0 = y := ⟨_, rfl⟩
                rw [hya] at ha
                have HYA := Aside0.mk hya
                clear hya
                have hw1 : IntKind.i64.wrap ((fr : Int) - 1) = (fr : Int) - 1 := IntWalk.i64_in _ (by omega)
                have hw2 : ((fr : Int) - 1).toNat = fr - 1 := by omega
                have hw3 : 0 ≤ (fr : Int) - 1 := by omega
                have hw4 : (fr : Int) - 1 < (n : Int) := by omega
                have hdo := fun W hg hr => HD.out W x fr (tt - fr) ya 0 hg hr (by omega) (by omega)
                have HDO := Aside0.mk hdo
                have HDN := Aside0.mk hnot
                have HQ := Aside0.mk (show subV q x fr tt = (match q ya 0 with | some u => fillV x fr u (tt - fr) | none => x) by rw [subV, if_neg e0, HYA.out, if_neg (by rw [HXL.out]; exact hTn)])
                have HFT := Aside0.mk (show fr < tt by omega)
                have HLT := Aside0.mk (show tt ≤ n by omega)
                clear hm0 hdo hnot hT0 hT1 hk hkg hfn hlt hTn e0
                go_wp2_with (first | (go_at_fn f1; refine hcall.mono ?_; rintro e w' ⟨rfl, hb⟩; obtain ⟨⟨nd, rfl⟩⟩ := hb; have n0 := Aside0.mk (Kd.R_drewN HO.out nd); have n1 := Aside0.mk (grown_then HG.out (grown_of_below (pw_below_drewN (Below.refl wr.heap.size wr) nd) (some g))); clear HO HG; have HO := n0; have HG := n1; clear n0 n1) | (go_at_fn f2; refine (HDO.out _ HG.out HO.out).mono ?_; rintro e w' ⟨rfl, hr, hg⟩; rw [← HQ.out] at hr; have n0 := Aside0.mk hr; have n1 := Aside0.mk (grown_then HG.out hg); clear HO HG hr hg; have HO := n0; have HG := n1; clear n0 n1))
                go_roundg k1
                case measure => have := HM.out; omega
                case rel => exact ⟨tt, k1, _, rfl, HLT.out, by have := HM.out; omega, Nat.le_refl _, HO, ⟨by rw [subV_length]; exact HXL.out⟩, HG, ⟨by rw [← HE.out, besideL_run HLX.out (by rw [HTE.out]; exact HDN.out), HTE.out]⟩⟩
      --END
    · have hltz : ¬ (fr : Int) < (n : Int) := by omega
      have e : x = besideV p q l := by rw [← HE.out, besideL_end (by rw [HXL.out]; exact hlt)]
      subst e
      go_wp2
      go_end0
      exact ⟨rfl, HO.out, HG.out⟩


end Go.Proofs.Ytojehfdioeglgaa.S

namespace Go.Proofs.Ytojehfdioeglgaa.S
open Go.RowKit Go.Proofs.YtojehfdioeglgaaW.PrintWords Go.Proofs.YtojehfdioeglgaaW.PrintLast Go.Proofs.YtojehfdioeglgaaW.PrintMore
attribute [local go_sem] max2_int min2_int max_two min_two max_three min_three max_four min_four   -- for this text's walks alone
set_option linter.unusedVariables false
set_option linter.unusedSimpArgs false

/-! ### impl_weak_marks: function 35: weak.tpl -/
def upTo (f : List Int → Nat → List Int) (l : List Int) : Nat → List Int
  | 0 => l
  | k + 1 => f (upTo f l k) k
def lastV (p : Int → Bool) (l : List Int) : Nat → Int
  | 0 => 0
  | k + 1 => if p (l.getD k 0) = true then l.getD k 0 else lastV p l k
def opensV (c : Int) : Bool := c == 19 || c == 20 || c == 21
theorem opens_f (c : Int) : impl_opens.f c = some (opensV c) := by
  unfold impl_opens.f opensV
  by_cases h0 : c = 19
  · simp [h0]
  · by_cases h1 : c = 20
    · simp [h1]
    · simp [h0, h1]
def sideV (c : Int) : Bool := c == 1 || c == 2
theorem side_f (c : Int) : impl_isSide.f c = some (sideV c) := by
  unfold impl_isSide.f sideV
  by_cases h0 : c = 1
  · simp [h0]
  · simp [h0]
def strongV (c : Int) : Bool := sideV c || c == 3
def marksF (bf : Int) (l : List Int) (k : Nat) : List Int :=
  if l.getD k 0 = 9 then (if k = 0 then l.set k bf else if opensV (l.getD (k - 1) 0) = true then l.set k 13 else if l.getD (k - 1) 0 = 22 then l.set k 13 else l.set k (l.getD (k - 1) 0)) else l
def numbersF (l : List Int) (k : Nat) : List Int := if l.getD k 0 = 4 ∧ lastV strongV l k = 3 then l.set k 7 else l
def arabicF (l : List Int) (k : Nat) : List Int := if l.getD k 0 = 3 then l.set k 2 else l
def betweenF (l : List Int) (j : Nat) : List Int :=
  if l.getD j 0 = l.getD (j + 2) 0 then (if l.getD j 0 = 4 ∧ (l.getD (j + 1) 0 = 5 ∨ l.getD (j + 1) 0 = 8) then l.set (j + 1) 4 else if l.getD j 0 = 7 ∧ l.getD (j + 1) 0 = 8 then l.set (j + 1) 7 else l) else l
def termsV (l : List Int) : List Int := besideV (fun c => c == 6) (fun a b => if a = 4 ∨ b = 4 then some 4 else none) l
def othersF (l : List Int) (k : Nat) : List Int := if l.getD k 0 = 5 ∨ l.getD k 0 = 6 ∨ l.getD k 0 = 8 then l.set k 13 else l
def plainF (bf : Int) (l : List Int) (k : Nat) : List Int := if l.getD k 0 = 4 then (if lastV sideV l k = 1 ∨ lastV sideV l k = 0 ∧ bf = 1 then l.set k 1 else l) else l
def weakV (bf : Int) (l : List Int) : List Int :=
  let n := l.length
  upTo (plainF bf) (upTo othersF (termsV (upTo betweenF (upTo arabicF (upTo numbersF (upTo (marksF bf) l n) n) n) (n - 2))) n) n
def impl_LevelWeak.f (l0 : List Int) (a1 : Int) : Option (List Int) := some (if classesOkV l0 = true ∧ sideV a1 = true then weakV a1 l0 else [])
theorem blk_same {w w1 : World} {g gb : Nat} {o : Obj} (h : w.heap[gb]? = some o) (hg : w.grownBy w1 (some g)) (hne : gb ≠ g) : w1.heap[gb]? = some o := (hg.block gb (blk_lt h) (fun e => hne (by injection e))).trans h
theorem lenF {f : List Int → Nat → List Int} (hf : ∀ l k, (f l k).length = l.length) (l : List Int) : ∀ k, (upTo f l k).length = l.length
  | 0 => rfl
  | k + 1 => by rw [upTo, hf, lenF hf l k]
set_option maxHeartbeats 8000000 in
set_option maxRecDepth 100000 in
theorem lastOf_calls (p : Int → Bool) (f1 : Nat) (lb1 : Array Value) (eg1 : ∀ args w, (callFunc f1 args).run Try.prog w = .ok (.enter f1 args) w)
    (gb g n cap : Nat) (bf : Int) (l : List Int) (m : Nat) (base : Nat) (ok : Nat → Prop) (w : World) (hs : w.heap[gb]? = some (.cells #[.slice (some ⟨g, 0, none⟩) n cap, .int .i64 bf] 44 (0, 0))) (ho : Kd.R (Kd.int .i64) 3 w base ok (.slice (some ⟨g, 0, none⟩) n cap) l) (hm : m ≤ n) (hn : n ≤ 1000000)
    (hp : ∀ W x, Calls Try.prog f1 (#[.int .i64 x] ++ lb1) W fun e w' => e = .returned (.bool (p x)) ∧ Drawn0 W w') (r : Int) (hr : lastV p l m = r) :
    Calls Try.prog 64 #[.pointer (some ⟨gb, 0, none⟩), .int .i64 m, .func (.func f1) #[] lb1] w fun e w' => e = .returned (.int .i64 r) ∧ Drawn0 w w' := by
  subst hr
  have hc0 := (blk_cell hs 0).trans (show (#[.slice (some ⟨g, 0, none⟩) n cap, .int .i64 bf] : Array Value)[0]? = some (.slice (some ⟨g, 0, none⟩) n cap) from rfl)
  have HO := Aside0.mk ho
  have HC := Aside0.mk hc0
  have HP := Aside0.mk hp
  clear hs ho hp hc0
  go_enter Try.func64, Try.ntmps64
  go_wp2
  go_loopg [7] m (fun gg s7 wr => ∃ x : Int, s7 = .int .i64 x ∧ ∃ kk : Nat, Aside0 (x = (kk : Int) - 1) ∧ kk ≤ m ∧ kk ≤ gg ∧ Aside0 (Drawn0 w wr) ∧ Aside0 (lastV p l kk = lastV p l m))
  case atStart => exact ⟨_, rfl, m, ⟨rfl⟩, Nat.le_refl _, Nat.le_refl _, ⟨Drawn0.refl _⟩, ⟨rfl⟩⟩
  case round =>
    obtain ⟨x, rfl, kk, HX, hkk, hg, HD, HE⟩ := hrel
    obtain ⟨⟨nd, rfl⟩⟩ := HD.out
    have hx := HX.out
    cases kk with
    | zero =>
      obtain rfl : x = -1 := by omega
      clear hx
      go_wp2
      go_ret
      exact ⟨by rw [← HE.out]; rfl, ⟨⟨nd, rfl⟩⟩⟩
    | succ j =>
      obtain rfl : x = (j : Int) := by omega
      clear hx
      have hjn : (j : Int) < (n : Int) := by omega
      obtain ⟨hy, hf⟩ := Kd.R_celln 0 HO.out (j : Int) (by omega) hjn
      simp only [Int.toNat_natCast] at hy
      rw [show rdOf 0 l (j : Int) = l.getD j 0 by simp [rdOf]] at hy
      clear hf
      obtain ⟨y, hyy⟩ : ∃ y, l.getD j 0 = y := ⟨_, rfl⟩
      rw [hyy] at hy
      have HY := Aside0.mk hyy
      clear hyy
      have hc0 := HC.out
      have hj9 : j < 1000000 := by omega
      by_cases hq : p y = true
      · have hcall := HP.out (w.drewN nd) y
        rw [hq] at hcall
        have HQ := Aside0.mk hq
        clear hq
        go_wp2_with (go_at_fn f1; refine hcall.mono ?_; rintro e w' ⟨rfl, hb⟩; obtain ⟨⟨nd2, rfl⟩⟩ := hb)
        go_ret
        exact ⟨by rw [← HE.out, lastV, HY.out, if_pos HQ.out]; rfl, ⟨⟨_, rfl⟩⟩⟩
      · have hqf : p y = false := by simpa using hq
        have hcall := HP.out (w.drewN nd) y
        rw [hqf] at hcall
        have HQ := Aside0.mk hq
        clear hq hqf
        go_wp2_with (go_at_fn f1; refine hcall.mono ?_; rintro e w' ⟨rfl, hb⟩; obtain ⟨⟨nd2, rfl⟩⟩ := hb)
        go_roundg j
        case measure => omega
        case rel => exact ⟨_, rfl, j, ⟨rfl⟩, by omega, Nat.le_refl _, ⟨⟨⟨_, rfl⟩⟩⟩, ⟨by rw [← HE.out, lastV, HY.out, if_neg HQ.out]⟩⟩
--GENERATED
set_option maxHeartbeats 8000000 in
set_option maxRecDepth 100000 in

theorem numbers_1_calls (x : Int) (W : World) : Calls Try.prog 65 #[.int .i64 x] W fun e w' => e = .returned (.bool (strongV x)) ∧ Drawn0 W w' := by
  cases hs : sideV x with
  | true =>
    have e : strongV x = true := by simp [strongV, hs]
    have HE := Aside0.mk e
    have HC := Aside0.mk (show impl_isSide.f x = some true by rw [side_f, hs])
    clear e hs
    go_enter Try.func65, Try.ntmps65
    go_wp2_with (go_at_call 33; refine (impl_isSide.calls x true _ HC.out).mono ?_; rintro e w' ⟨rfl, ⟨nd, rfl⟩⟩)
    go_ret
    exact ⟨by rw [HE.out]; rfl, ⟨⟨_, rfl⟩⟩⟩
  | false =>
    have e : strongV x = (x == 3) := by simp [strongV, hs]
    have HE := Aside0.mk e
    have HC := Aside0.mk (show impl_isSide.f x = some false by rw [side_f, hs])
    clear e hs
    go_enter Try.func65, Try.ntmps65
    go_wp2_with (go_at_call 33; refine (impl_isSide.calls x false _ HC.out).mono ?_; rintro e w' ⟨rfl, ⟨nd, rfl⟩⟩)
    go_ret
    exact ⟨by rw [HE.out]; rfl, ⟨⟨_, rfl⟩⟩⟩
theorem sideC_calls (x : Int) (W : World) : Calls Try.prog 33 #[.int .i64 x] W fun e w' => e = .returned (.bool (sideV x)) ∧ Drawn0 W w' := impl_isSide.calls x (sideV x) W (side_f x)
set_option maxHeartbeats 8000000 in
set_option maxRecDepth 100000 in
theorem arabic_calls (gb g n cap : Nat) (A : Option Addr) (bf : Int) (l : List Int) (base : Nat) (ok : Nat → Prop) (w : World) (hs : w.heap[gb]? = some (.cells #[.slice A n cap, .int .i64 bf] 44 (0, 0))) (ho : Kd.R (Kd.int .i64) 3 w base ok (.slice A n cap) l) (hA : 0 < n → A = some ⟨g, 0, none⟩) (hgg : gb ≠ g) (hn : n ≤ 1000000) :
    Calls Try.prog 37 #[.pointer (some ⟨gb, 0, none⟩)] w fun e w' => e = .returned (.tuple #[]) ∧ Kd.R (Kd.int .i64) 3 w' base ok (.slice A n cap) (upTo (arabicF) l n) ∧ w.grownBy w' (some g) := by
  have hc0 := (blk_cell hs 0).trans (show (#[.slice A n cap, .int .i64 bf] : Array Value)[0]? = some (.slice A n cap) from rfl)
  have HS := Aside0.mk hs
  have HO := Aside0.mk ho
  have HA := Aside0.mk hA
  have HNL := Aside0.mk (Kd.R_reads' ho).1
  clear hs ho hA
  go_enter Try.func37, Try.ntmps37
  go_wp2
  clear hc0
  go_loopg [2, 3, 9] n (fun gg _ _ s9 wr => ∃ kk : Nat, s9 = .int .i64 (kk : Int) ∧ kk ≤ n ∧ n - kk ≤ gg ∧ Aside0 (Kd.R (Kd.int .i64) 3 wr base ok (.slice A n cap) (upTo (arabicF) l kk)) ∧ Aside0 (w.grownBy wr (some g)))
  case atStart => exact ⟨0, rfl, Nat.zero_le _, by omega, HO, ⟨grown_refl _ _⟩⟩
  case round =>
    clear HO
    obtain ⟨kk, rfl, hkk, hg, HO, HG⟩ := hrel
    have hc0 := (blk_cell (blk_same HS.out HG.out hgg) 0).trans (show (#[.slice A n cap, .int .i64 bf] : Array Value)[0]? = some (.slice A n cap) from rfl)
    by_cases hlt : kk < n
    · obtain rfl := HA.out (by omega)
      have hc1 := (blk_cell (blk_same HS.out HG.out hgg) 1).trans (show (#[.slice (some ⟨g, 0, none⟩) n cap, .int .i64 bf] : Array Value)[1]? = some (.int .i64 bf) from rfl)
      have HSR := Aside0.mk (blk_same HS.out HG.out hgg)
      obtain ⟨x, hx⟩ : ∃ x, upTo (arabicF) l kk = x := ⟨_, rfl⟩
      rw [hx] at HO
      have HX := Aside0.mk hx
      clear hx
      have hkn9 : kk < 1000000 := by omega
      have hltz : (kk : Int) < (n : Int) := by omega
      obtain ⟨hy, hfy⟩ := Kd.R_celln 0 HO.out ((kk : Int)) (by omega) (by omega)
      rw [show ((kk : Int)).toNat = kk by omega] at hy hfy
      rw [show rdOf 0 x ((kk : Int)) = x.getD (kk) 0 by simp only [rdOf]; rw [show ((kk : Int)).toNat = kk by omega]] at hy
      obtain ⟨y, hey⟩ : ∃ y, x.getD (kk) 0 = y := ⟨_, rfl⟩
      rw [hey] at hy
      have HY := Aside0.mk hey
      clear hey
      by_cases h1 : y = 3
      · subst h1
        have HF := Aside0.mk (show upTo arabicF l (kk + 1) = x.set kk 2 by rw [upTo, HX.out, arabicF, if_pos HY.out])
        go_wp2
        go_roundg (n - (kk + 1))
        case measure => omega
        case rel =>
          have hp := Kd.R_putg HO.out ((kk : Int)) 2
          rw [show ((kk : Int)).toNat = kk by omega] at hp
          exact ⟨kk + 1, by go_num, by omega, by omega, ⟨by rw [HF.out]; exact hp.1⟩, ⟨grown_then HG.out hp.2⟩⟩
      · have h1b : (y == 3) = false := beq_eq_false_iff_ne.mpr h1
        have HF := Aside0.mk (show upTo arabicF l (kk + 1) = x by rw [upTo, HX.out, arabicF, if_neg (by rw [HY.out]; exact h1)])
        clear h1
        go_wp2
        go_roundg (n - (kk + 1))
        case measure => omega
        case rel =>
          exact ⟨kk + 1, by go_num, by omega, by omega, ⟨by rw [HF.out]; exact HO.out⟩, HG⟩
    · have hltz : ¬ (kk : Int) < (n : Int) := by omega
      have e : kk = n := by omega
      have HE := Aside0.mk e
      clear e
      go_wp2
      go_end0
      exact ⟨rfl, by have h := HO.out; rw [HE.out] at h; exact h, HG.out⟩
set_option maxHeartbeats 8000000 in
set_option maxRecDepth 100000 in
theorem others_calls (gb g n cap : Nat) (A : Option Addr) (bf : Int) (l : List Int) (base : Nat) (ok : Nat → Prop) (w : World) (hs : w.heap[gb]? = some (.cells #[.slice A n cap, .int .i64 bf] 44 (0, 0))) (ho : Kd.R (Kd.int .i64) 3 w base ok (.slice A n cap) l) (hA : 0 < n → A = some ⟨g, 0, none⟩) (hgg : gb ≠ g) (hn : n ≤ 1000000) :
    Calls Try.prog 40 #[.pointer (some ⟨gb, 0, none⟩)] w fun e w' => e = .returned (.tuple #[]) ∧ Kd.R (Kd.int .i64) 3 w' base ok (.slice A n cap) (upTo (othersF) l n) ∧ w.grownBy w' (some g) := by
  have hc0 := (blk_cell hs 0).trans (show (#[.slice A n cap, .int .i64 bf] : Array Value)[0]? = some (.slice A n cap) from rfl)
  have HS := Aside0.mk hs
  have HO := Aside0.mk ho
  have HA := Aside0.mk hA
  have HNL := Aside0.mk (Kd.R_reads' ho).1
  clear hs ho hA
  go_enter Try.func40, Try.ntmps40
  go_wp2
  clear hc0
  go_loopg [2, 3, 9] n (fun gg _ _ s9 wr => ∃ kk : Nat, s9 = .int .i64 (kk : Int) ∧ kk ≤ n ∧ n - kk ≤ gg ∧ Aside0 (Kd.R (Kd.int .i64) 3 wr base ok (.slice A n cap) (upTo (othersF) l kk)) ∧ Aside0 (w.grownBy wr (some g)))
  case atStart => exact ⟨0, rfl, Nat.zero_le _, by omega, HO, ⟨grown_refl _ _⟩⟩
  case round =>
    clear HO
    obtain ⟨kk, rfl, hkk, hg, HO, HG⟩ := hrel
    have hc0 := (blk_cell (blk_same HS.out HG.out hgg) 0).trans (show (#[.slice A n cap, .int .i64 bf] : Array Value)[0]? = some (.slice A n cap) from rfl)
    by_cases hlt : kk < n
    · obtain rfl := HA.out (by omega)
      have hc1 := (blk_cell (blk_same HS.out HG.out hgg) 1).trans (show (#[.slice (some ⟨g, 0, none⟩) n cap, .int .i64 bf] : Array Value)[1]? = some (.int .i64 bf) from rfl)
      have HSR := Aside0.mk (blk_same HS.out HG.out hgg)
      obtain ⟨x, hx⟩ : ∃ x, upTo (othersF) l kk = x := ⟨_, rfl⟩
      rw [hx] at HO
      have HX := Aside0.mk hx
      clear hx
      have hkn9 : kk < 1000000 := by omega
      have hltz : (kk : Int) < (n : Int) := by omega
      obtain ⟨hy, hfy⟩ := Kd.R_celln 0 HO.out ((kk : Int)) (by omega) (by omega)
      rw [show ((kk : Int)).toNat = kk by omega] at hy hfy
      rw [show rdOf 0 x ((kk : Int)) = x.getD (kk) 0 by simp only [rdOf]; rw [show ((kk : Int)).toNat = kk by omega]] at hy
      obtain ⟨y, hey⟩ : ∃ y, x.getD (kk) 0 = y := ⟨_, rfl⟩
      rw [hey] at hy
      have HY := Aside0.mk hey
      clear hey
      by_cases h1 : y = 5 ∨ y = 6 ∨ y = 8
      · have HF := Aside0.mk (show upTo othersF l (kk + 1) = x.set kk 13 by rw [upTo, HX.out, othersF, if_pos (by rw [HY.out]; exact h1)])
        rcases h1 with rfl | rfl | rfl
        · skip
          go_wp2
          go_roundg (n - (kk + 1))
          case measure => omega
          case rel =>
            have hp := Kd.R_putg HO.out ((kk : Int)) 13
            rw [show ((kk : Int)).toNat = kk by omega] at hp
            exact ⟨kk + 1, by go_num, by omega, by omega, ⟨by rw [HF.out]; exact hp.1⟩, ⟨grown_then HG.out hp.2⟩⟩
        · skip
          go_wp2
          go_roundg (n - (kk + 1))
          case measure => omega
          case rel =>
            have hp := Kd.R_putg HO.out ((kk : Int)) 13
            rw [show ((kk : Int)).toNat = kk by omega] at hp
            exact ⟨kk + 1, by go_num, by omega, by omega, ⟨by rw [HF.out]; exact hp.1⟩, ⟨grown_then HG.out hp.2⟩⟩
        · skip
          go_wp2
          go_roundg (n - (kk + 1))
          case measure => omega
          case rel =>
            have hp := Kd.R_putg HO.out ((kk : Int)) 13
            rw [show ((kk : Int)).toNat = kk by omega] at hp
            exact ⟨kk + 1, by go_num, by omega, by omega, ⟨by rw [HF.out]; exact hp.1⟩, ⟨grown_then HG.out hp.2⟩⟩
      · have h5 : (y == 5) = false := beq_eq_false_iff_ne.mpr (fun e => h1 (.inl e))
        have h6 : (y == 6) = false := beq_eq_false_iff_ne.mpr (fun e => h1 (.inr (.inl e)))
        have h8 : (y == 8) = false := beq_eq_false_iff_ne.mpr (fun e => h1 (.inr (.inr e)))
        have HF := Aside0.mk (show upTo othersF l (kk + 1) = x by rw [upTo, HX.out, othersF, if_neg (by rw [HY.out]; exact h1)])
        clear h1
        go_wp2
        go_roundg (n - (kk + 1))
        case measure => omega
        case rel =>
          exact ⟨kk + 1, by go_num, by omega, by omega, ⟨by rw [HF.out]; exact HO.out⟩, HG⟩
    · have hltz : ¬ (kk : Int) < (n : Int) := by omega
      have e : kk = n := by omega
      have HE := Aside0.mk e
      clear e
      go_wp2
      go_end0
      exact ⟨rfl, by have h := HO.out; rw [HE.out] at h; exact h, HG.out⟩
set_option maxHeartbeats 8000000 in
set_option maxRecDepth 100000 in
theorem numbers_calls (gb g n cap : Nat) (A : Option Addr) (bf : Int) (l : List Int) (base : Nat) (ok : Nat → Prop) (w : World) (hs : w.heap[gb]? = some (.cells #[.slice A n cap, .int .i64 bf] 44 (0, 0))) (ho : Kd.R (Kd.int .i64) 3 w base ok (.slice A n cap) l) (hA : 0 < n → A = some ⟨g, 0, none⟩) (hgg : gb ≠ g) (hn : n ≤ 1000000) :
    Calls Try.prog 36 #[.pointer (some ⟨gb, 0, none⟩)] w fun e w' => e = .returned (.tuple #[]) ∧ Kd.R (Kd.int .i64) 3 w' base ok (.slice A n cap) (upTo (numbersF) l n) ∧ w.grownBy w' (some g) := by
  have hc0 := (blk_cell hs 0).trans (show (#[.slice A n cap, .int .i64 bf] : Array Value)[0]? = some (.slice A n cap) from rfl)
  have HS := Aside0.mk hs
  have HO := Aside0.mk ho
  have HA := Aside0.mk hA
  have HNL := Aside0.mk (Kd.R_reads' ho).1
  clear hs ho hA
  go_enter Try.func36, Try.ntmps36
  go_wp2
  clear hc0
  go_loopg [2, 3, 9] n (fun gg _ _ s9 wr => ∃ kk : Nat, s9 = .int .i64 (kk : Int) ∧ kk ≤ n ∧ n - kk ≤ gg ∧ Aside0 (Kd.R (Kd.int .i64) 3 wr base ok (.slice A n cap) (upTo (numbersF) l kk)) ∧ Aside0 (w.grownBy wr (some g)))
  case atStart => exact ⟨0, rfl, Nat.zero_le _, by omega, HO, ⟨grown_refl _ _⟩⟩
  case round =>
    clear HO
    obtain ⟨kk, rfl, hkk, hg, HO, HG⟩ := hrel
    have hc0 := (blk_cell (blk_same HS.out HG.out hgg) 0).trans (show (#[.slice A n cap, .int .i64 bf] : Array Value)[0]? = some (.slice A n cap) from rfl)
    by_cases hlt : kk < n
    · obtain rfl := HA.out (by omega)
      have hc1 := (blk_cell (blk_same HS.out HG.out hgg) 1).trans (show (#[.slice (some ⟨g, 0, none⟩) n cap, .int .i64 bf] : Array Value)[1]? = some (.int .i64 bf) from rfl)
      have HSR := Aside0.mk (blk_same HS.out HG.out hgg)
      obtain ⟨x, hx⟩ : ∃ x, upTo (numbersF) l kk = x := ⟨_, rfl⟩
      rw [hx] at HO
      have HX := Aside0.mk hx
      clear hx
      have hkn9 : kk < 1000000 := by omega
      have hltz : (kk : Int) < (n : Int) := by omega
      obtain ⟨hy, hfy⟩ := Kd.R_celln 0 HO.out ((kk : Int)) (by omega) (by omega)
      rw [show ((kk : Int)).toNat = kk by omega] at hy hfy
      rw [show rdOf 0 x ((kk : Int)) = x.getD (kk) 0 by simp only [rdOf]; rw [show ((kk : Int)).toNat = kk by omega]] at hy
      obtain ⟨y, hey⟩ : ∃ y, x.getD (kk) 0 = y := ⟨_, rfl⟩
      rw [hey] at hy
      have HY := Aside0.mk hey
      clear hey
      by_cases h1 : y = 4
      · subst h1
        obtain ⟨v, hv⟩ : ∃ v, lastV strongV x kk = v := ⟨_, rfl⟩
        have HLV := Aside0.mk hv
        clear hv
        by_cases h2 : v = 3
        · subst h2
          have HF := Aside0.mk (show upTo numbersF l (kk + 1) = x.set kk 7 by rw [upTo, HX.out, numbersF, if_pos ⟨HY.out, HLV.out⟩])
          go_wp2_with (go_at_call 64; refine (lastOf_calls strongV 65 #[] (fun _ _ => by kernel_rfl) gb g n cap bf x kk base ok _ HSR.out HO.out (by omega) hn (fun W z => numbers_1_calls z W) _ HLV.out).mono ?_; rintro e w' ⟨rfl, hb⟩; obtain ⟨⟨nd, rfl⟩⟩ := hb; have n0 := Aside0.mk (Kd.R_drewN HO.out nd); have n1 := Aside0.mk (grown_then HG.out (grown_of_below (pw_below_drewN (Below.refl wr.heap.size wr) nd) (some g))); clear HO HG; have HO := n0; have HG := n1; clear n0 n1)
          go_roundg (n - (kk + 1))
          case measure => omega
          case rel =>
            have hp := Kd.R_putg HO.out ((kk : Int)) 7
            rw [show ((kk : Int)).toNat = kk by omega] at hp
            exact ⟨kk + 1, by go_num, by omega, by omega, ⟨by rw [HF.out]; exact hp.1⟩, ⟨grown_then HG.out hp.2⟩⟩
        · have h2b : (v == 3) = false := beq_eq_false_iff_ne.mpr h2
          have HF := Aside0.mk (show upTo numbersF l (kk + 1) = x by rw [upTo, HX.out, numbersF, if_neg (by rw [HLV.out]; exact fun h => h2 h.2)])
          clear h2
          go_wp2_with (go_at_call 64; refine (lastOf_calls strongV 65 #[] (fun _ _ => by kernel_rfl) gb g n cap bf x kk base ok _ HSR.out HO.out (by omega) hn (fun W z => numbers_1_calls z W) _ HLV.out).mono ?_; rintro e w' ⟨rfl, hb⟩; obtain ⟨⟨nd, rfl⟩⟩ := hb; have n0 := Aside0.mk (Kd.R_drewN HO.out nd); have n1 := Aside0.mk (grown_then HG.out (grown_of_below (pw_below_drewN (Below.refl wr.heap.size wr) nd) (some g))); clear HO HG; have HO := n0; have HG := n1; clear n0 n1)
          go_roundg (n - (kk + 1))
          case measure => omega
          case rel =>
            exact ⟨kk + 1, by go_num, by omega, by omega, ⟨by rw [HF.out]; exact HO.out⟩, HG⟩
      · have h1b : (y == 4) = false := beq_eq_false_iff_ne.mpr h1
        have HF := Aside0.mk (show upTo numbersF l (kk + 1) = x by rw [upTo, HX.out, numbersF, if_neg (by rw [HY.out]; exact fun h => h1 h.1)])
        clear h1
        go_wp2
        go_roundg (n - (kk + 1))
        case measure => omega
        case rel =>
          exact ⟨kk + 1, by go_num, by omega, by omega, ⟨by rw [HF.out]; exact HO.out⟩, HG⟩
    · have hltz : ¬ (kk : Int) < (n : Int) := by omega
      have e : kk = n := by omega
      have HE := Aside0.mk e
      clear e
      go_wp2
      go_end0
      exact ⟨rfl, by have h := HO.out; rw [HE.out] at h; exact h, HG.out⟩
set_option maxHeartbeats 8000000 in
set_option maxRecDepth 100000 in
theorem plainNumbers_calls (gb g n cap : Nat) (A : Option Addr) (bf : Int) (l : List Int) (base : Nat) (ok : Nat → Prop) (w : World) (hs : w.heap[gb]? = some (.cells #[.slice A n cap, .int .i64 bf] 44 (0, 0))) (ho : Kd.R (Kd.int .i64) 3 w base ok (.slice A n cap) l) (hA : 0 < n → A = some ⟨g, 0, none⟩) (hgg : gb ≠ g) (hn : n ≤ 1000000) :
    Calls Try.prog 41 #[.pointer (some ⟨gb, 0, none⟩)] w fun e w' => e = .returned (.tuple #[]) ∧ Kd.R (Kd.int .i64) 3 w' base ok (.slice A n cap) (upTo (plainF bf) l n) ∧ w.grownBy w' (some g) := by
  have hc0 := (blk_cell hs 0).trans (show (#[.slice A n cap, .int .i64 bf] : Array Value)[0]? = some (.slice A n cap) from rfl)
  have HS := Aside0.mk hs
  have HO := Aside0.mk ho
  have HA := Aside0.mk hA
  have HNL := Aside0.mk (Kd.R_reads' ho).1
  clear hs ho hA
  go_enter Try.func41, Try.ntmps41
  go_wp2
  clear hc0
  go_loopg [2, 3, 4, 10] n (fun gg _ _ _ s9 wr => ∃ kk : Nat, s9 = .int .i64 (kk : Int) ∧ kk ≤ n ∧ n - kk ≤ gg ∧ Aside0 (Kd.R (Kd.int .i64) 3 wr base ok (.slice A n cap) (upTo (plainF bf) l kk)) ∧ Aside0 (w.grownBy wr (some g)))
  case atStart => exact ⟨0, rfl, Nat.zero_le _, by omega, HO, ⟨grown_refl _ _⟩⟩
  case round =>
    clear HO
    obtain ⟨kk, rfl, hkk, hg, HO, HG⟩ := hrel
    have hc0 := (blk_cell (blk_same HS.out HG.out hgg) 0).trans (show (#[.slice A n cap, .int .i64 bf] : Array Value)[0]? = some (.slice A n cap) from rfl)
    by_cases hlt : kk < n
    · obtain rfl := HA.out (by omega)
      have hc1 := (blk_cell (blk_same HS.out HG.out hgg) 1).trans (show (#[.slice (some ⟨g, 0, none⟩) n cap, .int .i64 bf] : Array Value)[1]? = some (.int .i64 bf) from rfl)
      have HSR := Aside0.mk (blk_same HS.out HG.out hgg)
      obtain ⟨x, hx⟩ : ∃ x, upTo (plainF bf) l kk = x := ⟨_, rfl⟩
      rw [hx] at HO
      have HX := Aside0.mk hx
      clear hx
      have hkn9 : kk < 1000000 := by omega
      have hltz : (kk : Int) < (n : Int) := by omega
      obtain ⟨hy, hfy⟩ := Kd.R_celln 0 HO.out ((kk : Int)) (by omega) (by omega)
      rw [show ((kk : Int)).toNat = kk by omega] at hy hfy
      rw [show rdOf 0 x ((kk : Int)) = x.getD (kk) 0 by simp only [rdOf]; rw [show ((kk : Int)).toNat = kk by omega]] at hy
      obtain ⟨y, hey⟩ : ∃ y, x.getD (kk) 0 = y := ⟨_, rfl⟩
      rw [hey] at hy
      have HY := Aside0.mk hey
      clear hey
      by_cases h1 : y = 4
      · subst h1
        obtain ⟨v, hv⟩ : ∃ v, lastV sideV x kk = v := ⟨_, rfl⟩
        have HLV := Aside0.mk hv
        clear hv
        by_cases h2 : v = 1
        · subst h2
          have HF := Aside0.mk (show upTo (plainF bf) l (kk + 1) = x.set kk 1 by rw [upTo, HX.out, plainF, if_pos HY.out, if_pos (.inl HLV.out)])
          go_wp2_with (go_at_call 64; refine (lastOf_calls sideV 33 #[] (fun _ _ => by kernel_rfl) gb g n cap bf x kk base ok _ HSR.out HO.out (by omega) hn (fun W z => sideC_calls z W) _ HLV.out).mono ?_; rintro e w' ⟨rfl, hb⟩; obtain ⟨⟨nd, rfl⟩⟩ := hb; have n0 := Aside0.mk (Kd.R_drewN HO.out nd); have n1 := Aside0.mk (grown_then HG.out (grown_of_below (pw_below_drewN (Below.refl wr.heap.size wr) nd) (some g))); clear HO HG; have HO := n0; have HG := n1; clear n0 n1)
          go_roundg (n - (kk + 1))
          case measure => omega
          case rel =>
            have hp := Kd.R_putg HO.out ((kk : Int)) 1
            rw [show ((kk : Int)).toNat = kk by omega] at hp
            exact ⟨kk + 1, by go_num, by omega, by omega, ⟨by rw [HF.out]; exact hp.1⟩, ⟨grown_then HG.out hp.2⟩⟩
        · have h2b : (v == 1) = false := beq_eq_false_iff_ne.mpr h2
          by_cases h3 : v = 0
          · subst h3
            by_cases h4 : bf = 1
            · have h4b : (bf == 1) = true := beq_iff_eq.mpr h4
              have HF := Aside0.mk (show upTo (plainF bf) l (kk + 1) = x.set kk 1 by rw [upTo, HX.out, plainF, if_pos HY.out, if_pos (.inr ⟨HLV.out, h4⟩)])
              clear h4 h2
              go_wp2_with (go_at_call 64; refine (lastOf_calls sideV 33 #[] (fun _ _ => by kernel_rfl) gb g n cap bf x kk base ok _ HSR.out HO.out (by omega) hn (fun W z => sideC_calls z W) _ HLV.out).mono ?_; rintro e w' ⟨rfl, hb⟩; obtain ⟨⟨nd, rfl⟩⟩ := hb; have n0 := Aside0.mk (Kd.R_drewN HO.out nd); have n1 := Aside0.mk (grown_then HG.out (grown_of_below (pw_below_drewN (Below.refl wr.heap.size wr) nd) (some g))); clear HO HG; have HO := n0; have HG := n1; clear n0 n1)
              go_roundg (n - (kk + 1))
              case measure => omega
              case rel =>
                have hp := Kd.R_putg HO.out ((kk : Int)) 1
                rw [show ((kk : Int)).toNat = kk by omega] at hp
                exact ⟨kk + 1, by go_num, by omega, by omega, ⟨by rw [HF.out]; exact hp.1⟩, ⟨grown_then HG.out hp.2⟩⟩
            · have h4b : (bf == 1) = false := beq_eq_false_iff_ne.mpr h4
              have HF := Aside0.mk (show upTo (plainF bf) l (kk + 1) = x by rw [upTo, HX.out, plainF, if_pos HY.out, if_neg (by rw [HLV.out]; rintro (h | h); (exact h2 h); exact h4 h.2)])
              clear h4 h2
              go_wp2_with (go_at_call 64; refine (lastOf_calls sideV 33 #[] (fun _ _ => by kernel_rfl) gb g n cap bf x kk base ok _ HSR.out HO.out (by omega) hn (fun W z => sideC_calls z W) _ HLV.out).mono ?_; rintro e w' ⟨rfl, hb⟩; obtain ⟨⟨nd, rfl⟩⟩ := hb; have n0 := Aside0.mk (Kd.R_drewN HO.out nd); have n1 := Aside0.mk (grown_then HG.out (grown_of_below (pw_below_drewN (Below.refl wr.heap.size wr) nd) (some g))); clear HO HG; have HO := n0; have HG := n1; clear n0 n1)
              go_roundg (n - (kk + 1))
              case measure => omega
              case rel =>
                exact ⟨kk + 1, by go_num, by omega, by omega, ⟨by rw [HF.out]; exact HO.out⟩, HG⟩
          · have h3b : (v == 0) = false := beq_eq_false_iff_ne.mpr h3
            have HF := Aside0.mk (show upTo (plainF bf) l (kk + 1) = x by rw [upTo, HX.out, plainF, if_pos HY.out, if_neg (by rw [HLV.out]; rintro (h | h); (exact h2 h); exact h3 h.1)])
            clear h3 h2
            go_wp2_with (go_at_call 64; refine (lastOf_calls sideV 33 #[] (fun _ _ => by kernel_rfl) gb g n cap bf x kk base ok _ HSR.out HO.out (by omega) hn (fun W z => sideC_calls z W) _ HLV.out).mono ?_; rintro e w' ⟨rfl, hb⟩; obtain ⟨⟨nd, rfl⟩⟩ := hb; have n0 := Aside0.mk (Kd.R_drewN HO.out nd); have n1 := Aside0.mk (grown_then HG.out (grown_of_below (pw_below_drewN (Below.refl wr.heap.size wr) nd) (some g))); clear HO HG; have HO := n0; have HG := n1; clear n0 n1)
            go_roundg (n - (kk + 1))
            case measure => omega
            case rel =>
              exact ⟨kk + 1, by go_num, by omega, by omega, ⟨by rw [HF.out]; exact HO.out⟩, HG⟩
      · have h1b : (y == 4) = false := beq_eq_false_iff_ne.mpr h1
        have h1c : (y != 4) = true := bne_iff_ne.mpr h1
        have HF := Aside0.mk (show upTo (plainF bf) l (kk + 1) = x by rw [upTo, HX.out, plainF, if_neg (by rw [HY.out]; exact h1)])
        clear h1
        go_wp2
        go_roundg (n - (kk + 1))
        case measure => omega
        case rel =>
          exact ⟨kk + 1, by go_num, by omega, by omega, ⟨by rw [HF.out]; exact HO.out⟩, HG⟩
    · have hltz : ¬ (kk : Int) < (n : Int) := by omega
      have e : kk = n := by omega
      have HE := Aside0.mk e
      clear e
      go_wp2
      go_end0
      exact ⟨rfl, by have h := HO.out; rw [HE.out] at h; exact h, HG.out⟩
set_option maxHeartbeats 8000000 in
set_option maxRecDepth 100000 in
theorem marks_calls (gb g n cap : Nat) (A : Option Addr) (bf : Int) (l : List Int) (base : Nat) (ok : Nat → Prop) (w : World) (hs : w.heap[gb]? = some (.cells #[.slice A n cap, .int .i64 bf] 44 (0, 0))) (ho : Kd.R (Kd.int .i64) 3 w base ok (.slice A n cap) l) (hA : 0 < n → A = some ⟨g, 0, none⟩) (hgg : gb ≠ g) (hn : n ≤ 1000000) :
    Calls Try.prog 35 #[.pointer (some ⟨gb, 0, none⟩)] w fun e w' => e = .returned (.tuple #[]) ∧ Kd.R (Kd.int .i64) 3 w' base ok (.slice A n cap) (upTo (marksF bf) l n) ∧ w.grownBy w' (some g) := by
  have hc0 := (blk_cell hs 0).trans (show (#[.slice A n cap, .int .i64 bf] : Array Value)[0]? = some (.slice A n cap) from rfl)
  have HS := Aside0.mk hs
  have HO := Aside0.mk ho
  have HA := Aside0.mk hA
  have HNL := Aside0.mk (Kd.R_reads' ho).1
  clear hs ho hA
  go_enter Try.func35, Try.ntmps35
  go_wp2
  clear hc0
  go_loopg [2, 3, 9] n (fun gg _ _ s9 wr => ∃ kk : Nat, s9 = .int .i64 (kk : Int) ∧ kk ≤ n ∧ n - kk ≤ gg ∧ Aside0 (Kd.R (Kd.int .i64) 3 wr base ok (.slice A n cap) (upTo (marksF bf) l kk)) ∧ Aside0 (w.grownBy wr (some g)))
  case atStart => exact ⟨0, rfl, Nat.zero_le _, by omega, HO, ⟨grown_refl _ _⟩⟩
  case round =>
    clear HO
    obtain ⟨kk, rfl, hkk, hg, HO, HG⟩ := hrel
    have hc0 := (blk_cell (blk_same HS.out HG.out hgg) 0).trans (show (#[.slice A n cap, .int .i64 bf] : Array Value)[0]? = some (.slice A n cap) from rfl)
    by_cases hlt : kk < n
    · obtain rfl := HA.out (by omega)
      have hc1 := (blk_cell (blk_same HS.out HG.out hgg) 1).trans (show (#[.slice (some ⟨g, 0, none⟩) n cap, .int .i64 bf] : Array Value)[1]? = some (.int .i64 bf) from rfl)
      have HSR := Aside0.mk (blk_same HS.out HG.out hgg)
      obtain ⟨x, hx⟩ : ∃ x, upTo (marksF bf) l kk = x := ⟨_, rfl⟩
      rw [hx] at HO
      have HX := Aside0.mk hx
      clear hx
      have hkn9 : kk < 1000000 := by omega
      have hltz : (kk : Int) < (n : Int) := by omega
      obtain ⟨hy, hfy⟩ := Kd.R_celln 0 HO.out ((kk : Int)) (by omega) (by omega)
      rw [show ((kk : Int)).toNat = kk by omega] at hy hfy
      rw [show rdOf 0 x ((kk : Int)) = x.getD (kk) 0 by simp only [rdOf]; rw [show ((kk : Int)).toNat = kk by omega]] at hy
      obtain ⟨y, hey⟩ : ∃ y, x.getD (kk) 0 = y := ⟨_, rfl⟩
      rw [hey] at hy
      have HY := Aside0.mk hey
      clear hey
      by_cases h1 : y = 9
      · subst h1
        by_cases h2 : kk = 0
        · subst h2
          have HF := Aside0.mk (show upTo (marksF bf) l (0 + 1) = x.set 0 bf by rw [upTo, HX.out, marksF, if_pos HY.out, if_pos rfl])
          go_wp2
          go_region
          go_wp2
          go_roundg (n - (0 + 1))
          case measure => omega
          case rel =>
            have hp := Kd.R_putg (Kd.R_drewN HO.out 1) (((0 : Nat) : Int)) bf
            rw [show (((0 : Nat) : Int)).toNat = 0 by omega] at hp
            exact ⟨0 + 1, by go_num, by omega, by omega, ⟨by rw [HF.out]; exact hp.1⟩, ⟨grown_then HG.out (grown_then (grown_of_below (pw_below_drewN (Below.refl _ _) 1) (some g)) hp.2)⟩⟩
        · have h2b : ((kk : Int) == 0) = false := beq_eq_false_iff_ne.mpr (by omega)
          obtain ⟨hz, hfz⟩ := Kd.R_celln 0 HO.out ((kk : Int) - 1) (by omega) (by omega)
          rw [show ((kk : Int) - 1).toNat = kk - 1 by omega] at hz hfz
          rw [show rdOf 0 x ((kk : Int) - 1) = x.getD (kk - 1) 0 by simp only [rdOf]; rw [show ((kk : Int) - 1).toNat = kk - 1 by omega]] at hz
          obtain ⟨z, hez⟩ : ∃ y, x.getD (kk - 1) 0 = y := ⟨_, rfl⟩
          rw [hez] at hz
          have HZ := Aside0.mk hez
          clear hez
          have hw1 : IntKind.i64.wrap ((kk : Int) - 1) = (kk : Int) - 1 := IntWalk.i64_in _ (by omega)
          have hw2 : ((kk : Int) - 1).toNat = kk - 1 := by omega
          have hw3 : 0 ≤ (kk : Int) - 1 := by omega
          have hw4 : (kk : Int) - 1 < (n : Int) := by omega
          cases h3 : opensV z with
          | true =>
            have HOP := Aside0.mk (show impl_opens.f z = some true by rw [opens_f, h3])
            have HF := Aside0.mk (show upTo (marksF bf) l (kk + 1) = x.set kk 13 by rw [upTo, HX.out, marksF, if_pos HY.out, if_neg h2, if_pos (by rw [HZ.out]; exact h3)])
            clear h3 h2
            go_wp2_with (go_at_call 63; refine (impl_opens.calls z true _ HOP.out).mono ?_; rintro e w' ⟨rfl, ⟨nd, rfl⟩⟩; have n0 := Aside0.mk (Kd.R_drewN HO.out nd); have n1 := Aside0.mk (grown_then HG.out (grown_of_below (pw_below_drewN (Below.refl wr.heap.size wr) nd) (some g))); clear HO HG; have HO := n0; have HG := n1; clear n0 n1)
            go_roundg (n - (kk + 1))
            case measure => omega
            case rel =>
              have hp := Kd.R_putg HO.out ((kk : Int)) 13
              rw [show ((kk : Int)).toNat = kk by omega] at hp
              exact ⟨kk + 1, by go_num, by omega, by omega, ⟨by rw [HF.out]; exact hp.1⟩, ⟨grown_then HG.out hp.2⟩⟩
          | false =>
            have HOP := Aside0.mk (show impl_opens.f z = some false by rw [opens_f, h3])
            by_cases h4 : z = 22
            · subst h4
              have HF := Aside0.mk (show upTo (marksF bf) l (kk + 1) = x.set kk 13 by rw [upTo, HX.out, marksF, if_pos HY.out, if_neg h2, if_neg (by rw [HZ.out, h3]; simp), if_pos HZ.out])
              clear h3 h2
              go_wp2_with (go_at_call 63; refine (impl_opens.calls 22 false _ HOP.out).mono ?_; rintro e w' ⟨rfl, ⟨nd, rfl⟩⟩; have n0 := Aside0.mk (Kd.R_drewN HO.out nd); have n1 := Aside0.mk (grown_then HG.out (grown_of_below (pw_below_drewN (Below.refl wr.heap.size wr) nd) (some g))); clear HO HG; have HO := n0; have HG := n1; clear n0 n1)
              go_roundg (n - (kk + 1))
              case measure => omega
              case rel =>
                have hp := Kd.R_putg HO.out ((kk : Int)) 13
                rw [show ((kk : Int)).toNat = kk by omega] at hp
                exact ⟨kk + 1, by go_num, by omega, by omega, ⟨by rw [HF.out]; exact hp.1⟩, ⟨grown_then HG.out hp.2⟩⟩
            · have h4b : (z == 22) = false := beq_eq_false_iff_ne.mpr h4
              have HF := Aside0.mk (show upTo (marksF bf) l (kk + 1) = x.set kk z by rw [upTo, HX.out, marksF, if_pos HY.out, if_neg h2, if_neg (by rw [HZ.out, h3]; simp), if_neg (by rw [HZ.out]; exact h4), HZ.out])
              clear h3 h2 h4
              go_wp2_with (go_at_call 63; refine (impl_opens.calls z false _ HOP.out).mono ?_; rintro e w' ⟨rfl, ⟨nd, rfl⟩⟩; have n0 := Aside0.mk (Kd.R_drewN HO.out nd); have n1 := Aside0.mk (grown_then HG.out (grown_of_below (pw_below_drewN (Below.refl wr.heap.size wr) nd) (some g))); clear HO HG; have HO := n0; have HG := n1; clear n0 n1)
              go_region
              go_wp2
              go_roundg (n - (kk + 1))
              case measure => omega
              case rel =>
                have hp := Kd.R_putg (Kd.R_drewN HO.out 1) ((kk : Int)) z
                rw [show ((kk : Int)).toNat = kk by omega] at hp
                exact ⟨kk + 1, by go_num, by omega, by omega, ⟨by rw [HF.out]; exact hp.1⟩, ⟨grown_then HG.out (grown_then (grown_of_below (pw_below_drewN (Below.refl _ _) 1) (some g)) hp.2)⟩⟩
      · have h1b : (y != 9) = true := bne_iff_ne.mpr h1
        have h1c : (y == 9) = false := beq_eq_false_iff_ne.mpr h1
        have HF := Aside0.mk (show upTo (marksF bf) l (kk + 1) = x by rw [upTo, HX.out, marksF, if_neg (by rw [HY.out]; exact h1)])
        clear h1
        go_wp2
        go_roundg (n - (kk + 1))
        case measure => omega
        case rel =>
          exact ⟨kk + 1, by go_num, by omega, by omega, ⟨by rw [HF.out]; exact HO.out⟩, HG⟩
    · have hltz : ¬ (kk : Int) < (n : Int) := by omega
      have e : kk = n := by omega
      have HE := Aside0.mk e
      clear e
      go_wp2
      go_end0
      exact ⟨rfl, by have h := HO.out; rw [HE.out] at h; exact h, HG.out⟩
set_option maxHeartbeats 8000000 in
set_option maxRecDepth 100000 in
theorem between_calls (gb g n cap : Nat) (A : Option Addr) (bf : Int) (l : List Int) (base : Nat) (ok : Nat → Prop) (w : World) (hs : w.heap[gb]? = some (.cells #[.slice A n cap, .int .i64 bf] 44 (0, 0))) (ho : Kd.R (Kd.int .i64) 3 w base ok (.slice A n cap) l) (hA : 0 < n → A = some ⟨g, 0, none⟩) (hgg : gb ≠ g) (hn : n ≤ 1000000) :
    Calls Try.prog 38 #[.pointer (some ⟨gb, 0, none⟩)] w fun e w' => e = .returned (.tuple #[]) ∧ Kd.R (Kd.int .i64) 3 w' base ok (.slice A n cap) (upTo (betweenF) l (n - 2)) ∧ w.grownBy w' (some g) := by
  have hc0 := (blk_cell hs 0).trans (show (#[.slice A n cap, .int .i64 bf] : Array Value)[0]? = some (.slice A n cap) from rfl)
  have HS := Aside0.mk hs
  have HO := Aside0.mk ho
  have HA := Aside0.mk hA
  have HNL := Aside0.mk (Kd.R_reads' ho).1
  clear hs ho hA
  go_enter Try.func38, Try.ntmps38
  go_wp2
  clear hc0
  go_loopg [2, 3, 4, 5] n (fun gg s9 _ _ _ wr => ∃ kk : Nat, s9 = .int .i64 ((kk : Int) + 1) ∧ kk ≤ (n - 2) ∧ (n - 2) - kk ≤ gg ∧ Aside0 (Kd.R (Kd.int .i64) 3 wr base ok (.slice A n cap) (upTo (betweenF) l kk)) ∧ Aside0 (w.grownBy wr (some g)))
  case atStart => exact ⟨0, rfl, Nat.zero_le _, by omega, HO, ⟨grown_refl _ _⟩⟩
  case round =>
    clear HO
    obtain ⟨kk, rfl, hkk, hg, HO, HG⟩ := hrel
    have hc0 := (blk_cell (blk_same HS.out HG.out hgg) 0).trans (show (#[.slice A n cap, .int .i64 bf] : Array Value)[0]? = some (.slice A n cap) from rfl)
    by_cases hlt : kk < (n - 2)
    · obtain rfl := HA.out (by omega)
      have hc1 := (blk_cell (blk_same HS.out HG.out hgg) 1).trans (show (#[.slice (some ⟨g, 0, none⟩) n cap, .int .i64 bf] : Array Value)[1]? = some (.int .i64 bf) from rfl)
      have HSR := Aside0.mk (blk_same HS.out HG.out hgg)
      obtain ⟨x, hx⟩ : ∃ x, upTo (betweenF) l kk = x := ⟨_, rfl⟩
      rw [hx] at HO
      have HX := Aside0.mk hx
      clear hx
      have hkn9 : kk < 1000000 := by omega
      obtain ⟨ha, hfa⟩ := Kd.R_celln 0 HO.out ((kk : Int)) (by omega) (by omega)
      rw [show ((kk : Int)).toNat = kk by omega] at ha hfa
      rw [show rdOf 0 x ((kk : Int)) = x.getD (kk) 0 by simp only [rdOf]; rw [show ((kk : Int)).toNat = kk by omega]] at ha
      obtain ⟨a, hea⟩ : ∃ y, x.getD (kk) 0 = y := ⟨_, rfl⟩
      rw [hea] at ha
      have HA := Aside0.mk hea
      clear hea
      obtain ⟨hy, hfy⟩ := Kd.R_celln 0 HO.out (((kk + 1 : Nat) : Int)) (by omega) (by omega)
      rw [show (((kk + 1 : Nat) : Int)).toNat = kk + 1 by omega] at hy hfy
      rw [show rdOf 0 x (((kk + 1 : Nat) : Int)) = x.getD (kk + 1) 0 by simp only [rdOf]; rw [show (((kk + 1 : Nat) : Int)).toNat = kk + 1 by omega]] at hy
      obtain ⟨y, hey⟩ : ∃ y, x.getD (kk + 1) 0 = y := ⟨_, rfl⟩
      rw [hey] at hy
      have HY := Aside0.mk hey
      clear hey
      obtain ⟨hb, hfb⟩ := Kd.R_celln 0 HO.out (((kk + 2 : Nat) : Int)) (by omega) (by omega)
      rw [show (((kk + 2 : Nat) : Int)).toNat = kk + 2 by omega] at hb hfb
      rw [show rdOf 0 x (((kk + 2 : Nat) : Int)) = x.getD (kk + 2) 0 by simp only [rdOf]; rw [show (((kk + 2 : Nat) : Int)).toNat = kk + 2 by omega]] at hb
      obtain ⟨b, heb⟩ : ∃ y, x.getD (kk + 2) 0 = y := ⟨_, rfl⟩
      rw [heb] at hb
      have HB := Aside0.mk heb
      clear heb
      have hw1 : IntKind.i64.wrap ((kk : Int) + 1 - 1) = (kk : Int) := by rw [IntWalk.i64_in _ (by omega)]; omega
      have hw1b : (kk : Int) + 1 - 1 = (kk : Int) := by omega
      have hw2 : IntKind.i64.wrap ((kk : Int) + 1 + 1) = (kk : Int) + 2 := by rw [IntWalk.i64_in _ (by omega)]; omega
      have hw2b : (kk : Int) + 1 + 1 = (kk : Int) + 2 := by omega
      have hw3 : ((kk : Int) + 1).toNat = kk + 1 := by omega
      have hw4 : ((kk : Int) + 2).toNat = kk + 2 := by omega
      have hl0 : (kk : Int) < (n : Int) := by omega
      have hl1 : (kk : Int) + 1 < (n : Int) := by omega
      have hl2 : (kk : Int) + 2 < (n : Int) := by omega
      have hp1 : 0 ≤ (kk : Int) + 1 := by omega
      have hp2 : 0 ≤ (kk : Int) + 2 := by omega
      by_cases h1 : a = b
      · subst h1
        by_cases h2 : a = 4
        · subst h2
          by_cases h3 : y = 5
          · subst h3
            have HF := Aside0.mk (show upTo betweenF l (kk + 1) = x.set (kk + 1) 4 by rw [upTo, HX.out, betweenF, if_pos (by rw [HA.out, HB.out]), if_pos ⟨HA.out, .inl HY.out⟩])
            go_wp2
            go_quiet (fail)
            go_wp2
            go_roundg (n - 2 - (kk + 1))
            case measure => omega
            case rel =>
              have hp := Kd.R_putg (Kd.R_drewN HO.out nq) ((kk + 1 : Nat) : Int) 4
              rw [show ((kk + 1 : Nat) : Int).toNat = kk + 1 by omega] at hp
              exact ⟨kk + 1, by go_num, by omega, by omega, ⟨by rw [HF.out]; exact hp.1⟩, ⟨grown_then HG.out (grown_then (grown_of_below (pw_below_drewN (Below.refl _ _) _) (some g)) hp.2)⟩⟩
          · by_cases h4 : y = 8
            · subst h4
              have HF := Aside0.mk (show upTo betweenF l (kk + 1) = x.set (kk + 1) 4 by rw [upTo, HX.out, betweenF, if_pos (by rw [HA.out, HB.out]), if_pos ⟨HA.out, .inr HY.out⟩])
              clear h3
              go_wp2
              go_quiet (fail)
              go_wp2
              go_roundg (n - 2 - (kk + 1))
              case measure => omega
              case rel =>
                have hp := Kd.R_putg (Kd.R_drewN HO.out nq) ((kk + 1 : Nat) : Int) 4
                rw [show ((kk + 1 : Nat) : Int).toNat = kk + 1 by omega] at hp
                exact ⟨kk + 1, by go_num, by omega, by omega, ⟨by rw [HF.out]; exact hp.1⟩, ⟨grown_then HG.out (grown_then (grown_of_below (pw_below_drewN (Below.refl _ _) _) (some g)) hp.2)⟩⟩
            · have h3b : (y == 5) = false := beq_eq_false_iff_ne.mpr (by first | assumption | decide)
              have h4b : (y == 8) = false := beq_eq_false_iff_ne.mpr (by first | assumption | decide)
              have HF := Aside0.mk (show upTo betweenF l (kk + 1) = x by rw [upTo, HX.out, betweenF, if_pos (by rw [HA.out, HB.out]), if_neg (by rw [HY.out]; rintro ⟨_, h | h⟩; (exact h3 h); exact h4 h), if_neg (by rw [HA.out]; exact fun h => absurd h.1 (by decide))])
              clear h3 h4
              go_wp2
              go_quiet (fail)
              go_wp2
              go_roundg (n - 2 - (kk + 1))
              case measure => omega
              case rel =>
                exact ⟨kk + 1, by go_num, by omega, by omega, ⟨by rw [HF.out]; exact Kd.R_drewN HO.out _⟩, ⟨grown_then HG.out (grown_of_below (pw_below_drewN (Below.refl _ _) _) (some g))⟩⟩
        · have h2b : (a == 4) = false := beq_eq_false_iff_ne.mpr (by first | assumption | decide)
          by_cases h3 : a = 7
          · subst h3
            clear h2 h2b
            by_cases h4 : y = 8
            · subst h4
              have HF := Aside0.mk (show upTo betweenF l (kk + 1) = x.set (kk + 1) 7 by rw [upTo, HX.out, betweenF, if_pos (by rw [HA.out, HB.out]), if_neg (by rw [HA.out]; exact fun h => absurd h.1 (by decide)), if_pos ⟨HA.out, HY.out⟩])
              go_wp2
              go_quiet (fail)
              go_wp2
              go_roundg (n - 2 - (kk + 1))
              case measure => omega
              case rel =>
                have hp := Kd.R_putg (Kd.R_drewN HO.out nq) ((kk + 1 : Nat) : Int) 7
                rw [show ((kk + 1 : Nat) : Int).toNat = kk + 1 by omega] at hp
                exact ⟨kk + 1, by go_num, by omega, by omega, ⟨by rw [HF.out]; exact hp.1⟩, ⟨grown_then HG.out (grown_then (grown_of_below (pw_below_drewN (Below.refl _ _) _) (some g)) hp.2)⟩⟩
            · have h4b : (y == 8) = false := beq_eq_false_iff_ne.mpr (by first | assumption | decide)
              have HF := Aside0.mk (show upTo betweenF l (kk + 1) = x by rw [upTo, HX.out, betweenF, if_pos (by rw [HA.out, HB.out]), if_neg (by rw [HA.out]; exact fun h => absurd h.1 (by decide)), if_neg (by rw [HY.out]; exact fun h => h4 h.2)])
              clear h4
              go_wp2
              go_quiet (fail)
              go_wp2
              go_roundg (n - 2 - (kk + 1))
              case measure => omega
              case rel =>
                exact ⟨kk + 1, by go_num, by omega, by omega, ⟨by rw [HF.out]; exact Kd.R_drewN HO.out _⟩, ⟨grown_then HG.out (grown_of_below (pw_below_drewN (Below.refl _ _) _) (some g))⟩⟩
          · have h3b : (a == 7) = false := beq_eq_false_iff_ne.mpr (by first | assumption | decide)
            have HF := Aside0.mk (show upTo betweenF l (kk + 1) = x by rw [upTo, HX.out, betweenF, if_pos (by rw [HA.out, HB.out]), if_neg (by rw [HA.out]; exact fun h => h2 h.1), if_neg (by rw [HA.out]; exact fun h => h3 h.1)])
            clear h3 h2
            go_wp2
            go_quiet (fail)
            go_wp2
            go_roundg (n - 2 - (kk + 1))
            case measure => omega
            case rel =>
              exact ⟨kk + 1, by go_num, by omega, by omega, ⟨by rw [HF.out]; exact Kd.R_drewN HO.out _⟩, ⟨grown_then HG.out (grown_of_below (pw_below_drewN (Below.refl _ _) _) (some g))⟩⟩
      · have h1b : (a != b) = true := bne_iff_ne.mpr h1
        have h1c : (a == b) = false := beq_eq_false_iff_ne.mpr h1
        have HF := Aside0.mk (show upTo betweenF l (kk + 1) = x by rw [upTo, HX.out, betweenF, if_neg (by rw [HA.out, HB.out]; exact h1)])
        clear h1
        go_wp2
        go_quiet (fail)
        go_wp2
        go_roundg (n - 2 - (kk + 1))
        case measure => omega
        case rel =>
          exact ⟨kk + 1, by go_num, by omega, by omega, ⟨by rw [HF.out]; exact Kd.R_drewN HO.out _⟩, ⟨grown_then HG.out (grown_of_below (pw_below_drewN (Below.refl _ _) _) (some g))⟩⟩
    · have hltz : ¬ ((kk : Int) + 1 + 1) < (n : Int) := by omega
      have e : kk = (n - 2) := by omega
      have HE := Aside0.mk e
      clear e
      go_wp2
      go_end0
      exact ⟨rfl, by have h := HO.out; rw [HE.out] at h; exact h, HG.out⟩
set_option maxHeartbeats 8000000 in
set_option maxRecDepth 100000 in
theorem terms_1_calls (x : Int) (W : World) : Calls Try.prog 67 #[.int .i64 x] W fun e w' => e = .returned (.bool (x == 6)) ∧ Drawn0 W w' := by
  go_enter Try.func67, Try.ntmps67
  go_wp2
  go_ret
  exact ⟨rfl, Drawn0.refl _⟩
set_option maxHeartbeats 8000000 in
set_option maxRecDepth 100000 in
theorem terms_2_calls (g n cap a m : Nat) (y z : Int) (l : List Int) (base : Nat) (ok : Nat → Prop) (W : World) (ho : Kd.R (Kd.int .i64) 3 W base ok (.slice (some ⟨g, 0, none⟩) n cap) l) (hm : a + m ≤ n) (hn : n ≤ 1000000) :
    Calls Try.prog 68 #[.slice (some ⟨g, a, none⟩) m (cap - a), .int .i64 y, .int .i64 z] W fun e w' => e = .returned (.tuple #[]) ∧ Kd.R (Kd.int .i64) 3 w' base ok (.slice (some ⟨g, 0, none⟩) n cap) (match (if y = 4 ∨ z = 4 then some 4 else none) with | some x => fillV l a x m | none => l) ∧ W.grownBy w' (some g) := by
  have HO := Aside0.mk ho
  clear ho
  by_cases h1 : y = 4
  · subst h1
    rw [if_pos (.inl rfl)]
    go_enter Try.func68, Try.ntmps68
    go_wp2_with (go_at_call 69; refine (fill_calls g n cap a m 4 l base ok _ HO.out hm hn).mono ?_; rintro e w' ⟨rfl, hr, hg⟩; have HR := Aside0.mk hr; have HG := Aside0.mk hg; clear hr hg)
    go_end0
    exact ⟨rfl, HR.out, HG.out⟩
  · have h1b : (y == 4) = false := beq_eq_false_iff_ne.mpr h1
    by_cases h2 : z = 4
    · subst h2
      rw [if_pos (.inr rfl)]
      clear h1
      go_enter Try.func68, Try.ntmps68
      go_wp2_with (go_at_call 69; refine (fill_calls g n cap a m 4 l base ok _ HO.out hm hn).mono ?_; rintro e w' ⟨rfl, hr, hg⟩; have HR := Aside0.mk hr; have HG := Aside0.mk hg; clear hr hg)
      go_end0
      exact ⟨rfl, HR.out, HG.out⟩
    · have h2b : (z == 4) = false := beq_eq_false_iff_ne.mpr h2
      rw [if_neg (by rintro (h | h); (exact h1 h); exact h2 h)]
      clear h1 h2
      go_enter Try.func68, Try.ntmps68
      go_wp2
      go_end0
      exact ⟨rfl, HO.out, grown_refl _ _⟩
set_option maxHeartbeats 8000000 in
set_option maxRecDepth 100000 in
theorem beside_nil_calls (A : Option Addr) (cap : Nat) (f1 f2 : Value) (w : World) : Calls Try.prog 66 #[.slice A 0 cap, f1, f2] w fun e w' => e = .returned (.tuple #[]) ∧ Drawn0 w w' := by
  go_enter Try.func66, Try.ntmps66
  go_wp2
  go_loopg [6, 7, 8, 9] 1 (fun gg s6 _ _ _ wr => s6 = .int .i64 0 ∧ Aside0 (Drawn0 w wr))
  case atStart => exact ⟨rfl, ⟨Drawn0.refl _⟩⟩
  case round =>
    obtain ⟨rfl, HD⟩ := hrel
    go_wp2
    go_end0
    exact ⟨rfl, HD.out⟩
set_option maxHeartbeats 8000000 in
set_option maxRecDepth 100000 in
theorem terms_calls (gb g n cap : Nat) (A : Option Addr) (bf : Int) (l : List Int) (base : Nat) (ok : Nat → Prop) (w : World) (hs : w.heap[gb]? = some (.cells #[.slice A n cap, .int .i64 bf] 44 (0, 0))) (ho : Kd.R (Kd.int .i64) 3 w base ok (.slice A n cap) l) (hA : 0 < n → A = some ⟨g, 0, none⟩) (hgg : gb ≠ g) (hn : n ≤ 1000000) :
    Calls Try.prog 39 #[.pointer (some ⟨gb, 0, none⟩)] w fun e w' => e = .returned (.tuple #[]) ∧ Kd.R (Kd.int .i64) 3 w' base ok (.slice A n cap) (termsV l) ∧ w.grownBy w' (some g) := by
  have hc0 := (blk_cell hs 0).trans (show (#[.slice A n cap, .int .i64 bf] : Array Value)[0]? = some (.slice A n cap) from rfl)
  have HO := Aside0.mk ho
  have HNL := Aside0.mk (Kd.R_reads' ho)
  clear hs ho
  by_cases h0 : 0 < n
  · obtain rfl := hA h0
    clear hA h0
    go_enter Try.func39, Try.ntmps39
    go_wp2_with (go_at_call 66; refine (beside_calls (fun c => c == 6) (fun a b => if a = 4 ∨ b = 4 then some 4 else none) 67 68 #[] #[] (fun _ _ => by kernel_rfl) (fun _ _ => by kernel_rfl) g n cap l base ok _ HO.out hn HNL.out.2.1 (fun W x _ => terms_1_calls x W) (fun W l' a m y z _ hr hm _ => terms_2_calls g n cap a m y z l' base ok W hr hm hn)).mono ?_; rintro e w' ⟨rfl, hr, hg⟩; have HR := Aside0.mk hr; have HG := Aside0.mk hg; clear hr hg)
    go_end0
    exact ⟨rfl, HR.out, HG.out⟩
  · obtain rfl : n = 0 := by omega
    have hl : l = [] := List.eq_nil_of_length_eq_zero HNL.out.1.symm
    subst hl
    clear hA h0
    go_enter Try.func39, Try.ntmps39
    go_wp2_with (go_at_call 66; refine (beside_nil_calls A cap _ _ _).mono ?_; rintro e w' ⟨rfl, hb⟩; obtain ⟨⟨nd, rfl⟩⟩ := hb)
    go_end0
    exact ⟨rfl, Kd.R_drewN HO.out _, grown_of_below (pw_below_drewN (Below.refl _ _) _) _⟩



end Go.Proofs.Ytojehfdioeglgaa.S

namespace Go.Proofs.Ytojehfdioeglgaa.S
open Go.RowKit Go.Proofs.YtojehfdioeglgaaW.PrintWords Go.Proofs.YtojehfdioeglgaaW.PrintLast Go.Proofs.YtojehfdioeglgaaW.PrintMore
attribute [local go_sem] max2_int min2_int max_two min_two max_three min_three max_four min_four   -- for this text's walks alone
set_option linter.unusedVariables false
set_option linter.unusedSimpArgs false

/-! ### impl_LevelWeak: function 11: levelweak.tpl -/
theorem run_store_funcX {P : Program} {w : World} {a : Addr} {m : Mode} (fn : Fn) (first captured : Array Value) : (store a (.func fn first captured) m).run P w = stored P w a (.func fn first captured) m := run_store P w a _ m rfl
attribute [local go_sem] run_store_funcX
theorem rule_at0 (a0 a1 a2 a3 a4 a5 a6 : Value) (W : World) : (Instr.index 45 (.agg #[a0, a1, a2, a3, a4, a5, a6]) (.int .i64 0)).run Try.prog W = .ok a0 W := by kernel_rfl
theorem rule_at1 (a0 a1 a2 a3 a4 a5 a6 : Value) (W : World) : (Instr.index 45 (.agg #[a0, a1, a2, a3, a4, a5, a6]) (.int .i64 1)).run Try.prog W = .ok a1 W := by kernel_rfl
theorem rule_at2 (a0 a1 a2 a3 a4 a5 a6 : Value) (W : World) : (Instr.index 45 (.agg #[a0, a1, a2, a3, a4, a5, a6]) (.int .i64 2)).run Try.prog W = .ok a2 W := by kernel_rfl
theorem rule_at3 (a0 a1 a2 a3 a4 a5 a6 : Value) (W : World) : (Instr.index 45 (.agg #[a0, a1, a2, a3, a4, a5, a6]) (.int .i64 3)).run Try.prog W = .ok a3 W := by kernel_rfl
theorem rule_at4 (a0 a1 a2 a3 a4 a5 a6 : Value) (W : World) : (Instr.index 45 (.agg #[a0, a1, a2, a3, a4, a5, a6]) (.int .i64 4)).run Try.prog W = .ok a4 W := by kernel_rfl
theorem rule_at5 (a0 a1 a2 a3 a4 a5 a6 : Value) (W : World) : (Instr.index 45 (.agg #[a0, a1, a2, a3, a4, a5, a6]) (.int .i64 5)).run Try.prog W = .ok a5 W := by kernel_rfl
theorem rule_at6 (a0 a1 a2 a3 a4 a5 a6 : Value) (W : World) : (Instr.index 45 (.agg #[a0, a1, a2, a3, a4, a5, a6]) (.int .i64 6)).run Try.prog W = .ok a6 W := by kernel_rfl
attribute [local go_sem] rule_at0 rule_at1 rule_at2 rule_at3 rule_at4 rule_at5 rule_at6

def weakR (bf : Int) (n : Nat) (x : List Int) : Nat → List Int
  | 0 => upTo (marksF bf) x n
  | 1 => upTo numbersF x n
  | 2 => upTo arabicF x n
  | 3 => upTo betweenF x (n - 2)
  | 4 => termsV x
  | 5 => upTo othersF x n
  | _ => upTo (plainF bf) x n
def weakS (bf : Int) (l : List Int) : Nat → List Int
  | 0 => l
  | i + 1 => weakR bf l.length (weakS bf l i) i
theorem weakS_7 (bf : Int) (l : List Int) : weakS bf l 7 = weakV bf l := rfl
set_option maxHeartbeats 16000000 in
set_option maxRecDepth 100000 in
theorem impl_LevelWeak.calls (A0 : Option Addr) (c0 : Nat) (l0 : List Int) (a1 : Int) (r : List Int) (w : World) (hr0 : Kd.C (Kd.int .i64) w A0 l0.length l0) (hc0 : l0.length ≤ c0) (h : impl_LevelWeak.f l0 a1 = some r) :
    Calls Try.prog 11 #[.slice A0 l0.length c0, .int .i64 a1] w fun e w' => ∃ v0_ : Value, e = .returned (v0_) ∧ Kd.R (Kd.int .i64) 3 w' w.heap.size (fun _ => True) v0_ r ∧ Below w.heap.size w w' := by
  have HR := Aside0.mk hr0
  have HC := Aside0.mk hc0
  clear hr0 hc0
  unfold impl_LevelWeak.f at h
  obtain rfl := Option.some.inj h
  clear h
  by_cases hok : classesOkV l0 = true
  case neg =>
    have e : classesOkV l0 = false := by simpa using hok
    have HOK := Aside0.mk (show impl_classesOk.f l0 = some false by rw [impl_classesOk.f, e])
    rw [if_neg (fun h => hok h.1)]
    clear hok e
    go_enter Try.func11, Try.ntmps11
    go_wp2_with (go_at_call 32; refine (impl_classesOk.calls _ _ l0 false _ HR.out HC.out HOK.out).mono ?_; rintro e w1 ⟨rfl, hb1⟩; have HB1 := Aside0.mk hb1; clear hb1)
    go_ret
    exact ⟨_, rfl, Kd.R_nil _ _ _ _ _, HB1.out⟩
  case pos =>
  have HOK := Aside0.mk (show impl_classesOk.f l0 = some true by rw [impl_classesOk.f, hok])
  by_cases hsd : sideV a1 = true
  case neg =>
    have e : sideV a1 = false := by simpa using hsd
    have HSD := Aside0.mk (show impl_isSide.f a1 = some false by rw [side_f, e])
    rw [if_neg (fun h => hsd h.2)]
    clear hok hsd e
    go_enter Try.func11, Try.ntmps11
    go_wp2_with (first
      | (go_at_call 32; refine (impl_classesOk.calls _ _ l0 true _ HR.out HC.out HOK.out).mono ?_; rintro e w1 ⟨rfl, hb1⟩; have HB1 := Aside0.mk hb1; clear hb1)
      | (go_at_call 33; refine (impl_isSide.calls a1 false _ HSD.out).mono ?_; rintro e w2 ⟨rfl, ⟨nd, rfl⟩⟩))
    go_ret
    exact ⟨_, rfl, Kd.R_nil _ _ _ _ _, pw_below_drewN HB1.out _⟩
  case pos =>
  have HSD := Aside0.mk (show impl_isSide.f a1 = some true by rw [side_f, hsd])
  rw [if_pos ⟨hok, hsd⟩]
  have hn80 : l0.length ≤ 80 := by
    unfold classesOkV at hok
    rw [Bool.and_eq_true] at hok
    exact of_decide_eq_true hok.1
  have HCL := Aside0.mk (show slices_Clone_int_int.f l0 = some l0 by rw [slices_Clone_int_int.f, if_pos (by omega)])
  have HN := Aside0.mk hn80
  clear hok hsd hn80
  go_enter Try.func11, Try.ntmps11
  go_wp2_with (first
    | (go_at_call 32; refine (impl_classesOk.calls _ _ l0 true _ HR.out HC.out HOK.out).mono ?_; rintro e w1 ⟨rfl, hb1⟩; have HB1 := Aside0.mk hb1; clear hb1)
    | (go_at_call 33; refine (impl_isSide.calls a1 true _ HSD.out).mono ?_; rintro e w2 ⟨rfl, ⟨nd, rfl⟩⟩)
    | (go_at_call 34; refine (slices_Clone_int_int.calls _ _ l0 l0 _ (Kd.C_below HR.out (pw_below_drewN HB1.out _)) HC.out HCL.out).mono ?_; rintro e w3 ⟨v3, rfl, ho3, hb3⟩; obtain ⟨A3, c3, hv3⟩ := Kd.R_slice ho3; subst hv3; have HO3 := Aside0.mk (Kd.R_lower ho3 (pw_below_drewN HB1.out nd).size); have HB3 := Aside0.mk (below_then (pw_below_drewN HB1.out nd) (pw_below_drewN HB1.out nd).size hb3); clear ho3 hb3))
  obtain ⟨g, hA, hgg, hbg⟩ : ∃ g, (0 < l0.length → A3 = some ⟨g, 0, none⟩) ∧ w3.heap.size ≠ g ∧ w.heap.size ≤ g := by
    by_cases hp : 0 < l0.length
    · obtain ⟨g, cap, he, h1, h2, _⟩ := Kd.R_form HO3.out hp
      injection he with he
      exact ⟨g, fun _ => he, by omega, h1⟩
    · exact ⟨w3.heap.size + 1, fun h => absurd h hp, by omega, by have := HB3.out.size; omega⟩
  have HA := Aside0.mk hA
  have HGG := Aside0.mk hgg
  have HBG := Aside0.mk hbg
  clear hA hgg hbg
  go_loopg [8, 38] 7 (fun gg _ s38 wr => ∃ i : Nat, s38 = .int .i64 i ∧ i ≤ 7 ∧ 7 - i ≤ gg ∧ Aside0 (Kd.R (Kd.int .i64) 3 wr w.heap.size (fun _ => True) (.slice A3 l0.length c3) (weakS a1 l0 i)) ∧ Aside0 (wr.heap[w3.heap.size]? = some (.cells #[.slice A3 l0.length c3, .int .i64 a1] 44 (0, 0))) ∧ Aside0 (Below w.heap.size w wr))
  case atStart => exact ⟨0, rfl, by omega, by omega, ⟨Kd.R_alloc (Kd.R_alloc HO3.out _) _⟩, ⟨blk_alloc (blk_new _ _) _⟩, ⟨below_alloc (below_alloc HB3.out _) _⟩⟩
  case round =>
    clear HB1 HO3 HB3 HR HOK HSD
    obtain ⟨i, rfl, hi, hg, HO, HS, HB⟩ := hrel
    have hc0 := (blk_cell HS.out 0).trans (show (#[.slice A3 l0.length c3, .int .i64 a1] : Array Value)[0]? = some (.slice A3 l0.length c3) from rfl)
    obtain rfl | rfl | rfl | rfl | rfl | rfl | rfl | rfl : i = 0 ∨ i = 1 ∨ i = 2 ∨ i = 3 ∨ i = 4 ∨ i = 5 ∨ i = 6 ∨ i = 7 := by omega
    · go_wp2_with (go_at_call 35; refine (marks_calls w3.heap.size g l0.length c3 A3 a1 (weakS a1 l0 0) w.heap.size (fun _ => True) _ HS.out HO.out HA.out HGG.out (by have := HN.out; omega)).mono ?_; rintro e w' ⟨rfl, hr, hgr⟩; have n0 := Aside0.mk hr; have n1 := Aside0.mk (blk_same HS.out hgr HGG.out); have n2 := Aside0.mk (pw_below_grown HB.out (some g) HB.out.size hgr (fun k e => by cases e; exact HBG.out)); clear HO HS HB hr hgr; have HO := n0; have HS := n1; have HB := n2; clear n0 n1 n2)
      go_roundg (7 - 1)
      case measure => omega
      case rel => exact ⟨1, by first | rfl | go_num, by omega, by omega, ⟨HO.out⟩, HS, HB⟩
    · go_wp2_with (go_at_call 36; refine (numbers_calls w3.heap.size g l0.length c3 A3 a1 (weakS a1 l0 1) w.heap.size (fun _ => True) _ HS.out HO.out HA.out HGG.out (by have := HN.out; omega)).mono ?_; rintro e w' ⟨rfl, hr, hgr⟩; have n0 := Aside0.mk hr; have n1 := Aside0.mk (blk_same HS.out hgr HGG.out); have n2 := Aside0.mk (pw_below_grown HB.out (some g) HB.out.size hgr (fun k e => by cases e; exact HBG.out)); clear HO HS HB hr hgr; have HO := n0; have HS := n1; have HB := n2; clear n0 n1 n2)
      go_roundg (7 - 2)
      case measure => omega
      case rel => exact ⟨2, by first | rfl | go_num, by omega, by omega, ⟨HO.out⟩, HS, HB⟩
    · go_wp2_with (go_at_call 37; refine (arabic_calls w3.heap.size g l0.length c3 A3 a1 (weakS a1 l0 2) w.heap.size (fun _ => True) _ HS.out HO.out HA.out HGG.out (by have := HN.out; omega)).mono ?_; rintro e w' ⟨rfl, hr, hgr⟩; have n0 := Aside0.mk hr; have n1 := Aside0.mk (blk_same HS.out hgr HGG.out); have n2 := Aside0.mk (pw_below_grown HB.out (some g) HB.out.size hgr (fun k e => by cases e; exact HBG.out)); clear HO HS HB hr hgr; have HO := n0; have HS := n1; have HB := n2; clear n0 n1 n2)
      go_roundg (7 - 3)
      case measure => omega
      case rel => exact ⟨3, by first | rfl | go_num, by omega, by omega, ⟨HO.out⟩, HS, HB⟩
    · go_wp2_with (go_at_call 38; refine (between_calls w3.heap.size g l0.length c3 A3 a1 (weakS a1 l0 3) w.heap.size (fun _ => True) _ HS.out HO.out HA.out HGG.out (by have := HN.out; omega)).mono ?_; rintro e w' ⟨rfl, hr, hgr⟩; have n0 := Aside0.mk hr; have n1 := Aside0.mk (blk_same HS.out hgr HGG.out); have n2 := Aside0.mk (pw_below_grown HB.out (some g) HB.out.size hgr (fun k e => by cases e; exact HBG.out)); clear HO HS HB hr hgr; have HO := n0; have HS := n1; have HB := n2; clear n0 n1 n2)
      go_roundg (7 - 4)
      case measure => omega
      case rel => exact ⟨4, by first | rfl | go_num, by omega, by omega, ⟨HO.out⟩, HS, HB⟩
    · go_wp2_with (go_at_call 39; refine (terms_calls w3.heap.size g l0.length c3 A3 a1 (weakS a1 l0 4) w.heap.size (fun _ => True) _ HS.out HO.out HA.out HGG.out (by have := HN.out; omega)).mono ?_; rintro e w' ⟨rfl, hr, hgr⟩; have n0 := Aside0.mk hr; have n1 := Aside0.mk (blk_same HS.out hgr HGG.out); have n2 := Aside0.mk (pw_below_grown HB.out (some g) HB.out.size hgr (fun k e => by cases e; exact HBG.out)); clear HO HS HB hr hgr; have HO := n0; have HS := n1; have HB := n2; clear n0 n1 n2)
      go_roundg (7 - 5)
      case measure => omega
      case rel => exact ⟨5, by first | rfl | go_num, by omega, by omega, ⟨HO.out⟩, HS, HB⟩
    · go_wp2_with (go_at_call 40; refine (others_calls w3.heap.size g l0.length c3 A3 a1 (weakS a1 l0 5) w.heap.size (fun _ => True) _ HS.out HO.out HA.out HGG.out (by have := HN.out; omega)).mono ?_; rintro e w' ⟨rfl, hr, hgr⟩; have n0 := Aside0.mk hr; have n1 := Aside0.mk (blk_same HS.out hgr HGG.out); have n2 := Aside0.mk (pw_below_grown HB.out (some g) HB.out.size hgr (fun k e => by cases e; exact HBG.out)); clear HO HS HB hr hgr; have HO := n0; have HS := n1; have HB := n2; clear n0 n1 n2)
      go_roundg (7 - 6)
      case measure => omega
      case rel => exact ⟨6, by first | rfl | go_num, by omega, by omega, ⟨HO.out⟩, HS, HB⟩
    · go_wp2_with (go_at_call 41; refine (plainNumbers_calls w3.heap.size g l0.length c3 A3 a1 (weakS a1 l0 6) w.heap.size (fun _ => True) _ HS.out HO.out HA.out HGG.out (by have := HN.out; omega)).mono ?_; rintro e w' ⟨rfl, hr, hgr⟩; have n0 := Aside0.mk hr; have n1 := Aside0.mk (blk_same HS.out hgr HGG.out); have n2 := Aside0.mk (pw_below_grown HB.out (some g) HB.out.size hgr (fun k e => by cases e; exact HBG.out)); clear HO HS HB hr hgr; have HO := n0; have HS := n1; have HB := n2; clear n0 n1 n2)
      go_roundg (7 - 7)
      case measure => omega
      case rel => exact ⟨7, by first | rfl | go_num, by omega, by omega, ⟨HO.out⟩, HS, HB⟩
    · go_wp2
      go_ret
      exact ⟨_, rfl, HO.out, HB.out⟩


end Go.Proofs.Ytojehfdioeglgaa.S

namespace Go.Proofs.Ytojehfdioeglgaa.S
open Go.RowKit Go.Proofs.YtojehfdioeglgaaW.PrintWords Go.Proofs.YtojehfdioeglgaaW.PrintLast Go.Proofs.YtojehfdioeglgaaW.PrintMore
attribute [local go_sem] max2_int min2_int max_two min_two max_three min_three max_four min_four   -- for this text's walks alone
set_option linter.unusedVariables false
set_option linter.unusedSimpArgs false

/-! ### laws_eqIntS: function 12 -/
def laws_eqIntS.l0 : Nat → List Int → List Int → Int → Option (Bool)
  | 0, _, _, _ => none
  | k + 1, x0, x1, x5 => if x5 < (x0.length : Int) then (if 0 ≤ x5 then (if x5 < (x1.length : Int) then (if (rd x0 x5) = (rd x1 x5) then (laws_eqIntS.l0 k x0 x1 (wrap64 (x5 + 1))) else (some false)) else (none)) else (none)) else (some true)
def laws_eqIntS.f (k : Nat) (l0 : List Int) (l1 : List Int) : Option (Bool) := if (l0.length : Int) = (l1.length : Int) then (laws_eqIntS.l0 k l0 l1 0) else (some false)
theorem laws_eqIntS.mono_l : ∀ k, (∀ y0 y1 y2, LeO (laws_eqIntS.l0 k y0 y1 y2) (laws_eqIntS.l0 (k + 1) y0 y1 y2))
  | 0 => fun _ _ _ r h => by simp [laws_eqIntS.l0] at h
  | k + 1 => by
    have ih0 := laws_eqIntS.mono_l k
    · intro y0 y1 y2
      unfold laws_eqIntS.l0
      repeat' first
      | (with_reducible exact ih0 _ _ _)
      | (with_reducible exact LeO.refl _)
      | (with_reducible exact LeO.none _)
      | (with_reducible refine LeO.ite ?_ ?_)
      | (with_reducible refine LeO.bind ?_ (fun _ => ?_))
      | exact ih0 _ _ _
      | exact LeO.none _
      | refine LeO.ite ?_ ?_
      | refine LeO.bind ?_ (fun _ => ?_)
theorem laws_eqIntS.mono : ∀ a0 a1 k, LeO (laws_eqIntS.f k a0 a1) (laws_eqIntS.f (k + 1) a0 a1) := by
  intro a0 a1 k
  have ih0 := laws_eqIntS.mono_l k
  unfold laws_eqIntS.f
  repeat' first
      | (with_reducible exact ih0 _ _ _)
      | (with_reducible exact LeO.refl _)
      | (with_reducible exact LeO.none _)
      | (with_reducible refine LeO.ite ?_ ?_)
      | (with_reducible refine LeO.bind ?_ (fun _ => ?_))
      | exact ih0 _ _ _
      | exact LeO.none _
      | refine LeO.ite ?_ ?_
      | refine LeO.bind ?_ (fun _ => ?_)
set_option maxHeartbeats 8000000 in
set_option maxRecDepth 100000 in
theorem laws_eqIntS.calls (k : Nat) (A0 : Option Addr) (c0 : Nat) (l0 : List Int) (A1 : Option Addr) (c1 : Nat) (l1 : List Int) (r : Bool) (w : World) (hr0 : Kd.C (Kd.int .i64) w A0 l0.length l0) (hc0 : l0.length ≤ c0) (hr1 : Kd.C (Kd.int .i64) w A1 l1.length l1) (hc1 : l1.length ≤ c1) (h : laws_eqIntS.f k l0 l1 = some r) :
    Calls Try.prog 12 #[.slice A0 l0.length c0, .slice A1 l1.length c1] w fun e w' => e = .returned (.bool r) ∧ Drawn0 w w' := by
  have HR0 := Aside0.mk hr0
  have HC0 := Aside0.mk hc0
  clear hr0 hc0
  have HR1 := Aside0.mk hr1
  have HC1 := Aside0.mk hc1
  clear hr1 hc1
  have H : (if (l0.length : Int) = (l1.length : Int) then (laws_eqIntS.l0 k l0 l1 0) else (some false)) = some r := h
  clear h
  by_cases c3 : (l0.length : Int) = (l1.length : Int)
  · rw [if_pos c3] at H
    have c3b0 : ((l0.length : Int) == (l1.length : Int)) = true := beq_iff_eq.mpr c3
    have c3b1 : ((l0.length : Int) != (l1.length : Int)) = false := bne_eq_false_iff_eq.mpr c3
    have c3b2 : (l0.length == l1.length) = true := by first | simpa using c3 | (simp at c3 ⊢; omega)
    clear c3
    have H' := Aside0.mk H
    clear H
    go_enter Try.func12, Try.ntmps12
    go_wp2
    repeat (go_quiet (fail); try go_wp2)
    go_loopg [5] k (fun kq v5 w' => ∃ (x5_1 : Int), v5 = .int .i64 x5_1 ∧ Aside0 (laws_eqIntS.l0 kq l0 l1 x5_1 = some r) ∧ Aside0 (kq ≤ k) ∧ Drawn0 w w')
    case atStart => exact ⟨(0), (by first | rfl | (simp; done) | (simp [*]; done)), H', ⟨Nat.le_refl _⟩, by repeat (first | exact Drawn0.refl _ | apply Drawn0.step)⟩
    case round =>
      clear H'
      try clear c1
      try clear p2
      try clear c3
      try clear c3b0
      try clear c3b1
      try clear c3b2
      obtain ⟨x5_1, rfl, HA, HK1, ⟨m1, rfl⟩⟩ := hrel
      cases gk with
      | zero => exact absurd HA.out (by simp [laws_eqIntS.l0])
      | succ k1 =>
        have H := HA.out
        clear HA
        simp only [laws_eqIntS.l0] at H
        by_cases c4 : x5_1 < (l0.length : Int)
        · rw [if_pos c4] at H
          have c4b0 : decide (x5_1 < (l0.length : Int)) = true := decide_eq_true c4
          clear c4
          by_cases c5 : 0 ≤ x5_1
          · rw [if_pos c5] at H
            have c5b0 : decide (0 ≤ x5_1) = true := decide_eq_true c5
            clear c5
            by_cases c6 : x5_1 < (l1.length : Int)
            · rw [if_pos c6] at H
              have c6b0 : decide (x5_1 < (l1.length : Int)) = true := decide_eq_true c6
              clear c6
              by_cases c7 : (rd l0 x5_1) = (rd l1 x5_1)
              · rw [if_pos c7] at H
                have c7b0 : ((rd l0 x5_1) == (rd l1 x5_1)) = true := beq_iff_eq.mpr c7
                have c7b1 : ((rd l0 x5_1) != (rd l1 x5_1)) = false := bne_eq_false_iff_eq.mpr c7
                clear c7
                have H' := Aside0.mk H
                clear H
                have p172 : 0 ≤ (x5_1 : Int) := of_decide_eq_true (by first | (with_reducible assumption) | assumption)
                have q172 : x5_1 < (l0.length : Int) := of_decide_eq_true (by first | (with_reducible assumption) | assumption)
                obtain ⟨ad172, e172, hx172_0⟩ := Kd.at_int HR0.out x5_1 p172 q172
                cases e172
                replace p172 := eq_true p172
                replace q172 := eq_true q172
                have p173 : 0 ≤ (x5_1 : Int) := of_decide_eq_true (by first | (with_reducible assumption) | assumption)
                have q173 : x5_1 < (l1.length : Int) := of_decide_eq_true (by first | (with_reducible assumption) | assumption)
                obtain ⟨ad173, e173, hx173_0⟩ := Kd.at_int HR1.out x5_1 p173 q173
                cases e173
                replace p173 := eq_true p173
                replace q173 := eq_true q173
                go_wp2
                repeat (go_quiet (fail); try go_wp2)
                go_roundg k1
                case measure => have := HK1.out; omega
                case rel => exact ⟨(wrap64 (x5_1 + 1)), (by first | rfl | (simp; done) | (simp [*]; done)), H', ⟨by have := HK1.out; omega⟩, by repeat (first | exact Drawn0.refl _ | apply Drawn0.step)⟩
              · rw [if_neg c7] at H
                have c7b0 : ((rd l0 x5_1) == (rd l1 x5_1)) = false := beq_eq_false_iff_ne.mpr c7
                have c7b1 : ((rd l0 x5_1) != (rd l1 x5_1)) = true := bne_iff_ne.mpr c7
                obtain rfl := Option.some.inj H
                have p172 : 0 ≤ (x5_1 : Int) := of_decide_eq_true (by first | (with_reducible assumption) | assumption)
                have q172 : x5_1 < (l0.length : Int) := of_decide_eq_true (by first | (with_reducible assumption) | assumption)
                obtain ⟨ad172, e172, hx172_0⟩ := Kd.at_int HR0.out x5_1 p172 q172
                cases e172
                replace p172 := eq_true p172
                replace q172 := eq_true q172
                have p173 : 0 ≤ (x5_1 : Int) := of_decide_eq_true (by first | (with_reducible assumption) | assumption)
                have q173 : x5_1 < (l1.length : Int) := of_decide_eq_true (by first | (with_reducible assumption) | assumption)
                obtain ⟨ad173, e173, hx173_0⟩ := Kd.at_int HR1.out x5_1 p173 q173
                cases e173
                replace p173 := eq_true p173
                replace q173 := eq_true q173
                go_wp2
                repeat (go_quiet (fail); try go_wp2)
                go_ret
                exact ⟨by first | rfl | (simp; done) | (simp [*]; done), by repeat (first | exact Drawn0.refl _ | apply Drawn0.step)⟩
            · rw [if_neg c6] at H
              exact absurd H (by simp)
          · rw [if_neg c5] at H
            exact absurd H (by simp)
        · rw [if_neg c4] at H
          have c4b0 : decide (x5_1 < (l0.length : Int)) = false := decide_eq_false c4
          clear c4
          obtain rfl := Option.some.inj H
          go_wp2
          repeat (go_quiet (fail); try go_wp2)
          go_ret
          exact ⟨by first | rfl | (simp; done) | (simp [*]; done), by repeat (first | exact Drawn0.refl _ | apply Drawn0.step)⟩
  · rw [if_neg c3] at H
    have c3b0 : ((l0.length : Int) == (l1.length : Int)) = false := beq_eq_false_iff_ne.mpr c3
    have c3b1 : ((l0.length : Int) != (l1.length : Int)) = true := bne_iff_ne.mpr c3
    have c3b2 : (l0.length == l1.length) = false := by first | simpa using c3 | (simp at c3 ⊢; omega)
    obtain rfl := Option.some.inj H
    go_enter Try.func12, Try.ntmps12
    go_wp2
    repeat (go_quiet (fail); try go_wp2)
    go_ret
    exact ⟨by first | rfl | (simp; done) | (simp [*]; done), by repeat (first | exact Drawn0.refl _ | apply Drawn0.step)⟩

end Go.Proofs.Ytojehfdioeglgaa.S

namespace Go.Proofs.Ytojehfdioeglgaa.S
open Go.RowKit Go.Proofs.YtojehfdioeglgaaW.PrintWords Go.Proofs.YtojehfdioeglgaaW.PrintLast Go.Proofs.YtojehfdioeglgaaW.PrintMore
attribute [local go_sem] max2_int min2_int max_two min_two max_three min_three max_four min_four   -- for this text's walks alone
set_option linter.unusedVariables false
set_option linter.unusedSimpArgs false

/-! ### laws_markIntS: function 13 -/
def laws_markIntS.l0 : Nat → List Int → Int → Int → Option (Int × List Int)
  | 0, _, _, _ => none
  | k + 1, x0, x1, x5 => if x5 < (x0.length : Int) then (if 0 ≤ x5 then (laws_markIntS.l0 k (x0.set (x5 : Int).toNat x1) (wrap64 (x1 + 1)) (wrap64 (x5 + 1))) else (none)) else (some (x1, x0))
def laws_markIntS.f (k : Nat) (l0 : List Int) (a1 : Int) : Option (Int × List Int) := laws_markIntS.l0 k l0 a1 0
theorem laws_markIntS.mono_l : ∀ k, (∀ y0 y1 y2, LeO (laws_markIntS.l0 k y0 y1 y2) (laws_markIntS.l0 (k + 1) y0 y1 y2))
  | 0 => fun _ _ _ r h => by simp [laws_markIntS.l0] at h
  | k + 1 => by
    have ih0 := laws_markIntS.mono_l k
    · intro y0 y1 y2
      unfold laws_markIntS.l0
      repeat' first
      | (with_reducible exact ih0 _ _ _)
      | (with_reducible exact LeO.refl _)
      | (with_reducible exact LeO.none _)
      | (with_reducible refine LeO.ite ?_ ?_)
      | (with_reducible refine LeO.bind ?_ (fun _ => ?_))
      | exact ih0 _ _ _
      | exact LeO.none _
      | refine LeO.ite ?_ ?_
      | refine LeO.bind ?_ (fun _ => ?_)
theorem laws_markIntS.mono : ∀ a0 a1 k, LeO (laws_markIntS.f k a0 a1) (laws_markIntS.f (k + 1) a0 a1) := by
  intro a0 a1 k
  have ih0 := laws_markIntS.mono_l k
  unfold laws_markIntS.f
  repeat' first
      | (with_reducible exact ih0 _ _ _)
      | (with_reducible exact LeO.refl _)
      | (with_reducible exact LeO.none _)
      | (with_reducible refine LeO.ite ?_ ?_)
      | (with_reducible refine LeO.bind ?_ (fun _ => ?_))
      | exact ih0 _ _ _
      | exact LeO.none _
      | refine LeO.ite ?_ ?_
      | refine LeO.bind ?_ (fun _ => ?_)
set_option maxHeartbeats 8000000 in
set_option maxRecDepth 100000 in
theorem laws_markIntS.calls (k : Nat) (P0_ : Nat → Prop) (u9000_ : Value) (l0 : List Int) (a1 : Int) (r1 : Int) (r2 : List Int) (w0 w : World) (hB : Below w0.heap.size w0 w) (ho0 : Kd.R (Kd.int .i64) 3 w w0.heap.size P0_ u9000_ l0) (h : laws_markIntS.f k l0 a1 = some (r1, r2)) :
    Calls Try.prog 13 #[u9000_, .int .i64 a1] w fun e w' => e = .returned (.int .i64 r1) ∧ Kd.R (Kd.int .i64) 3 w' w0.heap.size (fun k_ => (P0_ k_ ∨ w.heap.size ≤ k_)) u9000_ r2 ∧ Below w0.heap.size w0 w' ∧ Kept w w' (fun k_ => P0_ k_) := by
  have HO0 := Aside0.mk (show Kd.R (Kd.int .i64) 3 w w0.heap.size (fun k_ => (P0_ k_ ∨ w.heap.size ≤ k_)) u9000_ l0 from Kd.R_mono ho0 (fun k_ hk => (.inl hk)))
  have HK := Aside0.mk (Kept.refl w (fun k_ => P0_ k_))
  have HW0 := Aside0.mk hB.size
  have HB := Aside0.mk hB
  clear hB
  have H : (laws_markIntS.l0 k l0 a1 0) = some (r1, r2) := h
  clear h
  have H' := Aside0.mk H
  clear H
  go_enter Try.func13, Try.ntmps13
  go_wp2
  go_loopg [1, 5] k (fun kq v1 v5 w' => ∃ (x0_1 : List Int) (x1_1 : Int) (x5_1 : Int), v1 = .int .i64 x1_1 ∧ v5 = .int .i64 x5_1 ∧ Aside0 (laws_markIntS.l0 kq x0_1 x1_1 x5_1 = some (r1, r2)) ∧ Aside0 (kq ≤ k) ∧ Aside0 (Kd.R (Kd.int .i64) 3 w' w0.heap.size (fun k_ => (P0_ k_ ∨ w.heap.size ≤ k_)) u9000_ x0_1) ∧ Aside0 (Kept w w' (fun k_ => P0_ k_)) ∧ Aside0 (Below w0.heap.size w0 w'))
  case atStart => exact ⟨(l0), (a1), (0), (by first | rfl | (simp; done) | (simp [*]; done)), (by first | rfl | (simp; done) | (simp [*]; done)), H', ⟨Nat.le_refl _⟩, ⟨by (with_reducible repeat (first | apply Kd.R_alloc | apply Kd.R_drewN | apply Kd.R_drew)); exact HO0.out⟩, ⟨by repeat (first | (with_reducible first | exact HK.out | apply Kept.alloc | apply Kept.drewN | apply Kept.drew) | exact HK.out)⟩, ⟨by repeat (first | (with_reducible first | exact HB.out | apply below_alloc | apply pw_below_drewN | apply below_drew1) | exact HB.out)⟩⟩
  case round =>
    clear H'
    try clear c1
    try clear p2
    obtain ⟨x0_1, x1_1, x5_1, rfl, rfl, HA, HK1, HO_0, HK, HB⟩ := hrel
    cases gk with
    | zero => exact absurd HA.out (by simp [laws_markIntS.l0])
    | succ k1 =>
      have H := HA.out
      clear HA
      simp only [laws_markIntS.l0] at H
      by_cases c3 : x5_1 < (x0_1.length : Int)
      · rw [if_pos c3] at H
        have c3b0 : decide (x5_1 < (x0_1.length : Int)) = true := decide_eq_true c3
        clear c3
        by_cases c4 : 0 ≤ x5_1
        · rw [if_pos c4] at H
          have c4b0 : decide (0 ≤ x5_1) = true := decide_eq_true c4
          clear c4
          obtain ⟨y174, hy174⟩ : ∃ y_ : List Int, y_ = (x0_1.set (x5_1 : Int).toNat x1_1) := ⟨_, rfl⟩
          replace H : (laws_markIntS.l0 k1 y174 (wrap64 (x1_1 + 1)) (wrap64 (x5_1 + 1))) = some (r1, r2) := by first | (rw [hy174]; with_reducible exact H) | (have H2_ := (Option.bind_some _ _).symm.trans H; rw [hy174]; with_reducible exact H2_) | (have H2_ := (Option.bind_some _ _).symm.trans H; with_reducible exact H2_) | with_reducible exact H | (rw [hy174]; exact H) | exact H
          have Ny174 := Aside0.mk hy174
          clear hy174
          have H' := Aside0.mk H
          clear H
          obtain ⟨Ao6, co6, eo6⟩ := Kd.R_slice HO_0.out
          subst eo6
          have p5 : 0 ≤ (x5_1 : Int) := of_decide_eq_true (by first | (with_reducible assumption) | assumption)
          have q5 : (x5_1 : Int) < ((x0_1.length : Int) : Int) := of_decide_eq_true (by first | (with_reducible assumption) | assumption)
          obtain ⟨go5, co5, eo5, gb5, gl5, cl5, HG5⟩ := Kd.R_form HO_0.out (by omega)
          (first | cases eo5 | (injection eo5 with ea_ en_ ec_; (first | subst ea_ | (injection ea_ with ea_; subst ea_)); subst ec_; clear en_))
          have GB5 := Aside0.mk gb5
          have GG5 := Aside0.mk HG5
          clear gb5 gl5 HG5
          have HMgo5 := Aside0.mk (show (P0_ go5 ∨ w.heap.size ≤ go5) from (HO_0.out.1 _ rfl))
          obtain ⟨hx5_0, hf5_0⟩ := Kd.R_celln 0 HO_0.out (x5_1 : Int) p5 q5
          replace p5 := eq_true p5
          replace q5 := eq_true q5
          have HP7 := Kd.R_putg HO_0.out (x5_1 : Int) x1_1
          go_wp2_with (first | ((with_reducible refine gate_store (t := 3) (p := 15) rfl ?_); refine store_event (t := 3) (p := 15) (v := ?vo_w8) (w1 := (wr.setCell ⟨go5, (x5_1 : Int).toNat, none⟩ (.int .i64 x1_1))) ?hg ?ho ?hn ?hr ?_; (case ho => rfl); (case hg => rfl); (case hn => rfl); (case hr => first | (go_simp; done) | (go_simp; rfl)); intro w8 hw; have hg : wr.grownBy w8 (some go5) := (by rw [hw]; exact HP7.2); have hp_ : Kd.R (Kd.int .i64) 3 w8 w0.heap.size (fun k_ => (P0_ k_ ∨ w.heap.size ≤ k_)) (.slice (some ⟨go5, 0, none⟩) x0_1.length co6) y174 := (by rw [hw, Ny174.out]; exact HP7.1); clear HP7; have n0_ := Aside0.mk (hp_); have n1_ := Aside0.mk ((by rw [hw]; exact below_set (HB.out) GB5.out : Below w0.heap.size w0 w8)); have n2_ := Aside0.mk (Kept.of_grown (S := (fun k_ => P0_ k_)) hg (by repeat (first | (with_reducible first | exact HK.out | apply Kept.alloc | apply Kept.drewN | apply Kept.drew) | exact HK.out)) (fun k_ e_ => (HO_0.out.1 k_ e_))); clear HO_0; clear HB; clear HK; have HO_0 := n0_; have HB := n1_; have HK := n2_; clear n0_ n1_ n2_; clear hg hw hp_))
          go_roundg k1
          case measure => have := HK1.out; omega
          case rel => exact ⟨(y174), (wrap64 (x1_1 + 1)), (wrap64 (x5_1 + 1)), (by first | rfl | (simp; done) | (simp [*]; done)), (by first | rfl | (simp; done) | (simp [*]; done)), H', ⟨by have := HK1.out; omega⟩, ⟨by (with_reducible repeat (first | apply Kd.R_alloc | apply Kd.R_drewN | apply Kd.R_drew)); exact HO_0.out⟩, ⟨by repeat (first | (with_reducible first | exact HK.out | apply Kept.alloc | apply Kept.drewN | apply Kept.drew) | exact HK.out)⟩, ⟨by repeat (first | (with_reducible first | exact HB.out | apply below_alloc | apply pw_below_drewN | apply below_drew1) | exact HB.out)⟩⟩
        · rw [if_neg c4] at H
          exact absurd H (by simp)
      · rw [if_neg c3] at H
        have c3b0 : decide (x5_1 < (x0_1.length : Int)) = false := decide_eq_false c3
        clear c3
        simp only [Option.some.injEq, Prod.mk.injEq] at H
        obtain ⟨rfl, rfl⟩ := H
        obtain ⟨Ao9, co9, eo9⟩ := Kd.R_slice HO_0.out
        subst eo9
        go_wp2
        go_ret
        exact ⟨by first | rfl | (simp [errW_none, errW_some] <;> rfl) | (simp [*, errW_none, errW_some] <;> rfl), by (with_reducible repeat (first | apply Kd.R_alloc | apply Kd.R_drewN | apply Kd.R_drew)); exact HO_0.out, by repeat (first | (with_reducible first | exact HB.out | apply below_alloc | apply pw_below_drewN | apply below_drew1) | exact HB.out), by repeat (first | (with_reducible first | exact HK.out | apply Kept.alloc | apply Kept.drewN | apply Kept.drew) | exact HK.out)⟩

end Go.Proofs.Ytojehfdioeglgaa.S

namespace Go.Proofs.Ytojehfdioeglgaa.S
open Go.RowKit Go.Proofs.YtojehfdioeglgaaW.PrintWords Go.Proofs.YtojehfdioeglgaaW.PrintLast Go.Proofs.YtojehfdioeglgaaW.PrintMore
attribute [local go_sem] max2_int min2_int max_two min_two max_three min_three max_four min_four   -- for this text's walks alone
set_option linter.unusedVariables false
set_option linter.unusedSimpArgs false

/-! ### laws_heldIntS: function 14 -/
def laws_heldIntS.l0 : Nat → List Int → Int → Int → Option (Int)
  | 0, _, _, _ => none
  | k + 1, x0, x1, x5 => if x5 < (x0.length : Int) then (if 0 ≤ x5 then (if (rd x0 x5) = x1 then (laws_heldIntS.l0 k x0 (wrap64 (x1 + 1)) (wrap64 (x5 + 1))) else (some (-1))) else (none)) else (some x1)
def laws_heldIntS.f (k : Nat) (l0 : List Int) (a1 : Int) : Option (Int) := laws_heldIntS.l0 k l0 a1 0
theorem laws_heldIntS.mono_l : ∀ k, (∀ y0 y1 y2, LeO (laws_heldIntS.l0 k y0 y1 y2) (laws_heldIntS.l0 (k + 1) y0 y1 y2))
  | 0 => fun _ _ _ r h => by simp [laws_heldIntS.l0] at h
  | k + 1 => by
    have ih0 := laws_heldIntS.mono_l k
    · intro y0 y1 y2
      unfold laws_heldIntS.l0
      repeat' first
      | (with_reducible exact ih0 _ _ _)
      | (with_reducible exact LeO.refl _)
      | (with_reducible exact LeO.none _)
      | (with_reducible refine LeO.ite ?_ ?_)
      | (with_reducible refine LeO.bind ?_ (fun _ => ?_))
      | exact ih0 _ _ _
      | exact LeO.none _
      | refine LeO.ite ?_ ?_
      | refine LeO.bind ?_ (fun _ => ?_)
theorem laws_heldIntS.mono : ∀ a0 a1 k, LeO (laws_heldIntS.f k a0 a1) (laws_heldIntS.f (k + 1) a0 a1) := by
  intro a0 a1 k
  have ih0 := laws_heldIntS.mono_l k
  unfold laws_heldIntS.f
  repeat' first
      | (with_reducible exact ih0 _ _ _)
      | (with_reducible exact LeO.refl _)
      | (with_reducible exact LeO.none _)
      | (with_reducible refine LeO.ite ?_ ?_)
      | (with_reducible refine LeO.bind ?_ (fun _ => ?_))
      | exact ih0 _ _ _
      | exact LeO.none _
      | refine LeO.ite ?_ ?_
      | refine LeO.bind ?_ (fun _ => ?_)
set_option maxHeartbeats 8000000 in
set_option maxRecDepth 100000 in
theorem laws_heldIntS.calls (k : Nat) (A0 : Option Addr) (c0 : Nat) (l0 : List Int) (a1 : Int) (r : Int) (w : World) (hr0 : Kd.C (Kd.int .i64) w A0 l0.length l0) (hc0 : l0.length ≤ c0) (h : laws_heldIntS.f k l0 a1 = some r) :
    Calls Try.prog 14 #[.slice A0 l0.length c0, .int .i64 a1] w fun e w' => e = .returned (.int .i64 r) ∧ Drawn0 w w' := by
  have HR0 := Aside0.mk hr0
  have HC0 := Aside0.mk hc0
  clear hr0 hc0
  have H : (laws_heldIntS.l0 k l0 a1 0) = some r := h
  clear h
  have H' := Aside0.mk H
  clear H
  go_enter Try.func14, Try.ntmps14
  go_wp2
  go_loopg [1, 5] k (fun kq v1 v5 w' => ∃ (x1_1 : Int) (x5_1 : Int), v1 = .int .i64 x1_1 ∧ v5 = .int .i64 x5_1 ∧ Aside0 (laws_heldIntS.l0 kq l0 x1_1 x5_1 = some r) ∧ Aside0 (kq ≤ k) ∧ Drawn0 w w')
  case atStart => exact ⟨(a1), (0), (by first | rfl | (simp; done) | (simp [*]; done)), (by first | rfl | (simp; done) | (simp [*]; done)), H', ⟨Nat.le_refl _⟩, by repeat (first | exact Drawn0.refl _ | apply Drawn0.step)⟩
  case round =>
    clear H'
    try clear c1
    try clear p2
    obtain ⟨x1_1, x5_1, rfl, rfl, HA, HK1, ⟨m1, rfl⟩⟩ := hrel
    cases gk with
    | zero => exact absurd HA.out (by simp [laws_heldIntS.l0])
    | succ k1 =>
      have H := HA.out
      clear HA
      simp only [laws_heldIntS.l0] at H
      by_cases c3 : x5_1 < (l0.length : Int)
      · rw [if_pos c3] at H
        have c3b0 : decide (x5_1 < (l0.length : Int)) = true := decide_eq_true c3
        clear c3
        by_cases c4 : 0 ≤ x5_1
        · rw [if_pos c4] at H
          have c4b0 : decide (0 ≤ x5_1) = true := decide_eq_true c4
          clear c4
          by_cases c5 : (rd l0 x5_1) = x1_1
          · rw [if_pos c5] at H
            have c5b0 : ((rd l0 x5_1) == x1_1) = true := beq_iff_eq.mpr c5
            have c5b1 : ((rd l0 x5_1) != x1_1) = false := bne_eq_false_iff_eq.mpr c5
            clear c5
            have H' := Aside0.mk H
            clear H
            have p175 : 0 ≤ (x5_1 : Int) := of_decide_eq_true (by first | (with_reducible assumption) | assumption)
            have q175 : x5_1 < (l0.length : Int) := of_decide_eq_true (by first | (with_reducible assumption) | assumption)
            obtain ⟨ad175, e175, hx175_0⟩ := Kd.at_int HR0.out x5_1 p175 q175
            cases e175
            replace p175 := eq_true p175
            replace q175 := eq_true q175
            go_wp2
            go_roundg k1
            case measure => have := HK1.out; omega
            case rel => exact ⟨(wrap64 (x1_1 + 1)), (wrap64 (x5_1 + 1)), (by first | rfl | (simp; done) | (simp [*]; done)), (by first | rfl | (simp; done) | (simp [*]; done)), H', ⟨by have := HK1.out; omega⟩, by repeat (first | exact Drawn0.refl _ | apply Drawn0.step)⟩
          · rw [if_neg c5] at H
            have c5b0 : ((rd l0 x5_1) == x1_1) = false := beq_eq_false_iff_ne.mpr c5
            have c5b1 : ((rd l0 x5_1) != x1_1) = true := bne_iff_ne.mpr c5
            obtain rfl := Option.some.inj H
            have p175 : 0 ≤ (x5_1 : Int) := of_decide_eq_true (by first | (with_reducible assumption) | assumption)
            have q175 : x5_1 < (l0.length : Int) := of_decide_eq_true (by first | (with_reducible assumption) | assumption)
            obtain ⟨ad175, e175, hx175_0⟩ := Kd.at_int HR0.out x5_1 p175 q175
            cases e175
            replace p175 := eq_true p175
            replace q175 := eq_true q175
            go_wp2
            go_ret
            exact ⟨by first | rfl | (simp; done) | (simp [*]; done), by repeat (first | exact Drawn0.refl _ | apply Drawn0.step)⟩
        · rw [if_neg c4] at H
          exact absurd H (by simp)
      · rw [if_neg c3] at H
        have c3b0 : decide (x5_1 < (l0.length : Int)) = false := decide_eq_false c3
        clear c3
        obtain rfl := Option.some.inj H
        go_wp2
        go_ret
        exact ⟨by first | rfl | (simp; done) | (simp [*]; done), by repeat (first | exact Drawn0.refl _ | apply Drawn0.step)⟩

end Go.Proofs.Ytojehfdioeglgaa.S

namespace Go.Proofs.Ytojehfdioeglgaa.S
open Go.RowKit Go.Proofs.YtojehfdioeglgaaW.PrintWords Go.Proofs.YtojehfdioeglgaaW.PrintLast Go.Proofs.YtojehfdioeglgaaW.PrintMore
attribute [local go_sem] max2_int min2_int max_two min_two max_three min_three max_four min_four   -- for this text's walks alone
set_option linter.unusedVariables false
set_option linter.unusedSimpArgs false

theorem q1s {α : Type} (l : List α) (i : Nat) (a : α) : l.toArray.setIfInBounds i a = (l.set i a).toArray := List.setIfInBounds_toArray ..
theorem q1z {α : Type} (a : α) (l : List α) (b : α) : (a :: l).set 0 b = b :: l := List.set_cons_zero ..
theorem q1n {α : Type} (a : α) (l : List α) (i : Nat) (b : α) : (a :: l).set (i + 1) b = a :: l.set i b := List.set_cons_succ ..
/-! ### laws_FnExactLevelWeak: function 3 -/
def laws_FnExactLevelWeak.j0 : Nat → List Int → Int → List Int → List Int → Bool → Option (Bool)
 | 0, _, _, _, _, _ => none
 | k + 1, x0, x1, x5, x7, x43 => if x43 = true then (some false) else ((laws_markIntS.f k x7 1).bind fun bt196 => ((laws_heldIntS.f k bt196.2 1).bind fun t198 => (if t198 < 0 then (some false) else (if t198 = bt196.1 then ((laws_toIntS.f k x0).bind fun t199 => ((impl_LevelWeak.f t199 x1).bind fun t202 => ((laws_eqIntS.f k t202 x5).bind fun t205 => (if t205 = true then ((laws_heldIntS.f k bt196.2 1).bind fun t206 => (if t206 < 0 then (some false) else (if t206 = bt196.1 then (some true) else (some false)))) else (some false))))) else (some false)))))
def laws_FnExactLevelWeak.f (k : Nat) (l0 : List Int) (a1 : Int) : Option (Bool) := if (l0.length : Int) > 1048576 then (some true) else ((laws_toIntS.f k l0).bind fun t176 => ((spec_LevelWeak.f k t176 a1).bind fun t179 => ((laws_toIntS.f k l0).bind fun t182 => ((impl_LevelWeak.f t182 a1).bind fun t185 => ((laws_eqIntS.f k t185 t179).bind fun t188 => (if t188 = true then ((laws_toIntS.f k l0).bind fun t189 => ((laws_eqIntS.f k t182 t189).bind fun t192 => (if t192 = true then ((laws_markIntS.f k t182 1).bind fun bt193 => (if bt193.1 < 0 then (laws_FnExactLevelWeak.j0 k l0 a1 t179 t185 true) else ((laws_eqIntS.f k t185 t179).bind fun t195 => (laws_FnExactLevelWeak.j0 k l0 a1 t179 t185 (!t195))))) else (some false)))) else (some false)))))))
theorem laws_FnExactLevelWeak.mono_l : ∀ k, (∀ y0 y1 y2 y3 y4, LeO (laws_FnExactLevelWeak.j0 k y0 y1 y2 y3 y4) (laws_FnExactLevelWeak.j0 (k + 1) y0 y1 y2 y3 y4))
 | 0 => fun _ _ _ _ _ r h => by simp [laws_FnExactLevelWeak.j0] at h
 | k + 1 => by
  have ih0 := laws_FnExactLevelWeak.mono_l k
  ·
   intro y0 y1 y2 y3 y4; unfold laws_FnExactLevelWeak.j0
   repeat' first
   | (with_reducible exact ih0 _ _ _ _ _)
   | (with_reducible exact laws_eqIntS.mono _ _ _)
   | (with_reducible exact laws_heldIntS.mono _ _ _)
   | (with_reducible exact laws_markIntS.mono _ _ _)
   | (with_reducible exact laws_toIntS.mono _ _)
   | (with_reducible exact spec_LevelWeak.mono _ _ _)
   | (with_reducible exact LeO.refl _)
   | (with_reducible exact LeO.none _)
   | (with_reducible refine LeO.ite ?_ ?_)
   | (with_reducible refine LeO.bind ?_ (fun _ => ?_))
   | exact ih0 _ _ _ _ _
   | exact laws_eqIntS.mono _ _ _
   | exact laws_heldIntS.mono _ _ _
   | exact laws_markIntS.mono _ _ _
   | exact laws_toIntS.mono _ _
   | exact spec_LevelWeak.mono _ _ _
   | exact LeO.none _
   | refine LeO.ite ?_ ?_
   | refine LeO.bind ?_ (fun _ => ?_)
theorem laws_FnExactLevelWeak.mono : ∀ a0 a1 k, LeO (laws_FnExactLevelWeak.f k a0 a1) (laws_FnExactLevelWeak.f (k + 1) a0 a1) := by
 intro a0 a1 k; have ih0 := laws_FnExactLevelWeak.mono_l k; unfold laws_FnExactLevelWeak.f
 repeat' first
   | (with_reducible exact ih0 _ _ _ _ _)
   | (with_reducible exact laws_eqIntS.mono _ _ _)
   | (with_reducible exact laws_heldIntS.mono _ _ _)
   | (with_reducible exact laws_markIntS.mono _ _ _)
   | (with_reducible exact laws_toIntS.mono _ _)
   | (with_reducible exact spec_LevelWeak.mono _ _ _)
   | (with_reducible exact LeO.refl _)
   | (with_reducible exact LeO.none _)
   | (with_reducible refine LeO.ite ?_ ?_)
   | (with_reducible refine LeO.bind ?_ (fun _ => ?_))
   | exact ih0 _ _ _ _ _
   | exact laws_eqIntS.mono _ _ _
   | exact laws_heldIntS.mono _ _ _
   | exact laws_markIntS.mono _ _ _
   | exact laws_toIntS.mono _ _
   | exact spec_LevelWeak.mono _ _ _
   | exact LeO.none _
   | refine LeO.ite ?_ ?_
   | refine LeO.bind ?_ (fun _ => ?_)
set_option maxHeartbeats 8000000 in
set_option maxRecDepth 100000 in
theorem laws_FnExactLevelWeak.calls (k : Nat) (A0 : Option Addr) (c0 : Nat) (l0 : List Int) (a1 : Int) (r : Bool) (w : World) (hr0 : Kd.C (Kd.int .i64) w A0 l0.length l0) (hc0 : l0.length ≤ c0) (h : laws_FnExactLevelWeak.f k l0 a1 = some r) :
  Calls Try.prog 3 #[.slice A0 l0.length c0, .int .i64 a1] w fun e w' => e = .returned (.bool r) ∧ Below w.heap.size w w' := by
 have HR0 := Aside0.mk hr0; have HC0 := Aside0.mk hc0; clear hr0 hc0; have HB := Aside0.mk (Below.refl w.heap.size w); have H : (if (l0.length : Int) > 1048576 then (some true) else ((laws_toIntS.f k l0).bind fun t176 => ((spec_LevelWeak.f k t176 a1).bind fun t179 => ((laws_toIntS.f k l0).bind fun t182 => ((impl_LevelWeak.f t182 a1).bind fun t185 => ((laws_eqIntS.f k t185 t179).bind fun t188 => (if t188 = true then ((laws_toIntS.f k l0).bind fun t189 => ((laws_eqIntS.f k t182 t189).bind fun t192 => (if t192 = true then ((laws_markIntS.f k t182 1).bind fun bt193 => (if bt193.1 < 0 then (laws_FnExactLevelWeak.j0 k l0 a1 t179 t185 true) else ((laws_eqIntS.f k t185 t179).bind fun t195 => (laws_FnExactLevelWeak.j0 k l0 a1 t179 t185 (!t195))))) else (some false)))) else (some false)))))))) = some r := h; clear h; by_cases c3 : (l0.length : Int) > 1048576
 ·
  rw [if_pos c3] at H; have c3b0 : decide (1048576 < (l0.length : Int)) = true := decide_eq_true c3; have c3b1 : decide (1048576 < l0.length) = true := decide_eq_true (by omega); clear c3; obtain rfl := Option.some.inj H; go_enter Try.func3, Try.ntmps3; go_wp2; go_ret; exact ⟨by first | rfl | (simp [errW_none, errW_some] <;> rfl) | (simp [*, errW_none, errW_some] <;> rfl), by repeat (first | (with_reducible first | exact HB.out | apply below_alloc | apply pw_below_drewN | apply below_drew1) | exact HB.out)⟩
 ·
  rw [if_neg c3] at H; have c3b0 : decide (1048576 < (l0.length : Int)) = false := decide_eq_false c3; have c3b1 : decide (1048576 < l0.length) = false := decide_eq_false (by omega); clear c3; replace H := Option.bind_eq_some_iff.mp H; obtain ⟨t176, A40, H⟩ := H; replace H : ((spec_LevelWeak.f k t176 a1).bind fun t179 => ((laws_toIntS.f k l0).bind fun t182 => ((impl_LevelWeak.f t182 a1).bind fun t185 => ((laws_eqIntS.f k t185 t179).bind fun t188 => (if t188 = true then ((laws_toIntS.f k l0).bind fun t189 => ((laws_eqIntS.f k t182 t189).bind fun t192 => (if t192 = true then ((laws_markIntS.f k t182 1).bind fun bt193 => (if bt193.1 < 0 then (laws_FnExactLevelWeak.j0 k l0 a1 t179 t185 true) else ((laws_eqIntS.f k t185 t179).bind fun t195 => (laws_FnExactLevelWeak.j0 k l0 a1 t179 t185 (!t195))))) else (some false)))) else (some false)))))) = some r := H; have A4 := Aside0.mk A40; clear A40; replace H := Option.bind_eq_some_iff.mp H; obtain ⟨t179, A50, H⟩ := H; replace H : ((laws_toIntS.f k l0).bind fun t182 => ((impl_LevelWeak.f t182 a1).bind fun t185 => ((laws_eqIntS.f k t185 t179).bind fun t188 => (if t188 = true then ((laws_toIntS.f k l0).bind fun t189 => ((laws_eqIntS.f k t182 t189).bind fun t192 => (if t192 = true then ((laws_markIntS.f k t182 1).bind fun bt193 => (if bt193.1 < 0 then (laws_FnExactLevelWeak.j0 k l0 a1 t179 t185 true) else ((laws_eqIntS.f k t185 t179).bind fun t195 => (laws_FnExactLevelWeak.j0 k l0 a1 t179 t185 (!t195))))) else (some false)))) else (some false))))) = some r := H; have A5 := Aside0.mk A50; clear A50; replace H := Option.bind_eq_some_iff.mp H; obtain ⟨t182, A60, H⟩ := H; replace H : ((impl_LevelWeak.f t182 a1).bind fun t185 => ((laws_eqIntS.f k t185 t179).bind fun t188 => (if t188 = true then ((laws_toIntS.f k l0).bind fun t189 => ((laws_eqIntS.f k t182 t189).bind fun t192 => (if t192 = true then ((laws_markIntS.f k t182 1).bind fun bt193 => (if bt193.1 < 0 then (laws_FnExactLevelWeak.j0 k l0 a1 t179 t185 true) else ((laws_eqIntS.f k t185 t179).bind fun t195 => (laws_FnExactLevelWeak.j0 k l0 a1 t179 t185 (!t195))))) else (some false)))) else (some false)))) = some r := H; have A6 := Aside0.mk A60; clear A60; replace H := Option.bind_eq_some_iff.mp H; obtain ⟨t185, A70, H⟩ := H; replace H : ((laws_eqIntS.f k t185 t179).bind fun t188 => (if t188 = true then ((laws_toIntS.f k l0).bind fun t189 => ((laws_eqIntS.f k t182 t189).bind fun t192 => (if t192 = true then ((laws_markIntS.f k t182 1).bind fun bt193 => (if bt193.1 < 0 then (laws_FnExactLevelWeak.j0 k l0 a1 t179 t185 true) else ((laws_eqIntS.f k t185 t179).bind fun t195 => (laws_FnExactLevelWeak.j0 k l0 a1 t179 t185 (!t195))))) else (some false)))) else (some false))) = some r := H; have A7 := Aside0.mk A70; clear A70; replace H := Option.bind_eq_some_iff.mp H; obtain ⟨t188, A80, H⟩ := H; replace H : (if t188 = true then ((laws_toIntS.f k l0).bind fun t189 => ((laws_eqIntS.f k t182 t189).bind fun t192 => (if t192 = true then ((laws_markIntS.f k t182 1).bind fun bt193 => (if bt193.1 < 0 then (laws_FnExactLevelWeak.j0 k l0 a1 t179 t185 true) else ((laws_eqIntS.f k t185 t179).bind fun t195 => (laws_FnExactLevelWeak.j0 k l0 a1 t179 t185 (!t195))))) else (some false)))) else (some false)) = some r := H; have A8 := Aside0.mk A80; clear A80; by_cases c9 : t188 = true
  ·
   subst c9; have H1 : ((laws_toIntS.f k l0).bind fun t189 => ((laws_eqIntS.f k t182 t189).bind fun t192 => (if t192 = true then ((laws_markIntS.f k t182 1).bind fun bt193 => (if bt193.1 < 0 then (laws_FnExactLevelWeak.j0 k l0 a1 t179 t185 true) else ((laws_eqIntS.f k t185 t179).bind fun t195 => (laws_FnExactLevelWeak.j0 k l0 a1 t179 t185 (!t195))))) else (some false)))) = some r := by rw [if_pos rfl] at H; exact H
   clear H; have H := H1; clear H1; replace H := Option.bind_eq_some_iff.mp H; obtain ⟨t189, A100, H⟩ := H; replace H : ((laws_eqIntS.f k t182 t189).bind fun t192 => (if t192 = true then ((laws_markIntS.f k t182 1).bind fun bt193 => (if bt193.1 < 0 then (laws_FnExactLevelWeak.j0 k l0 a1 t179 t185 true) else ((laws_eqIntS.f k t185 t179).bind fun t195 => (laws_FnExactLevelWeak.j0 k l0 a1 t179 t185 (!t195))))) else (some false))) = some r := H; have A10 := Aside0.mk A100; clear A100; replace H := Option.bind_eq_some_iff.mp H; obtain ⟨t192, A110, H⟩ := H; replace H : (if t192 = true then ((laws_markIntS.f k t182 1).bind fun bt193 => (if bt193.1 < 0 then (laws_FnExactLevelWeak.j0 k l0 a1 t179 t185 true) else ((laws_eqIntS.f k t185 t179).bind fun t195 => (laws_FnExactLevelWeak.j0 k l0 a1 t179 t185 (!t195))))) else (some false)) = some r := H; have A11 := Aside0.mk A110; clear A110; by_cases c12 : t192 = true
   ·
    subst c12; have H1 : ((laws_markIntS.f k t182 1).bind fun bt193 => (if bt193.1 < 0 then (laws_FnExactLevelWeak.j0 k l0 a1 t179 t185 true) else ((laws_eqIntS.f k t185 t179).bind fun t195 => (laws_FnExactLevelWeak.j0 k l0 a1 t179 t185 (!t195))))) = some r := by rw [if_pos rfl] at H; exact H
    clear H; have H := H1; clear H1; replace H := Option.bind_eq_some_iff.mp H; obtain ⟨⟨t193, t194⟩, A130, H⟩ := H; replace H : (if t193 < 0 then (laws_FnExactLevelWeak.j0 k l0 a1 t179 t185 true) else ((laws_eqIntS.f k t185 t179).bind fun t195 => (laws_FnExactLevelWeak.j0 k l0 a1 t179 t185 (!t195)))) = some r := H; have A13 := Aside0.mk A130; clear A130; have HC14 := Aside0.mk H; clear H; go_enter Try.func3, Try.ntmps3; go_upto_region 12 with (first | ((with_reducible refine gate_callee (f := 10) rfl ?_); refine goesL_ (some 16) rfl rfl Try.func10 (by kernel_rfl) rfl #[.slice A0 l0.length c0] rfl (by (try simp only [List.map_toArray, List.map_cons, List.map_nil]); first | done | rfl) ?_; (with_reducible refine (laws_toIntS.calls k _ _ l0 t176 _ ?side1 ?side2 A4.out).mono ?_); (case side1 => repeat (first | exact HR0.out | (with_reducible refine Kd.C_alloc ?_ _) | (with_reducible refine Kd.C_drewN ?_ _) | (with_reducible refine Kd.C_drew ?_))); (case side2 => exact HC0.out); rintro e w15 ⟨v177, rfl, ho0, hb⟩; refine ⟨_, rfl, ?_⟩; have n0_ := Aside0.mk (Kd.R_lower ho0 (below_size (by repeat (first | (with_reducible first | exact HB.out | apply below_alloc | apply pw_below_drewN | apply below_drew1) | exact HB.out)))); have n1_ := Aside0.mk (below_step (by repeat (first | (with_reducible first | exact HB.out | apply below_alloc | apply pw_below_drewN | apply below_drew1) | exact HB.out)) hb); clear HB; have HO178 := n0_; have HB := n1_; clear n0_ n1_; (try clear hb); (try clear hb2); (try clear hk); (try clear hi); (try clear ho0); obtain ⟨Ao16, co16, eo16⟩ := Kd.R_slice HO178.out; subst eo16) | ((with_reducible refine gate_callee (f := 9) rfl ?_); refine goesL_ (some 18) rfl rfl Try.func9 (by kernel_rfl) rfl #[.slice Ao16 t176.length co16, .int .i64 a1] rfl (by (try simp only [List.map_toArray, List.map_cons, List.map_nil]); first | done | rfl) ?_; (with_reducible refine (spec_LevelWeak.calls k _ _ t176 a1 t179 _ ?side1 ?side2 A5.out).mono ?_); (case side1 => repeat (first | exact (Kd.R_reads' HO178.out).2.2 | (with_reducible refine Kd.C_alloc ?_ _) | (with_reducible refine Kd.C_drewN ?_ _) | (with_reducible refine Kd.C_drew ?_))); (case side2 => exact (Kd.R_reads' HO178.out).2.1); rintro e w17 ⟨v180, rfl, ho0, hb⟩; refine ⟨_, rfl, ?_⟩; have n0_ := Aside0.mk (Kd.R_elder' (by (with_reducible repeat (first | apply Kd.R_alloc | apply Kd.R_drewN | apply Kd.R_drew)); exact HO178.out) (Kd.R_base ho0) hb); have n1_ := Aside0.mk (Kd.R_lower (Kd.R_new' ho0 (Kd.R_lt (by (with_reducible repeat (first | apply Kd.R_alloc | apply Kd.R_drewN | apply Kd.R_drew)); exact HO178.out))) (below_size (by repeat (first | (with_reducible first | exact HB.out | apply below_alloc | apply pw_below_drewN | apply below_drew1) | exact HB.out)))); have n2_ := Aside0.mk (below_step (by repeat (first | (with_reducible first | exact HB.out | apply below_alloc | apply pw_below_drewN | apply below_drew1) | exact HB.out)) hb); clear HO178; clear HB; have HO178 := n0_; have HO181 := n1_; have HB := n2_; clear n0_ n1_ n2_; (try clear hb); (try clear hb2); (try clear hk); (try clear hi); (try clear ho0)) | ((with_reducible refine gate_callee (f := 10) rfl ?_); refine goesL_ (some 20) rfl rfl Try.func10 (by kernel_rfl) rfl #[.slice A0 l0.length c0] rfl (by (try simp only [List.map_toArray, List.map_cons, List.map_nil]); first | done | rfl) ?_; (with_reducible refine (laws_toIntS.calls k _ _ l0 t182 _ ?side1 ?side2 A6.out).mono ?_); (case side1 => repeat (first | exact (Kd.C_below HR0.out HB.out) | (with_reducible refine Kd.C_alloc ?_ _) | (with_reducible refine Kd.C_drewN ?_ _) | (with_reducible refine Kd.C_drew ?_))); (case side2 => exact HC0.out); rintro e w18 ⟨v183, rfl, ho0, hb⟩; refine ⟨_, rfl, ?_⟩; have n0_ := Aside0.mk (Kd.R_elder' (by (with_reducible repeat (first | apply Kd.R_alloc | apply Kd.R_drewN | apply Kd.R_drew)); exact HO178.out) (Kd.R_base ho0) hb); have n1_ := Aside0.mk (Kd.R_elder' (by (with_reducible repeat (first | apply Kd.R_alloc | apply Kd.R_drewN | apply Kd.R_drew)); exact HO181.out) (Kd.R_base ho0) hb); have n2_ := Aside0.mk (Kd.R_lower (Kd.R_new' (Kd.R_new' ho0 (Kd.R_lt (by (with_reducible repeat (first | apply Kd.R_alloc | apply Kd.R_drewN | apply Kd.R_drew)); exact HO178.out))) (Kd.R_lt (by (with_reducible repeat (first | apply Kd.R_alloc | apply Kd.R_drewN | apply Kd.R_drew)); exact HO181.out))) (below_size (by repeat (first | (with_reducible first | exact HB.out | apply below_alloc | apply pw_below_drewN | apply below_drew1) | exact HB.out)))); have n3_ := Aside0.mk (below_step (by repeat (first | (with_reducible first | exact HB.out | apply below_alloc | apply pw_below_drewN | apply below_drew1) | exact HB.out)) hb); clear HO178; clear HO181; clear HB; have HO178 := n0_; have HO181 := n1_; have HO184 := n2_; have HB := n3_; clear n0_ n1_ n2_ n3_; (try clear hb); (try clear hb2); (try clear hk); (try clear hi); (try clear ho0); obtain ⟨Ao19, co19, eo19⟩ := Kd.R_slice HO184.out; subst eo19) | ((with_reducible refine gate_callee (f := 11) rfl ?_); refine goesL_ (some 23) rfl rfl Try.func11 (by kernel_rfl) rfl #[.slice Ao19 t182.length co19, .int .i64 a1] rfl (by (try simp only [List.map_toArray, List.map_cons, List.map_nil]); first | done | rfl) ?_; (with_reducible refine (impl_LevelWeak.calls _ _ t182 a1 t185 _ ?side1 ?side2 A7.out).mono ?_); (case side1 => repeat (first | exact (Kd.R_reads' HO184.out).2.2 | (with_reducible refine Kd.C_alloc ?_ _) | (with_reducible refine Kd.C_drewN ?_ _) | (with_reducible refine Kd.C_drew ?_))); (case side2 => exact (Kd.R_reads' HO184.out).2.1); rintro e w20 ⟨v186, rfl, ho0, hb⟩; refine ⟨_, rfl, ?_⟩; have n0_ := Aside0.mk (Kd.R_elder' (by (with_reducible repeat (first | apply Kd.R_alloc | apply Kd.R_drewN | apply Kd.R_drew)); exact HO178.out) (Kd.R_base ho0) hb); have n1_ := Aside0.mk (Kd.R_elder' (by (with_reducible repeat (first | apply Kd.R_alloc | apply Kd.R_drewN | apply Kd.R_drew)); exact HO181.out) (Kd.R_base ho0) hb); have n2_ := Aside0.mk (Kd.R_elder' (by (with_reducible repeat (first | apply Kd.R_alloc | apply Kd.R_drewN | apply Kd.R_drew)); exact HO184.out) (Kd.R_base ho0) hb); have n3_ := Aside0.mk (Kd.R_lower (Kd.R_new' (Kd.R_new' (Kd.R_new' ho0 (Kd.R_lt (by (with_reducible repeat (first | apply Kd.R_alloc | apply Kd.R_drewN | apply Kd.R_drew)); exact HO178.out))) (Kd.R_lt (by (with_reducible repeat (first | apply Kd.R_alloc | apply Kd.R_drewN | apply Kd.R_drew)); exact HO181.out))) (Kd.R_lt (by (with_reducible repeat (first | apply Kd.R_alloc | apply Kd.R_drewN | apply Kd.R_drew)); exact HO184.out))) (below_size (by repeat (first | (with_reducible first | exact HB.out | apply below_alloc | apply pw_below_drewN | apply below_drew1) | exact HB.out)))); have n4_ := Aside0.mk (below_step (by repeat (first | (with_reducible first | exact HB.out | apply below_alloc | apply pw_below_drewN | apply below_drew1) | exact HB.out)) hb); clear HO178; clear HO181; clear HO184; clear HB; have HO178 := n0_; have HO181 := n1_; have HO184 := n2_; have HO187 := n3_; have HB := n4_; clear n0_ n1_ n2_ n3_ n4_; (try clear hb); (try clear hb2); (try clear hk); (try clear hi); (try clear ho0); obtain ⟨Ao21, co21, eo21⟩ := Kd.R_slice HO187.out; subst eo21; obtain ⟨Ao22, co22, eo22⟩ := Kd.R_slice HO181.out; subst eo22) | ((with_reducible refine gate_callee (f := 12) rfl ?_); refine goesL_ (some 26) rfl rfl Try.func12 (by kernel_rfl) rfl #[.slice Ao21 t185.length co21, .slice Ao22 t179.length co22] rfl (by (try simp only [List.map_toArray, List.map_cons, List.map_nil]); first | done | rfl) ?_; (with_reducible refine (laws_eqIntS.calls k _ _ t185 _ _ t179 true _ ?side1 ?side2 ?side3 ?side4 A8.out).mono ?_); (case side1 => repeat (first | exact (Kd.R_reads' HO187.out).2.2 | (with_reducible refine Kd.C_alloc ?_ _) | (with_reducible refine Kd.C_drewN ?_ _) | (with_reducible refine Kd.C_drew ?_))); (case side2 => exact (Kd.R_reads' HO187.out).2.1); (case side3 => repeat (first | exact (Kd.R_reads' HO181.out).2.2 | (with_reducible refine Kd.C_alloc ?_ _) | (with_reducible refine Kd.C_drewN ?_ _) | (with_reducible refine Kd.C_drew ?_))); (case side4 => exact (Kd.R_reads' HO181.out).2.1); rintro e w' ⟨rfl, ⟨nd, rfl⟩⟩; refine ⟨_, rfl, ?_⟩) | ((with_reducible refine gate_callee (f := 10) rfl ?_); refine goesL_ (some 30) rfl rfl Try.func10 (by kernel_rfl) rfl #[.slice A0 l0.length c0] rfl (by (try simp only [List.map_toArray, List.map_cons, List.map_nil]); first | done | rfl) ?_; (with_reducible refine (laws_toIntS.calls k _ _ l0 t189 _ ?side1 ?side2 A10.out).mono ?_); (case side1 => repeat (first | exact (Kd.C_below HR0.out (by repeat (first | (with_reducible first | exact HB.out | apply below_alloc | apply pw_below_drewN | apply below_drew1) | exact HB.out))) | (with_reducible refine Kd.C_alloc ?_ _) | (with_reducible refine Kd.C_drewN ?_ _) | (with_reducible refine Kd.C_drew ?_))); (case side2 => exact HC0.out); rintro e w23 ⟨v190, rfl, ho0, hb⟩; refine ⟨_, rfl, ?_⟩; have n0_ := Aside0.mk (Kd.R_elder' (by (with_reducible repeat (first | apply Kd.R_alloc | apply Kd.R_drewN | apply Kd.R_drew)); exact HO178.out) (Kd.R_base ho0) hb); have n1_ := Aside0.mk (Kd.R_elder' (by (with_reducible repeat (first | apply Kd.R_alloc | apply Kd.R_drewN | apply Kd.R_drew)); exact HO181.out) (Kd.R_base ho0) hb); have n2_ := Aside0.mk (Kd.R_elder' (by (with_reducible repeat (first | apply Kd.R_alloc | apply Kd.R_drewN | apply Kd.R_drew)); exact HO184.out) (Kd.R_base ho0) hb); have n3_ := Aside0.mk (Kd.R_elder' (by (with_reducible repeat (first | apply Kd.R_alloc | apply Kd.R_drewN | apply Kd.R_drew)); exact HO187.out) (Kd.R_base ho0) hb); have n4_ := Aside0.mk (Kd.R_lower (Kd.R_new' (Kd.R_new' (Kd.R_new' (Kd.R_new' ho0 (Kd.R_lt (by (with_reducible repeat (first | apply Kd.R_alloc | apply Kd.R_drewN | apply Kd.R_drew)); exact HO178.out))) (Kd.R_lt (by (with_reducible repeat (first | apply Kd.R_alloc | apply Kd.R_drewN | apply Kd.R_drew)); exact HO181.out))) (Kd.R_lt (by (with_reducible repeat (first | apply Kd.R_alloc | apply Kd.R_drewN | apply Kd.R_drew)); exact HO184.out))) (Kd.R_lt (by (with_reducible repeat (first | apply Kd.R_alloc | apply Kd.R_drewN | apply Kd.R_drew)); exact HO187.out))) (below_size (by repeat (first | (with_reducible first | exact HB.out | apply below_alloc | apply pw_below_drewN | apply below_drew1) | exact HB.out)))); have n5_ := Aside0.mk (below_step (by repeat (first | (with_reducible first | exact HB.out | apply below_alloc | apply pw_below_drewN | apply below_drew1) | exact HB.out)) hb); clear HO178; clear HO181; clear HO184; clear HO187; clear HB; have HO178 := n0_; have HO181 := n1_; have HO184 := n2_; have HO187 := n3_; have HO191 := n4_; have HB := n5_; clear n0_ n1_ n2_ n3_ n4_ n5_; (try clear hb); (try clear hb2); (try clear hk); (try clear hi); (try clear ho0); obtain ⟨Ao24, co24, eo24⟩ := Kd.R_slice HO191.out; subst eo24) | ((with_reducible refine gate_callee (f := 12) rfl ?_); refine goesL_ (some 31) rfl rfl Try.func12 (by kernel_rfl) rfl #[.slice Ao19 t182.length co19, .slice Ao24 t189.length co24] rfl (by (try simp only [List.map_toArray, List.map_cons, List.map_nil]); first | done | rfl) ?_; (with_reducible refine (laws_eqIntS.calls k _ _ t182 _ _ t189 true _ ?side1 ?side2 ?side3 ?side4 A11.out).mono ?_); (case side1 => repeat (first | exact (Kd.R_reads' HO184.out).2.2 | (with_reducible refine Kd.C_alloc ?_ _) | (with_reducible refine Kd.C_drewN ?_ _) | (with_reducible refine Kd.C_drew ?_))); (case side2 => exact (Kd.R_reads' HO184.out).2.1); (case side3 => repeat (first | exact (Kd.R_reads' HO191.out).2.2 | (with_reducible refine Kd.C_alloc ?_ _) | (with_reducible refine Kd.C_drewN ?_ _) | (with_reducible refine Kd.C_drew ?_))); (case side4 => exact (Kd.R_reads' HO191.out).2.1); rintro e w' ⟨rfl, ⟨nd, rfl⟩⟩; refine ⟨_, rfl, ?_⟩) | ((with_reducible refine gate_callee (f := 13) rfl ?_); refine goesL_ (some 35) rfl rfl Try.func13 (by kernel_rfl) rfl #[.slice Ao19 t182.length co19, .int .i64 1] rfl (by (try simp only [List.map_toArray, List.map_cons, List.map_nil]); first | done | rfl) ?_; (with_reducible refine (laws_markIntS.calls k (fun k_ => some k_ = (.slice Ao19 t182.length co19 : Value).ownBlock) (.slice Ao19 t182.length co19) t182 1 t193 t194 w _ ?side1 ?side2 A13.out).mono ?_); (case side1 => repeat (first | (with_reducible first | exact HB.out | apply below_alloc | apply pw_below_drewN | apply below_drew1) | exact HB.out)); (case side2 => exact Kd.R_tight rfl HO184.out); rintro e w25 ⟨rfl, hy0, hb, hkp⟩; refine ⟨_, rfl, ?_⟩; have n0_ := Aside0.mk (Kd.R_mono (ok' := fun k_ => some k_ ≠ (.slice Ao22 t179.length co22 : Value).ownBlock ∧ some k_ ≠ (.slice Ao19 t182.length co19 : Value).ownBlock ∧ some k_ ≠ (.slice Ao21 t185.length co21 : Value).ownBlock ∧ some k_ ≠ (.slice Ao24 t189.length co24 : Value).ownBlock) (Kd.R_keptB (HO178.out) hkp (fun k_ hk_ hs_ => (hk_.1.1.2) hs_)) (fun k_ hk_ => ⟨hk_.1.1.1.1.2, hk_.1.1.1.2, hk_.1.1.2, hk_.1.2⟩)); have n1_ := Aside0.mk (Kd.R_mono (ok' := fun k_ => some k_ ≠ (.slice Ao16 t176.length co16 : Value).ownBlock ∧ some k_ ≠ (.slice Ao19 t182.length co19 : Value).ownBlock ∧ some k_ ≠ (.slice Ao21 t185.length co21 : Value).ownBlock ∧ some k_ ≠ (.slice Ao24 t189.length co24 : Value).ownBlock) (Kd.R_keptB (HO181.out) hkp (fun k_ hk_ hs_ => (hk_.1.1.2) hs_)) (fun k_ hk_ => ⟨hk_.1.1.1.1.2, hk_.1.1.1.2, hk_.1.1.2, hk_.1.2⟩)); have n2_ := Aside0.mk (Kd.R_reok rfl hy0 (fun k_ e_ => HO184.out.1 k_ e_)); have n3_ := Aside0.mk (Kd.R_mono (ok' := fun k_ => some k_ ≠ (.slice Ao16 t176.length co16 : Value).ownBlock ∧ some k_ ≠ (.slice Ao22 t179.length co22 : Value).ownBlock ∧ some k_ ≠ (.slice Ao19 t182.length co19 : Value).ownBlock ∧ some k_ ≠ (.slice Ao24 t189.length co24 : Value).ownBlock) (Kd.R_keptB (HO187.out) hkp (fun k_ hk_ hs_ => (hk_.1.2) hs_)) (fun k_ hk_ => ⟨hk_.1.1.1.1.2, hk_.1.1.1.2, hk_.1.1.2, hk_.1.2⟩)); have n4_ := Aside0.mk (Kd.R_mono (ok' := fun k_ => some k_ ≠ (.slice Ao16 t176.length co16 : Value).ownBlock ∧ some k_ ≠ (.slice Ao22 t179.length co22 : Value).ownBlock ∧ some k_ ≠ (.slice Ao19 t182.length co19 : Value).ownBlock ∧ some k_ ≠ (.slice Ao21 t185.length co21 : Value).ownBlock) (Kd.R_keptB (HO191.out) hkp (fun k_ hk_ hs_ => (hk_.1.2) hs_)) (fun k_ hk_ => ⟨hk_.1.1.1.1.2, hk_.1.1.1.2, hk_.1.1.2, hk_.1.2⟩)); have n5_ := Aside0.mk (hb); clear HO178; clear HO181; clear HO184; clear HO187; clear HO191; clear HB; have HO178 := n0_; have HO181 := n1_; have HO184 := n2_; have HO187 := n3_; have HO191 := n4_; have HB := n5_; clear n0_ n1_ n2_ n3_ n4_ n5_; (try clear hb); (try clear hkp); (try clear hy0)))
    (try simp only [Act.put, List.setIfInBounds_toArray, List.set_cons_zero, List.set_cons_succ]); go_cut [43] (fun v43 wc => ∃ (kq : Nat) (x43_13 : Bool), v43 = .bool x43_13 ∧ Aside0 (laws_FnExactLevelWeak.j0 kq l0 a1 t179 t185 x43_13 = some r) ∧ Aside0 (kq ≤ k) ∧ Aside0 (Kd.R (Kd.int .i64) 3 wc w.heap.size (fun k_ => some k_ ≠ ((.slice Ao21 t185.length co21) : Value).ownBlock) (.slice Ao22 t179.length co22) t179) ∧ Aside0 (Kd.R (Kd.int .i64) 3 wc w.heap.size (fun k_ => some k_ ≠ ((.slice Ao22 t179.length co22) : Value).ownBlock) (.slice Ao21 t185.length co21) t185) ∧ Aside0 (Below w.heap.size w wc))
    case first =>
     have H := HC14.out; clear HC14; by_cases c26 : t193 < 0
     ·
      rw [if_pos c26] at H; have c26b0 : decide (t193 < 0) = true := decide_eq_true c26; clear c26; (first | rw [c26b0] | (simp only [i64_w, i32_w]; rw [c26b0]) | skip); have H' := Aside0.mk H; clear H; go_wp2; go_meet
      case rel => exact ⟨_, (true), (by first | rfl | (simp; done) | (simp [*]; done)), H', ⟨by first | omega | exact Nat.le_refl _⟩, ⟨by (with_reducible repeat (first | apply Kd.R_alloc | apply Kd.R_drewN | apply Kd.R_drew)); exact Kd.R_mono HO181.out (fun _ hk => hk.2.2.1)⟩, ⟨by (with_reducible repeat (first | apply Kd.R_alloc | apply Kd.R_drewN | apply Kd.R_drew)); exact Kd.R_mono HO187.out (fun _ hk => hk.2.1)⟩, ⟨by repeat (first | (with_reducible first | exact HB.out | apply below_alloc | apply pw_below_drewN | apply below_drew1) | exact HB.out)⟩⟩
     ·
      rw [if_neg c26] at H; have c26b0 : decide (t193 < 0) = false := decide_eq_false c26; clear c26; (first | rw [c26b0] | (simp only [i64_w, i32_w]; rw [c26b0]) | skip); replace H := Option.bind_eq_some_iff.mp H; obtain ⟨t195, A270, H⟩ := H; replace H : (laws_FnExactLevelWeak.j0 k l0 a1 t179 t185 (!t195)) = some r := H; have A27 := Aside0.mk A270; clear A270; have H' := Aside0.mk H; clear H; go_wp2_with (first | (go_at_call 12; (with_reducible refine (laws_eqIntS.calls k _ _ t185 _ _ t179 t195 _ ?side1 ?side2 ?side3 ?side4 A27.out).mono ?_); (case side1 => repeat (first | exact (Kd.R_reads' HO187.out).2.2 | (with_reducible refine Kd.C_alloc ?_ _) | (with_reducible refine Kd.C_drewN ?_ _) | (with_reducible refine Kd.C_drew ?_))); (case side2 => exact (Kd.R_reads' HO187.out).2.1); (case side3 => repeat (first | exact (Kd.R_reads' HO181.out).2.2 | (with_reducible refine Kd.C_alloc ?_ _) | (with_reducible refine Kd.C_drewN ?_ _) | (with_reducible refine Kd.C_drew ?_))); (case side4 => exact (Kd.R_reads' HO181.out).2.1); rintro e w' ⟨rfl, ⟨nd, rfl⟩⟩)); go_meet
      case rel => exact ⟨_, (!t195), (by first | rfl | (simp; done) | (simp [*]; done)), H', ⟨by first | omega | exact Nat.le_refl _⟩, ⟨by (with_reducible repeat (first | apply Kd.R_alloc | apply Kd.R_drewN | apply Kd.R_drew)); exact Kd.R_mono HO181.out (fun _ hk => hk.2.2.1)⟩, ⟨by (with_reducible repeat (first | apply Kd.R_alloc | apply Kd.R_drewN | apply Kd.R_drew)); exact Kd.R_mono HO187.out (fun _ hk => hk.2.1)⟩, ⟨by repeat (first | (with_reducible first | exact HB.out | apply below_alloc | apply pw_below_drewN | apply below_drew1) | exact HB.out)⟩⟩
    case rest =>
     clear HC14; (try clear c1); (try clear c2); (try clear p2); (try clear c3); (try clear c3b0); (try clear c3b1); (try clear c9); (try clear c10); (try clear c11); (try clear c12); (try clear c13); (try clear c26); (try clear c26b0); obtain ⟨kq, x43_13, rfl, HA, HJ13, HO_5, HO_7, HB⟩ := hcut
     cases kq with
     | zero => exact absurd HA.out (by simp [laws_FnExactLevelWeak.j0])
     | succ kj13 =>
      have H := HA.out; clear HA; simp only [laws_FnExactLevelWeak.j0] at H; by_cases c28 : x43_13 = true
      ·
       subst c28; have H1 : (some false) = some r := by rw [if_pos rfl] at H; exact H
       clear H; have H := H1; clear H1; obtain rfl := Option.some.inj H; go_wp2; go_ret; exact ⟨by first | rfl | (simp [errW_none, errW_some] <;> rfl) | (simp [*, errW_none, errW_some] <;> rfl), by repeat (first | (with_reducible first | exact HB.out | apply below_alloc | apply pw_below_drewN | apply below_drew1) | exact HB.out)⟩
      ·
       replace c28 := Bool.eq_false_iff.mpr c28; subst c28; have H1 : ((laws_markIntS.f kj13 t185 1).bind fun bt196 => ((laws_heldIntS.f kj13 bt196.2 1).bind fun t198 => (if t198 < 0 then (some false) else (if t198 = bt196.1 then ((laws_toIntS.f kj13 l0).bind fun t199 => ((impl_LevelWeak.f t199 a1).bind fun t202 => ((laws_eqIntS.f kj13 t202 t179).bind fun t205 => (if t205 = true then ((laws_heldIntS.f kj13 bt196.2 1).bind fun t206 => (if t206 < 0 then (some false) else (if t206 = bt196.1 then (some true) else (some false)))) else (some false))))) else (some false))))) = some r := by rw [if_neg (show ¬ (false = true) by decide)] at H; exact H
       clear H; have H := H1; clear H1; replace H := Option.bind_eq_some_iff.mp H; obtain ⟨⟨t196, t197⟩, A290, H⟩ := H; replace H : ((laws_heldIntS.f kj13 t197 1).bind fun t198 => (if t198 < 0 then (some false) else (if t198 = t196 then ((laws_toIntS.f kj13 l0).bind fun t199 => ((impl_LevelWeak.f t199 a1).bind fun t202 => ((laws_eqIntS.f kj13 t202 t179).bind fun t205 => (if t205 = true then ((laws_heldIntS.f kj13 t197 1).bind fun t206 => (if t206 < 0 then (some false) else (if t206 = t196 then (some true) else (some false)))) else (some false))))) else (some false)))) = some r := H; have A29 := Aside0.mk A290; clear A290; replace H := Option.bind_eq_some_iff.mp H; obtain ⟨t198, A300, H⟩ := H; replace H : (if t198 < 0 then (some false) else (if t198 = t196 then ((laws_toIntS.f kj13 l0).bind fun t199 => ((impl_LevelWeak.f t199 a1).bind fun t202 => ((laws_eqIntS.f kj13 t202 t179).bind fun t205 => (if t205 = true then ((laws_heldIntS.f kj13 t197 1).bind fun t206 => (if t206 < 0 then (some false) else (if t206 = t196 then (some true) else (some false)))) else (some false))))) else (some false))) = some r := H; have A30 := Aside0.mk A300; clear A300; by_cases c31 : t198 < 0
       ·
        rw [if_pos c31] at H; have c31b0 : decide (t198 < 0) = true := decide_eq_true c31; clear c31; obtain rfl := Option.some.inj H; go_wp2_with (first | ((with_reducible refine gate_callee (f := 13) rfl ?_); refine goesL_ (some 46) rfl rfl Try.func13 (by kernel_rfl) rfl #[.slice Ao21 t185.length co21, .int .i64 1] rfl (by (try simp only [List.map_toArray, List.map_cons, List.map_nil]); first | done | rfl) ?_; (with_reducible refine (laws_markIntS.calls kj13 (fun k_ => some k_ = (.slice Ao21 t185.length co21 : Value).ownBlock) (.slice Ao21 t185.length co21) t185 1 t196 t197 w _ ?side1 ?side2 A29.out).mono ?_); (case side1 => repeat (first | (with_reducible first | exact HB.out | apply below_alloc | apply pw_below_drewN | apply below_drew1) | exact HB.out)); (case side2 => exact Kd.R_tight rfl HO_7.out); rintro e w32 ⟨rfl, hy0, hb, hkp⟩; refine ⟨_, rfl, ?_⟩; have n0_ := Aside0.mk (Kd.R_mono (ok' := fun k_ => some k_ ≠ (.slice Ao21 t185.length co21 : Value).ownBlock) (Kd.R_keptB (HO_5.out) hkp (fun k_ hk_ hs_ => (hk_) hs_)) (fun k_ hk_ => hk_.1)); have n1_ := Aside0.mk (Kd.R_reok rfl hy0 (fun k_ e_ => HO_7.out.1 k_ e_)); have n2_ := Aside0.mk (hb); clear HO_5; clear HO_7; clear HB; have HO_5 := n0_; have HO_7 := n1_; have HB := n2_; clear n0_ n1_ n2_; (try clear hb); (try clear hkp); (try clear hy0)) | ((with_reducible refine gate_callee (f := 14) rfl ?_); refine goesL_ (some 49) rfl rfl Try.func14 (by kernel_rfl) rfl #[.slice Ao21 t197.length co21, .int .i64 1] rfl (by (try simp only [List.map_toArray, List.map_cons, List.map_nil]); first | done | (rw [show t197.length = t185.length from (Kd.R_reads' HO_7.out).1.symm] <;> rfl) | rfl | (simp only [List.length_drop, List.length_take]; rfl)) ?_; (with_reducible refine (laws_heldIntS.calls kj13 _ _ t197 1 t198 _ ?side1 ?side2 A30.out).mono ?_); (case side1 => repeat (first | exact (Kd.R_reads' HO_7.out).2.2 | (with_reducible refine Kd.C_alloc ?_ _) | (with_reducible refine Kd.C_drewN ?_ _) | (with_reducible refine Kd.C_drew ?_))); (case side2 => rw [show t197.length = t185.length from (Kd.R_reads' HO_7.out).1.symm]; exact (Kd.R_reads' HO_7.out).2.1); rintro e w' ⟨rfl, ⟨nd, rfl⟩⟩; refine ⟨_, rfl, ?_⟩)); go_ret; exact ⟨by first | rfl | (simp [errW_none, errW_some] <;> rfl) | (simp [*, errW_none, errW_some] <;> rfl), by repeat (first | (with_reducible first | exact HB.out | apply below_alloc | apply pw_below_drewN | apply below_drew1) | exact HB.out)⟩
       ·
        rw [if_neg c31] at H; have c31b0 : decide (t198 < 0) = false := decide_eq_false c31; clear c31; by_cases c33 : t198 = t196
        ·
         rw [if_pos c33] at H; have c33b0 : (t198 == t196) = true := beq_iff_eq.mpr c33; have c33b1 : (t198 != t196) = false := bne_eq_false_iff_eq.mpr c33; clear c33; replace H := Option.bind_eq_some_iff.mp H; obtain ⟨t199, A340, H⟩ := H; replace H : ((impl_LevelWeak.f t199 a1).bind fun t202 => ((laws_eqIntS.f kj13 t202 t179).bind fun t205 => (if t205 = true then ((laws_heldIntS.f kj13 t197 1).bind fun t206 => (if t206 < 0 then (some false) else (if t206 = t196 then (some true) else (some false)))) else (some false)))) = some r := H; have A34 := Aside0.mk A340; clear A340; replace H := Option.bind_eq_some_iff.mp H; obtain ⟨t202, A350, H⟩ := H; replace H : ((laws_eqIntS.f kj13 t202 t179).bind fun t205 => (if t205 = true then ((laws_heldIntS.f kj13 t197 1).bind fun t206 => (if t206 < 0 then (some false) else (if t206 = t196 then (some true) else (some false)))) else (some false))) = some r := H; have A35 := Aside0.mk A350; clear A350; replace H := Option.bind_eq_some_iff.mp H; obtain ⟨t205, A360, H⟩ := H; replace H : (if t205 = true then ((laws_heldIntS.f kj13 t197 1).bind fun t206 => (if t206 < 0 then (some false) else (if t206 = t196 then (some true) else (some false)))) else (some false)) = some r := H; have A36 := Aside0.mk A360; clear A360; by_cases c37 : t205 = true
         ·
          subst c37; have H1 : ((laws_heldIntS.f kj13 t197 1).bind fun t206 => (if t206 < 0 then (some false) else (if t206 = t196 then (some true) else (some false)))) = some r := by rw [if_pos rfl] at H; exact H
          clear H; have H := H1; clear H1; replace H := Option.bind_eq_some_iff.mp H; obtain ⟨t206, A380, H⟩ := H; replace H : (if t206 < 0 then (some false) else (if t206 = t196 then (some true) else (some false))) = some r := H; have A38 := Aside0.mk A380; clear A380; by_cases c39 : t206 < 0
          ·
           rw [if_pos c39] at H; have c39b0 : decide (t206 < 0) = true := decide_eq_true c39; clear c39; obtain rfl := Option.some.inj H; go_wp2_with (first | ((with_reducible refine gate_callee (f := 13) rfl ?_); refine goesL_ (some 46) rfl rfl Try.func13 (by kernel_rfl) rfl #[.slice Ao21 t185.length co21, .int .i64 1] rfl (by (try simp only [List.map_toArray, List.map_cons, List.map_nil]); first | done | rfl) ?_; (with_reducible refine (laws_markIntS.calls kj13 (fun k_ => some k_ = (.slice Ao21 t185.length co21 : Value).ownBlock) (.slice Ao21 t185.length co21) t185 1 t196 t197 w _ ?side1 ?side2 A29.out).mono ?_); (case side1 => repeat (first | (with_reducible first | exact HB.out | apply below_alloc | apply pw_below_drewN | apply below_drew1) | exact HB.out)); (case side2 => exact Kd.R_tight rfl HO_7.out); rintro e w40 ⟨rfl, hy0, hb, hkp⟩; refine ⟨_, rfl, ?_⟩; have n0_ := Aside0.mk (Kd.R_mono (ok' := fun k_ => some k_ ≠ (.slice Ao21 t185.length co21 : Value).ownBlock) (Kd.R_keptB (HO_5.out) hkp (fun k_ hk_ hs_ => (hk_) hs_)) (fun k_ hk_ => hk_.1)); have n1_ := Aside0.mk (Kd.R_reok rfl hy0 (fun k_ e_ => HO_7.out.1 k_ e_)); have n2_ := Aside0.mk (hb); clear HO_5; clear HO_7; clear HB; have HO_5 := n0_; have HO_7 := n1_; have HB := n2_; clear n0_ n1_ n2_; (try clear hb); (try clear hkp); (try clear hy0)) | ((with_reducible refine gate_callee (f := 14) rfl ?_); refine goesL_ (some 49) rfl rfl Try.func14 (by kernel_rfl) rfl #[.slice Ao21 t197.length co21, .int .i64 1] rfl (by (try simp only [List.map_toArray, List.map_cons, List.map_nil]); first | done | (rw [show t197.length = t185.length from (Kd.R_reads' HO_7.out).1.symm] <;> rfl) | rfl | (simp only [List.length_drop, List.length_take]; rfl)) ?_; (with_reducible refine (laws_heldIntS.calls kj13 _ _ t197 1 t198 _ ?side1 ?side2 A30.out).mono ?_); (case side1 => repeat (first | exact (Kd.R_reads' HO_7.out).2.2 | (with_reducible refine Kd.C_alloc ?_ _) | (with_reducible refine Kd.C_drewN ?_ _) | (with_reducible refine Kd.C_drew ?_))); (case side2 => rw [show t197.length = t185.length from (Kd.R_reads' HO_7.out).1.symm]; exact (Kd.R_reads' HO_7.out).2.1); rintro e w' ⟨rfl, ⟨nd, rfl⟩⟩; refine ⟨_, rfl, ?_⟩) | ((with_reducible refine gate_callee (f := 10) rfl ?_); refine goesL_ (some 56) rfl rfl Try.func10 (by kernel_rfl) rfl #[.slice A0 l0.length c0] rfl (by (try simp only [List.map_toArray, List.map_cons, List.map_nil]); first | done | rfl) ?_; (with_reducible refine (laws_toIntS.calls kj13 _ _ l0 t199 _ ?side1 ?side2 A34.out).mono ?_); (case side1 => repeat (first | exact (Kd.C_below HR0.out (by repeat (first | (with_reducible first | exact HB.out | apply below_alloc | apply pw_below_drewN | apply below_drew1) | exact HB.out))) | (with_reducible refine Kd.C_alloc ?_ _) | (with_reducible refine Kd.C_drewN ?_ _) | (with_reducible refine Kd.C_drew ?_))); (case side2 => exact HC0.out); rintro e w41 ⟨v200, rfl, ho0, hb⟩; refine ⟨_, rfl, ?_⟩; have n0_ := Aside0.mk (Kd.R_elder' (by (with_reducible repeat (first | apply Kd.R_alloc | apply Kd.R_drewN | apply Kd.R_drew)); exact HO_5.out) (Kd.R_base ho0) hb); have n1_ := Aside0.mk (Kd.R_elder' (by (with_reducible repeat (first | apply Kd.R_alloc | apply Kd.R_drewN | apply Kd.R_drew)); exact HO_7.out) (Kd.R_base ho0) hb); have n2_ := Aside0.mk (Kd.R_lower (Kd.R_new' (Kd.R_new' ho0 (Kd.R_lt (by (with_reducible repeat (first | apply Kd.R_alloc | apply Kd.R_drewN | apply Kd.R_drew)); exact HO_5.out))) (Kd.R_lt (by (with_reducible repeat (first | apply Kd.R_alloc | apply Kd.R_drewN | apply Kd.R_drew)); exact HO_7.out))) (below_size (by repeat (first | (with_reducible first | exact HB.out | apply below_alloc | apply pw_below_drewN | apply below_drew1) | exact HB.out)))); have n3_ := Aside0.mk (below_step (by repeat (first | (with_reducible first | exact HB.out | apply below_alloc | apply pw_below_drewN | apply below_drew1) | exact HB.out)) hb); clear HO_5; clear HO_7; clear HB; have HO_5 := n0_; have HO_7 := n1_; have HO201 := n2_; have HB := n3_; clear n0_ n1_ n2_ n3_; (try clear hb); (try clear hb2); (try clear hk); (try clear hi); (try clear ho0); obtain ⟨Ao42, co42, eo42⟩ := Kd.R_slice HO201.out; subst eo42) | ((with_reducible refine gate_callee (f := 11) rfl ?_); refine goesL_ (some 58) rfl rfl Try.func11 (by kernel_rfl) rfl #[.slice Ao42 t199.length co42, .int .i64 a1] rfl (by (try simp only [List.map_toArray, List.map_cons, List.map_nil]); first | done | rfl) ?_; (with_reducible refine (impl_LevelWeak.calls _ _ t199 a1 t202 _ ?side1 ?side2 A35.out).mono ?_); (case side1 => repeat (first | exact (Kd.R_reads' HO201.out).2.2 | (with_reducible refine Kd.C_alloc ?_ _) | (with_reducible refine Kd.C_drewN ?_ _) | (with_reducible refine Kd.C_drew ?_))); (case side2 => exact (Kd.R_reads' HO201.out).2.1); rintro e w43 ⟨v203, rfl, ho0, hb⟩; refine ⟨_, rfl, ?_⟩; have n0_ := Aside0.mk (Kd.R_elder' (by (with_reducible repeat (first | apply Kd.R_alloc | apply Kd.R_drewN | apply Kd.R_drew)); exact HO_5.out) (Kd.R_base ho0) hb); have n1_ := Aside0.mk (Kd.R_elder' (by (with_reducible repeat (first | apply Kd.R_alloc | apply Kd.R_drewN | apply Kd.R_drew)); exact HO_7.out) (Kd.R_base ho0) hb); have n2_ := Aside0.mk (Kd.R_elder' (by (with_reducible repeat (first | apply Kd.R_alloc | apply Kd.R_drewN | apply Kd.R_drew)); exact HO201.out) (Kd.R_base ho0) hb); have n3_ := Aside0.mk (Kd.R_lower (Kd.R_new' (Kd.R_new' (Kd.R_new' ho0 (Kd.R_lt (by (with_reducible repeat (first | apply Kd.R_alloc | apply Kd.R_drewN | apply Kd.R_drew)); exact HO_5.out))) (Kd.R_lt (by (with_reducible repeat (first | apply Kd.R_alloc | apply Kd.R_drewN | apply Kd.R_drew)); exact HO_7.out))) (Kd.R_lt (by (with_reducible repeat (first | apply Kd.R_alloc | apply Kd.R_drewN | apply Kd.R_drew)); exact HO201.out))) (below_size (by repeat (first | (with_reducible first | exact HB.out | apply below_alloc | apply pw_below_drewN | apply below_drew1) | exact HB.out)))); have n4_ := Aside0.mk (below_step (by repeat (first | (with_reducible first | exact HB.out | apply below_alloc | apply pw_below_drewN | apply below_drew1) | exact HB.out)) hb); clear HO_5; clear HO_7; clear HO201; clear HB; have HO_5 := n0_; have HO_7 := n1_; have HO201 := n2_; have HO204 := n3_; have HB := n4_; clear n0_ n1_ n2_ n3_ n4_; (try clear hb); (try clear hb2); (try clear hk); (try clear hi); (try clear ho0); obtain ⟨Ao44, co44, eo44⟩ := Kd.R_slice HO204.out; subst eo44) | ((with_reducible refine gate_callee (f := 12) rfl ?_); refine goesL_ (some 61) rfl rfl Try.func12 (by kernel_rfl) rfl #[.slice Ao44 t202.length co44, .slice Ao22 t179.length co22] rfl (by (try simp only [List.map_toArray, List.map_cons, List.map_nil]); first | done | rfl) ?_; (with_reducible refine (laws_eqIntS.calls kj13 _ _ t202 _ _ t179 true _ ?side1 ?side2 ?side3 ?side4 A36.out).mono ?_); (case side1 => repeat (first | exact (Kd.R_reads' HO204.out).2.2 | (with_reducible refine Kd.C_alloc ?_ _) | (with_reducible refine Kd.C_drewN ?_ _) | (with_reducible refine Kd.C_drew ?_))); (case side2 => exact (Kd.R_reads' HO204.out).2.1); (case side3 => repeat (first | exact (Kd.R_reads' HO_5.out).2.2 | (with_reducible refine Kd.C_alloc ?_ _) | (with_reducible refine Kd.C_drewN ?_ _) | (with_reducible refine Kd.C_drew ?_))); (case side4 => exact (Kd.R_reads' HO_5.out).2.1); rintro e w' ⟨rfl, ⟨nd, rfl⟩⟩; refine ⟨_, rfl, ?_⟩) | ((with_reducible refine gate_callee (f := 14) rfl ?_); refine goesL_ (some 65) rfl rfl Try.func14 (by kernel_rfl) rfl #[.slice Ao21 t197.length co21, .int .i64 1] rfl (by (try simp only [List.map_toArray, List.map_cons, List.map_nil]); first | done | (rw [show t197.length = t185.length from (Kd.R_reads' HO_7.out).1.symm] <;> rfl) | rfl | (simp only [List.length_drop, List.length_take]; rfl)) ?_; (with_reducible refine (laws_heldIntS.calls kj13 _ _ t197 1 t206 _ ?side1 ?side2 A38.out).mono ?_); (case side1 => repeat (first | exact (Kd.R_reads' HO_7.out).2.2 | (with_reducible refine Kd.C_alloc ?_ _) | (with_reducible refine Kd.C_drewN ?_ _) | (with_reducible refine Kd.C_drew ?_))); (case side2 => rw [show t197.length = t185.length from (Kd.R_reads' HO_7.out).1.symm]; exact (Kd.R_reads' HO_7.out).2.1); rintro e w' ⟨rfl, ⟨nd, rfl⟩⟩; refine ⟨_, rfl, ?_⟩))
           go_ret; exact ⟨by first | rfl | (simp [errW_none, errW_some] <;> rfl) | (simp [*, errW_none, errW_some] <;> rfl), by repeat (first | (with_reducible first | exact HB.out | apply below_alloc | apply pw_below_drewN | apply below_drew1) | exact HB.out)⟩
          ·
           rw [if_neg c39] at H; have c39b0 : decide (t206 < 0) = false := decide_eq_false c39; clear c39; by_cases c45 : t206 = t196
           ·
            rw [if_pos c45] at H; have c45b0 : (t206 == t196) = true := beq_iff_eq.mpr c45; have c45b1 : (t206 != t196) = false := bne_eq_false_iff_eq.mpr c45; clear c45; obtain rfl := Option.some.inj H; go_wp2_with (first | ((with_reducible refine gate_callee (f := 13) rfl ?_); refine goesL_ (some 46) rfl rfl Try.func13 (by kernel_rfl) rfl #[.slice Ao21 t185.length co21, .int .i64 1] rfl (by (try simp only [List.map_toArray, List.map_cons, List.map_nil]); first | done | rfl) ?_; (with_reducible refine (laws_markIntS.calls kj13 (fun k_ => some k_ = (.slice Ao21 t185.length co21 : Value).ownBlock) (.slice Ao21 t185.length co21) t185 1 t196 t197 w _ ?side1 ?side2 A29.out).mono ?_); (case side1 => repeat (first | (with_reducible first | exact HB.out | apply below_alloc | apply pw_below_drewN | apply below_drew1) | exact HB.out)); (case side2 => exact Kd.R_tight rfl HO_7.out); rintro e w46 ⟨rfl, hy0, hb, hkp⟩; refine ⟨_, rfl, ?_⟩; have n0_ := Aside0.mk (Kd.R_mono (ok' := fun k_ => some k_ ≠ (.slice Ao21 t185.length co21 : Value).ownBlock) (Kd.R_keptB (HO_5.out) hkp (fun k_ hk_ hs_ => (hk_) hs_)) (fun k_ hk_ => hk_.1)); have n1_ := Aside0.mk (Kd.R_reok rfl hy0 (fun k_ e_ => HO_7.out.1 k_ e_)); have n2_ := Aside0.mk (hb); clear HO_5; clear HO_7; clear HB; have HO_5 := n0_; have HO_7 := n1_; have HB := n2_; clear n0_ n1_ n2_; (try clear hb); (try clear hkp); (try clear hy0)) | ((with_reducible refine gate_callee (f := 14) rfl ?_); refine goesL_ (some 49) rfl rfl Try.func14 (by kernel_rfl) rfl #[.slice Ao21 t197.length co21, .int .i64 1] rfl (by (try simp only [List.map_toArray, List.map_cons, List.map_nil]); first | done | (rw [show t197.length = t185.length from (Kd.R_reads' HO_7.out).1.symm] <;> rfl) | rfl | (simp only [List.length_drop, List.length_take]; rfl)) ?_; (with_reducible refine (laws_heldIntS.calls kj13 _ _ t197 1 t198 _ ?side1 ?side2 A30.out).mono ?_); (case side1 => repeat (first | exact (Kd.R_reads' HO_7.out).2.2 | (with_reducible refine Kd.C_alloc ?_ _) | (with_reducible refine Kd.C_drewN ?_ _) | (with_reducible refine Kd.C_drew ?_))); (case side2 => rw [show t197.length = t185.length from (Kd.R_reads' HO_7.out).1.symm]; exact (Kd.R_reads' HO_7.out).2.1); rintro e w' ⟨rfl, ⟨nd, rfl⟩⟩; refine ⟨_, rfl, ?_⟩) | ((with_reducible refine gate_callee (f := 10) rfl ?_); refine goesL_ (some 56) rfl rfl Try.func10 (by kernel_rfl) rfl #[.slice A0 l0.length c0] rfl (by (try simp only [List.map_toArray, List.map_cons, List.map_nil]); first | done | rfl) ?_; (with_reducible refine (laws_toIntS.calls kj13 _ _ l0 t199 _ ?side1 ?side2 A34.out).mono ?_); (case side1 => repeat (first | exact (Kd.C_below HR0.out (by repeat (first | (with_reducible first | exact HB.out | apply below_alloc | apply pw_below_drewN | apply below_drew1) | exact HB.out))) | (with_reducible refine Kd.C_alloc ?_ _) | (with_reducible refine Kd.C_drewN ?_ _) | (with_reducible refine Kd.C_drew ?_))); (case side2 => exact HC0.out); rintro e w47 ⟨v200, rfl, ho0, hb⟩; refine ⟨_, rfl, ?_⟩; have n0_ := Aside0.mk (Kd.R_elder' (by (with_reducible repeat (first | apply Kd.R_alloc | apply Kd.R_drewN | apply Kd.R_drew)); exact HO_5.out) (Kd.R_base ho0) hb); have n1_ := Aside0.mk (Kd.R_elder' (by (with_reducible repeat (first | apply Kd.R_alloc | apply Kd.R_drewN | apply Kd.R_drew)); exact HO_7.out) (Kd.R_base ho0) hb); have n2_ := Aside0.mk (Kd.R_lower (Kd.R_new' (Kd.R_new' ho0 (Kd.R_lt (by (with_reducible repeat (first | apply Kd.R_alloc | apply Kd.R_drewN | apply Kd.R_drew)); exact HO_5.out))) (Kd.R_lt (by (with_reducible repeat (first | apply Kd.R_alloc | apply Kd.R_drewN | apply Kd.R_drew)); exact HO_7.out))) (below_size (by repeat (first | (with_reducible first | exact HB.out | apply below_alloc | apply pw_below_drewN | apply below_drew1) | exact HB.out)))); have n3_ := Aside0.mk (below_step (by repeat (first | (with_reducible first | exact HB.out | apply below_alloc | apply pw_below_drewN | apply below_drew1) | exact HB.out)) hb); clear HO_5; clear HO_7; clear HB; have HO_5 := n0_; have HO_7 := n1_; have HO201 := n2_; have HB := n3_; clear n0_ n1_ n2_ n3_; (try clear hb); (try clear hb2); (try clear hk); (try clear hi); (try clear ho0); obtain ⟨Ao48, co48, eo48⟩ := Kd.R_slice HO201.out; subst eo48) | ((with_reducible refine gate_callee (f := 11) rfl ?_); refine goesL_ (some 58) rfl rfl Try.func11 (by kernel_rfl) rfl #[.slice Ao48 t199.length co48, .int .i64 a1] rfl (by (try simp only [List.map_toArray, List.map_cons, List.map_nil]); first | done | rfl) ?_; (with_reducible refine (impl_LevelWeak.calls _ _ t199 a1 t202 _ ?side1 ?side2 A35.out).mono ?_); (case side1 => repeat (first | exact (Kd.R_reads' HO201.out).2.2 | (with_reducible refine Kd.C_alloc ?_ _) | (with_reducible refine Kd.C_drewN ?_ _) | (with_reducible refine Kd.C_drew ?_))); (case side2 => exact (Kd.R_reads' HO201.out).2.1); rintro e w49 ⟨v203, rfl, ho0, hb⟩; refine ⟨_, rfl, ?_⟩; have n0_ := Aside0.mk (Kd.R_elder' (by (with_reducible repeat (first | apply Kd.R_alloc | apply Kd.R_drewN | apply Kd.R_drew)); exact HO_5.out) (Kd.R_base ho0) hb); have n1_ := Aside0.mk (Kd.R_elder' (by (with_reducible repeat (first | apply Kd.R_alloc | apply Kd.R_drewN | apply Kd.R_drew)); exact HO_7.out) (Kd.R_base ho0) hb); have n2_ := Aside0.mk (Kd.R_elder' (by (with_reducible repeat (first | apply Kd.R_alloc | apply Kd.R_drewN | apply Kd.R_drew)); exact HO201.out) (Kd.R_base ho0) hb); have n3_ := Aside0.mk (Kd.R_lower (Kd.R_new' (Kd.R_new' (Kd.R_new' ho0 (Kd.R_lt (by (with_reducible repeat (first | apply Kd.R_alloc | apply Kd.R_drewN | apply Kd.R_drew)); exact HO_5.out))) (Kd.R_lt (by (with_reducible repeat (first | apply Kd.R_alloc | apply Kd.R_drewN | apply Kd.R_drew)); exact HO_7.out))) (Kd.R_lt (by (with_reducible repeat (first | apply Kd.R_alloc | apply Kd.R_drewN | apply Kd.R_drew)); exact HO201.out))) (below_size (by repeat (first | (with_reducible first | exact HB.out | apply below_alloc | apply pw_below_drewN | apply below_drew1) | exact HB.out)))); have n4_ := Aside0.mk (below_step (by repeat (first | (with_reducible first | exact HB.out | apply below_alloc | apply pw_below_drewN | apply below_drew1) | exact HB.out)) hb); clear HO_5; clear HO_7; clear HO201; clear HB; have HO_5 := n0_; have HO_7 := n1_; have HO201 := n2_; have HO204 := n3_; have HB := n4_; clear n0_ n1_ n2_ n3_ n4_; (try clear hb); (try clear hb2); (try clear hk); (try clear hi); (try clear ho0); obtain ⟨Ao50, co50, eo50⟩ := Kd.R_slice HO204.out; subst eo50) | ((with_reducible refine gate_callee (f := 12) rfl ?_); refine goesL_ (some 61) rfl rfl Try.func12 (by kernel_rfl) rfl #[.slice Ao50 t202.length co50, .slice Ao22 t179.length co22] rfl (by (try simp only [List.map_toArray, List.map_cons, List.map_nil]); first | done | rfl) ?_; (with_reducible refine (laws_eqIntS.calls kj13 _ _ t202 _ _ t179 true _ ?side1 ?side2 ?side3 ?side4 A36.out).mono ?_); (case side1 => repeat (first | exact (Kd.R_reads' HO204.out).2.2 | (with_reducible refine Kd.C_alloc ?_ _) | (with_reducible refine Kd.C_drewN ?_ _) | (with_reducible refine Kd.C_drew ?_))); (case side2 => exact (Kd.R_reads' HO204.out).2.1); (case side3 => repeat (first | exact (Kd.R_reads' HO_5.out).2.2 | (with_reducible refine Kd.C_alloc ?_ _) | (with_reducible refine Kd.C_drewN ?_ _) | (with_reducible refine Kd.C_drew ?_))); (case side4 => exact (Kd.R_reads' HO_5.out).2.1); rintro e w' ⟨rfl, ⟨nd, rfl⟩⟩; refine ⟨_, rfl, ?_⟩) | ((with_reducible refine gate_callee (f := 14) rfl ?_); refine goesL_ (some 65) rfl rfl Try.func14 (by kernel_rfl) rfl #[.slice Ao21 t197.length co21, .int .i64 1] rfl (by (try simp only [List.map_toArray, List.map_cons, List.map_nil]); first | done | (rw [show t197.length = t185.length from (Kd.R_reads' HO_7.out).1.symm] <;> rfl) | rfl | (simp only [List.length_drop, List.length_take]; rfl)) ?_; (with_reducible refine (laws_heldIntS.calls kj13 _ _ t197 1 t206 _ ?side1 ?side2 A38.out).mono ?_); (case side1 => repeat (first | exact (Kd.R_reads' HO_7.out).2.2 | (with_reducible refine Kd.C_alloc ?_ _) | (with_reducible refine Kd.C_drewN ?_ _) | (with_reducible refine Kd.C_drew ?_))); (case side2 => rw [show t197.length = t185.length from (Kd.R_reads' HO_7.out).1.symm]; exact (Kd.R_reads' HO_7.out).2.1); rintro e w' ⟨rfl, ⟨nd, rfl⟩⟩; refine ⟨_, rfl, ?_⟩))
            go_ret; exact ⟨by first | rfl | (simp [errW_none, errW_some] <;> rfl) | (simp [*, errW_none, errW_some] <;> rfl), by repeat (first | (with_reducible first | exact HB.out | apply below_alloc | apply pw_below_drewN | apply below_drew1) | exact HB.out)⟩
           ·
            rw [if_neg c45] at H; have c45b0 : (t206 == t196) = false := beq_eq_false_iff_ne.mpr c45; have c45b1 : (t206 != t196) = true := bne_iff_ne.mpr c45; obtain rfl := Option.some.inj H; go_wp2_with (first | ((with_reducible refine gate_callee (f := 13) rfl ?_); refine goesL_ (some 46) rfl rfl Try.func13 (by kernel_rfl) rfl #[.slice Ao21 t185.length co21, .int .i64 1] rfl (by (try simp only [List.map_toArray, List.map_cons, List.map_nil]); first | done | rfl) ?_; (with_reducible refine (laws_markIntS.calls kj13 (fun k_ => some k_ = (.slice Ao21 t185.length co21 : Value).ownBlock) (.slice Ao21 t185.length co21) t185 1 t196 t197 w _ ?side1 ?side2 A29.out).mono ?_); (case side1 => repeat (first | (with_reducible first | exact HB.out | apply below_alloc | apply pw_below_drewN | apply below_drew1) | exact HB.out)); (case side2 => exact Kd.R_tight rfl HO_7.out); rintro e w51 ⟨rfl, hy0, hb, hkp⟩; refine ⟨_, rfl, ?_⟩; have n0_ := Aside0.mk (Kd.R_mono (ok' := fun k_ => some k_ ≠ (.slice Ao21 t185.length co21 : Value).ownBlock) (Kd.R_keptB (HO_5.out) hkp (fun k_ hk_ hs_ => (hk_) hs_)) (fun k_ hk_ => hk_.1)); have n1_ := Aside0.mk (Kd.R_reok rfl hy0 (fun k_ e_ => HO_7.out.1 k_ e_)); have n2_ := Aside0.mk (hb); clear HO_5; clear HO_7; clear HB; have HO_5 := n0_; have HO_7 := n1_; have HB := n2_; clear n0_ n1_ n2_; (try clear hb); (try clear hkp); (try clear hy0)) | ((with_reducible refine gate_callee (f := 14) rfl ?_); refine goesL_ (some 49) rfl rfl Try.func14 (by kernel_rfl) rfl #[.slice Ao21 t197.length co21, .int .i64 1] rfl (by (try simp only [List.map_toArray, List.map_cons, List.map_nil]); first | done | (rw [show t197.length = t185.length from (Kd.R_reads' HO_7.out).1.symm] <;> rfl) | rfl | (simp only [List.length_drop, List.length_take]; rfl)) ?_; (with_reducible refine (laws_heldIntS.calls kj13 _ _ t197 1 t198 _ ?side1 ?side2 A30.out).mono ?_); (case side1 => repeat (first | exact (Kd.R_reads' HO_7.out).2.2 | (with_reducible refine Kd.C_alloc ?_ _) | (with_reducible refine Kd.C_drewN ?_ _) | (with_reducible refine Kd.C_drew ?_))); (case side2 => rw [show t197.length = t185.length from (Kd.R_reads' HO_7.out).1.symm]; exact (Kd.R_reads' HO_7.out).2.1); rintro e w' ⟨rfl, ⟨nd, rfl⟩⟩; refine ⟨_, rfl, ?_⟩) | ((with_reducible refine gate_callee (f := 10) rfl ?_); refine goesL_ (some 56) rfl rfl Try.func10 (by kernel_rfl) rfl #[.slice A0 l0.length c0] rfl (by (try simp only [List.map_toArray, List.map_cons, List.map_nil]); first | done | rfl) ?_; (with_reducible refine (laws_toIntS.calls kj13 _ _ l0 t199 _ ?side1 ?side2 A34.out).mono ?_); (case side1 => repeat (first | exact (Kd.C_below HR0.out (by repeat (first | (with_reducible first | exact HB.out | apply below_alloc | apply pw_below_drewN | apply below_drew1) | exact HB.out))) | (with_reducible refine Kd.C_alloc ?_ _) | (with_reducible refine Kd.C_drewN ?_ _) | (with_reducible refine Kd.C_drew ?_))); (case side2 => exact HC0.out); rintro e w52 ⟨v200, rfl, ho0, hb⟩; refine ⟨_, rfl, ?_⟩; have n0_ := Aside0.mk (Kd.R_elder' (by (with_reducible repeat (first | apply Kd.R_alloc | apply Kd.R_drewN | apply Kd.R_drew)); exact HO_5.out) (Kd.R_base ho0) hb); have n1_ := Aside0.mk (Kd.R_elder' (by (with_reducible repeat (first | apply Kd.R_alloc | apply Kd.R_drewN | apply Kd.R_drew)); exact HO_7.out) (Kd.R_base ho0) hb); have n2_ := Aside0.mk (Kd.R_lower (Kd.R_new' (Kd.R_new' ho0 (Kd.R_lt (by (with_reducible repeat (first | apply Kd.R_alloc | apply Kd.R_drewN | apply Kd.R_drew)); exact HO_5.out))) (Kd.R_lt (by (with_reducible repeat (first | apply Kd.R_alloc | apply Kd.R_drewN | apply Kd.R_drew)); exact HO_7.out))) (below_size (by repeat (first | (with_reducible first | exact HB.out | apply below_alloc | apply pw_below_drewN | apply below_drew1) | exact HB.out)))); have n3_ := Aside0.mk (below_step (by repeat (first | (with_reducible first | exact HB.out | apply below_alloc | apply pw_below_drewN | apply below_drew1) | exact HB.out)) hb); clear HO_5; clear HO_7; clear HB; have HO_5 := n0_; have HO_7 := n1_; have HO201 := n2_; have HB := n3_; clear n0_ n1_ n2_ n3_; (try clear hb); (try clear hb2); (try clear hk); (try clear hi); (try clear ho0); obtain ⟨Ao53, co53, eo53⟩ := Kd.R_slice HO201.out; subst eo53) | ((with_reducible refine gate_callee (f := 11) rfl ?_); refine goesL_ (some 58) rfl rfl Try.func11 (by kernel_rfl) rfl #[.slice Ao53 t199.length co53, .int .i64 a1] rfl (by (try simp only [List.map_toArray, List.map_cons, List.map_nil]); first | done | rfl) ?_; (with_reducible refine (impl_LevelWeak.calls _ _ t199 a1 t202 _ ?side1 ?side2 A35.out).mono ?_); (case side1 => repeat (first | exact (Kd.R_reads' HO201.out).2.2 | (with_reducible refine Kd.C_alloc ?_ _) | (with_reducible refine Kd.C_drewN ?_ _) | (with_reducible refine Kd.C_drew ?_))); (case side2 => exact (Kd.R_reads' HO201.out).2.1); rintro e w54 ⟨v203, rfl, ho0, hb⟩; refine ⟨_, rfl, ?_⟩; have n0_ := Aside0.mk (Kd.R_elder' (by (with_reducible repeat (first | apply Kd.R_alloc | apply Kd.R_drewN | apply Kd.R_drew)); exact HO_5.out) (Kd.R_base ho0) hb); have n1_ := Aside0.mk (Kd.R_elder' (by (with_reducible repeat (first | apply Kd.R_alloc | apply Kd.R_drewN | apply Kd.R_drew)); exact HO_7.out) (Kd.R_base ho0) hb); have n2_ := Aside0.mk (Kd.R_elder' (by (with_reducible repeat (first | apply Kd.R_alloc | apply Kd.R_drewN | apply Kd.R_drew)); exact HO201.out) (Kd.R_base ho0) hb); have n3_ := Aside0.mk (Kd.R_lower (Kd.R_new' (Kd.R_new' (Kd.R_new' ho0 (Kd.R_lt (by (with_reducible repeat (first | apply Kd.R_alloc | apply Kd.R_drewN | apply Kd.R_drew)); exact HO_5.out))) (Kd.R_lt (by (with_reducible repeat (first | apply Kd.R_alloc | apply Kd.R_drewN | apply Kd.R_drew)); exact HO_7.out))) (Kd.R_lt (by (with_reducible repeat (first | apply Kd.R_alloc | apply Kd.R_drewN | apply Kd.R_drew)); exact HO201.out))) (below_size (by repeat (first | (with_reducible first | exact HB.out | apply below_alloc | apply pw_below_drewN | apply below_drew1) | exact HB.out)))); have n4_ := Aside0.mk (below_step (by repeat (first | (with_reducible first | exact HB.out | apply below_alloc | apply pw_below_drewN | apply below_drew1) | exact HB.out)) hb); clear HO_5; clear HO_7; clear HO201; clear HB; have HO_5 := n0_; have HO_7 := n1_; have HO201 := n2_; have HO204 := n3_; have HB := n4_; clear n0_ n1_ n2_ n3_ n4_; (try clear hb); (try clear hb2); (try clear hk); (try clear hi); (try clear ho0); obtain ⟨Ao55, co55, eo55⟩ := Kd.R_slice HO204.out; subst eo55) | ((with_reducible refine gate_callee (f := 12) rfl ?_); refine goesL_ (some 61) rfl rfl Try.func12 (by kernel_rfl) rfl #[.slice Ao55 t202.length co55, .slice Ao22 t179.length co22] rfl (by (try simp only [List.map_toArray, List.map_cons, List.map_nil]); first | done | rfl) ?_; (with_reducible refine (laws_eqIntS.calls kj13 _ _ t202 _ _ t179 true _ ?side1 ?side2 ?side3 ?side4 A36.out).mono ?_); (case side1 => repeat (first | exact (Kd.R_reads' HO204.out).2.2 | (with_reducible refine Kd.C_alloc ?_ _) | (with_reducible refine Kd.C_drewN ?_ _) | (with_reducible refine Kd.C_drew ?_))); (case side2 => exact (Kd.R_reads' HO204.out).2.1); (case side3 => repeat (first | exact (Kd.R_reads' HO_5.out).2.2 | (with_reducible refine Kd.C_alloc ?_ _) | (with_reducible refine Kd.C_drewN ?_ _) | (with_reducible refine Kd.C_drew ?_))); (case side4 => exact (Kd.R_reads' HO_5.out).2.1); rintro e w' ⟨rfl, ⟨nd, rfl⟩⟩; refine ⟨_, rfl, ?_⟩) | ((with_reducible refine gate_callee (f := 14) rfl ?_); refine goesL_ (some 65) rfl rfl Try.func14 (by kernel_rfl) rfl #[.slice Ao21 t197.length co21, .int .i64 1] rfl (by (try simp only [List.map_toArray, List.map_cons, List.map_nil]); first | done | (rw [show t197.length = t185.length from (Kd.R_reads' HO_7.out).1.symm] <;> rfl) | rfl | (simp only [List.length_drop, List.length_take]; rfl)) ?_; (with_reducible refine (laws_heldIntS.calls kj13 _ _ t197 1 t206 _ ?side1 ?side2 A38.out).mono ?_); (case side1 => repeat (first | exact (Kd.R_reads' HO_7.out).2.2 | (with_reducible refine Kd.C_alloc ?_ _) | (with_reducible refine Kd.C_drewN ?_ _) | (with_reducible refine Kd.C_drew ?_))); (case side2 => rw [show t197.length = t185.length from (Kd.R_reads' HO_7.out).1.symm]; exact (Kd.R_reads' HO_7.out).2.1); rintro e w' ⟨rfl, ⟨nd, rfl⟩⟩; refine ⟨_, rfl, ?_⟩))
            go_ret; exact ⟨by first | rfl | (simp [errW_none, errW_some] <;> rfl) | (simp [*, errW_none, errW_some] <;> rfl), by repeat (first | (with_reducible first | exact HB.out | apply below_alloc | apply pw_below_drewN | apply below_drew1) | exact HB.out)⟩
         ·
          replace c37 := Bool.eq_false_iff.mpr c37; subst c37; have H1 : (some false) = some r := by rw [if_neg (show ¬ (false = true) by decide)] at H; exact H
          clear H; have H := H1; clear H1; obtain rfl := Option.some.inj H; go_wp2_with (first | ((with_reducible refine gate_callee (f := 13) rfl ?_); refine goesL_ (some 46) rfl rfl Try.func13 (by kernel_rfl) rfl #[.slice Ao21 t185.length co21, .int .i64 1] rfl (by (try simp only [List.map_toArray, List.map_cons, List.map_nil]); first | done | rfl) ?_; (with_reducible refine (laws_markIntS.calls kj13 (fun k_ => some k_ = (.slice Ao21 t185.length co21 : Value).ownBlock) (.slice Ao21 t185.length co21) t185 1 t196 t197 w _ ?side1 ?side2 A29.out).mono ?_); (case side1 => repeat (first | (with_reducible first | exact HB.out | apply below_alloc | apply pw_below_drewN | apply below_drew1) | exact HB.out)); (case side2 => exact Kd.R_tight rfl HO_7.out); rintro e w56 ⟨rfl, hy0, hb, hkp⟩; refine ⟨_, rfl, ?_⟩; have n0_ := Aside0.mk (Kd.R_mono (ok' := fun k_ => some k_ ≠ (.slice Ao21 t185.length co21 : Value).ownBlock) (Kd.R_keptB (HO_5.out) hkp (fun k_ hk_ hs_ => (hk_) hs_)) (fun k_ hk_ => hk_.1)); have n1_ := Aside0.mk (Kd.R_reok rfl hy0 (fun k_ e_ => HO_7.out.1 k_ e_)); have n2_ := Aside0.mk (hb); clear HO_5; clear HO_7; clear HB; have HO_5 := n0_; have HO_7 := n1_; have HB := n2_; clear n0_ n1_ n2_; (try clear hb); (try clear hkp); (try clear hy0)) | ((with_reducible refine gate_callee (f := 14) rfl ?_); refine goesL_ (some 49) rfl rfl Try.func14 (by kernel_rfl) rfl #[.slice Ao21 t197.length co21, .int .i64 1] rfl (by (try simp only [List.map_toArray, List.map_cons, List.map_nil]); first | done | (rw [show t197.length = t185.length from (Kd.R_reads' HO_7.out).1.symm] <;> rfl) | rfl | (simp only [List.length_drop, List.length_take]; rfl)) ?_; (with_reducible refine (laws_heldIntS.calls kj13 _ _ t197 1 t198 _ ?side1 ?side2 A30.out).mono ?_); (case side1 => repeat (first | exact (Kd.R_reads' HO_7.out).2.2 | (with_reducible refine Kd.C_alloc ?_ _) | (with_reducible refine Kd.C_drewN ?_ _) | (with_reducible refine Kd.C_drew ?_))); (case side2 => rw [show t197.length = t185.length from (Kd.R_reads' HO_7.out).1.symm]; exact (Kd.R_reads' HO_7.out).2.1); rintro e w' ⟨rfl, ⟨nd, rfl⟩⟩; refine ⟨_, rfl, ?_⟩) | ((with_reducible refine gate_callee (f := 10) rfl ?_); refine goesL_ (some 56) rfl rfl Try.func10 (by kernel_rfl) rfl #[.slice A0 l0.length c0] rfl (by (try simp only [List.map_toArray, List.map_cons, List.map_nil]); first | done | rfl) ?_; (with_reducible refine (laws_toIntS.calls kj13 _ _ l0 t199 _ ?side1 ?side2 A34.out).mono ?_); (case side1 => repeat (first | exact (Kd.C_below HR0.out (by repeat (first | (with_reducible first | exact HB.out | apply below_alloc | apply pw_below_drewN | apply below_drew1) | exact HB.out))) | (with_reducible refine Kd.C_alloc ?_ _) | (with_reducible refine Kd.C_drewN ?_ _) | (with_reducible refine Kd.C_drew ?_))); (case side2 => exact HC0.out); rintro e w57 ⟨v200, rfl, ho0, hb⟩; refine ⟨_, rfl, ?_⟩; have n0_ := Aside0.mk (Kd.R_elder' (by (with_reducible repeat (first | apply Kd.R_alloc | apply Kd.R_drewN | apply Kd.R_drew)); exact HO_5.out) (Kd.R_base ho0) hb); have n1_ := Aside0.mk (Kd.R_elder' (by (with_reducible repeat (first | apply Kd.R_alloc | apply Kd.R_drewN | apply Kd.R_drew)); exact HO_7.out) (Kd.R_base ho0) hb); have n2_ := Aside0.mk (Kd.R_lower (Kd.R_new' (Kd.R_new' ho0 (Kd.R_lt (by (with_reducible repeat (first | apply Kd.R_alloc | apply Kd.R_drewN | apply Kd.R_drew)); exact HO_5.out))) (Kd.R_lt (by (with_reducible repeat (first | apply Kd.R_alloc | apply Kd.R_drewN | apply Kd.R_drew)); exact HO_7.out))) (below_size (by repeat (first | (with_reducible first | exact HB.out | apply below_alloc | apply pw_below_drewN | apply below_drew1) | exact HB.out)))); have n3_ := Aside0.mk (below_step (by repeat (first | (with_reducible first | exact HB.out | apply below_alloc | apply pw_below_drewN | apply below_drew1) | exact HB.out)) hb); clear HO_5; clear HO_7; clear HB; have HO_5 := n0_; have HO_7 := n1_; have HO201 := n2_; have HB := n3_; clear n0_ n1_ n2_ n3_; (try clear hb); (try clear hb2); (try clear hk); (try clear hi); (try clear ho0); obtain ⟨Ao58, co58, eo58⟩ := Kd.R_slice HO201.out; subst eo58) | ((with_reducible refine gate_callee (f := 11) rfl ?_); refine goesL_ (some 58) rfl rfl Try.func11 (by kernel_rfl) rfl #[.slice Ao58 t199.length co58, .int .i64 a1] rfl (by (try simp only [List.map_toArray, List.map_cons, List.map_nil]); first | done | rfl) ?_; (with_reducible refine (impl_LevelWeak.calls _ _ t199 a1 t202 _ ?side1 ?side2 A35.out).mono ?_); (case side1 => repeat (first | exact (Kd.R_reads' HO201.out).2.2 | (with_reducible refine Kd.C_alloc ?_ _) | (with_reducible refine Kd.C_drewN ?_ _) | (with_reducible refine Kd.C_drew ?_))); (case side2 => exact (Kd.R_reads' HO201.out).2.1); rintro e w59 ⟨v203, rfl, ho0, hb⟩; refine ⟨_, rfl, ?_⟩; have n0_ := Aside0.mk (Kd.R_elder' (by (with_reducible repeat (first | apply Kd.R_alloc | apply Kd.R_drewN | apply Kd.R_drew)); exact HO_5.out) (Kd.R_base ho0) hb); have n1_ := Aside0.mk (Kd.R_elder' (by (with_reducible repeat (first | apply Kd.R_alloc | apply Kd.R_drewN | apply Kd.R_drew)); exact HO_7.out) (Kd.R_base ho0) hb); have n2_ := Aside0.mk (Kd.R_elder' (by (with_reducible repeat (first | apply Kd.R_alloc | apply Kd.R_drewN | apply Kd.R_drew)); exact HO201.out) (Kd.R_base ho0) hb); have n3_ := Aside0.mk (Kd.R_lower (Kd.R_new' (Kd.R_new' (Kd.R_new' ho0 (Kd.R_lt (by (with_reducible repeat (first | apply Kd.R_alloc | apply Kd.R_drewN | apply Kd.R_drew)); exact HO_5.out))) (Kd.R_lt (by (with_reducible repeat (first | apply Kd.R_alloc | apply Kd.R_drewN | apply Kd.R_drew)); exact HO_7.out))) (Kd.R_lt (by (with_reducible repeat (first | apply Kd.R_alloc | apply Kd.R_drewN | apply Kd.R_drew)); exact HO201.out))) (below_size (by repeat (first | (with_reducible first | exact HB.out | apply below_alloc | apply pw_below_drewN | apply below_drew1) | exact HB.out)))); have n4_ := Aside0.mk (below_step (by repeat (first | (with_reducible first | exact HB.out | apply below_alloc | apply pw_below_drewN | apply below_drew1) | exact HB.out)) hb); clear HO_5; clear HO_7; clear HO201; clear HB; have HO_5 := n0_; have HO_7 := n1_; have HO201 := n2_; have HO204 := n3_; have HB := n4_; clear n0_ n1_ n2_ n3_ n4_; (try clear hb); (try clear hb2); (try clear hk); (try clear hi); (try clear ho0); obtain ⟨Ao60, co60, eo60⟩ := Kd.R_slice HO204.out; subst eo60) | ((with_reducible refine gate_callee (f := 12) rfl ?_); refine goesL_ (some 61) rfl rfl Try.func12 (by kernel_rfl) rfl #[.slice Ao60 t202.length co60, .slice Ao22 t179.length co22] rfl (by (try simp only [List.map_toArray, List.map_cons, List.map_nil]); first | done | rfl) ?_; (with_reducible refine (laws_eqIntS.calls kj13 _ _ t202 _ _ t179 false _ ?side1 ?side2 ?side3 ?side4 A36.out).mono ?_); (case side1 => repeat (first | exact (Kd.R_reads' HO204.out).2.2 | (with_reducible refine Kd.C_alloc ?_ _) | (with_reducible refine Kd.C_drewN ?_ _) | (with_reducible refine Kd.C_drew ?_))); (case side2 => exact (Kd.R_reads' HO204.out).2.1); (case side3 => repeat (first | exact (Kd.R_reads' HO_5.out).2.2 | (with_reducible refine Kd.C_alloc ?_ _) | (with_reducible refine Kd.C_drewN ?_ _) | (with_reducible refine Kd.C_drew ?_))); (case side4 => exact (Kd.R_reads' HO_5.out).2.1); rintro e w' ⟨rfl, ⟨nd, rfl⟩⟩; refine ⟨_, rfl, ?_⟩))
          go_ret; exact ⟨by first | rfl | (simp [errW_none, errW_some] <;> rfl) | (simp [*, errW_none, errW_some] <;> rfl), by repeat (first | (with_reducible first | exact HB.out | apply below_alloc | apply pw_below_drewN | apply below_drew1) | exact HB.out)⟩
        ·
         rw [if_neg c33] at H; have c33b0 : (t198 == t196) = false := beq_eq_false_iff_ne.mpr c33; have c33b1 : (t198 != t196) = true := bne_iff_ne.mpr c33; obtain rfl := Option.some.inj H; go_wp2_with (first | ((with_reducible refine gate_callee (f := 13) rfl ?_); refine goesL_ (some 46) rfl rfl Try.func13 (by kernel_rfl) rfl #[.slice Ao21 t185.length co21, .int .i64 1] rfl (by (try simp only [List.map_toArray, List.map_cons, List.map_nil]); first | done | rfl) ?_; (with_reducible refine (laws_markIntS.calls kj13 (fun k_ => some k_ = (.slice Ao21 t185.length co21 : Value).ownBlock) (.slice Ao21 t185.length co21) t185 1 t196 t197 w _ ?side1 ?side2 A29.out).mono ?_); (case side1 => repeat (first | (with_reducible first | exact HB.out | apply below_alloc | apply pw_below_drewN | apply below_drew1) | exact HB.out)); (case side2 => exact Kd.R_tight rfl HO_7.out); rintro e w61 ⟨rfl, hy0, hb, hkp⟩; refine ⟨_, rfl, ?_⟩; have n0_ := Aside0.mk (Kd.R_mono (ok' := fun k_ => some k_ ≠ (.slice Ao21 t185.length co21 : Value).ownBlock) (Kd.R_keptB (HO_5.out) hkp (fun k_ hk_ hs_ => (hk_) hs_)) (fun k_ hk_ => hk_.1)); have n1_ := Aside0.mk (Kd.R_reok rfl hy0 (fun k_ e_ => HO_7.out.1 k_ e_)); have n2_ := Aside0.mk (hb); clear HO_5; clear HO_7; clear HB; have HO_5 := n0_; have HO_7 := n1_; have HB := n2_; clear n0_ n1_ n2_; (try clear hb); (try clear hkp); (try clear hy0)) | ((with_reducible refine gate_callee (f := 14) rfl ?_); refine goesL_ (some 49) rfl rfl Try.func14 (by kernel_rfl) rfl #[.slice Ao21 t197.length co21, .int .i64 1] rfl (by (try simp only [List.map_toArray, List.map_cons, List.map_nil]); first | done | (rw [show t197.length = t185.length from (Kd.R_reads' HO_7.out).1.symm] <;> rfl) | rfl | (simp only [List.length_drop, List.length_take]; rfl)) ?_; (with_reducible refine (laws_heldIntS.calls kj13 _ _ t197 1 t198 _ ?side1 ?side2 A30.out).mono ?_); (case side1 => repeat (first | exact (Kd.R_reads' HO_7.out).2.2 | (with_reducible refine Kd.C_alloc ?_ _) | (with_reducible refine Kd.C_drewN ?_ _) | (with_reducible refine Kd.C_drew ?_))); (case side2 => rw [show t197.length = t185.length from (Kd.R_reads' HO_7.out).1.symm]; exact (Kd.R_reads' HO_7.out).2.1); rintro e w' ⟨rfl, ⟨nd, rfl⟩⟩; refine ⟨_, rfl, ?_⟩)); go_ret; exact ⟨by first | rfl | (simp [errW_none, errW_some] <;> rfl) | (simp [*, errW_none, errW_some] <;> rfl), by repeat (first | (with_reducible first | exact HB.out | apply below_alloc | apply pw_below_drewN | apply below_drew1) | exact HB.out)⟩
   ·
    replace c12 := Bool.eq_false_iff.mpr c12; subst c12; have H1 : (some false) = some r := by rw [if_neg (show ¬ (false = true) by decide)] at H; exact H
    clear H; have H := H1; clear H1; obtain rfl := Option.some.inj H; go_enter Try.func3, Try.ntmps3; go_wp2_with (first | ((with_reducible refine gate_callee (f := 10) rfl ?_); refine goesL_ (some 16) rfl rfl Try.func10 (by kernel_rfl) rfl #[.slice A0 l0.length c0] rfl (by (try simp only [List.map_toArray, List.map_cons, List.map_nil]); first | done | rfl) ?_; (with_reducible refine (laws_toIntS.calls k _ _ l0 t176 _ ?side1 ?side2 A4.out).mono ?_); (case side1 => repeat (first | exact HR0.out | (with_reducible refine Kd.C_alloc ?_ _) | (with_reducible refine Kd.C_drewN ?_ _) | (with_reducible refine Kd.C_drew ?_))); (case side2 => exact HC0.out); rintro e w62 ⟨v177, rfl, ho0, hb⟩; refine ⟨_, rfl, ?_⟩; have n0_ := Aside0.mk (Kd.R_lower ho0 (below_size (by repeat (first | (with_reducible first | exact HB.out | apply below_alloc | apply pw_below_drewN | apply below_drew1) | exact HB.out)))); have n1_ := Aside0.mk (below_step (by repeat (first | (with_reducible first | exact HB.out | apply below_alloc | apply pw_below_drewN | apply below_drew1) | exact HB.out)) hb); clear HB; have HO178 := n0_; have HB := n1_; clear n0_ n1_; (try clear hb); (try clear hb2); (try clear hk); (try clear hi); (try clear ho0); obtain ⟨Ao63, co63, eo63⟩ := Kd.R_slice HO178.out; subst eo63) | ((with_reducible refine gate_callee (f := 9) rfl ?_); refine goesL_ (some 18) rfl rfl Try.func9 (by kernel_rfl) rfl #[.slice Ao63 t176.length co63, .int .i64 a1] rfl (by (try simp only [List.map_toArray, List.map_cons, List.map_nil]); first | done | rfl) ?_; (with_reducible refine (spec_LevelWeak.calls k _ _ t176 a1 t179 _ ?side1 ?side2 A5.out).mono ?_); (case side1 => repeat (first | exact (Kd.R_reads' HO178.out).2.2 | (with_reducible refine Kd.C_alloc ?_ _) | (with_reducible refine Kd.C_drewN ?_ _) | (with_reducible refine Kd.C_drew ?_))); (case side2 => exact (Kd.R_reads' HO178.out).2.1); rintro e w64 ⟨v180, rfl, ho0, hb⟩; refine ⟨_, rfl, ?_⟩; have n0_ := Aside0.mk (Kd.R_elder' (by (with_reducible repeat (first | apply Kd.R_alloc | apply Kd.R_drewN | apply Kd.R_drew)); exact HO178.out) (Kd.R_base ho0) hb); have n1_ := Aside0.mk (Kd.R_lower (Kd.R_new' ho0 (Kd.R_lt (by (with_reducible repeat (first | apply Kd.R_alloc | apply Kd.R_drewN | apply Kd.R_drew)); exact HO178.out))) (below_size (by repeat (first | (with_reducible first | exact HB.out | apply below_alloc | apply pw_below_drewN | apply below_drew1) | exact HB.out)))); have n2_ := Aside0.mk (below_step (by repeat (first | (with_reducible first | exact HB.out | apply below_alloc | apply pw_below_drewN | apply below_drew1) | exact HB.out)) hb); clear HO178; clear HB; have HO178 := n0_; have HO181 := n1_; have HB := n2_; clear n0_ n1_ n2_; (try clear hb); (try clear hb2); (try clear hk); (try clear hi); (try clear ho0)) | ((with_reducible refine gate_callee (f := 10) rfl ?_); refine goesL_ (some 20) rfl rfl Try.func10 (by kernel_rfl) rfl #[.slice A0 l0.length c0] rfl (by (try simp only [List.map_toArray, List.map_cons, List.map_nil]); first | done | rfl) ?_; (with_reducible refine (laws_toIntS.calls k _ _ l0 t182 _ ?side1 ?side2 A6.out).mono ?_); (case side1 => repeat (first | exact (Kd.C_below HR0.out HB.out) | (with_reducible refine Kd.C_alloc ?_ _) | (with_reducible refine Kd.C_drewN ?_ _) | (with_reducible refine Kd.C_drew ?_))); (case side2 => exact HC0.out); rintro e w65 ⟨v183, rfl, ho0, hb⟩; refine ⟨_, rfl, ?_⟩; have n0_ := Aside0.mk (Kd.R_elder' (by (with_reducible repeat (first | apply Kd.R_alloc | apply Kd.R_drewN | apply Kd.R_drew)); exact HO178.out) (Kd.R_base ho0) hb); have n1_ := Aside0.mk (Kd.R_elder' (by (with_reducible repeat (first | apply Kd.R_alloc | apply Kd.R_drewN | apply Kd.R_drew)); exact HO181.out) (Kd.R_base ho0) hb); have n2_ := Aside0.mk (Kd.R_lower (Kd.R_new' (Kd.R_new' ho0 (Kd.R_lt (by (with_reducible repeat (first | apply Kd.R_alloc | apply Kd.R_drewN | apply Kd.R_drew)); exact HO178.out))) (Kd.R_lt (by (with_reducible repeat (first | apply Kd.R_alloc | apply Kd.R_drewN | apply Kd.R_drew)); exact HO181.out))) (below_size (by repeat (first | (with_reducible first | exact HB.out | apply below_alloc | apply pw_below_drewN | apply below_drew1) | exact HB.out)))); have n3_ := Aside0.mk (below_step (by repeat (first | (with_reducible first | exact HB.out | apply below_alloc | apply pw_below_drewN | apply below_drew1) | exact HB.out)) hb); clear HO178; clear HO181; clear HB; have HO178 := n0_; have HO181 := n1_; have HO184 := n2_; have HB := n3_; clear n0_ n1_ n2_ n3_; (try clear hb); (try clear hb2); (try clear hk); (try clear hi); (try clear ho0); obtain ⟨Ao66, co66, eo66⟩ := Kd.R_slice HO184.out; subst eo66) | ((with_reducible refine gate_callee (f := 11) rfl ?_); refine goesL_ (some 23) rfl rfl Try.func11 (by kernel_rfl) rfl #[.slice Ao66 t182.length co66, .int .i64 a1] rfl (by (try simp only [List.map_toArray, List.map_cons, List.map_nil]); first | done | rfl) ?_; (with_reducible refine (impl_LevelWeak.calls _ _ t182 a1 t185 _ ?side1 ?side2 A7.out).mono ?_); (case side1 => repeat (first | exact (Kd.R_reads' HO184.out).2.2 | (with_reducible refine Kd.C_alloc ?_ _) | (with_reducible refine Kd.C_drewN ?_ _) | (with_reducible refine Kd.C_drew ?_))); (case side2 => exact (Kd.R_reads' HO184.out).2.1); rintro e w67 ⟨v186, rfl, ho0, hb⟩; refine ⟨_, rfl, ?_⟩; have n0_ := Aside0.mk (Kd.R_elder' (by (with_reducible repeat (first | apply Kd.R_alloc | apply Kd.R_drewN | apply Kd.R_drew)); exact HO178.out) (Kd.R_base ho0) hb); have n1_ := Aside0.mk (Kd.R_elder' (by (with_reducible repeat (first | apply Kd.R_alloc | apply Kd.R_drewN | apply Kd.R_drew)); exact HO181.out) (Kd.R_base ho0) hb); have n2_ := Aside0.mk (Kd.R_elder' (by (with_reducible repeat (first | apply Kd.R_alloc | apply Kd.R_drewN | apply Kd.R_drew)); exact HO184.out) (Kd.R_base ho0) hb); have n3_ := Aside0.mk (Kd.R_lower (Kd.R_new' (Kd.R_new' (Kd.R_new' ho0 (Kd.R_lt (by (with_reducible repeat (first | apply Kd.R_alloc | apply Kd.R_drewN | apply Kd.R_drew)); exact HO178.out))) (Kd.R_lt (by (with_reducible repeat (first | apply Kd.R_alloc | apply Kd.R_drewN | apply Kd.R_drew)); exact HO181.out))) (Kd.R_lt (by (with_reducible repeat (first | apply Kd.R_alloc | apply Kd.R_drewN | apply Kd.R_drew)); exact HO184.out))) (below_size (by repeat (first | (with_reducible first | exact HB.out | apply below_alloc | apply pw_below_drewN | apply below_drew1) | exact HB.out)))); have n4_ := Aside0.mk (below_step (by repeat (first | (with_reducible first | exact HB.out | apply below_alloc | apply pw_below_drewN | apply below_drew1) | exact HB.out)) hb); clear HO178; clear HO181; clear HO184; clear HB; have HO178 := n0_; have HO181 := n1_; have HO184 := n2_; have HO187 := n3_; have HB := n4_; clear n0_ n1_ n2_ n3_ n4_; (try clear hb); (try clear hb2); (try clear hk); (try clear hi); (try clear ho0); obtain ⟨Ao68, co68, eo68⟩ := Kd.R_slice HO187.out; subst eo68; obtain ⟨Ao69, co69, eo69⟩ := Kd.R_slice HO181.out; subst eo69) | ((with_reducible refine gate_callee (f := 12) rfl ?_); refine goesL_ (some 26) rfl rfl Try.func12 (by kernel_rfl) rfl #[.slice Ao68 t185.length co68, .slice Ao69 t179.length co69] rfl (by (try simp only [List.map_toArray, List.map_cons, List.map_nil]); first | done | rfl) ?_; (with_reducible refine (laws_eqIntS.calls k _ _ t185 _ _ t179 true _ ?side1 ?side2 ?side3 ?side4 A8.out).mono ?_); (case side1 => repeat (first | exact (Kd.R_reads' HO187.out).2.2 | (with_reducible refine Kd.C_alloc ?_ _) | (with_reducible refine Kd.C_drewN ?_ _) | (with_reducible refine Kd.C_drew ?_))); (case side2 => exact (Kd.R_reads' HO187.out).2.1); (case side3 => repeat (first | exact (Kd.R_reads' HO181.out).2.2 | (with_reducible refine Kd.C_alloc ?_ _) | (with_reducible refine Kd.C_drewN ?_ _) | (with_reducible refine Kd.C_drew ?_))); (case side4 => exact (Kd.R_reads' HO181.out).2.1); rintro e w' ⟨rfl, ⟨nd, rfl⟩⟩; refine ⟨_, rfl, ?_⟩) | ((with_reducible refine gate_callee (f := 10) rfl ?_); refine goesL_ (some 30) rfl rfl Try.func10 (by kernel_rfl) rfl #[.slice A0 l0.length c0] rfl (by (try simp only [List.map_toArray, List.map_cons, List.map_nil]); first | done | rfl) ?_; (with_reducible refine (laws_toIntS.calls k _ _ l0 t189 _ ?side1 ?side2 A10.out).mono ?_); (case side1 => repeat (first | exact (Kd.C_below HR0.out (by repeat (first | (with_reducible first | exact HB.out | apply below_alloc | apply pw_below_drewN | apply below_drew1) | exact HB.out))) | (with_reducible refine Kd.C_alloc ?_ _) | (with_reducible refine Kd.C_drewN ?_ _) | (with_reducible refine Kd.C_drew ?_))); (case side2 => exact HC0.out); rintro e w70 ⟨v190, rfl, ho0, hb⟩; refine ⟨_, rfl, ?_⟩; have n0_ := Aside0.mk (Kd.R_elder' (by (with_reducible repeat (first | apply Kd.R_alloc | apply Kd.R_drewN | apply Kd.R_drew)); exact HO178.out) (Kd.R_base ho0) hb); have n1_ := Aside0.mk (Kd.R_elder' (by (with_reducible repeat (first | apply Kd.R_alloc | apply Kd.R_drewN | apply Kd.R_drew)); exact HO181.out) (Kd.R_base ho0) hb); have n2_ := Aside0.mk (Kd.R_elder' (by (with_reducible repeat (first | apply Kd.R_alloc | apply Kd.R_drewN | apply Kd.R_drew)); exact HO184.out) (Kd.R_base ho0) hb); have n3_ := Aside0.mk (Kd.R_elder' (by (with_reducible repeat (first | apply Kd.R_alloc | apply Kd.R_drewN | apply Kd.R_drew)); exact HO187.out) (Kd.R_base ho0) hb); have n4_ := Aside0.mk (Kd.R_lower (Kd.R_new' (Kd.R_new' (Kd.R_new' (Kd.R_new' ho0 (Kd.R_lt (by (with_reducible repeat (first | apply Kd.R_alloc | apply Kd.R_drewN | apply Kd.R_drew)); exact HO178.out))) (Kd.R_lt (by (with_reducible repeat (first | apply Kd.R_alloc | apply Kd.R_drewN | apply Kd.R_drew)); exact HO181.out))) (Kd.R_lt (by (with_reducible repeat (first | apply Kd.R_alloc | apply Kd.R_drewN | apply Kd.R_drew)); exact HO184.out))) (Kd.R_lt (by (with_reducible repeat (first | apply Kd.R_alloc | apply Kd.R_drewN | apply Kd.R_drew)); exact HO187.out))) (below_size (by repeat (first | (with_reducible first | exact HB.out | apply below_alloc | apply pw_below_drewN | apply below_drew1) | exact HB.out)))); have n5_ := Aside0.mk (below_step (by repeat (first | (with_reducible first | exact HB.out | apply below_alloc | apply pw_below_drewN | apply below_drew1) | exact HB.out)) hb); clear HO178; clear HO181; clear HO184; clear HO187; clear HB; have HO178 := n0_; have HO181 := n1_; have HO184 := n2_; have HO187 := n3_; have HO191 := n4_; have HB := n5_; clear n0_ n1_ n2_ n3_ n4_ n5_; (try clear hb); (try clear hb2); (try clear hk); (try clear hi); (try clear ho0); obtain ⟨Ao71, co71, eo71⟩ := Kd.R_slice HO191.out; subst eo71) | ((with_reducible refine gate_callee (f := 12) rfl ?_); refine goesL_ (some 31) rfl rfl Try.func12 (by kernel_rfl) rfl #[.slice Ao66 t182.length co66, .slice Ao71 t189.length co71] rfl (by (try simp only [List.map_toArray, List.map_cons, List.map_nil]); first | done | rfl) ?_; (with_reducible refine (laws_eqIntS.calls k _ _ t182 _ _ t189 false _ ?side1 ?side2 ?side3 ?side4 A11.out).mono ?_); (case side1 => repeat (first | exact (Kd.R_reads' HO184.out).2.2 | (with_reducible refine Kd.C_alloc ?_ _) | (with_reducible refine Kd.C_drewN ?_ _) | (with_reducible refine Kd.C_drew ?_))); (case side2 => exact (Kd.R_reads' HO184.out).2.1); (case side3 => repeat (first | exact (Kd.R_reads' HO191.out).2.2 | (with_reducible refine Kd.C_alloc ?_ _) | (with_reducible refine Kd.C_drewN ?_ _) | (with_reducible refine Kd.C_drew ?_))); (case side4 => exact (Kd.R_reads' HO191.out).2.1); rintro e w' ⟨rfl, ⟨nd, rfl⟩⟩; refine ⟨_, rfl, ?_⟩))
    go_ret; exact ⟨by first | rfl | (simp [errW_none, errW_some] <;> rfl) | (simp [*, errW_none, errW_some] <;> rfl), by repeat (first | (with_reducible first | exact HB.out | apply below_alloc | apply pw_below_drewN | apply below_drew1) | exact HB.out)⟩
  ·
   replace c9 := Bool.eq_false_iff.mpr c9; subst c9; have H1 : (some false) = some r := by rw [if_neg (show ¬ (false = true) by decide)] at H; exact H
   clear H; have H := H1; clear H1; obtain rfl := Option.some.inj H; go_enter Try.func3, Try.ntmps3; go_wp2_with (first | ((with_reducible refine gate_callee (f := 10) rfl ?_); refine goesL_ (some 16) rfl rfl Try.func10 (by kernel_rfl) rfl #[.slice A0 l0.length c0] rfl (by (try simp only [List.map_toArray, List.map_cons, List.map_nil]); first | done | rfl) ?_; (with_reducible refine (laws_toIntS.calls k _ _ l0 t176 _ ?side1 ?side2 A4.out).mono ?_); (case side1 => repeat (first | exact HR0.out | (with_reducible refine Kd.C_alloc ?_ _) | (with_reducible refine Kd.C_drewN ?_ _) | (with_reducible refine Kd.C_drew ?_))); (case side2 => exact HC0.out); rintro e w72 ⟨v177, rfl, ho0, hb⟩; refine ⟨_, rfl, ?_⟩; have n0_ := Aside0.mk (Kd.R_lower ho0 (below_size (by repeat (first | (with_reducible first | exact HB.out | apply below_alloc | apply pw_below_drewN | apply below_drew1) | exact HB.out)))); have n1_ := Aside0.mk (below_step (by repeat (first | (with_reducible first | exact HB.out | apply below_alloc | apply pw_below_drewN | apply below_drew1) | exact HB.out)) hb); clear HB; have HO178 := n0_; have HB := n1_; clear n0_ n1_; (try clear hb); (try clear hb2); (try clear hk); (try clear hi); (try clear ho0); obtain ⟨Ao73, co73, eo73⟩ := Kd.R_slice HO178.out; subst eo73) | ((with_reducible refine gate_callee (f := 9) rfl ?_); refine goesL_ (some 18) rfl rfl Try.func9 (by kernel_rfl) rfl #[.slice Ao73 t176.length co73, .int .i64 a1] rfl (by (try simp only [List.map_toArray, List.map_cons, List.map_nil]); first | done | rfl) ?_; (with_reducible refine (spec_LevelWeak.calls k _ _ t176 a1 t179 _ ?side1 ?side2 A5.out).mono ?_); (case side1 => repeat (first | exact (Kd.R_reads' HO178.out).2.2 | (with_reducible refine Kd.C_alloc ?_ _) | (with_reducible refine Kd.C_drewN ?_ _) | (with_reducible refine Kd.C_drew ?_))); (case side2 => exact (Kd.R_reads' HO178.out).2.1); rintro e w74 ⟨v180, rfl, ho0, hb⟩; refine ⟨_, rfl, ?_⟩; have n0_ := Aside0.mk (Kd.R_elder' (by (with_reducible repeat (first | apply Kd.R_alloc | apply Kd.R_drewN | apply Kd.R_drew)); exact HO178.out) (Kd.R_base ho0) hb); have n1_ := Aside0.mk (Kd.R_lower (Kd.R_new' ho0 (Kd.R_lt (by (with_reducible repeat (first | apply Kd.R_alloc | apply Kd.R_drewN | apply Kd.R_drew)); exact HO178.out))) (below_size (by repeat (first | (with_reducible first | exact HB.out | apply below_alloc | apply pw_below_drewN | apply below_drew1) | exact HB.out)))); have n2_ := Aside0.mk (below_step (by repeat (first | (with_reducible first | exact HB.out | apply below_alloc | apply pw_below_drewN | apply below_drew1) | exact HB.out)) hb); clear HO178; clear HB; have HO178 := n0_; have HO181 := n1_; have HB := n2_; clear n0_ n1_ n2_; (try clear hb); (try clear hb2); (try clear hk); (try clear hi); (try clear ho0)) | ((with_reducible refine gate_callee (f := 10) rfl ?_); refine goesL_ (some 20) rfl rfl Try.func10 (by kernel_rfl) rfl #[.slice A0 l0.length c0] rfl (by (try simp only [List.map_toArray, List.map_cons, List.map_nil]); first | done | rfl) ?_; (with_reducible refine (laws_toIntS.calls k _ _ l0 t182 _ ?side1 ?side2 A6.out).mono ?_); (case side1 => repeat (first | exact (Kd.C_below HR0.out HB.out) | (with_reducible refine Kd.C_alloc ?_ _) | (with_reducible refine Kd.C_drewN ?_ _) | (with_reducible refine Kd.C_drew ?_))); (case side2 => exact HC0.out); rintro e w75 ⟨v183, rfl, ho0, hb⟩; refine ⟨_, rfl, ?_⟩; have n0_ := Aside0.mk (Kd.R_elder' (by (with_reducible repeat (first | apply Kd.R_alloc | apply Kd.R_drewN | apply Kd.R_drew)); exact HO178.out) (Kd.R_base ho0) hb); have n1_ := Aside0.mk (Kd.R_elder' (by (with_reducible repeat (first | apply Kd.R_alloc | apply Kd.R_drewN | apply Kd.R_drew)); exact HO181.out) (Kd.R_base ho0) hb); have n2_ := Aside0.mk (Kd.R_lower (Kd.R_new' (Kd.R_new' ho0 (Kd.R_lt (by (with_reducible repeat (first | apply Kd.R_alloc | apply Kd.R_drewN | apply Kd.R_drew)); exact HO178.out))) (Kd.R_lt (by (with_reducible repeat (first | apply Kd.R_alloc | apply Kd.R_drewN | apply Kd.R_drew)); exact HO181.out))) (below_size (by repeat (first | (with_reducible first | exact HB.out | apply below_alloc | apply pw_below_drewN | apply below_drew1) | exact HB.out)))); have n3_ := Aside0.mk (below_step (by repeat (first | (with_reducible first | exact HB.out | apply below_alloc | apply pw_below_drewN | apply below_drew1) | exact HB.out)) hb); clear HO178; clear HO181; clear HB; have HO178 := n0_; have HO181 := n1_; have HO184 := n2_; have HB := n3_; clear n0_ n1_ n2_ n3_; (try clear hb); (try clear hb2); (try clear hk); (try clear hi); (try clear ho0); obtain ⟨Ao76, co76, eo76⟩ := Kd.R_slice HO184.out; subst eo76) | ((with_reducible refine gate_callee (f := 11) rfl ?_); refine goesL_ (some 23) rfl rfl Try.func11 (by kernel_rfl) rfl #[.slice Ao76 t182.length co76, .int .i64 a1] rfl (by (try simp only [List.map_toArray, List.map_cons, List.map_nil]); first | done | rfl) ?_; (with_reducible refine (impl_LevelWeak.calls _ _ t182 a1 t185 _ ?side1 ?side2 A7.out).mono ?_); (case side1 => repeat (first | exact (Kd.R_reads' HO184.out).2.2 | (with_reducible refine Kd.C_alloc ?_ _) | (with_reducible refine Kd.C_drewN ?_ _) | (with_reducible refine Kd.C_drew ?_))); (case side2 => exact (Kd.R_reads' HO184.out).2.1); rintro e w77 ⟨v186, rfl, ho0, hb⟩; refine ⟨_, rfl, ?_⟩; have n0_ := Aside0.mk (Kd.R_elder' (by (with_reducible repeat (first | apply Kd.R_alloc | apply Kd.R_drewN | apply Kd.R_drew)); exact HO178.out) (Kd.R_base ho0) hb); have n1_ := Aside0.mk (Kd.R_elder' (by (with_reducible repeat (first | apply Kd.R_alloc | apply Kd.R_drewN | apply Kd.R_drew)); exact HO181.out) (Kd.R_base ho0) hb); have n2_ := Aside0.mk (Kd.R_elder' (by (with_reducible repeat (first | apply Kd.R_alloc | apply Kd.R_drewN | apply Kd.R_drew)); exact HO184.out) (Kd.R_base ho0) hb); have n3_ := Aside0.mk (Kd.R_lower (Kd.R_new' (Kd.R_new' (Kd.R_new' ho0 (Kd.R_lt (by (with_reducible repeat (first | apply Kd.R_alloc | apply Kd.R_drewN | apply Kd.R_drew)); exact HO178.out))) (Kd.R_lt (by (with_reducible repeat (first | apply Kd.R_alloc | apply Kd.R_drewN | apply Kd.R_drew)); exact HO181.out))) (Kd.R_lt (by (with_reducible repeat (first | apply Kd.R_alloc | apply Kd.R_drewN | apply Kd.R_drew)); exact HO184.out))) (below_size (by repeat (first | (with_reducible first | exact HB.out | apply below_alloc | apply pw_below_drewN | apply below_drew1) | exact HB.out)))); have n4_ := Aside0.mk (below_step (by repeat (first | (with_reducible first | exact HB.out | apply below_alloc | apply pw_below_drewN | apply below_drew1) | exact HB.out)) hb); clear HO178; clear HO181; clear HO184; clear HB; have HO178 := n0_; have HO181 := n1_; have HO184 := n2_; have HO187 := n3_; have HB := n4_; clear n0_ n1_ n2_ n3_ n4_; (try clear hb); (try clear hb2); (try clear hk); (try clear hi); (try clear ho0); obtain ⟨Ao78, co78, eo78⟩ := Kd.R_slice HO187.out; subst eo78; obtain ⟨Ao79, co79, eo79⟩ := Kd.R_slice HO181.out; subst eo79) | ((with_reducible refine gate_callee (f := 12) rfl ?_); refine goesL_ (some 26) rfl rfl Try.func12 (by kernel_rfl) rfl #[.slice Ao78 t185.length co78, .slice Ao79 t179.length co79] rfl (by (try simp only [List.map_toArray, List.map_cons, List.map_nil]); first | done | rfl) ?_; (with_reducible refine (laws_eqIntS.calls k _ _ t185 _ _ t179 false _ ?side1 ?side2 ?side3 ?side4 A8.out).mono ?_); (case side1 => repeat (first | exact (Kd.R_reads' HO187.out).2.2 | (with_reducible refine Kd.C_alloc ?_ _) | (with_reducible refine Kd.C_drewN ?_ _) | (with_reducible refine Kd.C_drew ?_))); (case side2 => exact (Kd.R_reads' HO187.out).2.1); (case side3 => repeat (first | exact (Kd.R_reads' HO181.out).2.2 | (with_reducible refine Kd.C_alloc ?_ _) | (with_reducible refine Kd.C_drewN ?_ _) | (with_reducible refine Kd.C_drew ?_))); (case side4 => exact (Kd.R_reads' HO181.out).2.1); rintro e w' ⟨rfl, ⟨nd, rfl⟩⟩; refine ⟨_, rfl, ?_⟩))
   go_ret; exact ⟨by first | rfl | (simp [errW_none, errW_some] <;> rfl) | (simp [*, errW_none, errW_some] <;> rfl), by repeat (first | (with_reducible first | exact HB.out | apply below_alloc | apply pw_below_drewN | apply below_drew1) | exact HB.out)⟩

/-- THE ONE PURE STATEMENT of laws_FnExactLevelWeak: yours. -/
def laws_FnExactLevelWeak.Pure : Prop := ∀ (l0 : List Int) (a1 : Int), l0.length ≤ maxLen → l0.length * 8 ≤ 140737488351232 → (∀ x ∈ l0, (Lit.int .i64 x).wf = true) → (Lit.int .i64 a1).wf = true → ∃ k, laws_FnExactLevelWeak.f k l0 a1 = some true
theorem laws_FnExactLevelWeak.walk (P : laws_FnExactLevelWeak.Pure) (a0 : Option Addr) (len0 cap0 : Nat) (z0 : List Int) (a1 : Int) (w : World) (w0 : (a0 = none ∧ len0 = 0 ∧ cap0 = 0 ∧ z0 = []) ∨ ∃ x, a0 = some x ∧ len0 ≤ cap0 ∧ cap0 ≤ maxLen ∧ z0.length = cap0 ∧ (∀ i, i < z0.length → w.cell? (x.add i) = some (.int .i64 (z0.getD i 0))) ∧ ∀ n ∈ z0, (Lit.int .i64 n).wf = true) (y0 : len0 * 8 ≤ 140737488351232) (w1 : (Lit.int .i64 a1).wf = true) :
  Calls Try.prog 3 #[.slice a0 len0 cap0, .int .i64 a1] w fun e w' => e = .returned (.bool true) ∧ Below w.heap.size w w' := by
 obtain ⟨l0, rfl, hr0, hm0, hw0, hc0⟩ := ReadsInt.ofRowC w0; obtain ⟨k, h⟩ := P l0 a1 hm0 y0 hw0 w1; refine (laws_FnExactLevelWeak.calls k _ _ l0 a1 true w (Kd.C_of_reads (d := (0 : Int)) (h1 := fun _ => rfl) hr0) hc0 h).mono ?_; rintro e w' ⟨rfl, hd⟩; exact ⟨rfl, hd⟩

end Go.Proofs.Ytojehfdioeglgaa.S

/- What the laws' own helpers answer: a copy, equality, a row written with 1, 2, 3 .., and whether it still holds that. -/
namespace Go.Proofs.Ytojehfdioeglgaa.Pure
open Go.RowKit Go.Proofs.Ytojehfdioeglgaa.S Go.Proofs.YtojehfdioeglgaaW.PrintWords Go.Proofs.YtojehfdioeglgaaW.PrintLast
theorem w64 {x : Int} (h0 : -9223372036854775808 ≤ x) (h1 : x ≤ 9223372036854775807) : wrap64 x = x := by
  unfold wrap64; omega
theorem rd_nat (l : List Int) (i : Nat) : rd l (i : Int) = l.getD i 0 := by simp [rd]
theorem rd_get {l : List Int} {i : Nat} (h : i < l.length) : rd l (i : Int) = l[i] := by simp [rd, List.getD_eq_getElem?_getD, h]
theorem copy_l (l : List Int) (hn : l.length ≤ 1099511627776) : ∀ (d k i : Nat), l.length - i = d → i ≤ l.length → d < k →
    laws_toIntS.l0 k l (l.take i ++ List.replicate (l.length - i) 0) (i : Int) = some l
  | 0, k, i, hd, hi, hk => by
    obtain ⟨k, rfl⟩ : ∃ m, k = m + 1 := ⟨k - 1, by omega⟩
    have e : i = l.length := by omega
    subst e
    rw [laws_toIntS.l0, if_neg (by omega)]
    simp
  | d + 1, k, i, hd, hi, hk => by
    obtain ⟨k, rfl⟩ : ∃ m, k = m + 1 := ⟨k - 1, by omega⟩
    have hlt : i < l.length := by omega
    rw [laws_toIntS.l0, if_pos (by omega), if_pos (by omega), if_pos (by simp; omega), w64 (by omega) (by omega)]
    have e : (l.take i ++ List.replicate (l.length - i) 0).set (i : Int).toNat (rd l i) = l.take (i + 1) ++ List.replicate (l.length - (i + 1)) 0 := by
      rw [Int.toNat_natCast, rd_get hlt, List.set_append_right _ _ (by simp; omega)]
      have h1 : i - (l.take i).length = 0 := by simp; omega
      rw [h1, show l.length - i = (l.length - (i + 1)) + 1 by omega, List.replicate_succ, List.set_cons_zero, List.take_succ_eq_append_getElem hlt, List.append_assoc]
      rfl
    rw [e]
    exact copy_l l hn d k (i + 1) (by omega) (by omega) (by omega)
theorem copy_p {l : List Int} {k : Nat} (hn : l.length ≤ 1099511627776) (hk : l.length < k) : laws_toIntS.f k l = some l := by
  unfold laws_toIntS.f
  rw [if_pos (by omega), if_pos (by omega)]
  simpa using copy_l l hn l.length k 0 (by omega) (by omega) hk
theorem eq_l (a b : List Int) (hab : a.length = b.length) (hn : a.length ≤ 1099511627776) : ∀ (d k i : Nat), a.length - i = d → i ≤ a.length → d < k →
    laws_eqIntS.l0 k a b (i : Int) = some (decide (a.drop i = b.drop i))
  | 0, k, i, hd, hi, hk => by
    obtain ⟨k, rfl⟩ : ∃ m, k = m + 1 := ⟨k - 1, by omega⟩
    have e : i = a.length := by omega
    subst e
    rw [laws_eqIntS.l0, if_neg (by omega), List.drop_length, hab, List.drop_length]
    simp
  | d + 1, k, i, hd, hi, hk => by
    obtain ⟨k, rfl⟩ : ∃ m, k = m + 1 := ⟨k - 1, by omega⟩
    have hlt : i < a.length := by omega
    have hlb : i < b.length := by omega
    rw [laws_eqIntS.l0, if_pos (by omega), if_pos (by omega), if_pos (by omega), w64 (by omega) (by omega), rd_get hlt, rd_get hlb, List.drop_eq_getElem_cons hlt, List.drop_eq_getElem_cons hlb]
    have := eq_l a b hab hn d k (i + 1) (by omega) (by omega) (by omega)
    rw [show ((i : Int) + 1) = ((i + 1 : Nat) : Int) by omega, this]
    by_cases h : a[i] = b[i]
    · rw [if_pos h, h]
      simp only [List.cons.injEq, true_and]
    · rw [if_neg h]
      simp only [List.cons.injEq, h, false_and, decide_false]
theorem eq_p {a b : List Int} {k : Nat} (hn : a.length ≤ 1099511627776) (hk : a.length < k) : laws_eqIntS.f k a b = some (decide (a = b)) := by
  unfold laws_eqIntS.f
  by_cases hab : a.length = b.length
  · rw [if_pos (by omega)]
    simpa using eq_l a b hab hn a.length k 0 (by omega) (by omega) hk
  · rw [if_neg (by omega)]
    simp only [Option.some.injEq]
    exact (decide_eq_false (fun h => hab (by rw [h]))).symm
/-- a, a + 1, .. : n of them. -/
def iota (a : Int) : Nat → List Int
  | 0 => []
  | n + 1 => a :: iota (a + 1) n
theorem iota_length : ∀ (n : Nat) (a : Int), (iota a n).length = n
  | 0, _ => rfl
  | n + 1, a => by simp [iota, iota_length n]
theorem mark_l : ∀ (d k i : Nat) (l : List Int) (a : Int), l.length ≤ 1099511627776 → -1099511627776 ≤ a → a ≤ 1099511627776 * 4 → a + d ≤ 1099511627776 * 4 → l.length - i = d → i ≤ l.length → d < k →
    laws_markIntS.l0 k l a (i : Int) = some (a + d, l.take i ++ iota a d)
  | 0, k, i, l, a, hn, h0, h1, h2, hd, hi, hk => by
    obtain ⟨k, rfl⟩ : ∃ m, k = m + 1 := ⟨k - 1, by omega⟩
    have e : i = l.length := by omega
    subst e
    rw [laws_markIntS.l0, if_neg (by omega)]
    simp [iota]
  | d + 1, k, i, l, a, hn, h0, h1, h2, hd, hi, hk => by
    obtain ⟨k, rfl⟩ : ∃ m, k = m + 1 := ⟨k - 1, by omega⟩
    have hlt : i < l.length := by omega
    rw [laws_markIntS.l0, if_pos (by omega), if_pos (by omega), w64 (x := (i : Int) + 1) (by omega) (by omega), w64 (by omega) (by omega), Int.toNat_natCast]
    have := mark_l d k (i + 1) (l.set i a) (a + 1) (by simpa using hn) (by omega) (by omega) (by omega) (by simp; omega) (by simp; omega) (by omega)
    rw [show ((i : Int) + 1) = ((i + 1 : Nat) : Int) by omega, this]
    simp only [Option.some.injEq, Prod.mk.injEq, iota]
    refine ⟨by omega, ?_⟩
    rw [List.take_succ_eq_append_getElem (by simpa using hlt)]
    simp [List.take_set_of_le]
theorem mark_p {l : List Int} {a : Int} {k : Nat} (hn : l.length ≤ 1099511627776) (h0 : -1099511627776 ≤ a) (h1 : a ≤ 1099511627776) (hk : l.length < k) : laws_markIntS.f k l a = some (a + l.length, iota a l.length) := by
  unfold laws_markIntS.f
  simpa using mark_l l.length k 0 l a hn h0 (by omega) (by omega) (by omega) (by omega) hk
theorem held_l : ∀ (d k i : Nat) (l : List Int) (a : Int), l.length ≤ 1099511627776 → -1099511627776 ≤ a → a + d ≤ 1099511627776 * 4 → l.length - i = d → i ≤ l.length → d < k → l.drop i = iota a d →
    laws_heldIntS.l0 k l a (i : Int) = some (a + d)
  | 0, k, i, l, a, hn, h0, h2, hd, hi, hk, he => by
    obtain ⟨k, rfl⟩ : ∃ m, k = m + 1 := ⟨k - 1, by omega⟩
    rw [laws_heldIntS.l0, if_neg (by omega)]
    simp
  | d + 1, k, i, l, a, hn, h0, h2, hd, hi, hk, he => by
    obtain ⟨k, rfl⟩ : ∃ m, k = m + 1 := ⟨k - 1, by omega⟩
    have hlt : i < l.length := by omega
    rw [List.drop_eq_getElem_cons hlt, iota] at he
    obtain ⟨e1, e2⟩ := List.cons.inj he
    rw [laws_heldIntS.l0, if_pos (by omega), if_pos (by omega), rd_get hlt, if_pos e1, w64 (x := (i : Int) + 1) (by omega) (by omega), w64 (by omega) (by omega)]
    have := held_l d k (i + 1) l (a + 1) hn (by omega) (by omega) (by omega) (by omega) (by omega) e2
    rw [show ((i : Int) + 1) = ((i + 1 : Nat) : Int) by omega, this]
    congr 1; omega
theorem held_p {n : Nat} {a : Int} {k : Nat} (hn : n ≤ 1099511627776) (h0 : -1099511627776 ≤ a) (h1 : a ≤ 1099511627776) (hk : n < k) : laws_heldIntS.f k (iota a n) a = some (a + n) := by
  unfold laws_heldIntS.f
  have hl := iota_length n a
  simpa using held_l n k 0 (iota a n) a (by omega) h0 (by omega) (by omega) (by omega) hk rfl
end Go.Proofs.Ytojehfdioeglgaa.Pure

/- The rules for figures and signs: the reference's loops are the program's rules. -/
namespace Go.Proofs.Ytojehfdioeglgaa.Pure
open Go.RowKit Go.Proofs.Ytojehfdioeglgaa.S Go.Proofs.YtojehfdioeglgaaW.PrintWords Go.Proofs.YtojehfdioeglgaaW.PrintLast
theorem l1In_w (a b c : Int) : spec_l1In.f a b c = some (decide (b ≤ a) && decide (a ≤ c)) := by
  unfold spec_l1In.f
  by_cases h : b ≤ a <;> simp [h]
def upR (f : List Int → Nat → List Int) (l : List Int) (i : Nat) : Nat → List Int
  | 0 => l
  | d + 1 => upR f (f l i) (i + 1) d
theorem upR_upTo (f : List Int → Nat → List Int) (l : List Int) (i : Nat) : ∀ d, upR f l i d = (match d with | 0 => l | d + 1 => upR f (f l i) (i + 1) d)
  | 0 => rfl
  | d + 1 => rfl
theorem upTo_add (f : List Int → Nat → List Int) (l : List Int) : ∀ (d i : Nat), upTo f l (i + d) = upR f (upTo f l i) i d
  | 0, i => rfl
  | d + 1, i => by
    rw [upR, show i + (d + 1) = (i + 1) + d by omega, upTo_add f l d (i + 1)]
    rfl
theorem upR_0 (f : List Int → Nat → List Int) (l : List Int) (n : Nat) : upR f l 0 n = upTo f l n := by
  have := upTo_add f l n 0
  rw [Nat.zero_add] at this
  rw [this]; rfl
theorem marksF_len (bf : Int) (l : List Int) (k : Nat) : (marksF bf l k).length = l.length := by unfold marksF; grind
theorem numbersF_len (l : List Int) (k : Nat) : (numbersF l k).length = l.length := by unfold numbersF; split <;> simp
theorem arabicF_len (l : List Int) (k : Nat) : (arabicF l k).length = l.length := by unfold arabicF; split <;> simp
theorem betweenF_len (l : List Int) (k : Nat) : (betweenF l k).length = l.length := by unfold betweenF; grind
theorem othersF_len (l : List Int) (k : Nat) : (othersF l k).length = l.length := by unfold othersF; split <;> simp
theorem plainF_len (bf : Int) (l : List Int) (k : Nat) : (plainF bf l k).length = l.length := by unfold plainF; grind
theorem rdG (l : List Int) (i : Nat) : rd l (i : Int) = l.getD i 0 := by simp [rd]
theorem wadd (i : Nat) (h : i < 1000000) : wrap64 ((i : Int) + 1) = ((i + 1 : Nat) : Int) := by rw [w64 (by omega) (by omega)]; omega
theorem wsub (i : Nat) (h : i < 1000000) (h0 : 0 < i) : wrap64 ((i : Int) - 1) = ((i - 1 : Nat) : Int) := by rw [w64 (by omega) (by omega)]; omega
theorem sopens_f (c : Int) : spec_l3Opens.f c = some (opensV c) := by
  unfold spec_l3Opens.f opensV
  rw [l1In_w, Option.bind_some]
  congr 1
  rw [Bool.eq_iff_iff]
  simp
  omega
theorem marks_l (bf : Int) : ∀ (d k i : Nat) (x : List Int), x.length ≤ 1000 → x.length - i = d → i ≤ x.length → d < k → spec_l3Marks.l0 k x bf (i : Int) = some (upR (marksF bf) x i d)
  | 0, k, i, x, hn, hd, hi, hk => by
    obtain ⟨k, rfl⟩ : ∃ m, k = m + 1 := ⟨k - 1, by omega⟩
    rw [spec_l3Marks.l0, if_neg (by omega)]; rfl
  | d + 1, k, i, x, hn, hd, hi, hk => by
    obtain ⟨k, rfl⟩ : ∃ m, k = m + 1 := ⟨k - 1, by omega⟩
    have ih := marks_l bf d k (i + 1) (marksF bf x i) (by rw [marksF_len]; omega) (by rw [marksF_len]; omega) (by rw [marksF_len]; omega) (by omega)
    rw [upR, ← ih, spec_l3Marks.l0, if_pos (by omega), if_pos (by omega), wadd i (by omega), Int.toNat_natCast, rdG]
    unfold marksF
    by_cases h1 : x.getD i 0 = 9
    · rw [if_pos h1, if_pos h1]
      by_cases h2 : i = 0
      · rw [if_pos (by omega), if_pos h2]
      · rw [if_neg (by omega), if_neg h2, wsub i (by omega) (by omega), if_pos (by omega), if_pos (by omega), rdG, sopens_f, Option.bind_some]
        split
        · rfl
        · split <;> rfl
    · rw [if_neg h1, if_neg h1]
theorem marks_p {bf : Int} {x : List Int} {k : Nat} (hn : x.length ≤ 1000) (hk : x.length < k) : spec_l3Marks.f k x bf = some (upTo (marksF bf) x x.length) := by
  unfold spec_l3Marks.f
  rw [← upR_0]
  exact marks_l bf x.length k 0 x hn (by omega) (by omega) hk
def strongS (x : List Int) (bf : Int) : Nat → Int
  | 0 => bf
  | m + 1 => if x.getD m 0 = 1 ∨ x.getD m 0 = 2 ∨ x.getD m 0 = 3 then x.getD m 0 else strongS x bf m
theorem strong_l (x : List Int) (bf : Int) (hn : x.length ≤ 1000) : ∀ (m k : Nat), m ≤ x.length → m < k → spec_l3Strong.l0 k x bf ((m : Int) - 1) = some (strongS x bf m)
  | 0, k, hm, hk => by
    obtain ⟨k, rfl⟩ : ∃ m, k = m + 1 := ⟨k - 1, by omega⟩
    rw [spec_l3Strong.l0, if_neg (by omega)]; rfl
  | m + 1, k, hm, hk => by
    obtain ⟨k, rfl⟩ : ∃ m, k = m + 1 := ⟨k - 1, by omega⟩
    have ih := strong_l x bf hn m k (by omega) (by omega)
    have e : ((m + 1 : Nat) : Int) - 1 = (m : Int) := by omega
    rw [spec_l3Strong.l0, e, if_pos (by omega), if_pos (by omega), if_pos (by omega), rdG, w64 (by omega) (by omega), ih, strongS]
    generalize x.getD m 0 = y
    grind
theorem strong_p {x : List Int} {bf : Int} {i k : Nat} (hn : x.length ≤ 1000) (hi : i < x.length) (hk : i + 1 < k) : spec_l3Strong.f k x (i : Int) bf = some (strongS x bf (i + 1)) := by
  unfold spec_l3Strong.f
  have := strong_l x bf hn (i + 1) k (by omega) hk
  rwa [show ((i + 1 : Nat) : Int) - 1 = (i : Int) by omega] at this
theorem strongV_iff (y : Int) : strongV y = true ↔ (y = 1 ∨ y = 2 ∨ y = 3) := by simp [strongV, sideV, or_assoc]
theorem strong_last (x : List Int) (bf : Int) : ∀ m, strongS x bf m = if lastV strongV x m = 0 then bf else lastV strongV x m
  | 0 => rfl
  | m + 1 => by
    have ih := strong_last x bf m
    have h := strongV_iff (x.getD m 0)
    rw [strongS, lastV]
    generalize x.getD m 0 = y at h
    grind
theorem last_side {x : List Int} : ∀ m, (∀ j, j < m → x.getD j 0 ≠ 3) → lastV strongV x m = lastV sideV x m
  | 0, _ => rfl
  | m + 1, h => by
    rw [lastV, lastV, last_side m (fun j hj => h j (by omega))]
    have h3 := h m (by omega)
    generalize x.getD m 0 = y at h3
    have : strongV y = sideV y := by simp [strongV, h3]
    rw [this]
theorem last_set (p : Int → Bool) (x : List Int) (i : Nat) (v : Int) : ∀ m, m ≤ i → lastV p (x.set i v) m = lastV p x m
  | 0, _ => rfl
  | m + 1, h => by
    rw [lastV, lastV, last_set p x i v m (by omega)]
    have : (x.set i v).getD m 0 = x.getD m 0 := by
      simp [List.getD_eq_getElem?_getD, List.getElem?_set, show i ≠ m by omega]
    rw [this]
/-- No letter of some is left. -/
def No3 (x : List Int) : Prop := ∀ j, x.getD j 0 ≠ 3
theorem getD_set (x : List Int) (i j : Nat) (v : Int) : (x.set i v).getD j 0 = if i = j ∧ j < x.length then v else x.getD j 0 := by
  simp only [List.getD_eq_getElem?_getD, List.getElem?_set]
  by_cases h : i = j
  · subst h
    by_cases h2 : i < x.length
    · simp [h2]
    · simp [h2]
  · simp [h]
theorem No3.set {x : List Int} (h : No3 x) (i : Nat) {v : Int} (hv : v ≠ 3) : No3 (x.set i v) := by
  intro j
  rw [getD_set]
  split
  · exact hv
  · exact h j
theorem plain_l (bf : Int) : ∀ (d k i : Nat) (x : List Int), x.length ≤ 1000 → No3 x → x.length - i = d → i ≤ x.length → d + 1002 < k → spec_l3Weak.l3 k bf x (i : Int) = some (upR (plainF bf) x i d)
  | 0, k, i, x, hn, h3, hd, hi, hk => by
    obtain ⟨k, rfl⟩ : ∃ m, k = m + 1 := ⟨k - 1, by omega⟩
    rw [spec_l3Weak.l3, if_neg (by omega)]; rfl
  | d + 1, k, i, x, hn, h3, hd, hi, hk => by
    obtain ⟨k, rfl⟩ : ∃ m, k = m + 1 := ⟨k - 1, by omega⟩
    have hN : No3 (plainF bf x i) := by
      unfold plainF
      repeat' split
      · exact h3.set i (by decide)
      · exact h3
      · exact h3
    have ih := plain_l bf d k (i + 1) (plainF bf x i) (by rw [plainF_len]; omega) hN (by rw [plainF_len]; omega) (by rw [plainF_len]; omega) (by omega)
    rw [upR, ← ih, spec_l3Weak.l3, if_pos (by omega), if_pos (by omega), wadd i (by omega), Int.toNat_natCast, rdG]
    unfold plainF
    by_cases h1 : x.getD i 0 = 4
    · rw [if_pos h1, if_pos h1, strong_p hn (by omega) (by omega), Option.bind_some, strongS, h1, if_neg (show ¬ ((4 : Int) = 1 ∨ (4 : Int) = 2 ∨ (4 : Int) = 3) by decide), strong_last, last_side i (fun j _ => h3 j)]
      generalize lastV sideV x i = v
      grind
    · rw [if_neg h1, if_neg h1]
theorem others_l (bf : Int) : ∀ (d k i : Nat) (x : List Int), x.length ≤ 1000 → No3 x → x.length - i = d → i ≤ x.length → d + 3002 < k → spec_l3Weak.l2 k bf x (i : Int) = some (upTo (plainF bf) (upR othersF x i d) x.length)
  | 0, k, i, x, hn, h3, hd, hi, hk => by
    obtain ⟨k, rfl⟩ : ∃ m, k = m + 1 := ⟨k - 1, by omega⟩
    rw [spec_l3Weak.l2, if_neg (by omega), ← upR_0]
    exact plain_l bf x.length k 0 x hn h3 (by omega) (by omega) (by omega)
  | d + 1, k, i, x, hn, h3, hd, hi, hk => by
    obtain ⟨k, rfl⟩ : ∃ m, k = m + 1 := ⟨k - 1, by omega⟩
    have hN : No3 (othersF x i) := by
      unfold othersF
      split
      · exact h3.set i (by decide)
      · exact h3
    have ih := others_l bf d k (i + 1) (othersF x i) (by rw [othersF_len]; omega) hN (by rw [othersF_len]; omega) (by rw [othersF_len]; omega) (by omega)
    rw [othersF_len] at ih
    rw [upR, ← ih, spec_l3Weak.l2, if_pos (by omega), if_pos (by omega), wadd i (by omega), Int.toNat_natCast, rdG, l1In_w, Option.bind_some]
    unfold othersF
    generalize x.getD i 0 = y
    grind
theorem between_l : ∀ (d k j : Nat) (x : List Int), x.length ≤ 1000 → x.length - 2 - j = d → j ≤ x.length → d < k → spec_l3Between.l0 k x ((j + 1 : Nat) : Int) = some (upR betweenF x j d)
  | 0, k, j, x, hn, hd, hi, hk => by
    obtain ⟨k, rfl⟩ : ∃ m, k = m + 1 := ⟨k - 1, by omega⟩
    rw [spec_l3Between.l0, wadd (j + 1) (by omega), if_neg (by omega)]; rfl
  | d + 1, k, j, x, hn, hd, hi, hk => by
    obtain ⟨k, rfl⟩ : ∃ m, k = m + 1 := ⟨k - 1, by omega⟩
    have ih := between_l d k (j + 1) (betweenF x j) (by rw [betweenF_len]; omega) (by rw [betweenF_len]; omega) (by rw [betweenF_len]; omega) (by omega)
    rw [upR, ← ih, spec_l3Between.l0, wadd (j + 1) (by omega), wsub (j + 1) (by omega) (by omega), if_pos (by omega), if_pos (by omega), if_pos (by omega), if_pos (by omega), rdG, rdG, Nat.add_sub_cancel, Int.toNat_natCast, rdG]
    unfold betweenF
    rw [if_pos (show 0 ≤ ((j + 1 : Nat) : Int) by omega), if_pos (show ((j + 1 : Nat) : Int) < (x.length : Int) by omega)]
    rw [show j + 1 + 1 = j + 2 from rfl]
    generalize x.getD j 0 = a, x.getD (j + 1) 0 = b, x.getD (j + 2) 0 = c
    grind
theorem between_p {x : List Int} {k : Nat} (hn : x.length ≤ 1000) (hk : x.length < k) : spec_l3Between.f k x = some (upTo betweenF x (x.length - 2)) := by
  unfold spec_l3Between.f
  rw [← upR_0]
  exact between_l (x.length - 2) k 0 x hn (by omega) (by omega) (by omega)
def pT : Int → Bool := fun c => c == 6
def qT : Int → Int → Option Int := fun a b => if a = 4 ∨ b = 4 then some 4 else none
theorem besideL_more (p : Int → Bool) (q : Int → Int → Option Int) : ∀ (k k' : Nat) (x : List Int) (i : Nat), x.length - i ≤ k → x.length - i ≤ k' → besideL p q k x i = besideL p q k' x i
  | 0, k', x, i, h, h' => by rw [besideL_end (by omega), besideL_end (by omega)]
  | k + 1, 0, x, i, h, h' => by rw [besideL_end (by omega), besideL_end (by omega)]
  | k + 1, k' + 1, x, i, h, h' => by
    by_cases hi : i < x.length
    · by_cases e : runE p x i = i
      · rw [besideL_one hi e, besideL_one hi e]
        exact besideL_more p q k k' x (i + 1) (by omega) (by omega)
      · have := runE_ge p x i
        rw [besideL_run hi e, besideL_run hi e]
        exact besideL_more p q k k' _ _ (by rw [subV_length]; omega) (by rw [subV_length]; omega)
    · rw [besideL_end hi, besideL_end hi]
def BT (x : List Int) (i : Nat) : List Int := besideL pT qT (x.length - i) x i
theorem BT_end {x : List Int} {i : Nat} (h : ¬ i < x.length) : BT x i = x := besideL_end h
theorem BT_one {x : List Int} {i : Nat} (h : i < x.length) (e : runE pT x i = i) : BT x i = BT x (i + 1) := by
  unfold BT
  rw [show x.length - i = (x.length - i - 1) + 1 by omega, besideL_one h e]
  exact besideL_more _ _ _ _ _ _ (by omega) (by omega)
theorem BT_run {x : List Int} {i : Nat} (h : i < x.length) (e : runE pT x i ≠ i) : BT x i = BT (subV qT x i (runE pT x i)) (runE pT x i) := by
  unfold BT
  have := runE_ge pT x i
  rw [show x.length - i = (x.length - i - 1) + 1 by omega, besideL_run h e]
  exact besideL_more _ _ _ _ _ _ (by rw [subV_length]; omega) (by rw [subV_length]; exact Nat.le_refl _)
theorem runE_eq {p : Int → Bool} {x : List Int} {i T : Nat} (h0 : i ≤ T) (h1 : T ≤ x.length) (ha : ∀ j, i ≤ j → j < T → p (x.getD j 0) = true) (hs : T < x.length → p (x.getD T 0) = false) : runE p x i = T := by
  have a1 := runE_ge p x i
  have a2 := runE_le (p := p) (l := x) (fr := i) (by omega)
  by_cases h : runE p x i < T
  · have := runE_stop (p := p) (l := x) (fr := i) (by omega)
    rw [ha _ a1 h] at this
    cases this
  · by_cases h' : T < runE p x i
    · have := runE_all (p := p) (l := x) (fr := i) h0 h'
      rw [hs (by omega)] at this
      cases this
    · omega
theorem runE_none {x : List Int} {i : Nat} (h : x.getD i 0 ≠ 6) (hi : i < x.length) : runE pT x i = i :=
  runE_eq (Nat.le_refl _) (by omega) (fun j a b => by omega) (fun _ => by simpa [pT] using h)
theorem fillV_get (x : List Int) (a : Nat) (v : Int) : ∀ (m j : Nat), a + m ≤ x.length → (fillV x a v m).getD j 0 = if a ≤ j ∧ j < a + m then v else x.getD j 0
  | 0, j, _ => by rw [fillV, if_neg (by omega)]
  | m + 1, j, h => by
    rw [fillV, getD_set, fillV_get x a v m j (by omega), fillV_length]
    by_cases e : a + m = j
    · rw [if_pos ⟨e, by omega⟩, if_pos (by omega)]
    · rw [if_neg (fun h => e h.1)]
      by_cases e2 : a ≤ j ∧ j < a + m
      · rw [if_pos e2, if_pos (by omega)]
      · rw [if_neg e2, if_neg (by omega)]
/-- Over what is none of them the search goes on one by one. -/
theorem BT_skip {x : List Int} : ∀ (d i : Nat), i + d ≤ x.length → (∀ j, i ≤ j → j < i + d → x.getD j 0 ≠ 6) → BT x i = BT x (i + d)
  | 0, i, _, _ => rfl
  | d + 1, i, h, ha => by
    rw [BT_one (by omega) (runE_none (ha i (by omega) (by omega)) (by omega)), BT_skip d (i + 1) (by omega) (fun j a b => ha j (by omega) (by omega))]
    congr 1; omega
theorem set_l2 (i T : Nat) : ∀ (d k j : Nat) (x : List Int), x.length ≤ 1000 → T - j = d → i ≤ j → j ≤ T → T ≤ x.length → d < k → i < x.length → ∃ k', k - d - 1 ≤ k' ∧ spec_l3Beside.l2 k x (i : Int) (T : Int) (j : Int) = spec_l3Beside.l0 k' (fillV x j 4 d) ((i + 1 : Nat) : Int)
  | 0, k, j, x, hn, hd, h0, h1, h2, hk, hi => by
    obtain ⟨k, rfl⟩ : ∃ m, k = m + 1 := ⟨k - 1, by omega⟩
    refine ⟨k, by omega, ?_⟩
    rw [spec_l3Beside.l2, if_neg (by omega), wadd i (by omega), fillV]
  | d + 1, k, j, x, hn, hd, h0, h1, h2, hk, hi => by
    obtain ⟨k, rfl⟩ : ∃ m, k = m + 1 := ⟨k - 1, by omega⟩
    obtain ⟨k', hk', e⟩ := set_l2 i T d k (j + 1) (x.set j 4) (by simpa using hn) (by omega) (by omega) (by omega) (by simpa using h2) (by omega) (by simpa using hi)
    refine ⟨k', by omega, ?_⟩
    rw [spec_l3Beside.l2, if_pos (by omega), if_pos (by omega), if_pos (by omega), wadd j (by omega), Int.toNat_natCast, e]
    congr 1
    apply List.ext_getElem
    · rw [fillV_length, fillV_length, List.length_set]
    · intro m a b
      have h1 := fillV_get (x.set j 4) (j + 1) 4 d m (by simp; omega)
      have h2 := fillV_get x j 4 (d + 1) m (by omega)
      rw [List.getD_eq_getElem?_getD, List.getElem?_eq_getElem a] at h1
      rw [List.getD_eq_getElem?_getD, List.getElem?_eq_getElem b] at h2
      simp only [Option.getD_some] at h1 h2
      rw [h1, h2, getD_set]
      grind
theorem run_l1 (i : Nat) (x : List Int) (T : Nat) (hn : x.length ≤ 1000) (hT : T ≤ x.length) (ha : ∀ j, i ≤ j → j < T → x.getD j 0 = 6) (hs : T < x.length → x.getD T 0 ≠ 6) : ∀ (d k j : Nat), T - j = d → i ≤ j → j ≤ T → d < k → ∃ k', k' = k - d - 1 ∧ spec_l3Beside.l1 k x (i : Int) (j : Int) = spec_l3Beside.j2 k' x (i : Int) (T : Int)
  | 0, k, j, hd, h0, h1, hk => by
    obtain ⟨k, rfl⟩ : ∃ m, k = m + 1 := ⟨k - 1, by omega⟩
    obtain rfl : j = T := by omega
    refine ⟨k, by omega, ?_⟩
    by_cases h : j < x.length
    · rw [spec_l3Beside.l1, if_pos (by omega), if_pos (by omega), rdG, if_neg (hs h)]
    · rw [spec_l3Beside.l1, if_neg (by omega)]
  | d + 1, k, j, hd, h0, h1, hk => by
    obtain ⟨k, rfl⟩ : ∃ m, k = m + 1 := ⟨k - 1, by omega⟩
    obtain ⟨k', hk', e⟩ := run_l1 i x T hn hT ha hs d k (j + 1) (by omega) (by omega) (by omega) (by omega)
    refine ⟨k', by omega, ?_⟩
    rw [spec_l3Beside.l1, if_pos (by omega), if_pos (by omega), rdG, if_pos (ha j h0 (by omega)), wadd j (by omega), e]
theorem beside_l : ∀ (d k i : Nat) (x : List Int), x.length ≤ 80 → x.length - i = d → i ≤ x.length → d * 200 + 2 < k → spec_l3Beside.l0 k x (i : Int) = some (BT x i)
  | 0, k, i, x, hn, hd, hi, hk => by
    obtain ⟨k, rfl⟩ : ∃ m, k = m + 1 := ⟨k - 1, by omega⟩
    rw [spec_l3Beside.l0, if_neg (by omega), BT_end (by omega)]
  | d + 1, k, i, x, hn, hd, hi, hk => by
    obtain ⟨k, rfl⟩ : ∃ m, k = m + 1 := ⟨k - 1, by omega⟩
    by_cases h6 : x.getD i 0 = 6
    · obtain ⟨T, hT⟩ : ∃ T, runE pT x i = T := ⟨_, rfl⟩
      have t0 := runE_ge pT x i
      have t1 := runE_le (p := pT) (l := x) (fr := i) hi
      have ta : ∀ j, i ≤ j → j < T → x.getD j 0 = 6 := fun j a b => by simpa [pT] using runE_all (p := pT) (l := x) (fr := i) a (by omega)
      have ts : T < x.length → x.getD T 0 ≠ 6 := fun h => by have := runE_stop (p := pT) (l := x) (fr := i) (by omega); rw [hT] at this; simpa [pT] using this
      rw [hT] at t0 t1
      have tl : i < T := by
        rcases Nat.lt_or_ge i T with h | h
        · exact h
        · have : T = i := by omega
          rw [this] at ts
          exact absurd h6 (ts (by omega))
      obtain ⟨k1, hk1, e1⟩ := run_l1 i x T (by omega) t1 ta ts (T - i) k i rfl (Nat.le_refl _) t0 (by omega)
      obtain ⟨k2, rfl⟩ : ∃ m, k1 = m + 1 := ⟨k1 - 1, by omega⟩
      obtain ⟨k3, rfl⟩ : ∃ m, k2 = m + 1 := ⟨k2 - 1, by omega⟩
      rw [spec_l3Beside.l0, if_pos (by omega), if_pos (by omega), rdG, if_pos h6, e1]
      have cond : spec_l3Beside.j2 (k3 + 1 + 1) x (i : Int) (T : Int) = spec_l3Beside.j3 (k3 + 1) x (i : Int) (T : Int) (decide ((if i = 0 then 0 else x.getD (i - 1) 0) = 4 ∨ (if T < x.length then x.getD T 0 else 0) = 4)) := by
        rw [spec_l3Beside.j2]
        by_cases hz : i = 0
        · rw [if_neg (by omega), if_pos hz]
          by_cases hl : T < x.length
          · rw [if_pos (by omega), if_pos (by omega), rdG, if_pos hl]
            congr 1
            rw [Bool.eq_iff_iff]; simp
          · rw [if_neg (by omega), if_neg hl]
            congr 1
        · rw [if_pos (by omega), wsub i (by omega) (by omega), if_pos (by omega), if_pos (by omega), rdG, if_neg hz]
          by_cases h4 : x.getD (i - 1) 0 = 4
          · rw [if_pos h4]
            congr 1
            rw [decide_eq_true (.inl h4)]
          · rw [if_neg h4]
            by_cases hl : T < x.length
            · rw [if_pos (by omega), if_pos (by omega), rdG, if_pos hl]
              congr 1
              rw [Bool.eq_iff_iff, beq_iff_eq, decide_eq_true_iff]
              exact ⟨fun h => .inr h, fun h => h.resolve_left h4⟩
            · rw [if_neg (by omega), if_neg hl]
              congr 1
              exact (decide_eq_false (by rintro (h | h); (exact h4 h); exact absurd h (by decide))).symm
      rw [cond, BT_run (by omega) (by omega), hT, spec_l3Beside.j3]
      unfold subV
      by_cases hc : (if i = 0 then 0 else x.getD (i - 1) 0) = 4 ∨ (if T < x.length then x.getD T 0 else 0) = 4
      · rw [decide_eq_true hc, if_pos rfl]
        simp only [qT, if_pos hc]
        obtain ⟨k4, hk4, e4⟩ := set_l2 i T (T - i) k3 i x (by omega) rfl (Nat.le_refl _) t0 t1 (by omega) (by omega)
        rw [e4, beside_l (d := d) k4 (i + 1) _ (by rw [fillV_length]; omega) (by rw [fillV_length]; omega) (by rw [fillV_length]; omega) (by omega)]
        congr 1
        have := BT_skip (x := fillV x i 4 (T - i)) (T - (i + 1)) (i + 1) (by rw [fillV_length]; omega) (fun j a b => by rw [fillV_get _ _ _ _ _ (by omega), if_pos (by omega)]; decide)
        rw [this]
        congr 1; omega
      · rw [decide_eq_false hc, if_neg (by simp)]
        simp only [qT, if_neg hc]
        rw [wadd i (by omega), beside_l (d := d) k3 (i + 1) x hn (by omega) (by omega) (by omega)]
        congr 1
        by_cases h1 : i + 1 = T
        · rw [h1]
        · have hr : runE pT x (i + 1) = T := runE_eq (by omega) t1 (fun j a b => by have := ta j (by omega) b; simpa [pT] using this) (fun h => by simpa [pT] using ts h)
          rw [BT_run (by omega) (by omega), hr]
          unfold subV
          rw [if_neg (by omega), Nat.add_sub_cancel, h6]
          simp only [qT]
          rw [if_neg (by rintro (h | h); (exact absurd h (by decide)); exact hc (.inr h))]
    · have ih := beside_l (d := d) k (i + 1) x hn (by omega) (by omega) (by omega)
      rw [spec_l3Beside.l0, if_pos (by omega), if_pos (by omega), rdG, if_neg h6, wadd i (by omega), ih, BT_one (by omega) (runE_none h6 (by omega))]
theorem beside_p {x : List Int} {k : Nat} (hn : x.length ≤ 80) (hk : 16002 < k) : spec_l3Beside.f k x = some (termsV x) := by
  unfold spec_l3Beside.f
  have := beside_l x.length k 0 x hn rfl (by omega) (by omega)
  exact this
theorem fillV_no3 {x : List Int} (h : No3 x) (a : Nat) {v : Int} (hv : v ≠ 3) : ∀ m, No3 (fillV x a v m)
  | 0 => h
  | m + 1 => (fillV_no3 h a hv m).set _ hv
theorem besideL_no3 : ∀ (k : Nat) (x : List Int) (i : Nat), No3 x → No3 (besideL pT qT k x i)
  | 0, x, i, h => h
  | k + 1, x, i, h => by
    rw [besideL]
    split
    · split
      · exact besideL_no3 k x (i + 1) h
      · refine besideL_no3 k _ _ ?_
        unfold subV
        split
        · rename_i v hv
          refine fillV_no3 h _ ?_ _
          simp only [qT] at hv
          grind
        · exact h
    · exact h
theorem besideL_len (p : Int → Bool) (q : Int → Int → Option Int) : ∀ (k : Nat) (x : List Int) (i : Nat), (besideL p q k x i).length = x.length
  | 0, x, i => rfl
  | k + 1, x, i => by
    rw [besideL]
    split
    · split
      · exact besideL_len p q k x (i + 1)
      · rw [besideL_len p q k, subV_length]
    · rfl
theorem termsV_no3 {x : List Int} (h : No3 x) : No3 (termsV x) := besideL_no3 _ _ _ h
theorem termsV_len (x : List Int) : (termsV x).length = x.length := besideL_len _ _ _ _ _
theorem arabic_get (x : List Int) : ∀ (m j : Nat), (upTo arabicF x m).getD j 0 = if j < m ∧ x.getD j 0 = 3 then 2 else x.getD j 0
  | 0, j => by rw [upTo, if_neg (by omega)]
  | m + 1, j => by
    have ih := arabic_get x m
    rw [upTo, arabicF]
    have hl : (upTo arabicF x m).length = x.length := lenF arabicF_len x m
    have hm := ih m
    rw [if_neg (by omega)] at hm
    by_cases h : x.getD m 0 = 3
    · rw [hm, if_pos h, getD_set, hl, ih j]
      by_cases e : m = j
      · subst e
        have : m < x.length := by
          rcases Nat.lt_or_ge m x.length with h' | h'
          · exact h'
          · rw [List.getD_eq_getElem?_getD, List.getElem?_eq_none h'] at h
            cases h
        rw [if_pos ⟨rfl, this⟩, if_pos ⟨by omega, h⟩]
      · rw [if_neg (fun h => e h.1)]
        by_cases e2 : j < m
        · grind
        · grind
    · rw [hm, if_neg h, ih j]
      by_cases e : m = j
      · subst e
        rw [if_neg (by omega), if_neg (fun h' => h h'.2)]
      · grind
theorem arabic_no3 (x : List Int) : No3 (upTo arabicF x x.length) := by
  intro j
  rw [arabic_get]
  by_cases h : j < x.length
  · grind
  · rw [if_neg (fun h' => h h'.1), List.getD_eq_getElem?_getD, List.getElem?_eq_none (by omega)]
    decide
theorem between_no3 {x : List Int} (h : No3 x) : ∀ m, No3 (upTo betweenF x m)
  | 0 => h
  | m + 1 => by
    have ih := between_no3 h m
    rw [upTo, betweenF]
    repeat' split
    · exact ih.set _ (by decide)
    · exact ih.set _ (by decide)
    · exact ih
    · exact ih
theorem arabic_l (bf : Int) : ∀ (d k i : Nat) (x : List Int), x.length ≤ 80 → x.length - i = d → i ≤ x.length → No3 (upR arabicF x i d) → d + 20002 < k → spec_l3Weak.l1 k bf x (i : Int) = some (upTo (plainF bf) (upTo othersF (termsV (upTo betweenF (upR arabicF x i d) (x.length - 2))) x.length) x.length)
  | 0, k, i, x, hn, hd, hi, h3, hk => by
    obtain ⟨k, rfl⟩ : ∃ m, k = m + 1 := ⟨k - 1, by omega⟩
    have l1 : (upTo betweenF x (x.length - 2)).length = x.length := lenF betweenF_len _ _
    have l2 : (termsV (upTo betweenF x (x.length - 2))).length = x.length := by rw [termsV_len, l1]
    rw [spec_l3Weak.l1, if_neg (by omega), between_p (by omega) (by omega), Option.bind_some, beside_p (by omega) (by omega), Option.bind_some]
    have h3' : No3 x := h3
    have := others_l bf x.length k 0 (termsV (upTo betweenF x (x.length - 2))) (by omega) (termsV_no3 (between_no3 h3' _)) (by omega) (by omega) (by omega)
    rw [l2, upR_0] at this
    exact this
  | d + 1, k, i, x, hn, hd, hi, h3, hk => by
    obtain ⟨k, rfl⟩ : ∃ m, k = m + 1 := ⟨k - 1, by omega⟩
    rw [upR] at h3 ⊢
    have ih := arabic_l bf d k (i + 1) (arabicF x i) (by rw [arabicF_len]; omega) (by rw [arabicF_len]; omega) (by rw [arabicF_len]; omega) h3 (by omega)
    rw [arabicF_len] at ih
    rw [← ih, spec_l3Weak.l1, if_pos (by omega), if_pos (by omega), wadd i (by omega), Int.toNat_natCast, rdG]
    unfold arabicF
    split <;> rfl
theorem numbers_l (bf : Int) (hb : bf = 1 ∨ bf = 2) : ∀ (d k i : Nat) (x : List Int), x.length ≤ 80 → x.length - i = d → i ≤ x.length → d + 22002 < k → spec_l3Weak.l0 k bf x (i : Int) = some (upTo (plainF bf) (upTo othersF (termsV (upTo betweenF (upTo arabicF (upR numbersF x i d) x.length) (x.length - 2))) x.length) x.length)
  | 0, k, i, x, hn, hd, hi, hk => by
    obtain ⟨k, rfl⟩ : ∃ m, k = m + 1 := ⟨k - 1, by omega⟩
    rw [spec_l3Weak.l0, if_neg (by omega)]
    have := arabic_l bf x.length k 0 x hn (by omega) (by omega) (by rw [upR_0]; exact arabic_no3 x) (by omega)
    rw [upR_0] at this
    exact this
  | d + 1, k, i, x, hn, hd, hi, hk => by
    obtain ⟨k, rfl⟩ : ∃ m, k = m + 1 := ⟨k - 1, by omega⟩
    have ih := numbers_l bf hb d k (i + 1) (numbersF x i) (by rw [numbersF_len]; omega) (by rw [numbersF_len]; omega) (by rw [numbersF_len]; omega) (by omega)
    rw [numbersF_len] at ih
    rw [upR, ← ih, spec_l3Weak.l0, if_pos (by omega), if_pos (by omega), wadd i (by omega), Int.toNat_natCast, rdG]
    unfold numbersF
    by_cases h1 : x.getD i 0 = 4
    · rw [if_pos h1, strong_p (by omega) (by omega) (by omega), Option.bind_some, strongS, h1, if_neg (show ¬ ((4 : Int) = 1 ∨ (4 : Int) = 2 ∨ (4 : Int) = 3) by decide), strong_last]
      generalize lastV strongV x i = v
      grind
    · rw [if_neg h1, if_neg (fun h => h1 h.1)]
theorem weak_p {bf : Int} {x : List Int} {k : Nat} (hb : bf = 1 ∨ bf = 2) (hn : x.length ≤ 80) (hk : 25000 < k) : spec_l3Weak.f k x bf = some (weakV bf x) := by
  unfold spec_l3Weak.f
  rw [Option.bind_some, if_pos (by simp; omega), List.nil_append, marks_p (by omega) (by omega), Option.bind_some]
  have l1 : (upTo (marksF bf) x x.length).length = x.length := lenF (marksF_len bf) _ _
  have := numbers_l bf hb x.length k 0 (upTo (marksF bf) x x.length) (by omega) (by omega) (by omega) (by omega)
  rw [l1, upR_0] at this
  exact this
theorem weakV_len (bf : Int) (x : List Int) : (weakV bf x).length = x.length := by
  unfold weakV
  rw [lenF (plainF_len bf), lenF othersF_len, termsV_len, lenF betweenF_len, lenF arabicF_len, lenF numbersF_len, lenF (marksF_len bf)]
theorem classes_l (l : List Int) (hn : l.length ≤ 1099511627776) : ∀ (d k i : Nat), l.length - i = d → i ≤ l.length → d < k →
    spec_l3Classes.l0 k l (i : Int) = some ((l.drop i).all clsOkV && decide (l.length ≤ 80))
  | 0, k, i, hd, hi, hk => by
    obtain ⟨k, rfl⟩ : ∃ m, k = m + 1 := ⟨k - 1, by omega⟩
    have e : i = l.length := by omega
    subst e
    rw [spec_l3Classes.l0, if_neg (by omega), List.drop_length]
    simp only [List.all_nil, Bool.true_and, Option.some.injEq, decide_eq_decide]
    omega
  | d + 1, k, i, hd, hi, hk => by
    obtain ⟨k, rfl⟩ : ∃ m, k = m + 1 := ⟨k - 1, by omega⟩
    have hlt : i < l.length := by omega
    rw [spec_l3Classes.l0, if_pos (by omega), if_pos (by omega), w64 (by omega) (by omega), rd_get hlt, l1In_w, Option.bind_some, List.drop_eq_getElem_cons hlt, List.all_cons]
    have := classes_l l hn d k (i + 1) (by omega) (by omega) (by omega)
    rw [show ((i : Int) + 1) = ((i + 1 : Nat) : Int) by omega, this]
    have e : (decide (1 ≤ l[i]) && decide (l[i] ≤ 22)) = clsOkV l[i] := rfl
    rw [e]
    cases clsOkV l[i] <;> simp
theorem classes_p {l : List Int} {k : Nat} (hn : l.length ≤ 1099511627776) (hk : l.length < k) : spec_l3Classes.f k l = some (classesOkV l) := by
  unfold spec_l3Classes.f
  have := classes_l l hn l.length k 0 (by omega) (by omega) hk
  rw [show ((0 : Nat) : Int) = 0 from rfl] at this
  rw [this, List.drop_zero, classesOkV, Bool.and_comm]
theorem sside_f (c : Int) : spec_l3Side.f c = some (sideV c) := by
  unfold spec_l3Side.f sideV
  by_cases h : c = 1
  · simp [h]
  · simp [h]
def levelWeakV (l : List Int) (bf : Int) : List Int := if classesOkV l = true ∧ sideV bf = true then weakV bf l else []
theorem levelWeakV_len (l : List Int) (bf : Int) : (levelWeakV l bf).length ≤ l.length := by
  unfold levelWeakV
  split
  · rw [weakV_len]; exact Nat.le_refl _
  · simp
theorem implLevelWeak_p (l : List Int) (bf : Int) : impl_LevelWeak.f l bf = some (levelWeakV l bf) := rfl
theorem specLevelWeak_p {l : List Int} {bf : Int} {k : Nat} (hn : l.length ≤ 1099511627776) (hk : l.length < k) (hk2 : 25000 < k) : spec_LevelWeak.f k l bf = some (levelWeakV l bf) := by
  unfold spec_LevelWeak.f levelWeakV
  rw [classes_p hn hk, Option.bind_some]
  by_cases h1 : classesOkV l = true
  · rw [if_pos h1, sside_f, Option.bind_some]
    by_cases h2 : sideV bf = true
    · have hl : l.length ≤ 80 := by
        simp [classesOkV] at h1; exact h1.1
      rw [if_pos h2, weak_p (by simpa [sideV] using h2) hl hk2, Option.bind_some, if_pos ⟨h1, h2⟩]
    · rw [if_neg h2, if_neg (fun h => h2 h.2)]
  · rw [if_neg h1, if_neg (fun h => h1 h.1)]
end Go.Proofs.Ytojehfdioeglgaa.Pure

/- The program's LevelWeak answers as the reference's, for every list of whole numbers and every side ahead; it writes into no argument and its answer is memory of its own. No condition beyond the statement's own. -/
namespace Go.Proofs.Ytojehfdioeglgaa.Pure
open Go.RowKit Go.Proofs.Ytojehfdioeglgaa.S Go.Proofs.YtojehfdioeglgaaW.PrintWords Go.Proofs.YtojehfdioeglgaaW.PrintLast
theorem FnExactLevelWeak : laws_FnExactLevelWeak.Pure := by
  intro l a _ _ _ _
  refine ⟨l.length + 30001, ?_⟩
  unfold laws_FnExactLevelWeak.f
  by_cases h : (l.length : Int) > 1048576
  · rw [if_pos h]
  · have hs := levelWeakV_len l a
    rw [if_neg h, copy_p (by omega) (by omega), Option.bind_some, specLevelWeak_p (by omega) (by omega) (by omega), Option.bind_some, Option.bind_some, implLevelWeak_p, Option.bind_some,
      eq_p (by omega) (by omega), Option.bind_some, decide_eq_true rfl, if_pos rfl, Option.bind_some, eq_p (by omega) (by omega), Option.bind_some, decide_eq_true rfl, if_pos rfl,
      mark_p (by omega) (by omega) (by omega) (by omega), Option.bind_some, if_neg (by simp; omega), Option.bind_some, laws_FnExactLevelWeak.j0, if_neg (by simp),
      mark_p (by omega) (by omega) (by omega) (by omega), Option.bind_some, held_p (by omega) (by omega) (by omega) (by omega), Option.bind_some, if_neg (by simp; omega), if_pos rfl,
      copy_p (by omega) (by omega), Option.bind_some, implLevelWeak_p, Option.bind_some, eq_p (by omega) (by omega), Option.bind_some, decide_eq_true rfl, if_pos rfl, Option.bind_some, if_neg (by simp; omega), if_pos rfl]
end Go.Proofs.Ytojehfdioeglgaa.Pure
