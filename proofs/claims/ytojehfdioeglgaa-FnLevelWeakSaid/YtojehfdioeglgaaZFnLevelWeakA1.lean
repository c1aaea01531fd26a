/- Behind the rules for figures and signs no letter of some, no sign and nothing that stands on others is left: of all drawn classes and sides, for every code. No condition beyond the statement's own. (text 2 of 4 of this claim: functions of the program and of the reference as plain Lean functions, what a call of each comes to, and what follows.) -/
import Derived.Test.YtojehfdioeglgaaZFnLevelWeakA0
namespace Go.Proofs.Ytojehfdioeglgaa.S
open Go.RowKit Go.Proofs.YtojehfdioeglgaaW.PrintWords Go.Proofs.YtojehfdioeglgaaW.PrintLast Go.Proofs.YtojehfdioeglgaaW.PrintMore
attribute [local go_sem] max2_int min2_int max_two min_two max_three min_three max_four min_four   -- for this text's walks alone
set_option linter.unusedVariables false
set_option linter.unusedSimpArgs false

/-! ### impl_weak_marks: function 35: weak.tpl -/
def upTo (f : List Int → Nat → List Int) (l : List Int) : Nat → List Int
  | 0 => l
  | k + 1 => f (upTo f l k) k
def lastV (p : Int → Bool) (l : List Int) : Nat → Int
  | 0 => 0
  | k + 1 => if p (l.getD k 0) = true then l.getD k 0 else lastV p l k
def opensV (c : Int) : Bool := c == 19 || c == 20 || c == 21
theorem opens_f (c : Int) : impl_opens.f c = some (opensV c) := by
  unfold impl_opens.f opensV
  by_cases h0 : c = 19
  · simp [h0]
  · by_cases h1 : c = 20
    · simp [h1]
    · simp [h0, h1]
def sideV (c : Int) : Bool := c == 1 || c == 2
theorem side_f (c : Int) : impl_isSide.f c = some (sideV c) := by
  unfold impl_isSide.f sideV
  by_cases h0 : c = 1
  · simp [h0]
  · simp [h0]
def strongV (c : Int) : Bool := sideV c || c == 3
def marksF (bf : Int) (l : List Int) (k : Nat) : List Int :=
  if l.getD k 0 = 9 then (if k = 0 then l.set k bf else if opensV (l.getD (k - 1) 0) = true then l.set k 13 else if l.getD (k - 1) 0 = 22 then l.set k 13 else l.set k (l.getD (k - 1) 0)) else l
def numbersF (l : List Int) (k : Nat) : List Int := if l.getD k 0 = 4 ∧ lastV strongV l k = 3 then l.set k 7 else l
def arabicF (l : List Int) (k : Nat) : List Int := if l.getD k 0 = 3 then l.set k 2 else l
def betweenF (l : List Int) (j : Nat) : List Int :=
  if l.getD j 0 = l.getD (j + 2) 0 then (if l.getD j 0 = 4 ∧ (l.getD (j + 1) 0 = 5 ∨ l.getD (j + 1) 0 = 8) then l.set (j + 1) 4 else if l.getD j 0 = 7 ∧ l.getD (j + 1) 0 = 8 then l.set (j + 1) 7 else l) else l
def termsV (l : List Int) : List Int := besideV (fun c => c == 6) (fun a b => if a = 4 ∨ b = 4 then some 4 else none) l
def othersF (l : List Int) (k : Nat) : List Int := if l.getD k 0 = 5 ∨ l.getD k 0 = 6 ∨ l.getD k 0 = 8 then l.set k 13 else l
def plainF (bf : Int) (l : List Int) (k : Nat) : List Int := if l.getD k 0 = 4 then (if lastV sideV l k = 1 ∨ lastV sideV l k = 0 ∧ bf = 1 then l.set k 1 else l) else l
def weakV (bf : Int) (l : List Int) : List Int :=
  let n := l.length
  upTo (plainF bf) (upTo othersF (termsV (upTo betweenF (upTo arabicF (upTo numbersF (upTo (marksF bf) l n) n) n) (n - 2))) n) n
def impl_LevelWeak.f (l0 : List Int) (a1 : Int) : Option (List Int) := some (if classesOkV l0 = true ∧ sideV a1 = true then weakV a1 l0 else [])
theorem blk_same {w w1 : World} {g gb : Nat} {o : Obj} (h : w.heap[gb]? = some o) (hg : w.grownBy w1 (some g)) (hne : gb ≠ g) : w1.heap[gb]? = some o := (hg.block gb (blk_lt h) (fun e => hne (by injection e))).trans h
theorem lenF {f : List Int → Nat → List Int} (hf : ∀ l k, (f l k).length = l.length) (l : List Int) : ∀ k, (upTo f l k).length = l.length
  | 0 => rfl
  | k + 1 => by rw [upTo, hf, lenF hf l k]
set_option maxHeartbeats 8000000 in
set_option maxRecDepth 100000 in
theorem lastOf_calls (p : Int → Bool) (f1 : Nat) (lb1 : Array Value) (eg1 : ∀ args w, (callFunc f1 args).run Try.prog w = .ok (.enter f1 args) w)
    (gb g n cap : Nat) (bf : Int) (l : List Int) (m : Nat) (base : Nat) (ok : Nat → Prop) (w : World) (hs : w.heap[gb]? = some (.cells #[.slice (some ⟨g, 0, none⟩) n cap, .int .i64 bf] 44 (0, 0))) (ho : Kd.R (Kd.int .i64) 3 w base ok (.slice (some ⟨g, 0, none⟩) n cap) l) (hm : m ≤ n) (hn : n ≤ 1000000)
    (hp : ∀ W x, Calls Try.prog f1 (#[.int .i64 x] ++ lb1) W fun e w' => e = .returned (.bool (p x)) ∧ Drawn0 W w') (r : Int) (hr : lastV p l m = r) :
    Calls Try.prog 64 #[.pointer (some ⟨gb, 0, none⟩), .int .i64 m, .func (.func f1) #[] lb1] w fun e w' => e = .returned (.int .i64 r) ∧ Drawn0 w w' := by
  subst hr
  have hc0 := (blk_cell hs 0).trans (show (#[.slice (some ⟨g, 0, none⟩) n cap, .int .i64 bf] : Array Value)[0]? = some (.slice (some ⟨g, 0, none⟩) n cap) from rfl)
  have HO := Aside0.mk ho
  have HC := Aside0.mk hc0
  have HP := Aside0.mk hp
  clear hs ho hp hc0
  go_enter Try.func64, Try.ntmps64
  go_wp2
  go_loopg [7] m (fun gg s7 wr => ∃ x : Int, s7 = .int .i64 x ∧ ∃ kk : Nat, Aside0 (x = (kk : Int) - 1) ∧ kk ≤ m ∧ kk ≤ gg ∧ Aside0 (Drawn0 w wr) ∧ Aside0 (lastV p l kk = lastV p l m))
  case atStart => exact ⟨_, rfl, m, ⟨rfl⟩, Nat.le_refl _, Nat.le_refl _, ⟨Drawn0.refl _⟩, ⟨rfl⟩⟩
  case round =>
    obtain ⟨x, rfl, kk, HX, hkk, hg, HD, HE⟩ := hrel
    obtain ⟨⟨nd, rfl⟩⟩ := HD.out
    have hx := HX.out
    cases kk with
    | zero =>
      obtain rfl : x = -1 := by omega
      clear hx
      go_wp2
      go_ret
      exact ⟨by rw [← HE.out]; rfl, ⟨⟨nd, rfl⟩⟩⟩
    | succ j =>
      obtain rfl : x = (j : Int) := by omega
      clear hx
      have hjn : (j : Int) < (n : Int) := by omega
      obtain ⟨hy, hf⟩ := Kd.R_celln 0 HO.out (j : Int) (by omega) hjn
      simp only [Int.toNat_natCast] at hy
      rw [show rdOf 0 l (j : Int) = l.getD j 0 by simp [rdOf]] at hy
      clear hf
      obtain ⟨y, hyy⟩ : ∃ y, l.getD j 0 = y := ⟨_, rfl⟩
      rw [hyy] at hy
      have HY := Aside0.mk hyy
      clear hyy
      have hc0 := HC.out
      have hj9 : j < 1000000 := by omega
      by_cases hq : p y = true
      · have hcall := HP.out (w.drewN nd) y
        rw [hq] at hcall
        have HQ := Aside0.mk hq
        clear hq
        go_wp2_with (go_at_fn f1; refine hcall.mono ?_; rintro e w' ⟨rfl, hb⟩; obtain ⟨⟨nd2, rfl⟩⟩ := hb)
        go_ret
        exact ⟨by rw [← HE.out, lastV, HY.out, if_pos HQ.out]; rfl, ⟨⟨_, rfl⟩⟩⟩
      · have hqf : p y = false := by simpa using hq
        have hcall := HP.out (w.drewN nd) y
        rw [hqf] at hcall
        have HQ := Aside0.mk hq
        clear hq hqf
        go_wp2_with (go_at_fn f1; refine hcall.mono ?_; rintro e w' ⟨rfl, hb⟩; obtain ⟨⟨nd2, rfl⟩⟩ := hb)
        go_roundg j
        case measure => omega
        case rel => exact ⟨_, rfl, j, ⟨rfl⟩, by omega, Nat.le_refl _, ⟨⟨⟨_, rfl⟩⟩⟩, ⟨by rw [← HE.out, lastV, HY.out, if_neg HQ.out]⟩⟩
--GENERATED
set_option maxHeartbeats 8000000 in
set_option maxRecDepth 100000 in

theorem numbers_1_calls (x : Int) (W : World) : Calls Try.prog 65 #[.int .i64 x] W fun e w' => e = .returned (.bool (strongV x)) ∧ Drawn0 W w' := by
  cases hs : sideV x with
  | true =>
    have e : strongV x = true := by simp [strongV, hs]
    have HE := Aside0.mk e
    have HC := Aside0.mk (show impl_isSide.f x = some true by rw [side_f, hs])
    clear e hs
    go_enter Try.func65, Try.ntmps65
    go_wp2_with (go_at_call 33; refine (impl_isSide.calls x true _ HC.out).mono ?_; rintro e w' ⟨rfl, ⟨nd, rfl⟩⟩)
    go_ret
    exact ⟨by rw [HE.out]; rfl, ⟨⟨_, rfl⟩⟩⟩
  | false =>
    have e : strongV x = (x == 3) := by simp [strongV, hs]
    have HE := Aside0.mk e
    have HC := Aside0.mk (show impl_isSide.f x = some false by rw [side_f, hs])
    clear e hs
    go_enter Try.func65, Try.ntmps65
    go_wp2_with (go_at_call 33; refine (impl_isSide.calls x false _ HC.out).mono ?_; rintro e w' ⟨rfl, ⟨nd, rfl⟩⟩)
    go_ret
    exact ⟨by rw [HE.out]; rfl, ⟨⟨_, rfl⟩⟩⟩
theorem sideC_calls (x : Int) (W : World) : Calls Try.prog 33 #[.int .i64 x] W fun e w' => e = .returned (.bool (sideV x)) ∧ Drawn0 W w' := impl_isSide.calls x (sideV x) W (side_f x)
set_option maxHeartbeats 8000000 in
set_option maxRecDepth 100000 in
theorem arabic_calls (gb g n cap : Nat) (A : Option Addr) (bf : Int) (l : List Int) (base : Nat) (ok : Nat → Prop) (w : World) (hs : w.heap[gb]? = some (.cells #[.slice A n cap, .int .i64 bf] 44 (0, 0))) (ho : Kd.R (Kd.int .i64) 3 w base ok (.slice A n cap) l) (hA : 0 < n → A = some ⟨g, 0, none⟩) (hgg : gb ≠ g) (hn : n ≤ 1000000) :
    Calls Try.prog 37 #[.pointer (some ⟨gb, 0, none⟩)] w fun e w' => e = .returned (.tuple #[]) ∧ Kd.R (Kd.int .i64) 3 w' base ok (.slice A n cap) (upTo (arabicF) l n) ∧ w.grownBy w' (some g) := by
  have hc0 := (blk_cell hs 0).trans (show (#[.slice A n cap, .int .i64 bf] : Array Value)[0]? = some (.slice A n cap) from rfl)
  have HS := Aside0.mk hs
  have HO := Aside0.mk ho
  have HA := Aside0.mk hA
  have HNL := Aside0.mk (Kd.R_reads' ho).1
  clear hs ho hA
  go_enter Try.func37, Try.ntmps37
  go_wp2
  clear hc0
  go_loopg [2, 3, 9] n (fun gg _ _ s9 wr => ∃ kk : Nat, s9 = .int .i64 (kk : Int) ∧ kk ≤ n ∧ n - kk ≤ gg ∧ Aside0 (Kd.R (Kd.int .i64) 3 wr base ok (.slice A n cap) (upTo (arabicF) l kk)) ∧ Aside0 (w.grownBy wr (some g)))
  case atStart => exact ⟨0, rfl, Nat.zero_le _, by omega, HO, ⟨grown_refl _ _⟩⟩
  case round =>
    clear HO
    obtain ⟨kk, rfl, hkk, hg, HO, HG⟩ := hrel
    have hc0 := (blk_cell (blk_same HS.out HG.out hgg) 0).trans (show (#[.slice A n cap, .int .i64 bf] : Array Value)[0]? = some (.slice A n cap) from rfl)
    by_cases hlt : kk < n
    · obtain rfl := HA.out (by omega)
      have hc1 := (blk_cell (blk_same HS.out HG.out hgg) 1).trans (show (#[.slice (some ⟨g, 0, none⟩) n cap, .int .i64 bf] : Array Value)[1]? = some (.int .i64 bf) from rfl)
      have HSR := Aside0.mk (blk_same HS.out HG.out hgg)
      obtain ⟨x, hx⟩ : ∃ x, upTo (arabicF) l kk = x := ⟨_, rfl⟩
      rw [hx] at HO
      have HX := Aside0.mk hx
      clear hx
      have hkn9 : kk < 1000000 := by omega
      have hltz : (kk : Int) < (n : Int) := by omega
      obtain ⟨hy, hfy⟩ := Kd.R_celln 0 HO.out ((kk : Int)) (by omega) (by omega)
      rw [show ((kk : Int)).toNat = kk by omega] at hy hfy
      rw [show rdOf 0 x ((kk : Int)) = x.getD (kk) 0 by simp only [rdOf]; rw [show ((kk : Int)).toNat = kk by omega]] at hy
      obtain ⟨y, hey⟩ : ∃ y, x.getD (kk) 0 = y := ⟨_, rfl⟩
      rw [hey] at hy
      have HY := Aside0.mk hey
      clear hey
      by_cases h1 : y = 3
      · subst h1
        have HF := Aside0.mk (show upTo arabicF l (kk + 1) = x.set kk 2 by rw [upTo, HX.out, arabicF, if_pos HY.out])
        go_wp2
        go_roundg (n - (kk + 1))
        case measure => omega
        case rel =>
          have hp := Kd.R_putg HO.out ((kk : Int)) 2
          rw [show ((kk : Int)).toNat = kk by omega] at hp
          exact ⟨kk + 1, by go_num, by omega, by omega, ⟨by rw [HF.out]; exact hp.1⟩, ⟨grown_then HG.out hp.2⟩⟩
      · have h1b : (y == 3) = false := beq_eq_false_iff_ne.mpr h1
        have HF := Aside0.mk (show upTo arabicF l (kk + 1) = x by rw [upTo, HX.out, arabicF, if_neg (by rw [HY.out]; exact h1)])
        clear h1
        go_wp2
        go_roundg (n - (kk + 1))
        case measure => omega
        case rel =>
          exact ⟨kk + 1, by go_num, by omega, by omega, ⟨by rw [HF.out]; exact HO.out⟩, HG⟩
    · have hltz : ¬ (kk : Int) < (n : Int) := by omega
      have e : kk = n := by omega
      have HE := Aside0.mk e
      clear e
      go_wp2
      go_end0
      exact ⟨rfl, by have h := HO.out; rw [HE.out] at h; exact h, HG.out⟩
set_option maxHeartbeats 8000000 in
set_option maxRecDepth 100000 in
theorem others_calls (gb g n cap : Nat) (A : Option Addr) (bf : Int) (l : List Int) (base : Nat) (ok : Nat → Prop) (w : World) (hs : w.heap[gb]? = some (.cells #[.slice A n cap, .int .i64 bf] 44 (0, 0))) (ho : Kd.R (Kd.int .i64) 3 w base ok (.slice A n cap) l) (hA : 0 < n → A = some ⟨g, 0, none⟩) (hgg : gb ≠ g) (hn : n ≤ 1000000) :
    Calls Try.prog 40 #[.pointer (some ⟨gb, 0, none⟩)] w fun e w' => e = .returned (.tuple #[]) ∧ Kd.R (Kd.int .i64) 3 w' base ok (.slice A n cap) (upTo (othersF) l n) ∧ w.grownBy w' (some g) := by
  have hc0 := (blk_cell hs 0).trans (show (#[.slice A n cap, .int .i64 bf] : Array Value)[0]? = some (.slice A n cap) from rfl)
  have HS := Aside0.mk hs
  have HO := Aside0.mk ho
  have HA := Aside0.mk hA
  have HNL := Aside0.mk (Kd.R_reads' ho).1
  clear hs ho hA
  go_enter Try.func40, Try.ntmps40
  go_wp2
  clear hc0
  go_loopg [2, 3, 9] n (fun gg _ _ s9 wr => ∃ kk : Nat, s9 = .int .i64 (kk : Int) ∧ kk ≤ n ∧ n - kk ≤ gg ∧ Aside0 (Kd.R (Kd.int .i64) 3 wr base ok (.slice A n cap) (upTo (othersF) l kk)) ∧ Aside0 (w.grownBy wr (some g)))
  case atStart => exact ⟨0, rfl, Nat.zero_le _, by omega, HO, ⟨grown_refl _ _⟩⟩
  case round =>
    clear HO
    obtain ⟨kk, rfl, hkk, hg, HO, HG⟩ := hrel
    have hc0 := (blk_cell (blk_same HS.out HG.out hgg) 0).trans (show (#[.slice A n cap, .int .i64 bf] : Array Value)[0]? = some (.slice A n cap) from rfl)
    by_cases hlt : kk < n
    · obtain rfl := HA.out (by omega)
      have hc1 := (blk_cell (blk_same HS.out HG.out hgg) 1).trans (show (#[.slice (some ⟨g, 0, none⟩) n cap, .int .i64 bf] : Array Value)[1]? = some (.int .i64 bf) from rfl)
      have HSR := Aside0.mk (blk_same HS.out HG.out hgg)
      obtain ⟨x, hx⟩ : ∃ x, upTo (othersF) l kk = x := ⟨_, rfl⟩
      rw [hx] at HO
      have HX := Aside0.mk hx
      clear hx
      have hkn9 : kk < 1000000 := by omega
      have hltz : (kk : Int) < (n : Int) := by omega
      obtain ⟨hy, hfy⟩ := Kd.R_celln 0 HO.out ((kk : Int)) (by omega) (by omega)
      rw [show ((kk : Int)).toNat = kk by omega] at hy hfy
      rw [show rdOf 0 x ((kk : Int)) = x.getD (kk) 0 by simp only [rdOf]; rw [show ((kk : Int)).toNat = kk by omega]] at hy
      obtain ⟨y, hey⟩ : ∃ y, x.getD (kk) 0 = y := ⟨_, rfl⟩
      rw [hey] at hy
      have HY := Aside0.mk hey
      clear hey
      by_cases h1 : y = 5 ∨ y = 6 ∨ y = 8
      · have HF := Aside0.mk (show upTo othersF l (kk + 1) = x.set kk 13 by rw [upTo, HX.out, othersF, if_pos (by rw [HY.out]; exact h1)])
        rcases h1 with rfl | rfl | rfl
        · skip
          go_wp2
          go_roundg (n - (kk + 1))
          case measure => omega
          case rel =>
            have hp := Kd.R_putg HO.out ((kk : Int)) 13
            rw [show ((kk : Int)).toNat = kk by omega] at hp
            exact ⟨kk + 1, by go_num, by omega, by omega, ⟨by rw [HF.out]; exact hp.1⟩, ⟨grown_then HG.out hp.2⟩⟩
        · skip
          go_wp2
          go_roundg (n - (kk + 1))
          case measure => omega
          case rel =>
            have hp := Kd.R_putg HO.out ((kk : Int)) 13
            rw [show ((kk : Int)).toNat = kk by omega] at hp
            exact ⟨kk + 1, by go_num, by omega, by omega, ⟨by rw [HF.out]; exact hp.1⟩, ⟨grown_then HG.out hp.2⟩⟩
        · skip
          go_wp2
          go_roundg (n - (kk + 1))
          case measure => omega
          case rel =>
            have hp := Kd.R_putg HO.out ((kk : Int)) 13
            rw [show ((kk : Int)).toNat = kk by omega] at hp
            exact ⟨kk + 1, by go_num, by omega, by omega, ⟨by rw [HF.out]; exact hp.1⟩, ⟨grown_then HG.out hp.2⟩⟩
      · have h5 : (y == 5) = false := beq_eq_false_iff_ne.mpr (fun e => h1 (.inl e))
        have h6 : (y == 6) = false := beq_eq_false_iff_ne.mpr (fun e => h1 (.inr (.inl e)))
        have h8 : (y == 8) = false := beq_eq_false_iff_ne.mpr (fun e => h1 (.inr (.inr e)))
        have HF := Aside0.mk (show upTo othersF l (kk + 1) = x by rw [upTo, HX.out, othersF, if_neg (by rw [HY.out]; exact h1)])
        clear h1
        go_wp2
        go_roundg (n - (kk + 1))
        case measure => omega
        case rel =>
          exact ⟨kk + 1, by go_num, by omega, by omega, ⟨by rw [HF.out]; exact HO.out⟩, HG⟩
    · have hltz : ¬ (kk : Int) < (n : Int) := by omega
      have e : kk = n := by omega
      have HE := Aside0.mk e
      clear e
      go_wp2
      go_end0
      exact ⟨rfl, by have h := HO.out; rw [HE.out] at h; exact h, HG.out⟩
set_option maxHeartbeats 8000000 in
set_option maxRecDepth 100000 in
theorem numbers_calls (gb g n cap : Nat) (A : Option Addr) (bf : Int) (l : List Int) (base : Nat) (ok : Nat → Prop) (w : World) (hs : w.heap[gb]? = some (.cells #[.slice A n cap, .int .i64 bf] 44 (0, 0))) (ho : Kd.R (Kd.int .i64) 3 w base ok (.slice A n cap) l) (hA : 0 < n → A = some ⟨g, 0, none⟩) (hgg : gb ≠ g) (hn : n ≤ 1000000) :
    Calls Try.prog 36 #[.pointer (some ⟨gb, 0, none⟩)] w fun e w' => e = .returned (.tuple #[]) ∧ Kd.R (Kd.int .i64) 3 w' base ok (.slice A n cap) (upTo (numbersF) l n) ∧ w.grownBy w' (some g) := by
  have hc0 := (blk_cell hs 0).trans (show (#[.slice A n cap, .int .i64 bf] : Array Value)[0]? = some (.slice A n cap) from rfl)
  have HS := Aside0.mk hs
  have HO := Aside0.mk ho
  have HA := Aside0.mk hA
  have HNL := Aside0.mk (Kd.R_reads' ho).1
  clear hs ho hA
  go_enter Try.func36, Try.ntmps36
  go_wp2
  clear hc0
  go_loopg [2, 3, 9] n (fun gg _ _ s9 wr => ∃ kk : Nat, s9 = .int .i64 (kk : Int) ∧ kk ≤ n ∧ n - kk ≤ gg ∧ Aside0 (Kd.R (Kd.int .i64) 3 wr base ok (.slice A n cap) (upTo (numbersF) l kk)) ∧ Aside0 (w.grownBy wr (some g)))
  case atStart => exact ⟨0, rfl, Nat.zero_le _, by omega, HO, ⟨grown_refl _ _⟩⟩
  case round =>
    clear HO
    obtain ⟨kk, rfl, hkk, hg, HO, HG⟩ := hrel
    have hc0 := (blk_cell (blk_same HS.out HG.out hgg) 0).trans (show (#[.slice A n cap, .int .i64 bf] : Array Value)[0]? = some (.slice A n cap) from rfl)
    by_cases hlt : kk < n
    · obtain rfl := HA.out (by omega)
      have hc1 := (blk_cell (blk_same HS.out HG.out hgg) 1).trans (show (#[.slice (some ⟨g, 0, none⟩) n cap, .int .i64 bf] : Array Value)[1]? = some (.int .i64 bf) from rfl)
      have HSR := Aside0.mk (blk_same HS.out HG.out hgg)
      obtain ⟨x, hx⟩ : ∃ x, upTo (numbersF) l kk = x := ⟨_, rfl⟩
      rw [hx] at HO
      have HX := Aside0.mk hx
      clear hx
      have hkn9 : kk < 1000000 := by omega
      have hltz : (kk : Int) < (n : Int) := by omega
      obtain ⟨hy, hfy⟩ := Kd.R_celln 0 HO.out ((kk : Int)) (by omega) (by omega)
      rw [show ((kk : Int)).toNat = kk by omega] at hy hfy
      rw [show rdOf 0 x ((kk : Int)) = x.getD (kk) 0 by simp only [rdOf]; rw [show ((kk : Int)).toNat = kk by omega]] at hy
      obtain ⟨y, hey⟩ : ∃ y, x.getD (kk) 0 = y := ⟨_, rfl⟩
      rw [hey] at hy
      have HY := Aside0.mk hey
      clear hey
      by_cases h1 : y = 4
      · subst h1
        obtain ⟨v, hv⟩ : ∃ v, lastV strongV x kk = v := ⟨_, rfl⟩
        have HLV := Aside0.mk hv
        clear hv
        by_cases h2 : v = 3
        · subst h2
          have HF := Aside0.mk (show upTo numbersF l (kk + 1) = x.set kk 7 by rw [upTo, HX.out, numbersF, if_pos ⟨HY.out, HLV.out⟩])
          go_wp2_with (go_at_call 64; refine (lastOf_calls strongV 65 #[] (fun _ _ => by kernel_rfl) gb g n cap bf x kk base ok _ HSR.out HO.out (by omega) hn (fun W z => numbers_1_calls z W) _ HLV.out).mono ?_; rintro e w' ⟨rfl, hb⟩; obtain ⟨⟨nd, rfl⟩⟩ := hb; have n0 := Aside0.mk (Kd.R_drewN HO.out nd); have n1 := Aside0.mk (grown_then HG.out (grown_of_below (pw_below_drewN (Below.refl wr.heap.size wr) nd) (some g))); clear HO HG; have HO := n0; have HG := n1; clear n0 n1)
          go_roundg (n - (kk + 1))
          case measure => omega
          case rel =>
            have hp := Kd.R_putg HO.out ((kk : Int)) 7
            rw [show ((kk : Int)).toNat = kk by omega] at hp
            exact ⟨kk + 1, by go_num, by omega, by omega, ⟨by rw [HF.out]; exact hp.1⟩, ⟨grown_then HG.out hp.2⟩⟩
        · have h2b : (v == 3) = false := beq_eq_false_iff_ne.mpr h2
          have HF := Aside0.mk (show upTo numbersF l (kk + 1) = x by rw [upTo, HX.out, numbersF, if_neg (by rw [HLV.out]; exact fun h => h2 h.2)])
          clear h2
          go_wp2_with (go_at_call 64; refine (lastOf_calls strongV 65 #[] (fun _ _ => by kernel_rfl) gb g n cap bf x kk base ok _ HSR.out HO.out (by omega) hn (fun W z => numbers_1_calls z W) _ HLV.out).mono ?_; rintro e w' ⟨rfl, hb⟩; obtain ⟨⟨nd, rfl⟩⟩ := hb; have n0 := Aside0.mk (Kd.R_drewN HO.out nd); have n1 := Aside0.mk (grown_then HG.out (grown_of_below (pw_below_drewN (Below.refl wr.heap.size wr) nd) (some g))); clear HO HG; have HO := n0; have HG := n1; clear n0 n1)
          go_roundg (n - (kk + 1))
          case measure => omega
          case rel =>
            exact ⟨kk + 1, by go_num, by omega, by omega, ⟨by rw [HF.out]; exact HO.out⟩, HG⟩
      · have h1b : (y == 4) = false := beq_eq_false_iff_ne.mpr h1
        have HF := Aside0.mk (show upTo numbersF l (kk + 1) = x by rw [upTo, HX.out, numbersF, if_neg (by rw [HY.out]; exact fun h => h1 h.1)])
        clear h1
        go_wp2
        go_roundg (n - (kk + 1))
        case measure => omega
        case rel =>
          exact ⟨kk + 1, by go_num, by omega, by omega, ⟨by rw [HF.out]; exact HO.out⟩, HG⟩
    · have hltz : ¬ (kk : Int) < (n : Int) := by omega
      have e : kk = n := by omega
      have HE := Aside0.mk e
      clear e
      go_wp2
      go_end0
      exact ⟨rfl, by have h := HO.out; rw [HE.out] at h; exact h, HG.out⟩
set_option maxHeartbeats 8000000 in
set_option maxRecDepth 100000 in
theorem plainNumbers_calls (gb g n cap : Nat) (A : Option Addr) (bf : Int) (l : List Int) (base : Nat) (ok : Nat → Prop) (w : World) (hs : w.heap[gb]? = some (.cells #[.slice A n cap, .int .i64 bf] 44 (0, 0))) (ho : Kd.R (Kd.int .i64) 3 w base ok (.slice A n cap) l) (hA : 0 < n → A = some ⟨g, 0, none⟩) (hgg : gb ≠ g) (hn : n ≤ 1000000) :
    Calls Try.prog 41 #[.pointer (some ⟨gb, 0, none⟩)] w fun e w' => e = .returned (.tuple #[]) ∧ Kd.R (Kd.int .i64) 3 w' base ok (.slice A n cap) (upTo (plainF bf) l n) ∧ w.grownBy w' (some g) := by
  have hc0 := (blk_cell hs 0).trans (show (#[.slice A n cap, .int .i64 bf] : Array Value)[0]? = some (.slice A n cap) from rfl)
  have HS := Aside0.mk hs
  have HO := Aside0.mk ho
  have HA := Aside0.mk hA
  have HNL := Aside0.mk (Kd.R_reads' ho).1
  clear hs ho hA
  go_enter Try.func41, Try.ntmps41
  go_wp2
  clear hc0
  go_loopg [2, 3, 4, 10] n (fun gg _ _ _ s9 wr => ∃ kk : Nat, s9 = .int .i64 (kk : Int) ∧ kk ≤ n ∧ n - kk ≤ gg ∧ Aside0 (Kd.R (Kd.int .i64) 3 wr base ok (.slice A n cap) (upTo (plainF bf) l kk)) ∧ Aside0 (w.grownBy wr (some g)))
  case atStart => exact ⟨0, rfl, Nat.zero_le _, by omega, HO, ⟨grown_refl _ _⟩⟩
  case round =>
    clear HO
    obtain ⟨kk, rfl, hkk, hg, HO, HG⟩ := hrel
    have hc0 := (blk_cell (blk_same HS.out HG.out hgg) 0).trans (show (#[.slice A n cap, .int .i64 bf] : Array Value)[0]? = some (.slice A n cap) from rfl)
    by_cases hlt : kk < n
    · obtain rfl := HA.out (by omega)
      have hc1 := (blk_cell (blk_same HS.out HG.out hgg) 1).trans (show (#[.slice (some ⟨g, 0, none⟩) n cap, .int .i64 bf] : Array Value)[1]? = some (.int .i64 bf) from rfl)
      have HSR := Aside0.mk (blk_same HS.out HG.out hgg)
      obtain ⟨x, hx⟩ : ∃ x, upTo (plainF bf) l kk = x := ⟨_, rfl⟩
      rw [hx] at HO
      have HX := Aside0.mk hx
      clear hx
      have hkn9 : kk < 1000000 := by omega
      have hltz : (kk : Int) < (n : Int) := by omega
      obtain ⟨hy, hfy⟩ := Kd.R_celln 0 HO.out ((kk : Int)) (by omega) (by omega)
      rw [show ((kk : Int)).toNat = kk by omega] at hy hfy
      rw [show rdOf 0 x ((kk : Int)) = x.getD (kk) 0 by simp only [rdOf]; rw [show ((kk : Int)).toNat = kk by omega]] at hy
      obtain ⟨y, hey⟩ : ∃ y, x.getD (kk) 0 = y := ⟨_, rfl⟩
      rw [hey] at hy
      have HY := Aside0.mk hey
      clear hey
      by_cases h1 : y = 4
      · subst h1
        obtain ⟨v, hv⟩ : ∃ v, lastV sideV x kk = v := ⟨_, rfl⟩
        have HLV := Aside0.mk hv
        clear hv
        by_cases h2 : v = 1
        · subst h2
          have HF := Aside0.mk (show upTo (plainF bf) l (kk + 1) = x.set kk 1 by rw [upTo, HX.out, plainF, if_pos HY.out, if_pos (.inl HLV.out)])
          go_wp2_with (go_at_call 64; refine (lastOf_calls sideV 33 #[] (fun _ _ => by kernel_rfl) gb g n cap bf x kk base ok _ HSR.out HO.out (by omega) hn (fun W z => sideC_calls z W) _ HLV.out).mono ?_; rintro e w' ⟨rfl, hb⟩; obtain ⟨⟨nd, rfl⟩⟩ := hb; have n0 := Aside0.mk (Kd.R_drewN HO.out nd); have n1 := Aside0.mk (grown_then HG.out (grown_of_below (pw_below_drewN (Below.refl wr.heap.size wr) nd) (some g))); clear HO HG; have HO := n0; have HG := n1; clear n0 n1)
          go_roundg (n - (kk + 1))
          case measure => omega
          case rel =>
            have hp := Kd.R_putg HO.out ((kk : Int)) 1
            rw [show ((kk : Int)).toNat = kk by omega] at hp
            exact ⟨kk + 1, by go_num, by omega, by omega, ⟨by rw [HF.out]; exact hp.1⟩, ⟨grown_then HG.out hp.2⟩⟩
        · have h2b : (v == 1) = false := beq_eq_false_iff_ne.mpr h2
          by_cases h3 : v = 0
          · subst h3
            by_cases h4 : bf = 1
            · have h4b : (bf == 1) = true := beq_iff_eq.mpr h4
              have HF := Aside0.mk (show upTo (plainF bf) l (kk + 1) = x.set kk 1 by rw [upTo, HX.out, plainF, if_pos HY.out, if_pos (.inr ⟨HLV.out, h4⟩)])
              clear h4 h2
              go_wp2_with (go_at_call 64; refine (lastOf_calls sideV 33 #[] (fun _ _ => by kernel_rfl) gb g n cap bf x kk base ok _ HSR.out HO.out (by omega) hn (fun W z => sideC_calls z W) _ HLV.out).mono ?_; rintro e w' ⟨rfl, hb⟩; obtain ⟨⟨nd, rfl⟩⟩ := hb; have n0 := Aside0.mk (Kd.R_drewN HO.out nd); have n1 := Aside0.mk (grown_then HG.out (grown_of_below (pw_below_drewN (Below.refl wr.heap.size wr) nd) (some g))); clear HO HG; have HO := n0; have HG := n1; clear n0 n1)
              go_roundg (n - (kk + 1))
              case measure => omega
              case rel =>
                have hp := Kd.R_putg HO.out ((kk : Int)) 1
                rw [show ((kk : Int)).toNat = kk by omega] at hp
                exact ⟨kk + 1, by go_num, by omega, by omega, ⟨by rw [HF.out]; exact hp.1⟩, ⟨grown_then HG.out hp.2⟩⟩
            · have h4b : (bf == 1) = false := beq_eq_false_iff_ne.mpr h4
              have HF := Aside0.mk (show upTo (plainF bf) l (kk + 1) = x by rw [upTo, HX.out, plainF, if_pos HY.out, if_neg (by rw [HLV.out]; rintro (h | h); (exact h2 h); exact h4 h.2)])
              clear h4 h2
              go_wp2_with (go_at_call 64; refine (lastOf_calls sideV 33 #[] (fun _ _ => by kernel_rfl) gb g n cap bf x kk base ok _ HSR.out HO.out (by omega) hn (fun W z => sideC_calls z W) _ HLV.out).mono ?_; rintro e w' ⟨rfl, hb⟩; obtain ⟨⟨nd, rfl⟩⟩ := hb; have n0 := Aside0.mk (Kd.R_drewN HO.out nd); have n1 := Aside0.mk (grown_then HG.out (grown_of_below (pw_below_drewN (Below.refl wr.heap.size wr) nd) (some g))); clear HO HG; have HO := n0; have HG := n1; clear n0 n1)
              go_roundg (n - (kk + 1))
              case measure => omega
              case rel =>
                exact ⟨kk + 1, by go_num, by omega, by omega, ⟨by rw [HF.out]; exact HO.out⟩, HG⟩
          · have h3b : (v == 0) = false := beq_eq_false_iff_ne.mpr h3
            have HF := Aside0.mk (show upTo (plainF bf) l (kk + 1) = x by rw [upTo, HX.out, plainF, if_pos HY.out, if_neg (by rw [HLV.out]; rintro (h | h); (exact h2 h); exact h3 h.1)])
            clear h3 h2
            go_wp2_with (go_at_call 64; refine (lastOf_calls sideV 33 #[] (fun _ _ => by kernel_rfl) gb g n cap bf x kk base ok _ HSR.out HO.out (by omega) hn (fun W z => sideC_calls z W) _ HLV.out).mono ?_; rintro e w' ⟨rfl, hb⟩; obtain ⟨⟨nd, rfl⟩⟩ := hb; have n0 := Aside0.mk (Kd.R_drewN HO.out nd); have n1 := Aside0.mk (grown_then HG.out (grown_of_below (pw_below_drewN (Below.refl wr.heap.size wr) nd) (some g))); clear HO HG; have HO := n0; have HG := n1; clear n0 n1)
            go_roundg (n - (kk + 1))
            case measure => omega
            case rel =>
              exact ⟨kk + 1, by go_num, by omega, by omega, ⟨by rw [HF.out]; exact HO.out⟩, HG⟩
      · have h1b : (y == 4) = false := beq_eq_false_iff_ne.mpr h1
        have h1c : (y != 4) = true := bne_iff_ne.mpr h1
        have HF := Aside0.mk (show upTo (plainF bf) l (kk + 1) = x by rw [upTo, HX.out, plainF, if_neg (by rw [HY.out]; exact h1)])
        clear h1
        go_wp2
        go_roundg (n - (kk + 1))
        case measure => omega
        case rel =>
          exact ⟨kk + 1, by go_num, by omega, by omega, ⟨by rw [HF.out]; exact HO.out⟩, HG⟩
    · have hltz : ¬ (kk : Int) < (n : Int) := by omega
      have e : kk = n := by omega
      have HE := Aside0.mk e
      clear e
      go_wp2
      go_end0
      exact ⟨rfl, by have h := HO.out; rw [HE.out] at h; exact h, HG.out⟩
set_option maxHeartbeats 8000000 in
set_option maxRecDepth 100000 in
theorem marks_calls (gb g n cap : Nat) (A : Option Addr) (bf : Int) (l : List Int) (base : Nat) (ok : Nat → Prop) (w : World) (hs : w.heap[gb]? = some (.cells #[.slice A n cap, .int .i64 bf] 44 (0, 0))) (ho : Kd.R (Kd.int .i64) 3 w base ok (.slice A n cap) l) (hA : 0 < n → A = some ⟨g, 0, none⟩) (hgg : gb ≠ g) (hn : n ≤ 1000000) :
    Calls Try.prog 35 #[.pointer (some ⟨gb, 0, none⟩)] w fun e w' => e = .returned (.tuple #[]) ∧ Kd.R (Kd.int .i64) 3 w' base ok (.slice A n cap) (upTo (marksF bf) l n) ∧ w.grownBy w' (some g) := by
  have hc0 := (blk_cell hs 0).trans (show (#[.slice A n cap, .int .i64 bf] : Array Value)[0]? = some (.slice A n cap) from rfl)
  have HS := Aside0.mk hs
  have HO := Aside0.mk ho
  have HA := Aside0.mk hA
  have HNL := Aside0.mk (Kd.R_reads' ho).1
  clear hs ho hA
  go_enter Try.func35, Try.ntmps35
  go_wp2
  clear hc0
  go_loopg [2, 3, 9] n (fun gg _ _ s9 wr => ∃ kk : Nat, s9 = .int .i64 (kk : Int) ∧ kk ≤ n ∧ n - kk ≤ gg ∧ Aside0 (Kd.R (Kd.int .i64) 3 wr base ok (.slice A n cap) (upTo (marksF bf) l kk)) ∧ Aside0 (w.grownBy wr (some g)))
  case atStart => exact ⟨0, rfl, Nat.zero_le _, by omega, HO, ⟨grown_refl _ _⟩⟩
  case round =>
    clear HO
    obtain ⟨kk, rfl, hkk, hg, HO, HG⟩ := hrel
    have hc0 := (blk_cell (blk_same HS.out HG.out hgg) 0).trans (show (#[.slice A n cap, .int .i64 bf] : Array Value)[0]? = some (.slice A n cap) from rfl)
    by_cases hlt : kk < n
    · obtain rfl := HA.out (by omega)
      have hc1 := (blk_cell (blk_same HS.out HG.out hgg) 1).trans (show (#[.slice (some ⟨g, 0, none⟩) n cap, .int .i64 bf] : Array Value)[1]? = some (.int .i64 bf) from rfl)
      have HSR := Aside0.mk (blk_same HS.out HG.out hgg)
      obtain ⟨x, hx⟩ : ∃ x, upTo (marksF bf) l kk = x := ⟨_, rfl⟩
      rw [hx] at HO
      have HX := Aside0.mk hx
      clear hx
      have hkn9 : kk < 1000000 := by omega
      have hltz : (kk : Int) < (n : Int) := by omega
      obtain ⟨hy, hfy⟩ := Kd.R_celln 0 HO.out ((kk : Int)) (by omega) (by omega)
      rw [show ((kk : Int)).toNat = kk by omega] at hy hfy
      rw [show rdOf 0 x ((kk : Int)) = x.getD (kk) 0 by simp only [rdOf]; rw [show ((kk : Int)).toNat = kk by omega]] at hy
      obtain ⟨y, hey⟩ : ∃ y, x.getD (kk) 0 = y := ⟨_, rfl⟩
      rw [hey] at hy
      have HY := Aside0.mk hey
      clear hey
      by_cases h1 : y = 9
      · subst h1
        by_cases h2 : kk = 0
        · subst h2
          have HF := Aside0.mk (show upTo (marksF bf) l (0 + 1) = x.set 0 bf by rw [upTo, HX.out, marksF, if_pos HY.out, if_pos rfl])
          go_wp2
          go_region
          go_wp2
          go_roundg (n - (0 + 1))
          case measure => omega
          case rel =>
            have hp := Kd.R_putg (Kd.R_drewN HO.out 1) (((0 : Nat) : Int)) bf
            rw [show (((0 : Nat) : Int)).toNat = 0 by omega] at hp
            exact ⟨0 + 1, by go_num, by omega, by omega, ⟨by rw [HF.out]; exact hp.1⟩, ⟨grown_then HG.out (grown_then (grown_of_below (pw_below_drewN (Below.refl _ _) 1) (some g)) hp.2)⟩⟩
        · have h2b : ((kk : Int) == 0) = false := beq_eq_false_iff_ne.mpr (by omega)
          obtain ⟨hz, hfz⟩ := Kd.R_celln 0 HO.out ((kk : Int) - 1) (by omega) (by omega)
          rw [show ((kk : Int) - 1).toNat = kk - 1 by omega] at hz hfz
          rw [show rdOf 0 x ((kk : Int) - 1) = x.getD (kk - 1) 0 by simp only [rdOf]; rw [show ((kk : Int) - 1).toNat = kk - 1 by omega]] at hz
          obtain ⟨z, hez⟩ : ∃ y, x.getD (kk - 1) 0 = y := ⟨_, rfl⟩
          rw [hez] at hz
          have HZ := Aside0.mk hez
          clear hez
          have hw1 : IntKind.i64.wrap ((kk : Int) - 1) = (kk : Int) - 1 := IntWalk.i64_in _ (by omega)
          have hw2 : ((kk : Int) - 1).toNat = kk - 1 := by omega
          have hw3 : 0 ≤ (kk : Int) - 1 := by omega
          have hw4 : (kk : Int) - 1 < (n : Int) := by omega
          cases h3 : opensV z with
          | true =>
            have HOP := Aside0.mk (show impl_opens.f z = some true by rw [opens_f, h3])
            have HF := Aside0.mk (show upTo (marksF bf) l (kk + 1) = x.set kk 13 by rw [upTo, HX.out, marksF, if_pos HY.out, if_neg h2, if_pos (by rw [HZ.out]; exact h3)])
            clear h3 h2
            go_wp2_with (go_at_call 63; refine (impl_opens.calls z true _ HOP.out).mono ?_; rintro e w' ⟨rfl, ⟨nd, rfl⟩⟩; have n0 := Aside0.mk (Kd.R_drewN HO.out nd); have n1 := Aside0.mk (grown_then HG.out (grown_of_below (pw_below_drewN (Below.refl wr.heap.size wr) nd) (some g))); clear HO HG; have HO := n0; have HG := n1; clear n0 n1)
            go_roundg (n - (kk + 1))
            case measure => omega
            case rel =>
              have hp := Kd.R_putg HO.out ((kk : Int)) 13
              rw [show ((kk : Int)).toNat = kk by omega] at hp
              exact ⟨kk + 1, by go_num, by omega, by omega, ⟨by rw [HF.out]; exact hp.1⟩, ⟨grown_then HG.out hp.2⟩⟩
          | false =>
            have HOP := Aside0.mk (show impl_opens.f z = some false by rw [opens_f, h3])
            by_cases h4 : z = 22
            · subst h4
              have HF := Aside0.mk (show upTo (marksF bf) l (kk + 1) = x.set kk 13 by rw [upTo, HX.out, marksF, if_pos HY.out, if_neg h2, if_neg (by rw [HZ.out, h3]; simp), if_pos HZ.out])
              clear h3 h2
              go_wp2_with (go_at_call 63; refine (impl_opens.calls 22 false _ HOP.out).mono ?_; rintro e w' ⟨rfl, ⟨nd, rfl⟩⟩; have n0 := Aside0.mk (Kd.R_drewN HO.out nd); have n1 := Aside0.mk (grown_then HG.out (grown_of_below (pw_below_drewN (Below.refl wr.heap.size wr) nd) (some g))); clear HO HG; have HO := n0; have HG := n1; clear n0 n1)
              go_roundg (n - (kk + 1))
              case measure => omega
              case rel =>
                have hp := Kd.R_putg HO.out ((kk : Int)) 13
                rw [show ((kk : Int)).toNat = kk by omega] at hp
                exact ⟨kk + 1, by go_num, by omega, by omega, ⟨by rw [HF.out]; exact hp.1⟩, ⟨grown_then HG.out hp.2⟩⟩
            · have h4b : (z == 22) = false := beq_eq_false_iff_ne.mpr h4
              have HF := Aside0.mk (show upTo (marksF bf) l (kk + 1) = x.set kk z by rw [upTo, HX.out, marksF, if_pos HY.out, if_neg h2, if_neg (by rw [HZ.out, h3]; simp), if_neg (by rw [HZ.out]; exact h4), HZ.out])
              clear h3 h2 h4
              go_wp2_with (go_at_call 63; refine (impl_opens.calls z false _ HOP.out).mono ?_; rintro e w' ⟨rfl, ⟨nd, rfl⟩⟩; have n0 := Aside0.mk (Kd.R_drewN HO.out nd); have n1 := Aside0.mk (grown_then HG.out (grown_of_below (pw_below_drewN (Below.refl wr.heap.size wr) nd) (some g))); clear HO HG; have HO := n0; have HG := n1; clear n0 n1)
              go_region
              go_wp2
              go_roundg (n - (kk + 1))
              case measure => omega
              case rel =>
                have hp := Kd.R_putg (Kd.R_drewN HO.out 1) ((kk : Int)) z
                rw [show ((kk : Int)).toNat = kk by omega] at hp
                exact ⟨kk + 1, by go_num, by omega, by omega, ⟨by rw [HF.out]; exact hp.1⟩, ⟨grown_then HG.out (grown_then (grown_of_below (pw_below_drewN (Below.refl _ _) 1) (some g)) hp.2)⟩⟩
      · have h1b : (y != 9) = true := bne_iff_ne.mpr h1
        have h1c : (y == 9) = false := beq_eq_false_iff_ne.mpr h1
        have HF := Aside0.mk (show upTo (marksF bf) l (kk + 1) = x by rw [upTo, HX.out, marksF, if_neg (by rw [HY.out]; exact h1)])
        clear h1
        go_wp2
        go_roundg (n - (kk + 1))
        case measure => omega
        case rel =>
          exact ⟨kk + 1, by go_num, by omega, by omega, ⟨by rw [HF.out]; exact HO.out⟩, HG⟩
    · have hltz : ¬ (kk : Int) < (n : Int) := by omega
      have e : kk = n := by omega
      have HE := Aside0.mk e
      clear e
      go_wp2
      go_end0
      exact ⟨rfl, by have h := HO.out; rw [HE.out] at h; exact h, HG.out⟩
set_option maxHeartbeats 8000000 in
set_option maxRecDepth 100000 in
theorem between_calls (gb g n cap : Nat) (A : Option Addr) (bf : Int) (l : List Int) (base : Nat) (ok : Nat → Prop) (w : World) (hs : w.heap[gb]? = some (.cells #[.slice A n cap, .int .i64 bf] 44 (0, 0))) (ho : Kd.R (Kd.int .i64) 3 w base ok (.slice A n cap) l) (hA : 0 < n → A = some ⟨g, 0, none⟩) (hgg : gb ≠ g) (hn : n ≤ 1000000) :
    Calls Try.prog 38 #[.pointer (some ⟨gb, 0, none⟩)] w fun e w' => e = .returned (.tuple #[]) ∧ Kd.R (Kd.int .i64) 3 w' base ok (.slice A n cap) (upTo (betweenF) l (n - 2)) ∧ w.grownBy w' (some g) := by
  have hc0 := (blk_cell hs 0).trans (show (#[.slice A n cap, .int .i64 bf] : Array Value)[0]? = some (.slice A n cap) from rfl)
  have HS := Aside0.mk hs
  have HO := Aside0.mk ho
  have HA := Aside0.mk hA
  have HNL := Aside0.mk (Kd.R_reads' ho).1
  clear hs ho hA
  go_enter Try.func38, Try.ntmps38
  go_wp2
  clear hc0
  go_loopg [2, 3, 4, 5] n (fun gg s9 _ _ _ wr => ∃ kk : Nat, s9 = .int .i64 ((kk : Int) + 1) ∧ kk ≤ (n - 2) ∧ (n - 2) - kk ≤ gg ∧ Aside0 (Kd.R (Kd.int .i64) 3 wr base ok (.slice A n cap) (upTo (betweenF) l kk)) ∧ Aside0 (w.grownBy wr (some g)))
  case atStart => exact ⟨0, rfl, Nat.zero_le _, by omega, HO, ⟨grown_refl _ _⟩⟩
  case round =>
    clear HO
    obtain ⟨kk, rfl, hkk, hg, HO, HG⟩ := hrel
    have hc0 := (blk_cell (blk_same HS.out HG.out hgg) 0).trans (show (#[.slice A n cap, .int .i64 bf] : Array Value)[0]? = some (.slice A n cap) from rfl)
    by_cases hlt : kk < (n - 2)
    · obtain rfl := HA.out (by omega)
      have hc1 := (blk_cell (blk_same HS.out HG.out hgg) 1).trans (show (#[.slice (some ⟨g, 0, none⟩) n cap, .int .i64 bf] : Array Value)[1]? = some (.int .i64 bf) from rfl)
      have HSR := Aside0.mk (blk_same HS.out HG.out hgg)
      obtain ⟨x, hx⟩ : ∃ x, upTo (betweenF) l kk = x := ⟨_, rfl⟩
      rw [hx] at HO
      have HX := Aside0.mk hx
      clear hx
      have hkn9 : kk < 1000000 := by omega
      obtain ⟨ha, hfa⟩ := Kd.R_celln 0 HO.out ((kk : Int)) (by omega) (by omega)
      rw [show ((kk : Int)).toNat = kk by omega] at ha hfa
      rw [show rdOf 0 x ((kk : Int)) = x.getD (kk) 0 by simp only [rdOf]; rw [show ((kk : Int)).toNat = kk by omega]] at ha
      obtain ⟨a, hea⟩ : ∃ y, x.getD (kk) 0 = y := ⟨_, rfl⟩
      rw [hea] at ha
      have HA := Aside0.mk hea
      clear hea
      obtain ⟨hy, hfy⟩ := Kd.R_celln 0 HO.out (((kk + 1 : Nat) : Int)) (by omega) (by omega)
      rw [show (((kk + 1 : Nat) : Int)).toNat = kk + 1 by omega] at hy hfy
      rw [show rdOf 0 x (((kk + 1 : Nat) : Int)) = x.getD (kk + 1) 0 by simp only [rdOf]; rw [show (((kk + 1 : Nat) : Int)).toNat = kk + 1 by omega]] at hy
      obtain ⟨y, hey⟩ : ∃ y, x.getD (kk + 1) 0 = y := ⟨_, rfl⟩
      rw [hey] at hy
      have HY := Aside0.mk hey
      clear hey
      obtain ⟨hb, hfb⟩ := Kd.R_celln 0 HO.out (((kk + 2 : Nat) : Int)) (by omega) (by omega)
      rw [show (((kk + 2 : Nat) : Int)).toNat = kk + 2 by omega] at hb hfb
      rw [show rdOf 0 x (((kk + 2 : Nat) : Int)) = x.getD (kk + 2) 0 by simp only [rdOf]; rw [show (((kk + 2 : Nat) : Int)).toNat = kk + 2 by omega]] at hb
      obtain ⟨b, heb⟩ : ∃ y, x.getD (kk + 2) 0 = y := ⟨_, rfl⟩
      rw [heb] at hb
      have HB := Aside0.mk heb
      clear heb
      have hw1 : IntKind.i64.wrap ((kk : Int) + 1 - 1) = (kk : Int) := by rw [IntWalk.i64_in _ (by omega)]; omega
      have hw1b : (kk : Int) + 1 - 1 = (kk : Int) := by omega
      have hw2 : IntKind.i64.wrap ((kk : Int) + 1 + 1) = (kk : Int) + 2 := by rw [IntWalk.i64_in _ (by omega)]; omega
      have hw2b : (kk : Int) + 1 + 1 = (kk : Int) + 2 := by omega
      have hw3 : ((kk : Int) + 1).toNat = kk + 1 := by omega
      have hw4 : ((kk : Int) + 2).toNat = kk + 2 := by omega
      have hl0 : (kk : Int) < (n : Int) := by omega
      have hl1 : (kk : Int) + 1 < (n : Int) := by omega
      have hl2 : (kk : Int) + 2 < (n : Int) := by omega
      have hp1 : 0 ≤ (kk : Int) + 1 := by omega
      have hp2 : 0 ≤ (kk : Int) + 2 := by omega
      by_cases h1 : a = b
      · subst h1
        by_cases h2 : a = 4
        · subst h2
          by_cases h3 : y = 5
          · subst h3
            have HF := Aside0.mk (show upTo betweenF l (kk + 1) = x.set (kk + 1) 4 by rw [upTo, HX.out, betweenF, if_pos (by rw [HA.out, HB.out]), if_pos ⟨HA.out, .inl HY.out⟩])
            go_wp2
            go_quiet (fail)
            go_wp2
            go_roundg (n - 2 - (kk + 1))
            case measure => omega
            case rel =>
              have hp := Kd.R_putg (Kd.R_drewN HO.out nq) ((kk + 1 : Nat) : Int) 4
              rw [show ((kk + 1 : Nat) : Int).toNat = kk + 1 by omega] at hp
              exact ⟨kk + 1, by go_num, by omega, by omega, ⟨by rw [HF.out]; exact hp.1⟩, ⟨grown_then HG.out (grown_then (grown_of_below (pw_below_drewN (Below.refl _ _) _) (some g)) hp.2)⟩⟩
          · by_cases h4 : y = 8
            · subst h4
              have HF := Aside0.mk (show upTo betweenF l (kk + 1) = x.set (kk + 1) 4 by rw [upTo, HX.out, betweenF, if_pos (by rw [HA.out, HB.out]), if_pos ⟨HA.out, .inr HY.out⟩])
              clear h3
              go_wp2
              go_quiet (fail)
              go_wp2
              go_roundg (n - 2 - (kk + 1))
              case measure => omega
              case rel =>
                have hp := Kd.R_putg (Kd.R_drewN HO.out nq) ((kk + 1 : Nat) : Int) 4
                rw [show ((kk + 1 : Nat) : Int).toNat = kk + 1 by omega] at hp
                exact ⟨kk + 1, by go_num, by omega, by omega, ⟨by rw [HF.out]; exact hp.1⟩, ⟨grown_then HG.out (grown_then (grown_of_below (pw_below_drewN (Below.refl _ _) _) (some g)) hp.2)⟩⟩
            · have h3b : (y == 5) = false := beq_eq_false_iff_ne.mpr (by first | assumption | decide)
              have h4b : (y == 8) = false := beq_eq_false_iff_ne.mpr (by first | assumption | decide)
              have HF := Aside0.mk (show upTo betweenF l (kk + 1) = x by rw [upTo, HX.out, betweenF, if_pos (by rw [HA.out, HB.out]), if_neg (by rw [HY.out]; rintro ⟨_, h | h⟩; (exact h3 h); exact h4 h), if_neg (by rw [HA.out]; exact fun h => absurd h.1 (by decide))])
              clear h3 h4
              go_wp2
              go_quiet (fail)
              go_wp2
              go_roundg (n - 2 - (kk + 1))
              case measure => omega
              case rel =>
                exact ⟨kk + 1, by go_num, by omega, by omega, ⟨by rw [HF.out]; exact Kd.R_drewN HO.out _⟩, ⟨grown_then HG.out (grown_of_below (pw_below_drewN (Below.refl _ _) _) (some g))⟩⟩
        · have h2b : (a == 4) = false := beq_eq_false_iff_ne.mpr (by first | assumption | decide)
          by_cases h3 : a = 7
          · subst h3
            clear h2 h2b
            by_cases h4 : y = 8
            · subst h4
              have HF := Aside0.mk (show upTo betweenF l (kk + 1) = x.set (kk + 1) 7 by rw [upTo, HX.out, betweenF, if_pos (by rw [HA.out, HB.out]), if_neg (by rw [HA.out]; exact fun h => absurd h.1 (by decide)), if_pos ⟨HA.out, HY.out⟩])
              go_wp2
              go_quiet (fail)
              go_wp2
              go_roundg (n - 2 - (kk + 1))
              case measure => omega
              case rel =>
                have hp := Kd.R_putg (Kd.R_drewN HO.out nq) ((kk + 1 : Nat) : Int) 7
                rw [show ((kk + 1 : Nat) : Int).toNat = kk + 1 by omega] at hp
                exact ⟨kk + 1, by go_num, by omega, by omega, ⟨by rw [HF.out]; exact hp.1⟩, ⟨grown_then HG.out (grown_then (grown_of_below (pw_below_drewN (Below.refl _ _) _) (some g)) hp.2)⟩⟩
            · have h4b : (y == 8) = false := beq_eq_false_iff_ne.mpr (by first | assumption | decide)
              have HF := Aside0.mk (show upTo betweenF l (kk + 1) = x by rw [upTo, HX.out, betweenF, if_pos (by rw [HA.out, HB.out]), if_neg (by rw [HA.out]; exact fun h => absurd h.1 (by decide)), if_neg (by rw [HY.out]; exact fun h => h4 h.2)])
              clear h4
              go_wp2
              go_quiet (fail)
              go_wp2
              go_roundg (n - 2 - (kk + 1))
              case measure => omega
              case rel =>
                exact ⟨kk + 1, by go_num, by omega, by omega, ⟨by rw [HF.out]; exact Kd.R_drewN HO.out _⟩, ⟨grown_then HG.out (grown_of_below (pw_below_drewN (Below.refl _ _) _) (some g))⟩⟩
          · have h3b : (a == 7) = false := beq_eq_false_iff_ne.mpr (by first | assumption | decide)
            have HF := Aside0.mk (show upTo betweenF l (kk + 1) = x by rw [upTo, HX.out, betweenF, if_pos (by rw [HA.out, HB.out]), if_neg (by rw [HA.out]; exact fun h => h2 h.1), if_neg (by rw [HA.out]; exact fun h => h3 h.1)])
            clear h3 h2
            go_wp2
            go_quiet (fail)
            go_wp2
            go_roundg (n - 2 - (kk + 1))
            case measure => omega
            case rel =>
              exact ⟨kk + 1, by go_num, by omega, by omega, ⟨by rw [HF.out]; exact Kd.R_drewN HO.out _⟩, ⟨grown_then HG.out (grown_of_below (pw_below_drewN (Below.refl _ _) _) (some g))⟩⟩
      · have h1b : (a != b) = true := bne_iff_ne.mpr h1
        have h1c : (a == b) = false := beq_eq_false_iff_ne.mpr h1
        have HF := Aside0.mk (show upTo betweenF l (kk + 1) = x by rw [upTo, HX.out, betweenF, if_neg (by rw [HA.out, HB.out]; exact h1)])
        clear h1
        go_wp2
        go_quiet (fail)
        go_wp2
        go_roundg (n - 2 - (kk + 1))
        case measure => omega
        case rel =>
          exact ⟨kk + 1, by go_num, by omega, by omega, ⟨by rw [HF.out]; exact Kd.R_drewN HO.out _⟩, ⟨grown_then HG.out (grown_of_below (pw_below_drewN (Below.refl _ _) _) (some g))⟩⟩
    · have hltz : ¬ ((kk : Int) + 1 + 1) < (n : Int) := by omega
      have e : kk = (n - 2) := by omega
      have HE := Aside0.mk e
      clear e
      go_wp2
      go_end0
      exact ⟨rfl, by have h := HO.out; rw [HE.out] at h; exact h, HG.out⟩
set_option maxHeartbeats 8000000 in
set_option maxRecDepth 100000 in
theorem terms_1_calls (x : Int) (W : World) : Calls Try.prog 67 #[.int .i64 x] W fun e w' => e = .returned (.bool (x == 6)) ∧ Drawn0 W w' := by
  go_enter Try.func67, Try.ntmps67
  go_wp2
  go_ret
  exact ⟨rfl, Drawn0.refl _⟩
set_option maxHeartbeats 8000000 in
set_option maxRecDepth 100000 in
theorem terms_2_calls (g n cap a m : Nat) (y z : Int) (l : List Int) (base : Nat) (ok : Nat → Prop) (W : World) (ho : Kd.R (Kd.int .i64) 3 W base ok (.slice (some ⟨g, 0, none⟩) n cap) l) (hm : a + m ≤ n) (hn : n ≤ 1000000) :
    Calls Try.prog 68 #[.slice (some ⟨g, a, none⟩) m (cap - a), .int .i64 y, .int .i64 z] W fun e w' => e = .returned (.tuple #[]) ∧ Kd.R (Kd.int .i64) 3 w' base ok (.slice (some ⟨g, 0, none⟩) n cap) (match (if y = 4 ∨ z = 4 then some 4 else none) with | some x => fillV l a x m | none => l) ∧ W.grownBy w' (some g) := by
  have HO := Aside0.mk ho
  clear ho
  by_cases h1 : y = 4
  · subst h1
    rw [if_pos (.inl rfl)]
    go_enter Try.func68, Try.ntmps68
    go_wp2_with (go_at_call 69; refine (fill_calls g n cap a m 4 l base ok _ HO.out hm hn).mono ?_; rintro e w' ⟨rfl, hr, hg⟩; have HR := Aside0.mk hr; have HG := Aside0.mk hg; clear hr hg)
    go_end0
    exact ⟨rfl, HR.out, HG.out⟩
  · have h1b : (y == 4) = false := beq_eq_false_iff_ne.mpr h1
    by_cases h2 : z = 4
    · subst h2
      rw [if_pos (.inr rfl)]
      clear h1
      go_enter Try.func68, Try.ntmps68
      go_wp2_with (go_at_call 69; refine (fill_calls g n cap a m 4 l base ok _ HO.out hm hn).mono ?_; rintro e w' ⟨rfl, hr, hg⟩; have HR := Aside0.mk hr; have HG := Aside0.mk hg; clear hr hg)
      go_end0
      exact ⟨rfl, HR.out, HG.out⟩
    · have h2b : (z == 4) = false := beq_eq_false_iff_ne.mpr h2
      rw [if_neg (by rintro (h | h); (exact h1 h); exact h2 h)]
      clear h1 h2
      go_enter Try.func68, Try.ntmps68
      go_wp2
      go_end0
      exact ⟨rfl, HO.out, grown_refl _ _⟩
set_option maxHeartbeats 8000000 in
set_option maxRecDepth 100000 in
theorem beside_nil_calls (A : Option Addr) (cap : Nat) (f1 f2 : Value) (w : World) : Calls Try.prog 66 #[.slice A 0 cap, f1, f2] w fun e w' => e = .returned (.tuple #[]) ∧ Drawn0 w w' := by
  go_enter Try.func66, Try.ntmps66
  go_wp2
  go_loopg [6, 7, 8, 9] 1 (fun gg s6 _ _ _ wr => s6 = .int .i64 0 ∧ Aside0 (Drawn0 w wr))
  case atStart => exact ⟨rfl, ⟨Drawn0.refl _⟩⟩
  case round =>
    obtain ⟨rfl, HD⟩ := hrel
    go_wp2
    go_end0
    exact ⟨rfl, HD.out⟩
set_option maxHeartbeats 8000000 in
set_option maxRecDepth 100000 in
theorem terms_calls (gb g n cap : Nat) (A : Option Addr) (bf : Int) (l : List Int) (base : Nat) (ok : Nat → Prop) (w : World) (hs : w.heap[gb]? = some (.cells #[.slice A n cap, .int .i64 bf] 44 (0, 0))) (ho : Kd.R (Kd.int .i64) 3 w base ok (.slice A n cap) l) (hA : 0 < n → A = some ⟨g, 0, none⟩) (hgg : gb ≠ g) (hn : n ≤ 1000000) :
    Calls Try.prog 39 #[.pointer (some ⟨gb, 0, none⟩)] w fun e w' => e = .returned (.tuple #[]) ∧ Kd.R (Kd.int .i64) 3 w' base ok (.slice A n cap) (termsV l) ∧ w.grownBy w' (some g) := by
  have hc0 := (blk_cell hs 0).trans (show (#[.slice A n cap, .int .i64 bf] : Array Value)[0]? = some (.slice A n cap) from rfl)
  have HO := Aside0.mk ho
  have HNL := Aside0.mk (Kd.R_reads' ho)
  clear hs ho
  by_cases h0 : 0 < n
  · obtain rfl := hA h0
    clear hA h0
    go_enter Try.func39, Try.ntmps39
    go_wp2_with (go_at_call 66; refine (beside_calls (fun c => c == 6) (fun a b => if a = 4 ∨ b = 4 then some 4 else none) 67 68 #[] #[] (fun _ _ => by kernel_rfl) (fun _ _ => by kernel_rfl) g n cap l base ok _ HO.out hn HNL.out.2.1 (fun W x _ => terms_1_calls x W) (fun W l' a m y z _ hr hm _ => terms_2_calls g n cap a m y z l' base ok W hr hm hn)).mono ?_; rintro e w' ⟨rfl, hr, hg⟩; have HR := Aside0.mk hr; have HG := Aside0.mk hg; clear hr hg)
    go_end0
    exact ⟨rfl, HR.out, HG.out⟩
  · obtain rfl : n = 0 := by omega
    have hl : l = [] := List.eq_nil_of_length_eq_zero HNL.out.1.symm
    subst hl
    clear hA h0
    go_enter Try.func39, Try.ntmps39
    go_wp2_with (go_at_call 66; refine (beside_nil_calls A cap _ _ _).mono ?_; rintro e w' ⟨rfl, hb⟩; obtain ⟨⟨nd, rfl⟩⟩ := hb)
    go_end0
    exact ⟨rfl, Kd.R_drewN HO.out _, grown_of_below (pw_below_drewN (Below.refl _ _) _) _⟩



end Go.Proofs.Ytojehfdioeglgaa.S

namespace Go.Proofs.Ytojehfdioeglgaa.S
open Go.RowKit Go.Proofs.YtojehfdioeglgaaW.PrintWords Go.Proofs.YtojehfdioeglgaaW.PrintLast Go.Proofs.YtojehfdioeglgaaW.PrintMore
attribute [local go_sem] max2_int min2_int max_two min_two max_three min_three max_four min_four   -- for this text's walks alone
set_option linter.unusedVariables false
set_option linter.unusedSimpArgs false

/-! ### impl_LevelWeak: function 11: levelweak.tpl -/
theorem run_store_funcX {P : Program} {w : World} {a : Addr} {m : Mode} (fn : Fn) (first captured : Array Value) : (store a (.func fn first captured) m).run P w = stored P w a (.func fn first captured) m := run_store P w a _ m rfl
attribute [local go_sem] run_store_funcX
theorem rule_at0 (a0 a1 a2 a3 a4 a5 a6 : Value) (W : World) : (Instr.index 45 (.agg #[a0, a1, a2, a3, a4, a5, a6]) (.int .i64 0)).run Try.prog W = .ok a0 W := by kernel_rfl
theorem rule_at1 (a0 a1 a2 a3 a4 a5 a6 : Value) (W : World) : (Instr.index 45 (.agg #[a0, a1, a2, a3, a4, a5, a6]) (.int .i64 1)).run Try.prog W = .ok a1 W := by kernel_rfl
theorem rule_at2 (a0 a1 a2 a3 a4 a5 a6 : Value) (W : World) : (Instr.index 45 (.agg #[a0, a1, a2, a3, a4, a5, a6]) (.int .i64 2)).run Try.prog W = .ok a2 W := by kernel_rfl
theorem rule_at3 (a0 a1 a2 a3 a4 a5 a6 : Value) (W : World) : (Instr.index 45 (.agg #[a0, a1, a2, a3, a4, a5, a6]) (.int .i64 3)).run Try.prog W = .ok a3 W := by kernel_rfl
theorem rule_at4 (a0 a1 a2 a3 a4 a5 a6 : Value) (W : World) : (Instr.index 45 (.agg #[a0, a1, a2, a3, a4, a5, a6]) (.int .i64 4)).run Try.prog W = .ok a4 W := by kernel_rfl
theorem rule_at5 (a0 a1 a2 a3 a4 a5 a6 : Value) (W : World) : (Instr.index 45 (.agg #[a0, a1, a2, a3, a4, a5, a6]) (.int .i64 5)).run Try.prog W = .ok a5 W := by kernel_rfl
theorem rule_at6 (a0 a1 a2 a3 a4 a5 a6 : Value) (W : World) : (Instr.index 45 (.agg #[a0, a1, a2, a3, a4, a5, a6]) (.int .i64 6)).run Try.prog W = .ok a6 W := by kernel_rfl
attribute [local go_sem] rule_at0 rule_at1 rule_at2 rule_at3 rule_at4 rule_at5 rule_at6

def weakR (bf : Int) (n : Nat) (x : List Int) : Nat → List Int
  | 0 => upTo (marksF bf) x n
  | 1 => upTo numbersF x n
  | 2 => upTo arabicF x n
  | 3 => upTo betweenF x (n - 2)
  | 4 => termsV x
  | 5 => upTo othersF x n
  | _ => upTo (plainF bf) x n
def weakS (bf : Int) (l : List Int) : Nat → List Int
  | 0 => l
  | i + 1 => weakR bf l.length (weakS bf l i) i
theorem weakS_7 (bf : Int) (l : List Int) : weakS bf l 7 = weakV bf l := rfl
set_option maxHeartbeats 16000000 in
set_option maxRecDepth 100000 in
theorem impl_LevelWeak.calls (A0 : Option Addr) (c0 : Nat) (l0 : List Int) (a1 : Int) (r : List Int) (w : World) (hr0 : Kd.C (Kd.int .i64) w A0 l0.length l0) (hc0 : l0.length ≤ c0) (h : impl_LevelWeak.f l0 a1 = some r) :
    Calls Try.prog 11 #[.slice A0 l0.length c0, .int .i64 a1] w fun e w' => ∃ v0_ : Value, e = .returned (v0_) ∧ Kd.R (Kd.int .i64) 3 w' w.heap.size (fun _ => True) v0_ r ∧ Below w.heap.size w w' := by
  have HR := Aside0.mk hr0
  have HC := Aside0.mk hc0
  clear hr0 hc0
  unfold impl_LevelWeak.f at h
  obtain rfl := Option.some.inj h
  clear h
  by_cases hok : classesOkV l0 = true
  case neg =>
    have e : classesOkV l0 = false := by simpa using hok
    have HOK := Aside0.mk (show impl_classesOk.f l0 = some false by rw [impl_classesOk.f, e])
    rw [if_neg (fun h => hok h.1)]
    clear hok e
    go_enter Try.func11, Try.ntmps11
    go_wp2_with (go_at_call 32; refine (impl_classesOk.calls _ _ l0 false _ HR.out HC.out HOK.out).mono ?_; rintro e w1 ⟨rfl, hb1⟩; have HB1 := Aside0.mk hb1; clear hb1)
    go_ret
    exact ⟨_, rfl, Kd.R_nil _ _ _ _ _, HB1.out⟩
  case pos =>
  have HOK := Aside0.mk (show impl_classesOk.f l0 = some true by rw [impl_classesOk.f, hok])
  by_cases hsd : sideV a1 = true
  case neg =>
    have e : sideV a1 = false := by simpa using hsd
    have HSD := Aside0.mk (show impl_isSide.f a1 = some false by rw [side_f, e])
    rw [if_neg (fun h => hsd h.2)]
    clear hok hsd e
    go_enter Try.func11, Try.ntmps11
    go_wp2_with (first
      | (go_at_call 32; refine (impl_classesOk.calls _ _ l0 true _ HR.out HC.out HOK.out).mono ?_; rintro e w1 ⟨rfl, hb1⟩; have HB1 := Aside0.mk hb1; clear hb1)
      | (go_at_call 33; refine (impl_isSide.calls a1 false _ HSD.out).mono ?_; rintro e w2 ⟨rfl, ⟨nd, rfl⟩⟩))
    go_ret
    exact ⟨_, rfl, Kd.R_nil _ _ _ _ _, pw_below_drewN HB1.out _⟩
  case pos =>
  have HSD := Aside0.mk (show impl_isSide.f a1 = some true by rw [side_f, hsd])
  rw [if_pos ⟨hok, hsd⟩]
  have hn80 : l0.length ≤ 80 := by
    unfold classesOkV at hok
    rw [Bool.and_eq_true] at hok
    exact of_decide_eq_true hok.1
  have HCL := Aside0.mk (show slices_Clone_int_int.f l0 = some l0 by rw [slices_Clone_int_int.f, if_pos (by omega)])
  have HN := Aside0.mk hn80
  clear hok hsd hn80
  go_enter Try.func11, Try.ntmps11
  go_wp2_with (first
    | (go_at_call 32; refine (impl_classesOk.calls _ _ l0 true _ HR.out HC.out HOK.out).mono ?_; rintro e w1 ⟨rfl, hb1⟩; have HB1 := Aside0.mk hb1; clear hb1)
    | (go_at_call 33; refine (impl_isSide.calls a1 true _ HSD.out).mono ?_; rintro e w2 ⟨rfl, ⟨nd, rfl⟩⟩)
    | (go_at_call 34; refine (slices_Clone_int_int.calls _ _ l0 l0 _ (Kd.C_below HR.out (pw_below_drewN HB1.out _)) HC.out HCL.out).mono ?_; rintro e w3 ⟨v3, rfl, ho3, hb3⟩; obtain ⟨A3, c3, hv3⟩ := Kd.R_slice ho3; subst hv3; have HO3 := Aside0.mk (Kd.R_lower ho3 (pw_below_drewN HB1.out nd).size); have HB3 := Aside0.mk (below_then (pw_below_drewN HB1.out nd) (pw_below_drewN HB1.out nd).size hb3); clear ho3 hb3))
  obtain ⟨g, hA, hgg, hbg⟩ : ∃ g, (0 < l0.length → A3 = some ⟨g, 0, none⟩) ∧ w3.heap.size ≠ g ∧ w.heap.size ≤ g := by
    by_cases hp : 0 < l0.length
    · obtain ⟨g, cap, he, h1, h2, _⟩ := Kd.R_form HO3.out hp
      injection he with he
      exact ⟨g, fun _ => he, by omega, h1⟩
    · exact ⟨w3.heap.size + 1, fun h => absurd h hp, by omega, by have := HB3.out.size; omega⟩
  have HA := Aside0.mk hA
  have HGG := Aside0.mk hgg
  have HBG := Aside0.mk hbg
  clear hA hgg hbg
  go_loopg [8, 38] 7 (fun gg _ s38 wr => ∃ i : Nat, s38 = .int .i64 i ∧ i ≤ 7 ∧ 7 - i ≤ gg ∧ Aside0 (Kd.R (Kd.int .i64) 3 wr w.heap.size (fun _ => True) (.slice A3 l0.length c3) (weakS a1 l0 i)) ∧ Aside0 (wr.heap[w3.heap.size]? = some (.cells #[.slice A3 l0.length c3, .int .i64 a1] 44 (0, 0))) ∧ Aside0 (Below w.heap.size w wr))
  case atStart => exact ⟨0, rfl, by omega, by omega, ⟨Kd.R_alloc (Kd.R_alloc HO3.out _) _⟩, ⟨blk_alloc (blk_new _ _) _⟩, ⟨below_alloc (below_alloc HB3.out _) _⟩⟩
  case round =>
    clear HB1 HO3 HB3 HR HOK HSD
    obtain ⟨i, rfl, hi, hg, HO, HS, HB⟩ := hrel
    have hc0 := (blk_cell HS.out 0).trans (show (#[.slice A3 l0.length c3, .int .i64 a1] : Array Value)[0]? = some (.slice A3 l0.length c3) from rfl)
    obtain rfl | rfl | rfl | rfl | rfl | rfl | rfl | rfl : i = 0 ∨ i = 1 ∨ i = 2 ∨ i = 3 ∨ i = 4 ∨ i = 5 ∨ i = 6 ∨ i = 7 := by omega
    · go_wp2_with (go_at_call 35; refine (marks_calls w3.heap.size g l0.length c3 A3 a1 (weakS a1 l0 0) w.heap.size (fun _ => True) _ HS.out HO.out HA.out HGG.out (by have := HN.out; omega)).mono ?_; rintro e w' ⟨rfl, hr, hgr⟩; have n0 := Aside0.mk hr; have n1 := Aside0.mk (blk_same HS.out hgr HGG.out); have n2 := Aside0.mk (pw_below_grown HB.out (some g) HB.out.size hgr (fun k e => by cases e; exact HBG.out)); clear HO HS HB hr hgr; have HO := n0; have HS := n1; have HB := n2; clear n0 n1 n2)
      go_roundg (7 - 1)
      case measure => omega
      case rel => exact ⟨1, by first | rfl | go_num, by omega, by omega, ⟨HO.out⟩, HS, HB⟩
    · go_wp2_with (go_at_call 36; refine (numbers_calls w3.heap.size g l0.length c3 A3 a1 (weakS a1 l0 1) w.heap.size (fun _ => True) _ HS.out HO.out HA.out HGG.out (by have := HN.out; omega)).mono ?_; rintro e w' ⟨rfl, hr, hgr⟩; have n0 := Aside0.mk hr; have n1 := Aside0.mk (blk_same HS.out hgr HGG.out); have n2 := Aside0.mk (pw_below_grown HB.out (some g) HB.out.size hgr (fun k e => by cases e; exact HBG.out)); clear HO HS HB hr hgr; have HO := n0; have HS := n1; have HB := n2; clear n0 n1 n2)
      go_roundg (7 - 2)
      case measure => omega
      case rel => exact ⟨2, by first | rfl | go_num, by omega, by omega, ⟨HO.out⟩, HS, HB⟩
    · go_wp2_with (go_at_call 37; refine (arabic_calls w3.heap.size g l0.length c3 A3 a1 (weakS a1 l0 2) w.heap.size (fun _ => True) _ HS.out HO.out HA.out HGG.out (by have := HN.out; omega)).mono ?_; rintro e w' ⟨rfl, hr, hgr⟩; have n0 := Aside0.mk hr; have n1 := Aside0.mk (blk_same HS.out hgr HGG.out); have n2 := Aside0.mk (pw_below_grown HB.out (some g) HB.out.size hgr (fun k e => by cases e; exact HBG.out)); clear HO HS HB hr hgr; have HO := n0; have HS := n1; have HB := n2; clear n0 n1 n2)
      go_roundg (7 - 3)
      case measure => omega
      case rel => exact ⟨3, by first | rfl | go_num, by omega, by omega, ⟨HO.out⟩, HS, HB⟩
    · go_wp2_with (go_at_call 38; refine (between_calls w3.heap.size g l0.length c3 A3 a1 (weakS a1 l0 3) w.heap.size (fun _ => True) _ HS.out HO.out HA.out HGG.out (by have := HN.out; omega)).mono ?_; rintro e w' ⟨rfl, hr, hgr⟩; have n0 := Aside0.mk hr; have n1 := Aside0.mk (blk_same HS.out hgr HGG.out); have n2 := Aside0.mk (pw_below_grown HB.out (some g) HB.out.size hgr (fun k e => by cases e; exact HBG.out)); clear HO HS HB hr hgr; have HO := n0; have HS := n1; have HB := n2; clear n0 n1 n2)
      go_roundg (7 - 4)
      case measure => omega
      case rel => exact ⟨4, by first | rfl | go_num, by omega, by omega, ⟨HO.out⟩, HS, HB⟩
    · go_wp2_with (go_at_call 39; refine (terms_calls w3.heap.size g l0.length c3 A3 a1 (weakS a1 l0 4) w.heap.size (fun _ => True) _ HS.out HO.out HA.out HGG.out (by have := HN.out; omega)).mono ?_; rintro e w' ⟨rfl, hr, hgr⟩; have n0 := Aside0.mk hr; have n1 := Aside0.mk (blk_same HS.out hgr HGG.out); have n2 := Aside0.mk (pw_below_grown HB.out (some g) HB.out.size hgr (fun k e => by cases e; exact HBG.out)); clear HO HS HB hr hgr; have HO := n0; have HS := n1; have HB := n2; clear n0 n1 n2)
      go_roundg (7 - 5)
      case measure => omega
      case rel => exact ⟨5, by first | rfl | go_num, by omega, by omega, ⟨HO.out⟩, HS, HB⟩
    · go_wp2_with (go_at_call 40; refine (others_calls w3.heap.size g l0.length c3 A3 a1 (weakS a1 l0 5) w.heap.size (fun _ => True) _ HS.out HO.out HA.out HGG.out (by have := HN.out; omega)).mono ?_; rintro e w' ⟨rfl, hr, hgr⟩; have n0 := Aside0.mk hr; have n1 := Aside0.mk (blk_same HS.out hgr HGG.out); have n2 := Aside0.mk (pw_below_grown HB.out (some g) HB.out.size hgr (fun k e => by cases e; exact HBG.out)); clear HO HS HB hr hgr; have HO := n0; have HS := n1; have HB := n2; clear n0 n1 n2)
      go_roundg (7 - 6)
      case measure => omega
      case rel => exact ⟨6, by first | rfl | go_num, by omega, by omega, ⟨HO.out⟩, HS, HB⟩
    · go_wp2_with (go_at_call 41; refine (plainNumbers_calls w3.heap.size g l0.length c3 A3 a1 (weakS a1 l0 6) w.heap.size (fun _ => True) _ HS.out HO.out HA.out HGG.out (by have := HN.out; omega)).mono ?_; rintro e w' ⟨rfl, hr, hgr⟩; have n0 := Aside0.mk hr; have n1 := Aside0.mk (blk_same HS.out hgr HGG.out); have n2 := Aside0.mk (pw_below_grown HB.out (some g) HB.out.size hgr (fun k e => by cases e; exact HBG.out)); clear HO HS HB hr hgr; have HO := n0; have HS := n1; have HB := n2; clear n0 n1 n2)
      go_roundg (7 - 7)
      case measure => omega
      case rel => exact ⟨7, by first | rfl | go_num, by omega, by omega, ⟨HO.out⟩, HS, HB⟩
    · go_wp2
      go_ret
      exact ⟨_, rfl, HO.out, HB.out⟩


end Go.Proofs.Ytojehfdioeglgaa.S

namespace Go.Proofs.Ytojehfdioeglgaa.S
open Go.RowKit Go.Proofs.YtojehfdioeglgaaW.PrintWords Go.Proofs.YtojehfdioeglgaaW.PrintLast Go.Proofs.YtojehfdioeglgaaW.PrintMore
attribute [local go_sem] max2_int min2_int max_two min_two max_three min_three max_four min_four   -- for this text's walks alone
set_option linter.unusedVariables false
set_option linter.unusedSimpArgs false

/-- A state of type 71 at block g of W; what its slices lead to came in by w0. -/
def IsS71 (w0 W : World) (g : Nat) (f0 : List Int) (f1 : Int) : Prop := ∃ A0 c0, W.heap[g]? = some (.cells #[.slice A0 f0.length c0, .int .i64 f1] 71 (0, 0)) ∧ w0.heap.size ≤ g ∧ Kd.C (Kd.int .u8) w0 A0 f0.length f0
theorem IsS71.grown {w0 W : World} {g : Nat} {f0 : List Int} {f1 : Int} {W1 : World} {row : Option Nat} (h : IsS71 w0 W g f0 f1) (hw : W.grownBy W1 row) (hne : some g ≠ row) : IsS71 w0 W1 g f0 f1 := by
  obtain ⟨A0, c0, hb, hg, hr0⟩ := h
  exact ⟨A0, c0, blk_grown hb hw hne, hg, hr0⟩
theorem IsS71.own_neN {w0 W : World} {g : Nat} {f0 : List Int} {f1 : Int} {α : Type} {d : Kd α} {e : Nat} {base : Nat} {ok : Nat → Prop} {v : Value} {xs : List α} (h : IsS71 w0 W g f0 f1) (ho : Kd.N d e W base ok v xs) (ht : e ≠ 71) : some g ≠ v.ownBlock := by
  obtain ⟨A0, c0, hb, hg, hr0⟩ := h
  exact Kd.N_ne ho hb ht
theorem IsS71.fresh {w0 W : World} {g : Nat} {f0 : List Int} {f1 : Int} (h : IsS71 w0 W g f0 f1) : ∀ k, W.heap.size ≤ k → k ≠ g := by
  obtain ⟨A0, c0, hb, hg, hr0⟩ := h
  exact Kd.freshB hb
theorem IsS71.kept {w0 W : World} {g : Nat} {f0 : List Int} {f1 : Int} {W1 : World} {S : Nat → Prop} (h : IsS71 w0 W g f0 f1) (hk : Kept W W1 S) (hne : ¬ S g) : IsS71 w0 W1 g f0 f1 := by
  obtain ⟨A0, c0, hb, hg, hr0⟩ := h
  exact ⟨A0, c0, blk_kept hb hk hne, hg, hr0⟩
theorem IsS71.below {w0 W : World} {g : Nat} {f0 : List Int} {f1 : Int} {W1 : World} (h : IsS71 w0 W g f0 f1) (hw : Below W.heap.size W W1) : IsS71 w0 W1 g f0 f1 := h.grown (grown_of_below hw none) (by simp)
theorem IsS71.alloc {w0 W : World} {g : Nat} {f0 : List Int} {f1 : Int} (h : IsS71 w0 W g f0 f1) (o : Obj) : IsS71 w0 (W.alloc o) g f0 f1 := h.below (below_alloc (Below.refl _ _) o)
theorem IsS71.drewN {w0 W : World} {g : Nat} {f0 : List Int} {f1 : Int} (h : IsS71 w0 W g f0 f1) (m : Nat) : IsS71 w0 (W.drewN m) g f0 f1 := h
theorem IsS71.drew {w0 W : World} {g : Nat} {f0 : List Int} {f1 : Int} (h : IsS71 w0 W g f0 f1) : IsS71 w0 W.drew g f0 f1 := h
theorem IsS71.at_ {w0 W : World} {g : Nat} {f0 : List Int} {f1 : Int} {w' : World} {m : Nat} (hq : W.drewN m = w') (h : IsS71 w0 W g f0 f1) : IsS71 w0 w' g f0 f1 := by subst hq; exact IsS71.drewN h m
theorem IsS71.apart {w0 W : World} {g : Nat} {f0 : List Int} {f1 : Int} {α : Type} {d : Kd α} {e : Nat} {base : Nat} {ok : Nat → Prop} {v : Value} {xs : List α} (h : IsS71 w0 W g f0 f1) (ho : d.R e W base ok v xs) (ht : ∀ q, q ∈ e :: d.E → q ≠ 71) : d.R e W base (fun k => ok k ∧ k ≠ g) v xs := by
  obtain ⟨A0, c0, hb, hg, hr0⟩ := h
  exact Kd.R_types ho hb ht
theorem IsS71.own_ne {w0 W : World} {g : Nat} {f0 : List Int} {f1 : Int} {α : Type} {d : Kd α} {e : Nat} {base : Nat} {ok : Nat → Prop} {v : Value} {xs : List α} (h : IsS71 w0 W g f0 f1) (ho : d.R e W base ok v xs) (ht : e ≠ 71) : some g ≠ v.ownBlock := by
  obtain ⟨A0, c0, hb, hg, hr0⟩ := h
  exact Kd.R_ne ho hb ht
theorem IsS71.apartQ {w0 W : World} {g : Nat} {f0 : List Int} {f1 : Int} {α : Type} {d : Kd α} {e : Nat} {base : Nat} {ok : Nat → Prop} {v : Value} {xs : List α} (h : IsS71 w0 W g f0 f1) (ho : d.Q e W base ok v xs) (ht : ∀ q, q ∈ e :: d.E → q ≠ 71) : d.Q e W base (fun k => ok k ∧ k ≠ g) v xs := by
  obtain ⟨A0, c0, hb, hg, hr0⟩ := h
  exact Kd.Q_types ho hb ht
theorem IsS71.own_neQ {w0 W : World} {g : Nat} {f0 : List Int} {f1 : Int} {α : Type} {d : Kd α} {e : Nat} {base : Nat} {ok : Nat → Prop} {v : Value} {xs : List α} (h : IsS71 w0 W g f0 f1) (ho : d.Q e W base ok v xs) (ht : e ≠ 71) : some g ≠ v.ownBlock := by
  obtain ⟨A0, c0, hb, hg, hr0⟩ := h
  exact Kd.Q_ne ho hb ht
theorem IsS71.apartS {w0 W : World} {g : Nat} {f0 : List Int} {f1 : Int} {α : Type} {d : Kd α} {e : Nat} {base : Nat} {ok : Nat → Prop} {v : Value} {xs : List α} (h : IsS71 w0 W g f0 f1) (ho : d.S e W base ok v xs) (ht : ∀ q, q ∈ e :: d.E → q ≠ 71) : d.S e W base (fun k => ok k ∧ k ≠ g) v xs := by
  obtain ⟨A0, c0, hb, hg, hr0⟩ := h
  exact Kd.S_types ho hb ht
theorem IsS71.own_neS {w0 W : World} {g : Nat} {f0 : List Int} {f1 : Int} {α : Type} {d : Kd α} {e : Nat} {base : Nat} {ok : Nat → Prop} {v : Value} {xs : List α} (h : IsS71 w0 W g f0 f1) (ho : d.S e W base ok v xs) (ht : e ≠ 71) : some g ≠ v.ownBlock := by
  obtain ⟨A0, c0, hb, hg, hr0⟩ := h
  exact Kd.S_ne ho hb ht
theorem IsS71.lt {w0 W : World} {g : Nat} {f0 : List Int} {f1 : Int} (h : IsS71 w0 W g f0 f1) : g < W.heap.size := by
  obtain ⟨A0, c0, hb, hg, hr0⟩ := h
  exact blk_lt hb
theorem IsS71.ge {w0 W : World} {g : Nat} {f0 : List Int} {f1 : Int} (h : IsS71 w0 W g f0 f1) : w0.heap.size ≤ g := by
  obtain ⟨A0, c0, hb, hg, hr0⟩ := h
  exact hg
theorem IsS71.ne_blk {w0 W : World} {g : Nat} {f0 : List Int} {f1 : Int} {a : Nat} {cs : Array Value} {t : TypeId} {fr : Nat × Nat} (h : IsS71 w0 W g f0 f1) (hb2 : W.heap[a]? = some (.cells cs t fr)) (ht : t ≠ 71) : g ≠ a := by
  obtain ⟨A0, c0, hb, hg, hr0⟩ := h
  rintro rfl
  rw [hb] at hb2
  injection hb2 with hb2
  injection hb2 with _ ht2
  exact ht ht2.symm
theorem IsS71.far {w0 W : World} {g : Nat} {f0 : List Int} {f1 : Int} {p : Addr} (h : IsS71 w0 W g f0 f1) (hne : g ≠ p.block) (u : Value) : IsS71 w0 (W.setCell p u) g f0 f1 := by
  obtain ⟨A0, c0, hb, hg, hr0⟩ := h
  exact ⟨A0, c0, blk_far hb hne u, hg, hr0⟩
theorem cellS71_0 {W : World} {g : Nat} {A0 : Option Addr} {c0 : Nat} {f0 : List Int} {f1 : Int} (h : W.heap[g]? = some (.cells #[.slice A0 f0.length c0, .int .i64 f1] 71 (0, 0))) : W.cell? ⟨g, 0, none⟩ = some (.slice A0 f0.length c0) := (blk_cell h 0).trans rfl
theorem cellS71_1 {W : World} {g : Nat} {A0 : Option Addr} {c0 : Nat} {f0 : List Int} {f1 : Int} (h : W.heap[g]? = some (.cells #[.slice A0 f0.length c0, .int .i64 f1] 71 (0, 0))) : W.cell? ⟨g, 1, none⟩ = some (.int .i64 f1) := (blk_cell h 1).trans rfl
theorem IsS71.set_1 {w0 W : World} {g : Nat} {f0 : List Int} {f1 : Int} (h : IsS71 w0 W g f0 f1) (x : Int) : IsS71 w0 (W.setCell ⟨g, 1, none⟩ (.int .i64 x)) g f0 x := by
  obtain ⟨A0, c0, hb, hg, hr0⟩ := h
  exact ⟨A0, c0, by simpa using blk_set hb 1 (.int .i64 x), hg, hr0⟩
theorem IsS71.new (w0 W : World) (A0 : Option Addr) (c0 : Nat) (f0 : List Int) (f1 : Int) (hB : Below w0.heap.size w0 W) (hr0 : Kd.C (Kd.int .u8) w0 A0 f0.length f0) : IsS71 w0 (W.alloc (.cells #[.slice A0 f0.length c0, .int .i64 f1] 71)) W.heap.size f0 f1 := ⟨A0, c0, by simpa using heap_alloc_new W _, hB.size, hr0⟩

/-! ### spec_l1Open: function 42 -/
def spec_l1Open.f (l0 : List Int) : Option (List Int × Int) := if (l0.length : Int) > 2000 then (if 2000 ≤ (l0.length : Int) then (some (l0.take 2000, 0)) else (none)) else (some (l0, 0))
set_option maxHeartbeats 8000000 in
set_option maxRecDepth 100000 in
theorem spec_l1Open.calls (A0 : Option Addr) (c0 : Nat) (l0 : List Int) (r1 : List Int) (r2 : Int) (w0 w : World) (hB : Below w0.heap.size w0 w) (hr0 : Kd.C (Kd.int .u8) w0 A0 l0.length l0) (hc0 : l0.length ≤ c0) (h : spec_l1Open.f l0 = some (r1, r2)) :
    Calls Try.prog 42 #[.slice A0 l0.length c0] w fun e w' => ∃ g_ : Nat, e = .returned (.pointer (some ⟨g_, 0, none⟩)) ∧ IsS71 w0 w' g_ r1 r2 ∧ Below w0.heap.size w0 w' ∧ Below w.heap.size w w' := by
  have hu71 := Try.underlying71
  have HR0 := Aside0.mk hr0
  have HC0 := Aside0.mk hc0
  clear hr0 hc0
  have HBW := Aside0.mk (Below.refl w.heap.size w)
  have HW0 := Aside0.mk hB.size
  have HB := Aside0.mk hB
  clear hB
  have H : (if (l0.length : Int) > 2000 then (if 2000 ≤ (l0.length : Int) then (some (l0.take 2000, 0)) else (none)) else (some (l0, 0))) = some (r1, r2) := h
  clear h
  by_cases c2 : (l0.length : Int) > 2000
  · rw [if_pos c2] at H
    have c2b0 : decide (2000 < (l0.length : Int)) = true := decide_eq_true c2
    have c2b1 : decide (2000 < l0.length) = true := decide_eq_true (by omega)
    clear c2
    by_cases c3 : 2000 ≤ (l0.length : Int)
    · rw [if_pos c3] at H
      have c3b0 := eq_true c3
      have c3b1 : decide (2000 ≤ (l0.length : Int)) = true := decide_eq_true c3
      clear c3
      simp only [Option.some.injEq, Prod.mk.injEq] at H
      obtain ⟨rfl, rfl⟩ := H
      obtain ⟨i04, hi04, _, hsz4, _⟩ := info_parts info5
      obtain ⟨hcut4, hA4, hC4⟩ := print_take_of (P := Try.prog) (Value.int .u8) 0 28 5 .i64 Try.underlying28 hi04 hsz4 A0 c0 l0 2000 (by omega) (of_decide_eq_true (by first | (with_reducible assumption) | assumption)) HC0.out
      have HR207 := Aside0.mk (Kd.C_of_reads (h1 := fun _ => rfl) (hA4 _ (Kd.reads_of_C HR0.out)))
      have HC207 := Aside0.mk hC4
      clear hA4 hC4 hi04 hsz4
      go_enter Try.func42, Try.ntmps42
      go_wp2_with (first | ((with_reducible refine gate_dst (N := 10) rfl ?_); refine box_event ?hg (N := 10) ?hd (cs := #[.slice A0 (l0.take 2000).length c0, .int .i64 0]) (t := 71) ?hr ?_; (case hd => rfl); (case hg => rfl); (case hr => first | (go_simp; done) | (go_simp; rfl)); intro gb208 hg w5 hbox hb; have n0_ := Aside0.mk (below_step HBW.out hb); have n1_ := Aside0.mk (below_step (by repeat (first | (with_reducible first | exact HB.out | apply below_alloc | apply pw_below_drewN | apply below_drew1) | exact HB.out)) hb); have n2_ := Aside0.mk (hbox); have n3_ := Aside0.mk ((by rw [hg]; exact (below_size (by repeat (first | (with_reducible first | exact HBW.out | apply below_alloc | apply pw_below_drewN | apply below_drew1) | exact HBW.out))) : w.heap.size ≤ gb208)); have n4_ := Aside0.mk ((Nat.le_trans HW0.out (by rw [hg]; exact (below_size (by repeat (first | (with_reducible first | exact HBW.out | apply below_alloc | apply pw_below_drewN | apply below_drew1) | exact HBW.out))) : w.heap.size ≤ gb208) : w0.heap.size ≤ gb208)); clear HBW; clear HB; have HBW := n0_; have HB := n1_; have BK208 := n2_; have GW208 := n3_; have GE208 := n4_; clear n0_ n1_ n2_ n3_ n4_; clear hb hbox hg))
      go_ret
      exact ⟨_, rfl, (show IsS71 w0 _ gb208 (l0.take 2000) 0 from ⟨_, _, by (with_reducible repeat (first | refine blk_drewN ?_ _ | refine blk_drew ?_ | refine blk_alloc ?_ _)); exact BK208.out, GE208.out, HR207.out⟩), by repeat (first | (with_reducible first | exact HB.out | apply below_alloc | apply pw_below_drewN | apply below_drew1 | refine below_set ?_ GE208.out) | exact HB.out), by repeat (first | (with_reducible first | exact HBW.out | apply below_alloc | apply pw_below_drewN | apply below_drew1 | refine below_set ?_ GW208.out) | exact HBW.out)⟩
    · rw [if_neg c3] at H
      exact absurd H (by simp)
  · rw [if_neg c2] at H
    have c2b0 : decide (2000 < (l0.length : Int)) = false := decide_eq_false c2
    have c2b1 : decide (2000 < l0.length) = false := decide_eq_false (by omega)
    clear c2
    simp only [Option.some.injEq, Prod.mk.injEq] at H
    obtain ⟨rfl, rfl⟩ := H
    go_enter Try.func42, Try.ntmps42
    go_wp2_with (first | ((with_reducible refine gate_dst (N := 10) rfl ?_); refine box_event ?hg (N := 10) ?hd (cs := #[.slice A0 l0.length c0, .int .i64 0]) (t := 71) ?hr ?_; (case hd => rfl); (case hg => rfl); (case hr => first | (go_simp; done) | (go_simp; rfl)); intro gb209 hg w6 hbox hb; have n0_ := Aside0.mk (below_step HBW.out hb); have n1_ := Aside0.mk (below_step (by repeat (first | (with_reducible first | exact HB.out | apply below_alloc | apply pw_below_drewN | apply below_drew1) | exact HB.out)) hb); have n2_ := Aside0.mk (hbox); have n3_ := Aside0.mk ((by rw [hg]; exact (below_size (by repeat (first | (with_reducible first | exact HBW.out | apply below_alloc | apply pw_below_drewN | apply below_drew1) | exact HBW.out))) : w.heap.size ≤ gb209)); have n4_ := Aside0.mk ((Nat.le_trans HW0.out (by rw [hg]; exact (below_size (by repeat (first | (with_reducible first | exact HBW.out | apply below_alloc | apply pw_below_drewN | apply below_drew1) | exact HBW.out))) : w.heap.size ≤ gb209) : w0.heap.size ≤ gb209)); clear HBW; clear HB; have HBW := n0_; have HB := n1_; have BK209 := n2_; have GW209 := n3_; have GE209 := n4_; clear n0_ n1_ n2_ n3_ n4_; clear hb hbox hg))
    go_ret
    exact ⟨_, rfl, (show IsS71 w0 _ gb209 l0 0 from ⟨_, _, by (with_reducible repeat (first | refine blk_drewN ?_ _ | refine blk_drew ?_ | refine blk_alloc ?_ _)); exact BK209.out, GE209.out, HR0.out⟩), by repeat (first | (with_reducible first | exact HB.out | apply below_alloc | apply pw_below_drewN | apply below_drew1 | refine below_set ?_ GE209.out) | exact HB.out), by repeat (first | (with_reducible first | exact HBW.out | apply below_alloc | apply pw_below_drewN | apply below_drew1 | refine below_set ?_ GW209.out) | exact HBW.out)⟩

end Go.Proofs.Ytojehfdioeglgaa.S

namespace Go.Proofs.Ytojehfdioeglgaa.S
open Go.RowKit Go.Proofs.YtojehfdioeglgaaW.PrintWords Go.Proofs.YtojehfdioeglgaaW.PrintLast Go.Proofs.YtojehfdioeglgaaW.PrintMore
attribute [local go_sem] max2_int min2_int max_two min_two max_three min_three max_four min_four   -- for this text's walks alone
set_option linter.unusedVariables false
set_option linter.unusedSimpArgs false

/-! ### spec_l1Rd_pick: function 44 -/
def spec_l1Rd_pick.j0 : Nat → Int → Bool → List Int → Int → Option (Int × Int)
  | 0, _, _, _, _ => none
  | k + 1, x1, x24, x1000, x1001 => if x24 = true then (some (0, x1001)) else (if (wrap64 (x1001 - 1)) < (x1000.length : Int) then (if 0 ≤ (wrap64 (x1001 - 1)) then (if x1 = 0 then (none) else (some (Int.tmod (wrap64 (rd x1000 (wrap64 (x1001 - 1)))) x1, x1001))) else (none)) else (if (x1000.length : Int) = 0 then (none) else (if 0 ≤ (Int.tmod (wrap64 (x1001 - 1)) (x1000.length : Int)) then (if (Int.tmod (wrap64 (x1001 - 1)) (x1000.length : Int)) < (x1000.length : Int) then (if 0 ≤ (Int.tmod (wrap64 ((wrap64 ((wrap64 (x1001 - 1)) * 7)) + 3)) (x1000.length : Int)) then (if (Int.tmod (wrap64 ((wrap64 ((wrap64 (x1001 - 1)) * 7)) + 3)) (x1000.length : Int)) < (x1000.length : Int) then (if x1 = 0 then (none) else (some (Int.tmod (Go.bits .xor .i64 (wrap64 ((wrap64 ((wrap64 ((wrap64 ((wrap64 (rd x1000 (Int.tmod (wrap64 (x1001 - 1)) (x1000.length : Int)))) * 131)) + (wrap64 ((wrap64 (rd x1000 (Int.tmod (wrap64 ((wrap64 ((wrap64 (x1001 - 1)) * 7)) + 3)) (x1000.length : Int)))) * 1117)))) + (wrap64 ((wrap64 (x1001 - 1)) * 29)))) + (wrap64 ((wrap64 (Int.tdiv (wrap64 (x1001 - 1)) (x1000.length : Int))) * 53)))) (wrap64 (Int.tdiv (wrap64 ((wrap64 ((wrap64 ((wrap64 ((wrap64 (rd x1000 (Int.tmod (wrap64 (x1001 - 1)) (x1000.length : Int)))) * 131)) + (wrap64 ((wrap64 (rd x1000 (Int.tmod (wrap64 ((wrap64 ((wrap64 (x1001 - 1)) * 7)) + 3)) (x1000.length : Int)))) * 1117)))) + (wrap64 ((wrap64 (x1001 - 1)) * 29)))) + (wrap64 ((wrap64 (Int.tdiv (wrap64 (x1001 - 1)) (x1000.length : Int))) * 53)))) 64))) x1, x1001))) else (none)) else (none)) else (none)) else (none))))
def spec_l1Rd_pick.f (k : Nat) (s0_0 : List Int) (s0_1 : Int) (a1 : Int) : Option (Int × Int) := if a1 < 1 then (spec_l1Rd_pick.j0 k a1 true s0_0 (wrap64 (s0_1 + 1))) else (spec_l1Rd_pick.j0 k a1 ((s0_0.length : Int) == 0) s0_0 (wrap64 (s0_1 + 1)))
theorem spec_l1Rd_pick.mono_l : ∀ k, (∀ y0 y1 y2 y3, LeO (spec_l1Rd_pick.j0 k y0 y1 y2 y3) (spec_l1Rd_pick.j0 (k + 1) y0 y1 y2 y3))
  | 0 => fun _ _ _ _ r h => by simp [spec_l1Rd_pick.j0] at h
  | k + 1 => by
    have ih0 := spec_l1Rd_pick.mono_l k
    · intro y0 y1 y2 y3
      unfold spec_l1Rd_pick.j0
      repeat' first
      | (with_reducible exact ih0 _ _ _ _)
      | (with_reducible exact LeO.refl _)
      | (with_reducible exact LeO.none _)
      | (with_reducible refine LeO.ite ?_ ?_)
      | (with_reducible refine LeO.bind ?_ (fun _ => ?_))
      | exact ih0 _ _ _ _
      | exact LeO.none _
      | refine LeO.ite ?_ ?_
      | refine LeO.bind ?_ (fun _ => ?_)
theorem spec_l1Rd_pick.mono : ∀ a0 a1 a2 k, LeO (spec_l1Rd_pick.f k a0 a1 a2) (spec_l1Rd_pick.f (k + 1) a0 a1 a2) := by
  intro a0 a1 a2 k
  have ih0 := spec_l1Rd_pick.mono_l k
  unfold spec_l1Rd_pick.f
  repeat' first
      | (with_reducible exact ih0 _ _ _ _)
      | (with_reducible exact LeO.refl _)
      | (with_reducible exact LeO.none _)
      | (with_reducible refine LeO.ite ?_ ?_)
      | (with_reducible refine LeO.bind ?_ (fun _ => ?_))
      | exact ih0 _ _ _ _
      | exact LeO.none _
      | refine LeO.ite ?_ ?_
      | refine LeO.bind ?_ (fun _ => ?_)
set_option maxHeartbeats 8000000 in
set_option maxRecDepth 100000 in
theorem spec_l1Rd_pick.calls (k : Nat) (g : Nat) (s0_0 : List Int) (s0_1 : Int) (a1 : Int) (r1 : Int) (r2 : Int) (w0 w : World) (hI : IsS71 w0 w g s0_0 s0_1) (hB : Below w0.heap.size w0 w) (h : spec_l1Rd_pick.f k s0_0 s0_1 a1 = some (r1, r2)) :
    Calls Try.prog 44 #[.pointer (some ⟨g, 0, none⟩), .int .i64 a1] w fun e w' => e = .returned (.int .i64 r1) ∧ IsS71 w0 w' g s0_0 r2 ∧ Below w0.heap.size w0 w' ∧ KeepBut w w' g none := by
  have HI0 := Aside0.mk hI
  have HK := Aside0.mk (KeepBut.refl w g none)
  have HL := Aside0.mk hB.size
  clear hI
  have HW0 := Aside0.mk hB.size
  have HB := Aside0.mk hB
  clear hB
  have H : (if a1 < 1 then (spec_l1Rd_pick.j0 k a1 true s0_0 (wrap64 (s0_1 + 1))) else (spec_l1Rd_pick.j0 k a1 ((s0_0.length : Int) == 0) s0_0 (wrap64 (s0_1 + 1)))) = some (r1, r2) := h
  clear h
  have HC3 := Aside0.mk H
  clear H
  obtain ⟨ASz4_0, cSz4_0, HGz4, hgz4, HSz4_0⟩ := HI0.out
  have hcz4_0 := cellS71_0 HGz4
  have hcz4_1 := cellS71_1 HGz4
  have hfz4_1 := blk_frozen HGz4 1
  clear HGz4 hgz4
  go_enter Try.func44, Try.ntmps44
  go_upto_region 2 with (fail)
  repeat (go_quiet (fail); go_upto_region 2 with (fail))
  go_cut [24] (fun v24 wc => ∃ (kq : Nat) (x24_2 : Bool), v24 = .bool x24_2 ∧ Aside0 (spec_l1Rd_pick.j0 kq a1 x24_2 s0_0 (wrap64 (s0_1 + 1)) = some (r1, r2)) ∧ Aside0 (kq ≤ k) ∧ Aside0 (IsS71 w0 wc g s0_0 (wrap64 (s0_1 + 1))) ∧ Aside0 (KeepBut w wc g none) ∧ Aside0 (Below w0.heap.size w0 wc))
  case first =>
    have H := HC3.out
    clear HC3
    by_cases c5 : a1 < 1
    · rw [if_pos c5] at H
      have c5b0 : decide (a1 < 1) = true := decide_eq_true c5
      clear c5
      (first | rw [c5b0] | (simp only [i64_w, i32_w]; rw [c5b0]) | skip)
      have H' := Aside0.mk H
      clear H
      go_wp2
      repeat (go_quiet (fail); try go_wp2)
      go_meet
      case rel => exact ⟨_, (true), (by first | rfl | (simp; done) | (simp [*]; done)), H', ⟨by first | omega | exact Nat.le_refl _⟩, ⟨by repeat (first | (with_reducible first | exact HI0.out | apply IsS71.alloc | apply IsS71.drewN | apply IsS71.drew | apply IsS71.set_1) | exact HI0.out)⟩, ⟨by repeat (first | (with_reducible first | exact HK.out | apply KeepBut.set_ | apply keep_drewN | apply keep_drew | apply keep_alloc) | exact HK.out)⟩, ⟨by repeat (first | (with_reducible first | exact HB.out | apply below_alloc | apply pw_below_drewN | apply below_drew1 | refine below_set ?_ (IsS71.ge HI0.out)) | exact HB.out)⟩⟩
    · rw [if_neg c5] at H
      have c5b0 : decide (a1 < 1) = false := decide_eq_false c5
      clear c5
      (first | rw [c5b0] | (simp only [i64_w, i32_w]; rw [c5b0]) | skip)
      have H' := Aside0.mk H
      clear H
      obtain ⟨ASz6_0, cSz6_0, HGz6, hgz6, HSz6_0⟩ := HI0.out
      have hcz6_0 := cellS71_0 HGz6
      have hcz6_1 := cellS71_1 HGz6
      have hfz6_1 := blk_frozen HGz6 1
      clear HGz6 hgz6
      go_wp2
      repeat (go_quiet (fail); try go_wp2)
      go_meet
      case rel => exact ⟨_, (((s0_0.length : Int) == 0)), (by first | rfl | (simp; done) | (simp [*]; done)), H', ⟨by first | omega | exact Nat.le_refl _⟩, ⟨by repeat (first | (with_reducible first | exact HI0.out | apply IsS71.alloc | apply IsS71.drewN | apply IsS71.drew | apply IsS71.set_1) | exact HI0.out)⟩, ⟨by repeat (first | (with_reducible first | exact HK.out | apply KeepBut.set_ | apply keep_drewN | apply keep_drew | apply keep_alloc) | exact HK.out)⟩, ⟨by repeat (first | (with_reducible first | exact HB.out | apply below_alloc | apply pw_below_drewN | apply below_drew1 | refine below_set ?_ (IsS71.ge HI0.out)) | exact HB.out)⟩⟩
  case rest =>
    clear HC3
    try clear p2
    try clear c4
    try clear c5
    try clear c5b0
    try clear p6
    try clear hcz4_0
    try clear hcz4_1
    try clear hcz6_0
    try clear hcz6_1
    try clear hfz4_1
    try clear hfz6_1
    obtain ⟨kq, x24_2, rfl, HA, HJ2, HI0, HK, HB⟩ := hcut
    cases kq with
    | zero => exact absurd HA.out (by simp [spec_l1Rd_pick.j0])
    | succ kj2 =>
      have H := HA.out
      clear HA
      simp only [spec_l1Rd_pick.j0] at H
      by_cases c7 : x24_2 = true
      · subst c7
        have H1 : (some (0, (wrap64 (s0_1 + 1)))) = some (r1, r2) := by rw [if_pos rfl] at H; exact H
        clear H
        have H := H1
        clear H1
        simp only [Option.some.injEq, Prod.mk.injEq] at H
        obtain ⟨rfl, rfl⟩ := H
        go_wp2
        repeat (go_quiet (fail); try go_wp2)
        go_ret
        exact ⟨by first | rfl | (simp [errW_none, errW_some] <;> rfl) | (simp [*, errW_none, errW_some] <;> rfl), by repeat (first | (with_reducible first | exact HI0.out | apply IsS71.alloc | apply IsS71.drewN | apply IsS71.drew | apply IsS71.set_1) | exact HI0.out), by repeat (first | (with_reducible first | exact HB.out | apply below_alloc | apply pw_below_drewN | apply below_drew1 | refine below_set ?_ (IsS71.ge HI0.out)) | exact HB.out), by repeat (first | (with_reducible first | exact HK.out | apply KeepBut.set_ | apply keep_drewN | apply keep_drew | apply keep_alloc) | exact HK.out)⟩
      · replace c7 := Bool.eq_false_iff.mpr c7
        subst c7
        have H1 : (if (wrap64 ((wrap64 (s0_1 + 1)) - 1)) < (s0_0.length : Int) then (if 0 ≤ (wrap64 ((wrap64 (s0_1 + 1)) - 1)) then (if a1 = 0 then (none) else (some (Int.tmod (wrap64 (rd s0_0 (wrap64 ((wrap64 (s0_1 + 1)) - 1)))) a1, (wrap64 (s0_1 + 1))))) else (none)) else (if (s0_0.length : Int) = 0 then (none) else (if 0 ≤ (Int.tmod (wrap64 ((wrap64 (s0_1 + 1)) - 1)) (s0_0.length : Int)) then (if (Int.tmod (wrap64 ((wrap64 (s0_1 + 1)) - 1)) (s0_0.length : Int)) < (s0_0.length : Int) then (if 0 ≤ (Int.tmod (wrap64 ((wrap64 ((wrap64 ((wrap64 (s0_1 + 1)) - 1)) * 7)) + 3)) (s0_0.length : Int)) then (if (Int.tmod (wrap64 ((wrap64 ((wrap64 ((wrap64 (s0_1 + 1)) - 1)) * 7)) + 3)) (s0_0.length : Int)) < (s0_0.length : Int) then (if a1 = 0 then (none) else (some (Int.tmod (Go.bits .xor .i64 (wrap64 ((wrap64 ((wrap64 ((wrap64 ((wrap64 (rd s0_0 (Int.tmod (wrap64 ((wrap64 (s0_1 + 1)) - 1)) (s0_0.length : Int)))) * 131)) + (wrap64 ((wrap64 (rd s0_0 (Int.tmod (wrap64 ((wrap64 ((wrap64 ((wrap64 (s0_1 + 1)) - 1)) * 7)) + 3)) (s0_0.length : Int)))) * 1117)))) + (wrap64 ((wrap64 ((wrap64 (s0_1 + 1)) - 1)) * 29)))) + (wrap64 ((wrap64 (Int.tdiv (wrap64 ((wrap64 (s0_1 + 1)) - 1)) (s0_0.length : Int))) * 53)))) (wrap64 (Int.tdiv (wrap64 ((wrap64 ((wrap64 ((wrap64 ((wrap64 (rd s0_0 (Int.tmod (wrap64 ((wrap64 (s0_1 + 1)) - 1)) (s0_0.length : Int)))) * 131)) + (wrap64 ((wrap64 (rd s0_0 (Int.tmod (wrap64 ((wrap64 ((wrap64 ((wrap64 (s0_1 + 1)) - 1)) * 7)) + 3)) (s0_0.length : Int)))) * 1117)))) + (wrap64 ((wrap64 ((wrap64 (s0_1 + 1)) - 1)) * 29)))) + (wrap64 ((wrap64 (Int.tdiv (wrap64 ((wrap64 (s0_1 + 1)) - 1)) (s0_0.length : Int))) * 53)))) 64))) a1, (wrap64 (s0_1 + 1))))) else (none)) else (none)) else (none)) else (none)))) = some (r1, r2) := by rw [if_neg (show ¬ (false = true) by decide)] at H; exact H
        clear H
        have H := H1
        clear H1
        by_cases c8 : (wrap64 ((wrap64 (s0_1 + 1)) - 1)) < (s0_0.length : Int)
        · rw [if_pos c8] at H
          have c8b0 : decide ((wrap64 ((wrap64 (s0_1 + 1)) - 1)) < (s0_0.length : Int)) = true := decide_eq_true c8
          clear c8
          obtain ⟨ji9, hji9⟩ : ∃ j_ : Int, (wrap64 ((wrap64 (s0_1 + 1)) - 1)) = j_ := ⟨_, rfl⟩
          replace H : (if 0 ≤ (ji9) then (if a1 = 0 then (none) else (some (Int.tmod (wrap64 (rd s0_0 (ji9))) a1, (wrap64 (s0_1 + 1))))) else (none)) = some (r1, r2) := by first | (rw [hji9] at H; exact H) | (simp only [hji9] at H ⊢; exact H)
          (try rw [hji9] at c8b0)
          have hji9w : (IntKind.i64.wrap ((wrap64 (s0_1 + 1)) - 1)) = ji9 := (i64_w _).trans hji9
          by_cases c10 : 0 ≤ (ji9)
          · rw [if_pos c10] at H
            have c10b0 : decide (0 ≤ (ji9)) = true := decide_eq_true c10
            clear c10
            by_cases c11 : a1 = 0
            · rw [if_pos c11] at H
              exact absurd H (by simp)
            · rw [if_neg c11] at H
              have c11b0 : (a1 == 0) = false := beq_eq_false_iff_ne.mpr c11
              have c11b1 : (a1 != 0) = true := bne_iff_ne.mpr c11
              simp only [Option.some.injEq, Prod.mk.injEq] at H
              obtain ⟨rfl, rfl⟩ := H
              obtain ⟨ASz12_0, cSz12_0, HGz12, hgz12, HSz12_0⟩ := HI0.out
              have hcz12_0 := cellS71_0 HGz12
              have hcz12_1 := cellS71_1 HGz12
              have hfz12_1 := blk_frozen HGz12 1
              clear HGz12 hgz12
              have p210 : 0 ≤ ((ji9) : Int) := of_decide_eq_true (by first | (with_reducible assumption) | assumption)
              have q210 : (ji9) < (s0_0.length : Int) := of_decide_eq_true (by first | (with_reducible assumption) | assumption)
              obtain ⟨ad210, e210, hx210_0⟩ := Kd.at_int HSz12_0 (ji9) p210 q210
              cases e210
              replace hx210_0 := pw_cell_below HB.out hx210_0
              replace p210 := eq_true p210
              replace q210 := eq_true q210
              go_wp2
              repeat (go_quiet (fail); try go_wp2)
              go_ret
              exact ⟨by first | rfl | (simp [errW_none, errW_some] <;> rfl) | (simp only [← hji9]; first | rfl | (simp [errW_none, errW_some] <;> rfl)) | (simp [*, errW_none, errW_some] <;> rfl), by repeat (first | (with_reducible first | exact HI0.out | apply IsS71.alloc | apply IsS71.drewN | apply IsS71.drew | apply IsS71.set_1) | exact HI0.out), by repeat (first | (with_reducible first | exact HB.out | apply below_alloc | apply pw_below_drewN | apply below_drew1 | refine below_set ?_ (IsS71.ge HI0.out)) | exact HB.out), by repeat (first | (with_reducible first | exact HK.out | apply KeepBut.set_ | apply keep_drewN | apply keep_drew | apply keep_alloc) | exact HK.out)⟩
          · rw [if_neg c10] at H
            exact absurd H (by simp)
        · rw [if_neg c8] at H
          have c8b0 : decide ((wrap64 ((wrap64 (s0_1 + 1)) - 1)) < (s0_0.length : Int)) = false := decide_eq_false c8
          clear c8
          by_cases c13 : (s0_0.length : Int) = 0
          · rw [if_pos c13] at H
            exact absurd H (by simp)
          · rw [if_neg c13] at H
            have c13b0 : ((s0_0.length : Int) == 0) = false := beq_eq_false_iff_ne.mpr c13
            have c13b1 : ((s0_0.length : Int) != 0) = true := bne_iff_ne.mpr c13
            have c13b2 : ¬ (s0_0 = []) := fun h_ => c13 (by rw [h_]; rfl)
            obtain ⟨ji14, hji14⟩ : ∃ j_ : Int, (Int.tmod (wrap64 ((wrap64 (s0_1 + 1)) - 1)) (s0_0.length : Int)) = j_ := ⟨_, rfl⟩
            replace H : (if 0 ≤ (ji14) then (if (ji14) < (s0_0.length : Int) then (if 0 ≤ (Int.tmod (wrap64 ((wrap64 ((wrap64 ((wrap64 (s0_1 + 1)) - 1)) * 7)) + 3)) (s0_0.length : Int)) then (if (Int.tmod (wrap64 ((wrap64 ((wrap64 ((wrap64 (s0_1 + 1)) - 1)) * 7)) + 3)) (s0_0.length : Int)) < (s0_0.length : Int) then (if a1 = 0 then (none) else (some (Int.tmod (Go.bits .xor .i64 (wrap64 ((wrap64 ((wrap64 ((wrap64 ((wrap64 (rd s0_0 (ji14))) * 131)) + (wrap64 ((wrap64 (rd s0_0 (Int.tmod (wrap64 ((wrap64 ((wrap64 ((wrap64 (s0_1 + 1)) - 1)) * 7)) + 3)) (s0_0.length : Int)))) * 1117)))) + (wrap64 ((wrap64 ((wrap64 (s0_1 + 1)) - 1)) * 29)))) + (wrap64 ((wrap64 (Int.tdiv (wrap64 ((wrap64 (s0_1 + 1)) - 1)) (s0_0.length : Int))) * 53)))) (wrap64 (Int.tdiv (wrap64 ((wrap64 ((wrap64 ((wrap64 ((wrap64 (rd s0_0 (ji14))) * 131)) + (wrap64 ((wrap64 (rd s0_0 (Int.tmod (wrap64 ((wrap64 ((wrap64 ((wrap64 (s0_1 + 1)) - 1)) * 7)) + 3)) (s0_0.length : Int)))) * 1117)))) + (wrap64 ((wrap64 ((wrap64 (s0_1 + 1)) - 1)) * 29)))) + (wrap64 ((wrap64 (Int.tdiv (wrap64 ((wrap64 (s0_1 + 1)) - 1)) (s0_0.length : Int))) * 53)))) 64))) a1, (wrap64 (s0_1 + 1))))) else (none)) else (none)) else (none)) else (none)) = some (r1, r2) := by first | (rw [hji14] at H; exact H) | (simp only [hji14] at H ⊢; exact H)
            by_cases c15 : 0 ≤ (ji14)
            · rw [if_pos c15] at H
              have c15b0 : decide (0 ≤ (ji14)) = true := decide_eq_true c15
              clear c15
              by_cases c16 : (ji14) < (s0_0.length : Int)
              · rw [if_pos c16] at H
                have c16b0 : decide ((ji14) < (s0_0.length : Int)) = true := decide_eq_true c16
                clear c16
                obtain ⟨ji17, hji17⟩ : ∃ j_ : Int, (Int.tmod (wrap64 ((wrap64 ((wrap64 ((wrap64 (s0_1 + 1)) - 1)) * 7)) + 3)) (s0_0.length : Int)) = j_ := ⟨_, rfl⟩
                replace H : (if 0 ≤ (ji17) then (if (ji17) < (s0_0.length : Int) then (if a1 = 0 then (none) else (some (Int.tmod (Go.bits .xor .i64 (wrap64 ((wrap64 ((wrap64 ((wrap64 ((wrap64 (rd s0_0 (ji14))) * 131)) + (wrap64 ((wrap64 (rd s0_0 (ji17))) * 1117)))) + (wrap64 ((wrap64 ((wrap64 (s0_1 + 1)) - 1)) * 29)))) + (wrap64 ((wrap64 (Int.tdiv (wrap64 ((wrap64 (s0_1 + 1)) - 1)) (s0_0.length : Int))) * 53)))) (wrap64 (Int.tdiv (wrap64 ((wrap64 ((wrap64 ((wrap64 ((wrap64 (rd s0_0 (ji14))) * 131)) + (wrap64 ((wrap64 (rd s0_0 (ji17))) * 1117)))) + (wrap64 ((wrap64 ((wrap64 (s0_1 + 1)) - 1)) * 29)))) + (wrap64 ((wrap64 (Int.tdiv (wrap64 ((wrap64 (s0_1 + 1)) - 1)) (s0_0.length : Int))) * 53)))) 64))) a1, (wrap64 (s0_1 + 1))))) else (none)) else (none)) = some (r1, r2) := by first | (rw [hji17] at H; exact H) | (simp only [hji17] at H ⊢; exact H)
                by_cases c18 : 0 ≤ (ji17)
                · rw [if_pos c18] at H
                  have c18b0 : decide (0 ≤ (ji17)) = true := decide_eq_true c18
                  clear c18
                  by_cases c19 : (ji17) < (s0_0.length : Int)
                  · rw [if_pos c19] at H
                    have c19b0 : decide ((ji17) < (s0_0.length : Int)) = true := decide_eq_true c19
                    clear c19
                    by_cases c20 : a1 = 0
                    · rw [if_pos c20] at H
                      exact absurd H (by simp)
                    · rw [if_neg c20] at H
                      have c20b0 : (a1 == 0) = false := beq_eq_false_iff_ne.mpr c20
                      have c20b1 : (a1 != 0) = true := bne_iff_ne.mpr c20
                      simp only [Option.some.injEq, Prod.mk.injEq] at H
                      obtain ⟨rfl, rfl⟩ := H
                      obtain ⟨ASz21_0, cSz21_0, HGz21, hgz21, HSz21_0⟩ := HI0.out
                      have hcz21_0 := cellS71_0 HGz21
                      have hcz21_1 := cellS71_1 HGz21
                      have hfz21_1 := blk_frozen HGz21 1
                      clear HGz21 hgz21
                      have p211 : 0 ≤ ((ji14) : Int) := of_decide_eq_true (by first | (with_reducible assumption) | assumption)
                      have q211 : (ji14) < (s0_0.length : Int) := of_decide_eq_true (by first | (with_reducible assumption) | assumption)
                      obtain ⟨ad211, e211, hx211_0⟩ := Kd.at_int HSz21_0 (ji14) p211 q211
                      cases e211
                      replace hx211_0 := pw_cell_below HB.out hx211_0
                      replace p211 := eq_true p211
                      replace q211 := eq_true q211
                      have p212 : 0 ≤ ((ji17) : Int) := of_decide_eq_true (by first | (with_reducible assumption) | assumption)
                      have q212 : (ji17) < (s0_0.length : Int) := of_decide_eq_true (by first | (with_reducible assumption) | assumption)
                      obtain ⟨ad212, e212, hx212_0⟩ := Kd.at_int HSz21_0 (ji17) p212 q212
                      obtain rfl : ad211 = ad212 := (by injection e212)
                      replace hx212_0 := pw_cell_below HB.out hx212_0
                      replace p212 := eq_true p212
                      replace q212 := eq_true q212
                      go_wp2
                      repeat (go_quiet (fail); try go_wp2)
                      go_ret
                      exact ⟨by first | rfl | (simp [errW_none, errW_some] <;> rfl) | (simp only [← hji14, ← hji17]; first | rfl | (simp [errW_none, errW_some] <;> rfl)) | (simp [*, errW_none, errW_some] <;> rfl), by repeat (first | (with_reducible first | exact HI0.out | apply IsS71.alloc | apply IsS71.drewN | apply IsS71.drew | apply IsS71.set_1) | exact HI0.out), by repeat (first | (with_reducible first | exact HB.out | apply below_alloc | apply pw_below_drewN | apply below_drew1 | refine below_set ?_ (IsS71.ge HI0.out)) | exact HB.out), by repeat (first | (with_reducible first | exact HK.out | apply KeepBut.set_ | apply keep_drewN | apply keep_drew | apply keep_alloc) | exact HK.out)⟩
                  · rw [if_neg c19] at H
                    exact absurd H (by simp)
                · rw [if_neg c18] at H
                  exact absurd H (by simp)
              · rw [if_neg c16] at H
                exact absurd H (by simp)
            · rw [if_neg c15] at H
              exact absurd H (by simp)

end Go.Proofs.Ytojehfdioeglgaa.S

namespace Go.Proofs.Ytojehfdioeglgaa.S
open Go.RowKit Go.Proofs.YtojehfdioeglgaaW.PrintWords Go.Proofs.YtojehfdioeglgaaW.PrintLast Go.Proofs.YtojehfdioeglgaaW.PrintMore
attribute [local go_sem] max2_int min2_int max_two min_two max_three min_three max_four min_four   -- for this text's walks alone
set_option linter.unusedVariables false
set_option linter.unusedSimpArgs false

/-! ### spec_l1Rd_one: function 70 -/
def spec_l1Rd_one.f (k : Nat) (s0_0 : List Int) (s0_1 : Int) (l1 : List Int) : Option (Int × Int) := (spec_l1Rd_pick.f k s0_0 s0_1 (l1.length : Int)).bind fun bt213 => (if 0 ≤ bt213.1 then (if bt213.1 < (l1.length : Int) then (some (rd l1 bt213.1, bt213.2)) else (none)) else (none))
theorem spec_l1Rd_one.mono : ∀ a0 a1 a2 k, LeO (spec_l1Rd_one.f k a0 a1 a2) (spec_l1Rd_one.f (k + 1) a0 a1 a2) := by
  intro a0 a1 a2 k
  unfold spec_l1Rd_one.f
  repeat' first
      | (with_reducible exact spec_l1Rd_pick.mono _ _ _ _)
      | (with_reducible exact LeO.refl _)
      | (with_reducible exact LeO.none _)
      | (with_reducible refine LeO.ite ?_ ?_)
      | (with_reducible refine LeO.bind ?_ (fun _ => ?_))
      | exact spec_l1Rd_pick.mono _ _ _ _
      | exact LeO.none _
      | refine LeO.ite ?_ ?_
      | refine LeO.bind ?_ (fun _ => ?_)
set_option maxHeartbeats 8000000 in
set_option maxRecDepth 100000 in
theorem spec_l1Rd_one.calls (k : Nat) (g : Nat) (s0_0 : List Int) (s0_1 : Int) (A1 : Option Addr) (c1 : Nat) (l1 : List Int) (r1 : Int) (r2 : Int) (w0 w : World) (hI : IsS71 w0 w g s0_0 s0_1) (hB : Below w0.heap.size w0 w) (hr1 : Kd.C (Kd.int .i64) w A1 l1.length l1) (hc1 : l1.length ≤ c1) (hf1 : ∀ ad, A1 = some ad → 0 < l1.length → ad.block ≠ g) (h : spec_l1Rd_one.f k s0_0 s0_1 l1 = some (r1, r2)) :
    Calls Try.prog 70 #[.pointer (some ⟨g, 0, none⟩), .slice A1 l1.length c1] w fun e w' => e = .returned (.int .i64 r1) ∧ IsS71 w0 w' g s0_0 r2 ∧ Below w0.heap.size w0 w' ∧ KeepBut w w' g none := by
  have HR1 := Aside0.mk hr1
  have HC1 := Aside0.mk hc1
  clear hr1 hc1
  have HI0 := Aside0.mk hI
  have HK := Aside0.mk (KeepBut.refl w g none)
  have HL := Aside0.mk hB.size
  clear hI
  have HW0 := Aside0.mk hB.size
  have HB := Aside0.mk hB
  clear hB
  have H : ((spec_l1Rd_pick.f k s0_0 s0_1 (l1.length : Int)).bind fun bt213 => (if 0 ≤ bt213.1 then (if bt213.1 < (l1.length : Int) then (some (rd l1 bt213.1, bt213.2)) else (none)) else (none))) = some (r1, r2) := h
  clear h
  replace H := Option.bind_eq_some_iff.mp H
  obtain ⟨⟨t213, t214⟩, A30, H⟩ := H
  replace H : (if 0 ≤ t213 then (if t213 < (l1.length : Int) then (some (rd l1 t213, t214)) else (none)) else (none)) = some (r1, r2) := H
  have A3 := Aside0.mk A30
  clear A30
  by_cases c4 : 0 ≤ t213
  · rw [if_pos c4] at H
    have c4b0 : decide (0 ≤ t213) = true := decide_eq_true c4
    clear c4
    by_cases c5 : t213 < (l1.length : Int)
    · rw [if_pos c5] at H
      have c5b0 : decide (t213 < (l1.length : Int)) = true := decide_eq_true c5
      clear c5
      simp only [Option.some.injEq, Prod.mk.injEq] at H
      obtain ⟨rfl, rfl⟩ := H
      go_enter Try.func70, Try.ntmps70
      go_wp2_with (first | ((with_reducible refine gate_callee (f := 44) rfl ?_); refine goesL_ (some 9) rfl rfl Try.func44 (by kernel_rfl) rfl #[.pointer (some ⟨g, 0, none⟩), .int .i64 (l1.length : Int)] rfl (by (try simp only [List.map_toArray, List.map_cons, List.map_nil]); first | done | rfl | (simp only [List.length_drop, List.length_take]; rfl)) ?_; (with_reducible refine (spec_l1Rd_pick.calls k g s0_0 s0_1 (l1.length : Int) t213 t214 w0 _ ?side1 ?side2 A3.out).mono ?_); (case side1 => repeat (first | (with_reducible first | exact HI0.out | apply IsS71.alloc | apply IsS71.drewN | apply IsS71.drew | apply IsS71.set_1) | exact HI0.out)); (case side2 => repeat (first | (with_reducible first | exact HB.out | apply below_alloc | apply pw_below_drewN | apply below_drew1 | refine below_set ?_ (IsS71.ge HI0.out)) | exact HB.out)); rintro e w6 ⟨rfl, hi, hb, hk⟩; refine ⟨_, rfl, ?_⟩; have n0_ := Aside0.mk (KeepBut.trans (by repeat (first | (with_reducible first | exact HK.out | apply KeepBut.set_ | apply keep_drewN | apply keep_drew | apply keep_alloc) | exact HK.out)) hk (.inl rfl)); have n1_ := Aside0.mk (hb); have n2_ := Aside0.mk (hi); clear HK; clear HB; clear HI0; have HK := n0_; have HB := n1_; have HI0 := n2_; clear n0_ n1_ n2_; (try clear hb); (try clear hb2); (try clear hk); (try clear hi); have p215 : 0 ≤ (t213 : Int) := of_decide_eq_true (by first | (with_reducible assumption) | assumption); have q215 : t213 < (l1.length : Int) := of_decide_eq_true (by first | (with_reducible assumption) | assumption); obtain ⟨ad215, e215, hx215_0⟩ := Kd.at_int HR1.out t213 p215 q215; cases e215; replace hx215_0 := keep_cell HK.out hx215_0 (by first | (rw [add_block]; exact hf1 _ rfl (by omega)) | exact hf1 _ rfl (by omega) | exact hf1 ad215 rfl (by omega)); replace p215 := eq_true p215; replace q215 := eq_true q215))
      go_ret
      exact ⟨by first | rfl | (simp [errW_none, errW_some] <;> rfl) | (simp [*, errW_none, errW_some] <;> rfl), by repeat (first | (with_reducible first | exact HI0.out | apply IsS71.alloc | apply IsS71.drewN | apply IsS71.drew | apply IsS71.set_1) | exact HI0.out), by repeat (first | (with_reducible first | exact HB.out | apply below_alloc | apply pw_below_drewN | apply below_drew1 | refine below_set ?_ (IsS71.ge HI0.out)) | exact HB.out), by repeat (first | (with_reducible first | exact HK.out | apply KeepBut.set_ | apply keep_drewN | apply keep_drew | apply keep_alloc) | exact HK.out)⟩
    · rw [if_neg c5] at H
      exact absurd H (by simp)
  · rw [if_neg c4] at H
    exact absurd H (by simp)

end Go.Proofs.Ytojehfdioeglgaa.S

namespace Go.Proofs.Ytojehfdioeglgaa.S
open Go.RowKit Go.Proofs.YtojehfdioeglgaaW.PrintWords Go.Proofs.YtojehfdioeglgaaW.PrintLast Go.Proofs.YtojehfdioeglgaaW.PrintMore
attribute [local go_sem] max2_int min2_int max_two min_two max_three min_three max_four min_four   -- for this text's walks alone
set_option linter.unusedVariables false
set_option linter.unusedSimpArgs false

/-! ### spec_l13Classes: function 43 -/
def spec_l13Classes.l0 : Nat → List Int → Int → List Int → Int → Option (List Int × Int)
  | 0, _, _, _, _ => none
  | k + 1, x3, x4, x1000, x1001 => if x4 > 0 then ((spec_l1Rd_pick.f k x1000 x1001 9).bind fun bt221 => ((spec_l1Rd_pick.f k x1000 bt221.2 8).bind fun bt223 => ((spec_l1Rd_pick.f k x1000 bt223.2 3).bind fun bt225 => ((spec_l1Rd_pick.f k x1000 bt225.2 4).bind fun bt227 => ((some (([wrap64 (1 + bt221.1), wrap64 (1 + bt223.1), wrap64 (11 + bt225.1), wrap64 (19 + bt227.1)] : List Int) : List Int)).bind fun y229 => ((spec_l1Rd_pick.f k x1000 bt227.2 4).bind fun bt232 => (if 0 ≤ bt232.1 then (if bt232.1 < (y229.length : Int) then (if x3.length < 17592186044416 then (spec_l13Classes.l0 k (x3 ++ [rd y229 bt232.1]) (wrap64 (x4 - 1)) x1000 bt232.2) else (none)) else (none)) else (none)))))))) else ((spec_l1Rd_pick.f k x1000 x1001 20).bind fun bt238 => (if bt238.1 = 0 then ((spec_l1Rd_one.f k x1000 bt238.2 (([0, 23, (-1)] : List Int))).bind fun bt243 => (if x3.length < 17592186044416 then (some ((x3 ++ [bt243.1]), bt243.2)) else (none))) else (some (x3, bt238.2))))
def spec_l13Classes.f (k : Nat) (s0_0 : List Int) (s0_1 : Int) : Option (List Int × Int) := (spec_l1Rd_pick.f k s0_0 s0_1 14).bind fun bt219 => (spec_l13Classes.l0 k (([] : List Int)) bt219.1 s0_0 bt219.2)
theorem spec_l13Classes.mono_l : ∀ k, (∀ y0 y1 y2 y3, LeO (spec_l13Classes.l0 k y0 y1 y2 y3) (spec_l13Classes.l0 (k + 1) y0 y1 y2 y3))
  | 0 => fun _ _ _ _ r h => by simp [spec_l13Classes.l0] at h
  | k + 1 => by
    have ih0 := spec_l13Classes.mono_l k
    · intro y0 y1 y2 y3
      unfold spec_l13Classes.l0
      repeat' first
      | (with_reducible exact ih0 _ _ _ _)
      | (with_reducible exact spec_l1Rd_one.mono _ _ _ _)
      | (with_reducible exact spec_l1Rd_pick.mono _ _ _ _)
      | (with_reducible exact LeO.refl _)
      | (with_reducible exact LeO.none _)
      | (with_reducible refine LeO.ite ?_ ?_)
      | (with_reducible refine LeO.bind ?_ (fun _ => ?_))
      | exact ih0 _ _ _ _
      | exact spec_l1Rd_one.mono _ _ _ _
      | exact spec_l1Rd_pick.mono _ _ _ _
      | exact LeO.none _
      | refine LeO.ite ?_ ?_
      | refine LeO.bind ?_ (fun _ => ?_)
theorem spec_l13Classes.mono : ∀ a0 a1 k, LeO (spec_l13Classes.f k a0 a1) (spec_l13Classes.f (k + 1) a0 a1) := by
  intro a0 a1 k
  have ih0 := spec_l13Classes.mono_l k
  unfold spec_l13Classes.f
  repeat' first
      | (with_reducible exact ih0 _ _ _ _)
      | (with_reducible exact spec_l1Rd_one.mono _ _ _ _)
      | (with_reducible exact spec_l1Rd_pick.mono _ _ _ _)
      | (with_reducible exact LeO.refl _)
      | (with_reducible exact LeO.none _)
      | (with_reducible refine LeO.ite ?_ ?_)
      | (with_reducible refine LeO.bind ?_ (fun _ => ?_))
      | exact ih0 _ _ _ _
      | exact spec_l1Rd_one.mono _ _ _ _
      | exact spec_l1Rd_pick.mono _ _ _ _
      | exact LeO.none _
      | refine LeO.ite ?_ ?_
      | refine LeO.bind ?_ (fun _ => ?_)
set_option maxHeartbeats 8000000 in
set_option maxRecDepth 100000 in
theorem spec_l13Classes.calls (k : Nat) (g : Nat) (s0_0 : List Int) (s0_1 : Int) (r1 : List Int) (r2 : Int) (w0 w : World) (hI : IsS71 w0 w g s0_0 s0_1) (hB : Below w0.heap.size w0 w) (h : spec_l13Classes.f k s0_0 s0_1 = some (r1, r2)) :
    Calls Try.prog 43 #[.pointer (some ⟨g, 0, none⟩)] w fun e w' => ∃ v0_ : Value, e = .returned (v0_) ∧ Kd.R (Kd.int .i64) 3 w' w.heap.size (fun _ => True) v0_ r1 ∧ IsS71 w0 w' g s0_0 r2 ∧ Below w0.heap.size w0 w' ∧ KeepBut w w' g none := by
  have HI0 := Aside0.mk hI
  have HK := Aside0.mk (KeepBut.refl w g none)
  have HL := Aside0.mk hB.size
  clear hI
  have HW0 := Aside0.mk hB.size
  have HB := Aside0.mk hB
  clear hB
  have H : ((spec_l1Rd_pick.f k s0_0 s0_1 14).bind fun bt219 => (spec_l13Classes.l0 k (([] : List Int)) bt219.1 s0_0 bt219.2)) = some (r1, r2) := h
  clear h
  obtain ⟨y216, hy216⟩ : ∃ y_ : List Int, y_ = (([] : List Int)) := ⟨_, rfl⟩
  replace H : ((spec_l1Rd_pick.f k s0_0 s0_1 14).bind fun bt219 => (spec_l13Classes.l0 k y216 bt219.1 s0_0 bt219.2)) = some (r1, r2) := by first | (rw [hy216]; with_reducible exact H) | (have H2_ := (Option.bind_some _ _).symm.trans H; rw [hy216]; with_reducible exact H2_) | (have H2_ := (Option.bind_some _ _).symm.trans H; with_reducible exact H2_) | with_reducible exact H | (rw [hy216]; exact H) | exact H
  have Ny216 := Aside0.mk hy216
  clear hy216
  replace H := Option.bind_eq_some_iff.mp H
  obtain ⟨⟨t219, t220⟩, A20, H⟩ := H
  replace H : (spec_l13Classes.l0 k y216 t219 s0_0 t220) = some (r1, r2) := H
  have A2 := Aside0.mk A20
  clear A20
  have H' := Aside0.mk H
  clear H
  go_enter Try.func43, Try.ntmps43
  go_wp2_with (first | ((with_reducible refine gate_dst (N := 5) rfl ?_); refine Kd.R_lit (Kd.int .i64) _ 3 ?hg (N := 5) ?hd (xs := ([] : List Int)) (inner := []) (ok := fun _ => True) (okp := fun _ => True) ?hr ?hp (fun _ hk => hk) trivial (Below.refl _ _) (Nat.le_refl _) (by simp) ?_; (case hd => rfl); (case hg => rfl); (case hr => first | (go_simp; done) | (go_simp; rfl)); (case hp => exact (Reps.none _ _)); intro v217 w3 ho4 hb hg_ hnew_; clear hg_ hnew_; (first | rw [← Ny216.out] at ho4 | (simp only [Int.reduceToNat] at ho4; rw [← Ny216.out] at ho4)); have n0_ := Aside0.mk (Kd.R_lower ho4 (keep_size (w := w) (g := g) (row := none) (by repeat (first | (with_reducible first | exact HK.out | apply KeepBut.set_ | apply keep_drewN | apply keep_drew | apply keep_alloc) | exact HK.out)))); have n1_ := Aside0.mk (IsS71.below (by repeat (first | (with_reducible first | exact HI0.out | apply IsS71.alloc | apply IsS71.drewN | apply IsS71.drew | apply IsS71.set_1) | exact HI0.out)) hb); have n2_ := Aside0.mk (KeepBut.trans (by repeat (first | (with_reducible first | exact HK.out | apply KeepBut.set_ | apply keep_drewN | apply keep_drew | apply keep_alloc) | exact HK.out)) (KeepBut.of_below hb g none) (.inl rfl)); have n3_ := Aside0.mk (below_step (by repeat (first | (with_reducible first | exact HB.out | apply below_alloc | apply pw_below_drewN | apply below_drew1 | refine below_set ?_ (IsS71.ge HI0.out)) | exact HB.out)) hb); clear HI0; clear HK; clear HB; have HO218 := n0_; have HI0 := n1_; have HK := n2_; have HB := n3_; clear n0_ n1_ n2_ n3_; clear hb ho4) | ((with_reducible refine gate_callee (f := 44) rfl ?_); refine goesL_ (some 7) rfl rfl Try.func44 (by kernel_rfl) rfl #[.pointer (some ⟨g, 0, none⟩), .int .i64 14] rfl (by (try simp only [List.map_toArray, List.map_cons, List.map_nil]); first | done | rfl | (simp only [List.length_drop, List.length_take]; rfl)) ?_; (with_reducible refine (spec_l1Rd_pick.calls k g s0_0 s0_1 14 t219 t220 w0 _ ?side1 ?side2 A2.out).mono ?_); (case side1 => repeat (first | (with_reducible first | exact HI0.out | apply IsS71.alloc | apply IsS71.drewN | apply IsS71.drew | apply IsS71.set_1) | exact HI0.out)); (case side2 => repeat (first | (with_reducible first | exact HB.out | apply below_alloc | apply pw_below_drewN | apply below_drew1 | refine below_set ?_ (IsS71.ge HI0.out)) | exact HB.out)); rintro e w5 ⟨rfl, hi, hb, hk⟩; refine ⟨_, rfl, ?_⟩; have n0_ := Aside0.mk (Kd.R_mono (Kd.R_keep (IsS71.apart (show IsS71 w0 _ g s0_0 s0_1 from by repeat (first | (with_reducible first | exact HI0.out | apply IsS71.alloc | apply IsS71.drewN | apply IsS71.drew | apply IsS71.set_1) | exact HI0.out)) (by (with_reducible repeat (first | apply Kd.R_alloc | apply Kd.R_drewN | apply Kd.R_drew)); exact HO218.out) (by decide)) hk (fun _ h => h.2)) (fun _ h => h.1)); have n1_ := Aside0.mk (KeepBut.trans (by repeat (first | (with_reducible first | exact HK.out | apply KeepBut.set_ | apply keep_drewN | apply keep_drew | apply keep_alloc) | exact HK.out)) hk (.inl rfl)); have n2_ := Aside0.mk (hb); have n3_ := Aside0.mk (hi); clear HO218; clear HK; clear HB; clear HI0; have HO218 := n0_; have HK := n1_; have HB := n2_; have HI0 := n3_; clear n0_ n1_ n2_ n3_; (try clear hb); (try clear hb2); (try clear hk); (try clear hi)))
  go_loopg [3, 4] k (fun kq v3 v4 w' => ∃ (x3_1 : List Int) (x4_1 : Int) (x1001_1 : Int), v4 = .int .i64 x4_1 ∧ Aside0 (spec_l13Classes.l0 kq x3_1 x4_1 s0_0 x1001_1 = some (r1, r2)) ∧ Aside0 (kq ≤ k) ∧ Aside0 (Kd.R (Kd.int .i64) 3 w' w.heap.size (fun _ => True) v3 x3_1) ∧ Aside0 (IsS71 w0 w' g s0_0 x1001_1) ∧ Aside0 (KeepBut w w' g none) ∧ Aside0 (Below w0.heap.size w0 w'))
  case atStart => exact ⟨(y216), (t219), (t220), (by first | rfl | (simp; done) | (simp [*]; done)), H', ⟨Nat.le_refl _⟩, ⟨by (with_reducible repeat (first | apply Kd.R_alloc | apply Kd.R_drewN | apply Kd.R_drew)); exact HO218.out⟩, ⟨by repeat (first | (with_reducible first | exact HI0.out | apply IsS71.alloc | apply IsS71.drewN | apply IsS71.drew | apply IsS71.set_1) | exact HI0.out)⟩, ⟨by repeat (first | (with_reducible first | exact HK.out | apply KeepBut.set_ | apply keep_drewN | apply keep_drew | apply keep_alloc) | exact HK.out)⟩, ⟨by repeat (first | (with_reducible first | exact HB.out | apply below_alloc | apply pw_below_drewN | apply below_drew1 | refine below_set ?_ (IsS71.ge HI0.out)) | exact HB.out)⟩⟩
  case round =>
    clear H'
    try clear p2
    try clear c4
    obtain ⟨x3_1, x4_1, x1001_1, rfl, HA, HK1, HO_3, HI0, HK, HB⟩ := hrel
    cases gk with
    | zero => exact absurd HA.out (by simp [spec_l13Classes.l0])
    | succ k1 =>
      have H := HA.out
      clear HA
      simp only [spec_l13Classes.l0] at H
      by_cases c6 : x4_1 > 0
      · rw [if_pos c6] at H
        have c6b0 : decide (0 < x4_1) = true := decide_eq_true c6
        clear c6
        replace H := Option.bind_eq_some_iff.mp H
        obtain ⟨⟨t221, t222⟩, A70, H⟩ := H
        replace H : ((spec_l1Rd_pick.f k1 s0_0 t222 8).bind fun bt223 => ((spec_l1Rd_pick.f k1 s0_0 bt223.2 3).bind fun bt225 => ((spec_l1Rd_pick.f k1 s0_0 bt225.2 4).bind fun bt227 => ((some (([wrap64 (1 + t221), wrap64 (1 + bt223.1), wrap64 (11 + bt225.1), wrap64 (19 + bt227.1)] : List Int) : List Int)).bind fun y229 => ((spec_l1Rd_pick.f k1 s0_0 bt227.2 4).bind fun bt232 => (if 0 ≤ bt232.1 then (if bt232.1 < (y229.length : Int) then (if x3_1.length < 17592186044416 then (spec_l13Classes.l0 k1 (x3_1 ++ [rd y229 bt232.1]) (wrap64 (x4_1 - 1)) s0_0 bt232.2) else (none)) else (none)) else (none))))))) = some (r1, r2) := H
        have A7 := Aside0.mk A70
        clear A70
        replace H := Option.bind_eq_some_iff.mp H
        obtain ⟨⟨t223, t224⟩, A80, H⟩ := H
        replace H : ((spec_l1Rd_pick.f k1 s0_0 t224 3).bind fun bt225 => ((spec_l1Rd_pick.f k1 s0_0 bt225.2 4).bind fun bt227 => ((some (([wrap64 (1 + t221), wrap64 (1 + t223), wrap64 (11 + bt225.1), wrap64 (19 + bt227.1)] : List Int) : List Int)).bind fun y229 => ((spec_l1Rd_pick.f k1 s0_0 bt227.2 4).bind fun bt232 => (if 0 ≤ bt232.1 then (if bt232.1 < (y229.length : Int) then (if x3_1.length < 17592186044416 then (spec_l13Classes.l0 k1 (x3_1 ++ [rd y229 bt232.1]) (wrap64 (x4_1 - 1)) s0_0 bt232.2) else (none)) else (none)) else (none)))))) = some (r1, r2) := H
        have A8 := Aside0.mk A80
        clear A80
        replace H := Option.bind_eq_some_iff.mp H
        obtain ⟨⟨t225, t226⟩, A90, H⟩ := H
        replace H : ((spec_l1Rd_pick.f k1 s0_0 t226 4).bind fun bt227 => ((some (([wrap64 (1 + t221), wrap64 (1 + t223), wrap64 (11 + t225), wrap64 (19 + bt227.1)] : List Int) : List Int)).bind fun y229 => ((spec_l1Rd_pick.f k1 s0_0 bt227.2 4).bind fun bt232 => (if 0 ≤ bt232.1 then (if bt232.1 < (y229.length : Int) then (if x3_1.length < 17592186044416 then (spec_l13Classes.l0 k1 (x3_1 ++ [rd y229 bt232.1]) (wrap64 (x4_1 - 1)) s0_0 bt232.2) else (none)) else (none)) else (none))))) = some (r1, r2) := H
        have A9 := Aside0.mk A90
        clear A90
        replace H := Option.bind_eq_some_iff.mp H
        obtain ⟨⟨t227, t228⟩, A100, H⟩ := H
        replace H : ((some (([wrap64 (1 + t221), wrap64 (1 + t223), wrap64 (11 + t225), wrap64 (19 + t227)] : List Int) : List Int)).bind fun y229 => ((spec_l1Rd_pick.f k1 s0_0 t228 4).bind fun bt232 => (if 0 ≤ bt232.1 then (if bt232.1 < (y229.length : Int) then (if x3_1.length < 17592186044416 then (spec_l13Classes.l0 k1 (x3_1 ++ [rd y229 bt232.1]) (wrap64 (x4_1 - 1)) s0_0 bt232.2) else (none)) else (none)) else (none)))) = some (r1, r2) := H
        have A10 := Aside0.mk A100
        clear A100
        obtain ⟨y229, hy229⟩ : ∃ y_ : List Int, y_ = (([wrap64 (1 + t221), wrap64 (1 + t223), wrap64 (11 + t225), wrap64 (19 + t227)] : List Int)) := ⟨_, rfl⟩
        replace H : ((spec_l1Rd_pick.f k1 s0_0 t228 4).bind fun bt232 => (if 0 ≤ bt232.1 then (if bt232.1 < (y229.length : Int) then (if x3_1.length < 17592186044416 then (spec_l13Classes.l0 k1 (x3_1 ++ [rd y229 bt232.1]) (wrap64 (x4_1 - 1)) s0_0 bt232.2) else (none)) else (none)) else (none))) = some (r1, r2) := by first | (rw [hy229]; with_reducible exact H) | (have H2_ := (Option.bind_some _ _).symm.trans H; rw [hy229]; with_reducible exact H2_) | (have H2_ := (Option.bind_some _ _).symm.trans H; with_reducible exact H2_) | with_reducible exact H | (rw [hy229]; exact H) | exact H
        have Ny229 := Aside0.mk hy229
        clear hy229
        replace H := Option.bind_eq_some_iff.mp H
        obtain ⟨⟨t232, t233⟩, A110, H⟩ := H
        replace H : (if 0 ≤ t232 then (if t232 < (y229.length : Int) then (if x3_1.length < 17592186044416 then (spec_l13Classes.l0 k1 (x3_1 ++ [rd y229 t232]) (wrap64 (x4_1 - 1)) s0_0 t233) else (none)) else (none)) else (none)) = some (r1, r2) := H
        have A11 := Aside0.mk A110
        clear A110
        by_cases c12 : 0 ≤ t232
        · rw [if_pos c12] at H
          have c12b0 : decide (0 ≤ t232) = true := decide_eq_true c12
          clear c12
          by_cases c13 : t232 < (y229.length : Int)
          · rw [if_pos c13] at H
            have c13b0 : decide (t232 < (y229.length : Int)) = true := decide_eq_true c13
            clear c13
            by_cases c14 : x3_1.length < 17592186044416
            · rw [if_pos c14] at H
              have LMc14 := Aside0.mk c14
              clear c14
              obtain ⟨y235, hy235⟩ : ∃ y_ : List Int, y_ = (x3_1 ++ [rd y229 t232]) := ⟨_, rfl⟩
              replace H : (spec_l13Classes.l0 k1 y235 (wrap64 (x4_1 - 1)) s0_0 t233) = some (r1, r2) := by first | (rw [hy235]; with_reducible exact H) | (have H2_ := (Option.bind_some _ _).symm.trans H; rw [hy235]; with_reducible exact H2_) | (have H2_ := (Option.bind_some _ _).symm.trans H; with_reducible exact H2_) | with_reducible exact H | (rw [hy235]; exact H) | exact H
              have Ny235 := Aside0.mk hy235
              clear hy235
              have H' := Aside0.mk H
              clear H
              go_wp2_with (first | ((with_reducible refine gate_callee (f := 44) rfl ?_); refine goesL_ (some 14) rfl rfl Try.func44 (by kernel_rfl) rfl #[.pointer (some ⟨g, 0, none⟩), .int .i64 9] rfl (by (try simp only [List.map_toArray, List.map_cons, List.map_nil]); first | done | rfl | (simp only [List.length_drop, List.length_take]; rfl)) ?_; (with_reducible refine (spec_l1Rd_pick.calls k1 g s0_0 x1001_1 9 t221 t222 w0 _ ?side1 ?side2 A7.out).mono ?_); (case side1 => repeat (first | (with_reducible first | exact HI0.out | apply IsS71.alloc | apply IsS71.drewN | apply IsS71.drew | apply IsS71.set_1) | exact HI0.out)); (case side2 => repeat (first | (with_reducible first | exact HB.out | apply below_alloc | apply pw_below_drewN | apply below_drew1 | refine below_set ?_ (IsS71.ge HI0.out)) | exact HB.out)); rintro e w15 ⟨rfl, hi, hb, hk⟩; refine ⟨_, rfl, ?_⟩; have n0_ := Aside0.mk (Kd.R_mono (Kd.R_keep (IsS71.apart (show IsS71 w0 _ g s0_0 x1001_1 from by repeat (first | (with_reducible first | exact HI0.out | apply IsS71.alloc | apply IsS71.drewN | apply IsS71.drew | apply IsS71.set_1) | exact HI0.out)) (by (with_reducible repeat (first | apply Kd.R_alloc | apply Kd.R_drewN | apply Kd.R_drew)); exact HO_3.out) (by decide)) hk (fun _ h => h.2)) (fun _ h => h.1)); have n1_ := Aside0.mk (KeepBut.trans (by repeat (first | (with_reducible first | exact HK.out | apply KeepBut.set_ | apply keep_drewN | apply keep_drew | apply keep_alloc) | exact HK.out)) hk (.inl rfl)); have n2_ := Aside0.mk (hb); have n3_ := Aside0.mk (hi); clear HO_3; clear HK; clear HB; clear HI0; have HO_3 := n0_; have HK := n1_; have HB := n2_; have HI0 := n3_; clear n0_ n1_ n2_ n3_; (try clear hb); (try clear hb2); (try clear hk); (try clear hi)) | ((with_reducible refine gate_callee (f := 44) rfl ?_); refine goesL_ (some 17) rfl rfl Try.func44 (by kernel_rfl) rfl #[.pointer (some ⟨g, 0, none⟩), .int .i64 8] rfl (by (try simp only [List.map_toArray, List.map_cons, List.map_nil]); first | done | rfl | (simp only [List.length_drop, List.length_take]; rfl)) ?_; (with_reducible refine (spec_l1Rd_pick.calls k1 g s0_0 t222 8 t223 t224 w0 _ ?side1 ?side2 A8.out).mono ?_); (case side1 => repeat (first | (with_reducible first | exact HI0.out | apply IsS71.alloc | apply IsS71.drewN | apply IsS71.drew | apply IsS71.set_1) | exact HI0.out)); (case side2 => repeat (first | (with_reducible first | exact HB.out | apply below_alloc | apply pw_below_drewN | apply below_drew1 | refine below_set ?_ (IsS71.ge HI0.out)) | exact HB.out)); rintro e w16 ⟨rfl, hi, hb, hk⟩; refine ⟨_, rfl, ?_⟩; have n0_ := Aside0.mk (Kd.R_mono (Kd.R_keep (IsS71.apart (show IsS71 w0 _ g s0_0 t222 from by repeat (first | (with_reducible first | exact HI0.out | apply IsS71.alloc | apply IsS71.drewN | apply IsS71.drew | apply IsS71.set_1) | exact HI0.out)) (by (with_reducible repeat (first | apply Kd.R_alloc | apply Kd.R_drewN | apply Kd.R_drew)); exact HO_3.out) (by decide)) hk (fun _ h => h.2)) (fun _ h => h.1)); have n1_ := Aside0.mk (KeepBut.trans (by repeat (first | (with_reducible first | exact HK.out | apply KeepBut.set_ | apply keep_drewN | apply keep_drew | apply keep_alloc) | exact HK.out)) hk (.inl rfl)); have n2_ := Aside0.mk (hb); have n3_ := Aside0.mk (hi); clear HO_3; clear HK; clear HB; clear HI0; have HO_3 := n0_; have HK := n1_; have HB := n2_; have HI0 := n3_; clear n0_ n1_ n2_ n3_; (try clear hb); (try clear hb2); (try clear hk); (try clear hi)) | ((with_reducible refine gate_callee (f := 44) rfl ?_); refine goesL_ (some 20) rfl rfl Try.func44 (by kernel_rfl) rfl #[.pointer (some ⟨g, 0, none⟩), .int .i64 3] rfl (by (try simp only [List.map_toArray, List.map_cons, List.map_nil]); first | done | rfl | (simp only [List.length_drop, List.length_take]; rfl)) ?_; (with_reducible refine (spec_l1Rd_pick.calls k1 g s0_0 t224 3 t225 t226 w0 _ ?side1 ?side2 A9.out).mono ?_); (case side1 => repeat (first | (with_reducible first | exact HI0.out | apply IsS71.alloc | apply IsS71.drewN | apply IsS71.drew | apply IsS71.set_1) | exact HI0.out)); (case side2 => repeat (first | (with_reducible first | exact HB.out | apply below_alloc | apply pw_below_drewN | apply below_drew1 | refine below_set ?_ (IsS71.ge HI0.out)) | exact HB.out)); rintro e w17 ⟨rfl, hi, hb, hk⟩; refine ⟨_, rfl, ?_⟩; have n0_ := Aside0.mk (Kd.R_mono (Kd.R_keep (IsS71.apart (show IsS71 w0 _ g s0_0 t224 from by repeat (first | (with_reducible first | exact HI0.out | apply IsS71.alloc | apply IsS71.drewN | apply IsS71.drew | apply IsS71.set_1) | exact HI0.out)) (by (with_reducible repeat (first | apply Kd.R_alloc | apply Kd.R_drewN | apply Kd.R_drew)); exact HO_3.out) (by decide)) hk (fun _ h => h.2)) (fun _ h => h.1)); have n1_ := Aside0.mk (KeepBut.trans (by repeat (first | (with_reducible first | exact HK.out | apply KeepBut.set_ | apply keep_drewN | apply keep_drew | apply keep_alloc) | exact HK.out)) hk (.inl rfl)); have n2_ := Aside0.mk (hb); have n3_ := Aside0.mk (hi); clear HO_3; clear HK; clear HB; clear HI0; have HO_3 := n0_; have HK := n1_; have HB := n2_; have HI0 := n3_; clear n0_ n1_ n2_ n3_; (try clear hb); (try clear hb2); (try clear hk); (try clear hi)) | ((with_reducible refine gate_callee (f := 44) rfl ?_); refine goesL_ (some 23) rfl rfl Try.func44 (by kernel_rfl) rfl #[.pointer (some ⟨g, 0, none⟩), .int .i64 4] rfl (by (try simp only [List.map_toArray, List.map_cons, List.map_nil]); first | done | rfl | (simp only [List.length_drop, List.length_take]; rfl)) ?_; (with_reducible refine (spec_l1Rd_pick.calls k1 g s0_0 t226 4 t227 t228 w0 _ ?side1 ?side2 A10.out).mono ?_); (case side1 => repeat (first | (with_reducible first | exact HI0.out | apply IsS71.alloc | apply IsS71.drewN | apply IsS71.drew | apply IsS71.set_1) | exact HI0.out)); (case side2 => repeat (first | (with_reducible first | exact HB.out | apply below_alloc | apply pw_below_drewN | apply below_drew1 | refine below_set ?_ (IsS71.ge HI0.out)) | exact HB.out)); rintro e w18 ⟨rfl, hi, hb, hk⟩; refine ⟨_, rfl, ?_⟩; have n0_ := Aside0.mk (Kd.R_mono (Kd.R_keep (IsS71.apart (show IsS71 w0 _ g s0_0 t226 from by repeat (first | (with_reducible first | exact HI0.out | apply IsS71.alloc | apply IsS71.drewN | apply IsS71.drew | apply IsS71.set_1) | exact HI0.out)) (by (with_reducible repeat (first | apply Kd.R_alloc | apply Kd.R_drewN | apply Kd.R_drew)); exact HO_3.out) (by decide)) hk (fun _ h => h.2)) (fun _ h => h.1)); have n1_ := Aside0.mk (KeepBut.trans (by repeat (first | (with_reducible first | exact HK.out | apply KeepBut.set_ | apply keep_drewN | apply keep_drew | apply keep_alloc) | exact HK.out)) hk (.inl rfl)); have n2_ := Aside0.mk (hb); have n3_ := Aside0.mk (hi); clear HO_3; clear HK; clear HB; clear HI0; have HO_3 := n0_; have HK := n1_; have HB := n2_; have HI0 := n3_; clear n0_ n1_ n2_ n3_; (try clear hb); (try clear hb2); (try clear hk); (try clear hi)) | ((with_reducible refine gate_dst (N := 25) rfl ?_); refine Kd.R_lit (Kd.int .i64) _ 3 ?hg (N := 25) ?hd (xs := ([wrap64 (1 + t221), wrap64 (1 + t223), wrap64 (11 + t225), wrap64 (19 + t227)] : List Int)) (inner := [.int .i64 (wrap64 (1 + t221)), .int .i64 (wrap64 (1 + t223)), .int .i64 (wrap64 (11 + t225)), .int .i64 (wrap64 (19 + t227))]) (ok := fun _ => True) (okp := fun _ => True) ?hr ?hp (fun _ hk => hk) trivial (Below.refl _ _) (Nat.le_refl _) (by simp) ?_; (case hd => rfl); (case hg => rfl); (case hr => first | (go_simp; done) | (go_simp; rfl)); (case hp => exact (Reps.one (show Kd.M (Kd.int .i64) _ _ _ (wrap64 (1 + t221)) [.int .i64 (wrap64 (1 + t221))] from rfl) (Reps.one (show Kd.M (Kd.int .i64) _ _ _ (wrap64 (1 + t223)) [.int .i64 (wrap64 (1 + t223))] from rfl) (Reps.one (show Kd.M (Kd.int .i64) _ _ _ (wrap64 (11 + t225)) [.int .i64 (wrap64 (11 + t225))] from rfl) (Reps.one (show Kd.M (Kd.int .i64) _ _ _ (wrap64 (19 + t227)) [.int .i64 (wrap64 (19 + t227))] from rfl) (Reps.none _ _)))))); intro v230 w19 ho20 hb hg_ hnew_; clear hg_ hnew_; (first | rw [← Ny229.out] at ho20 | (simp only [Int.reduceToNat] at ho20; rw [← Ny229.out] at ho20)); have n0_ := Aside0.mk (Kd.R_elder' (by (with_reducible repeat (first | apply Kd.R_alloc | apply Kd.R_drewN | apply Kd.R_drew)); exact HO_3.out) (Kd.R_base ho20) hb); have n1_ := Aside0.mk (Kd.R_lower (Kd.R_new' ho20 (Kd.R_lt (by (with_reducible repeat (first | apply Kd.R_alloc | apply Kd.R_drewN | apply Kd.R_drew)); exact HO_3.out))) (keep_size (w := w) (g := g) (row := none) (by repeat (first | (with_reducible first | exact HK.out | apply KeepBut.set_ | apply keep_drewN | apply keep_drew | apply keep_alloc) | exact HK.out)))); have n2_ := Aside0.mk (IsS71.below (by repeat (first | (with_reducible first | exact HI0.out | apply IsS71.alloc | apply IsS71.drewN | apply IsS71.drew | apply IsS71.set_1) | exact HI0.out)) hb); have n3_ := Aside0.mk (KeepBut.trans (by repeat (first | (with_reducible first | exact HK.out | apply KeepBut.set_ | apply keep_drewN | apply keep_drew | apply keep_alloc) | exact HK.out)) (KeepBut.of_below hb g none) (.inl rfl)); have n4_ := Aside0.mk (below_step (by repeat (first | (with_reducible first | exact HB.out | apply below_alloc | apply pw_below_drewN | apply below_drew1 | refine below_set ?_ (IsS71.ge HI0.out)) | exact HB.out)) hb); clear HO_3; clear HI0; clear HK; clear HB; have HO_3 := n0_; have HO231 := n1_; have HI0 := n2_; have HK := n3_; have HB := n4_; clear n0_ n1_ n2_ n3_ n4_; clear hb ho20) | ((with_reducible refine gate_callee (f := 44) rfl ?_); refine goesL_ (some 27) rfl rfl Try.func44 (by kernel_rfl) rfl #[.pointer (some ⟨g, 0, none⟩), .int .i64 4] rfl (by (try simp only [List.map_toArray, List.map_cons, List.map_nil]); first | done | rfl | (simp only [List.length_drop, List.length_take]; rfl)) ?_; (with_reducible refine (spec_l1Rd_pick.calls k1 g s0_0 t228 4 t232 t233 w0 _ ?side1 ?side2 A11.out).mono ?_); (case side1 => repeat (first | (with_reducible first | exact HI0.out | apply IsS71.alloc | apply IsS71.drewN | apply IsS71.drew | apply IsS71.set_1) | exact HI0.out)); (case side2 => repeat (first | (with_reducible first | exact HB.out | apply below_alloc | apply pw_below_drewN | apply below_drew1 | refine below_set ?_ (IsS71.ge HI0.out)) | exact HB.out)); rintro e w21 ⟨rfl, hi, hb, hk⟩; refine ⟨_, rfl, ?_⟩; have n0_ := Aside0.mk (Kd.R_mono (Kd.R_keep (IsS71.apart (show IsS71 w0 _ g s0_0 t228 from by repeat (first | (with_reducible first | exact HI0.out | apply IsS71.alloc | apply IsS71.drewN | apply IsS71.drew | apply IsS71.set_1) | exact HI0.out)) (by (with_reducible repeat (first | apply Kd.R_alloc | apply Kd.R_drewN | apply Kd.R_drew)); exact HO_3.out) (by decide)) hk (fun _ h => h.2)) (fun _ h => h.1)); have n1_ := Aside0.mk (Kd.R_mono (Kd.R_keep (IsS71.apart (show IsS71 w0 _ g s0_0 t228 from by repeat (first | (with_reducible first | exact HI0.out | apply IsS71.alloc | apply IsS71.drewN | apply IsS71.drew | apply IsS71.set_1) | exact HI0.out)) (by (with_reducible repeat (first | apply Kd.R_alloc | apply Kd.R_drewN | apply Kd.R_drew)); exact HO231.out) (by decide)) hk (fun _ h => h.2)) (fun _ h => h.1)); have n2_ := Aside0.mk (KeepBut.trans (by repeat (first | (with_reducible first | exact HK.out | apply KeepBut.set_ | apply keep_drewN | apply keep_drew | apply keep_alloc) | exact HK.out)) hk (.inl rfl)); have n3_ := Aside0.mk (hb); have n4_ := Aside0.mk (hi); clear HO_3; clear HO231; clear HK; clear HB; clear HI0; have HO_3 := n0_; have HO231 := n1_; have HK := n2_; have HB := n3_; have HI0 := n4_; clear n0_ n1_ n2_ n3_ n4_; (try clear hb); (try clear hb2); (try clear hk); (try clear hi); obtain ⟨Ao22, co22, eo22⟩ := Kd.R_slice HO231.out; subst eo22; have p234 : 0 ≤ (t232 : Int) := of_decide_eq_true (by first | (with_reducible assumption) | assumption); have q234 : t232 < (y229.length : Int) := of_decide_eq_true (by first | (with_reducible assumption) | assumption); obtain ⟨ad234, e234, hx234_0⟩ := Kd.at_int (Kd.R_reads' HO231.out).2.2 t232 p234 q234; cases e234; replace p234 := eq_true p234; replace q234 := eq_true q234) | ((with_reducible refine gate_builtin (b := .append) (xs := #[.tmp 12, .tmp 30]) rfl ?_); at_builtin; refine Kd.R_append (Kd.int .i64) w.heap.size rfl (.tmp 12) (.tmp 30) 22 3 (.int .i64 0) 8 rfl Try.underlying22 info3 rfl (by decide) (by omega) u3 x3_1 (rd y229 t232) [.int .i64 (rd y229 t232)] (fun k_ => some k_ ≠ (.slice (some ad234) y229.length co22 : Value).ownBlock) (fun _ => False) rfl rfl ?aP (fun _ hk => hk.elim) ?aF ?aO (Below.refl _ _) ?aS ?aL ?_; (case aP => exact rfl); (case aF => exact (fun k_ hk => Kd.fresh' (Kd.R_lt (by (with_reducible repeat (first | apply Kd.R_alloc | apply Kd.R_drewN | apply Kd.R_drew)); exact HO231.out)) k_ hk)); (case aO => exact (by (with_reducible repeat (first | apply Kd.R_alloc | apply Kd.R_drewN | apply Kd.R_drew)); exact Kd.R_mono HO_3.out (fun _ hk => hk.2))); (case aS => exact (keep_size (w := w) (g := g) (row := none) (by repeat (first | (with_reducible first | exact HK.out | apply KeepBut.set_ | apply keep_drewN | apply keep_drew | apply keep_alloc) | exact HK.out)))); (case aL => have := LMc14.out; omega); intro v236 w23 ho hb hg hat; rw [← Ny235.out] at ho; have n0_ := Aside0.mk (IsS71.grown (by repeat (first | (with_reducible first | exact HI0.out | apply IsS71.alloc | apply IsS71.drewN | apply IsS71.drew | apply IsS71.set_1) | exact HI0.out)) hg (IsS71.own_ne HI0.out HO_3.out (by decide))); have n1_ := Aside0.mk (Kd.R_after (ok := (fun _ => True)) (by (with_reducible repeat (first | apply Kd.R_alloc | apply Kd.R_drewN | apply Kd.R_drew)); exact HO231.out) hg hat); have n2_ := Aside0.mk (below_weaken (by repeat (first | (with_reducible first | exact HB.out | apply below_alloc | apply pw_below_drewN | apply below_drew1 | refine below_set ?_ (IsS71.ge HI0.out)) | exact HB.out)) HL.out hb); have n3_ := Aside0.mk (KeepBut.trans (by repeat (first | (with_reducible first | exact HK.out | apply KeepBut.set_ | apply keep_drewN | apply keep_drew | apply keep_alloc) | exact HK.out)) (KeepBut.of_grown hg g) (Kd.R_base2 HO_3.out)); have n4_ := Aside0.mk (ho); clear HI0; clear HO231; clear HB; clear HK; clear HO_3; have HI0 := n0_; have HO231 := n1_; have HB := n2_; have HK := n3_; have HO237 := n4_; clear n0_ n1_ n2_ n3_ n4_; clear ho hb hg hat))
              go_roundg k1
              case measure => have := HK1.out; omega
              case rel => exact ⟨(y235), (wrap64 (x4_1 - 1)), (t233), (by first | rfl | (simp; done) | (simp [*]; done)), H', ⟨by have := HK1.out; omega⟩, ⟨by (with_reducible repeat (first | apply Kd.R_alloc | apply Kd.R_drewN | apply Kd.R_drew)); exact Kd.R_mono HO237.out (fun _ hk => trivial)⟩, ⟨by repeat (first | (with_reducible first | exact HI0.out | apply IsS71.alloc | apply IsS71.drewN | apply IsS71.drew | apply IsS71.set_1) | exact HI0.out)⟩, ⟨by repeat (first | (with_reducible first | exact HK.out | apply KeepBut.set_ | apply keep_drewN | apply keep_drew | apply keep_alloc) | exact HK.out)⟩, ⟨by repeat (first | (with_reducible first | exact HB.out | apply below_alloc | apply pw_below_drewN | apply below_drew1 | refine below_set ?_ (IsS71.ge HI0.out)) | exact HB.out)⟩⟩
            · rw [if_neg c14] at H
              exact absurd H (by simp)
          · rw [if_neg c13] at H
            exact absurd H (by simp)
        · rw [if_neg c12] at H
          exact absurd H (by simp)
      · rw [if_neg c6] at H
        have c6b0 : decide (0 < x4_1) = false := decide_eq_false c6
        clear c6
        replace H := Option.bind_eq_some_iff.mp H
        obtain ⟨⟨t238, t239⟩, A240, H⟩ := H
        replace H : (if t238 = 0 then ((spec_l1Rd_one.f k1 s0_0 t239 (([0, 23, (-1)] : List Int))).bind fun bt243 => (if x3_1.length < 17592186044416 then (some ((x3_1 ++ [bt243.1]), bt243.2)) else (none))) else (some (x3_1, t239))) = some (r1, r2) := H
        have A24 := Aside0.mk A240
        clear A240
        by_cases c25 : t238 = 0
        · rw [if_pos c25] at H
          have c25b0 : (t238 == 0) = true := beq_iff_eq.mpr c25
          have c25b1 : (t238 != 0) = false := bne_eq_false_iff_eq.mpr c25
          clear c25
          obtain ⟨y240, hy240⟩ : ∃ y_ : List Int, y_ = (([0, 23, (-1)] : List Int)) := ⟨_, rfl⟩
          replace H : ((spec_l1Rd_one.f k1 s0_0 t239 y240).bind fun bt243 => (if x3_1.length < 17592186044416 then (some ((x3_1 ++ [bt243.1]), bt243.2)) else (none))) = some (r1, r2) := by first | (rw [hy240]; with_reducible exact H) | (have H2_ := (Option.bind_some _ _).symm.trans H; rw [hy240]; with_reducible exact H2_) | (have H2_ := (Option.bind_some _ _).symm.trans H; with_reducible exact H2_) | with_reducible exact H | (rw [hy240]; exact H) | exact H
          have Ny240 := Aside0.mk hy240
          clear hy240
          replace H := Option.bind_eq_some_iff.mp H
          obtain ⟨⟨t243, t244⟩, A260, H⟩ := H
          replace H : (if x3_1.length < 17592186044416 then (some ((x3_1 ++ [t243]), t244)) else (none)) = some (r1, r2) := H
          have A26 := Aside0.mk A260
          clear A260
          by_cases c27 : x3_1.length < 17592186044416
          · rw [if_pos c27] at H
            have LMc27 := Aside0.mk c27
            clear c27
            obtain ⟨y245, hy245⟩ : ∃ y_ : List Int, y_ = (x3_1 ++ [t243]) := ⟨_, rfl⟩
            replace H : (some (y245, t244)) = some (r1, r2) := by first | (rw [hy245]; with_reducible exact H) | (have H2_ := (Option.bind_some _ _).symm.trans H; rw [hy245]; with_reducible exact H2_) | (have H2_ := (Option.bind_some _ _).symm.trans H; with_reducible exact H2_) | with_reducible exact H | (rw [hy245]; exact H) | exact H
            have Ny245 := Aside0.mk hy245
            clear hy245
            simp only [Option.some.injEq, Prod.mk.injEq] at H
            obtain ⟨rfl, rfl⟩ := H
            go_wp2_with (first | ((with_reducible refine gate_callee (f := 44) rfl ?_); refine goesL_ (some 33) rfl rfl Try.func44 (by kernel_rfl) rfl #[.pointer (some ⟨g, 0, none⟩), .int .i64 20] rfl (by (try simp only [List.map_toArray, List.map_cons, List.map_nil]); first | done | rfl | (simp only [List.length_drop, List.length_take]; rfl)) ?_; (with_reducible refine (spec_l1Rd_pick.calls k1 g s0_0 x1001_1 20 t238 t239 w0 _ ?side1 ?side2 A24.out).mono ?_); (case side1 => repeat (first | (with_reducible first | exact HI0.out | apply IsS71.alloc | apply IsS71.drewN | apply IsS71.drew | apply IsS71.set_1) | exact HI0.out)); (case side2 => repeat (first | (with_reducible first | exact HB.out | apply below_alloc | apply pw_below_drewN | apply below_drew1 | refine below_set ?_ (IsS71.ge HI0.out)) | exact HB.out)); rintro e w28 ⟨rfl, hi, hb, hk⟩; refine ⟨_, rfl, ?_⟩; have n0_ := Aside0.mk (Kd.R_mono (Kd.R_keep (IsS71.apart (show IsS71 w0 _ g s0_0 x1001_1 from by repeat (first | (with_reducible first | exact HI0.out | apply IsS71.alloc | apply IsS71.drewN | apply IsS71.drew | apply IsS71.set_1) | exact HI0.out)) (by (with_reducible repeat (first | apply Kd.R_alloc | apply Kd.R_drewN | apply Kd.R_drew)); exact HO_3.out) (by decide)) hk (fun _ h => h.2)) (fun _ h => h.1)); have n1_ := Aside0.mk (KeepBut.trans (by repeat (first | (with_reducible first | exact HK.out | apply KeepBut.set_ | apply keep_drewN | apply keep_drew | apply keep_alloc) | exact HK.out)) hk (.inl rfl)); have n2_ := Aside0.mk (hb); have n3_ := Aside0.mk (hi); clear HO_3; clear HK; clear HB; clear HI0; have HO_3 := n0_; have HK := n1_; have HB := n2_; have HI0 := n3_; clear n0_ n1_ n2_ n3_; (try clear hb); (try clear hb2); (try clear hk); (try clear hi)) | ((with_reducible refine gate_dst (N := 37) rfl ?_); refine Kd.R_lit (Kd.int .i64) _ 3 ?hg (N := 37) ?hd (xs := ([0, 23, (-1)] : List Int)) (inner := [.int .i64 0, .int .i64 23, .int .i64 (-1)]) (ok := fun _ => True) (okp := fun _ => True) ?hr ?hp (fun _ hk => hk) trivial (Below.refl _ _) (Nat.le_refl _) (by simp) ?_; (case hd => rfl); (case hg => rfl); (case hr => first | (go_simp; done) | (go_simp; rfl)); (case hp => exact (Reps.one (show Kd.M (Kd.int .i64) _ _ _ 0 [.int .i64 0] from rfl) (Reps.one (show Kd.M (Kd.int .i64) _ _ _ 23 [.int .i64 23] from rfl) (Reps.one (show Kd.M (Kd.int .i64) _ _ _ (-1) [.int .i64 (-1)] from rfl) (Reps.none _ _))))); intro v241 w29 ho30 hb hg_ hnew_; clear hg_ hnew_; (first | rw [← Ny240.out] at ho30 | (simp only [Int.reduceToNat] at ho30; rw [← Ny240.out] at ho30)); have n0_ := Aside0.mk (Kd.R_elder' (by (with_reducible repeat (first | apply Kd.R_alloc | apply Kd.R_drewN | apply Kd.R_drew)); exact HO_3.out) (Kd.R_base ho30) hb); have n1_ := Aside0.mk (Kd.R_lower (Kd.R_new' ho30 (Kd.R_lt (by (with_reducible repeat (first | apply Kd.R_alloc | apply Kd.R_drewN | apply Kd.R_drew)); exact HO_3.out))) (keep_size (w := w) (g := g) (row := none) (by repeat (first | (with_reducible first | exact HK.out | apply KeepBut.set_ | apply keep_drewN | apply keep_drew | apply keep_alloc) | exact HK.out)))); have n2_ := Aside0.mk (IsS71.below (by repeat (first | (with_reducible first | exact HI0.out | apply IsS71.alloc | apply IsS71.drewN | apply IsS71.drew | apply IsS71.set_1) | exact HI0.out)) hb); have n3_ := Aside0.mk (KeepBut.trans (by repeat (first | (with_reducible first | exact HK.out | apply KeepBut.set_ | apply keep_drewN | apply keep_drew | apply keep_alloc) | exact HK.out)) (KeepBut.of_below hb g none) (.inl rfl)); have n4_ := Aside0.mk (below_step (by repeat (first | (with_reducible first | exact HB.out | apply below_alloc | apply pw_below_drewN | apply below_drew1 | refine below_set ?_ (IsS71.ge HI0.out)) | exact HB.out)) hb); clear HO_3; clear HI0; clear HK; clear HB; have HO_3 := n0_; have HO242 := n1_; have HI0 := n2_; have HK := n3_; have HB := n4_; clear n0_ n1_ n2_ n3_ n4_; clear hb ho30; obtain ⟨Ao31, co31, eo31⟩ := Kd.R_slice HO242.out; subst eo31) | ((with_reducible refine gate_callee (f := 70) rfl ?_); refine goesL_ (some 38) rfl rfl Try.func70 (by kernel_rfl) rfl #[.pointer (some ⟨g, 0, none⟩), .slice Ao31 y240.length co31] rfl (by (try simp only [List.map_toArray, List.map_cons, List.map_nil]); first | done | rfl | (simp only [List.length_drop, List.length_take]; rfl)) ?_; (with_reducible refine (spec_l1Rd_one.calls k1 g s0_0 t239 _ _ y240 t243 t244 w0 _ ?side1 ?side2 ?side3 ?side4 ?side5 A26.out).mono ?_); (case side1 => repeat (first | (with_reducible first | exact HI0.out | apply IsS71.alloc | apply IsS71.drewN | apply IsS71.drew | apply IsS71.set_1) | exact HI0.out)); (case side2 => repeat (first | (with_reducible first | exact HB.out | apply below_alloc | apply pw_below_drewN | apply below_drew1 | refine below_set ?_ (IsS71.ge HI0.out)) | exact HB.out)); (case side3 => repeat (first | exact (Kd.R_reads' HO242.out).2.2 | (with_reducible refine Kd.C_alloc ?_ _) | (with_reducible refine Kd.C_drewN ?_ _) | (with_reducible refine Kd.C_drew ?_))); (case side4 => exact (Kd.R_reads' HO242.out).2.1); (case side5 => exact far_slice (IsS71.own_ne HI0.out HO242.out (by decide))); rintro e w32 ⟨rfl, hi, hb, hk⟩; refine ⟨_, rfl, ?_⟩; have n0_ := Aside0.mk (Kd.R_mono (Kd.R_keep (IsS71.apart (show IsS71 w0 _ g s0_0 t239 from by repeat (first | (with_reducible first | exact HI0.out | apply IsS71.alloc | apply IsS71.drewN | apply IsS71.drew | apply IsS71.set_1) | exact HI0.out)) (by (with_reducible repeat (first | apply Kd.R_alloc | apply Kd.R_drewN | apply Kd.R_drew)); exact HO_3.out) (by decide)) hk (fun _ h => h.2)) (fun _ h => h.1)); have n1_ := Aside0.mk (Kd.R_mono (Kd.R_keep (IsS71.apart (show IsS71 w0 _ g s0_0 t239 from by repeat (first | (with_reducible first | exact HI0.out | apply IsS71.alloc | apply IsS71.drewN | apply IsS71.drew | apply IsS71.set_1) | exact HI0.out)) (by (with_reducible repeat (first | apply Kd.R_alloc | apply Kd.R_drewN | apply Kd.R_drew)); exact HO242.out) (by decide)) hk (fun _ h => h.2)) (fun _ h => h.1)); have n2_ := Aside0.mk (KeepBut.trans (by repeat (first | (with_reducible first | exact HK.out | apply KeepBut.set_ | apply keep_drewN | apply keep_drew | apply keep_alloc) | exact HK.out)) hk (.inl rfl)); have n3_ := Aside0.mk (hb); have n4_ := Aside0.mk (hi); clear HO_3; clear HO242; clear HK; clear HB; clear HI0; have HO_3 := n0_; have HO242 := n1_; have HK := n2_; have HB := n3_; have HI0 := n4_; clear n0_ n1_ n2_ n3_ n4_; (try clear hb); (try clear hb2); (try clear hk); (try clear hi)) | ((with_reducible refine gate_builtin (b := .append) (xs := #[.tmp 35, .tmp 39]) rfl ?_); at_builtin; refine Kd.R_append (Kd.int .i64) w.heap.size rfl (.tmp 35) (.tmp 39) 22 3 (.int .i64 0) 8 rfl Try.underlying22 info3 rfl (by decide) (by omega) u3 x3_1 t243 [.int .i64 t243] (fun k_ => some k_ ≠ (.slice Ao31 y240.length co31 : Value).ownBlock) (fun _ => False) rfl rfl ?aP (fun _ hk => hk.elim) ?aF ?aO (Below.refl _ _) ?aS ?aL ?_; (case aP => exact rfl); (case aF => exact (fun k_ hk => Kd.fresh' (Kd.R_lt (by (with_reducible repeat (first | apply Kd.R_alloc | apply Kd.R_drewN | apply Kd.R_drew)); exact HO242.out)) k_ hk)); (case aO => exact (by (with_reducible repeat (first | apply Kd.R_alloc | apply Kd.R_drewN | apply Kd.R_drew)); exact Kd.R_mono HO_3.out (fun _ hk => hk.2))); (case aS => exact (keep_size (w := w) (g := g) (row := none) (by repeat (first | (with_reducible first | exact HK.out | apply KeepBut.set_ | apply keep_drewN | apply keep_drew | apply keep_alloc) | exact HK.out)))); (case aL => have := LMc27.out; omega); intro v246 w33 ho hb hg hat; rw [← Ny245.out] at ho; have n0_ := Aside0.mk (IsS71.grown (by repeat (first | (with_reducible first | exact HI0.out | apply IsS71.alloc | apply IsS71.drewN | apply IsS71.drew | apply IsS71.set_1) | exact HI0.out)) hg (IsS71.own_ne HI0.out HO_3.out (by decide))); have n1_ := Aside0.mk (Kd.R_after (ok := (fun _ => True)) (by (with_reducible repeat (first | apply Kd.R_alloc | apply Kd.R_drewN | apply Kd.R_drew)); exact HO242.out) hg hat); have n2_ := Aside0.mk (below_weaken (by repeat (first | (with_reducible first | exact HB.out | apply below_alloc | apply pw_below_drewN | apply below_drew1 | refine below_set ?_ (IsS71.ge HI0.out)) | exact HB.out)) HL.out hb); have n3_ := Aside0.mk (KeepBut.trans (by repeat (first | (with_reducible first | exact HK.out | apply KeepBut.set_ | apply keep_drewN | apply keep_drew | apply keep_alloc) | exact HK.out)) (KeepBut.of_grown hg g) (Kd.R_base2 HO_3.out)); have n4_ := Aside0.mk (ho); clear HI0; clear HO242; clear HB; clear HK; clear HO_3; have HI0 := n0_; have HO242 := n1_; have HB := n2_; have HK := n3_; have HO247 := n4_; clear n0_ n1_ n2_ n3_ n4_; clear ho hb hg hat))
            go_ret
            exact ⟨_, by first | rfl | (simp [errW_none, errW_some] <;> rfl) | (simp [*, errW_none, errW_some] <;> rfl), by (with_reducible repeat (first | apply Kd.R_alloc | apply Kd.R_drewN | apply Kd.R_drew)); exact Kd.R_mono HO247.out (fun _ hk => trivial), by repeat (first | (with_reducible first | exact HI0.out | apply IsS71.alloc | apply IsS71.drewN | apply IsS71.drew | apply IsS71.set_1) | exact HI0.out), by repeat (first | (with_reducible first | exact HB.out | apply below_alloc | apply pw_below_drewN | apply below_drew1 | refine below_set ?_ (IsS71.ge HI0.out)) | exact HB.out), by repeat (first | (with_reducible first | exact HK.out | apply KeepBut.set_ | apply keep_drewN | apply keep_drew | apply keep_alloc) | exact HK.out)⟩
          · rw [if_neg c27] at H
            exact absurd H (by simp)
        · rw [if_neg c25] at H
          have c25b0 : (t238 == 0) = false := beq_eq_false_iff_ne.mpr c25
          have c25b1 : (t238 != 0) = true := bne_iff_ne.mpr c25
          simp only [Option.some.injEq, Prod.mk.injEq] at H
          obtain ⟨rfl, rfl⟩ := H
          go_wp2_with (first | ((with_reducible refine gate_callee (f := 44) rfl ?_); refine goesL_ (some 33) rfl rfl Try.func44 (by kernel_rfl) rfl #[.pointer (some ⟨g, 0, none⟩), .int .i64 20] rfl (by (try simp only [List.map_toArray, List.map_cons, List.map_nil]); first | done | rfl | (simp only [List.length_drop, List.length_take]; rfl)) ?_; (with_reducible refine (spec_l1Rd_pick.calls k1 g s0_0 x1001_1 20 t238 t239 w0 _ ?side1 ?side2 A24.out).mono ?_); (case side1 => repeat (first | (with_reducible first | exact HI0.out | apply IsS71.alloc | apply IsS71.drewN | apply IsS71.drew | apply IsS71.set_1) | exact HI0.out)); (case side2 => repeat (first | (with_reducible first | exact HB.out | apply below_alloc | apply pw_below_drewN | apply below_drew1 | refine below_set ?_ (IsS71.ge HI0.out)) | exact HB.out)); rintro e w34 ⟨rfl, hi, hb, hk⟩; refine ⟨_, rfl, ?_⟩; have n0_ := Aside0.mk (Kd.R_mono (Kd.R_keep (IsS71.apart (show IsS71 w0 _ g s0_0 x1001_1 from by repeat (first | (with_reducible first | exact HI0.out | apply IsS71.alloc | apply IsS71.drewN | apply IsS71.drew | apply IsS71.set_1) | exact HI0.out)) (by (with_reducible repeat (first | apply Kd.R_alloc | apply Kd.R_drewN | apply Kd.R_drew)); exact HO_3.out) (by decide)) hk (fun _ h => h.2)) (fun _ h => h.1)); have n1_ := Aside0.mk (KeepBut.trans (by repeat (first | (with_reducible first | exact HK.out | apply KeepBut.set_ | apply keep_drewN | apply keep_drew | apply keep_alloc) | exact HK.out)) hk (.inl rfl)); have n2_ := Aside0.mk (hb); have n3_ := Aside0.mk (hi); clear HO_3; clear HK; clear HB; clear HI0; have HO_3 := n0_; have HK := n1_; have HB := n2_; have HI0 := n3_; clear n0_ n1_ n2_ n3_; (try clear hb); (try clear hb2); (try clear hk); (try clear hi)))
          go_ret
          exact ⟨_, by first | rfl | (simp [errW_none, errW_some] <;> rfl) | (simp [*, errW_none, errW_some] <;> rfl), by (with_reducible repeat (first | apply Kd.R_alloc | apply Kd.R_drewN | apply Kd.R_drew)); exact HO_3.out, by repeat (first | (with_reducible first | exact HI0.out | apply IsS71.alloc | apply IsS71.drewN | apply IsS71.drew | apply IsS71.set_1) | exact HI0.out), by repeat (first | (with_reducible first | exact HB.out | apply below_alloc | apply pw_below_drewN | apply below_drew1 | refine below_set ?_ (IsS71.ge HI0.out)) | exact HB.out), by repeat (first | (with_reducible first | exact HK.out | apply KeepBut.set_ | apply keep_drewN | apply keep_drew | apply keep_alloc) | exact HK.out)⟩

end Go.Proofs.Ytojehfdioeglgaa.S

namespace Go.Proofs.Ytojehfdioeglgaa.S
open Go.RowKit Go.Proofs.YtojehfdioeglgaaW.PrintWords Go.Proofs.YtojehfdioeglgaaW.PrintLast Go.Proofs.YtojehfdioeglgaaW.PrintMore
attribute [local go_sem] max2_int min2_int max_two min_two max_three min_three max_four min_four   -- for this text's walks alone
set_option linter.unusedVariables false
set_option linter.unusedSimpArgs false

/-! ### spec_DrawLevelWeak: function 15 -/
def spec_DrawLevelWeak.f (k : Nat) (l0 : List Int) : Option (List Int × Int) := (spec_l1Open.f l0).bind fun bt248 => ((spec_l13Classes.f k bt248.1 bt248.2).bind fun bt251 => ((some (([1, 2, 3] : List Int) : List Int)).bind fun y255 => ((spec_l1Rd_pick.f k bt248.1 bt251.2 16).bind fun bt258 => (if 0 ≤ (wrap64 (Int.tdiv (wrap64 (bt258.1 * 3)) 16)) then (if (wrap64 (Int.tdiv (wrap64 (bt258.1 * 3)) 16)) < (y255.length : Int) then (some (bt251.1, rd y255 (wrap64 (Int.tdiv (wrap64 (bt258.1 * 3)) 16)))) else (none)) else (none)))))
theorem spec_DrawLevelWeak.mono : ∀ a0 k, LeO (spec_DrawLevelWeak.f k a0) (spec_DrawLevelWeak.f (k + 1) a0) := by
  intro a0 k
  unfold spec_DrawLevelWeak.f
  repeat' first
      | (with_reducible exact spec_l13Classes.mono _ _ _)
      | (with_reducible exact spec_l1Rd_pick.mono _ _ _ _)
      | (with_reducible exact LeO.refl _)
      | (with_reducible exact LeO.none _)
      | (with_reducible refine LeO.ite ?_ ?_)
      | (with_reducible refine LeO.bind ?_ (fun _ => ?_))
      | exact spec_l13Classes.mono _ _ _
      | exact spec_l1Rd_pick.mono _ _ _ _
      | exact LeO.none _
      | refine LeO.ite ?_ ?_
      | refine LeO.bind ?_ (fun _ => ?_)
def spec_DrawLevelWeak.T2 : Bool × List (List Nat × List Nat) := (true, [([], []), ([0], [0]), ([], []), ([], []), ([3, 1], [3]), ([4], [4]), ([5], [5]), ([2, 6], [2, 6]), ([7], [7]), ([1, 4, 0, 1], [1]), ([8, 9, 0, 1, 2, 3, 4, 5, 6, 7, 8, 9], [8])])
def spec_DrawLevelWeak.B2 : List Nat := [0, 1, 0, 0, 11, 27, 59, 127, 255, 27, 1023]
theorem spec_DrawLevelWeak.tab2 : rtab .any (opsOf Try.f15 2) = spec_DrawLevelWeak.T2 := by kernel_rfl
theorem spec_DrawLevelWeak.bits2 : waitsOk spec_DrawLevelWeak.T2.2 spec_DrawLevelWeak.B2 = true := by kernel_rfl
set_option maxHeartbeats 8000000 in
set_option maxRecDepth 100000 in
theorem spec_DrawLevelWeak.calls (k : Nat) (A0 : Option Addr) (c0 : Nat) (l0 : List Int) (r1 : List Int) (r2 : Int) (w : World) (hr0 : Kd.C (Kd.int .u8) w A0 l0.length l0) (hc0 : l0.length ≤ c0) (h : spec_DrawLevelWeak.f k l0 = some (r1, r2)) :
    Calls Try.prog 15 #[.slice A0 l0.length c0] w fun e w' => ∃ v0_ : Value, e = .returned (.tuple #[v0_, .int .i64 r2]) ∧ Kd.R (Kd.int .i64) 3 w' w.heap.size (fun _ => True) v0_ r1 ∧ Below w.heap.size w w' := by
  have HR0 := Aside0.mk hr0
  have HC0 := Aside0.mk hc0
  clear hr0 hc0
  have HB := Aside0.mk (Below.refl w.heap.size w)
  have H : ((spec_l1Open.f l0).bind fun bt248 => ((spec_l13Classes.f k bt248.1 bt248.2).bind fun bt251 => ((some (([1, 2, 3] : List Int) : List Int)).bind fun y255 => ((spec_l1Rd_pick.f k bt248.1 bt251.2 16).bind fun bt258 => (if 0 ≤ (wrap64 (Int.tdiv (wrap64 (bt258.1 * 3)) 16)) then (if (wrap64 (Int.tdiv (wrap64 (bt258.1 * 3)) 16)) < (y255.length : Int) then (some (bt251.1, rd y255 (wrap64 (Int.tdiv (wrap64 (bt258.1 * 3)) 16)))) else (none)) else (none)))))) = some (r1, r2) := h
  clear h
  replace H := Option.bind_eq_some_iff.mp H
  obtain ⟨⟨t248, t249⟩, A20, H⟩ := H
  replace H : ((spec_l13Classes.f k t248 t249).bind fun bt251 => ((some (([1, 2, 3] : List Int) : List Int)).bind fun y255 => ((spec_l1Rd_pick.f k t248 bt251.2 16).bind fun bt258 => (if 0 ≤ (wrap64 (Int.tdiv (wrap64 (bt258.1 * 3)) 16)) then (if (wrap64 (Int.tdiv (wrap64 (bt258.1 * 3)) 16)) < (y255.length : Int) then (some (bt251.1, rd y255 (wrap64 (Int.tdiv (wrap64 (bt258.1 * 3)) 16)))) else (none)) else (none))))) = some (r1, r2) := H
  have A2 := Aside0.mk A20
  clear A20
  replace H := Option.bind_eq_some_iff.mp H
  obtain ⟨⟨t251, t254⟩, A30, H⟩ := H
  replace H : ((some (([1, 2, 3] : List Int) : List Int)).bind fun y255 => ((spec_l1Rd_pick.f k t248 t254 16).bind fun bt258 => (if 0 ≤ (wrap64 (Int.tdiv (wrap64 (bt258.1 * 3)) 16)) then (if (wrap64 (Int.tdiv (wrap64 (bt258.1 * 3)) 16)) < (y255.length : Int) then (some (t251, rd y255 (wrap64 (Int.tdiv (wrap64 (bt258.1 * 3)) 16)))) else (none)) else (none)))) = some (r1, r2) := H
  have A3 := Aside0.mk A30
  clear A30
  obtain ⟨y255, hy255⟩ : ∃ y_ : List Int, y_ = (([1, 2, 3] : List Int)) := ⟨_, rfl⟩
  replace H : ((spec_l1Rd_pick.f k t248 t254 16).bind fun bt258 => (if 0 ≤ (wrap64 (Int.tdiv (wrap64 (bt258.1 * 3)) 16)) then (if (wrap64 (Int.tdiv (wrap64 (bt258.1 * 3)) 16)) < (y255.length : Int) then (some (t251, rd y255 (wrap64 (Int.tdiv (wrap64 (bt258.1 * 3)) 16)))) else (none)) else (none))) = some (r1, r2) := by first | (rw [hy255]; with_reducible exact H) | (have H2_ := (Option.bind_some _ _).symm.trans H; rw [hy255]; with_reducible exact H2_) | (have H2_ := (Option.bind_some _ _).symm.trans H; with_reducible exact H2_) | with_reducible exact H | (rw [hy255]; exact H) | exact H
  have Ny255 := Aside0.mk hy255
  clear hy255
  replace H := Option.bind_eq_some_iff.mp H
  obtain ⟨⟨t258, t259⟩, A40, H⟩ := H
  replace H : (if 0 ≤ (wrap64 (Int.tdiv (wrap64 (t258 * 3)) 16)) then (if (wrap64 (Int.tdiv (wrap64 (t258 * 3)) 16)) < (y255.length : Int) then (some (t251, rd y255 (wrap64 (Int.tdiv (wrap64 (t258 * 3)) 16)))) else (none)) else (none)) = some (r1, r2) := H
  have A4 := Aside0.mk A40
  clear A40
  obtain ⟨ji5, hji5⟩ : ∃ j_ : Int, (wrap64 (Int.tdiv (wrap64 (t258 * 3)) 16)) = j_ := ⟨_, rfl⟩
  replace H : (if 0 ≤ (ji5) then (if (ji5) < (y255.length : Int) then (some (t251, rd y255 (ji5))) else (none)) else (none)) = some (r1, r2) := by first | (rw [hji5] at H; exact H) | (simp only [hji5] at H ⊢; exact H)
  (try rw [hji5] at A2)
  (try rw [hji5] at A3)
  (try rw [hji5] at A4)
  have hji5w : (IntKind.i64.wrap (Int.tdiv (wrap64 (t258 * 3)) 16)) = ji5 := (i64_w _).trans hji5
  by_cases c6 : 0 ≤ (ji5)
  · rw [if_pos c6] at H
    have c6b0 : decide (0 ≤ (ji5)) = true := decide_eq_true c6
    clear c6
    by_cases c7 : (ji5) < (y255.length : Int)
    · rw [if_pos c7] at H
      have c7b0 : decide ((ji5) < (y255.length : Int)) = true := decide_eq_true c7
      clear c7
      simp only [Option.some.injEq, Prod.mk.injEq] at H
      obtain ⟨rfl, rfl⟩ := H
      go_enter Try.func15, Try.ntmps15
      try go_wp2_with (first | ((with_reducible refine gate_callee (f := 42) rfl ?_); refine goesL_ (some 6) rfl rfl Try.func42 (by kernel_rfl) rfl #[.slice A0 l0.length c0] rfl (by (try simp only [List.map_toArray, List.map_cons, List.map_nil]); first | done | rfl | (simp only [List.length_drop, List.length_take]; rfl)) ?_; (with_reducible refine (spec_l1Open.calls _ _ l0 t248 t249 w _ ?side1 ?side2 ?side3 A2.out).mono ?_); (case side1 => repeat (first | (with_reducible first | exact HB.out | apply below_alloc | apply pw_below_drewN | apply below_drew1) | exact HB.out)); (case side2 => exact HR0.out); (case side3 => exact HC0.out); rintro e w8 ⟨g250, rfl, hi, hb, hb2⟩; refine ⟨_, rfl, ?_⟩; have n0_ := Aside0.mk (hb); have n1_ := Aside0.mk (hi); clear HB; have HB := n0_; have HI250 := n1_; clear n0_ n1_; (try clear hb); (try clear hb2); (try clear hk); (try clear hi)))
      have pi260 : (0 ≤ ((ji5) : Int)) = True := eq_true (of_decide_eq_true (by first | (with_reducible assumption) | assumption))
      have qi260 : ((ji5) < (y255.length : Int)) = True := eq_true (of_decide_eq_true (by first | (with_reducible assumption) | assumption))
      have n0_ := Aside0.mk (IsS71.drew HI250.out)
      have n1_ := Aside0.mk (below_drew1 HB.out)
      clear HI250
      clear HB
      have HI250 := n0_
      have HB := n1_
      clear n0_ n1_
      refine start_ (n := 11) (S := fun w' => True) (ds := []) #[false, false, false, false, false, false, false, false, false, false, false] (by kernel_rfl) rfl rfl trivial (fun hHeld => ?_); refine with_tabW spec_DrawLevelWeak.tab2 spec_DrawLevelWeak.bits2 (fun HT_ HW_ => ?_)
      generalize w8.drew = w9 at HI250 HB hHeld ⊢
      refine pure_ (i := 0) (N := some 7) (v := ?_) (a' := ?_) #[true, false, false, false, false, false, false, false, false, false, false] rfl rfl (any_of HT_.out (by kernel_rfl)) (fun _ _ _ h => h) (Or.inl ⟨by rfl, ?_⟩) ?_ ?_
      rotate_left
      · intro w'
        go_simp
        with_reducible rfl
      rotate_left
      · simp only [Act.put, List.setIfInBounds_toArray, List.set_cons_zero, List.set_cons_succ, i64_w, i32_w]
        rfl
      refine pure_ (i := 3) (N := some 10) (v := ?_) (a' := ?_) #[true, false, false, true, false, false, false, false, false, false, false] rfl rfl (any_of HT_.out (by kernel_rfl)) (fun _ _ _ h => h) (Or.inl ⟨by rfl, ?_⟩) ?_ ?_
      rotate_left
      · intro w'
        go_simp
        with_reducible rfl
      rotate_left
      · simp only [Act.put, List.setIfInBounds_toArray, List.set_cons_zero, List.set_cons_succ, i64_w, i32_w]
        rfl
      refine inv_at [1, 2, 4, 5, 6, 7, 8, 9, 10] (fun a0_ b a w' => ∃ (v252 : Value) (v256 : Value) (adz_v256 : Addr) (m7_ : Value) (m9_ : Value), a = putSel a0_ b [(1, 8, v252), (2, 9, v256), (4, 11, .int .i64 t258), (5, 12, .int .i64 (wrap64 (t258 * 3))), (6, 13, .int .i64 ji5), (7, 14, m7_), (8, 15, .int .i64 (rd y255 (ji5))), (9, 2, m9_), (10, 3, .int .i64 (rd y255 (ji5)))] ∧ (b 1 = false → IsS71 w w' g250 t248 t249) ∧ (Below w.heap.size w w') ∧ (b 1 = true → Kd.R (Kd.int .i64) 3 w' w.heap.size (fun _ => True) v252 t251) ∧ (b 1 = true → b 4 = false → IsS71 w w' g250 t248 t254) ∧ (b 2 = true → Kd.R (Kd.int .i64) 3 w' w.heap.size (fun _ => True) v256 y255) ∧ (b 2 = true → ∃ c_, (v256 : Value) = .slice (some adz_v256) y255.length c_) ∧ (b 4 = true → IsS71 w w' g250 t248 t259) ∧ (b 7 = true → (m7_ : Value) = .pointer (some (adz_v256.add ((ji5)).toNat))) ∧ (b 9 = true → (m9_ : Value) = v252)) HT_.out HW_.out (by kernel_rfl) (by kernel_rfl) ?_ ?_ ?_
      · exact ⟨.bool false, .bool false, ⟨0, 0, none⟩, .bool false, .bool false, by simp only [putSel, Bool.false_eq_true, if_false], fun _ => HI250.out, HB.out, fun h_ => absurd h_ (by decide), fun h_ => absurd h_ (by decide), fun h_ => absurd h_ (by decide), fun h_ => absurd h_ (by decide), fun h_ => absurd h_ (by decide), fun h_ => absurd h_ (by decide), fun h_ => absurd h_ (by decide)⟩
      · skip
        clear HB HI250
        refine steps_cons ?_ ?_
        · rintro b a w' ⟨v252, v256, adz_v256, m7_, m9_, ha, Q_HI250, Q_HB, Q_HO253, Q_HI250_e1, Q_HO257, Q_HA_HO257, Q_HI250_e4, Q_X7_, Q_X9_⟩ hb_ hon hoff
          refine ⟨_, rfl, fun K hK => ?_⟩
          have e7 : a.tmps[7]? = some (.pointer (some ⟨g250, 0, none⟩)) := by rw [ha]; exact (putSel_off rfl).trans rfl
          replace ha := Aside0.mk ha
          have HI250 := Aside0.mk (Q_HI250 hb_)
          have HB := Aside0.mk Q_HB
          refine goes_ Try.func43 (by kernel_rfl) rfl #[.pointer (some ⟨g250, 0, none⟩)] (by rfl) rfl rfl (by first | (simp only [List.map_toArray, List.map_cons, List.map_nil, Act.eval, Array.getD_eq_getD_getElem?, Option.getD_some, e7]; done) | (simp only [List.map_toArray, List.map_cons, List.map_nil, Act.eval, Array.getD_eq_getD_getElem?, Option.getD_some, e7]; rfl)) ?_
          with_reducible refine (spec_l13Classes.calls k g250 t248 t249 t251 t254 w _ ?side1 ?side2 A3.out).mono ?_
          (case side1 => repeat (first | (with_reducible first | exact HI250.out | apply IsS71.alloc | apply IsS71.drewN | apply IsS71.drew | apply IsS71.set_1) | exact HI250.out))
          (case side2 => repeat (first | (with_reducible first | exact HB.out | apply below_alloc | apply pw_below_drewN | apply below_drew1 | refine below_set ?_ (IsS71.ge HI250.out)) | exact HB.out))
          rintro e w10 ⟨v252, rfl, ho0, hi, hb, hk⟩
          refine ⟨_, rfl, ?_⟩
          have n0_ := Aside0.mk (Kd.R_lower ho0 (below_size (by repeat (first | (with_reducible first | exact HB.out | apply below_alloc | apply pw_below_drewN | apply below_drew1 | refine below_set ?_ (IsS71.ge HI250.out)) | exact HB.out))))
          have n1_ := Aside0.mk (hb)
          have n2_ := Aside0.mk (hi)
          have z_HO257 := fun (h0_ : b 2 = true) => (show Kd.R (Kd.int .i64) 3 w10 w.heap.size (fun _ => True) v256 y255 from by first | exact (Kd.R_mono (Kd.R_told (Kd.R_oldK (IsS71.apart (show IsS71 w _ g250 t248 t249 from by repeat (first | (with_reducible first | exact HI250.out | apply IsS71.alloc | apply IsS71.drewN | apply IsS71.drew | apply IsS71.set_1) | exact HI250.out)) (by (with_reducible repeat (first | apply Kd.R_alloc | apply Kd.R_drewN | apply Kd.R_drew)); exact (Q_HO257 h0_)) (by decide)) hk) (Kd.R_base ho0)) (fun _ h_ => h_.1)) | exact Kd.R_mono (Kd.R_mono (Kd.R_told (Kd.R_oldK (IsS71.apart (show IsS71 w _ g250 t248 t249 from by repeat (first | (with_reducible first | exact HI250.out | apply IsS71.alloc | apply IsS71.drewN | apply IsS71.drew | apply IsS71.set_1) | exact HI250.out)) (by (with_reducible repeat (first | apply Kd.R_alloc | apply Kd.R_drewN | apply Kd.R_drew)); exact (Q_HO257 h0_)) (by decide)) hk) (Kd.R_base ho0)) (fun _ h_ => h_.1)) (fun _ h_ => by first | trivial | exact h_ | exact h_.1))
          clear HB
          clear HI250
          have HO253 := n0_
          have HB := n1_
          have HI250 := n2_
          clear n0_ n1_ n2_
          (try clear hb)
          (try clear hb2)
          (try clear hk)
          (try clear hi)
          (try clear ho0)
          refine hK.out _ _ ⟨v252, v256, adz_v256, m7_, m9_, (by rw [ha.out]; exact putSel_upk 0 hb_ rfl rfl rfl), fun h0_ => absurd ((up_self b 1).symm.trans h0_) (by decide), (by repeat (first | (with_reducible first | exact HB.out | apply below_alloc | apply pw_below_drewN | apply below_drew1 | refine below_set ?_ (IsS71.ge HI250.out)) | exact HB.out)), fun _ => (by (with_reducible repeat (first | apply Kd.R_alloc | apply Kd.R_drewN | apply Kd.R_drew)); exact HO253.out), fun _ _ => (by repeat (first | (with_reducible first | exact HI250.out | apply IsS71.alloc | apply IsS71.drewN | apply IsS71.drew | apply IsS71.set_1) | exact HI250.out)), z_HO257, Q_HA_HO257, fun h0_ => absurd ((hoff 4 (by kernel_rfl)).symm.trans h0_) (by decide), fun h0_ => absurd ((hoff 7 (by kernel_rfl)).symm.trans h0_) (by decide), fun h0_ => absurd ((hoff 9 (by kernel_rfl)).symm.trans h0_) (by decide)⟩
        refine steps_cons ?_ ?_
        · rintro b a w' ⟨v252, v256, adz_v256, m7_, m9_, ha, Q_HI250, Q_HB, Q_HO253, Q_HI250_e1, Q_HO257, Q_HA_HO257, Q_HI250_e4, Q_X7_, Q_X9_⟩ hb_ hon hoff
          refine ⟨_, rfl, fun K hK => ?_⟩
          replace ha := Aside0.mk ha
          have HB := Aside0.mk Q_HB
          refine Kd.R_lit_step (Kd.int .i64) _ 3 ?hg (N := 9) ?hd (xs := ([1, 2, 3] : List Int)) (inner := [.int .i64 1, .int .i64 2, .int .i64 3]) (ok := fun _ => True) (okp := fun _ => True) ?hr ?hp (fun _ hk => hk) trivial (Below.refl _ _) (Nat.le_refl _) (by simp) ?_; (case hd => rfl); (case hg => rfl); (case hr => first | (go_simp; done) | (go_simp; rfl)); (case hp => exact (Reps.one (show Kd.M (Kd.int .i64) _ _ _ 1 [.int .i64 1] from rfl) (Reps.one (show Kd.M (Kd.int .i64) _ _ _ 2 [.int .i64 2] from rfl) (Reps.one (show Kd.M (Kd.int .i64) _ _ _ 3 [.int .i64 3] from rfl) (Reps.none _ _)))))
          intro v256 w10 ho11 hb hg_ hnew_
          clear hg_ hnew_
          (first | rw [← Ny255.out] at ho11 | (simp only [Int.reduceToNat] at ho11; rw [← Ny255.out] at ho11))
          have n0_ := Aside0.mk (Kd.R_lower ho11 (below_size (by repeat (first | (with_reducible first | exact HB.out | apply below_alloc | apply pw_below_drewN | apply below_drew1) | exact HB.out))))
          have n2_ := Aside0.mk (below_step (by repeat (first | (with_reducible first | exact HB.out | apply below_alloc | apply pw_below_drewN | apply below_drew1) | exact HB.out)) hb)
          have z_HI250 := fun (h0_ : b 1 = false) => (show IsS71 w w10 g250 t248 t249 from by first | exact (IsS71.below (by repeat (first | (with_reducible first | exact (Q_HI250 h0_) | apply IsS71.alloc | apply IsS71.drewN | apply IsS71.drew | apply IsS71.set_1) | exact (Q_HI250 h0_))) hb))
          have z_HO253 := fun (h0_ : b 1 = true) => (show Kd.R (Kd.int .i64) 3 w10 w.heap.size (fun _ => True) v252 t251 from by first | exact (Kd.R_elder' (by (with_reducible repeat (first | apply Kd.R_alloc | apply Kd.R_drewN | apply Kd.R_drew)); exact (Q_HO253 h0_)) (Kd.R_base ho11) hb) | exact Kd.R_mono (Kd.R_elder' (by (with_reducible repeat (first | apply Kd.R_alloc | apply Kd.R_drewN | apply Kd.R_drew)); exact (Q_HO253 h0_)) (Kd.R_base ho11) hb) (fun _ h_ => by first | trivial | exact h_ | exact h_.1))
          have z_HI250_e1 := fun (h0_ : b 1 = true) (h1_ : b 4 = false) => (show IsS71 w w10 g250 t248 t254 from by first | exact (IsS71.below (by repeat (first | (with_reducible first | exact (Q_HI250_e1 h0_ h1_) | apply IsS71.alloc | apply IsS71.drewN | apply IsS71.drew | apply IsS71.set_1) | exact (Q_HI250_e1 h0_ h1_))) hb))
          have z_HI250_e4 := fun (h0_ : b 4 = true) => (show IsS71 w w10 g250 t248 t259 from by first | exact (IsS71.below (by repeat (first | (with_reducible first | exact (Q_HI250_e4 h0_) | apply IsS71.alloc | apply IsS71.drewN | apply IsS71.drew | apply IsS71.set_1) | exact (Q_HI250_e4 h0_))) hb))
          clear HB
          have HO257 := n0_
          have HB := n2_
          clear n0_ n2_
          clear hb ho11
          obtain ⟨Ao12, co12, eo12⟩ := Kd.R_slice HO257.out
          subst eo12
          obtain ⟨ado12, fo12, _⟩ := Kd.at_int (Kd.R_reads' HO257.out).2.2 0 (by decide) (by rw [Ny255.out]; simp)
          cases fo12
          refine hK.out _ _ ⟨v252, .slice (some ado12) y255.length co12, ado12, m7_, m9_, (by rw [ha.out]; exact putSel_upk 1 hb_ rfl rfl rfl), z_HI250, (by repeat (first | (with_reducible first | exact HB.out | apply below_alloc | apply pw_below_drewN | apply below_drew1) | exact HB.out)), z_HO253, z_HI250_e1, fun _ => (by (with_reducible repeat (first | apply Kd.R_alloc | apply Kd.R_drewN | apply Kd.R_drew)); exact HO257.out), fun _ => ⟨_, rfl⟩, z_HI250_e4, fun h0_ => absurd ((hoff 7 (by kernel_rfl)).symm.trans h0_) (by decide), Q_X9_⟩
        refine steps_cons ?_ ?_
        · rintro b a w' ⟨v252, v256, adz_v256, m7_, m9_, ha, Q_HI250, Q_HB, Q_HO253, Q_HI250_e1, Q_HO257, Q_HA_HO257, Q_HI250_e4, Q_X7_, Q_X9_⟩ hb_ hon hoff
          refine ⟨_, rfl, fun K hK => ?_⟩
          have e10 : a.tmps[10]? = some (.pointer (some ⟨g250, 0, none⟩)) := by rw [ha]; exact (putSel_off rfl).trans rfl
          replace ha := Aside0.mk ha
          have HB := Aside0.mk Q_HB
          have HO253 := Aside0.mk (Q_HO253 (hon 1 (by kernel_rfl)))
          have HI250 := Aside0.mk (Q_HI250_e1 (hon 1 (by kernel_rfl)) hb_)
          refine goes_ Try.func44 (by kernel_rfl) rfl #[.pointer (some ⟨g250, 0, none⟩), .int .i64 16] (by rfl) rfl rfl (by first | (simp only [List.map_toArray, List.map_cons, List.map_nil, Act.eval, Array.getD_eq_getD_getElem?, Option.getD_some, e10]; done) | (simp only [List.map_toArray, List.map_cons, List.map_nil, Act.eval, Array.getD_eq_getD_getElem?, Option.getD_some, e10]; rfl)) ?_
          with_reducible refine (spec_l1Rd_pick.calls k g250 t248 t254 16 t258 t259 w _ ?side1 ?side2 A4.out).mono ?_
          (case side1 => repeat (first | (with_reducible first | exact HI250.out | apply IsS71.alloc | apply IsS71.drewN | apply IsS71.drew | apply IsS71.set_1) | exact HI250.out))
          (case side2 => repeat (first | (with_reducible first | exact HB.out | apply below_alloc | apply pw_below_drewN | apply below_drew1 | refine below_set ?_ (IsS71.ge HI250.out)) | exact HB.out))
          rintro e w12 ⟨rfl, hi, hb, hk⟩
          refine ⟨_, rfl, ?_⟩
          have n0_ := Aside0.mk (Kd.R_mono (Kd.R_keep (IsS71.apart (show IsS71 w _ g250 t248 t254 from by repeat (first | (with_reducible first | exact HI250.out | apply IsS71.alloc | apply IsS71.drewN | apply IsS71.drew | apply IsS71.set_1) | exact HI250.out)) (by (with_reducible repeat (first | apply Kd.R_alloc | apply Kd.R_drewN | apply Kd.R_drew)); exact HO253.out) (by decide)) hk (fun _ h => h.2)) (fun _ h => h.1))
          have n1_ := Aside0.mk (hb)
          have n2_ := Aside0.mk (hi)
          have z_HO257 := fun (h0_ : b 2 = true) => (show Kd.R (Kd.int .i64) 3 w12 w.heap.size (fun _ => True) v256 y255 from by first | exact (Kd.R_mono (Kd.R_keep (IsS71.apart (show IsS71 w _ g250 t248 t254 from by repeat (first | (with_reducible first | exact HI250.out | apply IsS71.alloc | apply IsS71.drewN | apply IsS71.drew | apply IsS71.set_1) | exact HI250.out)) (by (with_reducible repeat (first | apply Kd.R_alloc | apply Kd.R_drewN | apply Kd.R_drew)); exact (Q_HO257 h0_)) (by decide)) hk (fun _ h => h.2)) (fun _ h => h.1)) | exact Kd.R_mono (Kd.R_mono (Kd.R_keep (IsS71.apart (show IsS71 w _ g250 t248 t254 from by repeat (first | (with_reducible first | exact HI250.out | apply IsS71.alloc | apply IsS71.drewN | apply IsS71.drew | apply IsS71.set_1) | exact HI250.out)) (by (with_reducible repeat (first | apply Kd.R_alloc | apply Kd.R_drewN | apply Kd.R_drew)); exact (Q_HO257 h0_)) (by decide)) hk (fun _ h => h.2)) (fun _ h => h.1)) (fun _ h_ => by first | trivial | exact h_ | exact h_.1))
          clear HO253
          clear HB
          clear HI250
          have HO253 := n0_
          have HB := n1_
          have HI250 := n2_
          clear n0_ n1_ n2_
          (try clear hb)
          (try clear hb2)
          (try clear hk)
          (try clear hi)
          refine hK.out _ _ ⟨v252, v256, adz_v256, m7_, m9_, (by rw [ha.out]; exact putSel_upk 2 hb_ rfl rfl rfl), fun h0_ => absurd ((hon 1 (by kernel_rfl)).symm.trans h0_) (by decide), (by repeat (first | (with_reducible first | exact HB.out | apply below_alloc | apply pw_below_drewN | apply below_drew1 | refine below_set ?_ (IsS71.ge HI250.out)) | exact HB.out)), fun _ => (by (with_reducible repeat (first | apply Kd.R_alloc | apply Kd.R_drewN | apply Kd.R_drew)); exact HO253.out), fun _ h1_ => absurd ((up_self b 4).symm.trans h1_) (by decide), z_HO257, Q_HA_HO257, fun _ => (by repeat (first | (with_reducible first | exact HI250.out | apply IsS71.alloc | apply IsS71.drewN | apply IsS71.drew | apply IsS71.set_1) | exact HI250.out)), fun h0_ => absurd ((hoff 7 (by kernel_rfl)).symm.trans h0_) (by decide), fun h0_ => absurd ((hoff 9 (by kernel_rfl)).symm.trans h0_) (by decide)⟩
        refine steps_cons ?_ ?_
        · rintro b a w' ⟨v252, v256, adz_v256, m7_, m9_, ha, Q_HI250, Q_HB, Q_HO253, Q_HI250_e1, Q_HO257, Q_HA_HO257, Q_HI250_e4, Q_X7_, Q_X9_⟩ hb_ hon hoff
          refine ⟨_, rfl, fun K hK => ?_⟩
          have e11 : a.tmps[11]? = some (.int .i64 t258) := by rw [ha]; exact putSel_on (e := (4, 11, .int .i64 t258)) 2 rfl rfl (hon 4 (by kernel_rfl)) rfl
          replace ha := Aside0.mk ha
          have HB := Aside0.mk Q_HB
          have HO253 := Aside0.mk (Q_HO253 (hon 1 (by kernel_rfl)))
          have HI250 := Aside0.mk (Q_HI250_e4 (hon 4 (by kernel_rfl)))
          refine value_ (w1 := w') (v := .int .i64 (wrap64 (t258 * 3))) (by rfl) rfl ?_ ?_
          · go_simp
            (try simp only [i64_w])
            try rfl
          refine hK.out _ _ ⟨v252, v256, adz_v256, m7_, m9_, (by rw [ha.out]; exact putSel_upk 3 hb_ rfl rfl rfl), fun h0_ => absurd ((hon 1 (by kernel_rfl)).symm.trans h0_) (by decide), Q_HB, Q_HO253, fun _ h1_ => absurd ((hon 4 (by kernel_rfl)).symm.trans h1_) (by decide), Q_HO257, Q_HA_HO257, Q_HI250_e4, fun h0_ => absurd ((hoff 7 (by kernel_rfl)).symm.trans h0_) (by decide), Q_X9_⟩
        refine steps_cons ?_ ?_
        · rintro b a w' ⟨v252, v256, adz_v256, m7_, m9_, ha, Q_HI250, Q_HB, Q_HO253, Q_HI250_e1, Q_HO257, Q_HA_HO257, Q_HI250_e4, Q_X7_, Q_X9_⟩ hb_ hon hoff
          refine ⟨_, rfl, fun K hK => ?_⟩
          have e12 : a.tmps[12]? = some (.int .i64 (wrap64 (t258 * 3))) := by rw [ha]; exact putSel_on (e := (5, 12, .int .i64 (wrap64 (t258 * 3)))) 3 rfl rfl (hon 5 (by kernel_rfl)) rfl
          replace ha := Aside0.mk ha
          have HB := Aside0.mk Q_HB
          have HO253 := Aside0.mk (Q_HO253 (hon 1 (by kernel_rfl)))
          have HI250 := Aside0.mk (Q_HI250_e4 (hon 4 (by kernel_rfl)))
          refine value_ (w1 := w') (v := .int .i64 ji5) (by rfl) rfl ?_ ?_
          · go_simp
            (try simp only [i64_w])
            try rfl
          refine hK.out _ _ ⟨v252, v256, adz_v256, m7_, m9_, (by rw [ha.out]; exact putSel_upk 4 hb_ rfl rfl rfl), fun h0_ => absurd ((hon 1 (by kernel_rfl)).symm.trans h0_) (by decide), Q_HB, Q_HO253, fun _ h1_ => absurd ((hon 4 (by kernel_rfl)).symm.trans h1_) (by decide), Q_HO257, Q_HA_HO257, Q_HI250_e4, fun h0_ => absurd ((hoff 7 (by kernel_rfl)).symm.trans h0_) (by decide), Q_X9_⟩
        refine steps_cons ?_ ?_
        · rintro b a w' ⟨v252, v256, adz_v256, m7_, m9_, ha, Q_HI250, Q_HB, Q_HO253, Q_HI250_e1, Q_HO257, Q_HA_HO257, Q_HI250_e4, Q_X7_, Q_X9_⟩ hb_ hon hoff
          refine ⟨_, rfl, fun K hK => ?_⟩
          have e9 : a.tmps[9]? = some (v256) := by rw [ha]; exact putSel_on (e := (2, 9, v256)) 1 rfl rfl (hon 2 (by kernel_rfl)) rfl
          have e13 : a.tmps[13]? = some (.int .i64 ji5) := by rw [ha]; exact putSel_on (e := (6, 13, .int .i64 ji5)) 4 rfl rfl (hon 6 (by kernel_rfl)) rfl
          replace ha := Aside0.mk ha
          have HB := Aside0.mk Q_HB
          have HO253 := Aside0.mk (Q_HO253 (hon 1 (by kernel_rfl)))
          have HO257 := Aside0.mk (Q_HO257 (hon 2 (by kernel_rfl)))
          have HA_HO257 := Aside0.mk (Q_HA_HO257 (hon 2 (by kernel_rfl)))
          have HI250 := Aside0.mk (Q_HI250_e4 (hon 4 (by kernel_rfl)))
          obtain ⟨c_, hv_⟩ := HA_HO257.out
          rw [hv_] at e9
          refine value_ (w1 := w') (v := .pointer (some (adz_v256.add ((ji5)).toNat))) (by rfl) rfl ?_ ?_
          · go_simp
            (try simp only [i64_w])
            try rfl
          refine hK.out _ _ ⟨v252, v256, adz_v256, (.pointer (some (adz_v256.add ((ji5)).toNat))), m9_, (by rw [ha.out]; exact putSel_upk 5 hb_ rfl rfl rfl), fun h0_ => absurd ((hon 1 (by kernel_rfl)).symm.trans h0_) (by decide), Q_HB, Q_HO253, fun _ h1_ => absurd ((hon 4 (by kernel_rfl)).symm.trans h1_) (by decide), Q_HO257, Q_HA_HO257, Q_HI250_e4, fun _ => rfl, Q_X9_⟩
        refine steps_cons ?_ ?_
        · rintro b a w' ⟨v252, v256, adz_v256, m7_, m9_, ha, Q_HI250, Q_HB, Q_HO253, Q_HI250_e1, Q_HO257, Q_HA_HO257, Q_HI250_e4, Q_X7_, Q_X9_⟩ hb_ hon hoff
          refine ⟨_, rfl, fun K hK => ?_⟩
          have e14 : a.tmps[14]? = some (m7_) := by rw [ha]; exact putSel_on (e := (7, 14, m7_)) 5 rfl rfl (hon 7 (by kernel_rfl)) rfl
          rw [Q_X7_ (hon 7 (by kernel_rfl))] at e14
          replace ha := Aside0.mk ha
          have HB := Aside0.mk Q_HB
          have HO253 := Aside0.mk (Q_HO253 (hon 1 (by kernel_rfl)))
          have HO257 := Aside0.mk (Q_HO257 (hon 2 (by kernel_rfl)))
          have HA_HO257 := Aside0.mk (Q_HA_HO257 (hon 2 (by kernel_rfl)))
          have HI250 := Aside0.mk (Q_HI250_e4 (hon 4 (by kernel_rfl)))
          obtain ⟨c_, hv_⟩ := HA_HO257.out
          have hF_ := HO257.out
          rw [hv_] at hF_
          obtain ⟨ad_, ea_, hx_⟩ := Kd.at_int (Kd.R_reads' hF_).2.2 (ji5) (of_eq_true pi260) (of_eq_true qi260)
          cases ea_
          refine value_ (w1 := w') (v := .int .i64 (rd y255 (ji5))) (by rfl) rfl ?_ ?_
          · go_simp
            (try simp only [i64_w])
            try rfl
          refine hK.out _ _ ⟨v252, v256, adz_v256, m7_, m9_, (by rw [ha.out]; exact putSel_upk 6 hb_ rfl rfl rfl), fun h0_ => absurd ((hon 1 (by kernel_rfl)).symm.trans h0_) (by decide), Q_HB, Q_HO253, fun _ h1_ => absurd ((hon 4 (by kernel_rfl)).symm.trans h1_) (by decide), Q_HO257, Q_HA_HO257, Q_HI250_e4, Q_X7_, Q_X9_⟩
        refine steps_cons ?_ ?_
        · rintro b a w' ⟨v252, v256, adz_v256, m7_, m9_, ha, Q_HI250, Q_HB, Q_HO253, Q_HI250_e1, Q_HO257, Q_HA_HO257, Q_HI250_e4, Q_X7_, Q_X9_⟩ hb_ hon hoff
          refine ⟨_, rfl, fun K hK => ?_⟩
          have e8 : a.tmps[8]? = some (v252) := by rw [ha]; exact putSel_on (e := (1, 8, v252)) 0 rfl rfl (hon 1 (by kernel_rfl)) rfl
          replace ha := Aside0.mk ha
          have HB := Aside0.mk Q_HB
          have HO253 := Aside0.mk (Q_HO253 (hon 1 (by kernel_rfl)))
          have HI250 := Aside0.mk (Q_HI250_e4 (hon 4 (by kernel_rfl)))
          refine value_ (w1 := w') (v := v252) (by rfl) rfl ?_ ?_
          · go_simp
            (try simp only [i64_w])
            try rfl
          refine hK.out _ _ ⟨v252, v256, adz_v256, m7_, (v252), (by rw [ha.out]; exact putSel_upk 7 hb_ rfl rfl rfl), fun h0_ => absurd ((hon 1 (by kernel_rfl)).symm.trans h0_) (by decide), Q_HB, Q_HO253, fun _ h1_ => absurd ((hon 4 (by kernel_rfl)).symm.trans h1_) (by decide), Q_HO257, Q_HA_HO257, Q_HI250_e4, Q_X7_, fun _ => rfl⟩
        refine steps_cons ?_ ?_
        · rintro b a w' ⟨v252, v256, adz_v256, m7_, m9_, ha, Q_HI250, Q_HB, Q_HO253, Q_HI250_e1, Q_HO257, Q_HA_HO257, Q_HI250_e4, Q_X7_, Q_X9_⟩ hb_ hon hoff
          refine ⟨_, rfl, fun K hK => ?_⟩
          have e15 : a.tmps[15]? = some (.int .i64 (rd y255 (ji5))) := by rw [ha]; exact putSel_on (e := (8, 15, .int .i64 (rd y255 (ji5)))) 6 rfl rfl (hon 8 (by kernel_rfl)) rfl
          replace ha := Aside0.mk ha
          have HB := Aside0.mk Q_HB
          have HO253 := Aside0.mk (Q_HO253 (hon 1 (by kernel_rfl)))
          have HO257 := Aside0.mk (Q_HO257 (hon 2 (by kernel_rfl)))
          have HA_HO257 := Aside0.mk (Q_HA_HO257 (hon 2 (by kernel_rfl)))
          have HI250 := Aside0.mk (Q_HI250_e4 (hon 4 (by kernel_rfl)))
          refine value_ (w1 := w') (v := .int .i64 (rd y255 (ji5))) (by rfl) rfl ?_ ?_
          · go_simp
            (try simp only [i64_w])
            try rfl
          refine hK.out _ _ ⟨v252, v256, adz_v256, m7_, m9_, (by rw [ha.out]; exact putSel_upk 8 hb_ rfl rfl rfl), fun h0_ => absurd ((hon 1 (by kernel_rfl)).symm.trans h0_) (by decide), Q_HB, Q_HO253, fun _ h1_ => absurd ((hon 4 (by kernel_rfl)).symm.trans h1_) (by decide), Q_HO257, Q_HA_HO257, Q_HI250_e4, Q_X7_, Q_X9_⟩
        exact steps_nil
      rintro b a w15 hall ⟨v252, v256, adz_v256, m7_, m9_, ha, Q_HI250, Q_HB, Q_HO253, Q_HI250_e1, Q_HO257, Q_HA_HO257, Q_HI250_e4, Q_X7_, Q_X9_⟩
      clear HB HI250
      have hb1_ := hall 1 (by kernel_rfl)
      have hb2_ := hall 2 (by kernel_rfl)
      have hb4_ := hall 4 (by kernel_rfl)
      have hb5_ := hall 5 (by kernel_rfl)
      have hb6_ := hall 6 (by kernel_rfl)
      have hb7_ := hall 7 (by kernel_rfl)
      have hb8_ := hall 8 (by kernel_rfl)
      have hb9_ := hall 9 (by kernel_rfl)
      have hb10_ := hall 10 (by kernel_rfl)
      subst ha
      obtain rfl := Q_X7_ hb7_
      obtain rfl := Q_X9_ hb9_
      simp only [putSel, hb1_, hb2_, hb4_, hb5_, hb6_, hb7_, hb8_, hb9_, hb10_, if_true, Act.put, List.setIfInBounds_toArray, List.set_cons_zero, List.set_cons_succ]
      clear Q_HI250
      have HB := Aside0.mk Q_HB
      clear Q_HB
      have HO253 := Aside0.mk (Q_HO253 hb1_)
      clear Q_HO253
      clear Q_HI250_e1
      have HO257 := Aside0.mk (Q_HO257 hb2_)
      clear Q_HO257
      have HA_HO257 := Aside0.mk (Q_HA_HO257 hb2_)
      clear Q_HA_HO257
      have HI250 := Aside0.mk (Q_HI250_e4 hb4_)
      clear Q_HI250_e4
      clear hall hb1_ hb2_ hb4_ hb5_ hb6_ hb7_ hb8_ hb9_ hb10_
      obtain ⟨co16, eo16⟩ := HA_HO257.out
      clear HA_HO257
      subst eo16
      try go_wp2
      go_ret2
      exact ⟨_, by first | rfl | (simp [errW_none, errW_some] <;> rfl) | (simp only [← hji5]; first | rfl | (simp [errW_none, errW_some] <;> rfl)) | (simp [*, errW_none, errW_some] <;> rfl), by (with_reducible repeat (first | apply Kd.R_alloc | apply Kd.R_drewN | apply Kd.R_drew)); exact Kd.R_mono HO253.out (fun _ hk => trivial), by repeat (first | (with_reducible first | exact HB.out | apply below_alloc | apply pw_below_drewN | apply below_drew1 | refine below_set ?_ (IsS71.ge HI250.out)) | exact HB.out)⟩
    · rw [if_neg c7] at H
      exact absurd H (by simp)
  · rw [if_neg c6] at H
    exact absurd H (by simp)

end Go.Proofs.Ytojehfdioeglgaa.S

namespace Go.Proofs.Ytojehfdioeglgaa.S
open Go.RowKit Go.Proofs.YtojehfdioeglgaaW.PrintWords Go.Proofs.YtojehfdioeglgaaW.PrintLast Go.Proofs.YtojehfdioeglgaaW.PrintMore
attribute [local go_sem] max2_int min2_int max_two min_two max_three min_three max_four min_four   -- for this text's walks alone
set_option linter.unusedVariables false
set_option linter.unusedSimpArgs false

/-! ### laws_wcInts: function 16 -/
def laws_wcInts.l0 : Nat → List Int → List Int → Int → Option (Bool)
  | 0, _, _, _ => none
  | k + 1, x0, x1, x5 => if x5 < (x0.length : Int) then (if 0 ≤ x5 then (if x5 < (x1.length : Int) then (if (rd x0 x5) = (rd x1 x5) then (laws_wcInts.l0 k x0 x1 (wrap64 (x5 + 1))) else (some false)) else (none)) else (none)) else (some true)
def laws_wcInts.f (k : Nat) (l0 : List Int) (l1 : List Int) : Option (Bool) := if (l0.length : Int) = (l1.length : Int) then (laws_wcInts.l0 k l0 l1 0) else (some false)
theorem laws_wcInts.mono_l : ∀ k, (∀ y0 y1 y2, LeO (laws_wcInts.l0 k y0 y1 y2) (laws_wcInts.l0 (k + 1) y0 y1 y2))
  | 0 => fun _ _ _ r h => by simp [laws_wcInts.l0] at h
  | k + 1 => by
    have ih0 := laws_wcInts.mono_l k
    · intro y0 y1 y2
      unfold laws_wcInts.l0
      repeat' first
      | (with_reducible exact ih0 _ _ _)
      | (with_reducible exact LeO.refl _)
      | (with_reducible exact LeO.none _)
      | (with_reducible refine LeO.ite ?_ ?_)
      | (with_reducible refine LeO.bind ?_ (fun _ => ?_))
      | exact ih0 _ _ _
      | exact LeO.none _
      | refine LeO.ite ?_ ?_
      | refine LeO.bind ?_ (fun _ => ?_)
theorem laws_wcInts.mono : ∀ a0 a1 k, LeO (laws_wcInts.f k a0 a1) (laws_wcInts.f (k + 1) a0 a1) := by
  intro a0 a1 k
  have ih0 := laws_wcInts.mono_l k
  unfold laws_wcInts.f
  repeat' first
      | (with_reducible exact ih0 _ _ _)
      | (with_reducible exact LeO.refl _)
      | (with_reducible exact LeO.none _)
      | (with_reducible refine LeO.ite ?_ ?_)
      | (with_reducible refine LeO.bind ?_ (fun _ => ?_))
      | exact ih0 _ _ _
      | exact LeO.none _
      | refine LeO.ite ?_ ?_
      | refine LeO.bind ?_ (fun _ => ?_)
set_option maxHeartbeats 8000000 in
set_option maxRecDepth 100000 in
theorem laws_wcInts.calls (k : Nat) (A0 : Option Addr) (c0 : Nat) (l0 : List Int) (A1 : Option Addr) (c1 : Nat) (l1 : List Int) (r : Bool) (w : World) (hr0 : Kd.C (Kd.int .i64) w A0 l0.length l0) (hc0 : l0.length ≤ c0) (hr1 : Kd.C (Kd.int .i64) w A1 l1.length l1) (hc1 : l1.length ≤ c1) (h : laws_wcInts.f k l0 l1 = some r) :
    Calls Try.prog 16 #[.slice A0 l0.length c0, .slice A1 l1.length c1] w fun e w' => e = .returned (.bool r) ∧ Drawn0 w w' := by
  have HR0 := Aside0.mk hr0
  have HC0 := Aside0.mk hc0
  clear hr0 hc0
  have HR1 := Aside0.mk hr1
  have HC1 := Aside0.mk hc1
  clear hr1 hc1
  have H : (if (l0.length : Int) = (l1.length : Int) then (laws_wcInts.l0 k l0 l1 0) else (some false)) = some r := h
  clear h
  by_cases c3 : (l0.length : Int) = (l1.length : Int)
  · rw [if_pos c3] at H
    have c3b0 : ((l0.length : Int) == (l1.length : Int)) = true := beq_iff_eq.mpr c3
    have c3b1 : ((l0.length : Int) != (l1.length : Int)) = false := bne_eq_false_iff_eq.mpr c3
    have c3b2 : (l0.length == l1.length) = true := by first | simpa using c3 | (simp at c3 ⊢; omega)
    clear c3
    have H' := Aside0.mk H
    clear H
    go_enter Try.func16, Try.ntmps16
    go_wp2
    repeat (go_quiet (fail); try go_wp2)
    go_loopg [5] k (fun kq v5 w' => ∃ (x5_1 : Int), v5 = .int .i64 x5_1 ∧ Aside0 (laws_wcInts.l0 kq l0 l1 x5_1 = some r) ∧ Aside0 (kq ≤ k) ∧ Drawn0 w w')
    case atStart => exact ⟨(0), (by first | rfl | (simp; done) | (simp [*]; done)), H', ⟨Nat.le_refl _⟩, by repeat (first | exact Drawn0.refl _ | apply Drawn0.step)⟩
    case round =>
      clear H'
      try clear c1
      try clear p2
      try clear c3
      try clear c3b0
      try clear c3b1
      try clear c3b2
      obtain ⟨x5_1, rfl, HA, HK1, ⟨m1, rfl⟩⟩ := hrel
      cases gk with
      | zero => exact absurd HA.out (by simp [laws_wcInts.l0])
      | succ k1 =>
        have H := HA.out
        clear HA
        simp only [laws_wcInts.l0] at H
        by_cases c4 : x5_1 < (l0.length : Int)
        · rw [if_pos c4] at H
          have c4b0 : decide (x5_1 < (l0.length : Int)) = true := decide_eq_true c4
          clear c4
          by_cases c5 : 0 ≤ x5_1
          · rw [if_pos c5] at H
            have c5b0 : decide (0 ≤ x5_1) = true := decide_eq_true c5
            clear c5
            by_cases c6 : x5_1 < (l1.length : Int)
            · rw [if_pos c6] at H
              have c6b0 : decide (x5_1 < (l1.length : Int)) = true := decide_eq_true c6
              clear c6
              by_cases c7 : (rd l0 x5_1) = (rd l1 x5_1)
              · rw [if_pos c7] at H
                have c7b0 : ((rd l0 x5_1) == (rd l1 x5_1)) = true := beq_iff_eq.mpr c7
                have c7b1 : ((rd l0 x5_1) != (rd l1 x5_1)) = false := bne_eq_false_iff_eq.mpr c7
                clear c7
                have H' := Aside0.mk H
                clear H
                have p261 : 0 ≤ (x5_1 : Int) := of_decide_eq_true (by first | (with_reducible assumption) | assumption)
                have q261 : x5_1 < (l0.length : Int) := of_decide_eq_true (by first | (with_reducible assumption) | assumption)
                obtain ⟨ad261, e261, hx261_0⟩ := Kd.at_int HR0.out x5_1 p261 q261
                cases e261
                replace p261 := eq_true p261
                replace q261 := eq_true q261
                have p262 : 0 ≤ (x5_1 : Int) := of_decide_eq_true (by first | (with_reducible assumption) | assumption)
                have q262 : x5_1 < (l1.length : Int) := of_decide_eq_true (by first | (with_reducible assumption) | assumption)
                obtain ⟨ad262, e262, hx262_0⟩ := Kd.at_int HR1.out x5_1 p262 q262
                cases e262
                replace p262 := eq_true p262
                replace q262 := eq_true q262
                go_wp2
                repeat (go_quiet (fail); try go_wp2)
                go_roundg k1
                case measure => have := HK1.out; omega
                case rel => exact ⟨(wrap64 (x5_1 + 1)), (by first | rfl | (simp; done) | (simp [*]; done)), H', ⟨by have := HK1.out; omega⟩, by repeat (first | exact Drawn0.refl _ | apply Drawn0.step)⟩
              · rw [if_neg c7] at H
                have c7b0 : ((rd l0 x5_1) == (rd l1 x5_1)) = false := beq_eq_false_iff_ne.mpr c7
                have c7b1 : ((rd l0 x5_1) != (rd l1 x5_1)) = true := bne_iff_ne.mpr c7
                obtain rfl := Option.some.inj H
                have p261 : 0 ≤ (x5_1 : Int) := of_decide_eq_true (by first | (with_reducible assumption) | assumption)
                have q261 : x5_1 < (l0.length : Int) := of_decide_eq_true (by first | (with_reducible assumption) | assumption)
                obtain ⟨ad261, e261, hx261_0⟩ := Kd.at_int HR0.out x5_1 p261 q261
                cases e261
                replace p261 := eq_true p261
                replace q261 := eq_true q261
                have p262 : 0 ≤ (x5_1 : Int) := of_decide_eq_true (by first | (with_reducible assumption) | assumption)
                have q262 : x5_1 < (l1.length : Int) := of_decide_eq_true (by first | (with_reducible assumption) | assumption)
                obtain ⟨ad262, e262, hx262_0⟩ := Kd.at_int HR1.out x5_1 p262 q262
                cases e262
                replace p262 := eq_true p262
                replace q262 := eq_true q262
                go_wp2
                repeat (go_quiet (fail); try go_wp2)
                go_ret
                exact ⟨by first | rfl | (simp; done) | (simp [*]; done), by repeat (first | exact Drawn0.refl _ | apply Drawn0.step)⟩
            · rw [if_neg c6] at H
              exact absurd H (by simp)
          · rw [if_neg c5] at H
            exact absurd H (by simp)
        · rw [if_neg c4] at H
          have c4b0 : decide (x5_1 < (l0.length : Int)) = false := decide_eq_false c4
          clear c4
          obtain rfl := Option.some.inj H
          go_wp2
          repeat (go_quiet (fail); try go_wp2)
          go_ret
          exact ⟨by first | rfl | (simp; done) | (simp [*]; done), by repeat (first | exact Drawn0.refl _ | apply Drawn0.step)⟩
  · rw [if_neg c3] at H
    have c3b0 : ((l0.length : Int) == (l1.length : Int)) = false := beq_eq_false_iff_ne.mpr c3
    have c3b1 : ((l0.length : Int) != (l1.length : Int)) = true := bne_iff_ne.mpr c3
    have c3b2 : (l0.length == l1.length) = false := by first | simpa using c3 | (simp at c3 ⊢; omega)
    obtain rfl := Option.some.inj H
    go_enter Try.func16, Try.ntmps16
    go_wp2
    repeat (go_quiet (fail); try go_wp2)
    go_ret
    exact ⟨by first | rfl | (simp; done) | (simp [*]; done), by repeat (first | exact Drawn0.refl _ | apply Drawn0.step)⟩

end Go.Proofs.Ytojehfdioeglgaa.S

namespace Go.Proofs.Ytojehfdioeglgaa.S
open Go.RowKit Go.Proofs.YtojehfdioeglgaaW.PrintWords Go.Proofs.YtojehfdioeglgaaW.PrintLast Go.Proofs.YtojehfdioeglgaaW.PrintMore
attribute [local go_sem] max2_int min2_int max_two min_two max_three min_three max_four min_four   -- for this text's walks alone
set_option linter.unusedVariables false
set_option linter.unusedSimpArgs false

theorem q2s {α : Type} (l : List α) (i : Nat) (a : α) : l.toArray.setIfInBounds i a = (l.set i a).toArray := List.setIfInBounds_toArray ..
theorem q2z {α : Type} (a : α) (l : List α) (b : α) : (a :: l).set 0 b = b :: l := List.set_cons_zero ..
theorem q2n {α : Type} (a : α) (l : List α) (i : Nat) (b : α) : (a :: l).set (i + 1) b = a :: l.set i b := List.set_cons_succ ..
/-! ### laws_FnLevelWeak: function 4 -/
mutual
def laws_FnLevelWeak.j0 : Nat → List Int → Int → List Int → Bool → Option (Bool)
 | 0, _, _, _, _ => none
 | k + 1, x3, x4, x5, x29 => if x29 = true then ((spec_LevelWeak.f k x3 x4).bind fun t274 => ((laws_wcInts.f k x5 t274).bind fun t277 => (some t277))) else (laws_FnLevelWeak.l0 k x3 x4 x5 0)
def laws_FnLevelWeak.l0 : Nat → List Int → Int → List Int → Int → Option (Bool)
 | 0, _, _, _, _ => none
 | k + 1, x3, x4, x5, x6 => if x6 < (x3.length : Int) then (if 0 ≤ x6 then (if x6 < (x5.length : Int) then (if (rd x5 x6) = 3 then (laws_FnLevelWeak.j2 k x3 x4 x5 x6 (rd x5 x6) true) else (if (rd x5 x6) = 5 then (laws_FnLevelWeak.j2 k x3 x4 x5 x6 (rd x5 x6) true) else (if (rd x5 x6) = 6 then (laws_FnLevelWeak.j2 k x3 x4 x5 x6 (rd x5 x6) true) else (if (rd x5 x6) = 8 then (laws_FnLevelWeak.j2 k x3 x4 x5 x6 (rd x5 x6) true) else (laws_FnLevelWeak.j2 k x3 x4 x5 x6 (rd x5 x6) ((rd x5 x6) == 9)))))) else (none)) else (none)) else (if (x5.length : Int) = (x3.length : Int) then ((impl_LevelWeak.f x5 x4).bind fun t278 => ((laws_wcInts.f k t278 x5).bind fun t281 => (some t281))) else (some false))
def laws_FnLevelWeak.j2 : Nat → List Int → Int → List Int → Int → Int → Bool → Option (Bool)
 | 0, _, _, _, _, _, _ => none
 | k + 1, x3, x4, x5, x6, x7, x62 => if x62 = true then (some false) else (if 0 ≤ x6 then (if x6 < (x3.length : Int) then (if (rd x3 x6) = 1 then (if x7 = 1 then (if (rd x3 x6) = 2 then (if x7 = 2 then (laws_FnLevelWeak.l0 k x3 x4 x5 (wrap64 (x6 + 1))) else (some false)) else (if (rd x3 x6) = 3 then (if x7 = 2 then (laws_FnLevelWeak.l0 k x3 x4 x5 (wrap64 (x6 + 1))) else (some false)) else (laws_FnLevelWeak.l0 k x3 x4 x5 (wrap64 (x6 + 1))))) else (some false)) else (if (rd x3 x6) = 2 then (if x7 = 2 then (laws_FnLevelWeak.l0 k x3 x4 x5 (wrap64 (x6 + 1))) else (some false)) else (if (rd x3 x6) = 3 then (if x7 = 2 then (laws_FnLevelWeak.l0 k x3 x4 x5 (wrap64 (x6 + 1))) else (some false)) else (laws_FnLevelWeak.l0 k x3 x4 x5 (wrap64 (x6 + 1)))))) else (none)) else (none))
end
def laws_FnLevelWeak.f (k : Nat) (l0 : List Int) : Option (Bool) := if (l0.length : Int) > 1048576 then (some true) else ((spec_DrawLevelWeak.f k l0).bind fun bt263 => ((impl_LevelWeak.f bt263.1 bt263.2).bind fun t267 => ((spec_LevelWeak.f k bt263.1 bt263.2).bind fun t270 => ((laws_wcInts.f k t267 t270).bind fun t273 => (if t273 = true then (laws_FnLevelWeak.j0 k bt263.1 bt263.2 t267 ((t267.length : Int) == 0)) else (laws_FnLevelWeak.j0 k bt263.1 bt263.2 t267 true))))))
theorem laws_FnLevelWeak.mono_l : ∀ k, (∀ y0 y1 y2 y3, LeO (laws_FnLevelWeak.j0 k y0 y1 y2 y3) (laws_FnLevelWeak.j0 (k + 1) y0 y1 y2 y3)) ∧ (∀ y0 y1 y2 y3, LeO (laws_FnLevelWeak.l0 k y0 y1 y2 y3) (laws_FnLevelWeak.l0 (k + 1) y0 y1 y2 y3)) ∧ (∀ y0 y1 y2 y3 y4 y5, LeO (laws_FnLevelWeak.j2 k y0 y1 y2 y3 y4 y5) (laws_FnLevelWeak.j2 (k + 1) y0 y1 y2 y3 y4 y5))
 | 0 => ⟨fun _ _ _ _ r h => by simp [laws_FnLevelWeak.j0] at h, fun _ _ _ _ r h => by simp [laws_FnLevelWeak.l0] at h, fun _ _ _ _ _ _ r h => by simp [laws_FnLevelWeak.j2] at h⟩
 | k + 1 => by
  obtain ⟨ih0, ih1, ih2⟩ := laws_FnLevelWeak.mono_l k; refine ⟨?_, ?_, ?_⟩
  ·
   intro y0 y1 y2 y3; unfold laws_FnLevelWeak.j0
   repeat' first
   | (with_reducible exact ih0 _ _ _ _)
   | (with_reducible exact ih1 _ _ _ _)
   | (with_reducible exact ih2 _ _ _ _ _ _)
   | (with_reducible exact laws_wcInts.mono _ _ _)
   | (with_reducible exact spec_DrawLevelWeak.mono _ _)
   | (with_reducible exact spec_LevelWeak.mono _ _ _)
   | (with_reducible exact LeO.refl _)
   | (with_reducible exact LeO.none _)
   | (with_reducible refine LeO.ite ?_ ?_)
   | (with_reducible refine LeO.bind ?_ (fun _ => ?_))
   | exact ih0 _ _ _ _
   | exact ih1 _ _ _ _
   | exact ih2 _ _ _ _ _ _
   | exact laws_wcInts.mono _ _ _
   | exact spec_DrawLevelWeak.mono _ _
   | exact spec_LevelWeak.mono _ _ _
   | exact LeO.none _
   | refine LeO.ite ?_ ?_
   | refine LeO.bind ?_ (fun _ => ?_)
  ·
   intro y0 y1 y2 y3; unfold laws_FnLevelWeak.l0
   repeat' first
   | (with_reducible exact ih0 _ _ _ _)
   | (with_reducible exact ih1 _ _ _ _)
   | (with_reducible exact ih2 _ _ _ _ _ _)
   | (with_reducible exact laws_wcInts.mono _ _ _)
   | (with_reducible exact spec_DrawLevelWeak.mono _ _)
   | (with_reducible exact spec_LevelWeak.mono _ _ _)
   | (with_reducible exact LeO.refl _)
   | (with_reducible exact LeO.none _)
   | (with_reducible refine LeO.ite ?_ ?_)
   | (with_reducible refine LeO.bind ?_ (fun _ => ?_))
   | exact ih0 _ _ _ _
   | exact ih1 _ _ _ _
   | exact ih2 _ _ _ _ _ _
   | exact laws_wcInts.mono _ _ _
   | exact spec_DrawLevelWeak.mono _ _
   | exact spec_LevelWeak.mono _ _ _
   | exact LeO.none _
   | refine LeO.ite ?_ ?_
   | refine LeO.bind ?_ (fun _ => ?_)
  ·
   intro y0 y1 y2 y3 y4 y5; unfold laws_FnLevelWeak.j2
   repeat' first
   | (with_reducible exact ih0 _ _ _ _)
   | (with_reducible exact ih1 _ _ _ _)
   | (with_reducible exact ih2 _ _ _ _ _ _)
   | (with_reducible exact laws_wcInts.mono _ _ _)
   | (with_reducible exact spec_DrawLevelWeak.mono _ _)
   | (with_reducible exact spec_LevelWeak.mono _ _ _)
   | (with_reducible exact LeO.refl _)
   | (with_reducible exact LeO.none _)
   | (with_reducible refine LeO.ite ?_ ?_)
   | (with_reducible refine LeO.bind ?_ (fun _ => ?_))
   | exact ih0 _ _ _ _
   | exact ih1 _ _ _ _
   | exact ih2 _ _ _ _ _ _
   | exact laws_wcInts.mono _ _ _
   | exact spec_DrawLevelWeak.mono _ _
   | exact spec_LevelWeak.mono _ _ _
   | exact LeO.none _
   | refine LeO.ite ?_ ?_
   | refine LeO.bind ?_ (fun _ => ?_)
theorem laws_FnLevelWeak.mono : ∀ a0 k, LeO (laws_FnLevelWeak.f k a0) (laws_FnLevelWeak.f (k + 1) a0) := by
 intro a0 k; obtain ⟨ih0, ih1, ih2⟩ := laws_FnLevelWeak.mono_l k; unfold laws_FnLevelWeak.f
 repeat' first
   | (with_reducible exact ih0 _ _ _ _)
   | (with_reducible exact ih1 _ _ _ _)
   | (with_reducible exact ih2 _ _ _ _ _ _)
   | (with_reducible exact laws_wcInts.mono _ _ _)
   | (with_reducible exact spec_DrawLevelWeak.mono _ _)
   | (with_reducible exact spec_LevelWeak.mono _ _ _)
   | (with_reducible exact LeO.refl _)
   | (with_reducible exact LeO.none _)
   | (with_reducible refine LeO.ite ?_ ?_)
   | (with_reducible refine LeO.bind ?_ (fun _ => ?_))
   | exact ih0 _ _ _ _
   | exact ih1 _ _ _ _
   | exact ih2 _ _ _ _ _ _
   | exact laws_wcInts.mono _ _ _
   | exact spec_DrawLevelWeak.mono _ _
   | exact spec_LevelWeak.mono _ _ _
   | exact LeO.none _
   | refine LeO.ite ?_ ?_
   | refine LeO.bind ?_ (fun _ => ?_)
set_option maxHeartbeats 8000000 in
set_option maxRecDepth 100000 in
theorem laws_FnLevelWeak.calls (k : Nat) (A0 : Option Addr) (c0 : Nat) (l0 : List Int) (r : Bool) (w : World) (hr0 : Kd.C (Kd.int .u8) w A0 l0.length l0) (hc0 : l0.length ≤ c0) (h : laws_FnLevelWeak.f k l0 = some r) :
  Calls Try.prog 4 #[.slice A0 l0.length c0] w fun e w' => e = .returned (.bool r) ∧ Below w.heap.size w w' := by
 have HR0 := Aside0.mk hr0; have HC0 := Aside0.mk hc0; clear hr0 hc0; have HB := Aside0.mk (Below.refl w.heap.size w); have H : (if (l0.length : Int) > 1048576 then (some true) else ((spec_DrawLevelWeak.f k l0).bind fun bt263 => ((impl_LevelWeak.f bt263.1 bt263.2).bind fun t267 => ((spec_LevelWeak.f k bt263.1 bt263.2).bind fun t270 => ((laws_wcInts.f k t267 t270).bind fun t273 => (if t273 = true then (laws_FnLevelWeak.j0 k bt263.1 bt263.2 t267 ((t267.length : Int) == 0)) else (laws_FnLevelWeak.j0 k bt263.1 bt263.2 t267 true))))))) = some r := h; clear h; by_cases c2 : (l0.length : Int) > 1048576
 ·
  rw [if_pos c2] at H; have c2b0 : decide (1048576 < (l0.length : Int)) = true := decide_eq_true c2; have c2b1 : decide (1048576 < l0.length) = true := decide_eq_true (by omega); clear c2; obtain rfl := Option.some.inj H; go_enter Try.func4, Try.ntmps4; go_wp2; go_ret; exact ⟨by first | rfl | (simp [errW_none, errW_some] <;> rfl) | (simp [*, errW_none, errW_some] <;> rfl), by repeat (first | (with_reducible first | exact HB.out | apply below_alloc | apply pw_below_drewN | apply below_drew1) | exact HB.out)⟩
 ·
  rw [if_neg c2] at H; have c2b0 : decide (1048576 < (l0.length : Int)) = false := decide_eq_false c2; have c2b1 : decide (1048576 < l0.length) = false := decide_eq_false (by omega); clear c2; replace H := Option.bind_eq_some_iff.mp H; obtain ⟨⟨t263, t264⟩, A30, H⟩ := H; replace H : ((impl_LevelWeak.f t263 t264).bind fun t267 => ((spec_LevelWeak.f k t263 t264).bind fun t270 => ((laws_wcInts.f k t267 t270).bind fun t273 => (if t273 = true then (laws_FnLevelWeak.j0 k t263 t264 t267 ((t267.length : Int) == 0)) else (laws_FnLevelWeak.j0 k t263 t264 t267 true))))) = some r := H; have A3 := Aside0.mk A30; clear A30; replace H := Option.bind_eq_some_iff.mp H; obtain ⟨t267, A40, H⟩ := H; replace H : ((spec_LevelWeak.f k t263 t264).bind fun t270 => ((laws_wcInts.f k t267 t270).bind fun t273 => (if t273 = true then (laws_FnLevelWeak.j0 k t263 t264 t267 ((t267.length : Int) == 0)) else (laws_FnLevelWeak.j0 k t263 t264 t267 true)))) = some r := H; have A4 := Aside0.mk A40; clear A40; have HC5 := Aside0.mk H; clear H; go_enter Try.func4, Try.ntmps4; go_upto_region 5 with (first | ((with_reducible refine gate_callee (f := 15) rfl ?_); refine goesL_ (some 13) rfl rfl Try.func15 (by kernel_rfl) rfl #[.slice A0 l0.length c0] rfl (by (try simp only [List.map_toArray, List.map_cons, List.map_nil]); first | done | rfl) ?_; (with_reducible refine (spec_DrawLevelWeak.calls k _ _ l0 t263 t264 _ ?side1 ?side2 A3.out).mono ?_); (case side1 => repeat (first | exact HR0.out | (with_reducible refine Kd.C_alloc ?_ _) | (with_reducible refine Kd.C_drewN ?_ _) | (with_reducible refine Kd.C_drew ?_))); (case side2 => exact HC0.out); rintro e w6 ⟨v265, rfl, ho0, hb⟩; refine ⟨_, rfl, ?_⟩; have n0_ := Aside0.mk (Kd.R_lower ho0 (below_size (by repeat (first | (with_reducible first | exact HB.out | apply below_alloc | apply pw_below_drewN | apply below_drew1) | exact HB.out)))); have n1_ := Aside0.mk (below_step (by repeat (first | (with_reducible first | exact HB.out | apply below_alloc | apply pw_below_drewN | apply below_drew1) | exact HB.out)) hb); clear HB; have HO266 := n0_; have HB := n1_; clear n0_ n1_; (try clear hb); (try clear hb2); (try clear hk); (try clear hi); (try clear ho0); obtain ⟨Ao7, co7, eo7⟩ := Kd.R_slice HO266.out; subst eo7) | ((with_reducible refine gate_callee (f := 11) rfl ?_); refine goesL_ (some 18) rfl rfl Try.func11 (by kernel_rfl) rfl #[.slice Ao7 t263.length co7, .int .i64 t264] rfl (by (try simp only [List.map_toArray, List.map_cons, List.map_nil]); first | done | rfl) ?_; (with_reducible refine (impl_LevelWeak.calls _ _ t263 t264 t267 _ ?side1 ?side2 A4.out).mono ?_); (case side1 => repeat (first | exact (Kd.R_reads' HO266.out).2.2 | (with_reducible refine Kd.C_alloc ?_ _) | (with_reducible refine Kd.C_drewN ?_ _) | (with_reducible refine Kd.C_drew ?_))); (case side2 => exact (Kd.R_reads' HO266.out).2.1); rintro e w8 ⟨v268, rfl, ho0, hb⟩; refine ⟨_, rfl, ?_⟩; have n0_ := Aside0.mk (Kd.R_elder' (by (with_reducible repeat (first | apply Kd.R_alloc | apply Kd.R_drewN | apply Kd.R_drew)); exact HO266.out) (Kd.R_base ho0) hb); have n1_ := Aside0.mk (Kd.R_lower (Kd.R_new' ho0 (Kd.R_lt (by (with_reducible repeat (first | apply Kd.R_alloc | apply Kd.R_drewN | apply Kd.R_drew)); exact HO266.out))) (below_size (by repeat (first | (with_reducible first | exact HB.out | apply below_alloc | apply pw_below_drewN | apply below_drew1) | exact HB.out)))); have n2_ := Aside0.mk (below_step (by repeat (first | (with_reducible first | exact HB.out | apply below_alloc | apply pw_below_drewN | apply below_drew1) | exact HB.out)) hb); clear HO266; clear HB; have HO266 := n0_; have HO269 := n1_; have HB := n2_; clear n0_ n1_ n2_; (try clear hb); (try clear hb2); (try clear hk); (try clear hi); (try clear ho0)))
  (try simp only [Act.put, List.setIfInBounds_toArray, List.set_cons_zero, List.set_cons_succ]); go_cut [29] (fun v29 wc => ∃ (kq : Nat) (x29_4 : Bool), v29 = .bool x29_4 ∧ Aside0 (laws_FnLevelWeak.j0 kq t263 t264 t267 x29_4 = some r) ∧ Aside0 (kq ≤ k) ∧ Aside0 (Kd.R (Kd.int .i64) 3 wc w.heap.size (fun k_ => some k_ ≠ (v268 : Value).ownBlock) (.slice Ao7 t263.length co7) t263) ∧ Aside0 (Kd.R (Kd.int .i64) 3 wc w.heap.size (fun k_ => some k_ ≠ ((.slice Ao7 t263.length co7) : Value).ownBlock) v268 t267) ∧ Aside0 (Below w.heap.size w wc))
  case first =>
   have H := HC5.out; clear HC5; replace H := Option.bind_eq_some_iff.mp H; obtain ⟨t270, A90, H⟩ := H; replace H : ((laws_wcInts.f k t267 t270).bind fun t273 => (if t273 = true then (laws_FnLevelWeak.j0 k t263 t264 t267 ((t267.length : Int) == 0)) else (laws_FnLevelWeak.j0 k t263 t264 t267 true))) = some r := H; have A9 := Aside0.mk A90; clear A90; replace H := Option.bind_eq_some_iff.mp H; obtain ⟨t273, A100, H⟩ := H; replace H : (if t273 = true then (laws_FnLevelWeak.j0 k t263 t264 t267 ((t267.length : Int) == 0)) else (laws_FnLevelWeak.j0 k t263 t264 t267 true)) = some r := H; have A10 := Aside0.mk A100; clear A100; by_cases c11 : t273 = true
   ·
    subst c11; have H1 : (laws_FnLevelWeak.j0 k t263 t264 t267 ((t267.length : Int) == 0)) = some r := by rw [if_pos rfl] at H; exact H
    clear H; have H := H1; clear H1; have H' := Aside0.mk H; clear H; go_wp2_with (first | ((with_reducible refine gate_callee (f := 9) rfl ?_); refine goesL_ (some 22) rfl rfl Try.func9 (by kernel_rfl) rfl #[.slice Ao7 t263.length co7, .int .i64 t264] rfl (by (try simp only [List.map_toArray, List.map_cons, List.map_nil]); first | done | rfl) ?_; (with_reducible refine (spec_LevelWeak.calls k _ _ t263 t264 t270 _ ?side1 ?side2 A9.out).mono ?_); (case side1 => repeat (first | exact (Kd.R_reads' HO266.out).2.2 | (with_reducible refine Kd.C_alloc ?_ _) | (with_reducible refine Kd.C_drewN ?_ _) | (with_reducible refine Kd.C_drew ?_))); (case side2 => exact (Kd.R_reads' HO266.out).2.1); rintro e w12 ⟨v271, rfl, ho0, hb⟩; refine ⟨_, rfl, ?_⟩; have n0_ := Aside0.mk (Kd.R_elder' (by (with_reducible repeat (first | apply Kd.R_alloc | apply Kd.R_drewN | apply Kd.R_drew)); exact HO266.out) (Kd.R_base ho0) hb); have n1_ := Aside0.mk (Kd.R_elder' (by (with_reducible repeat (first | apply Kd.R_alloc | apply Kd.R_drewN | apply Kd.R_drew)); exact HO269.out) (Kd.R_base ho0) hb); have n2_ := Aside0.mk (Kd.R_lower (Kd.R_new' (Kd.R_new' ho0 (Kd.R_lt (by (with_reducible repeat (first | apply Kd.R_alloc | apply Kd.R_drewN | apply Kd.R_drew)); exact HO266.out))) (Kd.R_lt (by (with_reducible repeat (first | apply Kd.R_alloc | apply Kd.R_drewN | apply Kd.R_drew)); exact HO269.out))) (below_size (by repeat (first | (with_reducible first | exact HB.out | apply below_alloc | apply pw_below_drewN | apply below_drew1) | exact HB.out)))); have n3_ := Aside0.mk (below_step (by repeat (first | (with_reducible first | exact HB.out | apply below_alloc | apply pw_below_drewN | apply below_drew1) | exact HB.out)) hb); clear HO266; clear HO269; clear HB; have HO266 := n0_; have HO269 := n1_; have HO272 := n2_; have HB := n3_; clear n0_ n1_ n2_ n3_; (try clear hb); (try clear hb2); (try clear hk); (try clear hi); (try clear ho0); obtain ⟨Ao13, co13, eo13⟩ := Kd.R_slice HO269.out; subst eo13; obtain ⟨Ao14, co14, eo14⟩ := Kd.R_slice HO272.out; subst eo14) | ((with_reducible refine gate_callee (f := 16) rfl ?_); refine goesL_ (some 23) rfl rfl Try.func16 (by kernel_rfl) rfl #[.slice Ao13 t267.length co13, .slice Ao14 t270.length co14] rfl (by (try simp only [List.map_toArray, List.map_cons, List.map_nil]); first | done | rfl) ?_; (with_reducible refine (laws_wcInts.calls k _ _ t267 _ _ t270 true _ ?side1 ?side2 ?side3 ?side4 A10.out).mono ?_); (case side1 => repeat (first | exact (Kd.R_reads' HO269.out).2.2 | (with_reducible refine Kd.C_alloc ?_ _) | (with_reducible refine Kd.C_drewN ?_ _) | (with_reducible refine Kd.C_drew ?_))); (case side2 => exact (Kd.R_reads' HO269.out).2.1); (case side3 => repeat (first | exact (Kd.R_reads' HO272.out).2.2 | (with_reducible refine Kd.C_alloc ?_ _) | (with_reducible refine Kd.C_drewN ?_ _) | (with_reducible refine Kd.C_drew ?_))); (case side4 => exact (Kd.R_reads' HO272.out).2.1); rintro e w' ⟨rfl, ⟨nd, rfl⟩⟩; refine ⟨_, rfl, ?_⟩)); go_meet
    case rel => exact ⟨_, (((t267.length : Int) == 0)), (by first | rfl | (simp; done) | (simp [*]; done)), H', ⟨by first | omega | exact Nat.le_refl _⟩, ⟨by (with_reducible repeat (first | apply Kd.R_alloc | apply Kd.R_drewN | apply Kd.R_drew)); exact Kd.R_mono HO266.out (fun _ hk => hk.1.2)⟩, ⟨by (with_reducible repeat (first | apply Kd.R_alloc | apply Kd.R_drewN | apply Kd.R_drew)); exact Kd.R_mono HO269.out (fun _ hk => hk.1.2)⟩, ⟨by repeat (first | (with_reducible first | exact HB.out | apply below_alloc | apply pw_below_drewN | apply below_drew1) | exact HB.out)⟩⟩
   ·
    replace c11 := Bool.eq_false_iff.mpr c11; subst c11; have H1 : (laws_FnLevelWeak.j0 k t263 t264 t267 true) = some r := by rw [if_neg (show ¬ (false = true) by decide)] at H; exact H
    clear H; have H := H1; clear H1; have H' := Aside0.mk H; clear H; go_wp2_with (first | ((with_reducible refine gate_callee (f := 9) rfl ?_); refine goesL_ (some 22) rfl rfl Try.func9 (by kernel_rfl) rfl #[.slice Ao7 t263.length co7, .int .i64 t264] rfl (by (try simp only [List.map_toArray, List.map_cons, List.map_nil]); first | done | rfl) ?_; (with_reducible refine (spec_LevelWeak.calls k _ _ t263 t264 t270 _ ?side1 ?side2 A9.out).mono ?_); (case side1 => repeat (first | exact (Kd.R_reads' HO266.out).2.2 | (with_reducible refine Kd.C_alloc ?_ _) | (with_reducible refine Kd.C_drewN ?_ _) | (with_reducible refine Kd.C_drew ?_))); (case side2 => exact (Kd.R_reads' HO266.out).2.1); rintro e w15 ⟨v271, rfl, ho0, hb⟩; refine ⟨_, rfl, ?_⟩; have n0_ := Aside0.mk (Kd.R_elder' (by (with_reducible repeat (first | apply Kd.R_alloc | apply Kd.R_drewN | apply Kd.R_drew)); exact HO266.out) (Kd.R_base ho0) hb); have n1_ := Aside0.mk (Kd.R_elder' (by (with_reducible repeat (first | apply Kd.R_alloc | apply Kd.R_drewN | apply Kd.R_drew)); exact HO269.out) (Kd.R_base ho0) hb); have n2_ := Aside0.mk (Kd.R_lower (Kd.R_new' (Kd.R_new' ho0 (Kd.R_lt (by (with_reducible repeat (first | apply Kd.R_alloc | apply Kd.R_drewN | apply Kd.R_drew)); exact HO266.out))) (Kd.R_lt (by (with_reducible repeat (first | apply Kd.R_alloc | apply Kd.R_drewN | apply Kd.R_drew)); exact HO269.out))) (below_size (by repeat (first | (with_reducible first | exact HB.out | apply below_alloc | apply pw_below_drewN | apply below_drew1) | exact HB.out)))); have n3_ := Aside0.mk (below_step (by repeat (first | (with_reducible first | exact HB.out | apply below_alloc | apply pw_below_drewN | apply below_drew1) | exact HB.out)) hb); clear HO266; clear HO269; clear HB; have HO266 := n0_; have HO269 := n1_; have HO272 := n2_; have HB := n3_; clear n0_ n1_ n2_ n3_; (try clear hb); (try clear hb2); (try clear hk); (try clear hi); (try clear ho0); obtain ⟨Ao16, co16, eo16⟩ := Kd.R_slice HO269.out; subst eo16; obtain ⟨Ao17, co17, eo17⟩ := Kd.R_slice HO272.out; subst eo17) | ((with_reducible refine gate_callee (f := 16) rfl ?_); refine goesL_ (some 23) rfl rfl Try.func16 (by kernel_rfl) rfl #[.slice Ao16 t267.length co16, .slice Ao17 t270.length co17] rfl (by (try simp only [List.map_toArray, List.map_cons, List.map_nil]); first | done | rfl) ?_; (with_reducible refine (laws_wcInts.calls k _ _ t267 _ _ t270 false _ ?side1 ?side2 ?side3 ?side4 A10.out).mono ?_); (case side1 => repeat (first | exact (Kd.R_reads' HO269.out).2.2 | (with_reducible refine Kd.C_alloc ?_ _) | (with_reducible refine Kd.C_drewN ?_ _) | (with_reducible refine Kd.C_drew ?_))); (case side2 => exact (Kd.R_reads' HO269.out).2.1); (case side3 => repeat (first | exact (Kd.R_reads' HO272.out).2.2 | (with_reducible refine Kd.C_alloc ?_ _) | (with_reducible refine Kd.C_drewN ?_ _) | (with_reducible refine Kd.C_drew ?_))); (case side4 => exact (Kd.R_reads' HO272.out).2.1); rintro e w' ⟨rfl, ⟨nd, rfl⟩⟩; refine ⟨_, rfl, ?_⟩)); go_meet
    case rel => exact ⟨_, (true), (by first | rfl | (simp; done) | (simp [*]; done)), H', ⟨by first | omega | exact Nat.le_refl _⟩, ⟨by (with_reducible repeat (first | apply Kd.R_alloc | apply Kd.R_drewN | apply Kd.R_drew)); exact Kd.R_mono HO266.out (fun _ hk => hk.1.2)⟩, ⟨by (with_reducible repeat (first | apply Kd.R_alloc | apply Kd.R_drewN | apply Kd.R_drew)); exact Kd.R_mono HO269.out (fun _ hk => hk.1.2)⟩, ⟨by repeat (first | (with_reducible first | exact HB.out | apply below_alloc | apply pw_below_drewN | apply below_drew1) | exact HB.out)⟩⟩
  case rest =>
   clear HC5; (try clear c1); (try clear c2); (try clear c2b0); (try clear c2b1); (try clear p2); (try clear c4); (try clear c9); (try clear c11); (try clear c15); (try clear c16); obtain ⟨kq, x29_4, rfl, HA, HJ4, HO_3, HO_5, HB⟩ := hcut
   cases kq with
   | zero => exact absurd HA.out (by simp [laws_FnLevelWeak.j0])
   | succ kj4 =>
    have H := HA.out; clear HA; simp only [laws_FnLevelWeak.j0] at H; by_cases c18 : x29_4 = true
    ·
     subst c18; have H1 : ((spec_LevelWeak.f kj4 t263 t264).bind fun t274 => ((laws_wcInts.f kj4 t267 t274).bind fun t277 => (some t277))) = some r := by rw [if_pos rfl] at H; exact H
     clear H; have H := H1; clear H1; replace H := Option.bind_eq_some_iff.mp H; obtain ⟨t274, A190, H⟩ := H; replace H : ((laws_wcInts.f kj4 t267 t274).bind fun t277 => (some t277)) = some r := H; have A19 := Aside0.mk A190; clear A190; replace H := Option.bind_eq_some_iff.mp H; obtain ⟨t277, A200, H⟩ := H; replace H : (some t277) = some r := H; have A20 := Aside0.mk A200; clear A200; obtain rfl := Option.some.inj H; go_wp2_with (first | ((with_reducible refine gate_callee (f := 9) rfl ?_); refine goesL_ (some 33) rfl rfl Try.func9 (by kernel_rfl) rfl #[.slice Ao7 t263.length co7, .int .i64 t264] rfl (by (try simp only [List.map_toArray, List.map_cons, List.map_nil]); first | done | rfl) ?_; (with_reducible refine (spec_LevelWeak.calls kj4 _ _ t263 t264 t274 _ ?side1 ?side2 A19.out).mono ?_); (case side1 => repeat (first | exact (Kd.R_reads' HO_3.out).2.2 | (with_reducible refine Kd.C_alloc ?_ _) | (with_reducible refine Kd.C_drewN ?_ _) | (with_reducible refine Kd.C_drew ?_))); (case side2 => exact (Kd.R_reads' HO_3.out).2.1); rintro e w21 ⟨v275, rfl, ho0, hb⟩; refine ⟨_, rfl, ?_⟩; have n0_ := Aside0.mk (Kd.R_elder' (by (with_reducible repeat (first | apply Kd.R_alloc | apply Kd.R_drewN | apply Kd.R_drew)); exact HO_3.out) (Kd.R_base ho0) hb); have n1_ := Aside0.mk (Kd.R_elder' (by (with_reducible repeat (first | apply Kd.R_alloc | apply Kd.R_drewN | apply Kd.R_drew)); exact HO_5.out) (Kd.R_base ho0) hb); have n2_ := Aside0.mk (Kd.R_lower (Kd.R_new' (Kd.R_new' ho0 (Kd.R_lt (by (with_reducible repeat (first | apply Kd.R_alloc | apply Kd.R_drewN | apply Kd.R_drew)); exact HO_3.out))) (Kd.R_lt (by (with_reducible repeat (first | apply Kd.R_alloc | apply Kd.R_drewN | apply Kd.R_drew)); exact HO_5.out))) (below_size (by repeat (first | (with_reducible first | exact HB.out | apply below_alloc | apply pw_below_drewN | apply below_drew1) | exact HB.out)))); have n3_ := Aside0.mk (below_step (by repeat (first | (with_reducible first | exact HB.out | apply below_alloc | apply pw_below_drewN | apply below_drew1) | exact HB.out)) hb); clear HO_3; clear HO_5; clear HB; have HO_3 := n0_; have HO_5 := n1_; have HO276 := n2_; have HB := n3_; clear n0_ n1_ n2_ n3_; (try clear hb); (try clear hb2); (try clear hk); (try clear hi); (try clear ho0); obtain ⟨Ao22, co22, eo22⟩ := Kd.R_slice HO_5.out; subst eo22; obtain ⟨Ao23, co23, eo23⟩ := Kd.R_slice HO276.out; subst eo23) | ((with_reducible refine gate_callee (f := 16) rfl ?_); refine goesL_ (some 34) rfl rfl Try.func16 (by kernel_rfl) rfl #[.slice Ao22 t267.length co22, .slice Ao23 t274.length co23] rfl (by (try simp only [List.map_toArray, List.map_cons, List.map_nil]); first | done | rfl) ?_; (with_reducible refine (laws_wcInts.calls kj4 _ _ t267 _ _ t274 t277 _ ?side1 ?side2 ?side3 ?side4 A20.out).mono ?_); (case side1 => repeat (first | exact (Kd.R_reads' HO_5.out).2.2 | (with_reducible refine Kd.C_alloc ?_ _) | (with_reducible refine Kd.C_drewN ?_ _) | (with_reducible refine Kd.C_drew ?_))); (case side2 => exact (Kd.R_reads' HO_5.out).2.1); (case side3 => repeat (first | exact (Kd.R_reads' HO276.out).2.2 | (with_reducible refine Kd.C_alloc ?_ _) | (with_reducible refine Kd.C_drewN ?_ _) | (with_reducible refine Kd.C_drew ?_))); (case side4 => exact (Kd.R_reads' HO276.out).2.1); rintro e w' ⟨rfl, ⟨nd, rfl⟩⟩; refine ⟨_, rfl, ?_⟩)); go_ret; exact ⟨by first | rfl | (simp [errW_none, errW_some] <;> rfl) | (simp [*, errW_none, errW_some] <;> rfl), by repeat (first | (with_reducible first | exact HB.out | apply below_alloc | apply pw_below_drewN | apply below_drew1) | exact HB.out)⟩
    ·
     replace c18 := Bool.eq_false_iff.mpr c18; subst c18; have H1 : (laws_FnLevelWeak.l0 kj4 t263 t264 t267 0) = some r := by rw [if_neg (show ¬ (false = true) by decide)] at H; exact H
     clear H; have H := H1; clear H1; have H' := Aside0.mk H; clear H; go_wp2; go_loopg [6] kj4 (fun kq v6 w' => ∃ (x6_2 : Int), v6 = .int .i64 x6_2 ∧ Aside0 (laws_FnLevelWeak.l0 kq t263 t264 t267 x6_2 = some r) ∧ Aside0 (kq ≤ kj4) ∧ Aside0 (Kd.R (Kd.int .i64) 3 w' w.heap.size (fun k_ => some k_ ≠ (v268 : Value).ownBlock) (.slice Ao7 t263.length co7) t263) ∧ Aside0 (Kd.R (Kd.int .i64) 3 w' w.heap.size (fun k_ => some k_ ≠ ((.slice Ao7 t263.length co7) : Value).ownBlock) v268 t267) ∧ Aside0 (Below w.heap.size w w'))
     case atStart => exact ⟨(0), (by first | rfl | (simp; done) | (simp [*]; done)), H', ⟨Nat.le_refl _⟩, ⟨by (with_reducible repeat (first | apply Kd.R_alloc | apply Kd.R_drewN | apply Kd.R_drew)); exact HO_3.out⟩, ⟨by (with_reducible repeat (first | apply Kd.R_alloc | apply Kd.R_drewN | apply Kd.R_drew)); exact HO_5.out⟩, ⟨by repeat (first | (with_reducible first | exact HB.out | apply below_alloc | apply pw_below_drewN | apply below_drew1) | exact HB.out)⟩⟩
     case round =>
      clear H'; (try clear c1); (try clear c2); (try clear c2b0); (try clear c2b1); (try clear p2); (try clear c4); (try clear c9); (try clear c11); (try clear c15); (try clear c16); (try clear c18); (try clear p2); obtain ⟨x6_2, rfl, HA, HK2, HO_3, HO_5, HB⟩ := hrel
      cases gk with
      | zero => exact absurd HA.out (by simp [laws_FnLevelWeak.l0])
      | succ k2 =>
       have H := HA.out; clear HA; simp only [laws_FnLevelWeak.l0] at H; by_cases c24 : x6_2 < (t263.length : Int)
       ·
        rw [if_pos c24] at H; have c24b0 : decide (x6_2 < (t263.length : Int)) = true := decide_eq_true c24; clear c24; by_cases c25 : 0 ≤ x6_2
        ·
         rw [if_pos c25] at H; have c25b0 : decide (0 ≤ x6_2) = true := decide_eq_true c25; clear c25; by_cases c26 : x6_2 < (t267.length : Int)
         ·
          rw [if_pos c26] at H; have c26b0 : decide (x6_2 < (t267.length : Int)) = true := decide_eq_true c26; clear c26; have HC27 := Aside0.mk H; clear H; obtain ⟨Ao28, co28, eo28⟩ := Kd.R_slice HO_5.out; subst eo28; have p282 : 0 ≤ (x6_2 : Int) := of_decide_eq_true (by first | (with_reducible assumption) | assumption); have q282 : x6_2 < (t267.length : Int) := of_decide_eq_true (by first | (with_reducible assumption) | assumption); obtain ⟨ad282, e282, hx282_0⟩ := Kd.at_int (Kd.R_reads' HO_5.out).2.2 x6_2 p282 q282
          cases e282
          replace p282 := eq_true p282; replace q282 := eq_true q282; go_upto_region 11 with (fail)
          go_cut [62] (fun v62 wc => ∃ (kq : Nat) (x62_26 : Bool), v62 = .bool x62_26 ∧ Aside0 (laws_FnLevelWeak.j2 kq t263 t264 t267 x6_2 (rd t267 x6_2) x62_26 = some r) ∧ Aside0 (kq ≤ k2) ∧ Aside0 (Kd.R (Kd.int .i64) 3 wc w.heap.size (fun k_ => some k_ ≠ ((.slice (some ad282) t267.length co28) : Value).ownBlock) (.slice Ao7 t263.length co7) t263) ∧ Aside0 (Kd.R (Kd.int .i64) 3 wc w.heap.size (fun k_ => some k_ ≠ ((.slice Ao7 t263.length co7) : Value).ownBlock) (.slice (some ad282) t267.length co28) t267) ∧ Aside0 (Below w.heap.size w wc))
          case first =>
           have H := HC27.out; clear HC27; by_cases c29 : (rd t267 x6_2) = 3
           ·
            rw [if_pos c29] at H; have c29b0 : ((rd t267 x6_2) == 3) = true := beq_iff_eq.mpr c29; have c29b1 : ((rd t267 x6_2) != 3) = false := bne_eq_false_iff_eq.mpr c29; clear c29; (first | rw [c29b0] | (simp only [i64_w, i32_w]; rw [c29b0]) | skip); have H' := Aside0.mk H; clear H; go_wp2; go_meet
            case rel => exact ⟨_, (true), (by first | rfl | (simp; done) | (simp [*]; done)), H', ⟨by have := HJ4.out; have := HK2.out; first | omega | exact Nat.le_refl _⟩, ⟨by (with_reducible repeat (first | apply Kd.R_alloc | apply Kd.R_drewN | apply Kd.R_drew)); exact HO_3.out⟩, ⟨by (with_reducible repeat (first | apply Kd.R_alloc | apply Kd.R_drewN | apply Kd.R_drew)); exact HO_5.out⟩, ⟨by repeat (first | (with_reducible first | exact HB.out | apply below_alloc | apply pw_below_drewN | apply below_drew1) | exact HB.out)⟩⟩
           ·
            rw [if_neg c29] at H; have c29b0 : ((rd t267 x6_2) == 3) = false := beq_eq_false_iff_ne.mpr c29; have c29b1 : ((rd t267 x6_2) != 3) = true := bne_iff_ne.mpr c29; (first | rw [c29b0] | (simp only [i64_w, i32_w]; rw [c29b0]) | skip); by_cases c30 : (rd t267 x6_2) = 5
            ·
             rw [if_pos c30] at H; have c30b0 : ((rd t267 x6_2) == 5) = true := beq_iff_eq.mpr c30; have c30b1 : ((rd t267 x6_2) != 5) = false := bne_eq_false_iff_eq.mpr c30; clear c30; have H' := Aside0.mk H; clear H; go_wp2; go_meet
             case rel => exact ⟨_, (true), (by first | rfl | (simp; done) | (simp [*]; done)), H', ⟨by have := HJ4.out; have := HK2.out; first | omega | exact Nat.le_refl _⟩, ⟨by (with_reducible repeat (first | apply Kd.R_alloc | apply Kd.R_drewN | apply Kd.R_drew)); exact HO_3.out⟩, ⟨by (with_reducible repeat (first | apply Kd.R_alloc | apply Kd.R_drewN | apply Kd.R_drew)); exact HO_5.out⟩, ⟨by repeat (first | (with_reducible first | exact HB.out | apply below_alloc | apply pw_below_drewN | apply below_drew1) | exact HB.out)⟩⟩
            ·
             rw [if_neg c30] at H; have c30b0 : ((rd t267 x6_2) == 5) = false := beq_eq_false_iff_ne.mpr c30; have c30b1 : ((rd t267 x6_2) != 5) = true := bne_iff_ne.mpr c30; by_cases c31 : (rd t267 x6_2) = 6
             ·
              rw [if_pos c31] at H; have c31b0 : ((rd t267 x6_2) == 6) = true := beq_iff_eq.mpr c31; have c31b1 : ((rd t267 x6_2) != 6) = false := bne_eq_false_iff_eq.mpr c31; clear c31; have H' := Aside0.mk H; clear H; go_wp2; go_meet
              case rel => exact ⟨_, (true), (by first | rfl | (simp; done) | (simp [*]; done)), H', ⟨by have := HJ4.out; have := HK2.out; first | omega | exact Nat.le_refl _⟩, ⟨by (with_reducible repeat (first | apply Kd.R_alloc | apply Kd.R_drewN | apply Kd.R_drew)); exact HO_3.out⟩, ⟨by (with_reducible repeat (first | apply Kd.R_alloc | apply Kd.R_drewN | apply Kd.R_drew)); exact HO_5.out⟩, ⟨by repeat (first | (with_reducible first | exact HB.out | apply below_alloc | apply pw_below_drewN | apply below_drew1) | exact HB.out)⟩⟩
             ·
              rw [if_neg c31] at H; have c31b0 : ((rd t267 x6_2) == 6) = false := beq_eq_false_iff_ne.mpr c31; have c31b1 : ((rd t267 x6_2) != 6) = true := bne_iff_ne.mpr c31; by_cases c32 : (rd t267 x6_2) = 8
              ·
               rw [if_pos c32] at H; have c32b0 : ((rd t267 x6_2) == 8) = true := beq_iff_eq.mpr c32; have c32b1 : ((rd t267 x6_2) != 8) = false := bne_eq_false_iff_eq.mpr c32; clear c32; have H' := Aside0.mk H; clear H; go_wp2; go_meet
               case rel => exact ⟨_, (true), (by first | rfl | (simp; done) | (simp [*]; done)), H', ⟨by have := HJ4.out; have := HK2.out; first | omega | exact Nat.le_refl _⟩, ⟨by (with_reducible repeat (first | apply Kd.R_alloc | apply Kd.R_drewN | apply Kd.R_drew)); exact HO_3.out⟩, ⟨by (with_reducible repeat (first | apply Kd.R_alloc | apply Kd.R_drewN | apply Kd.R_drew)); exact HO_5.out⟩, ⟨by repeat (first | (with_reducible first | exact HB.out | apply below_alloc | apply pw_below_drewN | apply below_drew1) | exact HB.out)⟩⟩
              ·
               rw [if_neg c32] at H; have c32b0 : ((rd t267 x6_2) == 8) = false := beq_eq_false_iff_ne.mpr c32; have c32b1 : ((rd t267 x6_2) != 8) = true := bne_iff_ne.mpr c32; have H' := Aside0.mk H; clear H; go_wp2; go_meet
               case rel => exact ⟨_, (((rd t267 x6_2) == 9)), (by first | rfl | (simp; done) | (simp [*]; done)), H', ⟨by have := HJ4.out; have := HK2.out; first | omega | exact Nat.le_refl _⟩, ⟨by (with_reducible repeat (first | apply Kd.R_alloc | apply Kd.R_drewN | apply Kd.R_drew)); exact HO_3.out⟩, ⟨by (with_reducible repeat (first | apply Kd.R_alloc | apply Kd.R_drewN | apply Kd.R_drew)); exact HO_5.out⟩, ⟨by repeat (first | (with_reducible first | exact HB.out | apply below_alloc | apply pw_below_drewN | apply below_drew1) | exact HB.out)⟩⟩
          case rest =>
           clear HC27; (try clear c1); (try clear c2); (try clear c2b0); (try clear c2b1); (try clear p2); (try clear q2); (try clear hx2); (try clear c3); (try clear c4); (try clear c9); (try clear c11); (try clear c15); (try clear c16); (try clear c18); (try clear c24); (try clear c24b0); (try clear c25); (try clear c25b0); (try clear c26); (try clear c26b0); (try clear p28); (try clear q28); (try clear hx28); (try clear c29); (try clear c29b0); (try clear c29b1); (try clear c30); (try clear c30b0); (try clear c30b1); (try clear c31); (try clear c31b0); (try clear c31b1); (try clear c32); (try clear c32b0); (try clear c32b1); (try clear hx282_0); (try clear p2); (try clear p282); (try clear q282); obtain ⟨kq, x62_26, rfl, HA, HJ26, HO_3, HO_5, HB⟩ := hcut
           cases kq with
           | zero => exact absurd HA.out (by simp [laws_FnLevelWeak.j2])
           | succ kj26 =>
            have H := HA.out; clear HA; simp only [laws_FnLevelWeak.j2] at H; by_cases c33 : x62_26 = true
            ·
             subst c33; have H1 : (some false) = some r := by rw [if_pos rfl] at H; exact H
             clear H; have H := H1; clear H1; obtain rfl := Option.some.inj H; go_wp2; go_ret; exact ⟨by first | rfl | (simp [errW_none, errW_some] <;> rfl) | (simp [*, errW_none, errW_some] <;> rfl), by repeat (first | (with_reducible first | exact HB.out | apply below_alloc | apply pw_below_drewN | apply below_drew1) | exact HB.out)⟩
            ·
             replace c33 := Bool.eq_false_iff.mpr c33; subst c33; have H1 : (if 0 ≤ x6_2 then (if x6_2 < (t263.length : Int) then (if (rd t263 x6_2) = 1 then (if (rd t267 x6_2) = 1 then (if (rd t263 x6_2) = 2 then (if (rd t267 x6_2) = 2 then (laws_FnLevelWeak.l0 kj26 t263 t264 t267 (wrap64 (x6_2 + 1))) else (some false)) else (if (rd t263 x6_2) = 3 then (if (rd t267 x6_2) = 2 then (laws_FnLevelWeak.l0 kj26 t263 t264 t267 (wrap64 (x6_2 + 1))) else (some false)) else (laws_FnLevelWeak.l0 kj26 t263 t264 t267 (wrap64 (x6_2 + 1))))) else (some false)) else (if (rd t263 x6_2) = 2 then (if (rd t267 x6_2) = 2 then (laws_FnLevelWeak.l0 kj26 t263 t264 t267 (wrap64 (x6_2 + 1))) else (some false)) else (if (rd t263 x6_2) = 3 then (if (rd t267 x6_2) = 2 then (laws_FnLevelWeak.l0 kj26 t263 t264 t267 (wrap64 (x6_2 + 1))) else (some false)) else (laws_FnLevelWeak.l0 kj26 t263 t264 t267 (wrap64 (x6_2 + 1)))))) else (none)) else (none)) = some r := by rw [if_neg (show ¬ (false = true) by decide)] at H; exact H
             clear H; have H := H1; clear H1; by_cases c34 : 0 ≤ x6_2
             ·
              rw [if_pos c34] at H; have c34b0 : decide (0 ≤ x6_2) = true := decide_eq_true c34; clear c34; by_cases c35 : x6_2 < (t263.length : Int)
              ·
               rw [if_pos c35] at H; have c35b0 : decide (x6_2 < (t263.length : Int)) = true := decide_eq_true c35; clear c35; by_cases c36 : (rd t263 x6_2) = 1
               ·
                rw [if_pos c36] at H; have c36b0 : ((rd t263 x6_2) == 1) = true := beq_iff_eq.mpr c36; have c36b1 : ((rd t263 x6_2) != 1) = false := bne_eq_false_iff_eq.mpr c36; clear c36; by_cases c37 : (rd t267 x6_2) = 1
                ·
                 rw [if_pos c37] at H; have c37b0 : ((rd t267 x6_2) == 1) = true := beq_iff_eq.mpr c37; have c37b1 : ((rd t267 x6_2) != 1) = false := bne_eq_false_iff_eq.mpr c37; clear c37; by_cases c38 : (rd t263 x6_2) = 2
                 ·
                  rw [if_pos c38] at H; have c38b0 : ((rd t263 x6_2) == 2) = true := beq_iff_eq.mpr c38; have c38b1 : ((rd t263 x6_2) != 2) = false := bne_eq_false_iff_eq.mpr c38; clear c38; by_cases c39 : (rd t267 x6_2) = 2
                  ·
                   rw [if_pos c39] at H; have c39b0 : ((rd t267 x6_2) == 2) = true := beq_iff_eq.mpr c39; have c39b1 : ((rd t267 x6_2) != 2) = false := bne_eq_false_iff_eq.mpr c39; clear c39; have H' := Aside0.mk H; clear H; have p283 : 0 ≤ (x6_2 : Int) := of_decide_eq_true (by first | (with_reducible assumption) | assumption); have q283 : x6_2 < (t263.length : Int) := of_decide_eq_true (by first | (with_reducible assumption) | assumption); obtain ⟨ad283, e283, hx283_0⟩ := Kd.at_int (Kd.R_reads' HO_3.out).2.2 x6_2 p283 q283
                   cases e283
                   replace p283 := eq_true p283; replace q283 := eq_true q283; have p284 : 0 ≤ (x6_2 : Int) := of_decide_eq_true (by first | (with_reducible assumption) | assumption); have q284 : x6_2 < (t263.length : Int) := of_decide_eq_true (by first | (with_reducible assumption) | assumption); obtain ⟨ad284, e284, hx284_0⟩ := Kd.at_int (Kd.R_reads' HO_3.out).2.2 x6_2 p284 q284; obtain rfl : ad283 = ad284 := (by injection e284); replace p284 := eq_true p284; replace q284 := eq_true q284; go_wp2; go_roundg kj26
                   case measure => have := HJ4.out; have := HK2.out; have := HJ26.out; omega
                   case rel => exact ⟨(wrap64 (x6_2 + 1)), (by first | rfl | (simp; done) | (simp [*]; done)), H', ⟨by have := HJ4.out; have := HK2.out; have := HJ26.out; omega⟩, ⟨by (with_reducible repeat (first | apply Kd.R_alloc | apply Kd.R_drewN | apply Kd.R_drew)); exact HO_3.out⟩, ⟨by (with_reducible repeat (first | apply Kd.R_alloc | apply Kd.R_drewN | apply Kd.R_drew)); exact HO_5.out⟩, ⟨by repeat (first | (with_reducible first | exact HB.out | apply below_alloc | apply pw_below_drewN | apply below_drew1) | exact HB.out)⟩⟩
                  ·
                   rw [if_neg c39] at H; have c39b0 : ((rd t267 x6_2) == 2) = false := beq_eq_false_iff_ne.mpr c39; have c39b1 : ((rd t267 x6_2) != 2) = true := bne_iff_ne.mpr c39; obtain rfl := Option.some.inj H; have p283 : 0 ≤ (x6_2 : Int) := of_decide_eq_true (by first | (with_reducible assumption) | assumption); have q283 : x6_2 < (t263.length : Int) := of_decide_eq_true (by first | (with_reducible assumption) | assumption); obtain ⟨ad283, e283, hx283_0⟩ := Kd.at_int (Kd.R_reads' HO_3.out).2.2 x6_2 p283 q283
                   cases e283
                   replace p283 := eq_true p283; replace q283 := eq_true q283; have p284 : 0 ≤ (x6_2 : Int) := of_decide_eq_true (by first | (with_reducible assumption) | assumption); have q284 : x6_2 < (t263.length : Int) := of_decide_eq_true (by first | (with_reducible assumption) | assumption); obtain ⟨ad284, e284, hx284_0⟩ := Kd.at_int (Kd.R_reads' HO_3.out).2.2 x6_2 p284 q284; obtain rfl : ad283 = ad284 := (by injection e284); replace p284 := eq_true p284; replace q284 := eq_true q284; go_wp2; go_ret; exact ⟨by first | rfl | (simp [errW_none, errW_some] <;> rfl) | (simp [*, errW_none, errW_some] <;> rfl), by repeat (first | (with_reducible first | exact HB.out | apply below_alloc | apply pw_below_drewN | apply below_drew1) | exact HB.out)⟩
                 ·
                  rw [if_neg c38] at H; have c38b0 : ((rd t263 x6_2) == 2) = false := beq_eq_false_iff_ne.mpr c38; have c38b1 : ((rd t263 x6_2) != 2) = true := bne_iff_ne.mpr c38; by_cases c40 : (rd t263 x6_2) = 3
                  ·
                   rw [if_pos c40] at H; have c40b0 : ((rd t263 x6_2) == 3) = true := beq_iff_eq.mpr c40; have c40b1 : ((rd t263 x6_2) != 3) = false := bne_eq_false_iff_eq.mpr c40; clear c40; by_cases c41 : (rd t267 x6_2) = 2
                   ·
                    rw [if_pos c41] at H; have c41b0 : ((rd t267 x6_2) == 2) = true := beq_iff_eq.mpr c41; have c41b1 : ((rd t267 x6_2) != 2) = false := bne_eq_false_iff_eq.mpr c41; clear c41; have H' := Aside0.mk H; clear H; have p283 : 0 ≤ (x6_2 : Int) := of_decide_eq_true (by first | (with_reducible assumption) | assumption); have q283 : x6_2 < (t263.length : Int) := of_decide_eq_true (by first | (with_reducible assumption) | assumption); obtain ⟨ad283, e283, hx283_0⟩ := Kd.at_int (Kd.R_reads' HO_3.out).2.2 x6_2 p283 q283
                    cases e283
                    replace p283 := eq_true p283; replace q283 := eq_true q283; have p284 : 0 ≤ (x6_2 : Int) := of_decide_eq_true (by first | (with_reducible assumption) | assumption); have q284 : x6_2 < (t263.length : Int) := of_decide_eq_true (by first | (with_reducible assumption) | assumption); obtain ⟨ad284, e284, hx284_0⟩ := Kd.at_int (Kd.R_reads' HO_3.out).2.2 x6_2 p284 q284; obtain rfl : ad283 = ad284 := (by injection e284); replace p284 := eq_true p284; replace q284 := eq_true q284; have p285 : 0 ≤ (x6_2 : Int) := of_decide_eq_true (by first | (with_reducible assumption) | assumption); have q285 : x6_2 < (t263.length : Int) := of_decide_eq_true (by first | (with_reducible assumption) | assumption); obtain ⟨ad285, e285, hx285_0⟩ := Kd.at_int (Kd.R_reads' HO_3.out).2.2 x6_2 p285 q285; obtain rfl : ad283 = ad285 := (by injection e285); replace p285 := eq_true p285; replace q285 := eq_true q285; go_wp2; go_roundg kj26
                    case measure => have := HJ4.out; have := HK2.out; have := HJ26.out; omega
                    case rel => exact ⟨(wrap64 (x6_2 + 1)), (by first | rfl | (simp; done) | (simp [*]; done)), H', ⟨by have := HJ4.out; have := HK2.out; have := HJ26.out; omega⟩, ⟨by (with_reducible repeat (first | apply Kd.R_alloc | apply Kd.R_drewN | apply Kd.R_drew)); exact HO_3.out⟩, ⟨by (with_reducible repeat (first | apply Kd.R_alloc | apply Kd.R_drewN | apply Kd.R_drew)); exact HO_5.out⟩, ⟨by repeat (first | (with_reducible first | exact HB.out | apply below_alloc | apply pw_below_drewN | apply below_drew1) | exact HB.out)⟩⟩
                   ·
                    rw [if_neg c41] at H; have c41b0 : ((rd t267 x6_2) == 2) = false := beq_eq_false_iff_ne.mpr c41; have c41b1 : ((rd t267 x6_2) != 2) = true := bne_iff_ne.mpr c41; obtain rfl := Option.some.inj H; have p283 : 0 ≤ (x6_2 : Int) := of_decide_eq_true (by first | (with_reducible assumption) | assumption); have q283 : x6_2 < (t263.length : Int) := of_decide_eq_true (by first | (with_reducible assumption) | assumption); obtain ⟨ad283, e283, hx283_0⟩ := Kd.at_int (Kd.R_reads' HO_3.out).2.2 x6_2 p283 q283
                    cases e283
                    replace p283 := eq_true p283; replace q283 := eq_true q283; have p284 : 0 ≤ (x6_2 : Int) := of_decide_eq_true (by first | (with_reducible assumption) | assumption); have q284 : x6_2 < (t263.length : Int) := of_decide_eq_true (by first | (with_reducible assumption) | assumption); obtain ⟨ad284, e284, hx284_0⟩ := Kd.at_int (Kd.R_reads' HO_3.out).2.2 x6_2 p284 q284; obtain rfl : ad283 = ad284 := (by injection e284); replace p284 := eq_true p284; replace q284 := eq_true q284; have p285 : 0 ≤ (x6_2 : Int) := of_decide_eq_true (by first | (with_reducible assumption) | assumption); have q285 : x6_2 < (t263.length : Int) := of_decide_eq_true (by first | (with_reducible assumption) | assumption); obtain ⟨ad285, e285, hx285_0⟩ := Kd.at_int (Kd.R_reads' HO_3.out).2.2 x6_2 p285 q285; obtain rfl : ad283 = ad285 := (by injection e285); replace p285 := eq_true p285; replace q285 := eq_true q285; go_wp2; go_ret; exact ⟨by first | rfl | (simp [errW_none, errW_some] <;> rfl) | (simp [*, errW_none, errW_some] <;> rfl), by repeat (first | (with_reducible first | exact HB.out | apply below_alloc | apply pw_below_drewN | apply below_drew1) | exact HB.out)⟩
                  ·
                   rw [if_neg c40] at H; have c40b0 : ((rd t263 x6_2) == 3) = false := beq_eq_false_iff_ne.mpr c40; have c40b1 : ((rd t263 x6_2) != 3) = true := bne_iff_ne.mpr c40; have H' := Aside0.mk H; clear H; have p283 : 0 ≤ (x6_2 : Int) := of_decide_eq_true (by first | (with_reducible assumption) | assumption); have q283 : x6_2 < (t263.length : Int) := of_decide_eq_true (by first | (with_reducible assumption) | assumption); obtain ⟨ad283, e283, hx283_0⟩ := Kd.at_int (Kd.R_reads' HO_3.out).2.2 x6_2 p283 q283
                   cases e283
                   replace p283 := eq_true p283; replace q283 := eq_true q283; have p284 : 0 ≤ (x6_2 : Int) := of_decide_eq_true (by first | (with_reducible assumption) | assumption); have q284 : x6_2 < (t263.length : Int) := of_decide_eq_true (by first | (with_reducible assumption) | assumption); obtain ⟨ad284, e284, hx284_0⟩ := Kd.at_int (Kd.R_reads' HO_3.out).2.2 x6_2 p284 q284; obtain rfl : ad283 = ad284 := (by injection e284); replace p284 := eq_true p284; replace q284 := eq_true q284; have p285 : 0 ≤ (x6_2 : Int) := of_decide_eq_true (by first | (with_reducible assumption) | assumption); have q285 : x6_2 < (t263.length : Int) := of_decide_eq_true (by first | (with_reducible assumption) | assumption); obtain ⟨ad285, e285, hx285_0⟩ := Kd.at_int (Kd.R_reads' HO_3.out).2.2 x6_2 p285 q285; obtain rfl : ad283 = ad285 := (by injection e285); replace p285 := eq_true p285; replace q285 := eq_true q285; go_wp2; go_roundg kj26
                   case measure => have := HJ4.out; have := HK2.out; have := HJ26.out; omega
                   case rel => exact ⟨(wrap64 (x6_2 + 1)), (by first | rfl | (simp; done) | (simp [*]; done)), H', ⟨by have := HJ4.out; have := HK2.out; have := HJ26.out; omega⟩, ⟨by (with_reducible repeat (first | apply Kd.R_alloc | apply Kd.R_drewN | apply Kd.R_drew)); exact HO_3.out⟩, ⟨by (with_reducible repeat (first | apply Kd.R_alloc | apply Kd.R_drewN | apply Kd.R_drew)); exact HO_5.out⟩, ⟨by repeat (first | (with_reducible first | exact HB.out | apply below_alloc | apply pw_below_drewN | apply below_drew1) | exact HB.out)⟩⟩
                ·
                 rw [if_neg c37] at H; have c37b0 : ((rd t267 x6_2) == 1) = false := beq_eq_false_iff_ne.mpr c37; have c37b1 : ((rd t267 x6_2) != 1) = true := bne_iff_ne.mpr c37; obtain rfl := Option.some.inj H; have p283 : 0 ≤ (x6_2 : Int) := of_decide_eq_true (by first | (with_reducible assumption) | assumption); have q283 : x6_2 < (t263.length : Int) := of_decide_eq_true (by first | (with_reducible assumption) | assumption); obtain ⟨ad283, e283, hx283_0⟩ := Kd.at_int (Kd.R_reads' HO_3.out).2.2 x6_2 p283 q283
                 cases e283
                 replace p283 := eq_true p283; replace q283 := eq_true q283; go_wp2; go_ret; exact ⟨by first | rfl | (simp [errW_none, errW_some] <;> rfl) | (simp [*, errW_none, errW_some] <;> rfl), by repeat (first | (with_reducible first | exact HB.out | apply below_alloc | apply pw_below_drewN | apply below_drew1) | exact HB.out)⟩
               ·
                rw [if_neg c36] at H; have c36b0 : ((rd t263 x6_2) == 1) = false := beq_eq_false_iff_ne.mpr c36; have c36b1 : ((rd t263 x6_2) != 1) = true := bne_iff_ne.mpr c36; by_cases c42 : (rd t263 x6_2) = 2
                ·
                 rw [if_pos c42] at H; have c42b0 : ((rd t263 x6_2) == 2) = true := beq_iff_eq.mpr c42; have c42b1 : ((rd t263 x6_2) != 2) = false := bne_eq_false_iff_eq.mpr c42; clear c42; by_cases c43 : (rd t267 x6_2) = 2
                 ·
                  rw [if_pos c43] at H; have c43b0 : ((rd t267 x6_2) == 2) = true := beq_iff_eq.mpr c43; have c43b1 : ((rd t267 x6_2) != 2) = false := bne_eq_false_iff_eq.mpr c43; clear c43; have H' := Aside0.mk H; clear H; have p283 : 0 ≤ (x6_2 : Int) := of_decide_eq_true (by first | (with_reducible assumption) | assumption); have q283 : x6_2 < (t263.length : Int) := of_decide_eq_true (by first | (with_reducible assumption) | assumption); obtain ⟨ad283, e283, hx283_0⟩ := Kd.at_int (Kd.R_reads' HO_3.out).2.2 x6_2 p283 q283
                  cases e283
                  replace p283 := eq_true p283; replace q283 := eq_true q283; have p286 : 0 ≤ (x6_2 : Int) := of_decide_eq_true (by first | (with_reducible assumption) | assumption); have q286 : x6_2 < (t263.length : Int) := of_decide_eq_true (by first | (with_reducible assumption) | assumption); obtain ⟨ad286, e286, hx286_0⟩ := Kd.at_int (Kd.R_reads' HO_3.out).2.2 x6_2 p286 q286; obtain rfl : ad283 = ad286 := (by injection e286); replace p286 := eq_true p286; replace q286 := eq_true q286; go_wp2; go_roundg kj26
                  case measure => have := HJ4.out; have := HK2.out; have := HJ26.out; omega
                  case rel => exact ⟨(wrap64 (x6_2 + 1)), (by first | rfl | (simp; done) | (simp [*]; done)), H', ⟨by have := HJ4.out; have := HK2.out; have := HJ26.out; omega⟩, ⟨by (with_reducible repeat (first | apply Kd.R_alloc | apply Kd.R_drewN | apply Kd.R_drew)); exact HO_3.out⟩, ⟨by (with_reducible repeat (first | apply Kd.R_alloc | apply Kd.R_drewN | apply Kd.R_drew)); exact HO_5.out⟩, ⟨by repeat (first | (with_reducible first | exact HB.out | apply below_alloc | apply pw_below_drewN | apply below_drew1) | exact HB.out)⟩⟩
                 ·
                  rw [if_neg c43] at H; have c43b0 : ((rd t267 x6_2) == 2) = false := beq_eq_false_iff_ne.mpr c43; have c43b1 : ((rd t267 x6_2) != 2) = true := bne_iff_ne.mpr c43; obtain rfl := Option.some.inj H; have p283 : 0 ≤ (x6_2 : Int) := of_decide_eq_true (by first | (with_reducible assumption) | assumption); have q283 : x6_2 < (t263.length : Int) := of_decide_eq_true (by first | (with_reducible assumption) | assumption); obtain ⟨ad283, e283, hx283_0⟩ := Kd.at_int (Kd.R_reads' HO_3.out).2.2 x6_2 p283 q283
                  cases e283
                  replace p283 := eq_true p283; replace q283 := eq_true q283; have p286 : 0 ≤ (x6_2 : Int) := of_decide_eq_true (by first | (with_reducible assumption) | assumption); have q286 : x6_2 < (t263.length : Int) := of_decide_eq_true (by first | (with_reducible assumption) | assumption); obtain ⟨ad286, e286, hx286_0⟩ := Kd.at_int (Kd.R_reads' HO_3.out).2.2 x6_2 p286 q286; obtain rfl : ad283 = ad286 := (by injection e286); replace p286 := eq_true p286; replace q286 := eq_true q286; go_wp2; go_ret; exact ⟨by first | rfl | (simp [errW_none, errW_some] <;> rfl) | (simp [*, errW_none, errW_some] <;> rfl), by repeat (first | (with_reducible first | exact HB.out | apply below_alloc | apply pw_below_drewN | apply below_drew1) | exact HB.out)⟩
                ·
                 rw [if_neg c42] at H; have c42b0 : ((rd t263 x6_2) == 2) = false := beq_eq_false_iff_ne.mpr c42; have c42b1 : ((rd t263 x6_2) != 2) = true := bne_iff_ne.mpr c42; by_cases c44 : (rd t263 x6_2) = 3
                 ·
                  rw [if_pos c44] at H; have c44b0 : ((rd t263 x6_2) == 3) = true := beq_iff_eq.mpr c44; have c44b1 : ((rd t263 x6_2) != 3) = false := bne_eq_false_iff_eq.mpr c44; clear c44; by_cases c45 : (rd t267 x6_2) = 2
                  ·
                   rw [if_pos c45] at H; have c45b0 : ((rd t267 x6_2) == 2) = true := beq_iff_eq.mpr c45; have c45b1 : ((rd t267 x6_2) != 2) = false := bne_eq_false_iff_eq.mpr c45; clear c45; have H' := Aside0.mk H; clear H; have p283 : 0 ≤ (x6_2 : Int) := of_decide_eq_true (by first | (with_reducible assumption) | assumption); have q283 : x6_2 < (t263.length : Int) := of_decide_eq_true (by first | (with_reducible assumption) | assumption); obtain ⟨ad283, e283, hx283_0⟩ := Kd.at_int (Kd.R_reads' HO_3.out).2.2 x6_2 p283 q283
                   cases e283
                   replace p283 := eq_true p283; replace q283 := eq_true q283; have p286 : 0 ≤ (x6_2 : Int) := of_decide_eq_true (by first | (with_reducible assumption) | assumption); have q286 : x6_2 < (t263.length : Int) := of_decide_eq_true (by first | (with_reducible assumption) | assumption); obtain ⟨ad286, e286, hx286_0⟩ := Kd.at_int (Kd.R_reads' HO_3.out).2.2 x6_2 p286 q286; obtain rfl : ad283 = ad286 := (by injection e286); replace p286 := eq_true p286; replace q286 := eq_true q286; have p287 : 0 ≤ (x6_2 : Int) := of_decide_eq_true (by first | (with_reducible assumption) | assumption); have q287 : x6_2 < (t263.length : Int) := of_decide_eq_true (by first | (with_reducible assumption) | assumption); obtain ⟨ad287, e287, hx287_0⟩ := Kd.at_int (Kd.R_reads' HO_3.out).2.2 x6_2 p287 q287; obtain rfl : ad283 = ad287 := (by injection e287); replace p287 := eq_true p287; replace q287 := eq_true q287; go_wp2; go_roundg kj26
                   case measure => have := HJ4.out; have := HK2.out; have := HJ26.out; omega
                   case rel => exact ⟨(wrap64 (x6_2 + 1)), (by first | rfl | (simp; done) | (simp [*]; done)), H', ⟨by have := HJ4.out; have := HK2.out; have := HJ26.out; omega⟩, ⟨by (with_reducible repeat (first | apply Kd.R_alloc | apply Kd.R_drewN | apply Kd.R_drew)); exact HO_3.out⟩, ⟨by (with_reducible repeat (first | apply Kd.R_alloc | apply Kd.R_drewN | apply Kd.R_drew)); exact HO_5.out⟩, ⟨by repeat (first | (with_reducible first | exact HB.out | apply below_alloc | apply pw_below_drewN | apply below_drew1) | exact HB.out)⟩⟩
                  ·
                   rw [if_neg c45] at H; have c45b0 : ((rd t267 x6_2) == 2) = false := beq_eq_false_iff_ne.mpr c45; have c45b1 : ((rd t267 x6_2) != 2) = true := bne_iff_ne.mpr c45; obtain rfl := Option.some.inj H; have p283 : 0 ≤ (x6_2 : Int) := of_decide_eq_true (by first | (with_reducible assumption) | assumption); have q283 : x6_2 < (t263.length : Int) := of_decide_eq_true (by first | (with_reducible assumption) | assumption); obtain ⟨ad283, e283, hx283_0⟩ := Kd.at_int (Kd.R_reads' HO_3.out).2.2 x6_2 p283 q283
                   cases e283
                   replace p283 := eq_true p283; replace q283 := eq_true q283; have p286 : 0 ≤ (x6_2 : Int) := of_decide_eq_true (by first | (with_reducible assumption) | assumption); have q286 : x6_2 < (t263.length : Int) := of_decide_eq_true (by first | (with_reducible assumption) | assumption); obtain ⟨ad286, e286, hx286_0⟩ := Kd.at_int (Kd.R_reads' HO_3.out).2.2 x6_2 p286 q286; obtain rfl : ad283 = ad286 := (by injection e286); replace p286 := eq_true p286; replace q286 := eq_true q286; have p287 : 0 ≤ (x6_2 : Int) := of_decide_eq_true (by first | (with_reducible assumption) | assumption); have q287 : x6_2 < (t263.length : Int) := of_decide_eq_true (by first | (with_reducible assumption) | assumption); obtain ⟨ad287, e287, hx287_0⟩ := Kd.at_int (Kd.R_reads' HO_3.out).2.2 x6_2 p287 q287; obtain rfl : ad283 = ad287 := (by injection e287); replace p287 := eq_true p287; replace q287 := eq_true q287; go_wp2; go_ret; exact ⟨by first | rfl | (simp [errW_none, errW_some] <;> rfl) | (simp [*, errW_none, errW_some] <;> rfl), by repeat (first | (with_reducible first | exact HB.out | apply below_alloc | apply pw_below_drewN | apply below_drew1) | exact HB.out)⟩
                 ·
                  rw [if_neg c44] at H; have c44b0 : ((rd t263 x6_2) == 3) = false := beq_eq_false_iff_ne.mpr c44; have c44b1 : ((rd t263 x6_2) != 3) = true := bne_iff_ne.mpr c44; have H' := Aside0.mk H; clear H; have p283 : 0 ≤ (x6_2 : Int) := of_decide_eq_true (by first | (with_reducible assumption) | assumption); have q283 : x6_2 < (t263.length : Int) := of_decide_eq_true (by first | (with_reducible assumption) | assumption); obtain ⟨ad283, e283, hx283_0⟩ := Kd.at_int (Kd.R_reads' HO_3.out).2.2 x6_2 p283 q283
                  cases e283
                  replace p283 := eq_true p283; replace q283 := eq_true q283; have p286 : 0 ≤ (x6_2 : Int) := of_decide_eq_true (by first | (with_reducible assumption) | assumption); have q286 : x6_2 < (t263.length : Int) := of_decide_eq_true (by first | (with_reducible assumption) | assumption); obtain ⟨ad286, e286, hx286_0⟩ := Kd.at_int (Kd.R_reads' HO_3.out).2.2 x6_2 p286 q286; obtain rfl : ad283 = ad286 := (by injection e286); replace p286 := eq_true p286; replace q286 := eq_true q286; have p287 : 0 ≤ (x6_2 : Int) := of_decide_eq_true (by first | (with_reducible assumption) | assumption); have q287 : x6_2 < (t263.length : Int) := of_decide_eq_true (by first | (with_reducible assumption) | assumption); obtain ⟨ad287, e287, hx287_0⟩ := Kd.at_int (Kd.R_reads' HO_3.out).2.2 x6_2 p287 q287; obtain rfl : ad283 = ad287 := (by injection e287); replace p287 := eq_true p287; replace q287 := eq_true q287; go_wp2; go_roundg kj26
                  case measure => have := HJ4.out; have := HK2.out; have := HJ26.out; omega
                  case rel => exact ⟨(wrap64 (x6_2 + 1)), (by first | rfl | (simp; done) | (simp [*]; done)), H', ⟨by have := HJ4.out; have := HK2.out; have := HJ26.out; omega⟩, ⟨by (with_reducible repeat (first | apply Kd.R_alloc | apply Kd.R_drewN | apply Kd.R_drew)); exact HO_3.out⟩, ⟨by (with_reducible repeat (first | apply Kd.R_alloc | apply Kd.R_drewN | apply Kd.R_drew)); exact HO_5.out⟩, ⟨by repeat (first | (with_reducible first | exact HB.out | apply below_alloc | apply pw_below_drewN | apply below_drew1) | exact HB.out)⟩⟩
              ·
               rw [if_neg c35] at H; exact absurd H (by simp)
             ·
              rw [if_neg c34] at H; exact absurd H (by simp)
         ·
          rw [if_neg c26] at H; exact absurd H (by simp)
        ·
         rw [if_neg c25] at H; exact absurd H (by simp)
       ·
        rw [if_neg c24] at H; have c24b0 : decide (x6_2 < (t263.length : Int)) = false := decide_eq_false c24; clear c24; by_cases c46 : (t267.length : Int) = (t263.length : Int)
        ·
         rw [if_pos c46] at H; have c46b0 : ((t267.length : Int) == (t263.length : Int)) = true := beq_iff_eq.mpr c46; have c46b1 : ((t267.length : Int) != (t263.length : Int)) = false := bne_eq_false_iff_eq.mpr c46; have c46b2 : (t267.length == t263.length) = true := by first | simpa using c46 | (simp at c46 ⊢; omega)
         clear c46; replace H := Option.bind_eq_some_iff.mp H; obtain ⟨t278, A470, H⟩ := H; replace H : ((laws_wcInts.f k2 t278 t267).bind fun t281 => (some t281)) = some r := H; have A47 := Aside0.mk A470; clear A470; replace H := Option.bind_eq_some_iff.mp H; obtain ⟨t281, A480, H⟩ := H; replace H : (some t281) = some r := H; have A48 := Aside0.mk A480; clear A480; obtain rfl := Option.some.inj H; obtain ⟨Ao49, co49, eo49⟩ := Kd.R_slice HO_5.out; subst eo49; go_wp2_with (first | (go_at_call 11; (with_reducible refine (impl_LevelWeak.calls _ _ t267 t264 t278 _ ?side1 ?side2 A47.out).mono ?_); (case side1 => repeat (first | exact (Kd.R_reads' HO_5.out).2.2 | (with_reducible refine Kd.C_alloc ?_ _) | (with_reducible refine Kd.C_drewN ?_ _) | (with_reducible refine Kd.C_drew ?_))); (case side2 => exact (Kd.R_reads' HO_5.out).2.1); rintro e w50 ⟨v279, rfl, ho0, hb⟩; have n0_ := Aside0.mk (Kd.R_elder' (by (with_reducible repeat (first | apply Kd.R_alloc | apply Kd.R_drewN | apply Kd.R_drew)); exact HO_3.out) (Kd.R_base ho0) hb); have n1_ := Aside0.mk (Kd.R_elder' (by (with_reducible repeat (first | apply Kd.R_alloc | apply Kd.R_drewN | apply Kd.R_drew)); exact HO_5.out) (Kd.R_base ho0) hb); have n2_ := Aside0.mk (Kd.R_lower (Kd.R_new' (Kd.R_new' ho0 (Kd.R_lt (by (with_reducible repeat (first | apply Kd.R_alloc | apply Kd.R_drewN | apply Kd.R_drew)); exact HO_3.out))) (Kd.R_lt (by (with_reducible repeat (first | apply Kd.R_alloc | apply Kd.R_drewN | apply Kd.R_drew)); exact HO_5.out))) (below_size (by repeat (first | (with_reducible first | exact HB.out | apply below_alloc | apply pw_below_drewN | apply below_drew1) | exact HB.out)))); have n3_ := Aside0.mk (below_step (by repeat (first | (with_reducible first | exact HB.out | apply below_alloc | apply pw_below_drewN | apply below_drew1) | exact HB.out)) hb); clear HO_3; clear HO_5; clear HB; have HO_3 := n0_; have HO_5 := n1_; have HO280 := n2_; have HB := n3_; clear n0_ n1_ n2_ n3_; (try clear hb); (try clear hb2); (try clear hk); (try clear hi); (try clear ho0); obtain ⟨Ao51, co51, eo51⟩ := Kd.R_slice HO280.out; subst eo51) | (go_at_call 16; (with_reducible refine (laws_wcInts.calls k2 _ _ t278 _ _ t267 t281 _ ?side1 ?side2 ?side3 ?side4 A48.out).mono ?_); (case side1 => repeat (first | exact (Kd.R_reads' HO280.out).2.2 | (with_reducible refine Kd.C_alloc ?_ _) | (with_reducible refine Kd.C_drewN ?_ _) | (with_reducible refine Kd.C_drew ?_))); (case side2 => exact (Kd.R_reads' HO280.out).2.1); (case side3 => repeat (first | exact (Kd.R_reads' HO_5.out).2.2 | (with_reducible refine Kd.C_alloc ?_ _) | (with_reducible refine Kd.C_drewN ?_ _) | (with_reducible refine Kd.C_drew ?_))); (case side4 => exact (Kd.R_reads' HO_5.out).2.1); rintro e w' ⟨rfl, ⟨nd, rfl⟩⟩)); go_ret; exact ⟨by first | rfl | (simp [errW_none, errW_some] <;> rfl) | (simp [*, errW_none, errW_some] <;> rfl), by repeat (first | (with_reducible first | exact HB.out | apply below_alloc | apply pw_below_drewN | apply below_drew1) | exact HB.out)⟩
        ·
         rw [if_neg c46] at H; have c46b0 : ((t267.length : Int) == (t263.length : Int)) = false := beq_eq_false_iff_ne.mpr c46; have c46b1 : ((t267.length : Int) != (t263.length : Int)) = true := bne_iff_ne.mpr c46; have c46b2 : (t267.length == t263.length) = false := by first | simpa using c46 | (simp at c46 ⊢; omega)
         obtain rfl := Option.some.inj H; obtain ⟨Ao52, co52, eo52⟩ := Kd.R_slice HO_5.out; subst eo52; go_wp2; go_ret; exact ⟨by first | rfl | (simp [errW_none, errW_some] <;> rfl) | (simp [*, errW_none, errW_some] <;> rfl), by repeat (first | (with_reducible first | exact HB.out | apply below_alloc | apply pw_below_drewN | apply below_drew1) | exact HB.out)⟩

/-- THE ONE PURE STATEMENT of laws_FnLevelWeak: yours. -/
def laws_FnLevelWeak.Pure : Prop := ∀ (l0 : List Int), l0.length ≤ maxLen → l0.length * 1 ≤ 140737488351232 → (∀ x ∈ l0, (Lit.int .u8 x).wf = true) → ∃ k, laws_FnLevelWeak.f k l0 = some true
theorem laws_FnLevelWeak.walk (P : laws_FnLevelWeak.Pure) (a0 : Option Addr) (len0 cap0 : Nat) (z0 : List Int) (w : World) (w0 : (a0 = none ∧ len0 = 0 ∧ cap0 = 0 ∧ z0 = []) ∨ ∃ x, a0 = some x ∧ len0 ≤ cap0 ∧ cap0 ≤ maxLen ∧ z0.length = cap0 ∧ (∀ i, i < z0.length → w.cell? (x.add i) = some (.int .u8 (z0.getD i 0))) ∧ ∀ n ∈ z0, (Lit.int .u8 n).wf = true) (y0 : len0 * 1 ≤ 140737488351232) :
  Calls Try.prog 4 #[.slice a0 len0 cap0] w fun e w' => e = .returned (.bool true) ∧ Below w.heap.size w w' := by
 obtain ⟨l0, rfl, hr0, hm0, hw0, hc0⟩ := ReadsInt.ofRowC w0; obtain ⟨k, h⟩ := P l0 hm0 y0 hw0; refine (laws_FnLevelWeak.calls k _ _ l0 true w (Kd.C_of_reads (d := (0 : Int)) (h1 := fun _ => rfl) hr0) hc0 h).mono ?_; rintro e w' ⟨rfl, hd⟩; exact ⟨rfl, hd⟩

end Go.Proofs.Ytojehfdioeglgaa.S

namespace Go.Proofs.Ytojehfdioeglgaa.S
open Go.RowKit Go.Proofs.YtojehfdioeglgaaW.PrintWords Go.Proofs.YtojehfdioeglgaaW.PrintLast Go.Proofs.YtojehfdioeglgaaW.PrintMore
attribute [local go_sem] max2_int min2_int max_two min_two max_three min_three max_four min_four   -- for this text's walks alone
set_option linter.unusedVariables false
set_option linter.unusedSimpArgs false

/-! ### laws_toIntS: function 10 -/
def laws_toIntS.l0 : Nat → List Int → List Int → Int → Option (List Int)
  | 0, _, _, _ => none
  | k + 1, x0, x3, x4 => if x4 < (x0.length : Int) then (if 0 ≤ x4 then (if x4 < (x3.length : Int) then (laws_toIntS.l0 k x0 (x3.set (x4 : Int).toNat (rd x0 x4)) (wrap64 (x4 + 1))) else (none)) else (none)) else (some x3)
def laws_toIntS.f (k : Nat) (l0 : List Int) : Option (List Int) := if 0 ≤ (l0.length : Int) then (if ((l0.length : Int) : Int).toNat ≤ 35184372088832 then (laws_toIntS.l0 k l0 (List.replicate ((l0.length : Int) : Int).toNat 0) 0) else (none)) else (none)
theorem laws_toIntS.mono_l : ∀ k, (∀ y0 y1 y2, LeO (laws_toIntS.l0 k y0 y1 y2) (laws_toIntS.l0 (k + 1) y0 y1 y2))
  | 0 => fun _ _ _ r h => by simp [laws_toIntS.l0] at h
  | k + 1 => by
    have ih0 := laws_toIntS.mono_l k
    · intro y0 y1 y2
      unfold laws_toIntS.l0
      repeat' first
      | (with_reducible exact ih0 _ _ _)
      | (with_reducible exact LeO.refl _)
      | (with_reducible exact LeO.none _)
      | (with_reducible refine LeO.ite ?_ ?_)
      | (with_reducible refine LeO.bind ?_ (fun _ => ?_))
      | exact ih0 _ _ _
      | exact LeO.none _
      | refine LeO.ite ?_ ?_
      | refine LeO.bind ?_ (fun _ => ?_)
theorem laws_toIntS.mono : ∀ a0 k, LeO (laws_toIntS.f k a0) (laws_toIntS.f (k + 1) a0) := by
  intro a0 k
  have ih0 := laws_toIntS.mono_l k
  unfold laws_toIntS.f
  repeat' first
      | (with_reducible exact ih0 _ _ _)
      | (with_reducible exact LeO.refl _)
      | (with_reducible exact LeO.none _)
      | (with_reducible refine LeO.ite ?_ ?_)
      | (with_reducible refine LeO.bind ?_ (fun _ => ?_))
      | exact ih0 _ _ _
      | exact LeO.none _
      | refine LeO.ite ?_ ?_
      | refine LeO.bind ?_ (fun _ => ?_)
set_option maxHeartbeats 8000000 in
set_option maxRecDepth 100000 in
theorem laws_toIntS.calls (k : Nat) (A0 : Option Addr) (c0 : Nat) (l0 : List Int) (r : List Int) (w : World) (hr0 : Kd.C (Kd.int .i64) w A0 l0.length l0) (hc0 : l0.length ≤ c0) (h : laws_toIntS.f k l0 = some r) :
    Calls Try.prog 10 #[.slice A0 l0.length c0] w fun e w' => ∃ v0_ : Value, e = .returned (v0_) ∧ Kd.R (Kd.int .i64) 3 w' w.heap.size (fun _ => True) v0_ r ∧ Below w.heap.size w w' := by
  have HR0 := Aside0.mk hr0
  have HC0 := Aside0.mk hc0
  clear hr0 hc0
  have HB := Aside0.mk (Below.refl w.heap.size w)
  have H : (if 0 ≤ (l0.length : Int) then (if ((l0.length : Int) : Int).toNat ≤ 35184372088832 then (laws_toIntS.l0 k l0 (List.replicate ((l0.length : Int) : Int).toNat 0) 0) else (none)) else (none)) = some r := h
  clear h
  by_cases c2 : 0 ≤ (l0.length : Int)
  · rw [if_pos c2] at H
    have c2b0 := eq_true c2
    have c2b1 : decide (0 ≤ (l0.length : Int)) = true := decide_eq_true c2
    clear c2
    by_cases c3 : ((l0.length : Int) : Int).toNat ≤ 35184372088832
    · rw [if_pos c3] at H
      have c3b0 := eq_true c3
      have c3b1 : decide (((l0.length : Int) : Int).toNat ≤ 35184372088832) = true := decide_eq_true c3
      clear c3
      obtain ⟨y167, hy167⟩ : ∃ y_ : List Int, y_ = (List.replicate ((l0.length : Int) : Int).toNat 0) := ⟨_, rfl⟩
      replace H : (laws_toIntS.l0 k l0 y167 0) = some r := by first | (rw [hy167]; with_reducible exact H) | (have H2_ := (Option.bind_some _ _).symm.trans H; rw [hy167]; with_reducible exact H2_) | (have H2_ := (Option.bind_some _ _).symm.trans H; with_reducible exact H2_) | with_reducible exact H | (rw [hy167]; exact H) | exact H
      have Ny167 := Aside0.mk hy167
      clear hy167
      have H' := Aside0.mk H
      clear H
      go_enter Try.func10, Try.ntmps10
      go_wp2_with (first | ((with_reducible refine gate_dst (N := 7) rfl ?_); refine Kd.R_make (Kd.int .i64) _ 3 rfl (N := 7) rfl 22 _ _ rfl (l0.length : Int) rfl rfl Try.underlying22 (.int .i64 0) 8 info3 rfl (by decide) (by omega) 0 (ok := fun _ => True) (okp := fun _ => True) rfl (fun _ hk => hk) trivial (of_decide_eq_true (by first | (with_reducible assumption) | assumption)) (Nat.le_trans (Nat.mul_le_mul_right _ (of_decide_eq_true (by first | (with_reducible assumption) | assumption) : (l0.length : Int).toNat ≤ 35184372088832)) (by omega)) (Below.refl _ _) (Nat.le_refl _) ?_; intro v168 w4 ho5 hb hg_ hnew_; clear hg_ hnew_; (first | rw [← Ny167.out] at ho5 | (simp only [Int.reduceToNat] at ho5; rw [← Ny167.out] at ho5)); have n0_ := Aside0.mk (Kd.R_lower ho5 (below_size (by repeat (first | (with_reducible first | exact HB.out | apply below_alloc | apply pw_below_drewN | apply below_drew1) | exact HB.out)))); have n1_ := Aside0.mk (below_step (by repeat (first | (with_reducible first | exact HB.out | apply below_alloc | apply pw_below_drewN | apply below_drew1) | exact HB.out)) hb); clear HB; have HO169 := n0_; have HB := n1_; clear n0_ n1_; clear hb ho5))
      go_loopg [4] k (fun kq v4 w' => ∃ (x3_1 : List Int) (x4_1 : Int), v4 = .int .i64 x4_1 ∧ Aside0 (laws_toIntS.l0 kq l0 x3_1 x4_1 = some r) ∧ Aside0 (kq ≤ k) ∧ Aside0 (Kd.R (Kd.int .i64) 3 w' w.heap.size (fun _ => True) v168 x3_1) ∧ Aside0 (Below w.heap.size w w'))
      case atStart => exact ⟨(y167), (0), (by first | rfl | (simp; done) | (simp [*]; done)), H', ⟨Nat.le_refl _⟩, ⟨by (with_reducible repeat (first | apply Kd.R_alloc | apply Kd.R_drewN | apply Kd.R_drew)); exact HO169.out⟩, ⟨by repeat (first | (with_reducible first | exact HB.out | apply below_alloc | apply pw_below_drewN | apply below_drew1) | exact HB.out)⟩⟩
      case round =>
        clear H'
        try clear c1
        try clear c2
        try clear c2b0
        try clear c2b1
        try clear p2
        try clear c3
        try clear c3b0
        try clear c3b1
        obtain ⟨x3_1, x4_1, rfl, HA, HK1, HO_3, HB⟩ := hrel
        cases gk with
        | zero => exact absurd HA.out (by simp [laws_toIntS.l0])
        | succ k1 =>
          have H := HA.out
          clear HA
          simp only [laws_toIntS.l0] at H
          by_cases c6 : x4_1 < (l0.length : Int)
          · rw [if_pos c6] at H
            have c6b0 : decide (x4_1 < (l0.length : Int)) = true := decide_eq_true c6
            clear c6
            by_cases c7 : 0 ≤ x4_1
            · rw [if_pos c7] at H
              have c7b0 : decide (0 ≤ x4_1) = true := decide_eq_true c7
              clear c7
              by_cases c8 : x4_1 < (x3_1.length : Int)
              · rw [if_pos c8] at H
                have c8b0 : decide (x4_1 < (x3_1.length : Int)) = true := decide_eq_true c8
                clear c8
                obtain ⟨y171, hy171⟩ : ∃ y_ : List Int, y_ = (x3_1.set (x4_1 : Int).toNat (rd l0 x4_1)) := ⟨_, rfl⟩
                replace H : (laws_toIntS.l0 k1 l0 y171 (wrap64 (x4_1 + 1))) = some r := by first | (rw [hy171]; with_reducible exact H) | (have H2_ := (Option.bind_some _ _).symm.trans H; rw [hy171]; with_reducible exact H2_) | (have H2_ := (Option.bind_some _ _).symm.trans H; with_reducible exact H2_) | with_reducible exact H | (rw [hy171]; exact H) | exact H
                have Ny171 := Aside0.mk hy171
                clear hy171
                have H' := Aside0.mk H
                clear H
                have p170 : 0 ≤ (x4_1 : Int) := of_decide_eq_true (by first | (with_reducible assumption) | assumption)
                have q170 : x4_1 < (l0.length : Int) := of_decide_eq_true (by first | (with_reducible assumption) | assumption)
                obtain ⟨ad170, e170, hx170_0⟩ := Kd.at_int HR0.out x4_1 p170 q170
                cases e170
                replace hx170_0 := (HB.out.cell (World.block_lt_of_cell? w _ hx170_0)).trans hx170_0
                replace p170 := eq_true p170
                replace q170 := eq_true q170
                have p9 : 0 ≤ (x4_1 : Int) := of_decide_eq_true (by first | (with_reducible assumption) | assumption)
                have q9 : (x4_1 : Int) < ((x3_1.length : Int) : Int) := of_decide_eq_true (by first | (with_reducible assumption) | assumption)
                obtain ⟨go9, co9, eo9, gb9, gl9, cl9, HG9⟩ := Kd.R_form HO_3.out (by omega)
                (first | cases eo9 | (injection eo9 with ea_ en_ ec_; (first | subst ea_ | (injection ea_ with ea_; subst ea_)); subst ec_; clear en_))
                have GB9 := Aside0.mk gb9
                have GG9 := Aside0.mk HG9
                clear gb9 gl9 HG9
                obtain ⟨hx9_0, hf9_0⟩ := Kd.R_celln 0 HO_3.out (x4_1 : Int) p9 q9
                replace p9 := eq_true p9
                replace q9 := eq_true q9
                have HP10 := Kd.R_putg HO_3.out (x4_1 : Int) (rd l0 x4_1)
                go_wp2_with (first | ((with_reducible refine gate_store (t := 3) (p := 20) rfl ?_); refine store_event (t := 3) (p := 20) (v := ?vo_w11) (w1 := (wr.setCell ⟨go9, (x4_1 : Int).toNat, none⟩ (.int .i64 (rd l0 x4_1)))) ?hg ?ho ?hn ?hr ?_; (case ho => rfl); (case hg => rfl); (case hn => rfl); (case hr => first | (go_simp; done) | (go_simp; rfl)); intro w11 hw; have hg : wr.grownBy w11 (some go9) := (by rw [hw]; exact HP10.2); have hp_ : Kd.R (Kd.int .i64) 3 w11 w.heap.size (fun _ => True) (.slice (some ⟨go9, 0, none⟩) x3_1.length co9) y171 := (by rw [hw, Ny171.out]; exact HP10.1); clear HP10; have n0_ := Aside0.mk (hp_); have n1_ := Aside0.mk ((by rw [hw]; exact below_set (HB.out) GB9.out : Below w.heap.size w w11)); clear HO_3; clear HB; have HO_3 := n0_; have HB := n1_; clear n0_ n1_; clear hg hw hp_))
                go_roundg k1
                case measure => have := HK1.out; omega
                case rel => exact ⟨(y171), (wrap64 (x4_1 + 1)), (by first | rfl | (simp; done) | (simp [*]; done)), H', ⟨by have := HK1.out; omega⟩, ⟨by (with_reducible repeat (first | apply Kd.R_alloc | apply Kd.R_drewN | apply Kd.R_drew)); exact HO_3.out⟩, ⟨by repeat (first | (with_reducible first | exact HB.out | apply below_alloc | apply pw_below_drewN | apply below_drew1) | exact HB.out)⟩⟩
              · rw [if_neg c8] at H
                exact absurd H (by simp)
            · rw [if_neg c7] at H
              exact absurd H (by simp)
          · rw [if_neg c6] at H
            have c6b0 : decide (x4_1 < (l0.length : Int)) = false := decide_eq_false c6
            clear c6
            obtain rfl := Option.some.inj H
            go_wp2
            go_ret
            exact ⟨_, by first | rfl | (simp [errW_none, errW_some] <;> rfl) | (simp [*, errW_none, errW_some] <;> rfl), by (with_reducible repeat (first | apply Kd.R_alloc | apply Kd.R_drewN | apply Kd.R_drew)); exact HO_3.out, by repeat (first | (with_reducible first | exact HB.out | apply below_alloc | apply pw_below_drewN | apply below_drew1) | exact HB.out)⟩
    · rw [if_neg c3] at H
      exact absurd H (by simp)
  · rw [if_neg c2] at H
    exact absurd H (by simp)

end Go.Proofs.Ytojehfdioeglgaa.S

namespace Go.Proofs.Ytojehfdioeglgaa.S
open Go.RowKit Go.Proofs.YtojehfdioeglgaaW.PrintWords Go.Proofs.YtojehfdioeglgaaW.PrintLast Go.Proofs.YtojehfdioeglgaaW.PrintMore
attribute [local go_sem] max2_int min2_int max_two min_two max_three min_three max_four min_four   -- for this text's walks alone
set_option linter.unusedVariables false
set_option linter.unusedSimpArgs false

/-! ### laws_eqIntS: function 12 -/
def laws_eqIntS.l0 : Nat → List Int → List Int → Int → Option (Bool)
  | 0, _, _, _ => none
  | k + 1, x0, x1, x5 => if x5 < (x0.length : Int) then (if 0 ≤ x5 then (if x5 < (x1.length : Int) then (if (rd x0 x5) = (rd x1 x5) then (laws_eqIntS.l0 k x0 x1 (wrap64 (x5 + 1))) else (some false)) else (none)) else (none)) else (some true)
def laws_eqIntS.f (k : Nat) (l0 : List Int) (l1 : List Int) : Option (Bool) := if (l0.length : Int) = (l1.length : Int) then (laws_eqIntS.l0 k l0 l1 0) else (some false)
theorem laws_eqIntS.mono_l : ∀ k, (∀ y0 y1 y2, LeO (laws_eqIntS.l0 k y0 y1 y2) (laws_eqIntS.l0 (k + 1) y0 y1 y2))
  | 0 => fun _ _ _ r h => by simp [laws_eqIntS.l0] at h
  | k + 1 => by
    have ih0 := laws_eqIntS.mono_l k
    · intro y0 y1 y2
      unfold laws_eqIntS.l0
      repeat' first
      | (with_reducible exact ih0 _ _ _)
      | (with_reducible exact LeO.refl _)
      | (with_reducible exact LeO.none _)
      | (with_reducible refine LeO.ite ?_ ?_)
      | (with_reducible refine LeO.bind ?_ (fun _ => ?_))
      | exact ih0 _ _ _
      | exact LeO.none _
      | refine LeO.ite ?_ ?_
      | refine LeO.bind ?_ (fun _ => ?_)
theorem laws_eqIntS.mono : ∀ a0 a1 k, LeO (laws_eqIntS.f k a0 a1) (laws_eqIntS.f (k + 1) a0 a1) := by
  intro a0 a1 k
  have ih0 := laws_eqIntS.mono_l k
  unfold laws_eqIntS.f
  repeat' first
      | (with_reducible exact ih0 _ _ _)
      | (with_reducible exact LeO.refl _)
      | (with_reducible exact LeO.none _)
      | (with_reducible refine LeO.ite ?_ ?_)
      | (with_reducible refine LeO.bind ?_ (fun _ => ?_))
      | exact ih0 _ _ _
      | exact LeO.none _
      | refine LeO.ite ?_ ?_
      | refine LeO.bind ?_ (fun _ => ?_)
set_option maxHeartbeats 8000000 in
set_option maxRecDepth 100000 in
theorem laws_eqIntS.calls (k : Nat) (A0 : Option Addr) (c0 : Nat) (l0 : List Int) (A1 : Option Addr) (c1 : Nat) (l1 : List Int) (r : Bool) (w : World) (hr0 : Kd.C (Kd.int .i64) w A0 l0.length l0) (hc0 : l0.length ≤ c0) (hr1 : Kd.C (Kd.int .i64) w A1 l1.length l1) (hc1 : l1.length ≤ c1) (h : laws_eqIntS.f k l0 l1 = some r) :
    Calls Try.prog 12 #[.slice A0 l0.length c0, .slice A1 l1.length c1] w fun e w' => e = .returned (.bool r) ∧ Drawn0 w w' := by
  have HR0 := Aside0.mk hr0
  have HC0 := Aside0.mk hc0
  clear hr0 hc0
  have HR1 := Aside0.mk hr1
  have HC1 := Aside0.mk hc1
  clear hr1 hc1
  have H : (if (l0.length : Int) = (l1.length : Int) then (laws_eqIntS.l0 k l0 l1 0) else (some false)) = some r := h
  clear h
  by_cases c3 : (l0.length : Int) = (l1.length : Int)
  · rw [if_pos c3] at H
    have c3b0 : ((l0.length : Int) == (l1.length : Int)) = true := beq_iff_eq.mpr c3
    have c3b1 : ((l0.length : Int) != (l1.length : Int)) = false := bne_eq_false_iff_eq.mpr c3
    have c3b2 : (l0.length == l1.length) = true := by first | simpa using c3 | (simp at c3 ⊢; omega)
    clear c3
    have H' := Aside0.mk H
    clear H
    go_enter Try.func12, Try.ntmps12
    go_wp2
    repeat (go_quiet (fail); try go_wp2)
    go_loopg [5] k (fun kq v5 w' => ∃ (x5_1 : Int), v5 = .int .i64 x5_1 ∧ Aside0 (laws_eqIntS.l0 kq l0 l1 x5_1 = some r) ∧ Aside0 (kq ≤ k) ∧ Drawn0 w w')
    case atStart => exact ⟨(0), (by first | rfl | (simp; done) | (simp [*]; done)), H', ⟨Nat.le_refl _⟩, by repeat (first | exact Drawn0.refl _ | apply Drawn0.step)⟩
    case round =>
      clear H'
      try clear c1
      try clear p2
      try clear c3
      try clear c3b0
      try clear c3b1
      try clear c3b2
      obtain ⟨x5_1, rfl, HA, HK1, ⟨m1, rfl⟩⟩ := hrel
      cases gk with
      | zero => exact absurd HA.out (by simp [laws_eqIntS.l0])
      | succ k1 =>
        have H := HA.out
        clear HA
        simp only [laws_eqIntS.l0] at H
        by_cases c4 : x5_1 < (l0.length : Int)
        · rw [if_pos c4] at H
          have c4b0 : decide (x5_1 < (l0.length : Int)) = true := decide_eq_true c4
          clear c4
          by_cases c5 : 0 ≤ x5_1
          · rw [if_pos c5] at H
            have c5b0 : decide (0 ≤ x5_1) = true := decide_eq_true c5
            clear c5
            by_cases c6 : x5_1 < (l1.length : Int)
            · rw [if_pos c6] at H
              have c6b0 : decide (x5_1 < (l1.length : Int)) = true := decide_eq_true c6
              clear c6
              by_cases c7 : (rd l0 x5_1) = (rd l1 x5_1)
              · rw [if_pos c7] at H
                have c7b0 : ((rd l0 x5_1) == (rd l1 x5_1)) = true := beq_iff_eq.mpr c7
                have c7b1 : ((rd l0 x5_1) != (rd l1 x5_1)) = false := bne_eq_false_iff_eq.mpr c7
                clear c7
                have H' := Aside0.mk H
                clear H
                have p172 : 0 ≤ (x5_1 : Int) := of_decide_eq_true (by first | (with_reducible assumption) | assumption)
                have q172 : x5_1 < (l0.length : Int) := of_decide_eq_true (by first | (with_reducible assumption) | assumption)
                obtain ⟨ad172, e172, hx172_0⟩ := Kd.at_int HR0.out x5_1 p172 q172
                cases e172
                replace p172 := eq_true p172
                replace q172 := eq_true q172
                have p173 : 0 ≤ (x5_1 : Int) := of_decide_eq_true (by first | (with_reducible assumption) | assumption)
                have q173 : x5_1 < (l1.length : Int) := of_decide_eq_true (by first | (with_reducible assumption) | assumption)
                obtain ⟨ad173, e173, hx173_0⟩ := Kd.at_int HR1.out x5_1 p173 q173
                cases e173
                replace p173 := eq_true p173
                replace q173 := eq_true q173
                go_wp2
                repeat (go_quiet (fail); try go_wp2)
                go_roundg k1
                case measure => have := HK1.out; omega
                case rel => exact ⟨(wrap64 (x5_1 + 1)), (by first | rfl | (simp; done) | (simp [*]; done)), H', ⟨by have := HK1.out; omega⟩, by repeat (first | exact Drawn0.refl _ | apply Drawn0.step)⟩
              · rw [if_neg c7] at H
                have c7b0 : ((rd l0 x5_1) == (rd l1 x5_1)) = false := beq_eq_false_iff_ne.mpr c7
                have c7b1 : ((rd l0 x5_1) != (rd l1 x5_1)) = true := bne_iff_ne.mpr c7
                obtain rfl := Option.some.inj H
                have p172 : 0 ≤ (x5_1 : Int) := of_decide_eq_true (by first | (with_reducible assumption) | assumption)
                have q172 : x5_1 < (l0.length : Int) := of_decide_eq_true (by first | (with_reducible assumption) | assumption)
                obtain ⟨ad172, e172, hx172_0⟩ := Kd.at_int HR0.out x5_1 p172 q172
                cases e172
                replace p172 := eq_true p172
                replace q172 := eq_true q172
                have p173 : 0 ≤ (x5_1 : Int) := of_decide_eq_true (by first | (with_reducible assumption) | assumption)
                have q173 : x5_1 < (l1.length : Int) := of_decide_eq_true (by first | (with_reducible assumption) | assumption)
                obtain ⟨ad173, e173, hx173_0⟩ := Kd.at_int HR1.out x5_1 p173 q173
                cases e173
                replace p173 := eq_true p173
                replace q173 := eq_true q173
                go_wp2
                repeat (go_quiet (fail); try go_wp2)
                go_ret
                exact ⟨by first | rfl | (simp; done) | (simp [*]; done), by repeat (first | exact Drawn0.refl _ | apply Drawn0.step)⟩
            · rw [if_neg c6] at H
              exact absurd H (by simp)
          · rw [if_neg c5] at H
            exact absurd H (by simp)
        · rw [if_neg c4] at H
          have c4b0 : decide (x5_1 < (l0.length : Int)) = false := decide_eq_false c4
          clear c4
          obtain rfl := Option.some.inj H
          go_wp2
          repeat (go_quiet (fail); try go_wp2)
          go_ret
          exact ⟨by first | rfl | (simp; done) | (simp [*]; done), by repeat (first | exact Drawn0.refl _ | apply Drawn0.step)⟩
  · rw [if_neg c3] at H
    have c3b0 : ((l0.length : Int) == (l1.length : Int)) = false := beq_eq_false_iff_ne.mpr c3
    have c3b1 : ((l0.length : Int) != (l1.length : Int)) = true := bne_iff_ne.mpr c3
    have c3b2 : (l0.length == l1.length) = false := by first | simpa using c3 | (simp at c3 ⊢; omega)
    obtain rfl := Option.some.inj H
    go_enter Try.func12, Try.ntmps12
    go_wp2
    repeat (go_quiet (fail); try go_wp2)
    go_ret
    exact ⟨by first | rfl | (simp; done) | (simp [*]; done), by repeat (first | exact Drawn0.refl _ | apply Drawn0.step)⟩

end Go.Proofs.Ytojehfdioeglgaa.S

namespace Go.Proofs.Ytojehfdioeglgaa.S
open Go.RowKit Go.Proofs.YtojehfdioeglgaaW.PrintWords Go.Proofs.YtojehfdioeglgaaW.PrintLast Go.Proofs.YtojehfdioeglgaaW.PrintMore
attribute [local go_sem] max2_int min2_int max_two min_two max_three min_three max_four min_four   -- for this text's walks alone
set_option linter.unusedVariables false
set_option linter.unusedSimpArgs false

/-! ### laws_markIntS: function 13 -/
def laws_markIntS.l0 : Nat → List Int → Int → Int → Option (Int × List Int)
  | 0, _, _, _ => none
  | k + 1, x0, x1, x5 => if x5 < (x0.length : Int) then (if 0 ≤ x5 then (laws_markIntS.l0 k (x0.set (x5 : Int).toNat x1) (wrap64 (x1 + 1)) (wrap64 (x5 + 1))) else (none)) else (some (x1, x0))
def laws_markIntS.f (k : Nat) (l0 : List Int) (a1 : Int) : Option (Int × List Int) := laws_markIntS.l0 k l0 a1 0
theorem laws_markIntS.mono_l : ∀ k, (∀ y0 y1 y2, LeO (laws_markIntS.l0 k y0 y1 y2) (laws_markIntS.l0 (k + 1) y0 y1 y2))
  | 0 => fun _ _ _ r h => by simp [laws_markIntS.l0] at h
  | k + 1 => by
    have ih0 := laws_markIntS.mono_l k
    · intro y0 y1 y2
      unfold laws_markIntS.l0
      repeat' first
      | (with_reducible exact ih0 _ _ _)
      | (with_reducible exact LeO.refl _)
      | (with_reducible exact LeO.none _)
      | (with_reducible refine LeO.ite ?_ ?_)
      | (with_reducible refine LeO.bind ?_ (fun _ => ?_))
      | exact ih0 _ _ _
      | exact LeO.none _
      | refine LeO.ite ?_ ?_
      | refine LeO.bind ?_ (fun _ => ?_)
theorem laws_markIntS.mono : ∀ a0 a1 k, LeO (laws_markIntS.f k a0 a1) (laws_markIntS.f (k + 1) a0 a1) := by
  intro a0 a1 k
  have ih0 := laws_markIntS.mono_l k
  unfold laws_markIntS.f
  repeat' first
      | (with_reducible exact ih0 _ _ _)
      | (with_reducible exact LeO.refl _)
      | (with_reducible exact LeO.none _)
      | (with_reducible refine LeO.ite ?_ ?_)
      | (with_reducible refine LeO.bind ?_ (fun _ => ?_))
      | exact ih0 _ _ _
      | exact LeO.none _
      | refine LeO.ite ?_ ?_
      | refine LeO.bind ?_ (fun _ => ?_)
set_option maxHeartbeats 8000000 in
set_option maxRecDepth 100000 in
theorem laws_markIntS.calls (k : Nat) (P0_ : Nat → Prop) (u9000_ : Value) (l0 : List Int) (a1 : Int) (r1 : Int) (r2 : List Int) (w0 w : World) (hB : Below w0.heap.size w0 w) (ho0 : Kd.R (Kd.int .i64) 3 w w0.heap.size P0_ u9000_ l0) (h : laws_markIntS.f k l0 a1 = some (r1, r2)) :
    Calls Try.prog 13 #[u9000_, .int .i64 a1] w fun e w' => e = .returned (.int .i64 r1) ∧ Kd.R (Kd.int .i64) 3 w' w0.heap.size (fun k_ => (P0_ k_ ∨ w.heap.size ≤ k_)) u9000_ r2 ∧ Below w0.heap.size w0 w' ∧ Kept w w' (fun k_ => P0_ k_) := by
  have HO0 := Aside0.mk (show Kd.R (Kd.int .i64) 3 w w0.heap.size (fun k_ => (P0_ k_ ∨ w.heap.size ≤ k_)) u9000_ l0 from Kd.R_mono ho0 (fun k_ hk => (.inl hk)))
  have HK := Aside0.mk (Kept.refl w (fun k_ => P0_ k_))
  have HW0 := Aside0.mk hB.size
  have HB := Aside0.mk hB
  clear hB
  have H : (laws_markIntS.l0 k l0 a1 0) = some (r1, r2) := h
  clear h
  have H' := Aside0.mk H
  clear H
  go_enter Try.func13, Try.ntmps13
  go_wp2
  go_loopg [1, 5] k (fun kq v1 v5 w' => ∃ (x0_1 : List Int) (x1_1 : Int) (x5_1 : Int), v1 = .int .i64 x1_1 ∧ v5 = .int .i64 x5_1 ∧ Aside0 (laws_markIntS.l0 kq x0_1 x1_1 x5_1 = some (r1, r2)) ∧ Aside0 (kq ≤ k) ∧ Aside0 (Kd.R (Kd.int .i64) 3 w' w0.heap.size (fun k_ => (P0_ k_ ∨ w.heap.size ≤ k_)) u9000_ x0_1) ∧ Aside0 (Kept w w' (fun k_ => P0_ k_)) ∧ Aside0 (Below w0.heap.size w0 w'))
  case atStart => exact ⟨(l0), (a1), (0), (by first | rfl | (simp; done) | (simp [*]; done)), (by first | rfl | (simp; done) | (simp [*]; done)), H', ⟨Nat.le_refl _⟩, ⟨by (with_reducible repeat (first | apply Kd.R_alloc | apply Kd.R_drewN | apply Kd.R_drew)); exact HO0.out⟩, ⟨by repeat (first | (with_reducible first | exact HK.out | apply Kept.alloc | apply Kept.drewN | apply Kept.drew) | exact HK.out)⟩, ⟨by repeat (first | (with_reducible first | exact HB.out | apply below_alloc | apply pw_below_drewN | apply below_drew1) | exact HB.out)⟩⟩
  case round =>
    clear H'
    try clear c1
    try clear p2
    obtain ⟨x0_1, x1_1, x5_1, rfl, rfl, HA, HK1, HO_0, HK, HB⟩ := hrel
    cases gk with
    | zero => exact absurd HA.out (by simp [laws_markIntS.l0])
    | succ k1 =>
      have H := HA.out
      clear HA
      simp only [laws_markIntS.l0] at H
      by_cases c3 : x5_1 < (x0_1.length : Int)
      · rw [if_pos c3] at H
        have c3b0 : decide (x5_1 < (x0_1.length : Int)) = true := decide_eq_true c3
        clear c3
        by_cases c4 : 0 ≤ x5_1
        · rw [if_pos c4] at H
          have c4b0 : decide (0 ≤ x5_1) = true := decide_eq_true c4
          clear c4
          obtain ⟨y174, hy174⟩ : ∃ y_ : List Int, y_ = (x0_1.set (x5_1 : Int).toNat x1_1) := ⟨_, rfl⟩
          replace H : (laws_markIntS.l0 k1 y174 (wrap64 (x1_1 + 1)) (wrap64 (x5_1 + 1))) = some (r1, r2) := by first | (rw [hy174]; with_reducible exact H) | (have H2_ := (Option.bind_some _ _).symm.trans H; rw [hy174]; with_reducible exact H2_) | (have H2_ := (Option.bind_some _ _).symm.trans H; with_reducible exact H2_) | with_reducible exact H | (rw [hy174]; exact H) | exact H
          have Ny174 := Aside0.mk hy174
          clear hy174
          have H' := Aside0.mk H
          clear H
          obtain ⟨Ao6, co6, eo6⟩ := Kd.R_slice HO_0.out
          subst eo6
          have p5 : 0 ≤ (x5_1 : Int) := of_decide_eq_true (by first | (with_reducible assumption) | assumption)
          have q5 : (x5_1 : Int) < ((x0_1.length : Int) : Int) := of_decide_eq_true (by first | (with_reducible assumption) | assumption)
          obtain ⟨go5, co5, eo5, gb5, gl5, cl5, HG5⟩ := Kd.R_form HO_0.out (by omega)
          (first | cases eo5 | (injection eo5 with ea_ en_ ec_; (first | subst ea_ | (injection ea_ with ea_; subst ea_)); subst ec_; clear en_))
          have GB5 := Aside0.mk gb5
          have GG5 := Aside0.mk HG5
          clear gb5 gl5 HG5
          have HMgo5 := Aside0.mk (show (P0_ go5 ∨ w.heap.size ≤ go5) from (HO_0.out.1 _ rfl))
          obtain ⟨hx5_0, hf5_0⟩ := Kd.R_celln 0 HO_0.out (x5_1 : Int) p5 q5
          replace p5 := eq_true p5
          replace q5 := eq_true q5
          have HP7 := Kd.R_putg HO_0.out (x5_1 : Int) x1_1
          go_wp2_with (first | ((with_reducible refine gate_store (t := 3) (p := 15) rfl ?_); refine store_event (t := 3) (p := 15) (v := ?vo_w8) (w1 := (wr.setCell ⟨go5, (x5_1 : Int).toNat, none⟩ (.int .i64 x1_1))) ?hg ?ho ?hn ?hr ?_; (case ho => rfl); (case hg => rfl); (case hn => rfl); (case hr => first | (go_simp; done) | (go_simp; rfl)); intro w8 hw; have hg : wr.grownBy w8 (some go5) := (by rw [hw]; exact HP7.2); have hp_ : Kd.R (Kd.int .i64) 3 w8 w0.heap.size (fun k_ => (P0_ k_ ∨ w.heap.size ≤ k_)) (.slice (some ⟨go5, 0, none⟩) x0_1.length co6) y174 := (by rw [hw, Ny174.out]; exact HP7.1); clear HP7; have n0_ := Aside0.mk (hp_); have n1_ := Aside0.mk ((by rw [hw]; exact below_set (HB.out) GB5.out : Below w0.heap.size w0 w8)); have n2_ := Aside0.mk (Kept.of_grown (S := (fun k_ => P0_ k_)) hg (by repeat (first | (with_reducible first | exact HK.out | apply Kept.alloc | apply Kept.drewN | apply Kept.drew) | exact HK.out)) (fun k_ e_ => (HO_0.out.1 k_ e_))); clear HO_0; clear HB; clear HK; have HO_0 := n0_; have HB := n1_; have HK := n2_; clear n0_ n1_ n2_; clear hg hw hp_))
          go_roundg k1
          case measure => have := HK1.out; omega
          case rel => exact ⟨(y174), (wrap64 (x1_1 + 1)), (wrap64 (x5_1 + 1)), (by first | rfl | (simp; done) | (simp [*]; done)), (by first | rfl | (simp; done) | (simp [*]; done)), H', ⟨by have := HK1.out; omega⟩, ⟨by (with_reducible repeat (first | apply Kd.R_alloc | apply Kd.R_drewN | apply Kd.R_drew)); exact HO_0.out⟩, ⟨by repeat (first | (with_reducible first | exact HK.out | apply Kept.alloc | apply Kept.drewN | apply Kept.drew) | exact HK.out)⟩, ⟨by repeat (first | (with_reducible first | exact HB.out | apply below_alloc | apply pw_below_drewN | apply below_drew1) | exact HB.out)⟩⟩
        · rw [if_neg c4] at H
          exact absurd H (by simp)
      · rw [if_neg c3] at H
        have c3b0 : decide (x5_1 < (x0_1.length : Int)) = false := decide_eq_false c3
        clear c3
        simp only [Option.some.injEq, Prod.mk.injEq] at H
        obtain ⟨rfl, rfl⟩ := H
        obtain ⟨Ao9, co9, eo9⟩ := Kd.R_slice HO_0.out
        subst eo9
        go_wp2
        go_ret
        exact ⟨by first | rfl | (simp [errW_none, errW_some] <;> rfl) | (simp [*, errW_none, errW_some] <;> rfl), by (with_reducible repeat (first | apply Kd.R_alloc | apply Kd.R_drewN | apply Kd.R_drew)); exact HO_0.out, by repeat (first | (with_reducible first | exact HB.out | apply below_alloc | apply pw_below_drewN | apply below_drew1) | exact HB.out), by repeat (first | (with_reducible first | exact HK.out | apply Kept.alloc | apply Kept.drewN | apply Kept.drew) | exact HK.out)⟩

end Go.Proofs.Ytojehfdioeglgaa.S
