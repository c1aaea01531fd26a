/- The program's LevelRuns answers as the reference's, for every list of whole numbers and every level at first; it writes into no argument and its answer is memory of its own, row by row. No condition beyond the statement's own. (text 3 of 5 of this claim: functions of the program and of the reference as plain Lean functions, what a call of each comes to, and what follows.) -/
import Derived.Test.YtojehfdioeglgaaZFnExactLevelRunsA0
import Derived.Test.YtojehfdioeglgaaZFnExactLevelRunsA1
set_option maxHeartbeats 16000000
set_option maxRecDepth 100000
namespace Go.Proofs.Ytojehfdioeglgaa.S
open Go.RowKit Go.Proofs.YtojehfdioeglgaaW.PrintWords Go.Proofs.YtojehfdioeglgaaW.PrintLast
set_option linter.unusedVariables false
set_option linter.unusedSimpArgs false
open Go.WideElems Go.Maps Go.ChangeMaps in
theorem MapI.entry {w : World} {b n : Nat} {f : Int → Option Int} (h : MapI w b n f) (hn : n < 1000000) (k v : Int) (hk : (Lit.int .i64 k).wf = true) (hv : (Lit.int .i64 v).wf = true) :
  ∃ v0 st W1 W2, (Instr.mapEntry 76 (.map (some b)) (.int .i64 k)).run Try.prog w = .ok (.tuple #[v0, .int .i64 st]) W1 ∧ (Instr.entryStore 76 (.map (some b)) (.int .i64 st) (.int .i64 v)).run Try.prog W1 = .ok () W2 ∧ MapI W2 b (n + 1) (fun a => if a = k then some v else f a) ∧ w.grownBy W2 (some b) := by
 obtain ⟨w', hrun, hm, hg⟩ := h.put hn k v hk hv
 obtain ⟨D, ⟨es, clock, hb, F, hs, rfl⟩, h2, h3⟩ := h
 have K := Maps.int_keyed (P := Try.prog) Try.underlying3
 have hkey := Maps.keyOf_int_mk Try.underlying3 hk
 have ht := Try.underlying76
 have hz := mapI_zero w
 obtain ⟨s1, s2, s3⟩ := F.stamped
 -- what two writes of the block leave
 have two : ∀ x y : Obj, w' = setBlock w b y → setBlock (setBlock w b x) b y = w' := fun x y e => by
  rw [e]
  simp [setBlock]
 rcases K.find w hkey es.toList F.keys with ⟨g1, g2⟩ | ⟨j, e0, g1, g2, g3⟩
 ·
  have hu : (Instr.mapUpdate 76 (.map (some b)) (.int .i64 k) (.int .i64 v)).run Try.prog w = .ok () (setBlock w b (.map (es.push ⟨.int .i64 k, .int .i64 v, clock⟩) (clock + 1))) := by
   simp [Instr.mapUpdate, run_underlying ht, MapKept.run_getObj_map hb, K.check w false hkey, g1, MapKept.run_setObj_map _ hb, Result.andThen, setBlock]
  rw [hrun] at hu
  injection hu with _ hu
  have hw1 := heap_setBlock_same hb (.map (es.push ⟨.int .i64 k, .int .i64 0, clock⟩) (clock + 1))
  have hidx : (es.push ⟨.int .i64 k, .int .i64 0, clock⟩).findIdx? (fun e => ((e.born : Nat) : Int) == ((clock : Nat) : Int)) = some es.size := by
   rw [findIdx_arr]
   refine findIdx_born (e0 := ⟨.int .i64 k, .int .i64 0, clock⟩) ?_ (by simp)
   rw [Array.toList_push, List.map_append]
   refine List.nodup_append.2 ⟨s2, by simp, fun a ha c hc => ?_⟩
   obtain ⟨x, hx, rfl⟩ := List.mem_map.1 ha
   rw [List.map_cons, List.map_nil, List.mem_singleton] at hc
   rw [hc]
   exact Nat.ne_of_lt (s1 x hx)
  have hmod : (es.push ⟨.int .i64 k, .int .i64 0, clock⟩).modify es.size (fun e => { e with val := .int .i64 v }) = es.push ⟨.int .i64 k, .int .i64 v, clock⟩ := by
   apply Array.ext'
   rw [Array.toList_modify, Array.toList_push, Array.toList_push, ← Array.length_toList, modify_last]
  have st : ∀ W1 : World, W1.heap[b]? = some (.map (es.push ⟨.int .i64 k, .int .i64 0, clock⟩) (clock + 1)) → (Instr.entryStore 76 (.map (some b)) (.int .i64 clock) (.int .i64 v)).run Try.prog W1 = .ok () (setBlock W1 b (.map (es.push ⟨.int .i64 k, .int .i64 v, clock⟩) (clock + 1))) := fun W1 hw => by
   simp [Instr.entryStore, MapKept.run_getObj_map hw, asInt, asIntOf, hidx, hmod, MapKept.run_setObj_map _ hw, Result.andThen, setBlock]
  refine ⟨.int .i64 0, clock, setBlock w b (.map (es.push ⟨.int .i64 k, .int .i64 0, clock⟩) (clock + 1)), w', ?_, ?_, hm, hg⟩
  · simp [Instr.mapEntry, run_underlying ht, MapKept.run_getObj_map hb, K.check w false hkey, g1, hz, MapKept.run_setObj_map _ hb, Result.andThen, setBlock, goInt]
  · rw [st _ hw1, two _ _ hu]
 ·
  have hj : es[j]? = some e0 := by simpa using g2
  have hsame : es.modify j (fun e => { e with key := .int .i64 k }) = es := by
   apply Array.ext'
   rw [Array.toList_modify, modify_eq_set _ _ _ _ g2, show ({ e0 with key := .int .i64 k } : MapEntry) = e0 by rw [← g3]]
   exact set_self _ _ _ g2
  have hu : (Instr.mapUpdate 76 (.map (some b)) (.int .i64 k) (.int .i64 v)).run Try.prog w = .ok () (setBlock w b (.map (es.modify j (fun e' => { e' with key := .int .i64 k, val := .int .i64 v })) clock)) := by
   simp [Instr.mapUpdate, run_underlying ht, MapKept.run_getObj_map hb, K.check w false hkey, g1, hj, g3, K.stays w hkey, MapKept.run_setObj_map _ hb, Result.andThen, setBlock]
  rw [hrun] at hu
  injection hu with _ hu
  have hw1 := heap_setBlock_same hb (.map es clock)
  have hidx : es.findIdx? (fun e => ((e.born : Nat) : Int) == ((e0.born : Nat) : Int)) = some j := by
   rw [findIdx_arr]
   exact findIdx_born s2 g2
  have hmod : es.modify j (fun e => { e with val := .int .i64 v }) = es.modify j (fun e' => { e' with key := .int .i64 k, val := .int .i64 v }) := by
   apply Array.ext'
   rw [Array.toList_modify, Array.toList_modify, modify_eq_set _ _ _ _ g2, modify_eq_set _ _ _ _ g2, ← g3]
  have st : ∀ W1 : World, W1.heap[b]? = some (.map es clock) → (Instr.entryStore 76 (.map (some b)) (.int .i64 e0.born) (.int .i64 v)).run Try.prog W1 = .ok () (setBlock W1 b (.map (es.modify j (fun e' => { e' with key := .int .i64 k, val := .int .i64 v })) clock)) := fun W1 hw => by
   simp [Instr.entryStore, MapKept.run_getObj_map hw, asInt, asIntOf, hidx, hmod, MapKept.run_setObj_map _ hw, Result.andThen, setBlock]
  refine ⟨e0.val, e0.born, setBlock w b (.map es clock), w', ?_, ?_, hm, hg⟩
  · simp [Instr.mapEntry, run_underlying ht, MapKept.run_getObj_map hb, K.check w false hkey, g1, hj, g3, K.stays w hkey, hsame, MapKept.run_setObj_map _ hb, Result.andThen, setBlock, goInt]
  · rw [st _ hw1, two _ _ hu]
structure PaS where
 op : List Int
 mt : Int → Option Int
 cd : Int → Option Int
def updI (f : Int → Option Int) (k v : Int) : Int → Option Int := fun a => if a = k then some v else f a
def paraStep (c : Int) (j : Nat) (s : PaS) : PaS :=
 if opensB c = true then { s with op := s.op ++ [(j : Int)] }
 else if c = 22 ∧ s.op ≠ [] then ⟨s.op.take (s.op.length - 1), updI s.mt (s.op.getD (s.op.length - 1) 0) j, updI s.cd j (s.op.getD (s.op.length - 1) 0)⟩ else s
def paraS (cls : List Int) : Nat → PaS
 | 0 => ⟨[], fun _ => none, fun _ => none⟩
 | j + 1 => paraStep (cls.getD j 0) j (paraS cls j)
def InvP (j : Nat) (s : PaS) : Prop := (∀ x ∈ s.op, 0 ≤ x ∧ x < j) ∧ s.op.length ≤ j ∧ (∀ k m, s.mt k = some m → k < m ∧ m < j)
theorem inv_para (cls : List Int) : ∀ j, InvP j (paraS cls j)
 | 0 => ⟨by simp [paraS], by simp [paraS], by simp [paraS]⟩
 | j + 1 => by
  obtain ⟨h1, h2, h3⟩ := inv_para cls j
  rw [paraS]
  generalize paraS cls j = s at h1 h2 h3
  unfold paraStep
  split
  ·
   refine ⟨fun x hx => ?_, by simp only [List.length_append, List.length_cons, List.length_nil]; omega, fun k m hm => ?_⟩
   ·
    rcases List.mem_append.mp hx with hx | hx
    · have := h1 x hx; omega
    · rw [List.mem_singleton] at hx; omega
   · have := h3 k m hm; omega
  ·
   split
   ·
    rename_i hc
    have hlen : 0 < s.op.length := List.length_pos_iff.mpr hc.2
    have hx : s.op.getD (s.op.length - 1) 0 ∈ s.op := by
     rw [List.getD_eq_getElem?_getD, List.getElem?_eq_getElem (by omega), Option.getD_some]
     exact List.getElem_mem _
    have hb := h1 _ hx
    refine ⟨fun x hx => ?_, by simp only [List.length_take]; omega, fun k m hm => ?_⟩
    · have := h1 x (List.mem_of_mem_take hx); omega
    ·
     simp only [updI] at hm
     split at hm
     · injection hm with hm; omega
     · have := h3 k m hm; omega
   ·
    refine ⟨fun x hx => ?_, by omega, fun k m hm => ?_⟩
    · have := h1 x hx; omega
    · have := h3 k m hm; omega
def PW (W : World) (base g0 : Nat) (Ar : Option Addr) (cr n : Nat) (vc : Value) (cl : List Int) (vo : Value) (s : PaS) (j : Nat) : Prop :=
 W.heap[g0 + 1 + 1]? = some (.cells #[.slice Ar n cr, vc, .map (some g0), .map (some (g0 + 1))] 78 (0, 0)) ∧ Two W base vc cl vo s.op ∧ MapI W g0 j s.mt ∧ MapI W (g0 + 1) j s.cd
theorem PW.below {W W' : World} {base g0 : Nat} {Ar : Option Addr} {cr n : Nat} {vc : Value} {cl : List Int} {vo : Value} {s : PaS} {j : Nat} (h : PW W base g0 Ar cr n vc cl vo s j) (hb : Below W.heap.size W W') : PW W' base g0 Ar cr n vc cl vo s j :=
 ⟨blk_below h.1 hb, ⟨Kd.R_below h.2.1.1 hb, Kd.R_below h.2.1.2 hb⟩, h.2.2.1.below hb, h.2.2.2.below hb⟩
theorem MapI.wide {w : World} {b n m : Nat} {f : Int → Option Int} (h : MapI w b n f) (hm : n ≤ m) : MapI w b m f := by
 obtain ⟨D, ⟨es, clock, hb, F, hs, hD⟩, h2⟩ := h
 exact ⟨D, ⟨es, clock, hb, F, Nat.le_trans hs hm, hD⟩, h2⟩
theorem para_start (w : World) (Ar : Option Addr) (cr n : Nat) (o : Obj) (ho : o = .cells #[.slice Ar n cr, .slice none 0 0, .map (some w.heap.size), .map (some (w.heap.size + 1))] 78) :
  PW (((w.alloc (.map #[] 0)).alloc (.map #[] 0)).alloc o) w.heap.size w.heap.size Ar cr n (.slice none 0 0) [] (.slice none 0 0) ⟨[], fun _ => none, fun _ => none⟩ 0 ∧ Below w.heap.size w (((w.alloc (.map #[] 0)).alloc (.map #[] 0)).alloc o) := by
 subst ho
 have e1 : (w.alloc (.map #[] 0)).heap.size = w.heap.size + 1 := by simp
 have e2 : ((w.alloc (.map #[] 0)).alloc (.map #[] 0)).heap.size = w.heap.size + 1 + 1 := by simp
 have m1 := ((MapI.made w).below (below_alloc (Below.refl _ _) (.map #[] 0))).below (below_alloc (Below.refl _ _) (.cells #[.slice Ar n cr, .slice none 0 0, .map (some w.heap.size), .map (some (w.heap.size + 1))] 78))
 have m2 := (MapI.made (w.alloc (.map #[] 0))).below (below_alloc (Below.refl _ _) (.cells #[.slice Ar n cr, .slice none 0 0, .map (some w.heap.size), .map (some (w.heap.size + 1))] 78))
 have b := blk_new ((w.alloc (.map #[] 0)).alloc (.map #[] 0)) (.cells #[.slice Ar n cr, .slice none 0 0, .map (some w.heap.size), .map (some (w.heap.size + 1))] 78)
 rw [e1] at m2
 rw [e2] at b
 exact ⟨⟨b, two_nil _ _, m1, m2⟩, below_alloc (below_alloc (below_alloc (Below.refl _ _) _) _) _⟩
theorem map_far {W : World} {b n pb : Nat} {f : Int → Option Int} {cs : Array Value} {t : TypeId} (h : MapI W b n f) (h1 : W.heap[pb]? = some (.cells cs t (0, 0))) (i : Nat) (v : Value) : MapI (W.setCell ⟨pb, i, none⟩ v) b n f :=
 h.heap fun es c he => (heap_setCell_ne (fun e => by rw [show b = pb from e, h1] at he; cases he)).trans he
theorem map_fr {ts : List Nat} {W W' : World} {b n : Nat} {f : Int → Option Int} (h : MapI W b n f) (hf : FrT ts W W') : MapI W' b n f := h.heap fun es c he => hf.2 b _ he (fun _ _ _ e => by cases e)
theorem PW.more {W : World} {base g0 : Nat} {Ar : Option Addr} {cr n : Nat} {vc : Value} {cl : List Int} {vo : Value} {s : PaS} {j : Nat} (h : PW W base g0 Ar cr n vc cl vo s j) : PW W base g0 Ar cr n vc cl vo s (j + 1) :=
 ⟨h.1, h.2.1, h.2.2.1.wide (by omega), h.2.2.2.wide (by omega)⟩
theorem R_grown_map {W W' : World} {base b : Nat} {ok : Nat → Prop} {v : Value} {xs : List Int} {n : Nat} {f : Int → Option Int} (h : Kd.R (Kd.int .i64) 3 W base ok v xs) (hm : MapI W b n f) (hg : W.grownBy W' (some b)) : Kd.R (Kd.int .i64) 3 W' base ok v xs := by
 obtain ⟨D, ⟨es, clock, hb, _⟩, _⟩ := hm
 refine Kd.R_mono (Kd.R_move (Kd.R_bound h) (fun k hk => hg.block k hk.2.2.1 (fun he => ?_))) (fun _ hk => hk.1)
 obtain ⟨_, _, _, q, hq, cells, hc⟩ := hk
 injection he with he
 rw [he, hb] at hc
 cases hc
theorem PW.closed {W W2 W4 : World} {base g0 : Nat} {Ar : Option Addr} {cr n : Nat} {vc : Value} {cl : List Int} {vo : Value} {s : PaS} {j : Nat} {f1 f2 : Int → Option Int} (h : PW W base g0 Ar cr n vc cl vo s j) (hg1 : W.grownBy W2 (some g0)) (hg2 : W2.grownBy W4 (some (g0 + 1))) (m1 : MapI W2 g0 (j + 1) f1) (m2 : MapI W4 (g0 + 1) (j + 1) f2) :
  PW W4 base g0 Ar cr n vc cl vo ⟨s.op, f1, f2⟩ (j + 1) := by
 obtain ⟨p1, p2, p3, p4⟩ := h
 have q4 := p4.kept hg1 (by intro h; injection h with h; omega)
 exact ⟨blk_grown (blk_grown p1 hg1 (by intro h; injection h with h; omega)) hg2 (by intro h; injection h with h; omega), ⟨R_grown_map (R_grown_map p2.1 p3 hg1) q4 hg2, R_grown_map (R_grown_map p2.2 p3 hg1) q4 hg2⟩, m1.kept hg2 (by intro h; injection h with h; omega), m2⟩
theorem PW.grow {w0 W w2 : World} {base g0 : Nat} {Ar : Option Addr} {cr n : Nat} {vc v2 : Value} {cl cl2 : List Int} {vo : Value} {s : PaS} {j : Nat} (h : PW W base g0 Ar cr n vc cl vo s j) (hg : W.grownBy w2 vc.ownBlock) (h2 : Two w2 base v2 cl2 vo s.op) (hB : Below w0.heap.size w0 w2) (hg0 : w0.heap.size ≤ g0) :
  PW (w2.setCell ⟨g0 + 1 + 1, 1, none⟩ v2) base g0 Ar cr n v2 cl2 vo s j ∧ Below w0.heap.size w0 (w2.setCell ⟨g0 + 1 + 1, 1, none⟩ v2) := by
 obtain ⟨p1, p2, p3, p4⟩ := h
 have hf := FrT.grown p2.1 hg
 have q1 := hf.same p1 (by decide)
 exact ⟨⟨blk_set q1 1 v2, ⟨Kd.R_set h2.1 q1 (by decide) 1 v2, Kd.R_set h2.2 q1 (by decide) 1 v2⟩, map_far (map_fr p3 hf) q1 1 v2, map_far (map_fr p4 hf) q1 1 v2⟩, hB.setCell (p := ⟨g0 + 1 + 1, 1, none⟩) (by simp only; omega) _⟩
theorem PW.opened {W w2 : World} {base g0 : Nat} {Ar : Option Addr} {cr n : Nat} {vc : Value} {cl op2 : List Int} {vo v2 : Value} {s : PaS} {j : Nat} (h : PW W base g0 Ar cr n vc cl vo s j) (hg : W.grownBy w2 vo.ownBlock) (h2 : Two w2 base vc cl v2 op2) : PW w2 base g0 Ar cr n vc cl v2 { s with op := op2 } (j + 1) := by
 obtain ⟨p1, p2, p3, p4⟩ := h
 have hf := FrT.grown p2.2 hg
 exact ⟨hf.same p1 (by decide), h2, (map_fr p3 hf).wide (by omega), (map_fr p4 hf).wide (by omega)⟩
theorem paragraphOf_calls (w : World) (Ar : Option Addr) (cr : Nat) (rs cls : List Int) (hr : Kd.C (Kd.int .i64) w Ar rs.length rs) (hrc : rs.length ≤ cr) (hn : rs.length ≤ 400) (hcl : cls.length = rs.length) (hcs : ∀ i, i < rs.length → impl_RuneBidi.f (rs.getD i 0) = some (cls.getD i 0)) :
  Calls Try.prog 49 #[.slice Ar rs.length cr] w fun e w' => ∃ pb, e = .returned (.pointer (some ⟨pb, 0, none⟩)) ∧ IsPara w' w.heap.size pb Ar cr rs.length cls (paraS cls rs.length).mt (paraS cls rs.length).cd ∧ Below w.heap.size w w' := by
 have HR := az hr
 have HCS := az hcs
 have HCL := az hcl
 have hmk := @run_makeMap Try.prog
 clear hr hcs hcl
 go_enter Try.func49, Try.ntmps49
 go_wp2
 obtain ⟨HS0, HB0⟩ := para_start w Ar cr rs.length _ rfl
 have HS0 := az HS0
 have HB0 := az HB0
 go_loopg [4, 16] rs.length (fun gg s4 s16 wr => ∃ (j : Nat) (vo vc : Value), s16 = .int .i64 j ∧ vo = s4 ∧ j ≤ rs.length ∧ rs.length - j ≤ gg ∧ Aside0 (PW wr w.heap.size w.heap.size Ar cr rs.length vc (cls.take j) vo (paraS cls j) j) ∧ Aside0 (Below w.heap.size w wr))
 case atStart => exact ⟨0, _, _, rfl, rfl, Nat.zero_le _, by omega, HS0, HB0⟩
 case round =>
  clear HS0 HB0 hmk
  obtain ⟨j, vo, vc, rfl, hv, hj, hg, HS, HB⟩ := hrel
  subst hv
  by_cases hlt : j < rs.length
  ·
   have hltz : (j : Int) < (rs.length : Int) := by omega
   obtain ⟨ad, e1, hx⟩ := Kd.at_int (Kd.C_below HR.out HB.out) (j : Int) (by omega) (by omega)
   have HCJ := az (HCS.out j hlt)
   have HK := az (show cls.take (j + 1) = cls.take j ++ [cls.getD j 0] by
    rw [List.take_add_one, List.getD_eq_getElem?_getD, List.getElem?_eq_getElem (by rw [HCL.out]; exact hlt)]; rfl)
   have HSt := az (show paraS cls (j + 1) = paraStep (cls.getD j 0) j (paraS cls j) from rfl)
   have HI := az (inv_para cls j)
   have hol := HI.out.2.1
   subst e1
   rw [Int.toNat_natCast, show rd rs (j : Int) = rs.getD j 0 by simp [rd]] at hx
   generalize rs.getD j 0 = y at hx HCJ
   generalize cls.getD j 0 = c at HCJ HK HSt
   generalize paraS cls j = s at HS HSt HI hol
   obtain ⟨Ao, co, hvo, hlo, hCo⟩ := Kd.R_reads HS.out.2.1.2
   subst hvo
   have HCo := az hCo
   have htl : (cls.take j).length ≤ 400 := by rw [List.length_take]; omega
   have hol9 : s.op.length ≤ 400 := by omega
   clear hCo
   cases ho : opensB c with
   | true =>
    go_wp2_with (first | (go_at_call 75; refine (impl_RuneBidi.calls _ _ _ HCJ.out).mono ?_; rintro e w1 ⟨rfl, hb⟩; have S1 := az (PW.below HS.out hb); have B1 := az (below_then HB.out HB.out.size hb); have hc1 := (blk_cell S1.out.1 1).trans (show _ = some vc from rfl); clear hb) | ((with_reducible refine gate_builtin (b := .append) (xs := #[.tmp 27, .tmp 29]) rfl ?_); at_builtin; refine Kd.R_append (Kd.int .i64) (w0 := w) w.heap.size rfl (.tmp 27) (.tmp 29) 22 3 (.int .i64 0) 8 rfl Try.underlying22 info3 rfl (by decide) (by omega) vc (cls.take j) c [.int .i64 c] (fun k => True ∧ some k ≠ ((.slice Ao s.op.length co) : Value).ownBlock) (fun _ => False) rfl rfl ?aP (fun _ hk => hk.elim) ?aF ?aO ?aB ?aS ?aL ?_; (case aP => rfl); (case aF => exact fun k hk => ⟨trivial, fun e => absurd (blk_lt (Kd.R_typed S1.out.2.1.2 k e.symm).choose_spec) (Nat.not_lt.mpr hk)⟩); (case aO => exact S1.out.2.1.1); (case aB => exact B1.out); (case aS => exact B1.out.size); (case aL => omega); intro v2 w2 ho1 hb1 hg1 hat1; obtain ⟨A2, c2, hv2⟩ := Kd.R_slice ho1; subst hv2; generalize hN2 : (cls.take j ++ [c]).length = N2 at ho1 hat1 ⊢; have G1 := az (PW.grow S1.out hg1 ⟨ho1, Kd.R_after S1.out.2.1.2 hg1 hat1⟩ hb1 (Nat.le_refl _)); have hq1 := FrT.same (FrT.grown S1.out.2.1.1 hg1) S1.out.1 (by decide); have hc2 := (blk_cell hq1 1).trans (show _ = some vc from rfl); have hf2 := blk_frozen hq1 1; clear ho1 hb1 hg1 hat1 hq1 hc1) | ((with_reducible refine gate_store (t := 22) (p := 32) rfl ?_); refine store_event (t := 22) (p := 32) (v := ?vo_w10) (w1 := (w2.setCell ⟨w.heap.size + 1 + 1, 1, none⟩ (.slice A2 N2 c2))) ?hg ?ho ?hn ?hr ?_; (case ho => rfl); (case hg => rfl); (case hn => rfl); (case hr => first | (go_simp; done) | (go_simp; rfl)); intro w10 hw; have S2 : Aside0 (PW w10 w.heap.size w.heap.size _ cr rs.length (.slice A2 N2 c2) (cls.take j ++ [c]) (.slice Ao s.op.length co) s j) := ⟨by rw [hw]; exact G1.out.1⟩; have B2 : Aside0 (Below w.heap.size w w10) := ⟨by rw [hw]; exact G1.out.2⟩; clear hw hc2 hf2 G1) | (go_at_call 63; refine (opensQ c w10 0).mono ?_; rw [ho]; rintro e w11 ⟨rfl, m1, rfl⟩; have S3 := az (PW.below S2.out (pw_below_drewN (Below.refl _ _) m1)); have B3 := az (pw_below_drewN B2.out m1)) | ((with_reducible refine gate_builtin (b := .append) (xs := #[.tmp 39, .tmp 41]) rfl ?_); at_builtin; refine Kd.R_append (Kd.int .i64) (w0 := w) w.heap.size rfl (.tmp 39) (.tmp 41) 22 3 (.int .i64 0) 8 rfl Try.underlying22 info3 rfl (by decide) (by omega) (.slice Ao s.op.length co) s.op (j : Int) [.int .i64 (j : Int)] (fun k => True ∧ some k ≠ ((.slice A2 N2 c2) : Value).ownBlock) (fun _ => False) rfl rfl ?aP (fun _ hk => hk.elim) ?aF ?aO ?aB ?aS ?aL ?_; (case aP => rfl); (case aF => exact fun k hk => ⟨trivial, fun e => absurd (blk_lt (Kd.R_typed S3.out.2.1.1 k e.symm).choose_spec) (Nat.not_lt.mpr hk)⟩); (case aO => exact S3.out.2.1.2); (case aB => exact B3.out); (case aS => exact B3.out.size); (case aL => omega); intro v3 w12 ho2 hb2 hg2 hat2; have E0 := az (PW.opened S3.out hg2 ⟨Kd.R_after S3.out.2.1.1 hg2 hat2, ho2⟩); have E1 := az hb2; clear ho2 hb2 hg2 hat2))
    go_roundg (rs.length - (j + 1))
    case measure => omega
    case rel => exact ⟨j + 1, v3, _, by go_num, rfl, by omega, by omega, ⟨by rw [HSt.out, HK.out, paraStep, if_pos ho]; exact E0.out⟩, E1⟩
   | false =>
    have hol0 : 0 ≤ (s.op.length : Int) := by omega
    by_cases c22 : c = 22
    ·
     by_cases hop : s.op = []
     ·
      have hl0 := az (show (s.op.length : Int) = 0 by rw [hop]; rfl)
      have HOP := az hop
      have d22 : (c == 22) = true := by rw [c22]; rfl
      clear hop c22
      go_wp2_with (first | (go_at_call 75; refine (impl_RuneBidi.calls _ _ _ HCJ.out).mono ?_; rintro e w1 ⟨rfl, hb⟩; have S1 := az (PW.below HS.out hb); have B1 := az (below_then HB.out HB.out.size hb); have hc1 := (blk_cell S1.out.1 1).trans (show _ = some vc from rfl); clear hb) | ((with_reducible refine gate_builtin (b := .append) (xs := #[.tmp 27, .tmp 29]) rfl ?_); at_builtin; refine Kd.R_append (Kd.int .i64) (w0 := w) w.heap.size rfl (.tmp 27) (.tmp 29) 22 3 (.int .i64 0) 8 rfl Try.underlying22 info3 rfl (by decide) (by omega) vc (cls.take j) c [.int .i64 c] (fun k => True ∧ some k ≠ ((.slice Ao s.op.length co) : Value).ownBlock) (fun _ => False) rfl rfl ?aP (fun _ hk => hk.elim) ?aF ?aO ?aB ?aS ?aL ?_; (case aP => rfl); (case aF => exact fun k hk => ⟨trivial, fun e => absurd (blk_lt (Kd.R_typed S1.out.2.1.2 k e.symm).choose_spec) (Nat.not_lt.mpr hk)⟩); (case aO => exact S1.out.2.1.1); (case aB => exact B1.out); (case aS => exact B1.out.size); (case aL => omega); intro v2 w2 ho1 hb1 hg1 hat1; obtain ⟨A2, c2, hv2⟩ := Kd.R_slice ho1; subst hv2; generalize hN2 : (cls.take j ++ [c]).length = N2 at ho1 hat1 ⊢; have G1 := az (PW.grow S1.out hg1 ⟨ho1, Kd.R_after S1.out.2.1.2 hg1 hat1⟩ hb1 (Nat.le_refl _)); have hq1 := FrT.same (FrT.grown S1.out.2.1.1 hg1) S1.out.1 (by decide); have hc2 := (blk_cell hq1 1).trans (show _ = some vc from rfl); have hf2 := blk_frozen hq1 1; clear ho1 hb1 hg1 hat1 hq1 hc1) | ((with_reducible refine gate_store (t := 22) (p := 32) rfl ?_); refine store_event (t := 22) (p := 32) (v := ?vo_w10) (w1 := (w2.setCell ⟨w.heap.size + 1 + 1, 1, none⟩ (.slice A2 N2 c2))) ?hg ?ho ?hn ?hr ?_; (case ho => rfl); (case hg => rfl); (case hn => rfl); (case hr => first | (go_simp; done) | (go_simp; rfl)); intro w10 hw; have S2 : Aside0 (PW w10 w.heap.size w.heap.size _ cr rs.length (.slice A2 N2 c2) (cls.take j ++ [c]) (.slice Ao s.op.length co) s j) := ⟨by rw [hw]; exact G1.out.1⟩; have B2 : Aside0 (Below w.heap.size w w10) := ⟨by rw [hw]; exact G1.out.2⟩; clear hw hc2 hf2 G1) | (go_at_call 63; refine (opensQ c w10 0).mono ?_; rw [ho]; rintro e w11 ⟨rfl, m1, rfl⟩; have S3 := az (PW.below S2.out (pw_below_drewN (Below.refl _ _) m1)); have B3 := az (pw_below_drewN B2.out m1)))
      all_goals first | (exfalso; have hl1 := hl0.out; omega) | skip
      go_roundg (rs.length - (j + 1))
      case measure => omega
      case rel => exact ⟨j + 1, _, _, by go_num, rfl, by omega, by omega, ⟨by rw [HSt.out, HK.out, paraStep, if_neg (by rw [ho]; decide), if_neg (fun h => h.2 HOP.out)]; exact S3.out.more⟩, B3⟩
     ·
      have hlen : 0 < s.op.length := List.length_pos_iff.mpr hop
      have HOP := az hop
      have d22 : (c == 22) = true := by rw [c22]; rfl
      have hqm : s.op.getD (s.op.length - 1) 0 ∈ s.op := by
       rw [List.getD_eq_getElem?_getD, List.getElem?_eq_getElem (by omega), Option.getD_some]
       exact List.getElem_mem _
      obtain ⟨hq0, hq1⟩ := HI.out.1 _ hqm
      have HSt2 := az (show paraS cls (j + 1) = ⟨s.op.take (s.op.length - 1), updI s.mt (s.op.getD (s.op.length - 1) 0) j, updI s.cd j (s.op.getD (s.op.length - 1) 0)⟩ by rw [HSt.out, paraStep, if_neg (by rw [ho]; decide), if_pos ⟨c22, hop⟩])
      clear hop c22 hqm
      go_wp2_with (first | (go_at_call 75; refine (impl_RuneBidi.calls _ _ _ HCJ.out).mono ?_; rintro e w1 ⟨rfl, hb⟩; have S1 := az (PW.below HS.out hb); have B1 := az (below_then HB.out HB.out.size hb); have hc1 := (blk_cell S1.out.1 1).trans (show _ = some vc from rfl); clear hb) | ((with_reducible refine gate_builtin (b := .append) (xs := #[.tmp 27, .tmp 29]) rfl ?_); at_builtin; refine Kd.R_append (Kd.int .i64) (w0 := w) w.heap.size rfl (.tmp 27) (.tmp 29) 22 3 (.int .i64 0) 8 rfl Try.underlying22 info3 rfl (by decide) (by omega) vc (cls.take j) c [.int .i64 c] (fun k => True ∧ some k ≠ ((.slice Ao s.op.length co) : Value).ownBlock) (fun _ => False) rfl rfl ?aP (fun _ hk => hk.elim) ?aF ?aO ?aB ?aS ?aL ?_; (case aP => rfl); (case aF => exact fun k hk => ⟨trivial, fun e => absurd (blk_lt (Kd.R_typed S1.out.2.1.2 k e.symm).choose_spec) (Nat.not_lt.mpr hk)⟩); (case aO => exact S1.out.2.1.1); (case aB => exact B1.out); (case aS => exact B1.out.size); (case aL => omega); intro v2 w2 ho1 hb1 hg1 hat1; obtain ⟨A2, c2, hv2⟩ := Kd.R_slice ho1; subst hv2; generalize hN2 : (cls.take j ++ [c]).length = N2 at ho1 hat1 ⊢; have G1 := az (PW.grow S1.out hg1 ⟨ho1, Kd.R_after S1.out.2.1.2 hg1 hat1⟩ hb1 (Nat.le_refl _)); have hq1 := FrT.same (FrT.grown S1.out.2.1.1 hg1) S1.out.1 (by decide); have hc2 := (blk_cell hq1 1).trans (show _ = some vc from rfl); have hf2 := blk_frozen hq1 1; clear ho1 hb1 hg1 hat1 hq1 hc1) | ((with_reducible refine gate_store (t := 22) (p := 32) rfl ?_); refine store_event (t := 22) (p := 32) (v := ?vo_w10) (w1 := (w2.setCell ⟨w.heap.size + 1 + 1, 1, none⟩ (.slice A2 N2 c2))) ?hg ?ho ?hn ?hr ?_; (case ho => rfl); (case hg => rfl); (case hn => rfl); (case hr => first | (go_simp; done) | (go_simp; rfl)); intro w10 hw; have S2 : Aside0 (PW w10 w.heap.size w.heap.size _ cr rs.length (.slice A2 N2 c2) (cls.take j ++ [c]) (.slice Ao s.op.length co) s j) := ⟨by rw [hw]; exact G1.out.1⟩; have B2 : Aside0 (Below w.heap.size w w10) := ⟨by rw [hw]; exact G1.out.2⟩; clear hw hc2 hf2 G1) | (go_at_call 63; refine (opensQ c w10 0).mono ?_; rw [ho]; rintro e w11 ⟨rfl, m1, rfl⟩; have S3 := az (PW.below S2.out (pw_below_drewN (Below.refl _ _) m1)); have B3 := az (pw_below_drewN B2.out m1); obtain ⟨ad2, e2, hx2⟩ := Kd.at_int (Kd.R_reads' S2.out.2.1.2).2.2 ((s.op.length : Int) - 1) (by omega) (by omega); subst e2; rw [show ((s.op.length : Int) - 1).toNat = s.op.length - 1 by omega] at hx2; rw [show rd s.op ((s.op.length : Int) - 1) = s.op.getD (s.op.length - 1) 0 by rw [show ((s.op.length : Int) - 1) = ((s.op.length - 1 : Nat) : Int) by omega]; simp [rd]] at hx2; generalize s.op.getD (s.op.length - 1) 0 = q at hx2 hq0 hq1 HSt2; have hcm := (blk_cell S2.out.1 2).trans (show _ = some (.map (some w.heap.size)) from rfl); have hcc := (blk_cell S2.out.1 3).trans (show _ = some (.map (some (w.heap.size + 1))) from rfl); have S4 := az (PW.below S2.out (pw_below_drewN (Below.refl _ _) (m1 + 1))); have B4 := az (pw_below_drewN B2.out (m1 + 1)); obtain ⟨x0, st0, W1, W2, en1, en2, en3, en4⟩ := MapI.entry (w := w10.drewN (m1 + 1)) S4.out.2.2.1 (by omega) q j (wf_small (by omega) (by omega)) (wf_small (by omega) (by omega)); obtain ⟨x1, st1, W3, W4, en5, en6, en7, en8⟩ := (MapI.kept S4.out.2.2.2 en4 (by intro h; injection h with h; omega)).entry (by omega) j q (wf_small (by omega) (by omega)) (wf_small (by omega) (by omega)); have E5 := az (PW.closed S4.out en4 en8 en3 en7); have EB := az (pw_below_grown (pw_below_grown B4.out _ B4.out.size en4 (by intro k h; injection h with h; omega)) _ (Nat.le_trans B4.out.size en4.size) en8 (by intro k h; injection h with h; omega)); clear en3 en4 en7 en8))
      go_region
      all_goals go_wp2
      go_roundg (rs.length - (j + 1))
      case measure => omega
      case rel => exact ⟨j + 1, _, _, by go_num, rfl, by omega, by omega, ⟨by rw [HSt2.out, HK.out]; exact ⟨E5.out.1, ⟨E5.out.2.1.1, Kd.R_take E5.out.2.1.2 (Nat.sub_le _ _)⟩, E5.out.2.2.1, E5.out.2.2.2⟩⟩, EB⟩
    ·
     have d22 : (c == 22) = false := beq_eq_false_iff_ne.mpr c22
     go_wp2_with (first | (go_at_call 75; refine (impl_RuneBidi.calls _ _ _ HCJ.out).mono ?_; rintro e w1 ⟨rfl, hb⟩; have S1 := az (PW.below HS.out hb); have B1 := az (below_then HB.out HB.out.size hb); have hc1 := (blk_cell S1.out.1 1).trans (show _ = some vc from rfl); clear hb) | ((with_reducible refine gate_builtin (b := .append) (xs := #[.tmp 27, .tmp 29]) rfl ?_); at_builtin; refine Kd.R_append (Kd.int .i64) (w0 := w) w.heap.size rfl (.tmp 27) (.tmp 29) 22 3 (.int .i64 0) 8 rfl Try.underlying22 info3 rfl (by decide) (by omega) vc (cls.take j) c [.int .i64 c] (fun k => True ∧ some k ≠ ((.slice Ao s.op.length co) : Value).ownBlock) (fun _ => False) rfl rfl ?aP (fun _ hk => hk.elim) ?aF ?aO ?aB ?aS ?aL ?_; (case aP => rfl); (case aF => exact fun k hk => ⟨trivial, fun e => absurd (blk_lt (Kd.R_typed S1.out.2.1.2 k e.symm).choose_spec) (Nat.not_lt.mpr hk)⟩); (case aO => exact S1.out.2.1.1); (case aB => exact B1.out); (case aS => exact B1.out.size); (case aL => omega); intro v2 w2 ho1 hb1 hg1 hat1; obtain ⟨A2, c2, hv2⟩ := Kd.R_slice ho1; subst hv2; generalize hN2 : (cls.take j ++ [c]).length = N2 at ho1 hat1 ⊢; have G1 := az (PW.grow S1.out hg1 ⟨ho1, Kd.R_after S1.out.2.1.2 hg1 hat1⟩ hb1 (Nat.le_refl _)); have hq1 := FrT.same (FrT.grown S1.out.2.1.1 hg1) S1.out.1 (by decide); have hc2 := (blk_cell hq1 1).trans (show _ = some vc from rfl); have hf2 := blk_frozen hq1 1; clear ho1 hb1 hg1 hat1 hq1 hc1) | ((with_reducible refine gate_store (t := 22) (p := 32) rfl ?_); refine store_event (t := 22) (p := 32) (v := ?vo_w10) (w1 := (w2.setCell ⟨w.heap.size + 1 + 1, 1, none⟩ (.slice A2 N2 c2))) ?hg ?ho ?hn ?hr ?_; (case ho => rfl); (case hg => rfl); (case hn => rfl); (case hr => first | (go_simp; done) | (go_simp; rfl)); intro w10 hw; have S2 : Aside0 (PW w10 w.heap.size w.heap.size _ cr rs.length (.slice A2 N2 c2) (cls.take j ++ [c]) (.slice Ao s.op.length co) s j) := ⟨by rw [hw]; exact G1.out.1⟩; have B2 : Aside0 (Below w.heap.size w w10) := ⟨by rw [hw]; exact G1.out.2⟩; clear hw hc2 hf2 G1) | (go_at_call 63; refine (opensQ c w10 0).mono ?_; rw [ho]; rintro e w11 ⟨rfl, m1, rfl⟩; have S3 := az (PW.below S2.out (pw_below_drewN (Below.refl _ _) m1)); have B3 := az (pw_below_drewN B2.out m1)))
     go_roundg (rs.length - (j + 1))
     case measure => omega
     case rel => exact ⟨j + 1, _, _, by go_num, rfl, by omega, by omega, ⟨by rw [HSt.out, HK.out, paraStep, if_neg (by rw [ho]; decide), if_neg (fun h => c22 h.1)]; exact S3.out.more⟩, B3⟩
  ·
   have hltz : ¬ (j : Int) < (rs.length : Int) := by omega
   obtain rfl : j = rs.length := by omega
   go_wp2
   go_ret
   have hcl : cls.take rs.length = cls := by rw [← HCL.out, List.take_length]
   obtain ⟨p1, p2, p3, p4⟩ := HS.out
   rw [hcl] at p2
   exact ⟨_, rfl, ⟨vc, _, _, _, _, p1, Kd.R_mono p2.1 (fun _ _ => trivial), p3, p4, by omega⟩, HB.out⟩
def clsO : List Int → Option (List Int)
 | [] => some []
 | x :: r => (impl_RuneBidi.f x).bind fun c => (clsO r).bind fun cs => some (c :: cs)
theorem clsO_inv : ∀ {l cs : List Int}, clsO l = some cs → cs.length = l.length ∧ ∀ i, i < l.length → impl_RuneBidi.f (l.getD i 0) = some (cs.getD i 0)
 | [], cs, h => by
  obtain rfl := Option.some.inj h
  exact ⟨rfl, fun i hi => absurd hi (by simp)⟩
 | x :: r, cs, h => by
  rw [clsO] at h
  obtain ⟨c, hc, h⟩ := Option.bind_eq_some_iff.mp h
  obtain ⟨ds, hd, h⟩ := Option.bind_eq_some_iff.mp h
  obtain rfl := Option.some.inj h
  obtain ⟨h1, h2⟩ := clsO_inv hd
  refine ⟨by rw [List.length_cons, List.length_cons, h1], fun i hi => ?_⟩
  cases i with
  | zero => exact hc
  | succ i => exact h2 i (by rw [List.length_cons] at hi; omega)
def baseB (a : Int) : Bool := decide (a = 0) || decide (a = 1)
theorem isBase_f (a : Int) : impl_isBase.f a = some (baseB a) := by
 unfold impl_isBase.f baseB
 by_cases h : a = 0
 · simp [h]
 ·
  simp only [h, if_false, decide_false, Bool.false_or]
  rfl
def toldLC (cls : List Int) (base : Int) : List Int × List Int := (toldL cls (paraS cls cls.length).mt base cls.length, toldC cls (paraS cls cls.length).mt base cls.length)
def impl_LevelsTold.f (l0 : List Int) (a1 : Int) : Option (List Int × List Int) := if okV l0 = true ∧ baseB a1 = true then (clsO l0).bind fun cls => some (toldLC cls a1) else some ([], [])
theorem Two.rows {w : World} {base b0 : Nat} {v u : Value} {xs ys : List Int} (h : Two w base v xs u ys) (hb : b0 ≤ base) : Kd.R (Kd.int .i64) 3 w b0 (fun k_ => some k_ ≠ u.ownBlock) v xs ∧ Kd.R (Kd.int .i64) 3 w b0 (fun k_ => some k_ ≠ v.ownBlock) u ys :=
 ⟨Kd.R_mono (Kd.R_lower h.1 hb) (fun _ h => h.2), Kd.R_mono (Kd.R_lower h.2 hb) (fun _ h => h.2)⟩
theorem impl_LevelsTold.calls (A0 : Option Addr) (c0 : Nat) (l0 : List Int) (a1 : Int) (r1 r2 : List Int) (w : World) (hr0 : Kd.C (Kd.int .i64) w A0 l0.length l0) (hc0 : l0.length ≤ c0) (h : impl_LevelsTold.f l0 a1 = some (r1, r2)) :
  Calls Try.prog 18 #[.slice A0 l0.length c0, .int .i64 a1] w fun e w' => ∃ v0_ v1_ : Value, e = .returned (.tuple #[v0_, v1_]) ∧ Kd.R (Kd.int .i64) 3 w' w.heap.size (fun k_ => some k_ ≠ (v1_ : Value).ownBlock) v0_ r1 ∧ Kd.R (Kd.int .i64) 3 w' w.heap.size (fun k_ => some k_ ≠ (v0_ : Value).ownBlock) v1_ r2 ∧ Below w.heap.size w w' := by
 have HR := az hr0
 have HC := az hc0
 clear hr0 hc0
 unfold impl_LevelsTold.f at h
 by_cases hok : okV l0 = true
 case neg =>
  rw [if_neg (fun h => hok h.1)] at h
  obtain ⟨rfl, rfl⟩ := Prod.mk.inj (Option.some.inj h)
  have HOK := az (show impl_lettersOk.f l0 = some false by rw [impl_lettersOk.f]; simpa using hok)
  clear hok h
  go_enter Try.func18, Try.ntmps18
  go_wp2_with (go_at_call 47; refine (impl_lettersOk.calls _ _ l0 false _ HR.out HC.out HOK.out).mono ?_; rintro e w1 ⟨rfl, hb1⟩; have HB1 := az hb1; clear hb1)
  go_ret2
  exact ⟨_, _, rfl, Kd.R_nil _ _ _ _ _, Kd.R_nil _ _ _ _ _, HB1.out⟩
 case pos =>
 have HOK := az (show impl_lettersOk.f l0 = some true by rw [impl_lettersOk.f, hok])
 by_cases hbs : baseB a1 = true
 case neg =>
  rw [if_neg (fun h => hbs h.2)] at h
  obtain ⟨rfl, rfl⟩ := Prod.mk.inj (Option.some.inj h)
  have HSD := az (show impl_isBase.f a1 = some false by rw [isBase_f]; simpa using hbs)
  clear hok hbs h
  go_enter Try.func18, Try.ntmps18
  go_wp2_with (first
   | (go_at_call 47; refine (impl_lettersOk.calls _ _ l0 true _ HR.out HC.out HOK.out).mono ?_; rintro e w1 ⟨rfl, hb1⟩; have HB1 := az hb1; clear hb1)
   | (go_at_call 48; refine (impl_isBase.calls a1 false _ HSD.out).mono ?_; rintro e w2 ⟨rfl, ⟨nd, rfl⟩⟩))
  go_ret2
  exact ⟨_, _, rfl, Kd.R_nil _ _ _ _ _, Kd.R_nil _ _ _ _ _, pw_below_drewN HB1.out _⟩
 case pos =>
 have HSD := az (show impl_isBase.f a1 = some true by rw [isBase_f, hbs])
 rw [if_pos ⟨hok, hbs⟩] at h
 obtain ⟨cls, hcls, h⟩ := Option.bind_eq_some_iff.mp h
 obtain ⟨rfl, rfl⟩ := Prod.mk.inj (Option.some.inj h)
 obtain ⟨hcl, hcs⟩ := clsO_inv hcls
 have hn80 : l0.length ≤ 80 := by
  unfold okV at hok
  rw [Bool.and_eq_true] at hok
  exact of_decide_eq_true hok.1
 have hb01 : 0 ≤ a1 ∧ a1 ≤ 100 := by
  unfold baseB at hbs
  rw [Bool.or_eq_true, decide_eq_true_eq, decide_eq_true_eq] at hbs
  omega
 have HCL := az hcl
 have HCS := az hcs
 have HN := az hn80
 have HB01 := az hb01
 have HMT := az (fun k m hk => (inv_para cls cls.length).2.2 k m hk)
 clear hok hbs h hcls hcl hcs hn80 hb01
 go_enter Try.func18, Try.ntmps18
 go_wp2_with (first
  | (go_at_call 47; refine (impl_lettersOk.calls _ _ l0 true _ HR.out HC.out HOK.out).mono ?_; rintro e w1 ⟨rfl, hb1⟩; have HB1 := az hb1; clear hb1)
  | (go_at_call 48; refine (impl_isBase.calls a1 true _ HSD.out).mono ?_; rintro e w2 ⟨rfl, ⟨nd, rfl⟩⟩)
  | (go_at_call 49; refine (paragraphOf_calls _ A0 c0 l0 cls (Kd.C_below HR.out (pw_below_drewN HB1.out _)) HC.out (by have := HN.out; omega) HCL.out HCS.out).mono ?_; rintro e w3 ⟨pb, rfl, hp3, hb3⟩; have HP3 := az hp3; have HB3 := az (below_then (pw_below_drewN HB1.out nd) (pw_below_drewN HB1.out nd).size hb3); clear hp3 hb3)
  | (go_at_call 50; refine (told_calls _ _ pb A0 c0 cls _ _ a1 (by rw [HCL.out]; exact HP3.out) (by have := HN.out; have := HCL.out; omega) HB01.out.1 HB01.out.2 (by have := HMT.out; rw [HCL.out] at this; exact fun k m h => by rw [HCL.out]; exact this k m h)).mono ?_; rintro e w4 ⟨v, u, rfl, ht4, hb4⟩; have HT4 := az ht4; have HB4 := az (below_then HB3.out HB3.out.size hb4); clear ht4 hb4))
 go_ret2
 have hrw := HT4.out.rows HB3.out.size
 exact ⟨v, u, rfl, by rw [HCL.out] at hrw ⊢; exact hrw.1, by rw [HCL.out] at hrw ⊢; exact hrw.2, HB4.out⟩
def slices_Clone_int_int.f (l0 : List Int) : Option (List Int) := if l0.length < 1000000 then some l0 else none
theorem run_eql_slice_nilX {P : Program} (w : World) (t e : TypeId) (a : Option Addr) (l c : Nat) (h : P.underlying t = some (.slice e)) : (binOp .eql t (.slice a l c) (.slice none 0 0)).run P w = .ok (.bool a.isNone) w := by
 simp only [binOp]
 simp [run_equal_slice_nil w t e a l c h]
attribute [local go_sem] run_eql_slice_nilX
theorem slices_Clone_int_int.calls (A0 : Option Addr) (c0 : Nat) (l0 : List Int) (r : List Int) (w : World) (hr0 : Kd.C (Kd.int .i64) w A0 l0.length l0) (hc0 : l0.length ≤ c0) (h : slices_Clone_int_int.f l0 = some r) :
  Calls Try.prog 34 #[.slice A0 l0.length c0] w fun e w' => ∃ v0_ : Value, e = .returned (v0_) ∧ Kd.R (Kd.int .i64) 3 w' w.heap.size (fun _ => True) v0_ r ∧ Below w.heap.size w w' := by
 unfold slices_Clone_int_int.f at h
 by_cases hl : l0.length < 1000000
 ·
  rw [if_pos hl] at h
  obtain rfl := Option.some.inj h
  clear h
  have hu := Try.underlying22
  cases A0 with
  | none =>
   have e : l0 = [] := by
    by_cases hp : 0 < l0.length
    ·
     obtain ⟨ad, h1, _⟩ := hr0.2.2 hp
     cases h1
    · exact List.eq_nil_of_length_eq_zero (by omega)
   subst e
   clear hr0 hl hc0
   go_enter Try.func34, Try.ntmps34
   go_wp2
   go_ret
   exact ⟨_, rfl, Kd.R_nil _ _ _ _ _, Below.refl _ _⟩
  | some ad =>
   have HR0 := az hr0
   have HL := az hl
   clear hr0 hl hc0
   have HB := az (Below.refl w.heap.size w)
   go_enter Try.func34, Try.ntmps34
   go_wp2_with (first
    | ((with_reducible refine gate_dst (N := 5) rfl ?_); refine Kd.R_lit (Kd.int .i64) _ 3 ?hg (N := 5) ?hd (xs := ([] : List Int)) (inner := []) (ok := fun _ => True) (okp := fun _ => True) ?hr ?hp (fun _ hk => hk) trivial (Below.refl _ _) (Nat.le_refl _) (by simp) ?_; (case hd => rfl); (case hg => rfl); (case hr => first | (go_simp; done) | (go_simp; rfl)); (case hp => exact (Reps.none _ _)); intro v5 w5 ho5 hb5 hg_ hnew_; clear hg_ hnew_; have HO5 := az ho5; have HB5 := az hb5; clear ho5 hb5)
    | ((with_reducible refine gate_builtin (b := .append) (xs := #[.tmp 5, .tmp 6]) rfl ?_); at_builtin; refine Kd.R_append_rows (Kd.int .i64) (w0 := w) w.heap.size rfl (.tmp 5) (.tmp 6) 22 3 (.int .i64 0) 8 rfl Try.underlying22 info3 rfl (by decide) (by omega) v5 [] l0 _ _ _ (fun _ => True) (fun _ => False) rfl rfl ?aO ?aR (fun _ _ h => h) (fun _ h => h.elim) ?aF ?aB ?aS ?aL ?_; (case aO => exact HO5.out); (case aR => exact (Kd.C_below HR0.out HB5.out)); (case aF => exact (fun _ _ => trivial)); (case aB => exact HB5.out); (case aS => exact HB5.out.size); (case aL => (have := HL.out; simp only [List.length_nil]; omega)); intro v7 w7 ho7 hb7 hg7 hat7; have HO7 := az ho7; have HB7 := az hb7; clear ho7 hb7 hg7 hat7))
   go_ret
   exact ⟨_, rfl, by simpa using HO7.out, HB7.out⟩
 ·
  rw [if_neg hl] at h
  exact absurd h (by simp)
def impl_pieces.l0 : Nat → List (S62) → List Int → Int → Int → Option ((List (S62)))
 | 0, _, _, _, _ => none
 | k + 1, x3, x7, x8, x9 => if x9 < x8 then (if 0 ≤ x9 then (if x9 < (x7.length : Int) then (if (rd x7 x9) = (-1) then (impl_pieces.l0 k x3 x7 x8 (wrap64 (x9 + 1))) else (if (wrap64 ((x3.length : Int) - 1)) ≥ 0 then (if 0 ≤ (wrap64 ((x3.length : Int) - 1)) then (if (wrap64 ((x3.length : Int) - 1)) < (x3.length : Int) then (if ((rd_T62 x3 (wrap64 ((x3.length : Int) - 1))).f1) = (rd x7 x9) then (if ((rd_T62 x3 (wrap64 ((x3.length : Int) - 1))).f0).length < 17592186044416 then (impl_pieces.l0 k (x3.set ((wrap64 ((x3.length : Int) - 1)) : Int).toNat (⟨(((rd_T62 x3 (wrap64 ((x3.length : Int) - 1))).f0) ++ [x9]), (rd_T62 x3 (wrap64 ((x3.length : Int) - 1))).f1⟩ : S62)) x7 x8 (wrap64 (x9 + 1))) else (none)) else (if x3.length < 4398046511104 then (impl_pieces.l0 k (x3 ++ [(⟨(([x9] : List Int)), rd x7 x9⟩ : S62)]) x7 x8 (wrap64 (x9 + 1))) else (none))) else (none)) else (none)) else (if x3.length < 4398046511104 then (impl_pieces.l0 k (x3 ++ [(⟨(([x9] : List Int)), rd x7 x9⟩ : S62)]) x7 x8 (wrap64 (x9 + 1))) else (none)))) else (none)) else (none)) else (some x3)
def impl_pieces.f (k : Nat) (l0 : List Int) : Option ((List (S62))) := impl_pieces.l0 k ([] : List (S62)) l0 (l0.length : Int) 0
theorem impl_pieces.mono_l : ∀ k, (∀ y0 y1 y2 y3, LeO (impl_pieces.l0 k y0 y1 y2 y3) (impl_pieces.l0 (k + 1) y0 y1 y2 y3))
 | 0 => fun _ _ _ _ r h => by simp [impl_pieces.l0] at h
 | k + 1 => by
  have ih0 := impl_pieces.mono_l k
  ·
   intro y0 y1 y2 y3; unfold impl_pieces.l0
   repeat' first
   | (with_reducible exact ih0 _ _ _ _)
   | (with_reducible exact LeO.refl _)
   | (with_reducible exact LeO.none _)
   | (with_reducible refine LeO.ite ?_ ?_)
   | (with_reducible refine LeO.bind ?_ (fun _ => ?_))
   | exact ih0 _ _ _ _
   | exact LeO.none _
   | refine LeO.ite ?_ ?_
   | refine LeO.bind ?_ (fun _ => ?_)
theorem impl_pieces.mono : ∀ a0 k, LeO (impl_pieces.f k a0) (impl_pieces.f (k + 1) a0) := by
 intro a0 k; have ih0 := impl_pieces.mono_l k; unfold impl_pieces.f
 repeat' first
   | (with_reducible exact ih0 _ _ _ _)
   | (with_reducible exact LeO.refl _)
   | (with_reducible exact LeO.none _)
   | (with_reducible refine LeO.ite ?_ ?_)
   | (with_reducible refine LeO.bind ?_ (fun _ => ?_))
   | exact ih0 _ _ _ _
   | exact LeO.none _
   | refine LeO.ite ?_ ?_
   | refine LeO.bind ?_ (fun _ => ?_)
theorem impl_pieces.calls (k : Nat) (A0 : Option Addr) (c0 : Nat) (l0 : List Int) (r : List (S62)) (w : World) (hr0 : Kd.C (Kd.int .i64) w A0 l0.length l0) (hc0 : l0.length ≤ c0) (h : impl_pieces.f k l0 = some r) :
  Calls Try.prog 85 #[.slice A0 l0.length c0] w fun e w' => ∃ v0_ : Value, e = .returned (v0_) ∧ Kd.S k62 62 w' w.heap.size (fun _ => True) v0_ r ∧ Below w.heap.size w w' := by
 have hu62 := Try.underlying62; have HR0 := az hr0; have HC0 := az hc0; clear hr0 hc0; have HB := az (Below.refl w.heap.size w); have H : (impl_pieces.l0 k ([] : List (S62)) l0 (l0.length : Int) 0) = some r := h; clear h; have H' := az H; clear H; go_enter Try.func85, Try.ntmps85; go_wp2; go_loopg [3, 9] k (fun kq v3 v9 w' => ∃ (x3_1 : List (S62)) (x9_1 : Int), v9 = .int .i64 x9_1 ∧ Aside0 (impl_pieces.l0 kq x3_1 l0 (l0.length : Int) x9_1 = some r) ∧ Aside0 (kq ≤ k) ∧ Aside0 (Kd.S k62 62 w' w.heap.size (fun _ => True) v3 x3_1) ∧ Aside0 (Below w.heap.size w w'))
 case atStart => exact ⟨(([] : List (S62))), (0), (by first | rfl | (simp; done) | (simp [*]; done)), H', ⟨Nat.le_refl _⟩, ⟨by first | exact Kd.S_nil _ _ _ _ _ | exact Kd.N_nil _ _ _ _ _ | exact Kd.V_nil _ _ _ _ _ | exact Kd.Q_nil _ _ _ _ _ | exact Kd.R_nil _ _ _ _ _⟩, ⟨by repeat (first | (with_reducible first | exact HB.out | apply below_alloc | apply pw_below_drewN | apply below_drew1) | exact HB.out)⟩⟩
 case round =>
  clear H'; obtain ⟨x3_1, x9_1, rfl, HA, HK1, HO_3, HB⟩ := hrel
  cases gk with
  | zero => exact absurd HA.out (by simp [impl_pieces.l0])
  | succ k1 =>
   have H := HA.out; clear HA; simp only [impl_pieces.l0] at H; by_cases c2 : x9_1 < (l0.length : Int)
   ·
    rw [if_pos c2] at H; have c2b0 : decide (x9_1 < (l0.length : Int)) = true := decide_eq_true c2; clear c2; by_cases c3 : 0 ≤ x9_1
    ·
     rw [if_pos c3] at H; have c3b0 : decide (0 ≤ x9_1) = true := decide_eq_true c3; clear c3; by_cases c4 : x9_1 < (l0.length : Int)
     ·
      rw [if_pos c4] at H; have c4b0 : decide (x9_1 < (l0.length : Int)) = true := decide_eq_true c4; clear c4; by_cases c5 : (rd l0 x9_1) = (-1)
      ·
       rw [if_pos c5] at H; have c5b0 : ((rd l0 x9_1) == (-1)) = true := beq_iff_eq.mpr c5; have c5b1 : ((rd l0 x9_1) != (-1)) = false := bne_eq_false_iff_eq.mpr c5; clear c5; have H' := az H; clear H; have p559 : 0 ≤ (x9_1 : Int) := of_decide_eq_true (by assumption); have q559 : x9_1 < (l0.length : Int) := of_decide_eq_true (by assumption); obtain ⟨ad559, e559, hx559_0⟩ := Kd.at_int HR0.out x9_1 p559 q559
       cases e559
       replace hx559_0 := (HB.out.cell (World.block_lt_of_cell? w _ hx559_0)).trans hx559_0; replace p559 := eq_true p559; replace q559 := eq_true q559; go_wp2; go_roundg k1
       case measure => have := HK1.out; omega
       case rel => exact ⟨(x3_1), (wrap64 (x9_1 + 1)), (by first | rfl | (simp; done) | (simp [*]; done)), H', ⟨by have := HK1.out; omega⟩, ⟨by (with_reducible repeat (first | apply Kd.S_alloc | apply Kd.S_drewN | apply Kd.S_drew)); exact HO_3.out⟩, ⟨by repeat (first | (with_reducible first | exact HB.out | apply below_alloc | apply pw_below_drewN | apply below_drew1) | exact HB.out)⟩⟩
      ·
       rw [if_neg c5] at H; have c5b0 : ((rd l0 x9_1) == (-1)) = false := beq_eq_false_iff_ne.mpr c5; have c5b1 : ((rd l0 x9_1) != (-1)) = true := bne_iff_ne.mpr c5; by_cases c6 : (wrap64 ((x3_1.length : Int) - 1)) ≥ 0
       ·
        rw [if_pos c6] at H; have c6b0 : decide (0 ≤ (wrap64 ((x3_1.length : Int) - 1))) = true := decide_eq_true c6; clear c6; obtain ⟨ji7, hji7⟩ : ∃ j_ : Int, (wrap64 ((x3_1.length : Int) - 1)) = j_ := ⟨_, rfl⟩; replace H : (if 0 ≤ (ji7) then (if (ji7) < (x3_1.length : Int) then (if ((rd_T62 x3_1 (ji7)).f1) = (rd l0 x9_1) then (if ((rd_T62 x3_1 (ji7)).f0).length < 17592186044416 then (impl_pieces.l0 k1 (x3_1.set ((ji7) : Int).toNat (⟨(((rd_T62 x3_1 (ji7)).f0) ++ [x9_1]), (rd_T62 x3_1 (ji7)).f1⟩ : S62)) l0 (l0.length : Int) (wrap64 (x9_1 + 1))) else (none)) else (if x3_1.length < 4398046511104 then (impl_pieces.l0 k1 (x3_1 ++ [(⟨(([x9_1] : List Int)), rd l0 x9_1⟩ : S62)]) l0 (l0.length : Int) (wrap64 (x9_1 + 1))) else (none))) else (none)) else (none)) = some r := by first | (rw [hji7] at H; exact H) | (simp only [hji7] at H ⊢; exact H)
        (try rw [hji7] at c6b0); have hji7w : (IntKind.i64.wrap ((x3_1.length : Int) - 1)) = ji7 := (i64_w _).trans hji7; by_cases c8 : 0 ≤ (ji7)
        ·
         rw [if_pos c8] at H; have c8b0 : decide (0 ≤ (ji7)) = true := decide_eq_true c8; clear c8; by_cases c9 : (ji7) < (x3_1.length : Int)
         ·
          rw [if_pos c9] at H; have c9b0 : decide ((ji7) < (x3_1.length : Int)) = true := decide_eq_true c9; clear c9; by_cases c10 : ((rd_T62 x3_1 (ji7)).f1) = (rd l0 x9_1)
          ·
           rw [if_pos c10] at H; have c10b0 : (((rd_T62 x3_1 (ji7)).f1) == (rd l0 x9_1)) = true := beq_iff_eq.mpr c10; have c10b1 : (((rd_T62 x3_1 (ji7)).f1) != (rd l0 x9_1)) = false := bne_eq_false_iff_eq.mpr c10; clear c10; by_cases c11 : ((rd_T62 x3_1 (ji7)).f0).length < 17592186044416
           ·
            rw [if_pos c11] at H; have LMc11 := az c11; clear c11; obtain ⟨y562, hy562⟩ : ∃ y_ : List Int, y_ = (((rd_T62 x3_1 (ji7)).f0) ++ [x9_1]) := ⟨_, rfl⟩; replace H : (impl_pieces.l0 k1 (x3_1.set ((ji7) : Int).toNat (⟨y562, (rd_T62 x3_1 (ji7)).f1⟩ : S62)) l0 (l0.length : Int) (wrap64 (x9_1 + 1))) = some r := by first | (rw [hy562]; with_reducible exact H) | (have H2_ := (Option.bind_some _ _).symm.trans H; rw [hy562]; with_reducible exact H2_) | (have H2_ := (Option.bind_some _ _).symm.trans H; with_reducible exact H2_) | with_reducible exact H | (rw [hy562]; exact H) | exact H
            have Ny562 := az hy562; clear hy562; obtain ⟨y565, hy565⟩ : ∃ y_ : List (S62), y_ = (x3_1.set ((ji7) : Int).toNat (⟨y562, (rd_T62 x3_1 (ji7)).f1⟩ : S62)) := ⟨_, rfl⟩; replace H : (impl_pieces.l0 k1 y565 l0 (l0.length : Int) (wrap64 (x9_1 + 1))) = some r := by first | (rw [hy565]; with_reducible exact H) | (have H2_ := (Option.bind_some _ _).symm.trans H; rw [hy565]; with_reducible exact H2_) | (have H2_ := (Option.bind_some _ _).symm.trans H; with_reducible exact H2_) | with_reducible exact H | (rw [hy565]; exact H) | exact H
            have Ny565 := az hy565; clear hy565; have H' := az H; clear H; have p559 : 0 ≤ (x9_1 : Int) := of_decide_eq_true (by assumption); have q559 : x9_1 < (l0.length : Int) := of_decide_eq_true (by assumption); obtain ⟨ad559, e559, hx559_0⟩ := Kd.at_int HR0.out x9_1 p559 q559
            cases e559
            replace hx559_0 := (HB.out.cell (World.block_lt_of_cell? w _ hx559_0)).trans hx559_0; replace p559 := eq_true p559; replace q559 := eq_true q559; obtain ⟨Ao13, co13, eo13⟩ := Kd.S_slice HO_3.out; subst eo13; have p560 : 0 ≤ ((ji7) : Int) := of_decide_eq_true (by assumption); have q560 : (ji7) < (x3_1.length : Int) := of_decide_eq_true (by assumption); obtain ⟨ad560, A560_0, c560_0, e560, hx560_0, hx560_1, hl560_0, hi560_0⟩ := at_T62 (Kd.S_reads' HO_3.out).2.2 (ji7) p560 q560
            cases e560
            obtain ⟨ce560, hce560, hMe560, hcc560⟩ := Kd.S_get HO_3.out z62 (ji7) p560 (by first | exact q560 | exact of_decide_eq_true (by assumption) | (have e_ := (Kd.S_reads' HO_3.out).1; omega)); obtain ⟨ve560_0, rfl, ge560_0⟩ := k62_openM hMe560; have hv560_0 := hcc560 0 _ rfl; rw [Nat.add_zero] at hv560_0; replace hv560_0 := Option.some.inj (hv560_0.symm.trans hx560_0); rw [hv560_0] at ge560_0; have HL560_0 := az (show Kd.R (Kd.int .i64) 3 _ _ _ _ ((rd_T62 x3_1 (ji7)).f0) from ge560_0); clear hv560_0 ge560_0; have HX560_0 := az hx560_0; clear hcc560 hce560; have HR560_0 := az hi560_0; have HC560_0 := az hl560_0; clear hi560_0 hl560_0; replace p560 := eq_true p560; replace q560 := eq_true q560; have p561 : 0 ≤ ((ji7) : Int) := of_decide_eq_true (by assumption); have q561 : (ji7) < (x3_1.length : Int) := of_decide_eq_true (by assumption); obtain ⟨ad561, A561_0, c561_0, e561, hx561_0, hx561_1, hl561_0, hi561_0⟩ := at_T62 (Kd.S_reads' HO_3.out).2.2 (ji7) p561 q561; obtain rfl : ad560 = ad561 := (by injection e561); obtain ⟨ce561, hce561, hMe561, hcc561⟩ := Kd.S_get HO_3.out z62 (ji7) p561 (by first | exact q561 | exact of_decide_eq_true (by assumption) | (have e_ := (Kd.S_reads' HO_3.out).1; omega)); obtain ⟨ve561_0, rfl, ge561_0⟩ := k62_openM hMe561; have hv561_0 := hcc561 0 _ rfl; rw [Nat.add_zero] at hv561_0; replace hv561_0 := Option.some.inj (hv561_0.symm.trans hx561_0); rw [hv561_0] at ge561_0; have HL561_0 := az (show Kd.R (Kd.int .i64) 3 _ _ _ _ ((rd_T62 x3_1 (ji7)).f0) from ge561_0); clear hv561_0 ge561_0; have HX561_0 := az hx561_0; clear hcc561 hce561; have HR561_0 := az hi561_0; have HC561_0 := az hl561_0; clear hi561_0 hl561_0; replace p561 := eq_true p561; replace q561 := eq_true q561; have ea_ := Option.some.inj (hx560_0.symm.trans hx561_0); injection ea_ with ea_ en_ ec_
            subst ea_; subst ec_; clear en_; obtain ⟨go14, co14, eo14, gb14, gl14, cl14, HG14⟩ := Kd.S_form HO_3.out (by have h_ : ((ji7) : Int) < ((x3_1.length : Int) : Int) := of_decide_eq_true (by assumption); have h2_ : 0 ≤ ((ji7) : Int) := (of_decide_eq_true (by assumption)); omega); (first | cases eo14 | (injection eo14 with ea_ en_ ec_; (first | subst ea_ | (injection ea_ with ea_; subst ea_)); subst ec_; clear en_)); have GB14 := az gb14; have GG14 := az HG14; clear gb14 gl14 HG14; (first | simp only [add_plain] at hx560_0 | skip); (first | simp only [add_plain] at hx560_1 | skip); (first | simp only [add_plain] at hx561_0 | skip); (first | simp only [add_plain] at hx561_1 | skip); obtain ⟨oki14, ce14, hcl14, hM14, hcc14, _, _, hH14⟩ := Kd.S_elem HO_3.out z62 ((ji7) : Int) (of_decide_eq_true (by assumption)) (by have h_ : ((ji7) : Int) < ((x3_1.length : Int) : Int) := of_decide_eq_true (by assumption); first | exact h_ | (have e_ := (Kd.S_reads' HO_3.out).1; omega) | simpa using h_); obtain ⟨ve14_0, rfl, ge14_0⟩ := k62_openM hM14; have hv14 := hcc14 0 _ rfl; have hX14 := HX561_0.out; (try simp only [add_plain] at hX14); (try simp only [Nat.add_zero] at hv14); replace hv14 := Option.some.inj (hv14.symm.trans hX14); subst hv14; clear hX14 hcc14 hcl14; have UU14 := az (show Kd.R (Kd.int .i64) 3 _ w.heap.size oki14 (.slice A560_0 ((rd_T62 x3_1 (ji7)).f0).length c560_0) ((rd_T62 x3_1 (ji7)).f0) from ge14_0); have HH14 := az hH14; have HN14 := az (Kd.S_reads' HO_3.out).1; clear hH14 ge14_0; go_wp2_with (first | ((with_reducible refine gate_builtin (b := .append) (xs := #[.tmp 36, .tmp 38]) rfl ?_); at_builtin; refine Kd.R_append (Kd.int .i64) (w0 := w) w.heap.size rfl (.tmp 36) (.tmp 38) 22 3 (.int .i64 0) 8 rfl Try.underlying22 info3 rfl (by decide) (by omega) (.slice A560_0 ((rd_T62 x3_1 (ji7)).f0).length c560_0) ((rd_T62 x3_1 (ji7)).f0) x9_1 [.int .i64 x9_1] (fun k_ => oki14 k_ ∨ ((fun _ => True)) k_ ∧ wr.heap.size ≤ k_) (fun _ => False) rfl rfl ?aP (fun _ hk => hk.elim) ?aF ?aO ?aB ?aS ?aL ?_; (case aP => exact rfl); (case aB => exact (by repeat (first | (with_reducible first | exact HB.out | apply below_alloc | apply pw_below_drewN | apply below_drew1) | exact HB.out))); (case aF => exact (fun k_ hk => .inr ⟨trivial, hk⟩)); (case aO => exact (by (with_reducible repeat (first | apply Kd.R_alloc | apply Kd.R_drewN | apply Kd.R_drew)); exact Kd.R_mono UU14.out (fun _ hk => .inl hk))); (case aS => exact (below_size (by repeat (first | (with_reducible first | exact HB.out | apply below_alloc | apply pw_below_drewN | apply below_drew1) | exact HB.out)))); (case aL => have := LMc11.out; omega); intro v563 w15 ho hb hg hat; rw [← Ny562.out] at ho; have n0_ := az (hb); have n1_ := az (Kd.H_grown (Kd.H_widen (by repeat (first | exact HH14.out | refine Kd.H_alloc ?_ _ | refine Kd.H_drewN ?_ _ | refine Kd.H_drew ?_))) hg (fun k_ e_ => .inl (UU14.out.1 k_ e_))); have n2_ := az (ho); clear HB; clear HH14; clear HO_3; clear UU14; clear HL560_0; clear HL561_0; have HB := n0_; have HH14 := n1_; have HO564 := n2_; clear n0_ n1_ n2_; clear ho hb hg hat; have p12 : 0 ≤ ((ji7) : Int) := of_decide_eq_true (by assumption); have q12 : ((ji7) : Int) < ((x3_1.length : Int) : Int) := of_decide_eq_true (by assumption); replace p12 := eq_true p12; replace q12 := eq_true q12; obtain ⟨Ao18, co18, eo18⟩ := Kd.R_slice HO564.out; subst eo18; obtain ⟨_, _, hraw16, _, _, hcc16, _⟩ := Kd.H_raw HH14.out (of_decide_eq_true (by assumption)) (by have h_ : ((ji7) : Int) < ((x3_1.length : Int) : Int) := of_decide_eq_true (by assumption); first | exact h_ | (have e_ := (HN14.out); omega) | simpa using h_); obtain ⟨_, hfr16⟩ := Kd.H_at HH14.out (of_decide_eq_true (by assumption)) (by have h_ : ((ji7) : Int) < ((x3_1.length : Int) : Int) := of_decide_eq_true (by assumption); first | exact h_ | (have e_ := (HN14.out); omega) | simpa using h_); have hx16_0 := hcc16 0 _ rfl; have hf16_0 := hfr16 0; (try simp only [Nat.add_zero] at hx16_0 hf16_0); (try rw [show (k62).sz = 2 from rfl] at hx16_0); (try rw [show (k62).sz = 2 from rfl] at hf16_0); have HP16 := Kd.S_seg0 HH14.out (of_decide_eq_true (by assumption)) (by have h_ : ((ji7) : Int) < ((x3_1.length : Int) : Int) := of_decide_eq_true (by assumption); first | exact h_ | (have e_ := (HN14.out); omega) | simpa using h_) (seg := [.slice Ao18 y562.length co18]) (j := 0) (show 1 ≤ 2 from by decide) (x' := (⟨y562, (rd_T62 x3_1 (ji7)).f1⟩ : S62)) (k62_mkM _ _ _ (⟨y562, (rd_T62 x3_1 (ji7)).f1⟩ : S62) HO564.out) (fun _ hk => hk); clear hcc16 hfr16) | ((with_reducible refine gate_store (t := 22) (p := 41) rfl ?_); refine store_event (t := 22) (p := 41) (v := ?vo_w17) (w1 := (w15.setCell ⟨go14, ((ji7) : Int).toNat * 2, none⟩ (.slice Ao18 y562.length co18))) ?hg ?ho ?hn ?hr ?_; (case ho => rfl); (case hg => rfl); (case hn => rfl); (case hr => first | (go_simp; done) | (go_simp; rfl)); intro w17 hw; have hg : w15.grownBy w17 (some go14) := (by rw [hw]; exact HP16.2); have hp_ : Kd.S k62 62 w17 w.heap.size (fun _ => True) (.slice (some ⟨go14, 0, none⟩) x3_1.length co13) y565 := (by rw [hw, Ny565.out]; exact HP16.1); clear HP16; have n0_ := az ((by rw [hw]; exact below_set HB.out GB14.out : Below w.heap.size w w17)); have n1_ := az (hp_); clear HB; clear HO564; clear HH14; have HB := n0_; have HO_3 := n1_; clear n0_ n1_; clear hg hw hp_ hraw16))
            go_roundg k1
            case measure => have := HK1.out; omega
            case rel => exact ⟨(y565), (wrap64 (x9_1 + 1)), (by first | rfl | (simp; done) | (simp [*]; done)), H', ⟨by have := HK1.out; omega⟩, ⟨by (with_reducible repeat (first | apply Kd.S_alloc | apply Kd.S_drewN | apply Kd.S_drew)); exact HO_3.out⟩, ⟨by repeat (first | (with_reducible first | exact HB.out | apply below_alloc | apply pw_below_drewN | apply below_drew1) | exact HB.out)⟩⟩
           ·
            rw [if_neg c11] at H; exact absurd H (by simp)
          ·
           rw [if_neg c10] at H; have c10b0 : (((rd_T62 x3_1 (ji7)).f1) == (rd l0 x9_1)) = false := beq_eq_false_iff_ne.mpr c10; have c10b1 : (((rd_T62 x3_1 (ji7)).f1) != (rd l0 x9_1)) = true := bne_iff_ne.mpr c10; obtain ⟨y566, hy566⟩ : ∃ y_ : List Int, y_ = (([x9_1] : List Int)) := ⟨_, rfl⟩; replace H : (if x3_1.length < 4398046511104 then (impl_pieces.l0 k1 (x3_1 ++ [(⟨y566, rd l0 x9_1⟩ : S62)]) l0 (l0.length : Int) (wrap64 (x9_1 + 1))) else (none)) = some r := by first | (rw [hy566]; with_reducible exact H) | (have H2_ := (Option.bind_some _ _).symm.trans H; rw [hy566]; with_reducible exact H2_) | (have H2_ := (Option.bind_some _ _).symm.trans H; with_reducible exact H2_) | with_reducible exact H | (rw [hy566]; exact H) | exact H
           have Ny566 := az hy566; clear hy566; by_cases c19 : x3_1.length < 4398046511104
           ·
            rw [if_pos c19] at H; have LMc19 := az c19; clear c19; obtain ⟨y569, hy569⟩ : ∃ y_ : List (S62), y_ = (x3_1 ++ [(⟨y566, rd l0 x9_1⟩ : S62)]) := ⟨_, rfl⟩; replace H : (impl_pieces.l0 k1 y569 l0 (l0.length : Int) (wrap64 (x9_1 + 1))) = some r := by first | (rw [hy569]; with_reducible exact H) | (have H2_ := (Option.bind_some _ _).symm.trans H; rw [hy569]; with_reducible exact H2_) | (have H2_ := (Option.bind_some _ _).symm.trans H; with_reducible exact H2_) | with_reducible exact H | (rw [hy569]; exact H) | exact H
            have Ny569 := az hy569; clear hy569; have H' := az H; clear H; have p559 : 0 ≤ (x9_1 : Int) := of_decide_eq_true (by assumption); have q559 : x9_1 < (l0.length : Int) := of_decide_eq_true (by assumption); obtain ⟨ad559, e559, hx559_0⟩ := Kd.at_int HR0.out x9_1 p559 q559
            cases e559
            replace hx559_0 := (HB.out.cell (World.block_lt_of_cell? w _ hx559_0)).trans hx559_0; replace p559 := eq_true p559; replace q559 := eq_true q559; obtain ⟨Ao20, co20, eo20⟩ := Kd.S_slice HO_3.out; subst eo20; have p560 : 0 ≤ ((ji7) : Int) := of_decide_eq_true (by assumption); have q560 : (ji7) < (x3_1.length : Int) := of_decide_eq_true (by assumption); obtain ⟨ad560, A560_0, c560_0, e560, hx560_0, hx560_1, hl560_0, hi560_0⟩ := at_T62 (Kd.S_reads' HO_3.out).2.2 (ji7) p560 q560
            cases e560
            obtain ⟨ce560, hce560, hMe560, hcc560⟩ := Kd.S_get HO_3.out z62 (ji7) p560 (by first | exact q560 | exact of_decide_eq_true (by assumption) | (have e_ := (Kd.S_reads' HO_3.out).1; omega)); obtain ⟨ve560_0, rfl, ge560_0⟩ := k62_openM hMe560; have hv560_0 := hcc560 0 _ rfl; rw [Nat.add_zero] at hv560_0; replace hv560_0 := Option.some.inj (hv560_0.symm.trans hx560_0); rw [hv560_0] at ge560_0; have HL560_0 := az (show Kd.R (Kd.int .i64) 3 _ _ _ _ ((rd_T62 x3_1 (ji7)).f0) from ge560_0); clear hv560_0 ge560_0; have HX560_0 := az hx560_0; clear hcc560 hce560; have HR560_0 := az hi560_0; have HC560_0 := az hl560_0; clear hi560_0 hl560_0; replace p560 := eq_true p560; replace q560 := eq_true q560; go_wp2_with (first | ((with_reducible refine gate_dst (N := 44) rfl ?_); refine Kd.R_lit (Kd.int .i64) _ 3 ?hg (N := 44) ?hd (xs := ([x9_1] : List Int)) (inner := [.int .i64 x9_1]) (ok := fun _ => True) (okp := fun _ => True) ?hr ?hp (fun _ hk => hk) trivial (Below.refl _ _) (Nat.le_refl _) (by simp) ?_; (case hd => rfl); (case hg => rfl); (case hr => first | (go_simp; done) | (go_simp; rfl)); (case hp => exact (Reps.one (show Kd.M (Kd.int .i64) _ _ _ x9_1 [.int .i64 x9_1] from rfl) (Reps.none _ _))); intro v567 w21 ho22 hb hg_ hnew_; clear hg_ hnew_; (first | rw [← Ny566.out] at ho22 | (simp only [Int.reduceToNat] at ho22; rw [← Ny566.out] at ho22)); have n0_ := az (Kd.S_elder' (by (with_reducible repeat (first | apply Kd.S_alloc | apply Kd.S_drewN | apply Kd.S_drew)); exact HO_3.out) (Kd.R_base ho22) hb); have n1_ := az (Kd.R_elder' (by (with_reducible repeat (first | apply Kd.R_alloc | apply Kd.R_drewN | apply Kd.R_drew)); exact HL560_0.out) (Kd.R_base ho22) hb); have n2_ := az (Kd.R_lower (Kd.R_new' ho22 (Kd.R_lt (by (with_reducible repeat (first | apply Kd.R_alloc | apply Kd.R_drewN | apply Kd.R_drew)); exact HL560_0.out))) (below_size (by repeat (first | (with_reducible first | exact HB.out | apply below_alloc | apply pw_below_drewN | apply below_drew1) | exact HB.out)))); have n3_ := az (Kd.C_below (by repeat (first | (with_reducible exact HR560_0.out) | (with_reducible refine Kd.C_alloc ?_ _) | (with_reducible refine Kd.C_drewN ?_ _) | (with_reducible refine Kd.C_drew ?_) | exact HR560_0.out)) hb); have n4_ := az (pw_cell_below hb HX560_0.out); have n5_ := az (below_step (by repeat (first | (with_reducible first | exact HB.out | apply below_alloc | apply pw_below_drewN | apply below_drew1) | exact HB.out)) hb); clear HO_3; clear HL560_0; clear HR560_0; clear HX560_0; clear HB; have HO_3 := n0_; have HL560_0 := n1_; have HO568 := n2_; have HR560_0 := n3_; have HX560_0 := n4_; have HB := n5_; clear n0_ n1_ n2_ n3_ n4_ n5_; clear hb ho22; obtain ⟨Ao23, co23, eo23⟩ := Kd.R_slice HO568.out; subst eo23) | ((with_reducible refine gate_builtin (b := .append) (xs := #[.tmp 42, .tmp 47]) rfl ?_); at_builtin; refine Kd.S_append k62 (w0 := w) w.heap.size rfl (.tmp 42) (.tmp 47) 59 62 (.agg #[(.slice none 0 0), (.int .i64 0)]) 32 rfl Try.underlying59 info62 rfl (by decide) (by omega) (.slice (some ad560) x3_1.length co20) x3_1 (⟨y566, rd l0 x9_1⟩ : S62) [.slice Ao23 y566.length co23, .int .i64 (rd l0 x9_1)] (fun _ => True) (fun k_ => some k_ = (.slice Ao23 y566.length co23 : Value).ownBlock) rfl rfl ?aP (fun k_ hk_ => ((Kd.R_mono (ok' := fun k_ => ((fun _ => True)) k_ ∧ some k_ ≠ (.slice (some ad560) x3_1.length co20 : Value).ownBlock) (Kd.R_apart' (HO568.out) (Kd.S_typed HO_3.out) (by decide)) (fun k_ hk => ⟨trivial, hk.2⟩))).1 k_ hk_.symm) ?aF ?aO ?aB ?aS ?aL ?_; (case aP => exact k62_mkM _ _ _ (⟨y566, rd l0 x9_1⟩ : S62) (Kd.R_mono (Kd.R_tight rfl (Kd.R_mono (ok' := fun k_ => ((fun _ => True)) k_ ∧ some k_ ≠ (.slice (some ad560) x3_1.length co20 : Value).ownBlock) (Kd.R_apart' (HO568.out) (Kd.S_typed HO_3.out) (by decide)) (fun k_ hk => ⟨trivial, hk.2⟩))) (fun _ h_ => h_))); (case aB => exact (by repeat (first | (with_reducible first | exact HB.out | apply below_alloc | apply pw_below_drewN | apply below_drew1) | exact HB.out))); (case aF => exact (fun _ _ => trivial)); (case aO => exact (by (with_reducible repeat (first | apply Kd.S_alloc | apply Kd.S_drewN | apply Kd.S_drew)); exact Kd.S_mono HO_3.out (fun k_ hk => ⟨trivial, fun e_ => hk.2 e_⟩))); (case aS => exact (below_size (by repeat (first | (with_reducible first | exact HB.out | apply below_alloc | apply pw_below_drewN | apply below_drew1) | exact HB.out)))); (case aL => have := LMc19.out; omega); intro v570 w24 ho hb hg hat; rw [← Ny569.out] at ho; have n0_ := az (Kd.R_after (ok := (fun k_ => some k_ ≠ (.slice Ao23 y566.length co23 : Value).ownBlock)) (by (with_reducible repeat (first | apply Kd.R_alloc | apply Kd.R_drewN | apply Kd.R_drew)); exact Kd.R_mono HL560_0.out (fun _ hk => ⟨hk.2, hk.1.2⟩)) hg hat); have n1_ := az (hb); have n2_ := az (ho); clear HL560_0; clear HB; clear HO_3; clear HO568; have HL560_0 := n0_; have HB := n1_; have HO571 := n2_; clear n0_ n1_ n2_; clear ho hb hg hat))
            go_roundg k1
            case measure => have := HK1.out; omega
            case rel => exact ⟨(y569), (wrap64 (x9_1 + 1)), (by first | rfl | (simp; done) | (simp [*]; done)), H', ⟨by have := HK1.out; omega⟩, ⟨by (with_reducible repeat (first | apply Kd.S_alloc | apply Kd.S_drewN | apply Kd.S_drew)); exact HO571.out⟩, ⟨by repeat (first | (with_reducible first | exact HB.out | apply below_alloc | apply pw_below_drewN | apply below_drew1) | exact HB.out)⟩⟩
           ·
            rw [if_neg c19] at H; exact absurd H (by simp)
         ·
          rw [if_neg c9] at H; exact absurd H (by simp)
        ·
         rw [if_neg c8] at H; exact absurd H (by simp)
       ·
        rw [if_neg c6] at H; have c6b0 : decide (0 ≤ (wrap64 ((x3_1.length : Int) - 1))) = false := decide_eq_false c6; clear c6; obtain ⟨y572, hy572⟩ : ∃ y_ : List Int, y_ = (([x9_1] : List Int)) := ⟨_, rfl⟩; replace H : (if x3_1.length < 4398046511104 then (impl_pieces.l0 k1 (x3_1 ++ [(⟨y572, rd l0 x9_1⟩ : S62)]) l0 (l0.length : Int) (wrap64 (x9_1 + 1))) else (none)) = some r := by first | (rw [hy572]; with_reducible exact H) | (have H2_ := (Option.bind_some _ _).symm.trans H; rw [hy572]; with_reducible exact H2_) | (have H2_ := (Option.bind_some _ _).symm.trans H; with_reducible exact H2_) | with_reducible exact H | (rw [hy572]; exact H) | exact H
        have Ny572 := az hy572; clear hy572; by_cases c25 : x3_1.length < 4398046511104
        ·
         rw [if_pos c25] at H; have LMc25 := az c25; clear c25; obtain ⟨y575, hy575⟩ : ∃ y_ : List (S62), y_ = (x3_1 ++ [(⟨y572, rd l0 x9_1⟩ : S62)]) := ⟨_, rfl⟩; replace H : (impl_pieces.l0 k1 y575 l0 (l0.length : Int) (wrap64 (x9_1 + 1))) = some r := by first | (rw [hy575]; with_reducible exact H) | (have H2_ := (Option.bind_some _ _).symm.trans H; rw [hy575]; with_reducible exact H2_) | (have H2_ := (Option.bind_some _ _).symm.trans H; with_reducible exact H2_) | with_reducible exact H | (rw [hy575]; exact H) | exact H
         have Ny575 := az hy575; clear hy575; have H' := az H; clear H; have p559 : 0 ≤ (x9_1 : Int) := of_decide_eq_true (by assumption); have q559 : x9_1 < (l0.length : Int) := of_decide_eq_true (by assumption); obtain ⟨ad559, e559, hx559_0⟩ := Kd.at_int HR0.out x9_1 p559 q559
         cases e559
         replace hx559_0 := (HB.out.cell (World.block_lt_of_cell? w _ hx559_0)).trans hx559_0; replace p559 := eq_true p559; replace q559 := eq_true q559; obtain ⟨Ao26, co26, eo26⟩ := Kd.S_slice HO_3.out; subst eo26; go_wp2_with (first | ((with_reducible refine gate_dst (N := 44) rfl ?_); refine Kd.R_lit (Kd.int .i64) _ 3 ?hg (N := 44) ?hd (xs := ([x9_1] : List Int)) (inner := [.int .i64 x9_1]) (ok := fun _ => True) (okp := fun _ => True) ?hr ?hp (fun _ hk => hk) trivial (Below.refl _ _) (Nat.le_refl _) (by simp) ?_; (case hd => rfl); (case hg => rfl); (case hr => first | (go_simp; done) | (go_simp; rfl)); (case hp => exact (Reps.one (show Kd.M (Kd.int .i64) _ _ _ x9_1 [.int .i64 x9_1] from rfl) (Reps.none _ _))); intro v573 w27 ho28 hb hg_ hnew_; clear hg_ hnew_; (first | rw [← Ny572.out] at ho28 | (simp only [Int.reduceToNat] at ho28; rw [← Ny572.out] at ho28)); have n0_ := az (Kd.S_elder' (by (with_reducible repeat (first | apply Kd.S_alloc | apply Kd.S_drewN | apply Kd.S_drew)); exact HO_3.out) (Kd.R_base ho28) hb); have n1_ := az (Kd.R_lower ho28 (below_size (by repeat (first | (with_reducible first | exact HB.out | apply below_alloc | apply pw_below_drewN | apply below_drew1) | exact HB.out)))); have n2_ := az (below_step (by repeat (first | (with_reducible first | exact HB.out | apply below_alloc | apply pw_below_drewN | apply below_drew1) | exact HB.out)) hb); clear HO_3; clear HB; have HO_3 := n0_; have HO574 := n1_; have HB := n2_; clear n0_ n1_ n2_; clear hb ho28; obtain ⟨Ao29, co29, eo29⟩ := Kd.R_slice HO574.out; subst eo29) | ((with_reducible refine gate_builtin (b := .append) (xs := #[.tmp 42, .tmp 47]) rfl ?_); at_builtin; refine Kd.S_append k62 (w0 := w) w.heap.size rfl (.tmp 42) (.tmp 47) 59 62 (.agg #[(.slice none 0 0), (.int .i64 0)]) 32 rfl Try.underlying59 info62 rfl (by decide) (by omega) (.slice Ao26 x3_1.length co26) x3_1 (⟨y572, rd l0 x9_1⟩ : S62) [.slice Ao29 y572.length co29, .int .i64 (rd l0 x9_1)] (fun _ => True) (fun k_ => some k_ = (.slice Ao29 y572.length co29 : Value).ownBlock) rfl rfl ?aP (fun k_ hk_ => ((Kd.R_mono (ok' := fun k_ => ((fun _ => True)) k_ ∧ some k_ ≠ (.slice Ao26 x3_1.length co26 : Value).ownBlock) (Kd.R_apart' (HO574.out) (Kd.S_typed HO_3.out) (by decide)) (fun k_ hk => ⟨trivial, hk.2⟩))).1 k_ hk_.symm) ?aF ?aO ?aB ?aS ?aL ?_; (case aP => exact k62_mkM _ _ _ (⟨y572, rd l0 x9_1⟩ : S62) (Kd.R_mono (Kd.R_tight rfl (Kd.R_mono (ok' := fun k_ => ((fun _ => True)) k_ ∧ some k_ ≠ (.slice Ao26 x3_1.length co26 : Value).ownBlock) (Kd.R_apart' (HO574.out) (Kd.S_typed HO_3.out) (by decide)) (fun k_ hk => ⟨trivial, hk.2⟩))) (fun _ h_ => h_))); (case aB => exact (by repeat (first | (with_reducible first | exact HB.out | apply below_alloc | apply pw_below_drewN | apply below_drew1) | exact HB.out))); (case aF => exact (fun _ _ => trivial)); (case aO => exact (by (with_reducible repeat (first | apply Kd.S_alloc | apply Kd.S_drewN | apply Kd.S_drew)); exact Kd.S_mono HO_3.out (fun k_ hk => ⟨trivial, fun e_ => hk.2 e_⟩))); (case aS => exact (below_size (by repeat (first | (with_reducible first | exact HB.out | apply below_alloc | apply pw_below_drewN | apply below_drew1) | exact HB.out)))); (case aL => have := LMc25.out; omega); intro v576 w30 ho hb hg hat; rw [← Ny575.out] at ho; have n0_ := az (hb); have n1_ := az (ho); clear HB; clear HO_3; clear HO574; have HB := n0_; have HO577 := n1_; clear n0_ n1_; clear ho hb hg hat)); go_roundg k1
         case measure => have := HK1.out; omega
         case rel => exact ⟨(y575), (wrap64 (x9_1 + 1)), (by first | rfl | (simp; done) | (simp [*]; done)), H', ⟨by have := HK1.out; omega⟩, ⟨by (with_reducible repeat (first | apply Kd.S_alloc | apply Kd.S_drewN | apply Kd.S_drew)); exact HO577.out⟩, ⟨by repeat (first | (with_reducible first | exact HB.out | apply below_alloc | apply pw_below_drewN | apply below_drew1) | exact HB.out)⟩⟩
        ·
         rw [if_neg c25] at H; exact absurd H (by simp)
     ·
      rw [if_neg c4] at H; exact absurd H (by simp)
    ·
     rw [if_neg c3] at H; exact absurd H (by simp)
   ·
    rw [if_neg c2] at H; have c2b0 : decide (x9_1 < (l0.length : Int)) = false := decide_eq_false c2; clear c2; obtain rfl := Option.some.inj H; go_wp2; go_ret; exact ⟨_, by first | rfl | (simp [errW_none, errW_some] <;> rfl) | (simp [*, errW_none, errW_some] <;> rfl), by (with_reducible repeat (first | apply Kd.S_alloc | apply Kd.S_drewN | apply Kd.S_drew)); exact HO_3.out, by repeat (first | (with_reducible first | exact HB.out | apply below_alloc | apply pw_below_drewN | apply below_drew1) | exact HB.out)⟩
theorem runs_mk (W : World) : (Instr.makeMap 76 none).run Try.prog W = .ok (.map (some W.heap.size)) (W.alloc (.map #[] 0)) := rfl
attribute [local go_sem] runs_mk
theorem R_geX {w : World} {base b0 : Nat} {v : Value} {l : List Int} (h : Kd.R (Kd.int .i64) 3 w b0 (fun _ => True) v l) (hb : base ≤ b0) : Kd.R (Kd.int .i64) 3 w base (fun k => b0 ≤ k) v l := Kd.R_lower (Kd.R_mono (Kd.R_bound h) (fun _ hk => hk.2.1)) hb
theorem runs_calls (w : World) (bp pb : Nat) (Ar : Option Addr) (cr n : Nat) (cls : List Int) (mt cd : Int → Option Int) (A0 : Option Addr) (c0 : Nat) (lv : List Int) (kp : Nat) (ps : List S62) (N : Nat) (hp : IsPara w bp pb Ar cr n cls mt cd) (hr0 : Kd.C (Kd.int .i64) w A0 lv.length lv) (hc0 : lv.length ≤ c0) (hps : impl_pieces.f kp lv = some ps) (hok : PiecesOk N ps) (hN : N ≤ 400) (hpl : ps.length ≤ 400) (hmt : ∀ k m, mt k = some m → k < m ∧ m < N) :
  Calls Try.prog 56 #[.pointer (some ⟨pb, 0, none⟩), .slice A0 lv.length c0] w fun e w' => ∃ v : Value, e = .returned v ∧ Kd.S k62 62 w' w.heap.size (fun _ => True) v (runsF ps mt cd N ps.length) ∧ Below w.heap.size w w' := by
 have HP := az hp
 have HR := az hr0
 have HC := az hc0
 have HPS := az hps
 have HOK := az hok
 have HMT := az hmt
 clear hp hr0 hc0 hps hok hmt
 go_enter Try.func56, Try.ntmps56
 go_wp2_with (go_at_call 85; refine (impl_pieces.calls kp A0 c0 lv ps _ HR.out HC.out HPS.out).mono ?_; rintro e w1 ⟨v5, rfl, h5, hb1⟩; have S5 := az h5; have HB1 := az hb1; clear h5 hb1; obtain ⟨A5, c5, hv5, hl5, hC5⟩ := Kd.S_reads S5.out; subst hv5; have C5 := az hC5; clear hC5 hl5)
 go_loopg [24] ps.length (fun gg s24 wr => ∃ i : Nat, s24 = .int .i64 i ∧ i ≤ ps.length ∧ ps.length - i ≤ gg ∧ Aside0 (MapI wr w1.heap.size i (byF ps i)) ∧ Aside0 (Below w1.heap.size w1 wr))
 case atStart => exact ⟨0, rfl, Nat.zero_le _, by omega, ⟨MapI.made w1⟩, ⟨below_alloc (Below.refl _ _) _⟩⟩
 case round =>
  obtain ⟨i, rfl, hi, hg, HM, HB⟩ := hrel
  by_cases hlt : i < ps.length
  ·
   have hltz : (i : Int) < (ps.length : Int) := by omega
   obtain ⟨x, hx⟩ : ∃ x, ps.getD i z62 = x := ⟨_, rfl⟩
   have hxm : x ∈ ps := by rw [← hx]; exact getD_memP hlt
   obtain ⟨o1, o2, o3, o4⟩ := HOK.out x hxm
   have hf0 := o3 (fstP x) (by unfold fstP; rw [List.getD_eq_getElem?_getD, List.getElem?_eq_getElem o1, Option.getD_some]; exact List.getElem_mem _)
   obtain ⟨ad, A1, c1, a1, e5, x0, x1, hl1, hC1, _, x2⟩ := piece_at (Kd.C_below C5.out HB.out) hlt x hx o1
   subst e5
   have HX := az hx
   have p0 : (0 : Int) < (x.f0.length : Int) := by omega
   obtain ⟨w2, hput, hm2, hg2⟩ := (MapI.below HM.out (below_alloc (Below.refl _ _) (.cells #[.slice (some A1) x.f0.length c1, .int .i64 x.f1] 62))).put (by omega) (fstP x) i (wf_small hf0.1 (by omega)) (wf_small (by omega) (by omega))
   have x2' := (below_alloc (Below.refl wr.heap.size wr) (.cells #[.slice (some A1) x.f0.length c1, .int .i64 x.f1] 62)).cell (World.block_lt_of_cell? wr _ x2) |>.trans x2
   have HM2 := az hm2
   have HB2 := az (pw_below_grown (below_alloc HB.out _) (some w1.heap.size) (below_alloc HB.out _).size hg2 (fun k e => by cases e; exact Nat.le_refl _))
   clear hx hm2 hg2 o3 o4 hC1
   go_wp2
   go_roundg (ps.length - (i + 1))
   case measure => omega
   case rel => exact ⟨i + 1, by go_num, by omega, by omega, ⟨by rw [byF, HX.out]; exact HM2.out⟩, HB2⟩
  ·
   have hltz : ¬ (i : Int) < (ps.length : Int) := by omega
   obtain rfl : i = ps.length := by omega
   obtain ⟨wa, hwa⟩ : ∃ wa, wa = wr := ⟨_, rfl⟩
   subst hwa
   go_wp2
   go_loopg [38, 9] ps.length (fun gg s38 s9 wr => ∃ (i : Nat) (v : Value), s38 = .int .i64 i ∧ v = s9 ∧ i ≤ ps.length ∧ ps.length - i ≤ gg ∧ Aside0 (Kd.S k62 62 wr wa.heap.size (fun _ => True) v (runsF ps mt cd N i)) ∧ Aside0 (Below wa.heap.size wa wr))
   case atStart => exact ⟨0, _, rfl, rfl, Nat.zero_le _, by omega, ⟨Kd.S_nil _ _ _ _ _⟩, ⟨Below.refl _ _⟩⟩
   case round =>
    clear hi hg hlt hltz
    obtain ⟨i, v, rfl, hv, hi, hg, HO, HQ⟩ := hrel
    subst hv
    by_cases hlt : i < ps.length
    ·
     have hltz : (i : Int) < (ps.length : Int) := by omega
     obtain ⟨x, hx⟩ : ∃ x, ps.getD i z62 = x := ⟨_, rfl⟩
     have hxm : x ∈ ps := by rw [← hx]; exact getD_memP hlt
     obtain ⟨o1, o2, o3, o4⟩ := HOK.out x hxm
     have hf0 := o3 (fstP x) (by unfold fstP; rw [List.getD_eq_getElem?_getD, List.getElem?_eq_getElem o1, Option.getD_some]; exact List.getElem_mem _)
     have HB1q := az (HB.out.trans (HQ.out.mono HB.out.size))
     have HBWq := az (below_then HB1.out HB1.out.size HB1q.out)
     obtain ⟨ad, A1, c1, a1, e5, x0, x1, hl1, hC1, _, x2⟩ := piece_at (Kd.C_below C5.out HB1q.out) hlt x hx o1
     subst e5
     have HX := az hx
     have HC1 := az hC1
     have p0 : (0 : Int) < (x.f0.length : Int) := by omega
     have HPq := az (IsPara.below (IsPara.below HP.out HBWq.out) (below_alloc (Below.refl _ _) (.cells #[.slice (some A1) x.f0.length c1, .int .i64 x.f1] 62)))
     obtain ⟨vc, bm, bc, nm, nc, q1, q2, q3, q4, q5⟩ := HPq.out
     have hq3 := (blk_cell q1 3).trans (show _ = some (.map (some bc)) from rfl)
     have hlk := (MapI.below q4 (below_drew (Below.refl _ _))).look (fstP x) (wf_small hf0.1 (by omega))
     have x2' := (below_alloc (Below.refl wr.heap.size wr) (.cells #[.slice (some A1) x.f0.length c1, .int .i64 x.f1] 62)).cell (World.block_lt_of_cell? wr _ x2) |>.trans x2
     clear q1 q2 q3 q4 q5 hx hC1
     cases hcd : cd (fstP x) with
     | some y =>
      rw [hcd] at hlk
      go_wp2
      go_region
      all_goals go_wp2
      all_goals go_roundg (ps.length - (i + 1))
      case measure => omega
      case rel => exact ⟨i + 1, _, by go_num, rfl, by omega, by omega, ⟨by rw [runsF, HX.out, hcd, if_pos (show (some y).isSome = true from rfl)]; exact Kd.S_drew (Kd.S_alloc HO.out _)⟩, ⟨below_drew (below_alloc HQ.out _)⟩⟩
     | none =>
      rw [hcd] at hlk
      have HCD := az hcd
      have HCL := az (show slices_Clone_int_int.f x.f0 = some x.f0 by rw [slices_Clone_int_int.f, if_pos (by omega)])
      have HF := az (show 0 < x.f0.length ∧ x.f0.length ≤ 400 ∧ 0 ≤ lastI x.f0 ∧ lastI x.f0 < N from ⟨o1, o2, (o3 _ (lastI_mem o1)).1, (o3 _ (lastI_mem o1)).2⟩)
      clear o1 o2 o3 o4 hf0 hcd
      go_wp2
      go_region
      go_wp2
      clear hlk hq3 x0 x1 x2 x2'
      have hblk := az (blk_drew (blk_new wr (.cells #[.slice (some A1) x.f0.length c1, .int .i64 x.f1] 62)))
      have HR2 := az (below_drew (below_alloc (Below.refl wr.heap.size wr) (.cells #[.slice (some A1) x.f0.length c1, .int .i64 x.f1] 62)))
      have HCX := az (Kd.C_below HC1.out HR2.out)
      clear HPq HC1
      generalize (wr.alloc (.cells #[.slice (some A1) x.f0.length c1, .int .i64 x.f1] 62)).drew = W2 at hblk HR2 HCX ⊢
      have hb0 := (blk_cell hblk.out 0).trans (show _ = some (.slice (some A1) x.f0.length c1) from rfl)
      have hb1 := (blk_cell hblk.out 1).trans (show _ = some (.int .i64 x.f1) from rfl)
      have hb0a := fun o => (blk_cell (blk_alloc hblk.out o) 0).trans (show _ = some (.slice (some A1) x.f0.length c1) from rfl)
      have hb1a := fun o => (blk_cell (blk_alloc hblk.out o) 1).trans (show _ = some (.int .i64 x.f1) from rfl)
      go_cut [14] (fun v14 wc => ∃ (rb c3 : Nat) (A3 : Option Addr), v14 = .pointer (some ⟨rb, 0, none⟩) ∧ Aside0 (wc.heap[rb]? = some (.cells #[.slice A3 x.f0.length c3, .int .i64 x.f1] 62 (0, 0))) ∧ Aside0 (Kd.R (Kd.int .i64) 3 wc wr.heap.size (fun _ => True) (.slice A3 x.f0.length c3) x.f0) ∧ Aside0 (Below wr.heap.size wr wc) ∧ Aside0 (wr.heap.size ≤ rb))
      case first =>
       go_region_with (first | (go_at_call 34; refine (slices_Clone_int_int.calls (some A1) c1 x.f0 x.f0 W2.drew (Kd.C_below HCX.out (below_drew (Below.refl _ _))) hl1 HCL.out).mono ?_; rintro e w3 ⟨v3, rfl, ho3, hb3⟩; obtain ⟨A3, c3, hv3⟩ := Kd.R_slice ho3; subst hv3; have hb1' := (blk_cell (blk_below (blk_drew hblk.out) hb3) 1).trans (show _ = some (.int .i64 x.f1) from rfl); have hb1b := fun o => (blk_cell (blk_alloc (blk_below (blk_drew hblk.out) hb3) o) 1).trans (show _ = some (.int .i64 x.f1) from rfl); have HO3 := az ho3; have HB3 := az (below_then (below_drew HR2.out) (below_drew HR2.out).size hb3); clear ho3 hb3) | (go_at_call 34; refine (slices_Clone_int_int.calls (some A1) c1 x.f0 x.f0 (W2.alloc (.cells #[.slice none 0 0, .int .i64 0] 62)).drew (Kd.C_below HCX.out (below_drew (below_alloc (Below.refl _ _) _))) hl1 HCL.out).mono ?_; rintro e w3 ⟨v3, rfl, ho3, hb3⟩; obtain ⟨A3, c3, hv3⟩ := Kd.R_slice ho3; subst hv3; have hb1' := (blk_cell (blk_below (blk_drew (blk_alloc hblk.out _)) hb3) 1).trans (show _ = some (.int .i64 x.f1) from rfl); have hz := blk_below (blk_drew (blk_new W2 (.cells #[.slice none 0 0, .int .i64 0] 62))) hb3; have hz0 := (blk_cell hz 0).trans (show _ = some (.slice none 0 0) from rfl); have hz1 := (blk_cell hz 1).trans (show _ = some (.int .i64 0) from rfl); have hf0 := blk_frozen hz 0; have hf1 := blk_frozen hz 1; have HO3 := az ho3; have HB3 := az (below_then (below_drew (below_alloc HR2.out (.cells #[.slice none 0 0, .int .i64 0] 62))) (below_drew (below_alloc HR2.out (.cells #[.slice none 0 0, .int .i64 0] 62))).size hb3); have HZ := az hz; clear ho3 hb3 hz))
       all_goals (go_wp2_with fail; go_meet)
       all_goals first
        | exact ⟨_, _, _, rfl, ⟨blk_new _ _⟩, ⟨Kd.R_alloc (Kd.R_lower HO3.out HR2.out.size) _⟩, ⟨below_alloc HB3.out _⟩, ⟨HB3.out.size⟩⟩
        | exact ⟨_, _, _, rfl, ⟨by have h := blk_set (blk_set HZ.out 0 (.slice A3 x.f0.length c3)) 1 (.int .i64 x.f1); exact h⟩, ⟨Kd.R_set (Kd.R_set (Kd.R_lower HO3.out (below_drew (below_alloc HR2.out (.cells #[.slice none 0 0, .int .i64 0] 62))).size) HZ.out (by decide) 0 _) (blk_set HZ.out 0 _) (by decide) 1 _⟩, ⟨(HB3.out.setCell (p := ⟨W2.heap.size, 0, none⟩) HR2.out.size _).setCell (p := ⟨W2.heap.size, 1, none⟩) HR2.out.size _⟩, ⟨HR2.out.size⟩⟩
      case rest =>
       obtain ⟨rb, c3, A3, rfl, HW0, HV0, HN0, HRB⟩ := hcut
       obtain ⟨wo, hwo⟩ : ∃ wo, wo = wr := ⟨_, rfl⟩
       subst hwo
       clear hb0 hb1 hblk HR2 HCX hb0a hb1a
       go_wp2
       go_loopg [15] N (fun gg s15 wr => ∃ (vr : Value) (l : List Int), Aside0 (wr.heap[rb]? = some (.cells #[vr, .int .i64 x.f1] 62 (0, 0))) ∧ Aside0 (Kd.R (Kd.int .i64) 3 wr wo.heap.size (fun _ => True) vr l) ∧ 0 < l.length ∧ l.length + 400 * gg ≤ 160400 ∧ 0 ≤ lastI l ∧ lastI l < N ∧ (N : Int) - lastI l ≤ gg ∧ Aside0 (chainG ps mt gg l = chainG ps mt N x.f0) ∧ Aside0 (Below wo.heap.size wo wr))
       case atStart => exact ⟨_, _, HW0, HV0, HF.out.1, by have := HF.out.2.1; omega, HF.out.2.2.1, HF.out.2.2.2, by have := HF.out.2.2.1; omega, ⟨rfl⟩, HN0⟩
       case round =>
        clear HW0 HV0 HN0
        obtain ⟨vr, l, HW, HV, g1, g2, g3, g4, g5, HCH, HN2⟩ := hrel
        cases gk with
        | zero => exact absurd g5 (by omega)
        | succ g =>
         obtain ⟨A2, c2, hv2, hl2, hC2⟩ := Kd.R_reads HV.out
         subst hv2
         have HQ2 := az (HQ.out.trans (HN2.out.mono HQ.out.size))
         have HA2 := az (HB.out.trans (HQ2.out.mono HB.out.size))
         have HW2 := az (below_then HB1.out HB1.out.size HA2.out)
         obtain ⟨vc, bm, bc, nm, nc, q1, q2, q3, q4, q5⟩ := IsPara.below HP.out HW2.out
         have hq2 := (blk_cell q1 2).trans (show _ = some (.map (some bm)) from rfl)
         have hlk := (MapI.below q3 (below_drew (Below.refl _ _))).look (lastI l) (wf_small g3 (by omega))
         have hlk0 := MapI.look q3 (lastI l) (wf_small g3 (by omega))
         have hlkN := fun n_ => (MapI.below q3 (pw_below_drewN (Below.refl _ _) n_)).look (lastI l) (wf_small g3 (by omega))
         have hr0 := (blk_cell HW.out 0).trans (show _ = some (.slice A2 l.length c2) from rfl)
         have hr1 := (blk_cell HW.out 1).trans (show _ = some (.int .i64 x.f1) from rfl)
         have hr1d := (blk_cell (blk_drew HW.out) 1).trans (show _ = some (.int .i64 x.f1) from rfl)
         obtain ⟨a2, e2, hx2⟩ := Kd.at_int hC2 ((l.length : Int) - 1) (by omega) (by omega)
         subst e2
         rw [show ((l.length : Int) - 1).toNat = l.length - 1 by omega, show rd l ((l.length : Int) - 1) = lastI l by rw [show ((l.length : Int) - 1) = ((l.length - 1 : Nat) : Int) by omega]; simp [rd, lastI]] at hx2
         have hll : l.length < 1000000 := by omega
         have hrl := runsF_len ps mt cd N i
         clear q1 q2 q3 q4 q5 hC2
         cases hm : mt (lastI l) with
         | none =>
          rw [hm] at hlk hlk0
          have hlkN2 := hlkN
          simp only [hm] at hlkN
          have HRES := az (show l = chainG ps mt N x.f0 by rw [← HCH.out, chainG, hm])
          go_wp2
          have HR1 := az hr1
          clear hlkN2 hlk hr1 hr1d
          go_quiet (fail)
          clear hlkN hlk0 hq2 hx2
          have hr1 := HR1.out
          go_wp2_with (first | ((with_reducible refine gate_builtin (b := .append) (xs := #[.tmp 96, .tmp 98]) rfl ?_); at_builtin; refine Kd.S_append k62 (w0 := wa) wa.heap.size rfl (.tmp 96) (.tmp 98) 59 62 (.agg #[(.slice none 0 0), (.int .i64 0)]) 32 rfl Try.underlying59 info62 rfl (by decide) (by omega) v (runsF ps mt cd N i) ⟨l, x.f1⟩ [.slice (some a2) l.length c2, .int .i64 x.f1] (fun _ => True) (fun k => wo.heap.size ≤ k) rfl rfl ?aP ?aK (fun _ _ => trivial) ?aO ?aB ?aS ?aL ?_; (case aP => exact k62_mkM _ _ _ (⟨l, x.f1⟩ : S62) (R_geX (Kd.R_drewN HV.out _) HQ.out.size)); (case aK => exact fun k hk => ⟨trivial, fun e => Nat.lt_irrefl _ (Nat.lt_of_lt_of_le (Kd.S_lt HO.out k e.symm) hk)⟩); (case aO => exact Kd.S_mono (Kd.S_old HO.out (pw_below_drewN HN2.out _)) (fun k hk => ⟨trivial, Nat.not_le.mpr hk.2⟩)); (case aB => exact pw_below_drewN HQ2.out _); (case aS => exact HQ2.out.size); (case aL => omega); intro v9 w9 ho9 hb9 hg9 hat9; have HO9 := az ho9; have HB9 := az hb9; clear ho9 hb9 hg9 hat9))
          go_roundg (ps.length - (i + 1))
          case measure => omega
          case rel => exact ⟨i + 1, v9, by go_num, rfl, by omega, by omega, ⟨by rw [runsF, HX.out, HCD.out, if_neg (by decide), ← HRES.out]; exact HO9.out⟩, HB9⟩
         | some m =>
          obtain ⟨hm1, hm2⟩ := HMT.out _ _ hm
          rw [hm] at hlk hlk0
          have hlkN2 := hlkN
          simp only [hm] at hlkN
          have HMa := az (MapI.below HM.out HQ2.out)
          have hbfN := fun n_ => (MapI.below HMa.out (pw_below_drewN (Below.refl _ _) n_)).look m (wf_small (by omega) (by omega))
          cases hbf : byF ps ps.length m with
          | none =>
           have HRES := az (show l = chainG ps mt N x.f0 by rw [← HCH.out, chainG, hm]; simp only; rw [hbf])
           rw [hbf] at hbfN
           go_wp2
           have HR1 := az hr1
           clear hlkN2 hlk hr1 hr1d
           go_quiet (fail)
           clear hlkN hlk0 hq2 hx2
           have hr1 := HR1.out
           go_wp2_with (first | ((with_reducible refine gate_builtin (b := .append) (xs := #[.tmp 96, .tmp 98]) rfl ?_); at_builtin; refine Kd.S_append k62 (w0 := wa) wa.heap.size rfl (.tmp 96) (.tmp 98) 59 62 (.agg #[(.slice none 0 0), (.int .i64 0)]) 32 rfl Try.underlying59 info62 rfl (by decide) (by omega) v (runsF ps mt cd N i) ⟨l, x.f1⟩ [.slice (some a2) l.length c2, .int .i64 x.f1] (fun _ => True) (fun k => wo.heap.size ≤ k) rfl rfl ?aP ?aK (fun _ _ => trivial) ?aO ?aB ?aS ?aL ?_; (case aP => exact k62_mkM _ _ _ (⟨l, x.f1⟩ : S62) (R_geX (Kd.R_drewN HV.out _) HQ.out.size)); (case aK => exact fun k hk => ⟨trivial, fun e => Nat.lt_irrefl _ (Nat.lt_of_lt_of_le (Kd.S_lt HO.out k e.symm) hk)⟩); (case aO => exact Kd.S_mono (Kd.S_old HO.out (pw_below_drewN HN2.out _)) (fun k hk => ⟨trivial, Nat.not_le.mpr hk.2⟩)); (case aB => exact pw_below_drewN HQ2.out _); (case aS => exact HQ2.out.size); (case aL => omega); intro v9 w9 ho9 hb9 hg9 hat9; have HO9 := az ho9; have HB9 := az hb9; clear ho9 hb9 hg9 hat9))
           go_roundg (ps.length - (i + 1))
           case measure => omega
           case rel => exact ⟨i + 1, v9, by go_num, rfl, by omega, by omega, ⟨by rw [runsF, HX.out, HCD.out, if_neg (by decide), ← HRES.out]; exact HO9.out⟩, HB9⟩
          | some xj =>
           obtain ⟨j, hj, rfl, hjm⟩ := byF_inv _ hbf
           obtain ⟨y, hy⟩ : ∃ y, ps.getD j z62 = y := ⟨_, rfl⟩
           have hym : y ∈ ps := by rw [← hy]; exact getD_memP hj
           obtain ⟨r1, r2, r3, r4⟩ := HOK.out y hym
           have r5 := r3 _ (lastI_mem r1)
           rw [hy] at hjm
           subst hjm
           obtain ⟨ad', A7, c7, a7, e7, y0, y1, hl7, hC7, _, y2⟩ := piece_at (Kd.C_below C5.out HA2.out) hj y hy r1
           injection e7 with e7
           subst e7
           have HCY := az hC7
           have hjz0 : (0 : Int) ≤ (j : Int) := by omega
           have hjz : (j : Int) < (ps.length : Int) := by omega
           clear hC7 y1 y2
           rw [hbf] at hbfN
           go_wp2
           have HR1 := az hr1
           clear hlkN2 hlk hr1 hr1d
           go_quiet (fail)
           go_wp2
           clear hlkN hlk0 hq2 hx2 hbfN
           go_region_law (refine Kd.R_append_rows_step (Kd.int .i64) (w0 := wo) wo.heap.size (by rfl) (.tmp 88) (.tmp 93) 22 3 (.int .i64 0) 8 rfl Try.underlying22 info3 rfl (by decide) (by omega) (.slice (some a2) l.length c2) l y.f0 _ _ _ (fun _ => True) (fun _ => False) rfl rfl ?aO ?aR (fun _ _ h => h) (fun _ h => h.elim) (fun _ _ => trivial) ?aB ?aS ?aL ?_; (case aO => exact Kd.R_drew (Kd.R_drewN HV.out nq)); (case aR => exact Kd.C_drew (Kd.C_drewN HCY.out nq)); (case aB => exact below_drew (pw_below_drewN HN2.out nq)); (case aS => exact HN2.out.size); (case aL => omega); intro v9 w9 ho9 hb9 hg9 hat9; obtain ⟨A9, c9, hv9⟩ := Kd.R_slice ho9; subst hv9; have hq := FrT.same (FrT.grown (Kd.R_drew (Kd.R_drewN HV.out nq)) hg9) (blk_drew (blk_drewN HW.out nq)) (by decide); have hc9 := (blk_cell hq 0).trans (show _ = some (.slice (some a2) l.length c2) from rfl); have hf9 := blk_frozen hq 0; generalize hN9 : (l ++ y.f0).length = N9 at ho9 hat9 ⊢; have HO9 := az ho9; have HB9 := az hb9; have HQ9 := az hq; clear ho9 hb9 hg9 hat9 hq)
           all_goals go_wp2
           all_goals go_roundg g
           all_goals first
            | omega
            | exact ⟨_, _, ⟨by have h := blk_set HQ9.out 0 (.slice A9 N9 c9); exact h⟩, ⟨Kd.R_set HO9.out HQ9.out (by decide) 0 _⟩, by rw [List.length_append]; omega, by rw [List.length_append]; omega, by rw [lastI_app r1]; exact r5.1, by rw [lastI_app r1]; exact r5.2, by rw [lastI_app r1]; omega, ⟨by rw [← HCH.out, chainG, hm]; simp only; rw [hbf]; simp only; rw [Int.toNat_natCast, hy]⟩, ⟨HB9.out.setCell (p := ⟨rb, 0, none⟩) HRB.out _⟩⟩
    ·
     have hltz : ¬ (i : Int) < (ps.length : Int) := by omega
     obtain rfl : i = ps.length := by omega
     go_wp2
     go_ret
     exact ⟨_, rfl, Kd.S_lower HO.out (Nat.le_trans HB1.out.size HB.out.size), below_then HB1.out HB1.out.size (HB.out.trans (HQ.out.mono HB.out.size))⟩
def piecesOkB (N : Nat) (ps : List S62) : Bool := decide (ps.length ≤ 400) && ps.all fun x => decide (0 < x.f0.length) && decide (x.f0.length ≤ 400) && (x.f0.all fun p => decide (0 ≤ p) && decide (p < N)) && decide (fstP x ≤ lastI x.f0)
theorem piecesOkB_ok {N : Nat} {ps : List S62} (h : piecesOkB N ps = true) : ps.length ≤ 400 ∧ PiecesOk N ps := by
 unfold piecesOkB at h
 rw [Bool.and_eq_true, decide_eq_true_eq] at h
 refine ⟨h.1, fun x hx => ?_⟩
 have h2 := List.all_eq_true.mp h.2 x hx
 simp only [Bool.and_eq_true, decide_eq_true_eq, List.all_eq_true] at h2
 exact ⟨h2.1.1.1, h2.1.1.2, fun p hp => h2.1.2 p hp, h2.2⟩
def runsC (cls : List Int) (ps : List S62) : List S62 := runsF ps (paraS cls cls.length).mt (paraS cls cls.length).cd cls.length ps.length
def impl_LevelRuns.f (l0 : List Int) (a1 : Int) : Option (List (List Int)) := if okV l0 = true ∧ baseB a1 = true then (clsO l0).bind fun cls => (impl_pieces.f 2000 (toldLC cls a1).1).bind fun ps => if piecesOkB cls.length ps = true then some ((runsC cls ps).map (·.f0)) else none else some []
theorem run_row {W : World} {base : Nat} {ok : Nat → Prop} {A : Option Addr} {n c : Nat} {xs : List S62} {f : Nat → Nat} (h : (Kd.tag f k62).R 62 W base ok (.slice A n c) xs.zipIdx) {i : Nat} (hi : i < xs.length) (x : S62) (hx : xs.getD i z62 = x) :
  ∃ ad Ax cx, A = some ad ∧ W.cell? (ad.add (i * 2)) = some (.slice Ax x.f0.length cx) ∧ W.cell? ⟨(ad.add (i * 2)).block, (ad.add (i * 2)).off + 1, none⟩ = some (.int .i64 x.f1) ∧ Kd.R (Kd.int .i64) 3 W base (fun k => ok k ∧ f k = i) (.slice Ax x.f0.length cx) x.f0 := by
 have hz : xs.zipIdx.length = xs.length := List.length_zipIdx
 obtain ⟨g, cap, he, _⟩ := Kd.R_form h (by omega)
 injection he with e1 e2 e3
 subst e1
 obtain ⟨cs, c1, c2, c3⟩ := Kd.R_getA h (z62, 0) (i : Int) (by omega) (by omega)
 rw [Int.toNat_natCast] at c2 c3
 have hg : xs.zipIdx.getD i (z62, 0) = (x, i) := by
  rw [List.getD_eq_getElem?_getD, List.getElem?_zipIdx, Nat.zero_add, List.getElem?_eq_getElem hi, Option.map_some, Option.getD_some]
  rw [List.getD_eq_getElem?_getD, List.getElem?_eq_getElem hi, Option.getD_some] at hx
  rw [hx]
 rw [hg] at c2
 have c2' : k62.M W base (fun k => (ok k ∧ some k ≠ (Value.slice (some ⟨g, 0, none⟩) n c).ownBlock) ∧ f k = i) x cs := c2
 obtain ⟨v0, hcs, hr⟩ := k62_openM c2'
 subst hcs
 obtain ⟨Ax, cx, hv⟩ := Kd.R_slice hr
 subst hv
 have c4 := c3 1 _ rfl
 have c5 : W.cell? ⟨((⟨g, 0, none⟩ : Addr).add (i * 2)).block, ((⟨g, 0, none⟩ : Addr).add (i * 2)).off + 1, none⟩ = some (.int .i64 x.f1) := by
  rw [show (Kd.tag f k62).sz = 2 from rfl] at c4
  by_cases h0 : i = 0
  · subst h0; exact c4
  ·
   have h2 : i * 2 ≠ 0 := by omega
   simpa [Addr.add, h2] using c4
 exact ⟨_, Ax, cx, rfl, c3 0 _ rfl, c5, Kd.R_mono hr (fun k hk => ⟨hk.1.1, hk.2⟩)⟩
theorem RX_old {w5 wr : World} {base : Nat} {i : Nat} {fT : Nat → Nat} {v : Value} {l : List Int} (h : Kd.R (Kd.int .i64) 3 wr base (fun k => True ∧ fT k = i) v l) (h5 : Kd.R (Kd.int .i64) 3 w5 base (fun k => (True ∧ fT k = i) ∧ base ≤ k ∧ k < w5.heap.size ∧ ∃ q, q ∈ 3 :: (Kd.int .i64).E ∧ ∃ cells, w5.heap[k]? = some (.cells cells q (0, 0))) v l) : Kd.R (Kd.int .i64) 3 wr base (fun k => k < w5.heap.size ∧ fT k = i) v l := by
 obtain ⟨h1, h2⟩ := h
 exact ⟨fun k hk => ⟨(h5.1 k hk).2.2.1, (h1 k hk).2⟩, h2⟩
theorem impl_LevelRuns.calls (A0 : Option Addr) (c0 : Nat) (l0 : List Int) (a1 : Int) (r : List (List Int)) (w : World) (hr0 : Kd.C (Kd.int .i64) w A0 l0.length l0) (hc0 : l0.length ≤ c0) (h : impl_LevelRuns.f l0 a1 = some r) :
  Calls Try.prog 23 #[.slice A0 l0.length c0, .int .i64 a1] w fun e w' => ∃ v0_ : Value, e = .returned (v0_) ∧ Kd.S (Kd.slice 3 (Kd.int .i64)) 22 w' w.heap.size (fun _ => True) v0_ r ∧ Below w.heap.size w w' := by
 have HR := az hr0
 have HC := az hc0
 clear hr0 hc0
 unfold impl_LevelRuns.f at h
 by_cases hok : okV l0 = true
 case neg =>
  rw [if_neg (fun h => hok h.1)] at h
  obtain rfl := Option.some.inj h
  have HOK := az (show impl_lettersOk.f l0 = some false by rw [impl_lettersOk.f]; simpa using hok)
  clear hok h
  go_enter Try.func23, Try.ntmps23
  go_wp2_with (go_at_call 47; refine (impl_lettersOk.calls _ _ l0 false _ HR.out HC.out HOK.out).mono ?_; rintro e w1 ⟨rfl, hb1⟩; have HB1 := az hb1; clear hb1)
  go_ret
  exact ⟨_, rfl, Kd.S_nil _ _ _ _ _, HB1.out⟩
 case pos =>
 have HOK := az (show impl_lettersOk.f l0 = some true by rw [impl_lettersOk.f, hok])
 by_cases hbs : baseB a1 = true
 case neg =>
  rw [if_neg (fun h => hbs h.2)] at h
  obtain rfl := Option.some.inj h
  have HSD := az (show impl_isBase.f a1 = some false by rw [isBase_f]; simpa using hbs)
  clear hok hbs h
  go_enter Try.func23, Try.ntmps23
  go_wp2_with (first
   | (go_at_call 47; refine (impl_lettersOk.calls _ _ l0 true _ HR.out HC.out HOK.out).mono ?_; rintro e w1 ⟨rfl, hb1⟩; have HB1 := az hb1; clear hb1)
   | (go_at_call 48; refine (impl_isBase.calls a1 false _ HSD.out).mono ?_; rintro e w2 ⟨rfl, ⟨nd, rfl⟩⟩))
  go_ret
  exact ⟨_, rfl, Kd.S_nil _ _ _ _ _, pw_below_drewN HB1.out _⟩
 case pos =>
 have HSD := az (show impl_isBase.f a1 = some true by rw [isBase_f, hbs])
 rw [if_pos ⟨hok, hbs⟩] at h
 obtain ⟨cls, hcls, h⟩ := Option.bind_eq_some_iff.mp h
 obtain ⟨ps, hps, h⟩ := Option.bind_eq_some_iff.mp h
 by_cases hpo : piecesOkB cls.length ps = true
 case neg =>
  rw [if_neg hpo] at h
  cases h
 case pos =>
 rw [if_pos hpo] at h
 obtain rfl := Option.some.inj h
 obtain ⟨hcl, hcs⟩ := clsO_inv hcls
 obtain ⟨hpl, hpk⟩ := piecesOkB_ok hpo
 have hn80 : l0.length ≤ 80 := by
  unfold okV at hok
  rw [Bool.and_eq_true] at hok
  exact of_decide_eq_true hok.1
 have hb01 : 0 ≤ a1 ∧ a1 ≤ 100 := by
  unfold baseB at hbs
  rw [Bool.or_eq_true, decide_eq_true_eq, decide_eq_true_eq] at hbs
  omega
 have HCL := az hcl
 have HCS := az hcs
 have HN := az hn80
 have HB01 := az hb01
 have HMT := az (fun k m hk => (inv_para cls cls.length).2.2 k m hk)
 have HPS := az hps
 have HPL := az hpl
 have HPK := az hpk
 have HRL := az (show (runsC cls ps).length ≤ 400 from Nat.le_trans (runsF_len _ _ _ _ _) hpl)
 clear hok hbs h hcls hcl hcs hn80 hb01 hps hpo hpl hpk
 go_enter Try.func23, Try.ntmps23
 go_wp2_with (first
  | (go_at_call 47; refine (impl_lettersOk.calls _ _ l0 true _ HR.out HC.out HOK.out).mono ?_; rintro e w1 ⟨rfl, hb1⟩; have HB1 := az hb1; clear hb1)
  | (go_at_call 48; refine (impl_isBase.calls a1 true _ HSD.out).mono ?_; rintro e w2 ⟨rfl, ⟨nd, rfl⟩⟩)
  | (go_at_call 49; refine (paragraphOf_calls _ A0 c0 l0 cls (Kd.C_below HR.out (pw_below_drewN HB1.out _)) HC.out (by have := HN.out; omega) HCL.out HCS.out).mono ?_; rintro e w3 ⟨pb, rfl, hp3, hb3⟩; have HP3 := az (by rw [← HCL.out] at hp3; exact hp3); have HB3 := az (below_then (pw_below_drewN HB1.out nd) (pw_below_drewN HB1.out nd).size hb3); clear hp3 hb3)
  | (go_at_call 50; refine (told_calls _ _ pb A0 c0 cls _ _ a1 HP3.out (by have := HN.out; have := HCL.out; omega) HB01.out.1 HB01.out.2 HMT.out).mono ?_; rintro e w4 ⟨v, u, rfl, ht4, hb4⟩; obtain ⟨Av, cv_, hv4, hlv4, hCv4⟩ := Kd.R_reads ht4.1; subst hv4; have HV4 := az hCv4; have HL4 := az hlv4; have HP4 := az (IsPara.below HP3.out hb4); have HB4 := az (below_then HB3.out HB3.out.size hb4); clear ht4 hb4 hlv4 hCv4)
  | (go_at_call 56; refine (runs_calls _ _ pb A0 c0 cls.length cls _ _ Av cv_ _ 2000 ps cls.length HP4.out HV4.out HL4.out HPS.out HPK.out (by have := HN.out; have := HCL.out; omega) HPL.out HMT.out).mono ?_; rintro e w5 ⟨v5, rfl, h5, hb5⟩; have S5 := az h5; have HB5 := az (below_then HB4.out HB4.out.size hb5); have HLO := az HB4.out.size; clear h5 hb5; obtain ⟨A5, c5, hv5⟩ := Kd.S_slice S5.out; subst hv5))
 have HRS := az (show runsF ps (paraS cls cls.length).mt (paraS cls cls.length).cd cls.length ps.length = runsC cls ps from rfl)
 rw [HRS.out] at S5 ⊢
 obtain ⟨rs, hrs⟩ : ∃ rs, runsC cls ps = rs := ⟨_, rfl⟩
 have HRSX := az hrs
 rw [hrs] at S5 HRL ⊢
 clear hrs HRS
 obtain ⟨fT, hT⟩ := S5.out
 have HT := az hT
 clear hT
 have HRN := HRL.out
 go_loopg [31, 8] rs.length (fun gg s31 s8 wr => ∃ (i : Nat) (v : Value), s31 = .int .i64 i ∧ v = s8 ∧ i ≤ rs.length ∧ rs.length - i ≤ gg ∧ Aside0 (Kd.S (Kd.slice 3 (Kd.int .i64)) 22 wr w.heap.size (fun k => k < w5.heap.size → fT k < i) v ((rs.take i).map (·.f0))) ∧ Aside0 (∀ k, v.ownBlock = some k → w5.heap.size ≤ k) ∧ Aside0 (Below w5.heap.size w5 wr))
 case atStart => exact ⟨0, _, rfl, rfl, Nat.zero_le _, by omega, ⟨Kd.S_nil _ _ _ _ _⟩, ⟨fun k hk => by simp [Value.ownBlock] at hk⟩, ⟨Below.refl _ _⟩⟩
 case round =>
  obtain ⟨i, v, rfl, hv, hi, hg, HO, HOW, HB⟩ := hrel
  subst hv
  have HBB := az (below_then HB5.out HB5.out.size HB.out)
  by_cases hlt : i < rs.length
  ·
   have hltz : (i : Int) < (rs.length : Int) := by omega
   obtain ⟨x, hx⟩ : ∃ x, rs.getD i z62 = x := ⟨_, rfl⟩
   obtain ⟨ad, Ax, cx, e5, x0, x1, hr5⟩ := run_row HT.out hlt x hx
   subst e5
   replace x0 := (HB.out.cell (World.block_lt_of_cell? w5 _ x0)).trans x0
   replace x1 := (HB.out.cell (World.block_lt_of_cell? w5 _ x1)).trans x1
   have HRX := az (Kd.R_below hr5 HB.out)
   have HRO := az (Kd.R_bound hr5)
   have HTK := az (show (rs.take (i + 1)).map (·.f0) = (rs.take i).map (·.f0) ++ [x.f0] by
    rw [List.take_succ_eq_append_getElem hlt, List.map_append]
    rw [List.getD_eq_getElem?_getD, List.getElem?_eq_getElem hlt, Option.getD_some] at hx
    rw [hx]
    rfl)
   have hal := fun o => (below_alloc (Below.refl wr.heap.size wr) o)
   have HLE := az (show ((rs.take i).map (·.f0)).length ≤ 400 by rw [List.length_map, List.length_take]; omega)
   generalize hys : (rs.take i).map (·.f0) = ys at HO HTK HLE
   clear hr5 hx hys
   go_wp2_with (first | ((with_reducible refine gate_builtin (b := .append) (xs := #[.tmp 35, .tmp 38]) rfl ?_); at_builtin; refine Kd.S_append (Kd.slice 3 (Kd.int .i64)) (w0 := w) w.heap.size rfl (.tmp 35) (.tmp 38) 36 22 (.slice none 0 0) 24 rfl Try.underlying36 info22 rfl (by decide) (by omega) v ys x.f0 [.slice Ax x.f0.length cx] (fun k => k < w5.heap.size → fT k < i + 1) (fun k => k < w5.heap.size ∧ fT k = i) rfl ?aX ?aP ?aK ?aF ?aO ?aB ?aS ?aL ?_; (case aX => exact (by simp : Value.slice (some ⟨wr.heap.size + 1, 0, none⟩) 1 1 = Value.slice (some ⟨(wr.alloc (.cells #[.slice Ax x.f0.length cx, .int .i64 x.f1] 62)).heap.size, 0, none⟩) 1 1)); (case aP => exact Kd.M_row (Kd.R_mono (Kd.R_lower (Kd.R_alloc (RX_old HRX.out HRO.out) _) HLO.out) (fun _ hk => hk))); (case aK => exact fun k hk => ⟨fun _ => by omega, fun e => absurd (HOW.out k e.symm) (by omega)⟩); (case aF => exact fun k hk h2 => absurd (Nat.lt_of_lt_of_le h2 HB.out.size) (Nat.not_lt.mpr (Nat.le_trans (by simp) hk))); (case aO => exact Kd.S_mono (Kd.S_alloc HO.out _) (fun k hk => ⟨fun h2 => Nat.lt_succ_of_lt (hk h2), fun h3 => absurd (hk h3.1) (by omega)⟩)); (case aB => exact below_alloc HBB.out _); (case aS => exact Nat.le_trans HBB.out.size (by simp)); (case aL => have := HLE.out; omega); intro v9 w9 ho9 hb9 hg9 hat9; have HO9 := az ho9; have HB9 := az hb9; have HG9 := az hg9; have HAT := az hat9; clear ho9 hb9 hg9 hat9))
   go_roundg (rs.length - (i + 1))
   case measure => omega
   case rel => exact ⟨i + 1, v9, by go_num, rfl, by omega, by omega, ⟨by rw [HTK.out]; exact HO9.out⟩, ⟨fun k hk => by
    rcases HAT.out with h | ⟨b, h1, h2⟩
    · exact HOW.out k (h ▸ hk)
    ·
     rw [h1] at hk
     cases hk
     exact Nat.le_trans HB.out.size (Nat.le_trans (by simp) h2)⟩, ⟨by
    have h3 := pw_below_grown (below_alloc HB.out _) _ (below_alloc HB.out _).size HG9.out (fun k e => HOW.out k e)
    exact h3⟩⟩
  ·
   have hltz : ¬ (i : Int) < (rs.length : Int) := by omega
   obtain rfl : i = rs.length := by omega
   go_wp2
   go_ret
   have h := HO.out
   rw [List.take_length] at h
   exact ⟨v, rfl, by rw [HRSX.out]; exact Kd.S_mono (ok' := fun _ => True) h (fun _ _ => trivial), HBB.out⟩
def laws_eqIntSS.l0 : Nat → List (List Int) → List (List Int) → Int → Option (Bool)
 | 0, _, _, _ => none
 | k + 1, x0, x1, x5 => if x5 < (x0.length : Int) then (if 0 ≤ x5 then (if x5 < (x1.length : Int) then ((laws_eqIntS.f k (rd_L1 x0 x5) (rd_L1 x1 x5)).bind fun t580 => (if t580 = true then (laws_eqIntSS.l0 k x0 x1 (wrap64 (x5 + 1))) else (some false))) else (none)) else (none)) else (some true)
def laws_eqIntSS.f (k : Nat) (l0 : List (List Int)) (l1 : List (List Int)) : Option (Bool) := if (l0.length : Int) = (l1.length : Int) then (laws_eqIntSS.l0 k l0 l1 0) else (some false)
theorem laws_eqIntSS.mono_l : ∀ k, (∀ y0 y1 y2, LeO (laws_eqIntSS.l0 k y0 y1 y2) (laws_eqIntSS.l0 (k + 1) y0 y1 y2))
 | 0 => fun _ _ _ r h => by simp [laws_eqIntSS.l0] at h
 | k + 1 => by
  have ih0 := laws_eqIntSS.mono_l k
  ·
   intro y0 y1 y2; unfold laws_eqIntSS.l0
   repeat' first
   | (with_reducible exact ih0 _ _ _)
   | (with_reducible exact laws_eqIntS.mono _ _ _)
   | (with_reducible exact LeO.refl _)
   | (with_reducible exact LeO.none _)
   | (with_reducible refine LeO.ite ?_ ?_)
   | (with_reducible refine LeO.bind ?_ (fun _ => ?_))
   | exact ih0 _ _ _
   | exact laws_eqIntS.mono _ _ _
   | exact LeO.none _
   | refine LeO.ite ?_ ?_
   | refine LeO.bind ?_ (fun _ => ?_)
theorem laws_eqIntSS.mono : ∀ a0 a1 k, LeO (laws_eqIntSS.f k a0 a1) (laws_eqIntSS.f (k + 1) a0 a1) := by
 intro a0 a1 k; have ih0 := laws_eqIntSS.mono_l k; unfold laws_eqIntSS.f
 repeat' first
   | (with_reducible exact ih0 _ _ _)
   | (with_reducible exact laws_eqIntS.mono _ _ _)
   | (with_reducible exact LeO.refl _)
   | (with_reducible exact LeO.none _)
   | (with_reducible refine LeO.ite ?_ ?_)
   | (with_reducible refine LeO.bind ?_ (fun _ => ?_))
   | exact ih0 _ _ _
   | exact laws_eqIntS.mono _ _ _
   | exact LeO.none _
   | refine LeO.ite ?_ ?_
   | refine LeO.bind ?_ (fun _ => ?_)
theorem laws_eqIntSS.calls (k : Nat) (A0 : Option Addr) (c0 : Nat) (l0 : List (List Int)) (A1 : Option Addr) (c1 : Nat) (l1 : List (List Int)) (r : Bool) (w : World) (hr0 : Kd.C (Kd.slice 3 (Kd.int .i64)) w A0 l0.length l0) (hc0 : l0.length ≤ c0) (hr1 : Kd.C (Kd.slice 3 (Kd.int .i64)) w A1 l1.length l1) (hc1 : l1.length ≤ c1) (h : laws_eqIntSS.f k l0 l1 = some r) :
  Calls Try.prog 24 #[.slice A0 l0.length c0, .slice A1 l1.length c1] w fun e w' => e = .returned (.bool r) ∧ Drawn0 w w' := by
 have HR0 := az hr0; have HC0 := az hc0; clear hr0 hc0; have HR1 := az hr1; have HC1 := az hc1; clear hr1 hc1; have H : (if (l0.length : Int) = (l1.length : Int) then (laws_eqIntSS.l0 k l0 l1 0) else (some false)) = some r := h; clear h; by_cases c3 : (l0.length : Int) = (l1.length : Int)
 ·
  rw [if_pos c3] at H; have c3b0 : ((l0.length : Int) == (l1.length : Int)) = true := beq_iff_eq.mpr c3; have c3b1 : ((l0.length : Int) != (l1.length : Int)) = false := bne_eq_false_iff_eq.mpr c3; have c3b2 : (l0.length == l1.length) = true := by first | simpa using c3 | (simp at c3 ⊢; omega)
  clear c3; have H' := az H; clear H; go_enter Try.func24, Try.ntmps24; go_wp2; repeat (go_quiet (fail); try go_wp2)
  go_loopg [5] k (fun kq v5 w' => ∃ (x5_1 : Int), v5 = .int .i64 x5_1 ∧ Aside0 (laws_eqIntSS.l0 kq l0 l1 x5_1 = some r) ∧ Aside0 (kq ≤ k) ∧ Drawn0 w w')
  case atStart => exact ⟨(0), (by first | rfl | (simp; done) | (simp [*]; done)), H', ⟨Nat.le_refl _⟩, by repeat (first | exact Drawn0.refl _ | apply Drawn0.step)⟩
  case round =>
   clear H'; (try clear c1); (try clear c2); (try clear p2); (try clear c3); (try clear c3b0); (try clear c3b1); (try clear c3b2); obtain ⟨x5_1, rfl, HA, HK1, ⟨m1, rfl⟩⟩ := hrel
   cases gk with
   | zero => exact absurd HA.out (by simp [laws_eqIntSS.l0])
   | succ k1 =>
    have H := HA.out; clear HA; simp only [laws_eqIntSS.l0] at H; by_cases c4 : x5_1 < (l0.length : Int)
    ·
     rw [if_pos c4] at H; have c4b0 : decide (x5_1 < (l0.length : Int)) = true := decide_eq_true c4; clear c4; by_cases c5 : 0 ≤ x5_1
     ·
      rw [if_pos c5] at H; have c5b0 : decide (0 ≤ x5_1) = true := decide_eq_true c5; clear c5; by_cases c6 : x5_1 < (l1.length : Int)
      ·
       rw [if_pos c6] at H; have c6b0 : decide (x5_1 < (l1.length : Int)) = true := decide_eq_true c6; clear c6; replace H := Option.bind_eq_some_iff.mp H; obtain ⟨t580, A70, H⟩ := H; replace H : (if t580 = true then (laws_eqIntSS.l0 k1 l0 l1 (wrap64 (x5_1 + 1))) else (some false)) = some r := H; have A7 := az A70; clear A70; by_cases c8 : t580 = true
       ·
        subst c8; have H1 : (laws_eqIntSS.l0 k1 l0 l1 (wrap64 (x5_1 + 1))) = some r := by rw [if_pos rfl] at H; exact H
        clear H; have H := H1; clear H1; have H' := az H; clear H; have p578 : 0 ≤ (x5_1 : Int) := of_decide_eq_true (by assumption); have q578 : x5_1 < (l0.length : Int) := of_decide_eq_true (by assumption); obtain ⟨ad578, A578_0, c578_0, e578, hx578_0, hl578_0, hi578_0⟩ := at_L1 HR0.out x5_1 p578 q578
        cases e578
        have HR578_0 := az hi578_0; have HC578_0 := az hl578_0; clear hi578_0 hl578_0; replace p578 := eq_true p578; replace q578 := eq_true q578; have p579 : 0 ≤ (x5_1 : Int) := of_decide_eq_true (by assumption); have q579 : x5_1 < (l1.length : Int) := of_decide_eq_true (by assumption); obtain ⟨ad579, A579_0, c579_0, e579, hx579_0, hl579_0, hi579_0⟩ := at_L1 HR1.out x5_1 p579 q579
        cases e579
        have HR579_0 := az hi579_0; have HC579_0 := az hl579_0; clear hi579_0 hl579_0; replace p579 := eq_true p579; replace q579 := eq_true q579; go_wp2_with (first | (go_at_call 12; (with_reducible refine (laws_eqIntS.calls k1 _ _ (rd_L1 l0 x5_1) _ _ (rd_L1 l1 x5_1) true _ ?side1 ?side2 ?side3 ?side4 A7.out).mono ?_); (case side1 => repeat (first | exact HR578_0.out | (with_reducible refine Kd.C_alloc ?_ _) | (with_reducible refine Kd.C_drewN ?_ _) | (with_reducible refine Kd.C_drew ?_))); (case side2 => exact HC578_0.out); (case side3 => repeat (first | exact HR579_0.out | (with_reducible refine Kd.C_alloc ?_ _) | (with_reducible refine Kd.C_drewN ?_ _) | (with_reducible refine Kd.C_drew ?_))); (case side4 => exact HC579_0.out); rintro e w' ⟨rfl, ⟨nd, rfl⟩⟩; (try first | exact ⟨rfl, _, World.drewN_drewN _ _ _⟩ | exact ⟨rfl, _, Eq.trans (World.drewN_drewN _ _ _) (congrArg (World.drewN _) (Nat.add_assoc _ _ _))⟩))); repeat (go_quiet (first | (go_at_call 12; (with_reducible refine (laws_eqIntS.calls k1 _ _ (rd_L1 l0 x5_1) _ _ (rd_L1 l1 x5_1) true _ ?side1 ?side2 ?side3 ?side4 A7.out).mono ?_); (case side1 => repeat (first | exact HR578_0.out | (with_reducible refine Kd.C_alloc ?_ _) | (with_reducible refine Kd.C_drewN ?_ _) | (with_reducible refine Kd.C_drew ?_))); (case side2 => exact HC578_0.out); (case side3 => repeat (first | exact HR579_0.out | (with_reducible refine Kd.C_alloc ?_ _) | (with_reducible refine Kd.C_drewN ?_ _) | (with_reducible refine Kd.C_drew ?_))); (case side4 => exact HC579_0.out); rintro e w' ⟨rfl, ⟨nd, rfl⟩⟩; (try first | exact ⟨rfl, _, World.drewN_drewN _ _ _⟩ | exact ⟨rfl, _, Eq.trans (World.drewN_drewN _ _ _) (congrArg (World.drewN _) (Nat.add_assoc _ _ _))⟩))); try go_wp2_with (first | (go_at_call 12; (with_reducible refine (laws_eqIntS.calls k1 _ _ (rd_L1 l0 x5_1) _ _ (rd_L1 l1 x5_1) true _ ?side1 ?side2 ?side3 ?side4 A7.out).mono ?_); (case side1 => repeat (first | exact HR578_0.out | (with_reducible refine Kd.C_alloc ?_ _) | (with_reducible refine Kd.C_drewN ?_ _) | (with_reducible refine Kd.C_drew ?_))); (case side2 => exact HC578_0.out); (case side3 => repeat (first | exact HR579_0.out | (with_reducible refine Kd.C_alloc ?_ _) | (with_reducible refine Kd.C_drewN ?_ _) | (with_reducible refine Kd.C_drew ?_))); (case side4 => exact HC579_0.out); rintro e w' ⟨rfl, ⟨nd, rfl⟩⟩; (try first | exact ⟨rfl, _, World.drewN_drewN _ _ _⟩ | exact ⟨rfl, _, Eq.trans (World.drewN_drewN _ _ _) (congrArg (World.drewN _) (Nat.add_assoc _ _ _))⟩))))
        go_roundg k1
        case measure => have := HK1.out; omega
        case rel => exact ⟨(wrap64 (x5_1 + 1)), (by first | rfl | (simp; done) | (simp [*]; done)), H', ⟨by have := HK1.out; omega⟩, by repeat (first | exact Drawn0.refl _ | apply Drawn0.step)⟩
       ·
        replace c8 := Bool.eq_false_iff.mpr c8; subst c8; have H1 : (some false) = some r := by rw [if_neg (show ¬ (false = true) by decide)] at H; exact H
        clear H; have H := H1; clear H1; obtain rfl := Option.some.inj H; have p578 : 0 ≤ (x5_1 : Int) := of_decide_eq_true (by assumption); have q578 : x5_1 < (l0.length : Int) := of_decide_eq_true (by assumption); obtain ⟨ad578, A578_0, c578_0, e578, hx578_0, hl578_0, hi578_0⟩ := at_L1 HR0.out x5_1 p578 q578
        cases e578
        have HR578_0 := az hi578_0; have HC578_0 := az hl578_0; clear hi578_0 hl578_0; replace p578 := eq_true p578; replace q578 := eq_true q578; have p579 : 0 ≤ (x5_1 : Int) := of_decide_eq_true (by assumption); have q579 : x5_1 < (l1.length : Int) := of_decide_eq_true (by assumption); obtain ⟨ad579, A579_0, c579_0, e579, hx579_0, hl579_0, hi579_0⟩ := at_L1 HR1.out x5_1 p579 q579
        cases e579
        have HR579_0 := az hi579_0; have HC579_0 := az hl579_0; clear hi579_0 hl579_0; replace p579 := eq_true p579; replace q579 := eq_true q579; go_wp2_with (first | (go_at_call 12; (with_reducible refine (laws_eqIntS.calls k1 _ _ (rd_L1 l0 x5_1) _ _ (rd_L1 l1 x5_1) false _ ?side1 ?side2 ?side3 ?side4 A7.out).mono ?_); (case side1 => repeat (first | exact HR578_0.out | (with_reducible refine Kd.C_alloc ?_ _) | (with_reducible refine Kd.C_drewN ?_ _) | (with_reducible refine Kd.C_drew ?_))); (case side2 => exact HC578_0.out); (case side3 => repeat (first | exact HR579_0.out | (with_reducible refine Kd.C_alloc ?_ _) | (with_reducible refine Kd.C_drewN ?_ _) | (with_reducible refine Kd.C_drew ?_))); (case side4 => exact HC579_0.out); rintro e w' ⟨rfl, ⟨nd, rfl⟩⟩; (try first | exact ⟨rfl, _, World.drewN_drewN _ _ _⟩ | exact ⟨rfl, _, Eq.trans (World.drewN_drewN _ _ _) (congrArg (World.drewN _) (Nat.add_assoc _ _ _))⟩))); repeat (go_quiet (first | (go_at_call 12; (with_reducible refine (laws_eqIntS.calls k1 _ _ (rd_L1 l0 x5_1) _ _ (rd_L1 l1 x5_1) false _ ?side1 ?side2 ?side3 ?side4 A7.out).mono ?_); (case side1 => repeat (first | exact HR578_0.out | (with_reducible refine Kd.C_alloc ?_ _) | (with_reducible refine Kd.C_drewN ?_ _) | (with_reducible refine Kd.C_drew ?_))); (case side2 => exact HC578_0.out); (case side3 => repeat (first | exact HR579_0.out | (with_reducible refine Kd.C_alloc ?_ _) | (with_reducible refine Kd.C_drewN ?_ _) | (with_reducible refine Kd.C_drew ?_))); (case side4 => exact HC579_0.out); rintro e w' ⟨rfl, ⟨nd, rfl⟩⟩; (try first | exact ⟨rfl, _, World.drewN_drewN _ _ _⟩ | exact ⟨rfl, _, Eq.trans (World.drewN_drewN _ _ _) (congrArg (World.drewN _) (Nat.add_assoc _ _ _))⟩))); try go_wp2_with (first | (go_at_call 12; (with_reducible refine (laws_eqIntS.calls k1 _ _ (rd_L1 l0 x5_1) _ _ (rd_L1 l1 x5_1) false _ ?side1 ?side2 ?side3 ?side4 A7.out).mono ?_); (case side1 => repeat (first | exact HR578_0.out | (with_reducible refine Kd.C_alloc ?_ _) | (with_reducible refine Kd.C_drewN ?_ _) | (with_reducible refine Kd.C_drew ?_))); (case side2 => exact HC578_0.out); (case side3 => repeat (first | exact HR579_0.out | (with_reducible refine Kd.C_alloc ?_ _) | (with_reducible refine Kd.C_drewN ?_ _) | (with_reducible refine Kd.C_drew ?_))); (case side4 => exact HC579_0.out); rintro e w' ⟨rfl, ⟨nd, rfl⟩⟩; (try first | exact ⟨rfl, _, World.drewN_drewN _ _ _⟩ | exact ⟨rfl, _, Eq.trans (World.drewN_drewN _ _ _) (congrArg (World.drewN _) (Nat.add_assoc _ _ _))⟩))))
        go_ret; exact ⟨by first | rfl | (simp; done) | (simp [*]; done), by repeat (first | exact Drawn0.refl _ | apply Drawn0.step)⟩
      ·
       rw [if_neg c6] at H; exact absurd H (by simp)
     ·
      rw [if_neg c5] at H; exact absurd H (by simp)
    ·
     rw [if_neg c4] at H; have c4b0 : decide (x5_1 < (l0.length : Int)) = false := decide_eq_false c4; clear c4; obtain rfl := Option.some.inj H; go_wp2; repeat (go_quiet (fail); try go_wp2)
     go_ret; exact ⟨by first | rfl | (simp; done) | (simp [*]; done), by repeat (first | exact Drawn0.refl _ | apply Drawn0.step)⟩
 ·
  rw [if_neg c3] at H; have c3b0 : ((l0.length : Int) == (l1.length : Int)) = false := beq_eq_false_iff_ne.mpr c3; have c3b1 : ((l0.length : Int) != (l1.length : Int)) = true := bne_iff_ne.mpr c3; have c3b2 : (l0.length == l1.length) = false := by first | simpa using c3 | (simp at c3 ⊢; omega)
  obtain rfl := Option.some.inj H; go_enter Try.func24, Try.ntmps24; go_wp2; repeat (go_quiet (fail); try go_wp2)
  go_ret; exact ⟨by first | rfl | (simp; done) | (simp [*]; done), by repeat (first | exact Drawn0.refl _ | apply Drawn0.step)⟩
def laws_markIntSS.f (k : Nat) : List (List Int) → Int → Option (Int × List (List Int))
 | [], a => some (a, [])
 | l :: R, a => (laws_markIntS.f k l a).bind fun m => (laws_markIntSS.f k R m.1).bind fun q => some (q.1, m.2 :: q.2)
theorem laws_markIntSS.calls (k : Nat) (v : Value) (R : List (List Int)) (a1 r1 : Int) (R2 : List (List Int)) (w0 w : World) (hB : Below w0.heap.size w0 w) (hS : Kd.S (Kd.slice 3 (Kd.int .i64)) 22 w w0.heap.size (fun _ => True) v R) (hl : R.length ≤ 100000) (h : laws_markIntSS.f k R a1 = some (r1, R2)) :
  Calls Try.prog 25 #[v, .int .i64 a1] w fun e w' => e = .returned (.int .i64 r1) ∧ Kd.S (Kd.slice 3 (Kd.int .i64)) 22 w' w0.heap.size (fun _ => True) v R2 ∧ Below w0.heap.size w0 w' := by
 obtain ⟨A, c, rfl⟩ := Kd.S_slice hS
 have HB := az hB
 have HS := az hS
 have H := az h
 clear hB hS h
 go_enter Try.func25, Try.ntmps25
 go_wp2
 go_loopg [1, 5] R.length (fun gg s1 s5 wr => ∃ (i : Nat) (a : Int) (D Rt Qt : List (List Int)), s1 = .int .i64 a ∧ s5 = .int .i64 i ∧ D.length = i ∧ i + Rt.length = R.length ∧ Rt.length ≤ gg ∧ Aside0 (laws_markIntSS.f k Rt a = some (r1, Qt)) ∧ Aside0 (D ++ Qt = R2) ∧ Aside0 (Kd.S (Kd.slice 3 (Kd.int .i64)) 22 wr w0.heap.size (fun _ => True) (.slice A R.length c) (D ++ Rt)) ∧ Aside0 (Below w0.heap.size w0 wr))
 case atStart => exact ⟨0, a1, [], R, R2, rfl, rfl, rfl, by omega, by omega, H, ⟨rfl⟩, HS, HB⟩
 case round =>
  clear HB HS H
  obtain ⟨i, a, D, Rt, Qt, rfl, rfl, hD, hRt, hg, HF, HQ, HS, HB⟩ := hrel
  cases Rt with
  | nil =>
   have hz : ¬ (i : Int) < (R.length : Int) := by simp only [List.length_nil] at hRt; omega
   have hz2 : decide ((i : Int) < (R.length : Int)) = false := decide_eq_false hz
   obtain ⟨rfl, rfl⟩ : a = r1 ∧ [] = Qt := by
    have h := HF.out
    rw [laws_markIntSS.f] at h
    injection h with h
    injection h with h1 h2
    exact ⟨h1, h2⟩
   go_wp2
   go_ret
   refine ⟨rfl, ?_, HB.out⟩
   have h := HS.out
   rw [HQ.out] at h
   exact h
  | cons l Rt =>
   have hz : (i : Int) < (R.length : Int) := by simp only [List.length_cons] at hRt; omega
   have hi0 : (0 : Int) ≤ (i : Int) := by omega
   obtain ⟨⟨m, l'⟩, h1, h2⟩ := Option.bind_eq_some_iff.mp (show ((laws_markIntS.f k l a).bind fun m => (laws_markIntSS.f k Rt m.1).bind fun q => some (q.1, m.2 :: q.2)) = some (r1, Qt) from HF.out)
   obtain ⟨⟨r1', Qt'⟩, h3, h4⟩ := Option.bind_eq_some_iff.mp h2
   injection h4 with h4
   injection h4 with h5 h6
   subst h5
   subst h6
   have H1 := az h1
   have H3 := az h3
   clear h1 h2 h3 HF
   have hlen : (D ++ l :: Rt).length = R.length := by rw [List.length_append, hD]; exact hRt
   obtain ⟨g, cap, e0, _⟩ := Kd.S_form HS.out (by rw [hlen]; omega)
   injection e0 with e1 e2 e3
   subst e1
   have hS := HS.out
   obtain ⟨oki, cs, hcl, hM, hcell, hok, hH⟩ := Kd.S_lend hS [] (i : Int) (by omega) (by omega)
   rw [Int.toNat_natCast] at hM hcell
   have hget : (D ++ l :: Rt).getD i [] = l := by rw [← hD, List.getD_eq_getElem?_getD, List.getElem?_append_right (Nat.le_refl _), Nat.sub_self]; rfl
   rw [hget] at hM
   obtain ⟨u, hcs, hR⟩ := hM
   subst hcs
   obtain ⟨Al, cl, hu⟩ := Kd.R_slice hR
   subst hu
   have hx := hcell 0 _ rfl
   rw [show i * (Kd.slice 3 (Kd.int .i64)).sz + 0 = i by show i * 1 + 0 = i; omega] at hx
   have hx0 : wr.cell? ((⟨g, 0, none⟩ : Addr).add i) = some (.slice Al l.length cl) := by rw [add_plain]; exact hx
   have HR1 := az hR
   have HH := az hH
   have HOK := az hok
   have HSET := az (show (D ++ l :: Rt).set i l' = (D ++ [l']) ++ Rt by rw [← hD, List.set_append_right _ _ (Nat.le_refl _), Nat.sub_self, List.set_cons_zero, List.append_assoc]; rfl)
   clear hS hcell hR hH hok hcl hget HS e2 e3 hlen
   go_wp2_with (go_at_call 13; refine (laws_markIntS.calls k oki _ l a m l' w0 wr HB.out HR1.out H1.out).mono ?_; rintro e w' ⟨rfl, q1, q2, q3⟩; have Q1 := az q1; have Q2 := az q2; have Q3 := az q3; clear q1 q2 q3)
   go_roundg Rt.length
   case measure => simp only [List.length_cons] at hg; omega
   case rel =>
    refine ⟨i + 1, m, D ++ [l'], Rt, Qt', rfl, by go_num, by simp [hD], by simp only [List.length_cons] at hRt; omega, Nat.le_refl _, H3, ⟨by rw [← HQ.out, List.append_assoc]; rfl⟩, ⟨?_⟩, Q2⟩
    have hb := Kd.H_back (Kd.H_kept (Kd.H_widen HH.out) Q3.out (fun k _ hn hs => hn (.inl hs))) (x' := l') (okp := fun k => oki k ∨ wr.heap.size ≤ k) ⟨_, rfl, Q1.out⟩ (fun k hk => hk.elim .inl (fun h => .inr ⟨trivial, h⟩))
    rw [Int.toNat_natCast, HSET.out] at hb
    exact hb
def laws_heldIntS.l0 : Nat → List Int → Int → Int → Option (Int)
 | 0, _, _, _ => none
 | k + 1, x0, x1, x5 => if x5 < (x0.length : Int) then (if 0 ≤ x5 then (if (rd x0 x5) = x1 then (laws_heldIntS.l0 k x0 (wrap64 (x1 + 1)) (wrap64 (x5 + 1))) else (some (-1))) else (none)) else (some x1)
def laws_heldIntS.f (k : Nat) (l0 : List Int) (a1 : Int) : Option (Int) := laws_heldIntS.l0 k l0 a1 0
theorem laws_heldIntS.mono_l : ∀ k, (∀ y0 y1 y2, LeO (laws_heldIntS.l0 k y0 y1 y2) (laws_heldIntS.l0 (k + 1) y0 y1 y2))
 | 0 => fun _ _ _ r h => by simp [laws_heldIntS.l0] at h
 | k + 1 => by
  have ih0 := laws_heldIntS.mono_l k
  ·
   intro y0 y1 y2; unfold laws_heldIntS.l0
   repeat' first
   | (with_reducible exact ih0 _ _ _)
   | (with_reducible exact LeO.refl _)
   | (with_reducible exact LeO.none _)
   | (with_reducible refine LeO.ite ?_ ?_)
   | (with_reducible refine LeO.bind ?_ (fun _ => ?_))
   | exact ih0 _ _ _
   | exact LeO.none _
   | refine LeO.ite ?_ ?_
   | refine LeO.bind ?_ (fun _ => ?_)
theorem laws_heldIntS.mono : ∀ a0 a1 k, LeO (laws_heldIntS.f k a0 a1) (laws_heldIntS.f (k + 1) a0 a1) := by
 intro a0 a1 k; have ih0 := laws_heldIntS.mono_l k; unfold laws_heldIntS.f
 repeat' first
   | (with_reducible exact ih0 _ _ _)
   | (with_reducible exact LeO.refl _)
   | (with_reducible exact LeO.none _)
   | (with_reducible refine LeO.ite ?_ ?_)
   | (with_reducible refine LeO.bind ?_ (fun _ => ?_))
   | exact ih0 _ _ _
   | exact LeO.none _
   | refine LeO.ite ?_ ?_
   | refine LeO.bind ?_ (fun _ => ?_)
theorem laws_heldIntS.calls (k : Nat) (A0 : Option Addr) (c0 : Nat) (l0 : List Int) (a1 : Int) (r : Int) (w : World) (hr0 : Kd.C (Kd.int .i64) w A0 l0.length l0) (hc0 : l0.length ≤ c0) (h : laws_heldIntS.f k l0 a1 = some r) :
  Calls Try.prog 14 #[.slice A0 l0.length c0, .int .i64 a1] w fun e w' => e = .returned (.int .i64 r) ∧ Drawn0 w w' := by
 have HR0 := az hr0; have HC0 := az hc0; clear hr0 hc0; have H : (laws_heldIntS.l0 k l0 a1 0) = some r := h; clear h; have H' := az H; clear H; go_enter Try.func14, Try.ntmps14; go_wp2; go_loopg [1, 5] k (fun kq v1 v5 w' => ∃ (x1_1 : Int) (x5_1 : Int), v1 = .int .i64 x1_1 ∧ v5 = .int .i64 x5_1 ∧ Aside0 (laws_heldIntS.l0 kq l0 x1_1 x5_1 = some r) ∧ Aside0 (kq ≤ k) ∧ Drawn0 w w')
 case atStart => exact ⟨(a1), (0), (by first | rfl | (simp; done) | (simp [*]; done)), (by first | rfl | (simp; done) | (simp [*]; done)), H', ⟨Nat.le_refl _⟩, by repeat (first | exact Drawn0.refl _ | apply Drawn0.step)⟩
 case round =>
  clear H'; (try clear c1); (try clear p2); obtain ⟨x1_1, x5_1, rfl, rfl, HA, HK1, ⟨m1, rfl⟩⟩ := hrel
  cases gk with
  | zero => exact absurd HA.out (by simp [laws_heldIntS.l0])
  | succ k1 =>
   have H := HA.out; clear HA; simp only [laws_heldIntS.l0] at H; by_cases c3 : x5_1 < (l0.length : Int)
   ·
    rw [if_pos c3] at H; have c3b0 : decide (x5_1 < (l0.length : Int)) = true := decide_eq_true c3; clear c3; by_cases c4 : 0 ≤ x5_1
    ·
     rw [if_pos c4] at H; have c4b0 : decide (0 ≤ x5_1) = true := decide_eq_true c4; clear c4; by_cases c5 : (rd l0 x5_1) = x1_1
     ·
      rw [if_pos c5] at H; have c5b0 : ((rd l0 x5_1) == x1_1) = true := beq_iff_eq.mpr c5; have c5b1 : ((rd l0 x5_1) != x1_1) = false := bne_eq_false_iff_eq.mpr c5; clear c5; have H' := az H; clear H; have p175 : 0 ≤ (x5_1 : Int) := of_decide_eq_true (by assumption); have q175 : x5_1 < (l0.length : Int) := of_decide_eq_true (by assumption); obtain ⟨ad175, e175, hx175_0⟩ := Kd.at_int HR0.out x5_1 p175 q175
      cases e175
      replace p175 := eq_true p175; replace q175 := eq_true q175; go_wp2; go_roundg k1
      case measure => have := HK1.out; omega
      case rel => exact ⟨(wrap64 (x1_1 + 1)), (wrap64 (x5_1 + 1)), (by first | rfl | (simp; done) | (simp [*]; done)), (by first | rfl | (simp; done) | (simp [*]; done)), H', ⟨by have := HK1.out; omega⟩, by repeat (first | exact Drawn0.refl _ | apply Drawn0.step)⟩
     ·
      rw [if_neg c5] at H; have c5b0 : ((rd l0 x5_1) == x1_1) = false := beq_eq_false_iff_ne.mpr c5; have c5b1 : ((rd l0 x5_1) != x1_1) = true := bne_iff_ne.mpr c5; obtain rfl := Option.some.inj H; have p175 : 0 ≤ (x5_1 : Int) := of_decide_eq_true (by assumption); have q175 : x5_1 < (l0.length : Int) := of_decide_eq_true (by assumption); obtain ⟨ad175, e175, hx175_0⟩ := Kd.at_int HR0.out x5_1 p175 q175
      cases e175
      replace p175 := eq_true p175; replace q175 := eq_true q175; go_wp2; go_ret; exact ⟨by first | rfl | (simp; done) | (simp [*]; done), by repeat (first | exact Drawn0.refl _ | apply Drawn0.step)⟩
    ·
     rw [if_neg c4] at H; exact absurd H (by simp)
   ·
    rw [if_neg c3] at H; have c3b0 : decide (x5_1 < (l0.length : Int)) = false := decide_eq_false c3; clear c3; obtain rfl := Option.some.inj H; go_wp2; go_ret; exact ⟨by first | rfl | (simp; done) | (simp [*]; done), by repeat (first | exact Drawn0.refl _ | apply Drawn0.step)⟩
def laws_heldIntSS.l0 : Nat → List (List Int) → Int → Int → Option (Int)
 | 0, _, _, _ => none
 | k + 1, x0, x1, x5 => if x5 < (x0.length : Int) then (if 0 ≤ x5 then ((laws_heldIntS.f k (rd_L1 x0 x5) x1).bind fun t582 => (if t582 < 0 then (some (-1)) else (laws_heldIntSS.l0 k x0 t582 (wrap64 (x5 + 1))))) else (none)) else (some x1)
def laws_heldIntSS.f (k : Nat) (l0 : List (List Int)) (a1 : Int) : Option (Int) := laws_heldIntSS.l0 k l0 a1 0
theorem laws_heldIntSS.mono_l : ∀ k, (∀ y0 y1 y2, LeO (laws_heldIntSS.l0 k y0 y1 y2) (laws_heldIntSS.l0 (k + 1) y0 y1 y2))
 | 0 => fun _ _ _ r h => by simp [laws_heldIntSS.l0] at h
 | k + 1 => by
  have ih0 := laws_heldIntSS.mono_l k
  ·
   intro y0 y1 y2; unfold laws_heldIntSS.l0
   repeat' first
   | (with_reducible exact ih0 _ _ _)
   | (with_reducible exact laws_heldIntS.mono _ _ _)
   | (with_reducible exact LeO.refl _)
   | (with_reducible exact LeO.none _)
   | (with_reducible refine LeO.ite ?_ ?_)
   | (with_reducible refine LeO.bind ?_ (fun _ => ?_))
   | exact ih0 _ _ _
   | exact laws_heldIntS.mono _ _ _
   | exact LeO.none _
   | refine LeO.ite ?_ ?_
   | refine LeO.bind ?_ (fun _ => ?_)
theorem laws_heldIntSS.mono : ∀ a0 a1 k, LeO (laws_heldIntSS.f k a0 a1) (laws_heldIntSS.f (k + 1) a0 a1) := by
 intro a0 a1 k; have ih0 := laws_heldIntSS.mono_l k; unfold laws_heldIntSS.f
 repeat' first
   | (with_reducible exact ih0 _ _ _)
   | (with_reducible exact laws_heldIntS.mono _ _ _)
   | (with_reducible exact LeO.refl _)
   | (with_reducible exact LeO.none _)
   | (with_reducible refine LeO.ite ?_ ?_)
   | (with_reducible refine LeO.bind ?_ (fun _ => ?_))
   | exact ih0 _ _ _
   | exact laws_heldIntS.mono _ _ _
   | exact LeO.none _
   | refine LeO.ite ?_ ?_
   | refine LeO.bind ?_ (fun _ => ?_)
theorem laws_heldIntSS.calls (k : Nat) (A0 : Option Addr) (c0 : Nat) (l0 : List (List Int)) (a1 : Int) (r : Int) (w : World) (hr0 : Kd.C (Kd.slice 3 (Kd.int .i64)) w A0 l0.length l0) (hc0 : l0.length ≤ c0) (h : laws_heldIntSS.f k l0 a1 = some r) :
  Calls Try.prog 26 #[.slice A0 l0.length c0, .int .i64 a1] w fun e w' => e = .returned (.int .i64 r) ∧ Drawn0 w w' := by
 have HR0 := az hr0; have HC0 := az hc0; clear hr0 hc0; have H : (laws_heldIntSS.l0 k l0 a1 0) = some r := h; clear h; have H' := az H; clear H; go_enter Try.func26, Try.ntmps26; go_wp2; go_loopg [1, 5] k (fun kq v1 v5 w' => ∃ (x1_1 : Int) (x5_1 : Int), v1 = .int .i64 x1_1 ∧ v5 = .int .i64 x5_1 ∧ Aside0 (laws_heldIntSS.l0 kq l0 x1_1 x5_1 = some r) ∧ Aside0 (kq ≤ k) ∧ Drawn0 w w')
 case atStart => exact ⟨(a1), (0), (by first | rfl | (simp; done) | (simp [*]; done)), (by first | rfl | (simp; done) | (simp [*]; done)), H', ⟨Nat.le_refl _⟩, by repeat (first | exact Drawn0.refl _ | apply Drawn0.step)⟩
 case round =>
  clear H'; (try clear c2); (try clear p2); obtain ⟨x1_1, x5_1, rfl, rfl, HA, HK1, ⟨m1, rfl⟩⟩ := hrel
  cases gk with
  | zero => exact absurd HA.out (by simp [laws_heldIntSS.l0])
  | succ k1 =>
   have H := HA.out; clear HA; simp only [laws_heldIntSS.l0] at H; by_cases c3 : x5_1 < (l0.length : Int)
   ·
    rw [if_pos c3] at H; have c3b0 : decide (x5_1 < (l0.length : Int)) = true := decide_eq_true c3; clear c3; by_cases c4 : 0 ≤ x5_1
    ·
     rw [if_pos c4] at H; have c4b0 : decide (0 ≤ x5_1) = true := decide_eq_true c4; clear c4; replace H := Option.bind_eq_some_iff.mp H; obtain ⟨t582, A50, H⟩ := H; replace H : (if t582 < 0 then (some (-1)) else (laws_heldIntSS.l0 k1 l0 t582 (wrap64 (x5_1 + 1)))) = some r := H; have A5 := az A50; clear A50; by_cases c6 : t582 < 0
     ·
      rw [if_pos c6] at H; have c6b0 : decide (t582 < 0) = true := decide_eq_true c6; clear c6; obtain rfl := Option.some.inj H; have p581 : 0 ≤ (x5_1 : Int) := of_decide_eq_true (by assumption); have q581 : x5_1 < (l0.length : Int) := of_decide_eq_true (by assumption); obtain ⟨ad581, A581_0, c581_0, e581, hx581_0, hl581_0, hi581_0⟩ := at_L1 HR0.out x5_1 p581 q581
      cases e581
      have HR581_0 := az hi581_0; have HC581_0 := az hl581_0; clear hi581_0 hl581_0; replace p581 := eq_true p581; replace q581 := eq_true q581; go_wp2_with (first | ((with_reducible refine gate_callee (f := 14) rfl ?_); refine goesL_ (some 17) rfl rfl Try.func14 (by kernel_rfl) rfl #[.slice A581_0 (rd_L1 l0 x5_1).length c581_0, .int .i64 x1_1] rfl (by (try simp only [List.map_toArray, List.map_cons, List.map_nil]); first | done | rfl) ?_; (with_reducible refine (laws_heldIntS.calls k1 _ _ (rd_L1 l0 x5_1) x1_1 t582 _ ?side1 ?side2 A5.out).mono ?_); (case side1 => repeat (first | exact HR581_0.out | (with_reducible refine Kd.C_alloc ?_ _) | (with_reducible refine Kd.C_drewN ?_ _) | (with_reducible refine Kd.C_drew ?_))); (case side2 => exact HC581_0.out); rintro e w' ⟨rfl, ⟨nd, rfl⟩⟩; refine ⟨_, rfl, ?_⟩)); go_ret; exact ⟨by first | rfl | (simp; done) | (simp [*]; done), by repeat (first | exact Drawn0.refl _ | apply Drawn0.step)⟩
     ·
      rw [if_neg c6] at H; have c6b0 : decide (t582 < 0) = false := decide_eq_false c6; clear c6; have H' := az H; clear H; have p581 : 0 ≤ (x5_1 : Int) := of_decide_eq_true (by assumption); have q581 : x5_1 < (l0.length : Int) := of_decide_eq_true (by assumption); obtain ⟨ad581, A581_0, c581_0, e581, hx581_0, hl581_0, hi581_0⟩ := at_L1 HR0.out x5_1 p581 q581
      cases e581
      have HR581_0 := az hi581_0; have HC581_0 := az hl581_0; clear hi581_0 hl581_0; replace p581 := eq_true p581; replace q581 := eq_true q581; go_wp2_with (first | ((with_reducible refine gate_callee (f := 14) rfl ?_); refine goesL_ (some 17) rfl rfl Try.func14 (by kernel_rfl) rfl #[.slice A581_0 (rd_L1 l0 x5_1).length c581_0, .int .i64 x1_1] rfl (by (try simp only [List.map_toArray, List.map_cons, List.map_nil]); first | done | rfl) ?_; (with_reducible refine (laws_heldIntS.calls k1 _ _ (rd_L1 l0 x5_1) x1_1 t582 _ ?side1 ?side2 A5.out).mono ?_); (case side1 => repeat (first | exact HR581_0.out | (with_reducible refine Kd.C_alloc ?_ _) | (with_reducible refine Kd.C_drewN ?_ _) | (with_reducible refine Kd.C_drew ?_))); (case side2 => exact HC581_0.out); rintro e w' ⟨rfl, ⟨nd, rfl⟩⟩; refine ⟨_, rfl, ?_⟩)); go_roundg k1
      case measure => have := HK1.out; omega
      case rel => exact ⟨(t582), (wrap64 (x5_1 + 1)), (by first | rfl | (simp; done) | (simp [*]; done)), (by first | rfl | (simp; done) | (simp [*]; done)), H', ⟨by have := HK1.out; omega⟩, by repeat (first | exact Drawn0.refl _ | apply Drawn0.step)⟩
    ·
     rw [if_neg c4] at H; exact absurd H (by simp)
   ·
    rw [if_neg c3] at H; have c3b0 : decide (x5_1 < (l0.length : Int)) = false := decide_eq_false c3; clear c3; obtain rfl := Option.some.inj H; go_wp2; go_ret; exact ⟨by first | rfl | (simp; done) | (simp [*]; done), by repeat (first | exact Drawn0.refl _ | apply Drawn0.step)⟩
def laws_FnExactLevelRuns.f (k : Nat) (l0 : List Int) (b : Int) : Option Bool := if (l0.length : Int) > 1048576 then some true else (laws_toIntS.f k l0).bind fun t => (spec_LevelRuns.f k t b).bind fun W => (impl_LevelRuns.f t b).bind fun G => (laws_eqIntSS.f k G W).bind fun b1 => (laws_eqIntS.f k t t).bind fun b2 => (laws_markIntS.f k t 1).bind fun mk => (laws_markIntSS.f k G 1).bind fun mg => (laws_heldIntSS.f k mg.2 1).bind fun q => if b1 = true ∧ b2 = true ∧ 0 ≤ mk.1 ∧ 0 ≤ q ∧ q = mg.1 ∧ G.length ≤ 100000 then some true else none
theorem laws_FnExactLevelRuns.calls (k : Nat) (A0 : Option Addr) (c0 : Nat) (l0 : List Int) (b : Int) (r : Bool) (w : World) (hr0 : Kd.C (Kd.int .i64) w A0 l0.length l0) (hc0 : l0.length ≤ c0) (h : laws_FnExactLevelRuns.f k l0 b = some r) :
  Calls Try.prog 7 #[.slice A0 l0.length c0, .int .i64 b] w fun e w' => e = .returned (.bool r) ∧ Below w.heap.size w w' := by
 have HR := az hr0
 have HC := az hc0
 clear hr0 hc0
 unfold laws_FnExactLevelRuns.f at h
 by_cases hbig : (l0.length : Int) > 1048576
 ·
  rw [if_pos hbig] at h
  obtain rfl := Option.some.inj h
  have d0 : decide (1048576 < (l0.length : Int)) = true := decide_eq_true (by omega)
  clear h hbig
  go_enter Try.func7, Try.ntmps7
  go_wp2
  go_ret
  exact ⟨rfl, Below.refl _ _⟩
 rw [if_neg hbig] at h
 have d0 : decide (1048576 < (l0.length : Int)) = false := decide_eq_false (by omega)
 obtain ⟨t, h1, h⟩ := Option.bind_eq_some_iff.mp h
 obtain ⟨W, h2, h⟩ := Option.bind_eq_some_iff.mp h
 obtain ⟨G, h3, h⟩ := Option.bind_eq_some_iff.mp h
 obtain ⟨b1, h4, h⟩ := Option.bind_eq_some_iff.mp h
 obtain ⟨b2, h5, h⟩ := Option.bind_eq_some_iff.mp h
 obtain ⟨⟨mk, mt⟩, h6, h⟩ := Option.bind_eq_some_iff.mp h
 obtain ⟨⟨mg, G2⟩, h7, h⟩ := Option.bind_eq_some_iff.mp h
 obtain ⟨q, h8, h⟩ := Option.bind_eq_some_iff.mp h
 by_cases hall : b1 = true ∧ b2 = true ∧ 0 ≤ mk ∧ 0 ≤ q ∧ q = mg ∧ G.length ≤ 100000
 case neg => rw [if_neg hall] at h; cases h
 case pos =>
 rw [if_pos hall] at h
 obtain rfl := Option.some.inj h
 obtain ⟨rfl, rfl, hmk, hq, rfl, hG⟩ := hall
 have H1 := az h1
 have H2 := az h2
 have H3 := az h3
 have H4 := az h4
 have H5 := az h5
 have H6 := az h6
 have H7 := az h7
 have H8 := az h8
 have HG := az hG
 have d1 : decide (mk < 0) = false := decide_eq_false (by omega)
 have d2 : decide (q < 0) = false := decide_eq_false (by omega)
 have d3 : (q != q) = false := bne_self_eq_false q
 have d4 : (q == q) = true := beq_self_eq_true q
 clear h h1 h2 h3 h4 h5 h6 h7 h8 hbig hG
 go_enter Try.func7, Try.ntmps7
 go_upto_region 4 with (first
  | (go_at_call 10; refine (laws_toIntS.calls k _ _ l0 t _ HR.out HC.out H1.out).mono ?_; rintro e w1 ⟨v1, rfl, q1, p1⟩; obtain ⟨A1, c1, hv, hl, hC⟩ := Kd.R_reads q1; subst hv; have T1 := az hC; have T2 := az hl; have B1 := az p1; clear q1 p1 hl hC)
  | (go_at_call 22; refine (spec_LevelRuns.calls k A1 c1 t b W _ T1.out T2.out H2.out).mono ?_; rintro e w2 ⟨v2, rfl, q2, p2⟩; obtain ⟨AW, cW, hv, hl, hC⟩ := Kd.S_reads q2; subst hv; have W1 := az hC; have W2 := az hl; have B2 := az (below_then B1.out B1.out.size p2); clear q2 p2 hl hC T1 T2 B1))
 go_upto_region 5 with (go_at_call 10; refine (laws_toIntS.calls k _ _ l0 t _ (Kd.C_below HR.out B2.out) HC.out H1.out).mono ?_; rintro e w3 ⟨v3, rfl, q3, p3⟩; obtain ⟨AX, cX, hv⟩ := Kd.R_slice q3; subst hv; have X1 := az (Kd.R_mono (ok' := fun k => k < w3.heap.size) (Kd.R_bound q3) (fun k hk => hk.2.2.1)); have B23 := az p3; clear q3 p3)
 obtain ⟨_, hXl, hXC⟩ := Kd.R_reads' X1.out
 have X2 := az hXl
 have X3 := az hXC
 clear hXl hXC
 go_upto_region 6 with (go_at_call 23; refine (impl_LevelRuns.calls AX cX t b G _ X3.out X2.out H3.out).mono ?_; rintro e w4 ⟨v4, rfl, q4, p4⟩; obtain ⟨AG, cG, hv⟩ := Kd.S_slice q4; subst hv; have G1 := az q4; have B34 := az p4; clear q4 p4)
 obtain ⟨_, hGl, hGC⟩ := Kd.S_reads' G1.out
 have G2c := az hGl
 have G3 := az hGC
 have B24 := az (below_then B23.out B23.out.size B34.out)
 clear hGl hGC
 go_upto_region 8 with (go_at_call 24; refine (laws_eqIntSS.calls k AG cG G AW cW W true _ G3.out G2c.out (Kd.C_below W1.out B24.out) W2.out H4.out).mono ?_; rintro e w5 ⟨rfl, ⟨n5, rfl⟩⟩)
 have B25 := az (pw_below_drewN B24.out n5)
 have B35 := az (pw_below_drewN B34.out n5)
 have G5 := az (Kd.S_drewN G1.out n5)
 clear B24 B34 G3 G1
 generalize w4.drewN n5 = w5 at B25 B35 G5 ⊢
 go_upto_region 11 with (first
  | (go_at_call 10; refine (laws_toIntS.calls k _ _ l0 t _ (Kd.C_below HR.out (below_then B2.out B2.out.size B25.out)) HC.out H1.out).mono ?_; rintro e w6 ⟨v6, rfl, q6, p6⟩; obtain ⟨A6, c6, hv, hl, hC⟩ := Kd.R_reads q6; subst hv; have T1 := az hC; have T2 := az hl; have B26 := az (below_then B25.out B25.out.size p6); have B36 := az (below_then B35.out B35.out.size p6); have G6 := az (Kd.S_below G5.out p6); clear q6 p6 hl hC)
  | (go_at_call 12; refine (laws_eqIntS.calls k AX cX t A6 c6 t true _ (Kd.C_below X3.out B36.out) X2.out T1.out T2.out H5.out).mono ?_; rintro e w7 ⟨rfl, ⟨n7, rfl⟩⟩))
 have B27 := az (pw_below_drewN B26.out n7)
 have B37 := az (pw_below_drewN B36.out n7)
 have G7 := az (Kd.S_drewN G6.out n7)
 clear B25 B35 B26 B36 G5 G6 T1 T2
 generalize w6.drewN n7 = w7 at B27 B37 G7 ⊢
 go_upto_region 12 with (go_at_call 13; refine (laws_markIntS.calls k (fun k => k < w3.heap.size) _ t 1 mk mt w2 _ B27.out (Kd.R_below X1.out B37.out) H6.out).mono ?_; rintro e w8 ⟨rfl, _, q8, p8⟩; have B28 := az q8; have G8 := az (Kd.S_mono (ok' := fun _ => True) (Kd.S_kept (Kd.S_bound G7.out) p8 (fun k h1 h2 => absurd h2 (by omega))) (fun _ _ => trivial)); clear q8 p8)
 clear B27 B37 G7 X1 X2 X3
 go_upto_region 15 with (go_at_call 24; refine (laws_eqIntSS.calls k AG cG G AW cW W true _ (Kd.S_reads' G8.out).2.2 G2c.out (Kd.C_below W1.out B28.out) W2.out H4.out).mono ?_; rintro e w9 ⟨rfl, ⟨n9, rfl⟩⟩)
 have B29 := az (pw_below_drewN B28.out n9)
 have G9 := az (Kd.S_lower (Kd.S_drewN G8.out n9) B23.out.size)
 clear B28 G8
 generalize w8.drewN n9 = w9 at B29 G9 ⊢
 go_upto_region 16 with (go_at_call 25; refine (laws_markIntSS.calls k _ G 1 q G2 w2 _ B29.out G9.out HG.out H7.out).mono ?_; rintro e wa ⟨rfl, qa, pa⟩; have B2a := az pa; have Ga := az qa; clear qa pa)
 clear B29 G9
 obtain ⟨hGn, hGl, hGC⟩ := Kd.S_reads' Ga.out
 have GN := az hGn
 have GL := az (show G2.length ≤ cG by omega)
 have GC := az hGC
 clear hGn hGl hGC
 go_upto_region 22 with (go_at_call 26; rw [GN.out]; refine (laws_heldIntSS.calls k AG cG G2 1 q _ GC.out GL.out H8.out).mono ?_; rintro e wb ⟨rfl, ⟨nb, rfl⟩⟩)
 have B2b := az (pw_below_drewN B2a.out nb)
 have GCb := az (Kd.C_drewN GC.out nb)
 clear B2a GC
 generalize wa.drewN nb = wb at B2b GCb ⊢
 go_upto_region 23 with (first
  | (go_at_call 10; refine (laws_toIntS.calls k _ _ l0 t _ (Kd.C_below HR.out (below_then B2.out B2.out.size B2b.out)) HC.out H1.out).mono ?_; rintro e wc ⟨vc, rfl, qc, pc⟩; obtain ⟨Ac, cc, hv, hl, hC⟩ := Kd.R_reads qc; subst hv; have T1 := az hC; have T2 := az hl; have B2c := az (below_then B2b.out B2b.out.size pc); have GCc := az (Kd.C_below GCb.out pc); clear qc pc hl hC)
  | (go_at_call 23; refine (impl_LevelRuns.calls Ac cc t b G _ T1.out T2.out H3.out).mono ?_; rintro e wd ⟨vd, rfl, qd, pd⟩; obtain ⟨AH, cH, hv, hl, hC⟩ := Kd.S_reads qd; subst hv; have Hd := az hC; have Hl := az hl; have B2d := az (below_then B2c.out B2c.out.size pd); have GCd := az (Kd.C_below GCc.out pd); clear qd pd hl hC))
 go_wp2_with (first
  | (go_at_call 24; refine (laws_eqIntSS.calls k AH cH G AW cW W true _ Hd.out Hl.out (Kd.C_below W1.out B2d.out) W2.out H4.out).mono ?_; rintro e we ⟨rfl, ⟨ne, rfl⟩⟩)
  | (go_at_call 26; (try rw [GN.out]); refine (laws_heldIntSS.calls k AG cG G2 1 q _ (Kd.C_drewN GCd.out ne) GL.out H8.out).mono ?_; rintro e wf ⟨rfl, ⟨nf, rfl⟩⟩))
 go_ret
 exact ⟨rfl, below_then B2.out B2.out.size (pw_below_drewN B2d.out (ne + nf))⟩
end Go.Proofs.Ytojehfdioeglgaa.S
/- What a search by halves in an ascending row of reaches finds: the first reach that holds the number. -/
namespace Go.Proofs.Ytojehfdioeglgaa.Pure
open Go.RowKit Go.Proofs.Ytojehfdioeglgaa.S Go.Proofs.YtojehfdioeglgaaW.PrintWords Go.Proofs.YtojehfdioeglgaaW.PrintLast
theorem cmpR_neg {x : S108} {r : Int} (h : x.f0 ≤ x.f1) : cmpR x r < 0 ↔ x.f1 < r := by
 unfold cmpR; split
 · omega
 ·
  split
  · omega
  · split <;> omega
theorem cmpR_zero {x : S108} {r : Int} (h : x.f0 ≤ x.f1) : cmpR x r = 0 ↔ x.f0 ≤ r ∧ r ≤ x.f1 := by
 unfold cmpR; split
 · omega
 ·
  split
  · omega
  · split <;> omega
def inR (r : Int) (x : S108) : Bool := decide (x.f0 ≤ r) && decide (r ≤ x.f1)
theorem inR_iff {r : Int} {x : S108} : inR r x = true ↔ x.f0 ≤ r ∧ r ≤ x.f1 := by simp [inR]
theorem inR_not {r : Int} {x : S108} (h : ¬ (x.f0 ≤ r ∧ r ≤ x.f1)) : inR r x = false := by
 cases e : inR r x
 · rfl
 · exact absurd (inR_iff.1 e) h
def ascR : List S108 → Bool
 | [] => true
 | x :: l => decide (x.f0 ≤ x.f1) && l.all (fun y => decide (x.f1 < y.f0)) && ascR l
theorem ascR_le : ∀ {l : List S108}, ascR l = true → ∀ t, t < l.length → (l.getD t z108).f0 ≤ (l.getD t z108).f1
 | x :: l, h, 0, _ => by simp [ascR] at h; simpa using h.1.1
 | x :: l, h, t + 1, ht => by simp [ascR] at h; simpa using ascR_le (l := l) h.2 t (by simpa using ht)
theorem ascR_lt : ∀ {l : List S108}, ascR l = true → ∀ s t, s < t → t < l.length → (l.getD s z108).f1 < (l.getD t z108).f0
 | x :: l, h, 0, t + 1, _, ht => by
  simp [ascR] at h
  have ht' : t < l.length := by simpa using ht
  simpa [List.getD_eq_getElem?_getD, ht'] using h.1.2 (l[t]) (List.getElem_mem ht')
 | x :: l, h, s + 1, t + 1, hst, ht => by simp [ascR] at h; simpa using ascR_lt (l := l) h.2 s t (by omega) (by simpa using ht)
theorem bsR_bounds {l : List S108} {r : Int} (ha : ascR l = true) : ∀ (k lo hi : Nat), hi - lo ≤ k → lo ≤ hi → hi ≤ l.length →
  (∀ t, t < lo → (l.getD t z108).f1 < r) → (∀ t, hi ≤ t → t < l.length → r ≤ (l.getD t z108).f1) →
  bsR l r k lo hi ≤ l.length ∧ (∀ t, t < bsR l r k lo hi → (l.getD t z108).f1 < r) ∧ (∀ t, bsR l r k lo hi ≤ t → t < l.length → r ≤ (l.getD t z108).f1)
 | 0, lo, hi, hk, hlh, hn, h1, h2 => by
  obtain rfl : lo = hi := by omega
  exact ⟨hn, h1, h2⟩
 | k + 1, lo, hi, hk, hlh, hn, h1, h2 => by
  rw [bsR]
  by_cases hlt : lo < hi
  ·
   rw [if_pos hlt]
   have hm : (lo + hi) / 2 < l.length := by omega
   have hle := ascR_le ha _ hm
   by_cases hc : cmpR (l.getD ((lo + hi) / 2) z108) r < 0
   ·
    rw [if_pos hc]
    refine bsR_bounds ha k _ hi (by omega) (by omega) hn (fun t ht => ?_) h2
    have hc' := (cmpR_neg hle).1 hc
    by_cases e : t = (lo + hi) / 2
    · rw [e]; exact hc'
    ·
     have := ascR_lt ha t ((lo + hi) / 2) (by omega) hm
     omega
   ·
    rw [if_neg hc]
    refine bsR_bounds ha k lo _ (by omega) (by omega) (by omega) h1 (fun t ht htn => ?_)
    have hc' : r ≤ (l.getD ((lo + hi) / 2) z108).f1 := by
     have := (cmpR_neg (r := r) hle).2
     omega
    by_cases e : t = (lo + hi) / 2
    · rw [e]; exact hc'
    ·
     have a := ascR_lt ha ((lo + hi) / 2) t (by omega) htn
     have b := ascR_le ha t htn
     omega
  ·
   rw [if_neg hlt]
   obtain rfl : lo = hi := by omega
   exact ⟨hn, h1, h2⟩
theorem find?_at {l : List S108} {p : S108 → Bool} {i : Nat} (hi : i < l.length) (hp : p (l.getD i z108) = true) (hb : ∀ t, t < i → p (l.getD t z108) = false) : l.find? p = some (l.getD i z108) := by
 induction l generalizing i with
 | nil => simp at hi
 | cons x l ih =>
  cases i with
  | zero => simp at hp ⊢; simp [hp]
  | succ i =>
   have h0 : p x = false := by simpa using hb 0 (by omega)
   rw [List.find?_cons, h0]
   simpa using ih (i := i) (by simpa using hi) (by simpa using hp) (fun t ht => by simpa using hb (t + 1) (by omega))
theorem find?_none' {l : List S108} {p : S108 → Bool} (hb : ∀ t, t < l.length → p (l.getD t z108) = false) : l.find? p = none := by
 rw [List.find?_eq_none]
 intro x hx
 obtain ⟨t, ht, rfl⟩ := List.getElem_of_mem hx
 have := hb t ht
 simpa [List.getD_eq_getElem?_getD, ht] using this
theorem findV_eq {l : List S108} (ha : ascR l = true) (r o : Int) : findV l r o = match l.find? (inR r) with | some x => x.f2 | none => o := by
 obtain ⟨hn, h1, h2⟩ := bsR_bounds (r := r) ha l.length 0 l.length (by omega) (by omega) (Nat.le_refl _) (fun t ht => absurd ht (Nat.not_lt_zero _)) (fun t h h' => by omega)
 unfold findV
 generalize bsR l r l.length 0 l.length = i at hn h1 h2
 by_cases hc : i < l.length ∧ cmpR (l.getD i z108) r = 0
 ·
  rw [if_pos hc]
  have hz := (cmpR_zero (ascR_le ha i hc.1)).1 hc.2
  rw [find?_at hc.1 (inR_iff.2 hz) (fun t ht => inR_not (by have := h1 t ht; omega))]
 ·
  rw [if_neg hc]
  rw [find?_none' (fun t ht => ?_)]
  by_cases hlt : t < i
  · have := h1 t hlt; exact inR_not (by omega)
  ·
   have hi : i < l.length := by omega
   have hz : ¬ ((l.getD i z108).f0 ≤ r ∧ r ≤ (l.getD i z108).f1) := fun hh => hc ⟨hi, (cmpR_zero (ascR_le ha i hi)).2 hh⟩
   have hr := h2 i (Nat.le_refl _) hi
   by_cases e : t = i
   · rw [e]; exact inR_not hz
   ·
    have := ascR_lt ha i t (by omega) ht
    exact inR_not (by omega)
end Go.Proofs.Ytojehfdioeglgaa.Pure
/- The direction of a letter, by both texts. -/
namespace Go.Proofs.Ytojehfdioeglgaa.Pure
open Go.RowKit Go.Proofs.Ytojehfdioeglgaa.S Go.Proofs.YtojehfdioeglgaaW.PrintWords Go.Proofs.YtojehfdioeglgaaW.PrintLast
theorem l1In_b (a b c : Int) : spec_l1In.f a b c = some (decide (b ≤ a) && decide (a ≤ c)) := by
 unfold spec_l1In.f
 by_cases h : b ≤ a <;> simp [h]
def moveV (a : Int) : Int := if a = 8234 then 14 else if a = 8235 then 15 else if a = 8236 then 16 else if a = 8237 then 17 else if a = 8238 then 18 else if a = 8294 then 19 else if a = 8295 then 20 else if a = 8296 then 21 else if a = 8297 then 22 else 13
def bidiV (a : Int) : Int := if 97 ≤ a ∧ a ≤ 122 then 1 else if 65 ≤ a ∧ a ≤ 90 then 1 else if 19968 ≤ a ∧ a ≤ 40959 then 1 else if 1488 ≤ a ∧ a ≤ 1514 then 2 else if 1569 ≤ a ∧ a ≤ 1610 then 3 else if 48 ≤ a ∧ a ≤ 57 then 4 else if 1632 ≤ a ∧ a ≤ 1641 then 7
 else if a = 43 then 5 else if a = 45 then 5 else if 35 ≤ a ∧ a ≤ 37 then 6 else if a = 44 then 8 else if a = 46 then 8 else if a = 47 then 8 else if a = 58 then 8 else if 768 ≤ a ∧ a ≤ 879 then 9
 else if a = 8203 then 10 else if a = 8205 then 10 else if a = 173 then 10 else if a = 9 then 11 else if a = 32 then 12 else moveV a
theorem moves_p (k : Nat) (a : Int) : spec_l1Moves.f (k + 10) a = some (moveV a) := by
 by_cases h1 : a = 8234
 · subst h1; simp [spec_l1Moves.f, spec_l1Moves.l0, rd, wrap64, moveV]
 by_cases h2 : a = 8235
 · subst h2; simp [spec_l1Moves.f, spec_l1Moves.l0, rd, wrap64, moveV]
 by_cases h3 : a = 8236
 · subst h3; simp [spec_l1Moves.f, spec_l1Moves.l0, rd, wrap64, moveV]
 by_cases h4 : a = 8237
 · subst h4; simp [spec_l1Moves.f, spec_l1Moves.l0, rd, wrap64, moveV]
 by_cases h5 : a = 8238
 · subst h5; simp [spec_l1Moves.f, spec_l1Moves.l0, rd, wrap64, moveV]
 by_cases h6 : a = 8294
 · subst h6; simp [spec_l1Moves.f, spec_l1Moves.l0, rd, wrap64, moveV]
 by_cases h7 : a = 8295
 · subst h7; simp [spec_l1Moves.f, spec_l1Moves.l0, rd, wrap64, moveV]
 by_cases h8 : a = 8296
 · subst h8; simp [spec_l1Moves.f, spec_l1Moves.l0, rd, wrap64, moveV]
 by_cases h9 : a = 8297
 · subst h9; simp [spec_l1Moves.f, spec_l1Moves.l0, rd, wrap64, moveV]
 have e : moveV a = 13 := by simp [moveV, h1, h2, h3, h4, h5, h6, h7, h8, h9]
 simp [spec_l1Moves.f, spec_l1Moves.l0, rd, wrap64, e, Ne.symm h1, Ne.symm h2, Ne.symm h3, Ne.symm h4, Ne.symm h5, Ne.symm h6, Ne.symm h7, Ne.symm h8, Ne.symm h9]
theorem signs_p (k : Nat) (a : Int) : spec_l1Signs.f (k + 13) a = some (if a = 43 then 5 else if a = 45 then 5 else if 35 ≤ a ∧ a ≤ 37 then 6 else if a = 44 then 8 else if a = 46 then 8 else if a = 47 then 8 else if a = 58 then 8 else if 768 ≤ a ∧ a ≤ 879 then 9
 else if a = 8203 then 10 else if a = 8205 then 10 else if a = 173 then 10 else if a = 9 then 11 else if a = 32 then 12 else moveV a) := by
 simp only [spec_l1Signs.f, spec_l1Signs.j0, spec_l1Signs.j1, spec_l1Signs.j2, l1In_b, Option.bind_some, moves_p]
 grind (splits := 40)
theorem spec_bidi_p (k : Nat) (a : Int) : spec_RuneBidi.f (k + 14) a = some (bidiV a) := by
 simp only [spec_RuneBidi.f, spec_RuneBidi.j0, l1In_b, Option.bind_some, signs_p, bidiV]
 grind (splits := 40)
theorem spec_bidi_k {k : Nat} (h : 14 ≤ k) (a : Int) : spec_RuneBidi.f k a = some (bidiV a) := by
 obtain ⟨k, rfl⟩ : ∃ m, k = m + 14 := ⟨k - 14, by omega⟩
 exact spec_bidi_p k a
theorem find_if {α : Type} (p : α → Bool) (x : α) (l : List α) : (x :: l).find? p = if p x = true then some x else l.find? p := by
 cases h : p x <;> simp [h]
theorem bidi_chain (a : Int) : (if 9 ≤ a ∧ a ≤ 9 then (11 : Int) else if 32 ≤ a ∧ a ≤ 32 then (12 : Int) else if 35 ≤ a ∧ a ≤ 37 then (6 : Int) else if 43 ≤ a ∧ a ≤ 43 then (5 : Int) else if 44 ≤ a ∧ a ≤ 44 then (8 : Int) else if 45 ≤ a ∧ a ≤ 45 then (5 : Int) else if 46 ≤ a ∧ a ≤ 47 then (8 : Int) else if 48 ≤ a ∧ a ≤ 57 then (4 : Int) else if 58 ≤ a ∧ a ≤ 58 then (8 : Int) else if 65 ≤ a ∧ a ≤ 90 then (1 : Int) else if 97 ≤ a ∧ a ≤ 122 then (1 : Int) else if 173 ≤ a ∧ a ≤ 173 then (10 : Int) else if 768 ≤ a ∧ a ≤ 879 then (9 : Int) else if 1488 ≤ a ∧ a ≤ 1514 then (2 : Int) else if 1569 ≤ a ∧ a ≤ 1610 then (3 : Int) else if 1632 ≤ a ∧ a ≤ 1641 then (7 : Int) else if 8203 ≤ a ∧ a ≤ 8203 then (10 : Int) else if 8205 ≤ a ∧ a ≤ 8205 then (10 : Int) else if 8234 ≤ a ∧ a ≤ 8234 then (14 : Int) else if 8235 ≤ a ∧ a ≤ 8235 then (15 : Int) else if 8236 ≤ a ∧ a ≤ 8236 then (16 : Int) else if 8237 ≤ a ∧ a ≤ 8237 then (17 : Int) else if 8238 ≤ a ∧ a ≤ 8238 then (18 : Int) else if 8294 ≤ a ∧ a ≤ 8294 then (19 : Int) else if 8295 ≤ a ∧ a ≤ 8295 then (20 : Int) else if 8296 ≤ a ∧ a ≤ 8296 then (21 : Int) else if 8297 ≤ a ∧ a ≤ 8297 then (22 : Int) else if 19968 ≤ a ∧ a ≤ 40959 then (1 : Int) else 13) = bidiV a := by
 unfold bidiV moveV
 by_cases h0 : a < 9
 · (repeat (first | rw [if_pos (by omega)] | rw [if_neg (by omega)])) <;> try rfl
 by_cases h1 : a < 10
 · (repeat (first | rw [if_pos (by omega)] | rw [if_neg (by omega)])) <;> try rfl
 clear h0
 by_cases h2 : a < 32
 · (repeat (first | rw [if_pos (by omega)] | rw [if_neg (by omega)])) <;> try rfl
 clear h1
 by_cases h3 : a < 33
 · (repeat (first | rw [if_pos (by omega)] | rw [if_neg (by omega)])) <;> try rfl
 clear h2
 by_cases h4 : a < 35
 · (repeat (first | rw [if_pos (by omega)] | rw [if_neg (by omega)])) <;> try rfl
 clear h3
 by_cases h5 : a < 38
 · (repeat (first | rw [if_pos (by omega)] | rw [if_neg (by omega)])) <;> try rfl
 clear h4
 by_cases h6 : a < 43
 · (repeat (first | rw [if_pos (by omega)] | rw [if_neg (by omega)])) <;> try rfl
 clear h5
 by_cases h7 : a < 44
 · (repeat (first | rw [if_pos (by omega)] | rw [if_neg (by omega)])) <;> try rfl
 clear h6
 by_cases h8 : a < 45
 · (repeat (first | rw [if_pos (by omega)] | rw [if_neg (by omega)])) <;> try rfl
 clear h7
 by_cases h9 : a < 46
 · (repeat (first | rw [if_pos (by omega)] | rw [if_neg (by omega)])) <;> try rfl
 clear h8
 by_cases h90 : a < 47
 · (repeat (first | rw [if_pos (by omega)] | rw [if_neg (by omega)])) <;> try rfl
 clear h9
 by_cases h10 : a < 48
 · (repeat (first | rw [if_pos (by omega)] | rw [if_neg (by omega)])) <;> try rfl
 clear h90
 by_cases h11 : a < 58
 · (repeat (first | rw [if_pos (by omega)] | rw [if_neg (by omega)])) <;> try rfl
 clear h10
 by_cases h12 : a < 59
 · (repeat (first | rw [if_pos (by omega)] | rw [if_neg (by omega)])) <;> try rfl
 clear h11
 by_cases h13 : a < 65
 · (repeat (first | rw [if_pos (by omega)] | rw [if_neg (by omega)])) <;> try rfl
 clear h12
 by_cases h14 : a < 91
 · (repeat (first | rw [if_pos (by omega)] | rw [if_neg (by omega)])) <;> try rfl
 clear h13
 by_cases h15 : a < 97
 · (repeat (first | rw [if_pos (by omega)] | rw [if_neg (by omega)])) <;> try rfl
 clear h14
 by_cases h16 : a < 123
 · (repeat (first | rw [if_pos (by omega)] | rw [if_neg (by omega)])) <;> try rfl
 clear h15
 by_cases h17 : a < 173
 · (repeat (first | rw [if_pos (by omega)] | rw [if_neg (by omega)])) <;> try rfl
 clear h16
 by_cases h18 : a < 174
 · (repeat (first | rw [if_pos (by omega)] | rw [if_neg (by omega)])) <;> try rfl
 clear h17
 by_cases h19 : a < 768
 · (repeat (first | rw [if_pos (by omega)] | rw [if_neg (by omega)])) <;> try rfl
 clear h18
 by_cases h20 : a < 880
 · (repeat (first | rw [if_pos (by omega)] | rw [if_neg (by omega)])) <;> try rfl
 clear h19
 by_cases h21 : a < 1488
 · (repeat (first | rw [if_pos (by omega)] | rw [if_neg (by omega)])) <;> try rfl
 clear h20
 by_cases h22 : a < 1515
 · (repeat (first | rw [if_pos (by omega)] | rw [if_neg (by omega)])) <;> try rfl
 clear h21
 by_cases h23 : a < 1569
 · (repeat (first | rw [if_pos (by omega)] | rw [if_neg (by omega)])) <;> try rfl
 clear h22
 by_cases h24 : a < 1611
 · (repeat (first | rw [if_pos (by omega)] | rw [if_neg (by omega)])) <;> try rfl
 clear h23
 by_cases h25 : a < 1632
 · (repeat (first | rw [if_pos (by omega)] | rw [if_neg (by omega)])) <;> try rfl
 clear h24
 by_cases h26 : a < 1642
 · (repeat (first | rw [if_pos (by omega)] | rw [if_neg (by omega)])) <;> try rfl
 clear h25
 by_cases h27 : a < 8203
 · (repeat (first | rw [if_pos (by omega)] | rw [if_neg (by omega)])) <;> try rfl
 clear h26
 by_cases h28 : a < 8204
 · (repeat (first | rw [if_pos (by omega)] | rw [if_neg (by omega)])) <;> try rfl
 clear h27
 by_cases h29 : a < 8205
 · (repeat (first | rw [if_pos (by omega)] | rw [if_neg (by omega)])) <;> try rfl
 clear h28
 by_cases h30 : a < 8206
 · (repeat (first | rw [if_pos (by omega)] | rw [if_neg (by omega)])) <;> try rfl
 clear h29
 by_cases h31 : a < 8234
 · (repeat (first | rw [if_pos (by omega)] | rw [if_neg (by omega)])) <;> try rfl
 clear h30
 by_cases h32 : a < 8235
 · (repeat (first | rw [if_pos (by omega)] | rw [if_neg (by omega)])) <;> try rfl
 clear h31
 by_cases h33 : a < 8236
 · (repeat (first | rw [if_pos (by omega)] | rw [if_neg (by omega)])) <;> try rfl
 clear h32
 by_cases h34 : a < 8237
 · (repeat (first | rw [if_pos (by omega)] | rw [if_neg (by omega)])) <;> try rfl
 clear h33
 by_cases h35 : a < 8238
 · (repeat (first | rw [if_pos (by omega)] | rw [if_neg (by omega)])) <;> try rfl
 clear h34
 by_cases h36 : a < 8239
 · (repeat (first | rw [if_pos (by omega)] | rw [if_neg (by omega)])) <;> try rfl
 clear h35
 by_cases h37 : a < 8294
 · (repeat (first | rw [if_pos (by omega)] | rw [if_neg (by omega)])) <;> try rfl
 clear h36
 by_cases h38 : a < 8295
 · (repeat (first | rw [if_pos (by omega)] | rw [if_neg (by omega)])) <;> try rfl
 clear h37
 by_cases h39 : a < 8296
 · (repeat (first | rw [if_pos (by omega)] | rw [if_neg (by omega)])) <;> try rfl
 clear h38
 by_cases h40 : a < 8297
 · (repeat (first | rw [if_pos (by omega)] | rw [if_neg (by omega)])) <;> try rfl
 clear h39
 by_cases h41 : a < 8298
 · (repeat (first | rw [if_pos (by omega)] | rw [if_neg (by omega)])) <;> try rfl
 clear h40
 by_cases h42 : a < 19968
 · (repeat (first | rw [if_pos (by omega)] | rw [if_neg (by omega)])) <;> try rfl
 clear h41
 by_cases h43 : a < 40960
 · (repeat (first | rw [if_pos (by omega)] | rw [if_neg (by omega)])) <;> try rfl
 clear h42
 (repeat (first | rw [if_pos (by omega)] | rw [if_neg (by omega)])) <;> try rfl
theorem impl_bidi_p (a : Int) : impl_RuneBidi.f a = some (bidiV a) := by
 unfold impl_RuneBidi.f impl_bidiReaches.f impl_find.f
 rw [Option.bind_some, if_pos (by decide), findV_eq (by decide), ← bidi_chain]
 simp only [Option.bind_some, find_if, List.find?_nil, inR_iff]
 congr 1
 by_cases h : 9 ≤ a ∧ a ≤ 9
 · simp only [if_pos h]
 simp only [if_neg h]; clear h
 by_cases h : 32 ≤ a ∧ a ≤ 32
 · simp only [if_pos h]
 simp only [if_neg h]; clear h
 by_cases h : 35 ≤ a ∧ a ≤ 37
 · simp only [if_pos h]
 simp only [if_neg h]; clear h
 by_cases h : 43 ≤ a ∧ a ≤ 43
 · simp only [if_pos h]
 simp only [if_neg h]; clear h
 by_cases h : 44 ≤ a ∧ a ≤ 44
 · simp only [if_pos h]
 simp only [if_neg h]; clear h
 by_cases h : 45 ≤ a ∧ a ≤ 45
 · simp only [if_pos h]
 simp only [if_neg h]; clear h
 by_cases h : 46 ≤ a ∧ a ≤ 47
 · simp only [if_pos h]
 simp only [if_neg h]; clear h
 by_cases h : 48 ≤ a ∧ a ≤ 57
 · simp only [if_pos h]
 simp only [if_neg h]; clear h
 by_cases h : 58 ≤ a ∧ a ≤ 58
 · simp only [if_pos h]
 simp only [if_neg h]; clear h
 by_cases h : 65 ≤ a ∧ a ≤ 90
 · simp only [if_pos h]
 simp only [if_neg h]; clear h
 by_cases h : 97 ≤ a ∧ a ≤ 122
 · simp only [if_pos h]
 simp only [if_neg h]; clear h
 by_cases h : 173 ≤ a ∧ a ≤ 173
 · simp only [if_pos h]
 simp only [if_neg h]; clear h
 by_cases h : 768 ≤ a ∧ a ≤ 879
 · simp only [if_pos h]
 simp only [if_neg h]; clear h
 by_cases h : 1488 ≤ a ∧ a ≤ 1514
 · simp only [if_pos h]
 simp only [if_neg h]; clear h
 by_cases h : 1569 ≤ a ∧ a ≤ 1610
 · simp only [if_pos h]
 simp only [if_neg h]; clear h
 by_cases h : 1632 ≤ a ∧ a ≤ 1641
 · simp only [if_pos h]
 simp only [if_neg h]; clear h
 by_cases h : 8203 ≤ a ∧ a ≤ 8203
 · simp only [if_pos h]
 simp only [if_neg h]; clear h
 by_cases h : 8205 ≤ a ∧ a ≤ 8205
 · simp only [if_pos h]
 simp only [if_neg h]; clear h
 by_cases h : 8234 ≤ a ∧ a ≤ 8234
 · simp only [if_pos h]
 simp only [if_neg h]; clear h
 by_cases h : 8235 ≤ a ∧ a ≤ 8235
 · simp only [if_pos h]
 simp only [if_neg h]; clear h
 by_cases h : 8236 ≤ a ∧ a ≤ 8236
 · simp only [if_pos h]
 simp only [if_neg h]; clear h
 by_cases h : 8237 ≤ a ∧ a ≤ 8237
 · simp only [if_pos h]
 simp only [if_neg h]; clear h
 by_cases h : 8238 ≤ a ∧ a ≤ 8238
 · simp only [if_pos h]
 simp only [if_neg h]; clear h
 by_cases h : 8294 ≤ a ∧ a ≤ 8294
 · simp only [if_pos h]
 simp only [if_neg h]; clear h
 by_cases h : 8295 ≤ a ∧ a ≤ 8295
 · simp only [if_pos h]
 simp only [if_neg h]; clear h
 by_cases h : 8296 ≤ a ∧ a ≤ 8296
 · simp only [if_pos h]
 simp only [if_neg h]; clear h
 by_cases h : 8297 ≤ a ∧ a ≤ 8297
 · simp only [if_pos h]
 simp only [if_neg h]; clear h
 by_cases h : 19968 ≤ a ∧ a ≤ 40959
 · simp only [if_pos h]
 simp only [if_neg h]
end Go.Proofs.Ytojehfdioeglgaa.Pure
/- What ends that which is read by itself: the reference looks for it letter by letter, the program keeps it in two maps. -/
namespace Go.Proofs.Ytojehfdioeglgaa.Pure
open Go.RowKit Go.Proofs.Ytojehfdioeglgaa.S Go.Proofs.YtojehfdioeglgaaW.PrintWords Go.Proofs.YtojehfdioeglgaaW.PrintLast
def stepD (c : Int) (d : Int) : Int := (if opensB c = true then d + 1 else d) - (if c = 22 then 1 else 0)
def scanM (cls : List Int) : Nat → Nat → Int → Nat
 | 0, _, _ => cls.length
 | g + 1, i, d => if stepD (cls.getD i 0) d = 0 then i else scanM cls g (i + 1) (stepD (cls.getD i 0) d)
theorem scanM_step {cls : List Int} {i : Nat} (hi : i < cls.length) (d : Int) : scanM cls (cls.length - i) i d = if stepD (cls.getD i 0) d = 0 then i else scanM cls (cls.length - (i + 1)) (i + 1) (stepD (cls.getD i 0) d) := by
 rw [show cls.length - i = (cls.length - (i + 1)) + 1 by omega, scanM]
theorem opens_not22 {c : Int} (h : opensB c = true) : c ≠ 22 := by
 intro e
 subst e
 revert h
 decide
theorem getD_snoc (l : List Int) (x : Int) (q : Nat) : (l ++ [x]).getD q 0 = if q < l.length then l.getD q 0 else if q = l.length then x else 0 := by
 rw [List.getD_eq_getElem?_getD, List.getD_eq_getElem?_getD, List.getElem?_append]
 split
 · rfl
 ·
  by_cases h : q = l.length
  · subst h; simp
  · rw [if_neg h, List.getElem?_eq_none (by simp; omega)]; rfl
theorem getD_take (l : List Int) (n q : Nat) (h : q < n) : (l.take n).getD q 0 = l.getD q 0 := by
 rw [List.getD_eq_getElem?_getD, List.getD_eq_getElem?_getD, List.getElem?_take_of_lt h]
def MateI (cls : List Int) (j : Nat) (s : PaS) : Prop :=
 (∀ q, q < s.op.length → ∃ p : Nat, s.op.getD q 0 = p ∧ p < j ∧ opensB (cls.getD p 0) = true ∧ s.mt p = none ∧ scanM cls (cls.length - p) p 0 = scanM cls (cls.length - j) j ((s.op.length : Int) - q)) ∧
 (∀ q q', q < q' → q' < s.op.length → s.op.getD q 0 < s.op.getD q' 0) ∧
 (∀ x m, s.mt x = some m → ∃ p m' : Nat, x = p ∧ m = m' ∧ p < m' ∧ m' < j ∧ opensB (cls.getD p 0) = true ∧ cls.getD m' 0 = 22 ∧ scanM cls (cls.length - p) p 0 = m') ∧
 (∀ p : Nat, p < j → opensB (cls.getD p 0) = true → (∃ q, q < s.op.length ∧ s.op.getD q 0 = p) ∨ ∃ m, s.mt p = some m) ∧
 (∀ x y, s.cd y = some x ↔ s.mt x = some y)
theorem mateI_step {cls : List Int} {j : Nat} {s : PaS} (h : MateI cls j s) (hj : j < cls.length) : MateI cls (j + 1) (paraStep (cls.getD j 0) j s) := by
 obtain ⟨h1, h2, h3, h4, h5⟩ := h
 have hjn : s.mt j = none := by
  cases e : s.mt j with
  | none => rfl
  | some m =>
   obtain ⟨p, m', e1, e2, e3, e4, _⟩ := h3 _ _ e
   omega
 unfold paraStep
 cases ho : opensB (cls.getD j 0) with
 | true =>
  have hn := opens_not22 ho
  have st : ∀ d : Int, stepD (cls.getD j 0) d = d + 1 := fun d => by unfold stepD; rw [if_pos ho, if_neg hn]; omega
  rw [if_pos rfl]
  refine ⟨fun q hq => ?_, fun q q' hqq hq => ?_, fun x m hm => ?_, fun p hp hop => ?_, h5⟩
  ·
   simp only [List.length_append, List.length_cons, List.length_nil] at hq ⊢
   by_cases hql : q < s.op.length
   ·
    obtain ⟨p, e1, e2, e3, e4, e5⟩ := h1 q hql
    refine ⟨p, by rw [getD_snoc, if_pos hql, e1], by omega, e3, e4, ?_⟩
    rw [e5, scanM_step hj, st, if_neg (by omega)]
    congr 1
    omega
   ·
    refine ⟨j, by rw [getD_snoc, if_neg hql, if_pos (by omega)], by omega, ho, hjn, ?_⟩
    rw [scanM_step hj, st, if_neg (by omega)]
    congr 1
    omega
  ·
   simp only [List.length_append, List.length_cons, List.length_nil] at hq
   simp only
   rw [getD_snoc, getD_snoc, if_pos (by omega)]
   by_cases hql : q' < s.op.length
   · rw [if_pos hql]; exact h2 q q' hqq hql
   ·
    rw [if_neg hql, if_pos (by omega)]
    obtain ⟨p, e1, e2, _⟩ := h1 q (by omega)
    omega
  ·
   obtain ⟨p, m', e1, e2, e3, e4, e5⟩ := h3 x m hm
   exact ⟨p, m', e1, e2, e3, by omega, e5⟩
  ·
   by_cases e : p = j
   ·
    subst e
    exact .inl ⟨s.op.length, by simp, by simp only; rw [getD_snoc, if_neg (by omega), if_pos rfl]⟩
   ·
    rcases h4 p (by omega) hop with ⟨q, q1, q2⟩ | h
    · exact .inl ⟨q, by simp; omega, by simp only; rw [getD_snoc, if_pos q1, q2]⟩
    · exact .inr h
 | false =>
  rw [if_neg (by decide)]
  by_cases hc : cls.getD j 0 = 22 ∧ s.op ≠ []
  ·
   rw [if_pos hc]
   have hl : 0 < s.op.length := List.length_pos_iff.mpr hc.2
   have st : ∀ d : Int, stepD (cls.getD j 0) d = d - 1 := fun d => by unfold stepD; rw [ho, if_neg (by decide), if_pos hc.1]
   obtain ⟨p0, a1, a2, a3, a4, a5⟩ := h1 (s.op.length - 1) (by omega)
   rw [scanM_step hj, st, if_pos (by omega)] at a5
   have hne : ∀ q, q < s.op.length - 1 → s.op.getD q 0 ≠ p0 := fun q hq => by
    have := h2 q (s.op.length - 1) hq (by omega)
    omega
   refine ⟨fun q hq => ?_, fun q q' hqq hq => ?_, fun x m hm => ?_, fun p hp hop => ?_, fun x y => ?_⟩
   ·
    simp only [List.length_take] at hq ⊢
    obtain ⟨p, e1, e2, e3, e4, e5⟩ := h1 q (by omega)
    refine ⟨p, by rw [getD_take _ _ _ (by omega), e1], by omega, e3, ?_, ?_⟩
    ·
     have := hne q (by omega)
     rw [updI, a1, if_neg (by omega), e4]
    ·
     rw [e5, scanM_step hj, st, if_neg (by omega)]
     congr 1
     omega
   ·
    simp only [List.length_take] at hq ⊢
    rw [getD_take _ _ _ (by omega), getD_take _ _ _ (by omega)]
    exact h2 q q' hqq (by omega)
   ·
    simp only [updI] at hm
    split at hm
    ·
     rename_i e
     have hm' := Option.some.inj hm
     exact ⟨p0, j, by omega, by omega, by omega, by omega, a3, hc.1, a5⟩
    ·
     obtain ⟨p, m', e1, e2, e3, e4, e5⟩ := h3 x m hm
     exact ⟨p, m', e1, e2, e3, by omega, e5⟩
   ·
    by_cases e : p = j
    ·
     subst e
     rw [ho] at hop
     cases hop
    ·
     by_cases e2 : p = p0
     ·
      subst e2
      exact .inr ⟨j, by simp only [updI, a1, if_true]⟩
     ·
      rcases h4 p (by omega) hop with ⟨q, q1, q2⟩ | ⟨m, h⟩
      ·
       have hq : q ≠ s.op.length - 1 := by
        intro e3
        subst e3
        omega
       exact .inl ⟨q, by simp only [List.length_take]; omega, by simp only; rw [getD_take _ _ _ (by omega), q2]⟩
      · exact .inr ⟨m, by simp only [updI, a1]; rw [if_neg (by omega), h]⟩
   ·
    simp only [updI, a1]
    by_cases ex : x = p0
    ·
     subst ex
     rw [if_pos rfl]
     by_cases ey : y = j
     ·
      subst ey
      rw [if_pos rfl]
      exact ⟨fun _ => rfl, fun _ => rfl⟩
     ·
      rw [if_neg ey, h5, a4]
      constructor
      · intro h; cases h
      · intro h; exact absurd (Option.some.inj h).symm ey
    ·
     rw [if_neg ex]
     by_cases ey : y = j
     ·
      subst ey
      rw [if_pos rfl]
      constructor
      · intro h; exact absurd (Option.some.inj h).symm ex
      ·
       intro h
       obtain ⟨p, m', e1, e2, e3, e4, e5⟩ := h3 _ _ h
       omega
     · rw [if_neg ey]; exact h5 x y
  ·
   rw [if_neg hc]
   refine ⟨fun q hq => ?_, h2, fun x m hm => ?_, fun p hp hop => ?_, h5⟩
   ·
    have hl : s.op ≠ [] := fun e => by rw [e] at hq; exact absurd hq (by simp)
    have h22 : cls.getD j 0 ≠ 22 := fun e => hc ⟨e, hl⟩
    have st : ∀ d : Int, stepD (cls.getD j 0) d = d := fun d => by unfold stepD; rw [ho, if_neg (by decide), if_neg h22]; omega
    obtain ⟨p, e1, e2, e3, e4, e5⟩ := h1 q hq
    refine ⟨p, e1, by omega, e3, e4, ?_⟩
    rw [e5, scanM_step hj, st, if_neg (by omega)]
   ·
    obtain ⟨p, m', e1, e2, e3, e4, e5⟩ := h3 x m hm
    exact ⟨p, m', e1, e2, e3, by omega, e5⟩
   ·
    by_cases e : p = j
    ·
     subst e
     rw [ho] at hop
     cases hop
    · exact h4 p (by omega) hop
theorem mateI_all (cls : List Int) : ∀ j, j ≤ cls.length → MateI cls j (paraS cls j)
 | 0, _ => ⟨fun q hq => absurd hq (by simp [paraS]), fun q q' _ hq => absurd hq (by simp [paraS]), fun x m hm => by simp [paraS] at hm, fun p hp => absurd hp (by omega), fun x y => by simp [paraS]⟩
 | j + 1, h => mateI_step (mateI_all cls j (by omega)) (by omega)
def mtC (cls : List Int) : Int → Option Int := (paraS cls cls.length).mt
def cdC (cls : List Int) : Int → Option Int := (paraS cls cls.length).cd
theorem mt_scan {cls : List Int} {p : Nat} (hp : p < cls.length) (ho : opensB (cls.getD p 0) = true) : scanM cls (cls.length - p) p 0 = endP cls (mtC cls) p := by
 obtain ⟨h1, h2, h3, h4, h5⟩ := mateI_all cls cls.length (Nat.le_refl _)
 unfold endP mtC
 rcases h4 p hp ho with ⟨q, q1, q2⟩ | ⟨m, h⟩
 ·
  obtain ⟨p', e1, e2, e3, e4, e5⟩ := h1 q q1
  obtain rfl : p' = p := by omega
  rw [e4, e5, Nat.sub_self, scanM]
 ·
  obtain ⟨p', m', e1, e2, e3, e4, e5, e6, e7⟩ := h3 _ _ h
  obtain rfl : p' = p := by omega
  rw [h, e7]
  subst e2
  simp
theorem mt_inv {cls : List Int} {x m : Int} (h : mtC cls x = some m) : ∃ p m' : Nat, x = p ∧ m = m' ∧ p < m' ∧ m' < cls.length ∧ opensB (cls.getD p 0) = true ∧ cls.getD m' 0 = 22 ∧ scanM cls (cls.length - p) p 0 = m' :=
 (mateI_all cls cls.length (Nat.le_refl _)).2.2.1 _ _ h
theorem cd_mt {cls : List Int} (x y : Int) : cdC cls y = some x ↔ mtC cls x = some y := (mateI_all cls cls.length (Nat.le_refl _)).2.2.2.2 x y
end Go.Proofs.Ytojehfdioeglgaa.Pure
/- What the laws' own helpers answer: a copy, equality, a row written with 1, 2, 3 .., and whether it still holds that. -/
namespace Go.Proofs.Ytojehfdioeglgaa.Pure
open Go.RowKit Go.Proofs.Ytojehfdioeglgaa.S Go.Proofs.YtojehfdioeglgaaW.PrintWords Go.Proofs.YtojehfdioeglgaaW.PrintLast
theorem w64 {x : Int} (h0 : -9223372036854775808 ≤ x) (h1 : x ≤ 9223372036854775807) : wrap64 x = x := by
 unfold wrap64; omega
theorem rd_nat (l : List Int) (i : Nat) : rd l (i : Int) = l.getD i 0 := by simp [rd]
theorem rd_get {l : List Int} {i : Nat} (h : i < l.length) : rd l (i : Int) = l[i] := by simp [rd, List.getD_eq_getElem?_getD, h]
theorem copy_l (l : List Int) (hn : l.length ≤ 1099511627776) : ∀ (d k i : Nat), l.length - i = d → i ≤ l.length → d < k →
  laws_toIntS.l0 k l (l.take i ++ List.replicate (l.length - i) 0) (i : Int) = some l
 | 0, k, i, hd, hi, hk => by
  obtain ⟨k, rfl⟩ : ∃ m, k = m + 1 := ⟨k - 1, by omega⟩
  have e : i = l.length := by omega
  subst e
  rw [laws_toIntS.l0, if_neg (by omega)]
  simp
 | d + 1, k, i, hd, hi, hk => by
  obtain ⟨k, rfl⟩ : ∃ m, k = m + 1 := ⟨k - 1, by omega⟩
  have hlt : i < l.length := by omega
  rw [laws_toIntS.l0, if_pos (by omega), if_pos (by omega), if_pos (by simp; omega), w64 (by omega) (by omega)]
  have e : (l.take i ++ List.replicate (l.length - i) 0).set (i : Int).toNat (rd l i) = l.take (i + 1) ++ List.replicate (l.length - (i + 1)) 0 := by
   rw [Int.toNat_natCast, rd_get hlt, List.set_append_right _ _ (by simp; omega)]
   have h1 : i - (l.take i).length = 0 := by simp; omega
   rw [h1, show l.length - i = (l.length - (i + 1)) + 1 by omega, List.replicate_succ, List.set_cons_zero, List.take_succ_eq_append_getElem hlt, List.append_assoc]
   rfl
  rw [e]
  exact copy_l l hn d k (i + 1) (by omega) (by omega) (by omega)
theorem copy_p {l : List Int} {k : Nat} (hn : l.length ≤ 1099511627776) (hk : l.length < k) : laws_toIntS.f k l = some l := by
 unfold laws_toIntS.f
 rw [if_pos (by omega), if_pos (by omega)]
 simpa using copy_l l hn l.length k 0 (by omega) (by omega) hk
theorem eq_l (a b : List Int) (hab : a.length = b.length) (hn : a.length ≤ 1099511627776) : ∀ (d k i : Nat), a.length - i = d → i ≤ a.length → d < k →
  laws_eqIntS.l0 k a b (i : Int) = some (decide (a.drop i = b.drop i))
 | 0, k, i, hd, hi, hk => by
  obtain ⟨k, rfl⟩ : ∃ m, k = m + 1 := ⟨k - 1, by omega⟩
  have e : i = a.length := by omega
  subst e
  rw [laws_eqIntS.l0, if_neg (by omega), List.drop_length, hab, List.drop_length]
  simp
 | d + 1, k, i, hd, hi, hk => by
  obtain ⟨k, rfl⟩ : ∃ m, k = m + 1 := ⟨k - 1, by omega⟩
  have hlt : i < a.length := by omega
  have hlb : i < b.length := by omega
  rw [laws_eqIntS.l0, if_pos (by omega), if_pos (by omega), if_pos (by omega), w64 (by omega) (by omega), rd_get hlt, rd_get hlb, List.drop_eq_getElem_cons hlt, List.drop_eq_getElem_cons hlb]
  have := eq_l a b hab hn d k (i + 1) (by omega) (by omega) (by omega)
  rw [show ((i : Int) + 1) = ((i + 1 : Nat) : Int) by omega, this]
  by_cases h : a[i] = b[i]
  ·
   rw [if_pos h, h]
   simp only [List.cons.injEq, true_and]
  ·
   rw [if_neg h]
   simp only [List.cons.injEq, h, false_and, decide_false]
theorem eq_p {a b : List Int} {k : Nat} (hn : a.length ≤ 1099511627776) (hk : a.length < k) : laws_eqIntS.f k a b = some (decide (a = b)) := by
 unfold laws_eqIntS.f
 by_cases hab : a.length = b.length
 ·
  rw [if_pos (by omega)]
  simpa using eq_l a b hab hn a.length k 0 (by omega) (by omega) hk
 ·
  rw [if_neg (by omega)]
  simp only [Option.some.injEq]
  exact (decide_eq_false (fun h => hab (by rw [h]))).symm
def iota (a : Int) : Nat → List Int
 | 0 => []
 | n + 1 => a :: iota (a + 1) n
theorem iota_length : ∀ (n : Nat) (a : Int), (iota a n).length = n
 | 0, _ => rfl
 | n + 1, a => by simp [iota, iota_length n]
theorem mark_l : ∀ (d k i : Nat) (l : List Int) (a : Int), l.length ≤ 1099511627776 → -1099511627776 ≤ a → a ≤ 1099511627776 * 4 → a + d ≤ 1099511627776 * 4 → l.length - i = d → i ≤ l.length → d < k →
  laws_markIntS.l0 k l a (i : Int) = some (a + d, l.take i ++ iota a d)
 | 0, k, i, l, a, hn, h0, h1, h2, hd, hi, hk => by
  obtain ⟨k, rfl⟩ : ∃ m, k = m + 1 := ⟨k - 1, by omega⟩
  have e : i = l.length := by omega
  subst e
  rw [laws_markIntS.l0, if_neg (by omega)]
  simp [iota]
 | d + 1, k, i, l, a, hn, h0, h1, h2, hd, hi, hk => by
  obtain ⟨k, rfl⟩ : ∃ m, k = m + 1 := ⟨k - 1, by omega⟩
  have hlt : i < l.length := by omega
  rw [laws_markIntS.l0, if_pos (by omega), if_pos (by omega), w64 (x := (i : Int) + 1) (by omega) (by omega), w64 (by omega) (by omega), Int.toNat_natCast]
  have := mark_l d k (i + 1) (l.set i a) (a + 1) (by simpa using hn) (by omega) (by omega) (by omega) (by simp; omega) (by simp; omega) (by omega)
  rw [show ((i : Int) + 1) = ((i + 1 : Nat) : Int) by omega, this]
  simp only [Option.some.injEq, Prod.mk.injEq, iota]
  refine ⟨by omega, ?_⟩
  rw [List.take_succ_eq_append_getElem (by simpa using hlt)]
  simp [List.take_set_of_le]
theorem mark_p {l : List Int} {a : Int} {k : Nat} (hn : l.length ≤ 1099511627776) (h0 : -1099511627776 ≤ a) (h1 : a ≤ 1099511627776) (hk : l.length < k) : laws_markIntS.f k l a = some (a + l.length, iota a l.length) := by
 unfold laws_markIntS.f
 simpa using mark_l l.length k 0 l a hn h0 (by omega) (by omega) (by omega) (by omega) hk
theorem held_l : ∀ (d k i : Nat) (l : List Int) (a : Int), l.length ≤ 1099511627776 → -1099511627776 ≤ a → a + d ≤ 1099511627776 * 4 → l.length - i = d → i ≤ l.length → d < k → l.drop i = iota a d →
  laws_heldIntS.l0 k l a (i : Int) = some (a + d)
 | 0, k, i, l, a, hn, h0, h2, hd, hi, hk, he => by
  obtain ⟨k, rfl⟩ : ∃ m, k = m + 1 := ⟨k - 1, by omega⟩
  rw [laws_heldIntS.l0, if_neg (by omega)]
  simp
 | d + 1, k, i, l, a, hn, h0, h2, hd, hi, hk, he => by
  obtain ⟨k, rfl⟩ : ∃ m, k = m + 1 := ⟨k - 1, by omega⟩
  have hlt : i < l.length := by omega
  rw [List.drop_eq_getElem_cons hlt, iota] at he
  obtain ⟨e1, e2⟩ := List.cons.inj he
  rw [laws_heldIntS.l0, if_pos (by omega), if_pos (by omega), rd_get hlt, if_pos e1, w64 (x := (i : Int) + 1) (by omega) (by omega), w64 (by omega) (by omega)]
  have := held_l d k (i + 1) l (a + 1) hn (by omega) (by omega) (by omega) (by omega) (by omega) e2
  rw [show ((i : Int) + 1) = ((i + 1 : Nat) : Int) by omega, this]
  congr 1; omega
theorem held_p {n : Nat} {a : Int} {k : Nat} (hn : n ≤ 1099511627776) (h0 : -1099511627776 ≤ a) (h1 : a ≤ 1099511627776) (hk : n < k) : laws_heldIntS.f k (iota a n) a = some (a + n) := by
 unfold laws_heldIntS.f
 have hl := iota_length n a
 simpa using held_l n k 0 (iota a n) a (by omega) h0 (by omega) (by omega) (by omega) hk rfl
end Go.Proofs.Ytojehfdioeglgaa.Pure
/- Letters that are ok, by both texts. -/
namespace Go.Proofs.Ytojehfdioeglgaa.Pure
open Go.RowKit Go.Proofs.Ytojehfdioeglgaa.S Go.Proofs.YtojehfdioeglgaaW.PrintWords Go.Proofs.YtojehfdioeglgaaW.PrintLast
theorem l1In_p (a b c : Int) : spec_l1In.f a b c = some (decide (b ≤ a) && decide (a ≤ c)) := by
 unfold spec_l1In.f
 by_cases h : b ≤ a <;> simp [h]
def sizeV (a : Int) : Int := if 0 ≤ a ∧ a ≤ 127 then 1 else if 128 ≤ a ∧ a ≤ 2047 then 2 else if 55296 ≤ a ∧ a ≤ 57343 then 0 else if 2048 ≤ a ∧ a ≤ 65535 then 3 else if 65536 ≤ a ∧ a ≤ 1114111 then 4 else 0
theorem size_f (a : Int) : spec_l1Size.f a = some (sizeV a) := by
 simp only [spec_l1Size.f, l1In_p, Option.bind_some, sizeV]
 grind
theorem size_let (a : Int) : sizeV a = 0 ↔ isLetV a = false := by
 simp only [isLetV, sizeV]
 grind
theorem size_p (a : Int) : ∃ s, spec_l1Size.f a = some s ∧ (s = 0 ↔ isLetV a = false) := ⟨_, size_f a, size_let a⟩
theorem ok_l (l : List Int) (hn : l.length ≤ 1099511627776) : ∀ (d k i : Nat), l.length - i = d → i ≤ l.length → d < k →
  spec_l1Ok.l0 k l (i : Int) = some ((l.drop i).all isLetV && decide (l.length ≤ 80))
 | 0, k, i, hd, hi, hk => by
  obtain ⟨k, rfl⟩ : ∃ m, k = m + 1 := ⟨k - 1, by omega⟩
  have e : i = l.length := by omega
  subst e
  rw [spec_l1Ok.l0, if_neg (by omega), List.drop_length]
  simp only [List.all_nil, Bool.true_and, Option.some.injEq, decide_eq_decide]
  omega
 | d + 1, k, i, hd, hi, hk => by
  obtain ⟨k, rfl⟩ : ∃ m, k = m + 1 := ⟨k - 1, by omega⟩
  have hlt : i < l.length := by omega
  obtain ⟨s, hs, hz⟩ := size_p l[i]
  rw [spec_l1Ok.l0, if_pos (by omega), if_pos (by omega), w64 (by omega) (by omega), rd_get hlt, hs, Option.bind_some, List.drop_eq_getElem_cons hlt, List.all_cons]
  have := ok_l l hn d k (i + 1) (by omega) (by omega) (by omega)
  rw [show ((i : Int) + 1) = ((i + 1 : Nat) : Int) by omega, this]
  by_cases h : s = 0
  · rw [if_pos h, hz.1 h]; simp
  ·
   have : isLetV l[i] = true := by
    cases e : isLetV l[i]
    · exact absurd (hz.2 e) h
    · rfl
   rw [if_neg h, this, Bool.true_and]
theorem ok_p {l : List Int} {k : Nat} (hn : l.length ≤ 1099511627776) (hk : l.length < k) : spec_l1Ok.f k l = some (okV l) := by
 unfold spec_l1Ok.f
 have := ok_l l hn l.length k 0 (by omega) (by omega) hk
 rw [show ((0 : Nat) : Int) = 0 from rfl] at this
 rw [this, List.drop_zero, okV, Bool.and_comm]
theorem ok_len {l : List Int} (h : okV l = true) : l.length ≤ 80 := by
 simp [okV] at h; exact h.1
end Go.Proofs.Ytojehfdioeglgaa.Pure
/- The levels and classes that are told, by both texts. -/
namespace Go.Proofs.Ytojehfdioeglgaa.Pure
open Go.RowKit Go.Proofs.Ytojehfdioeglgaa.S Go.Proofs.YtojehfdioeglgaaW.PrintWords Go.Proofs.YtojehfdioeglgaaW.PrintLast
def clsV (rs : List Int) : List Int := rs.map bidiV
theorem clsV_len (rs : List Int) : (clsV rs).length = rs.length := List.length_map ..
theorem clsV_get {rs : List Int} {i : Nat} (h : i < rs.length) : (clsV rs).getD i 0 = bidiV (rs.getD i 0) := by
 simp [clsV, List.getD_eq_getElem?_getD, h]
theorem clsO_p : ∀ rs : List Int, clsO rs = some (clsV rs)
 | [] => rfl
 | x :: r => by
  rw [clsO, impl_bidi_p, Option.bind_some, clsO_p r, Option.bind_some]
  rfl
def cv (e : S87) : S74 := ⟨e.f0, e.f1, e.f2⟩
def RelT (s : WkS) (t : TeS) : Prop := s.st = (t.st.map cv).reverse ∧ s.lost = t.lost ∧ s.sk = t.sk
theorem st_cons {s : WkS} {t : TeS} {e : S87} {r : List S87} (h : RelT s t) (hst : t.st = e :: r) : s.st = (r.map cv).reverse ++ [cv e] := by
 rw [h.1, hst, List.map_cons, List.reverse_cons]
theorem getD_last (a : List S74) (x : S74) : (a ++ [x]).getD a.length z74 = x := by
 rw [List.getD_eq_getElem?_getD, List.getElem?_append_right (Nat.le_refl _)]
 simp
theorem rel_top {s : WkS} {t : TeS} {e : S87} {r : List S87} (h : RelT s t) (hst : t.st = e :: r) : s.top = cv e := by
 unfold WkS.top
 rw [st_cons h hst, show ((r.map cv).reverse ++ [cv e]).length - 1 = ((r.map cv).reverse).length by simp, getD_last]
theorem up_eq {l : Int} (h0 : 0 ≤ l) (h1 : l ≤ 1000) (r : Bool) : upV l r = upT l r := by
 have w1 : wrap64 (l + 1) = l + 1 := w64 (by omega) (by omega)
 have w2 : wrap64 (l + 2) = l + 2 := w64 (by omega) (by omega)
 have t1 : Int.tmod l 2 = l % 2 := Int.tmod_eq_emod_of_nonneg h0
 unfold upV spec_l3Up.f upT
 simp only [w1, w2, t1]
 have : l % 2 = 0 ∨ l % 2 = 1 := by omega
 cases r <;> rcases this with h | h
 ·
  have h' : (l + 1) % 2 = 1 := by omega
  simp [h, h']; omega
 ·
  have h' : (l + 1) % 2 = 0 := by omega
  simp [h, h']
 ·
  have h' : (l + 1) % 2 = 1 := by omega
  simp [h, h']
 ·
  have h' : (l + 1) % 2 = 0 := by omega
  simp [h, h']; omega
theorem rel_push {s : WkS} {t : TeS} {j : Nat} (h : RelT s t) (hi : InvT j t) (r : Bool) (d : Int) (a : Bool) : RelT (pushS r d a s) (pushT r d a t) := by
 obtain ⟨e, q, hst, _, he0, he1⟩ := hi.cons
 have ht := rel_top h hst
 have hu : upV s.top.f0 r = upT (topT t) r := by
  rw [ht, show topT t = e.f0 by unfold topT; rw [hst], show (cv e).f0 = e.f0 from rfl, up_eq he0 (by omega)]
 obtain ⟨h1, h2, h3⟩ := h
 unfold pushS pushT
 rw [hu, h2, h3]
 split
 ·
  have h1' : ∀ b : Bool, b = a → RelT { s with st := s.st ++ [⟨upT (topT t) r, d, b⟩], lost := t.lost, sk := t.sk } { t with st := ⟨upT (topT t) r, d, a⟩ :: t.st } := fun b hb => by
   subst hb
   exact ⟨by simp only; rw [h1, List.map_cons, List.reverse_cons]; rfl, rfl, rfl⟩
  cases a with
  | true => rw [if_pos rfl]; exact ⟨(h1' true rfl).1, (by first | rfl | exact h2), (by first | rfl | exact h3)⟩
  | false => rw [if_neg (by decide)]; exact ⟨(h1' false rfl).1, (by first | rfl | exact h2), (by first | rfl | exact h3)⟩
 ·
  split
  · exact ⟨h1, (by first | rfl | exact h2), (by first | rfl | exact h3)⟩
  ·
   split
   · exact ⟨h1, (by first | rfl | exact h2), (by first | rfl | exact h3)⟩
   · exact ⟨h1, (by first | rfl | exact h2), (by first | rfl | exact h3)⟩
theorem rel_pop {s : WkS} {t : TeS} {j : Nat} (h : RelT s t) (hi : InvT j t) : RelT (dropsS s) (popT t) := by
 obtain ⟨e, q, hst, _, he0, he1⟩ := hi.cons
 have ht := rel_top h hst
 have hs := st_cons h hst
 have h' := h
 obtain ⟨h1, h2, h3⟩ := h
 unfold dropsS popT
 rw [h2, h3]
 split
 · exact h'
 ·
  split
  · exact ⟨h1, (by first | rfl | exact h2), (by first | rfl | exact h3)⟩
  ·
   rw [ht, hst]
   have hf : (cv e).f2 = e.f2 := rfl
   rw [hf]
   cases q with
   | nil =>
    rw [if_neg (by rw [hs]; simp)]
    exact h'
   | cons e2 r =>
    simp only
    by_cases h0 : e.f2 = false
    ·
     rw [if_pos ⟨h0, by rw [hs]; simp⟩, if_pos h0]
     refine ⟨?_, (by first | rfl | exact h2), (by first | rfl | exact h3)⟩
     simp only
     rw [hs, show (((e2 :: r).map cv).reverse ++ [cv e]).length - 1 = (((e2 :: r).map cv).reverse).length by simp, List.take_left]
    ·
     rw [if_neg (fun h => h0 h.1), if_neg h0]
     exact h'
theorem popA_app (x : S74) (a : List S74) : ∀ n, n ≤ a.length → popA (a ++ [x]) n = popA a n
 | 0, _ => rfl
 | n + 1, h => by
  rw [popA, popA, popA_app x a n (by omega), List.take_append_of_le_length (by omega), List.getD_eq_getElem?_getD, List.getD_eq_getElem?_getD, List.getElem?_append_left (by omega)]
theorem popA_rev : ∀ l : List S87, popA (l.map cv).reverse l.length = ((popAl l).map cv).reverse
 | [] => rfl
 | e :: r => by
  have hlen : (r.map cv).reverse.length = r.length := by simp
  rw [List.map_cons, List.reverse_cons, List.length_cons, popA, popAl, popA_app _ _ _ (by omega), popA_rev r]
  have hg : ((r.map cv).reverse ++ [cv e]).getD r.length z74 = cv e := by
   have := getD_last (r.map cv).reverse (cv e)
   rwa [hlen] at this
  rw [hg, show (cv e).f2 = e.f2 from rfl]
  by_cases h : e.f2 = true
  ·
   rw [if_pos h, if_pos h]
   conv => lhs; rw [← hlen, List.take_left]
  · rw [if_neg h, if_neg h]
theorem cntA_any : ∀ l : List S87, cntA (l.map cv).reverse = 0 ↔ l.any (·.f2) = false
 | [] => by simp [cntA]
 | e :: r => by
  have ih := cntA_any r
  rw [List.map_cons, List.reverse_cons, cntA_snoc, List.any_cons, Bool.or_eq_false_iff, show (cv e).f2 = e.f2 from rfl]
  cases e.f2 with
  | true => simp
  | false => simpa using ih
theorem rel_close {s : WkS} {t : TeS} {n j i : Nat} (h : RelT s t) (hi : InvT j t) (hw : InvW n i s) : RelT (endsS s) (closeT t) := by
 have h' := h
 obtain ⟨h1, h2, h3⟩ := h
 have hal : s.al = 0 ↔ t.st.any (·.f2) = false := by
  rw [← cntA_any, ← h1, hw.2.2.2.2.2.2.1]
  omega
 unfold endsS closeT
 rw [h2]
 split
 · exact ⟨h1, (by first | rfl | exact h2), (by first | rfl | exact h3)⟩
 ·
  by_cases ha : s.al = 0
  ·
   rw [if_pos ha, if_neg (by rw [hal.mp ha]; decide)]
   exact h'
  ·
   have hb : t.st.any (·.f2) = true := by
    cases e : t.st.any (·.f2) with
    | true => rfl
    | false => exact absurd (hal.mpr e) ha
   rw [if_neg ha, if_pos hb]
   refine ⟨?_, (by first | rfl | exact h2), rfl⟩
   simp only
   rw [h1, show ((t.st.map cv).reverse).length = t.st.length by simp, popA_rev]
theorem set_mid (L R : List Int) (x y : Int) : (L ++ x :: R).set L.length y = L ++ y :: R := by
 rw [List.set_append_right _ _ (Nat.le_refl _), Nat.sub_self, List.set_cons_zero]
theorem dropsS_lens (s : WkS) : (dropsS s).lv = s.lv ∧ (dropsS s).cl = s.cl := by
 unfold dropsS
 repeat' split
 all_goals exact ⟨rfl, rfl⟩
def AtL (s : WkS) (L C R : List Int) (i : Nat) (x y : Int) : Prop := s.lv = L ++ x :: R ∧ s.cl = C ++ y :: R ∧ L.length = i ∧ C.length = i
theorem here_p {s : WkS} {t : TeS} {e : S87} {r : List S87} {L C R : List Int} {i : Nat} {x y : Int} (h : RelT s t) (hst : t.st = e :: r) (ha : AtL s L C R i x y) (c : Int) : RelT (hereS i c s) t ∧ AtL (hereS i c s) L C R i e.f0 (if e.f1 = 0 then c else e.f1) := by
 obtain ⟨a1, a2, rfl, a4⟩ := ha
 refine ⟨h, ?_, ?_, rfl, a4⟩
 ·
  show s.lv.set L.length s.top.f0 = _
  rw [a1, rel_top h hst, set_mid]
  rfl
 ·
  show s.cl.set L.length (if s.top.f1 = 0 then c else s.top.f1) = _
  rw [a2, rel_top h hst, ← a4, set_mid]
  rfl
theorem AtL.to {s s' : WkS} {L C R : List Int} {i : Nat} {x y : Int} (h : AtL s L C R i x y) (hl : s'.lv = s.lv ∧ s'.cl = s.cl) : AtL s' L C R i x y := by
 obtain ⟨a1, a2, a3, a4⟩ := h
 exact ⟨by rw [hl.1, a1], by rw [hl.2, a2], a3, a4⟩
theorem letter_rel {k n i0 : Nat} {rs cls : List Int} {mt : Int → Option Int} {i : Nat} {s : WkS} {t : TeS} {L C R : List Int} (h : RelT s t) (hi : InvT i t) (hw : InvW n i0 s) (ha : AtL s L C R i (-1) 0) (hc : spec_RuneBidi.f k (rs.getD i 0) = some (cls.getD i 0))
  (hf : cls.getD i 0 = 21 → ∃ m b, spec_l3Mate.f k rs i = some m ∧ spec_l3Base.f k rs ((i : Int) + 1) m = some b ∧ (b == 1) = (sideF cls mt (endP cls mt i) (cls.length + 1) (i + 1) == 1)) :
  ∃ s', letterF k rs i s = some s' ∧ RelT s' (tellS cls mt i t) ∧ AtL s' L C R i (tellL (cls.getD i 0) t) (tellC (cls.getD i 0) t) := by
 obtain ⟨e, r, hst, _⟩ := hi.cons
 have hte : topE t = e := by unfold topE; rw [hst]
 unfold letterF tellS tellL tellC
 rw [hc, Option.bind_some]
 generalize cls.getD i 0 = c at hf
 by_cases k15 : c = 15
 ·
  subst k15
  rw [if_pos rfl]
  exact ⟨_, rfl, rel_push h hi _ _ _, ha.to (pushS_lens _ _ _ _)⟩
 rw [if_neg k15]
 by_cases k14 : c = 14
 ·
  subst k14
  rw [if_pos rfl]
  exact ⟨_, rfl, rel_push h hi _ _ _, ha.to (pushS_lens _ _ _ _)⟩
 rw [if_neg k14]
 by_cases k18 : c = 18
 ·
  subst k18
  rw [if_pos rfl]
  exact ⟨_, rfl, rel_push h hi _ _ _, ha.to (pushS_lens _ _ _ _)⟩
 rw [if_neg k18]
 by_cases k17 : c = 17
 ·
  subst k17
  rw [if_pos rfl]
  exact ⟨_, rfl, rel_push h hi _ _ _, ha.to (pushS_lens _ _ _ _)⟩
 rw [if_neg k17]
 by_cases k16 : c = 16
 ·
  subst k16
  rw [if_pos rfl]
  exact ⟨_, rfl, rel_pop h hi, ha.to (dropsS_lens _)⟩
 rw [if_neg k16]
 by_cases k10 : c = 10
 ·
  subst k10
  rw [if_pos rfl]
  exact ⟨_, rfl, h, ha⟩
 have hno : noLv c = false := by
  unfold noLv
  simp [k14, k15, k17, k18, k16, k10]
 rw [if_neg k10, if_neg k14, if_neg k15, if_neg k17, if_neg k18, if_neg k16, if_neg k10, hno]
 simp only [Bool.false_eq_true, if_false]
 by_cases k20 : c = 20
 ·
  subst k20
  obtain ⟨p1, p2⟩ := here_p h hst ha 20
  rw [if_pos rfl]
  refine ⟨_, rfl, ?_, ?_⟩
  · exact rel_push p1 hi _ _ _
  ·
   simp only [show ¬ ((20 : Int) = 22) by decide, if_false, hte]
   exact p2.to (pushS_lens _ _ _ _)
 rw [if_neg k20]
 by_cases k19 : c = 19
 ·
  subst k19
  obtain ⟨p1, p2⟩ := here_p h hst ha 19
  rw [if_pos rfl]
  refine ⟨_, rfl, ?_, ?_⟩
  · exact rel_push p1 hi _ _ _
  ·
   simp only [show ¬ ((19 : Int) = 22) by decide, if_false, hte]
   exact p2.to (pushS_lens _ _ _ _)
 rw [if_neg k19]
 by_cases k21 : c = 21
 ·
  subst k21
  obtain ⟨p1, p2⟩ := here_p h hst ha 21
  obtain ⟨m, b, f1, f2, f3⟩ := hf rfl
  rw [if_pos rfl, f1, Option.bind_some, f2, Option.bind_some, f3]
  refine ⟨_, rfl, ?_, ?_⟩
  · exact rel_push p1 hi _ _ _
  ·
   simp only [show ¬ ((21 : Int) = 22) by decide, if_false, hte]
   exact p2.to (pushS_lens _ _ _ _)
 rw [if_neg k21]
 by_cases k22 : c = 22
 ·
  subst k22
  have hcl := rel_close h hi hw
  obtain ⟨e2, r2, hst2, _⟩ := (inv_closeT hi).cons
  have hte2 : topE (closeT t) = e2 := by unfold topE; rw [hst2]
  obtain ⟨p1, p2⟩ := here_p hcl hst2 (ha.to (endsS_lens _)) 22
  rw [if_pos rfl]
  refine ⟨_, rfl, p1, ?_⟩
  simp only [if_true, hte2]
  exact p2
 ·
  obtain ⟨p1, p2⟩ := here_p h hst ha c
  rw [if_neg k22]
  refine ⟨_, rfl, ?_, ?_⟩
  ·
   rw [if_neg k22, if_neg k19, if_neg k20, if_neg k21]
   exact p1
  ·
   rw [if_neg k22, hte]
   exact p2
theorem opens_p (c : Int) : spec_l3Opens.f c = some (opensB c) := by
 unfold spec_l3Opens.f
 rw [l1In_b]
 unfold opensB
 congr 1
 by_cases h1 : c = 19
 · subst h1; rfl
 ·
  by_cases h2 : c = 20
  · subst h2; rfl
  ·
   by_cases h3 : c = 21
   · subst h3; rfl
   ·
    rw [beq_eq_false_iff_ne.mpr h1, beq_eq_false_iff_ne.mpr h2, beq_eq_false_iff_ne.mpr h3]
    simp
    omega
theorem mate_l {rs : List Int} (hn : rs.length ≤ 400) : ∀ (g k i : Nat) (d : Int), rs.length - i = g → i ≤ rs.length → (0 < d ∨ d = 0 ∧ opensB (bidiV (rs.getD i 0)) = true) → d ≤ i → 2 * g + 20 ≤ k → spec_l3Mate.l0 k rs d (i : Int) = some ((scanM (clsV rs) g i d : Nat) : Int)
 | 0, k, i, d, hg, hi, h0, h1, hk => by
  obtain ⟨k, rfl⟩ : ∃ m, k = m + 1 := ⟨k - 1, by omega⟩
  rw [spec_l3Mate.l0, if_neg (by omega), scanM, clsV_len]
 | g + 1, k, i, d, hg, hi, h0, h1, hk => by
  obtain ⟨k, rfl⟩ : ∃ m, k = m + 2 := ⟨k - 2, by omega⟩
  have hlt : i < rs.length := by omega
  have ih := fun d' a b => mate_l hn g k (i + 1) d' (by omega) (by omega) (.inl a) b (by omega)
  rw [spec_l3Mate.l0, if_pos (by omega), if_pos (by omega), spec_bidi_k (by omega), Option.bind_some, opens_p, Option.bind_some, rd_nat, scanM, clsV_get hlt]
  generalize bidiV (rs.getD i 0) = c at h0
  have e1 : wrap64 ((i : Int) + 1) = ((i + 1 : Nat) : Int) := by rw [w64 (by omega) (by omega)]; omega
  unfold stepD
  cases ho : opensB c with
  | true =>
   have hn22 := opens_not22 ho
   rw [if_pos rfl, spec_l3Mate.j1, if_neg hn22, if_pos rfl, if_neg hn22, w64 (x := d + 1) (by omega) (by omega), e1, Int.sub_zero, if_neg (by omega), if_neg (by omega), ih (d + 1) (by omega) (by omega)]
  | false =>
   have hd0 : 0 < d := by
    rcases h0 with h | ⟨_, h⟩
    · exact h
    · rw [ho] at h; cases h
   simp only [Bool.false_eq_true, if_false]
   rw [spec_l3Mate.j1, e1]
   by_cases h22 : c = 22
   ·
    rw [if_pos h22, if_pos h22, w64 (x := d - 1) (by omega) (by omega)]
    by_cases hd1 : d - 1 = 0
    · rw [if_pos hd1, if_pos hd1]
    · rw [if_neg hd1, if_neg hd1, ih (d - 1) (by omega) (by omega)]
   · rw [if_neg h22, if_neg h22, Int.sub_zero, if_neg (by omega), if_neg (by omega), ih d hd0 (by omega)]
theorem mate_m {rs : List Int} (hn : rs.length ≤ 400) {i k : Nat} (hi : i < rs.length) (ho : opensB (bidiV (rs.getD i 0)) = true) (hk : 2 * rs.length + 20 ≤ k) : spec_l3Mate.f k rs (i : Int) = some ((endP (clsV rs) (mtC (clsV rs)) i : Nat) : Int) := by
 unfold spec_l3Mate.f
 rw [mate_l hn (rs.length - i) k i 0 rfl (by omega) (.inr ⟨rfl, ho⟩) (by omega) (by omega), ← mt_scan (by rw [clsV_len]; exact hi) (by rw [clsV_get hi]; exact ho), clsV_len]
theorem endP_gt {cls : List Int} {i : Nat} (hi : i < cls.length) : i < endP cls (mtC cls) i ∧ endP cls (mtC cls) i ≤ cls.length := by
 unfold endP
 cases e : mtC cls i with
 | none => exact ⟨hi, Nat.le_refl _⟩
 | some m =>
  obtain ⟨p, m', e1, e2, e3, e4, _⟩ := mt_inv e
  subst e2
  obtain rfl : p = i := by omega
  simp only [Int.toNat_natCast]
  omega
theorem sideF_end {cls : List Int} {mt : Int → Option Int} {tg g i : Nat} (h : tg ≤ i) : sideF cls mt tg g i = 0 := by
 cases g with
 | zero => rfl
 | succ g => rw [sideF, if_neg (by omega)]
theorem base_l {rs : List Int} (hn : rs.length ≤ 400) (tg : Nat) (ht : tg ≤ rs.length) : ∀ (g k i : Nat), rs.length + 1 - i ≤ g → 2 * (rs.length - i) + 2 * rs.length + 30 ≤ k → spec_l3Base.l0 k rs (tg : Int) (i : Int) = some (sideF (clsV rs) (mtC (clsV rs)) tg g i)
 | 0, k, i, hg, hk => by
  obtain ⟨k, rfl⟩ : ∃ m, k = m + 1 := ⟨k - 1, by omega⟩
  rw [spec_l3Base.l0, if_neg (by omega)]
  rfl
 | g + 1, k, i, hg, hk => by
  obtain ⟨k, rfl⟩ : ∃ m, k = m + 2 := ⟨k - 2, by omega⟩
  rw [spec_l3Base.l0, sideF]
  by_cases hlt : i < tg
  ·
   have e1 : wrap64 ((i : Int) + 1) = ((i + 1 : Nat) : Int) := by rw [w64 (by omega) (by omega)]; omega
   rw [if_pos (by omega), if_pos hlt, if_pos (by omega), if_pos (by omega), spec_bidi_k (by omega), Option.bind_some, rd_nat, clsV_get (by omega)]
   have hm : opensB (bidiV (rs.getD i 0)) = true → spec_l3Mate.f k rs (i : Int) = some ((endP (clsV rs) (mtC (clsV rs)) i : Nat) : Int) := fun ho => mate_m hn (by omega) ho (by omega)
   generalize bidiV (rs.getD i 0) = c at hm
   by_cases h1 : c = 1
   · rw [if_pos h1, if_pos h1]
   rw [if_neg h1, if_neg h1]
   by_cases h2 : c = 2
   ·
    subst h2
    rw [if_pos rfl, if_pos (.inl rfl), spec_l3Base.j1, if_pos (by decide)]
   by_cases h3 : c = 3
   ·
    subst h3
    rw [if_neg (by decide), if_pos (.inr rfl), spec_l3Base.j1, if_pos (by decide)]
   rw [if_neg h2, if_neg (by omega), spec_l3Base.j1, if_neg (by simpa using h3), opens_p, Option.bind_some]
   cases ho : opensB c with
   | true =>
    have hg2 := endP_gt (cls := clsV rs) (i := i) (by rw [clsV_len]; omega)
    rw [clsV_len] at hg2
    rw [if_pos rfl, if_pos rfl, hm ho, Option.bind_some, w64 (by omega) (by omega), show ((endP (clsV rs) (mtC (clsV rs)) i : Nat) : Int) + 1 = ((endP (clsV rs) (mtC (clsV rs)) i + 1 : Nat) : Int) by omega, base_l hn tg ht g k _ (by omega) (by omega)]
    unfold endP
    cases e : mtC (clsV rs) i with
    | none => simp only; rw [clsV_len, sideF_end (by omega)]
    | some m => rfl
   | false =>
    rw [if_neg (by decide), if_neg (by decide), e1, base_l hn tg ht g k (i + 1) (by omega) (by omega)]
  · rw [if_neg (by omega), if_neg hlt]
theorem base_m {rs : List Int} (hn : rs.length ≤ 400) {tg i k : Nat} (ht : tg ≤ rs.length) (hk : 4 * rs.length + 30 ≤ k) : spec_l3Base.f k rs ((i : Int) + 1) (tg : Int) = some (sideF (clsV rs) (mtC (clsV rs)) tg ((clsV rs).length + 1) (i + 1)) := by
 unfold spec_l3Base.f
 rw [show (i : Int) + 1 = ((i + 1 : Nat) : Int) by omega, base_l hn tg ht (rs.length + 1) k (i + 1) (by omega) (by omega), clsV_len]
theorem walk_told {k : Nat} {rs : List Int} {base : Int} (hn : rs.length ≤ 400) (h0 : 0 ≤ base) (h1 : base ≤ 100) (hk : 4 * rs.length + 30 ≤ k) : ∀ j, j ≤ rs.length → ∃ s, walkF k rs base j = some s ∧ RelT s (toldS (clsV rs) (mtC (clsV rs)) base j) ∧
  s.lv = toldL (clsV rs) (mtC (clsV rs)) base j ++ List.replicate (rs.length - j) 0 ∧ s.cl = toldC (clsV rs) (mtC (clsV rs)) base j ++ List.replicate (rs.length - j) 0
 | 0, _ => ⟨walkS rs.length base, rfl, ⟨rfl, rfl, rfl⟩, rfl, rfl⟩
 | j + 1, hj => by
  obtain ⟨s, q1, q2, q3, q4⟩ := walk_told hn h0 h1 hk j (by omega)
  have hL := toldL_len (clsV rs) (mtC (clsV rs)) base j
  have hC := toldC_len (clsV rs) (mtC (clsV rs)) base j
  have hi := inv_told (clsV rs) (mtC (clsV rs)) base h0 h1 j
  have hw := inv_walk j s q1
  rw [show rs.length - j = (rs.length - (j + 1)) + 1 by omega, List.replicate_succ] at q3 q4
  have hat : AtL { s with lv := s.lv.set j (-1) } (toldL (clsV rs) (mtC (clsV rs)) base j) (toldC (clsV rs) (mtC (clsV rs)) base j) (List.replicate (rs.length - (j + 1)) 0) j (-1) 0 := by
   refine ⟨?_, q4, hL, hC⟩
   have := set_mid (toldL (clsV rs) (mtC (clsV rs)) base j) (List.replicate (rs.length - (j + 1)) 0) 0 (-1)
   rw [hL, ← q3] at this
   exact this
  have hw' : InvW rs.length (2 * j) { s with lv := s.lv.set j (-1) } := by
   obtain ⟨a, b⟩ := hw
   exact ⟨by simpa using a, b⟩
  obtain ⟨s', p1, p2, p3⟩ := letter_rel (k := k) (rs := rs) (cls := clsV rs) (mt := mtC (clsV rs)) (s := { s with lv := s.lv.set j (-1) }) (t := toldS (clsV rs) (mtC (clsV rs)) base j) q2 hi hw' hat (by rw [clsV_get (by omega), spec_bidi_k (by omega)]) (fun h21 => by
   have ho : opensB (bidiV (rs.getD j 0)) = true := by rw [← clsV_get (by omega), h21]; rfl
   have hg2 := endP_gt (cls := clsV rs) (i := j) (by rw [clsV_len]; omega)
   rw [clsV_len] at hg2
   exact ⟨_, _, mate_m hn (by omega) ho (by omega), base_m hn hg2.2 (by omega), rfl⟩)
  refine ⟨s', by rw [walkF, q1, Option.bind_some, p1], p2, ?_, ?_⟩
  · rw [p3.1, toldL_succ, List.append_assoc]; rfl
  · rw [p3.2.1, toldC_succ, List.append_assoc]; rfl
theorem l3Ok_p {l : List Int} {b : Int} {k : Nat} (hn : l.length ≤ 1099511627776) (hk : l.length < k) : spec_l3Ok.f k l b = some (okV l && baseB b) := by
 unfold spec_l3Ok.f
 rw [ok_p hn hk, Option.bind_some]
 cases okV l with
 | false => rfl
 | true =>
  rw [if_pos rfl, l1In_b, Option.bind_some, Bool.true_and]
  congr 1
  unfold baseB
  by_cases h1 : b = 0
  · subst h1; rfl
  ·
   by_cases h2 : b = 1
   · subst h2; rfl
   · simp [h1, h2]; omega
end Go.Proofs.Ytojehfdioeglgaa.Pure
/- What levels are told. -/
namespace Go.Proofs.Ytojehfdioeglgaa.Pure
open Go.RowKit Go.Proofs.Ytojehfdioeglgaa.S Go.Proofs.YtojehfdioeglgaaW.PrintWords Go.Proofs.YtojehfdioeglgaaW.PrintLast
def Low (t : TeS) : Prop := ∀ e ∈ t.st, 0 ≤ e.f0 ∧ e.f0 ≤ 20
theorem low_push {t : TeS} (h : Low t) (r : Bool) (d : Int) (a : Bool) : Low (pushT r d a t) := by
 have ht : 0 ≤ topT t := by
  unfold topT
  cases e : t.st with
  | nil => exact Int.le_refl _
  | cons x y => exact (h x (by rw [e]; simp)).1
 have hu : 0 ≤ upT (topT t) r := by
  unfold upT
  split <;> omega
 unfold pushT
 split
 ·
  rename_i hc
  intro x hx
  rcases List.mem_cons.mp hx with rfl | hx
  · exact ⟨hu, hc.1⟩
  · exact h x hx
 ·
  split
  · exact h
  · split <;> exact h
theorem low_pop {t : TeS} (h : Low t) : Low (popT t) := by
 unfold popT
 split
 · exact h
 ·
  split
  · exact h
  ·
   split
   ·
    rename_i e e2 r hs
    split
    · exact fun x hx => h x (by rw [hs]; exact List.mem_cons_of_mem _ hx)
    · exact h
   · exact h
theorem low_close {t : TeS} (h : Low t) : Low (closeT t) := by
 unfold closeT
 split
 · exact h
 ·
  split
  · exact fun x hx => h x (popAl_mem _ x hx)
  · exact h
theorem low_tell {t : TeS} (cls : List Int) (mt : Int → Option Int) (k : Nat) (h : Low t) : Low (tellS cls mt k t) := by
 unfold tellS
 repeat' split
 all_goals first | exact low_push h _ _ _ | exact low_pop h | exact low_close h | exact h
theorem low_told (cls : List Int) (mt : Int → Option Int) {base : Int} (h0 : 0 ≤ base) (h1 : base ≤ 20) : ∀ j, Low (toldS cls mt base j)
 | 0 => fun e he => by rw [toldS, List.mem_singleton] at he; subst he; exact ⟨h0, h1⟩
 | j + 1 => low_tell cls mt j (low_told cls mt h0 h1 j)
theorem low_top {t : TeS} (h : Low t) : 0 ≤ (topE t).f0 ∧ (topE t).f0 ≤ 20 := by
 unfold topE
 cases e : t.st with
 | nil => exact ⟨by decide, by decide⟩
 | cons x y => exact h x (by rw [e]; simp)
theorem tellL_no {c : Int} (h : noLv c = true) (t : TeS) : tellL c t = -1 := by
 unfold tellL
 rw [if_pos h]
theorem tellL_low {c : Int} (h : noLv c = false) {t : TeS} (hl : Low t) : 0 ≤ tellL c t ∧ tellL c t ≤ 20 := by
 unfold tellL
 rw [h, if_neg (by decide)]
 split
 · exact low_top (low_close hl)
 · exact low_top hl
theorem toldL_get (cls : List Int) (mt : Int → Option Int) (base : Int) {n i : Nat} (h : i < n) : (toldL cls mt base n).getD i 0 = tellL (cls.getD i 0) (toldS cls mt base i) := by
 unfold toldL
 simp [List.getD_eq_getElem?_getD, h]
end Go.Proofs.Ytojehfdioeglgaa.Pure
/- The levels within what is read by itself: none is that of what begins it, or all are. -/
namespace Go.Proofs.Ytojehfdioeglgaa.Pure
open Go.RowKit Go.Proofs.Ytojehfdioeglgaa.S Go.Proofs.YtojehfdioeglgaaW.PrintWords Go.Proofs.YtojehfdioeglgaaW.PrintLast
def cntE (l : List S87) : Nat := (l.filter (fun e => e.f2)).length
theorem cntE_cons (e : S87) (l : List S87) : cntE (e :: l) = cntE l + (if e.f2 = true then 1 else 0) := by
 unfold cntE
 by_cases h : e.f2 = true <;> simp [h]
theorem popAl_app : ∀ (X R : List S87), 0 < cntE X → popAl (X ++ R) = popAl X ++ R ∧ cntE (popAl X) + 1 = cntE X
 | [], _, h => by simp [cntE] at h
 | e :: r, R, h => by
  rw [cntE_cons] at h
  rw [List.cons_append, popAl, popAl, cntE_cons]
  by_cases he : e.f2 = true
  ·
   rw [if_pos he, if_pos he, if_pos he]
   exact ⟨rfl, rfl⟩
  ·
   rw [if_neg he] at h
   rw [if_neg he, if_neg he, if_neg he]
   exact popAl_app r R h
theorem popAl_none : ∀ (X : List S87) (e : S87) (S : List S87), cntE X = 0 → e.f2 = true → popAl (X ++ e :: S) = S
 | [], e, S, _, he => by rw [List.nil_append, popAl, if_pos he]
 | x :: r, e, S, h, he => by
  rw [cntE_cons] at h
  rw [List.cons_append, popAl]
  by_cases hx : x.f2 = true
  · rw [if_pos hx] at h; omega
  ·
   rw [if_neg hx]
   exact popAl_none r e S (by omega) he
theorem any_app_e (X : List S87) (e : S87) (S : List S87) (he : e.f2 = true) : (X ++ e :: S).any (·.f2) = true := by
 rw [List.any_append, List.any_cons, he, Bool.true_or, Bool.or_true]
theorem upT_gt (l : Int) (r : Bool) : l < upT l r := by
 unfold upT
 split <;> omega
theorem top_app {t : TeS} {X : List S87} {e : S87} {S : List S87} (h : t.st = X ++ e :: S) {L : Int} (hX : ∀ x ∈ X, L < x.f0) (he : L < e.f0) : L < (topE t).f0 ∧ topT t = (topE t).f0 := by
 unfold topE topT
 rw [h]
 cases X with
 | nil => exact ⟨he, rfl⟩
 | cons x r => exact ⟨hX x (by simp), rfl⟩
theorem stepD_opens {c : Int} (h : opensB c = true) (d : Int) : stepD c d = d + 1 := by
 unfold stepD
 rw [if_pos h, if_neg (opens_not22 h)]
 omega
theorem stepD_22 (d : Int) : stepD 22 d = d - 1 := by
 unfold stepD
 rw [if_neg (by decide), if_pos rfl]
theorem stepD_none {c : Int} (h : opensB c = false) (h22 : c ≠ 22) (d : Int) : stepD c d = d := by
 unfold stepD
 rw [h, if_neg (by decide), if_neg h22]
 omega
theorem opensB_iff (c : Int) : opensB c = true ↔ c = 19 ∨ c = 20 ∨ c = 21 := by
 unfold opensB
 simp only [Bool.or_eq_true, beq_iff_eq, or_assoc]
theorem tellS_opens {cls : List Int} {mt : Int → Option Int} {k : Nat} {t : TeS} (h : opensB (cls.getD k 0) = true) : ∃ r, tellS cls mt k t = pushT r 0 true t := by
 rcases (opensB_iff _).mp h with h | h | h
 · exact ⟨false, by unfold tellS; rw [h]; rfl⟩
 · exact ⟨true, by unfold tellS; rw [h]; rfl⟩
 · exact ⟨_, by unfold tellS; rw [h]; rfl⟩
theorem tellS_22 {cls : List Int} {mt : Int → Option Int} {k : Nat} {t : TeS} (h : cls.getD k 0 = 22) : tellS cls mt k t = closeT t := by
 unfold tellS
 rw [h]
 rfl
theorem tellS_else {cls : List Int} {mt : Int → Option Int} {k : Nat} {t : TeS} (h : opensB (cls.getD k 0) = false) (h22 : cls.getD k 0 ≠ 22) : (∃ r d, tellS cls mt k t = pushT r d false t) ∨ tellS cls mt k t = popT t ∨ tellS cls mt k t = t := by
 have hn : ¬ (cls.getD k 0 = 19 ∨ cls.getD k 0 = 20 ∨ cls.getD k 0 = 21) := fun h2 => by rw [(opensB_iff _).mpr h2] at h; cases h
 unfold tellS
 split
 · exact .inl ⟨_, _, rfl⟩
 ·
  split
  · exact .inl ⟨_, _, rfl⟩
  ·
   split
   · exact .inl ⟨_, _, rfl⟩
   ·
    split
    · exact .inl ⟨_, _, rfl⟩
    ·
     split
     · exact .inr (.inl rfl)
     ·
      split
      · exact .inr (.inr rfl)
      ·
       rw [if_neg (fun h => hn (.inl h)), if_neg (fun h => hn (.inr (.inl h))), if_neg (fun h => hn (.inr (.inr h)))]
       exact .inr (.inr rfl)
def Above (e : S87) (S : List S87) (L d : Int) (t : TeS) : Prop := ∃ X, t.st = X ++ e :: S ∧ 0 ≤ t.lost ∧ d = 1 + cntE X + t.lost ∧ ∀ x ∈ X, L < x.f0
theorem above_push {e : S87} {S : List S87} {L d : Int} {t : TeS} (he : L < e.f0) (h : Above e S L d t) (r : Bool) (sd : Int) (a : Bool) : Above e S L (if a = true then d + 1 else d) (pushT r sd a t) := by
 obtain ⟨X, h1, h2, h3, h4⟩ := h
 obtain ⟨t1, t2⟩ := top_app h1 h4 he
 have hu := upT_gt (topT t) r
 unfold pushT
 by_cases hc : upT (topT t) r ≤ 20 ∧ t.lost = 0 ∧ t.sk = 0
 ·
  rw [if_pos hc]
  refine ⟨⟨upT (topT t) r, sd, a⟩ :: X, by simp only; rw [h1]; rfl, h2, ?_, ?_⟩
  ·
   rw [cntE_cons]
   simp only
   cases a <;> simp <;> omega
  ·
   intro x hx
   rcases List.mem_cons.mp hx with rfl | hx
   · simp only; omega
   · exact h4 x hx
 ·
  rw [if_neg hc]
  cases a with
  | true =>
   simp only [if_true]
   exact ⟨X, h1, by simp only; omega, by simp only; omega, h4⟩
  | false =>
   simp only [Bool.false_eq_true, if_false]
   by_cases h0 : t.lost = 0
   · rw [if_pos h0]; exact ⟨X, h1, h2, h3, h4⟩
   · rw [if_neg h0]; exact ⟨X, h1, h2, h3, h4⟩
theorem above_pop {e : S87} {S : List S87} {L d : Int} {t : TeS} (ha : e.f2 = true) (h : Above e S L d t) : Above e S L d (popT t) := by
 obtain ⟨X, h1, h2, h3, h4⟩ := h
 unfold popT
 split
 · exact ⟨X, h1, h2, h3, h4⟩
 ·
  split
  · exact ⟨X, h1, h2, h3, h4⟩
  ·
   split
   ·
    rename_i x x2 r hs
    split
    ·
     rename_i hx
     cases X with
     | nil =>
      rw [h1, List.nil_append] at hs
      injection hs with hs1 hs2
      rw [← hs1, ha] at hx
      cases hx
     | cons y Y =>
      rw [h1, List.cons_append] at hs
      injection hs with hs1 hs2
      rw [← hs1] at hx
      refine ⟨Y, by simp only; exact hs2.symm, h2, ?_, fun z hz => h4 z (List.mem_cons_of_mem _ hz)⟩
      rw [cntE_cons, hx, if_neg (by decide)] at h3
      simp only
      omega
    · exact ⟨X, h1, h2, h3, h4⟩
   · exact ⟨X, h1, h2, h3, h4⟩
theorem above_close {e : S87} {S : List S87} {L d : Int} {t : TeS} (ha : e.f2 = true) (hd : 2 ≤ d) (h : Above e S L d t) : Above e S L (d - 1) (closeT t) := by
 obtain ⟨X, h1, h2, h3, h4⟩ := h
 unfold closeT
 split
 · exact ⟨X, h1, by simp only; omega, by simp only; omega, h4⟩
 ·
  rw [h1, any_app_e _ _ _ ha, if_pos rfl]
  obtain ⟨p1, p2⟩ := popAl_app X (e :: S) (by omega)
  exact ⟨popAl X, p1, h2, by simp only; omega, fun x hx => h4 x (popAl_mem _ x hx)⟩
theorem above_end {e : S87} {S : List S87} {L : Int} {t : TeS} (ha : e.f2 = true) (h : Above e S L 1 t) : (closeT t).st = S := by
 obtain ⟨X, h1, h2, h3, h4⟩ := h
 unfold closeT
 rw [if_neg (by omega), h1, any_app_e _ _ _ ha, if_pos rfl]
 exact popAl_none X e S (by omega) ha
def Lost (S : List S87) (q d : Int) (t : TeS) : Prop := t.st = S ∧ t.lost = q + d ∧ 0 ≤ q
theorem lost_push {S : List S87} {q d : Int} {t : TeS} (hd : 1 ≤ d) (h : Lost S q d t) (r : Bool) (sd : Int) (a : Bool) : Lost S q (if a = true then d + 1 else d) (pushT r sd a t) := by
 obtain ⟨h1, h2, h3⟩ := h
 have hc : ¬ (upT (topT t) r ≤ 20 ∧ t.lost = 0 ∧ t.sk = 0) := fun hc => by have := hc.2.1; omega
 have h0 : ¬ t.lost = 0 := by omega
 unfold pushT
 rw [if_neg hc]
 cases a with
 | true =>
  simp only [if_true]
  exact ⟨h1, by simp only; omega, h3⟩
 | false =>
  simp only [Bool.false_eq_true, if_false]
  rw [if_neg h0]
  exact ⟨h1, h2, h3⟩
theorem lost_pop {S : List S87} {q d : Int} {t : TeS} (hd : 1 ≤ d) (h : Lost S q d t) : Lost S q d (popT t) := by
 obtain ⟨h1, h2, h3⟩ := h
 unfold popT
 rw [if_pos (by omega)]
 exact ⟨h1, h2, h3⟩
theorem lost_close {S : List S87} {q d : Int} {t : TeS} (hd : 1 ≤ d) (h : Lost S q d t) : Lost S q (d - 1) (closeT t) := by
 obtain ⟨h1, h2, h3⟩ := h
 unfold closeT
 rw [if_pos (by omega)]
 exact ⟨h1, by simp only; omega, h3⟩
theorem scan_on {cls : List Int} {j m : Nat} {d : Int} (hj : j < cls.length) (hm : m < cls.length) (hd : 1 ≤ d) (h : scanM cls (cls.length - j) j d = m) : (j = m ∧ cls.getD j 0 = 22 ∧ d = 1) ∨ (1 ≤ stepD (cls.getD j 0) d ∧ scanM cls (cls.length - (j + 1)) (j + 1) (stepD (cls.getD j 0) d) = m) := by
 rw [scanM_step hj] at h
 cases ho : opensB (cls.getD j 0) with
 | true =>
  rw [stepD_opens ho] at h ⊢
  rw [if_neg (by omega)] at h
  exact .inr ⟨by omega, h⟩
 | false =>
  by_cases h22 : cls.getD j 0 = 22
  ·
   rw [h22, stepD_22] at h ⊢
   by_cases h1 : d - 1 = 0
   ·
    rw [if_pos h1] at h
    exact .inl ⟨h, rfl, by omega⟩
   ·
    rw [if_neg h1] at h
    exact .inr ⟨by omega, h⟩
  ·
   rw [stepD_none ho h22] at h ⊢
   rw [if_neg (by omega)] at h
   exact .inr ⟨hd, h⟩
theorem tellL_open {c : Int} (h : noLv c = false) (h22 : c ≠ 22) (t : TeS) : tellL c t = (topE t).f0 := by
 unfold tellL
 rw [h, if_neg (by decide), if_neg h22]
theorem tellL_close (t : TeS) : tellL 22 t = (topE (closeT t)).f0 := by
 unfold tellL
 rw [if_neg (by decide), if_pos rfl]
theorem above_in {cls : List Int} {mt : Int → Option Int} {base : Int} {e : S87} {S : List S87} {L : Int} {m : Nat} (ha : e.f2 = true) (he : L < e.f0) (hm : m < cls.length) : ∀ (g j : Nat) (d : Int), m - j = g → j ≤ m → 1 ≤ d → scanM cls (cls.length - j) j d = m → Above e S L d (toldS cls mt base j) →
  (∀ i, j ≤ i → i < m → noLv (cls.getD i 0) = false → L < tellL (cls.getD i 0) (toldS cls mt base i)) ∧ (closeT (toldS cls mt base m)).st = S
 | 0, j, d, hg, hj, hd, hs, hA => by
  obtain rfl : j = m := by omega
  refine ⟨fun i h1 h2 => by omega, ?_⟩
  rcases scan_on (by omega) hm hd hs with ⟨_, _, rfl⟩ | ⟨h1, h2⟩
  · exact above_end ha hA
  ·
   exfalso
   have : ∀ (g i : Nat) (x : Int), i ≤ cls.length → cls.length - i = g → i ≤ scanM cls g i x := by
    intro g
    induction g with
    | zero => intro i x h3 h4; rw [scanM]; omega
    | succ g ih =>
     intro i x h3 h4
     rw [scanM]
     split
     · omega
     ·
      have := ih (i + 1) (stepD (cls.getD i 0) x) (by omega) (by omega)
      omega
   have := this _ (j + 1) (stepD (cls.getD j 0) d) (by omega) rfl
   omega
 | g + 1, j, d, hg, hj, hd, hs, hA => by
  rcases scan_on (by omega) hm hd hs with ⟨h1, _, _⟩ | ⟨h1, h2⟩
  · omega
  have hnext : Above e S L (stepD (cls.getD j 0) d) (toldS cls mt base (j + 1)) := by
   rw [toldS]
   cases ho : opensB (cls.getD j 0) with
   | true =>
    obtain ⟨r, hr⟩ := tellS_opens (mt := mt) (t := toldS cls mt base j) ho
    rw [hr, stepD_opens ho]
    exact above_push he hA r 0 true
   | false =>
    by_cases h22 : cls.getD j 0 = 22
    ·
     rw [tellS_22 h22, h22, stepD_22]
     rw [h22, stepD_22] at h1
     exact above_close ha (by omega) hA
    ·
     rw [stepD_none ho h22]
     rcases tellS_else (mt := mt) (t := toldS cls mt base j) ho h22 with ⟨r, sd, hr⟩ | hr | hr
     · rw [hr]; exact above_push he hA r sd false
     · rw [hr]; exact above_pop ha hA
     · rw [hr]; exact hA
  obtain ⟨ih1, ih2⟩ := above_in ha he hm g (j + 1) _ (by omega) (by omega) h1 h2 hnext
  refine ⟨fun i h3 h4 h5 => ?_, ih2⟩
  by_cases e1 : i = j
  ·
   subst e1
   by_cases h22 : cls.getD i 0 = 22
   ·
    rw [h22, tellL_close]
    rw [toldS, tellS_22 h22] at hnext
    obtain ⟨X, x1, _, _, x4⟩ := hnext
    exact (top_app x1 x4 he).1
   ·
    rw [tellL_open h5 h22]
    obtain ⟨X, x1, _, _, x4⟩ := hA
    exact (top_app x1 x4 he).1
  · exact ih1 i (by omega) h4 h5
theorem lost_in {cls : List Int} {mt : Int → Option Int} {base : Int} {S : List S87} {q : Int} {m : Nat} (hm : m < cls.length) : ∀ (g j : Nat) (d : Int), m - j = g → j ≤ m → 1 ≤ d → scanM cls (cls.length - j) j d = m → Lost S q d (toldS cls mt base j) →
  (∀ i, j ≤ i → i < m → noLv (cls.getD i 0) = false → tellL (cls.getD i 0) (toldS cls mt base i) = (topE ⟨S, 0, 0⟩).f0) ∧ (closeT (toldS cls mt base m)).st = S
 | 0, j, d, hg, hj, hd, hs, hA => by
  obtain rfl : j = m := by omega
  exact ⟨fun i h1 h2 => by omega, (lost_close hd hA).1⟩
 | g + 1, j, d, hg, hj, hd, hs, hA => by
  rcases scan_on (by omega) hm hd hs with ⟨h1, _, _⟩ | ⟨h1, h2⟩
  · omega
  have hnext : Lost S q (stepD (cls.getD j 0) d) (toldS cls mt base (j + 1)) := by
   rw [toldS]
   cases ho : opensB (cls.getD j 0) with
   | true =>
    obtain ⟨r, hr⟩ := tellS_opens (mt := mt) (t := toldS cls mt base j) ho
    rw [hr, stepD_opens ho]
    exact lost_push hd hA r 0 true
   | false =>
    by_cases h22 : cls.getD j 0 = 22
    ·
     rw [tellS_22 h22, h22, stepD_22]
     exact lost_close hd hA
    ·
     rw [stepD_none ho h22]
     rcases tellS_else (mt := mt) (t := toldS cls mt base j) ho h22 with ⟨r, sd, hr⟩ | hr | hr
     · rw [hr]; exact lost_push hd hA r sd false
     · rw [hr]; exact lost_pop hd hA
     · rw [hr]; exact hA
  obtain ⟨ih1, ih2⟩ := lost_in hm g (j + 1) _ (by omega) (by omega) h1 h2 hnext
  refine ⟨fun i h3 h4 h5 => ?_, ih2⟩
  by_cases e1 : i = j
  ·
   subst e1
   by_cases h22 : cls.getD i 0 = 22
   ·
    rw [h22, tellL_close]
    rw [toldS, tellS_22 h22] at hnext
    unfold topE
    rw [hnext.1]
   ·
    rw [tellL_open h5 h22]
    unfold topE
    rw [hA.1]
  · exact ih1 i (by omega) h4 h5
def lvV (cls : List Int) (base : Int) (i : Nat) : Int := tellL (cls.getD i 0) (toldS cls (mtC cls) base i)
theorem lvV_lt {cls : List Int} {base : Int} (h0 : 0 ≤ base) (h1 : base ≤ 20) (i : Nat) : (lvV cls base i < 0 ↔ noLv (cls.getD i 0) = true) ∧ (lvV cls base i < 0 → lvV cls base i = -1) := by
 unfold lvV
 cases hn : noLv (cls.getD i 0) with
 | true =>
  rw [tellL_no hn]
  exact ⟨⟨fun _ => rfl, fun _ => by decide⟩, fun _ => rfl⟩
 | false =>
  have := tellL_low hn (low_told cls (mtC cls) h0 h1 i)
  exact ⟨⟨fun h => by omega, fun h => by cases h⟩, fun h => by omega⟩
theorem within {cls : List Int} {base : Int} (h0 : 0 ≤ base) (h1 : base ≤ 20) {p m : Nat} (hpm : mtC cls p = some (m : Int)) : p < m ∧ m < cls.length ∧ 0 ≤ lvV cls base p ∧ lvV cls base m = lvV cls base p ∧
  ((∀ i, p < i → i < m → 0 ≤ lvV cls base i → lvV cls base i = lvV cls base p) ∨ (∀ i, p < i → i < m → 0 ≤ lvV cls base i → lvV cls base p < lvV cls base i)) := by
 obtain ⟨p', m', e1, e2, e3, e4, e5, e6, e7⟩ := mt_inv hpm
 obtain rfl : p' = p := by omega
 obtain rfl : m' = m := by omega
 have hno : noLv (cls.getD p' 0) = false := by
  rcases (opensB_iff _).mp e5 with h | h | h <;> rw [h] <;> rfl
 have hlp : lvV cls base p' = (topE (toldS cls (mtC cls) base p')).f0 := tellL_open hno (opens_not22 e5) _
 have hinv := inv_told cls (mtC cls) base h0 (by omega) p'
 obtain ⟨te, tr, hst, _, ht0, _⟩ := hinv.cons
 have htop : topE (toldS cls (mtC cls) base p') = te := by unfold topE; rw [hst]
 have htt : topT (toldS cls (mtC cls) base p') = te.f0 := by unfold topT; rw [hst]
 have hlv : ∀ i, 0 ≤ lvV cls base i → noLv (cls.getD i 0) = false := fun i hi => by
  cases hn : noLv (cls.getD i 0) with
  | false => rfl
  | true => exact absurd ((lvV_lt h0 h1 i).1.mpr hn) (by omega)
 have hs1 : scanM cls (cls.length - (p' + 1)) (p' + 1) 1 = m' := by
  rw [scanM_step (by omega), stepD_opens e5, if_neg (by omega)] at e7
  exact e7
 obtain ⟨r, hr⟩ := tellS_opens (mt := mtC cls) (t := toldS cls (mtC cls) base p') e5
 have hns : toldS cls (mtC cls) base (p' + 1) = pushT r 0 true (toldS cls (mtC cls) base p') := by rw [toldS, hr]
 have hm22 : lvV cls base m' = (topE (closeT (toldS cls (mtC cls) base m'))).f0 := by
  unfold lvV
  rw [e6, tellL_close]
 refine ⟨e3, e4, by rw [hlp, htop]; exact ht0, ?_⟩
 by_cases hc : upT (topT (toldS cls (mtC cls) base p')) r ≤ 20 ∧ (toldS cls (mtC cls) base p').lost = 0 ∧ (toldS cls (mtC cls) base p').sk = 0
 ·
  have hA : Above ⟨upT te.f0 r, 0, true⟩ (toldS cls (mtC cls) base p').st te.f0 1 (toldS cls (mtC cls) base (p' + 1)) := by
   rw [hns]
   unfold pushT
   rw [if_pos hc, htt]
   exact ⟨[], rfl, by simp only; omega, by simp only [hc.2.1]; rfl, fun x hx => by cases hx⟩
  obtain ⟨a1, a2⟩ := above_in rfl (upT_gt te.f0 r) e4 (m' - (p' + 1)) (p' + 1) 1 rfl (by omega) (by omega) hs1 hA
  refine ⟨?_, .inr fun i i1 i2 i3 => ?_⟩
  ·
   rw [hm22, hlp]
   unfold topE
   rw [a2]
  ·
   rw [hlp, htop]
   exact a1 i (by omega) i2 (hlv i i3)
 ·
  have hA : Lost (toldS cls (mtC cls) base p').st (toldS cls (mtC cls) base p').lost 1 (toldS cls (mtC cls) base (p' + 1)) := by
   rw [hns]
   unfold pushT
   rw [if_neg hc, if_pos rfl]
   exact ⟨rfl, rfl, hinv.1⟩
  obtain ⟨a1, a2⟩ := lost_in e4 (m' - (p' + 1)) (p' + 1) 1 rfl (by omega) (by omega) hs1 hA
  refine ⟨?_, .inl fun i i1 i2 i3 => ?_⟩
  ·
   rw [hm22, hlp]
   unfold topE
   rw [a2]
  ·
   have := a1 i (by omega) i2 (hlv i i3)
   rw [hlp]
   unfold lvV
   rw [this]
   rfl
end Go.Proofs.Ytojehfdioeglgaa.Pure
/- Letters of one level side by side, by both texts. -/
namespace Go.Proofs.Ytojehfdioeglgaa.Pure
open Go.RowKit Go.Proofs.Ytojehfdioeglgaa.S Go.Proofs.YtojehfdioeglgaaW.PrintWords Go.Proofs.YtojehfdioeglgaaW.PrintLast
def placesV (lv : List Int) (a b : Nat) : List Int := (((List.range (b - a)).map (· + a)).filter (fun j => decide (0 ≤ lv.getD j 0))).map Int.ofNat
theorem places_succ {lv : List Int} {a b : Nat} (h : a ≤ b) : placesV lv a (b + 1) = placesV lv a b ++ (if 0 ≤ lv.getD b 0 then [(b : Int)] else []) := by
 unfold placesV
 rw [show b + 1 - a = (b - a) + 1 by omega, List.range_succ, List.map_append, List.filter_append, List.map_append]
 congr 1
 rw [List.map_cons, List.map_nil, show b - a + a = b by omega]
 by_cases h0 : 0 ≤ lv.getD b 0
 · rw [List.filter_cons_of_pos (by simpa using h0), if_pos h0]; rfl
 · rw [List.filter_cons_of_neg (by simpa using h0), if_neg h0]; rfl
theorem places_self (lv : List Int) (a : Nat) : placesV lv a a = [] := by simp [placesV]
theorem places_mem {lv : List Int} {a b : Nat} {x : Int} : x ∈ placesV lv a b ↔ ∃ j : Nat, a ≤ j ∧ j < b ∧ 0 ≤ lv.getD j 0 ∧ x = j := by
 unfold placesV
 simp only [List.mem_map, List.mem_filter, List.mem_range, decide_eq_true_eq]
 constructor
 ·
  rintro ⟨j, ⟨⟨i, hi, rfl⟩, h0⟩, rfl⟩
  exact ⟨i + a, by omega, by omega, h0, rfl⟩
 ·
  rintro ⟨j, h1, h2, h0, rfl⟩
  exact ⟨j, ⟨⟨j - a, by omega, by omega⟩, h0⟩, rfl⟩
theorem places_len (lv : List Int) (a b : Nat) : (placesV lv a b).length ≤ b - a := by
 unfold placesV
 rw [List.length_map]
 exact Nat.le_trans (List.length_filter_le _ _) (by simp)
theorem places_ends {lv : List Int} {a : Nat} (h0 : 0 ≤ lv.getD a 0) : ∀ d, 0 < (placesV lv a (a + 1 + d)).length ∧ (placesV lv a (a + 1 + d)).getD 0 0 = a ∧ ∃ l : Nat, lastI (placesV lv a (a + 1 + d)) = l ∧ a ≤ l ∧ l < a + 1 + d ∧ 0 ≤ lv.getD l 0 ∧ ∀ j, l < j → j < a + 1 + d → lv.getD j 0 < 0
 | 0 => by
  rw [Nat.add_zero, places_succ (Nat.le_refl _), places_self, if_pos h0]
  exact ⟨by simp, rfl, a, rfl, Nat.le_refl _, by omega, h0, fun j h1 h2 => by omega⟩
 | d + 1 => by
  obtain ⟨i1, i2, l, i3, i4, i5, i6, i7⟩ := places_ends h0 d
  rw [show a + 1 + (d + 1) = (a + 1 + d) + 1 by omega, places_succ (by omega)]
  by_cases h : 0 ≤ lv.getD (a + 1 + d) 0
  ·
   rw [if_pos h]
   refine ⟨by simp, ?_, a + 1 + d, ?_, by omega, by omega, h, fun j h1 h2 => by omega⟩
   · rw [getD_snoc, if_pos i1, i2]
   · rw [lastI_app (by simp)]; rfl
  ·
   rw [if_neg h, List.append_nil]
   refine ⟨i1, i2, l, i3, i4, by omega, i6, fun j h1 h2 => ?_⟩
   by_cases e : j = a + 1 + d
   · subst e; omega
   · exact i7 j h1 (by omega)
def PieceP (lv : List Int) (x : S62) (a e : Nat) : Prop := a < e ∧ e ≤ lv.length ∧ 0 ≤ lv.getD a 0 ∧ x.f1 = lv.getD a 0 ∧ (∀ j, a ≤ j → j < e → lv.getD j 0 < 0 ∨ lv.getD j 0 = lv.getD a 0) ∧ (e < lv.length → 0 ≤ lv.getD e 0 ∧ lv.getD e 0 ≠ lv.getD a 0) ∧ x.f0 = placesV lv a e
def Cl (lv : List Int) : List S62 → Nat → Prop
 | [], at_ => at_ = lv.length
 | x :: r, at_ => ∃ e, PieceP lv x at_ e ∧ Cl lv r e
def restP (lv : List Int) : Nat → Nat → S62 → List S62
 | 0, _, x => [x]
 | g + 1, i, x => if lv.getD i 0 = -1 then restP lv g (i + 1) x else if x.f1 = lv.getD i 0 then restP lv g (i + 1) ⟨x.f0 ++ [(i : Int)], x.f1⟩ else x :: restP lv g (i + 1) ⟨[(i : Int)], lv.getD i 0⟩
def startP (lv : List Int) : Nat → Nat → List S62
 | 0, _ => []
 | g + 1, i => if lv.getD i 0 = -1 then startP lv g (i + 1) else restP lv g (i + 1) ⟨[(i : Int)], lv.getD i 0⟩
def LvOk (lv : List Int) : Prop := ∀ i, i < lv.length → lv.getD i 0 = -1 ∨ 0 ≤ lv.getD i 0
theorem cl_rest {lv : List Int} (hl : LvOk lv) : ∀ (g i a : Nat) (x : S62), lv.length - i = g → i ≤ lv.length → a < i → 0 ≤ lv.getD a 0 → x.f1 = lv.getD a 0 → (∀ j, a ≤ j → j < i → lv.getD j 0 < 0 ∨ lv.getD j 0 = lv.getD a 0) → x.f0 = placesV lv a i → Cl lv (restP lv g i x) a
 | 0, i, a, x, hg, hi, ha, h0, h1, h2, h3 => by
  obtain rfl : i = lv.length := by omega
  exact ⟨lv.length, ⟨ha, Nat.le_refl _, h0, h1, h2, fun h => absurd h (Nat.lt_irrefl _), h3⟩, rfl⟩
 | g + 1, i, a, x, hg, hi, ha, h0, h1, h2, h3 => by
  rw [restP]
  by_cases hm : lv.getD i 0 = -1
  ·
   rw [if_pos hm]
   refine cl_rest hl g (i + 1) a x (by omega) (by omega) (by omega) h0 h1 (fun j j1 j2 => ?_) ?_
   ·
    by_cases e : j = i
    · subst e; exact .inl (by omega)
    · exact h2 j j1 (by omega)
   · rw [places_succ (by omega), if_neg (by omega), List.append_nil, h3]
  ·
   rw [if_neg hm]
   have hp : 0 ≤ lv.getD i 0 := by
    rcases hl i (by omega) with h | h
    · exact absurd h hm
    · exact h
   by_cases he : x.f1 = lv.getD i 0
   ·
    rw [if_pos he]
    refine cl_rest hl g (i + 1) a _ (by omega) (by omega) (by omega) h0 h1 (fun j j1 j2 => ?_) ?_
    ·
     by_cases e : j = i
     · subst e; exact .inr (by omega)
     · exact h2 j j1 (by omega)
    · rw [places_succ (by omega), if_pos hp, h3]
   ·
    rw [if_neg he]
    refine ⟨i, ⟨ha, by omega, h0, h1, h2, fun _ => ⟨hp, fun h => he (by omega)⟩, h3⟩, ?_⟩
    refine cl_rest hl g (i + 1) i _ (by omega) (by omega) (by omega) hp rfl (fun j j1 j2 => ?_) ?_
    ·
     obtain rfl : j = i := by omega
     exact .inr rfl
    · rw [places_succ (Nat.le_refl _), places_self, if_pos hp]; rfl
theorem cl_start {lv : List Int} (hl : LvOk lv) : ∀ (g i : Nat), lv.length - i = g → i ≤ lv.length → ∃ b, i ≤ b ∧ b ≤ lv.length ∧ (∀ j, i ≤ j → j < b → lv.getD j 0 < 0) ∧ (b < lv.length → 0 ≤ lv.getD b 0) ∧ Cl lv (startP lv g i) b
 | 0, i, hg, hi => ⟨i, Nat.le_refl _, hi, fun j h1 h2 => by omega, fun h => by omega, by show i = lv.length; omega⟩
 | g + 1, i, hg, hi => by
  rw [startP]
  by_cases hm : lv.getD i 0 = -1
  ·
   rw [if_pos hm]
   obtain ⟨b, b1, b2, b3, b4, b5⟩ := cl_start hl g (i + 1) (by omega) (by omega)
   refine ⟨b, by omega, b2, fun j h1 h2 => ?_, b4, b5⟩
   by_cases e : j = i
   · subst e; omega
   · exact b3 j (by omega) h2
  ·
   rw [if_neg hm]
   have hp : 0 ≤ lv.getD i 0 := by
    rcases hl i (by omega) with h | h
    · exact absurd h hm
    · exact h
   refine ⟨i, Nat.le_refl _, hi, fun j h1 h2 => by omega, fun _ => hp, ?_⟩
   refine cl_rest hl g (i + 1) i _ (by omega) (by omega) (by omega) hp rfl (fun j j1 j2 => ?_) ?_
   ·
    obtain rfl : j = i := by omega
    exact .inr rfl
   · rw [places_succ (Nat.le_refl _), places_self, if_pos hp]; rfl
theorem cl_all {lv : List Int} : ∀ (ps : List S62) (b : Nat), Cl lv ps b → ∀ x ∈ ps, ∃ a e, b ≤ a ∧ PieceP lv x a e
 | [], _, _, x, hx => by cases hx
 | y :: r, b, h, x, hx => by
  obtain ⟨e, h1, h2⟩ := h
  rcases List.mem_cons.mp hx with rfl | hx
  · exact ⟨b, e, Nat.le_refl _, h1⟩
  ·
   obtain ⟨a, e', h3, h4⟩ := cl_all r e h2 x hx
   exact ⟨a, e', by have := h1.1; omega, h4⟩
theorem cl_cover {lv : List Int} : ∀ (ps : List S62) (b : Nat), Cl lv ps b → ∀ j : Nat, b ≤ j → j < lv.length → 0 ≤ lv.getD j 0 → ∃ x ∈ ps, ∃ a e, PieceP lv x a e ∧ a ≤ j ∧ j < e
 | [], b, h, j, h1, h2, _ => by
  have : b = lv.length := h
  omega
 | y :: r, b, h, j, h1, h2, h0 => by
  obtain ⟨e, h3, h4⟩ := h
  by_cases hj : j < e
  · exact ⟨y, by simp, b, e, h3, h1, hj⟩
  ·
   obtain ⟨x, hx, h5⟩ := cl_cover r e h4 j (by omega) h2 h0
   exact ⟨x, List.mem_cons_of_mem _ hx, h5⟩
theorem cl_len {lv : List Int} : ∀ (ps : List S62) (b : Nat), Cl lv ps b → ps.length + b ≤ lv.length
 | [], b, h => by
  have : b = lv.length := h
  simp; omega
 | y :: r, b, h => by
  obtain ⟨e, h3, h4⟩ := h
  have := cl_len r e h4
  have := h3.1
  rw [List.length_cons]; omega
theorem piece_ends {lv : List Int} {x : S62} {a e : Nat} (h : PieceP lv x a e) : 0 < x.f0.length ∧ fstP x = a ∧ ∃ l : Nat, lastI x.f0 = l ∧ a ≤ l ∧ l < e ∧ 0 ≤ lv.getD l 0 ∧ lv.getD l 0 = lv.getD a 0 ∧ ∀ j, l < j → j < e → lv.getD j 0 < 0 := by
 obtain ⟨h1, h2, h3, h4, h5, h6, h7⟩ := h
 obtain ⟨p1, p2, l, p3, p4, p5, p6, p7⟩ := places_ends h3 (e - (a + 1))
 rw [show a + 1 + (e - (a + 1)) = e by omega] at p1 p2 p3 p5 p7
 rw [← h7] at p1 p2 p3
 refine ⟨p1, p2, l, p3, p4, p5, p6, ?_, p7⟩
 rcases h5 l p4 p5 with h | h
 · omega
 · exact h
def piecesV (lv : List Int) : List S62 := startP lv lv.length 0
theorem rdT_last (f : List S62) (x : S62) : rd_T62 (f ++ [x]) (f.length : Int) = x := by
 simp [rd_T62, List.getD_eq_getElem?_getD]
theorem set_last (f : List S62) (x y : S62) : (f ++ [x]).set f.length y = f ++ [y] := by
 rw [List.set_append_right _ _ (Nat.le_refl _), Nat.sub_self]
 rfl
theorem pieces_l {lv : List Int} (hn : lv.length ≤ 1000) : ∀ (g k i : Nat) (f : List S62) (x : S62), lv.length - i = g → i ≤ lv.length → f.length ≤ i → x.f0.length ≤ i → g < k → impl_pieces.l0 k (f ++ [x]) lv (lv.length : Int) (i : Int) = some (f ++ restP lv g i x)
 | 0, k, i, f, x, hg, hi, hf, hx, hk => by
  obtain ⟨k, rfl⟩ : ∃ m, k = m + 1 := ⟨k - 1, by omega⟩
  rw [impl_pieces.l0, if_neg (by omega), restP]
 | g + 1, k, i, f, x, hg, hi, hf, hx, hk => by
  obtain ⟨k, rfl⟩ : ∃ m, k = m + 1 := ⟨k - 1, by omega⟩
  have e1 : wrap64 ((i : Int) + 1) = ((i + 1 : Nat) : Int) := by rw [w64 (by omega) (by omega)]; omega
  have hlen : (f ++ [x]).length = f.length + 1 := by simp
  have e2 : wrap64 (((f ++ [x]).length : Int) - 1) = (f.length : Int) := by rw [hlen, w64 (by omega) (by omega)]; omega
  rw [impl_pieces.l0, if_pos (by omega), if_pos (by omega), if_pos (by omega), rd_nat, restP, e1, e2, rdT_last]
  by_cases hm : lv.getD i 0 = -1
  ·
   rw [if_pos hm, if_pos hm]
   exact pieces_l hn g k (i + 1) f x (by omega) (by omega) (by omega) (by omega) (by omega)
  ·
   rw [if_neg hm, if_neg hm, if_pos (by omega), if_pos (by omega), if_pos (by rw [hlen]; omega)]
   by_cases he : x.f1 = lv.getD i 0
   ·
    rw [if_pos he, if_pos he, if_pos (by omega), Int.toNat_natCast, set_last]
    exact pieces_l hn g k (i + 1) f _ (by omega) (by omega) (by omega) (by simp; omega) (by omega)
   ·
    rw [if_neg he, if_neg he, if_pos (by rw [hlen]; omega)]
    have := pieces_l hn g k (i + 1) (f ++ [x]) ⟨[(i : Int)], lv.getD i 0⟩ (by omega) (by omega) (by simp; omega) (by simp) (by omega)
    rw [this, List.append_assoc]
    rfl
theorem pieces_0 {lv : List Int} (hn : lv.length ≤ 1000) : ∀ (g k i : Nat), lv.length - i = g → i ≤ lv.length → g < k → impl_pieces.l0 k [] lv (lv.length : Int) (i : Int) = some (startP lv g i)
 | 0, k, i, hg, hi, hk => by
  obtain ⟨k, rfl⟩ : ∃ m, k = m + 1 := ⟨k - 1, by omega⟩
  rw [impl_pieces.l0, if_neg (by omega), startP]
 | g + 1, k, i, hg, hi, hk => by
  obtain ⟨k, rfl⟩ : ∃ m, k = m + 1 := ⟨k - 1, by omega⟩
  have e1 : wrap64 ((i : Int) + 1) = ((i + 1 : Nat) : Int) := by rw [w64 (by omega) (by omega)]; omega
  have e2 : wrap64 ((([] : List S62).length : Int) - 1) = -1 := by rw [List.length_nil, w64 (by omega) (by omega)]; rfl
  rw [impl_pieces.l0, if_pos (by omega), if_pos (by omega), if_pos (by omega), rd_nat, startP, e1, e2]
  by_cases hm : lv.getD i 0 = -1
  ·
   rw [if_pos hm, if_pos hm]
   exact pieces_0 hn g k (i + 1) (by omega) (by omega) (by omega)
  ·
   rw [if_neg hm, if_neg hm, if_neg (by decide), if_pos (by simp), List.nil_append]
   exact pieces_l hn g k (i + 1) [] ⟨[(i : Int)], lv.getD i 0⟩ (by omega) (by omega) (by simp) (by simp) (by omega)
theorem pieces_p {lv : List Int} {k : Nat} (hn : lv.length ≤ 1000) (hk : lv.length < k) : impl_pieces.f k lv = some (piecesV lv) := by
 unfold impl_pieces.f
 exact pieces_0 hn lv.length k 0 (by omega) (by omega) hk
theorem cl_pieces {lv : List Int} (hl : LvOk lv) : ∃ b, b ≤ lv.length ∧ (∀ j, j < b → lv.getD j 0 < 0) ∧ (b < lv.length → 0 ≤ lv.getD b 0) ∧ Cl lv (piecesV lv) b := by
 obtain ⟨b, _, b2, b3, b4, b5⟩ := cl_start hl lv.length 0 (by omega) (by omega)
 exact ⟨b, b2, fun j h => b3 j (by omega) h, b4, b5⟩
theorem pieces_ok {lv : List Int} (hl : LvOk lv) (hn : lv.length ≤ 400) : PiecesOk lv.length (piecesV lv) ∧ (piecesV lv).length ≤ lv.length := by
 obtain ⟨b, b2, b3, b4, b5⟩ := cl_pieces hl
 refine ⟨fun x hx => ?_, by have := cl_len _ _ b5; omega⟩
 obtain ⟨a, e, _, h1⟩ := cl_all _ _ b5 x hx
 obtain ⟨p1, p2, l, p3, p4, p5, _⟩ := piece_ends h1
 have he := h1.2.1
 have h7 := h1.2.2.2.2.2.2
 refine ⟨p1, by rw [h7]; have := places_len lv a e; omega, fun p hp => ?_, by omega⟩
 rw [h7] at hp
 obtain ⟨j, j1, j2, _, rfl⟩ := places_mem.mp hp
 omega
theorem run_l {lv : List Int} {a e : Nat} (hn : lv.length ≤ 1000) (h0 : 0 ≤ lv.getD a 0) (h2 : ∀ j, a ≤ j → j < e → lv.getD j 0 < 0 ∨ lv.getD j 0 = lv.getD a 0) (h3 : e < lv.length → 0 ≤ lv.getD e 0 ∧ lv.getD e 0 ≠ lv.getD a 0) (he : e ≤ lv.length) (hae : a < e) : ∀ (g k i : Nat), e - i = g → a ≤ i → i ≤ e → 2 * g + 3 ≤ k → spec_l3Run.l0 k lv (a : Int) (placesV lv a i) (i : Int) = some (placesV lv a e)
 | 0, k, i, hg, hi, hie, hk => by
  obtain ⟨k, rfl⟩ : ∃ m, k = m + 2 := ⟨k - 2, by omega⟩
  obtain rfl : i = e := by omega
  rw [spec_l3Run.l0]
  by_cases hlt : i < lv.length
  ·
   obtain ⟨h4, h5⟩ := h3 hlt
   rw [if_pos (by omega), if_pos (by omega), rd_nat, rd_nat, if_neg (by omega), if_pos (by omega), if_pos (by omega), spec_l3Run.j1, if_neg (by simpa using h5)]
  · rw [if_neg (by omega), spec_l3Run.j1, if_neg (by decide)]
 | g + 1, k, i, hg, hi, hie, hk => by
  obtain ⟨k, rfl⟩ : ∃ m, k = m + 2 := ⟨k - 2, by omega⟩
  have hlt : i < lv.length := by omega
  have e1 : wrap64 ((i : Int) + 1) = ((i + 1 : Nat) : Int) := by rw [w64 (by omega) (by omega)]; omega
  have ih := run_l hn h0 h2 h3 he hae g k (i + 1) (by omega) (by omega) (by omega) (by omega)
  have hpl := places_len lv a i
  rw [places_succ hi] at ih
  rw [spec_l3Run.l0, if_pos (by omega), if_pos (by omega), rd_nat, rd_nat]
  rcases h2 i hi (by omega) with h | h
  ·
   rw [if_pos h, spec_l3Run.j1, if_pos rfl, if_pos (by omega), if_pos (by omega), rd_nat, if_neg (by omega), e1]
   rw [if_neg (by omega), List.append_nil] at ih
   exact ih
  ·
   rw [if_neg (by omega), if_pos (by omega), if_pos (by omega), spec_l3Run.j1, if_pos (by simpa using h), if_pos (by omega), if_pos (by omega), rd_nat, if_pos (by omega), if_pos (by omega), e1]
   rw [if_pos (by omega)] at ih
   exact ih
theorem run_p {lv : List Int} {x : S62} {a e k : Nat} (hn : lv.length ≤ 1000) (h : PieceP lv x a e) (hk : 2 * lv.length + 3 ≤ k) : spec_l3Run.f k lv (a : Int) = some x.f0 := by
 obtain ⟨h1, h2, h3, h4, h5, h6, h7⟩ := h
 unfold spec_l3Run.f
 have := run_l hn h3 h5 h6 h2 h1 (e - a) k a rfl (Nat.le_refl _) (by omega) (by omega)
 rw [places_self] at this
 rw [this, h7]
theorem left_p {lv : List Int} (hn : lv.length ≤ 1000) {e : Nat} (he : e ≤ lv.length) (hp : e < lv.length → 0 ≤ lv.getD e 0) : ∀ (g k i : Nat), e - i = g → i ≤ e → (∀ j, i ≤ j → j < e → lv.getD j 0 < 0) → g < k → spec_l3Left.l0 k lv (i : Int) = some (e : Int)
 | 0, k, i, hg, hi, hu, hk => by
  obtain ⟨k, rfl⟩ : ∃ m, k = m + 1 := ⟨k - 1, by omega⟩
  obtain rfl : i = e := by omega
  rw [spec_l3Left.l0]
  by_cases hlt : i < lv.length
  ·
   have := hp hlt
   rw [if_pos (by omega), if_pos (by omega), rd_nat, if_neg (by omega)]
  · rw [if_neg (by omega)]
 | g + 1, k, i, hg, hi, hu, hk => by
  obtain ⟨k, rfl⟩ : ∃ m, k = m + 1 := ⟨k - 1, by omega⟩
  have e1 : wrap64 ((i : Int) + 1) = ((i + 1 : Nat) : Int) := by rw [w64 (by omega) (by omega)]; omega
  rw [spec_l3Left.l0, if_pos (by omega), if_pos (by omega), rd_nat, if_pos (hu i (Nat.le_refl _) (by omega)), e1]
  exact left_p hn he hp g k (i + 1) (by omega) (by omega) (fun j h1 h2 => hu j (by omega) h2) (by omega)
end Go.Proofs.Ytojehfdioeglgaa.Pure
/- Letters that are read together, by both texts. -/
namespace Go.Proofs.Ytojehfdioeglgaa.Pure
open Go.RowKit Go.Proofs.Ytojehfdioeglgaa.S Go.Proofs.YtojehfdioeglgaaW.PrintWords Go.Proofs.YtojehfdioeglgaaW.PrintLast
def lvL (cls : List Int) (base : Int) : List Int := toldL cls (mtC cls) base cls.length
theorem lvL_len (cls : List Int) (base : Int) : (lvL cls base).length = cls.length := toldL_len _ _ _ _
theorem lvL_get {cls : List Int} {base : Int} {i : Nat} (h : i < cls.length) : (lvL cls base).getD i 0 = lvV cls base i := toldL_get _ _ _ h
theorem lvL_ok {cls : List Int} {base : Int} (h0 : 0 ≤ base) (h1 : base ≤ 20) : LvOk (lvL cls base) := by
 intro i hi
 rw [lvL_len] at hi
 rw [lvL_get hi]
 have := lvV_lt (cls := cls) h0 h1 i
 by_cases h : lvV cls base i < 0
 · exact .inl (this.2 h)
 · exact .inr (by omega)
theorem byF_some {ps : List S62} {a : Int} {j : Nat} : ∀ i, j < i → a = fstP (ps.getD j z62) → ∃ x, byF ps i a = some x
 | 0, h, _ => by omega
 | i + 1, h, e => by
  simp only [byF]
  by_cases h1 : a = fstP (ps.getD i z62)
  · exact ⟨_, if_pos h1⟩
  ·
   rw [if_neg h1]
   by_cases h2 : j = i
   · subst h2; exact absurd e h1
   · exact byF_some i (by omega) e
theorem mate_first {cls : List Int} {base : Int} (h0 : 0 ≤ base) (h1 : base ≤ 20) {ps : List S62} {b : Nat} (hb : ∀ j, j < b → (lvL cls base).getD j 0 < 0) (hc : Cl (lvL cls base) ps b) {x : S62} {a e : Nat} (hx : PieceP (lvL cls base) x a e) {m : Int} (hm : mtC cls (lastI x.f0) = some m) :
  ∃ z ∈ ps, fstP z = m := by
 obtain ⟨p1, p2, p, p3, p4, p5, p6, p7, p8⟩ := piece_ends hx
 obtain ⟨m', rfl, hmm⟩ : ∃ m' : Nat, m = m' ∧ True := by
  obtain ⟨_, m', _, e2, _⟩ := mt_inv hm
  exact ⟨m', e2, trivial⟩
 rw [p3] at hm
 obtain ⟨w1, w2, w3, w4, w5⟩ := within h0 h1 hm
 have hlen := lvL_len cls base
 have hg : ∀ i, i < cls.length → (lvL cls base).getD i 0 = lvV cls base i := fun i hi => lvL_get hi
 obtain ⟨x1, x2, x3, x4, x5, x6, x7⟩ := hx
 rw [hlen] at x2 x6
 have hlm : 0 ≤ (lvL cls base).getD m' 0 := by rw [hg _ w2]; omega
 have hem : e ≤ m' := by
  rcases Nat.lt_or_ge m' e with h | h
  ·
   have := p8 m' w1 h
   omega
  · exact h
 obtain ⟨q1, q2⟩ := x6 (by omega)
 rw [hg e (by omega)] at q1 q2
 rw [hg p (by omega), hg a (by omega)] at p7
 rw [hg a (by omega)] at q2
 have hne : e ≠ m' := fun h => by subst h; omega
 have hB : ∀ i, p < i → i < m' → 0 ≤ lvV cls base i → lvV cls base p < lvV cls base i := by
  rcases w5 with h | h
  ·
   have := h e (by omega) (by omega) q1
   omega
  · exact h
 obtain ⟨z, hz, a', e', hp, z1, z2⟩ := cl_cover ps b hc m' (by
  rcases Nat.lt_or_ge m' b with h | h
  ·
   have := hb m' h
   omega
  · exact h) (by rw [hlen]; exact w2) hlm
 obtain ⟨y1, y2, _⟩ := piece_ends hp
 refine ⟨z, hz, ?_⟩
 rw [y2]
 congr 1
 obtain ⟨u1, u2, u3, u4, u5, u6, u7⟩ := hp
 rcases Nat.lt_or_ge a' m' with h | h
 ·
  exfalso
  rw [hlen] at u2
  have k1 := u5 m' z1 z2
  rw [hg m' w2, hg a' (by omega)] at k1
  rw [hg a' (by omega)] at u3
  rcases k1 with k1 | k1
  · omega
  ·
   by_cases hap : p < a'
   ·
    have := hB a' hap h u3
    omega
   ·
    have k2 := u5 e (by omega) (by omega)
    rw [hg e (by omega), hg a' (by omega)] at k2
    rcases k2 with k2 | k2 <;> omega
 · omega
theorem opens_mt {cls : List Int} {p : Nat} (hp : p < cls.length) : (opensB (cls.getD p 0) = false → mtC cls p = none) := by
 intro h
 cases e : mtC cls p with
 | none => rfl
 | some m =>
  obtain ⟨p', m', e1, _, _, _, e5, _⟩ := mt_inv e
  obtain rfl : p' = p := by omega
  rw [h] at e5
  cases e5
theorem chain_l {rs : List Int} {base : Int} (hn : rs.length ≤ 80) (h0 : 0 ≤ base) (h1 : base ≤ 20) {ps : List S62} {b : Nat} (hb : ∀ j, j < b → (lvL (clsV rs) base).getD j 0 < 0) (hc : Cl (lvL (clsV rs) base) ps b) : ∀ (g k : Nat) (l : List Int) (x : S62) (a e : Nat), PieceP (lvL (clsV rs) base) x a e → 0 < l.length → lastI l = lastI x.f0 → (rs.length : Int) - lastI l ≤ g → l.length + 100 * g ≤ 10000 → g + 400 ≤ k →
  spec_l3Chain.l0 k rs (lvL (clsV rs) base) l = some (chainG ps (mtC (clsV rs)) g l)
 | 0, k, l, x, a, e, hx, hl, hlx, hg, hlen, hk => by
  obtain ⟨p1, p2, p, p3, p4, p5, _⟩ := piece_ends hx
  have := hx.2.1
  rw [lvL_len, clsV_len] at this
  omega
 | g + 1, k, l, x, a, e, hx, hl, hlx, hg, hlen, hk => by
  obtain ⟨k, rfl⟩ : ∃ m, k = m + 1 := ⟨k - 1, by omega⟩
  obtain ⟨p1, p2, p, p3, p4, p5, _⟩ := piece_ends hx
  have he := hx.2.1
  rw [lvL_len, clsV_len] at he
  have hlp : lastI l = p := by rw [hlx, p3]
  have e2 : wrap64 ((l.length : Int) - 1) = ((l.length - 1 : Nat) : Int) := by rw [w64 (by omega) (by omega)]; omega
  have e3 : rd l ((l.length - 1 : Nat) : Int) = (p : Int) := by rw [rd_nat]; exact hlp
  rw [spec_l3Chain.l0, e2, if_pos (by omega), if_pos (by omega), e3, if_pos (by omega), if_pos (by omega), spec_bidi_k (by omega), Option.bind_some, opens_p, Option.bind_some, rd_nat, chainG, hlp]
  cases ho : opensB (bidiV (rs.getD p 0)) with
  | false =>
   rw [if_neg (by decide), opens_mt (by rw [clsV_len]; omega) (by rw [clsV_get (by omega), ho])]
  | true =>
   rw [if_pos rfl, mate_m (by omega) (by omega) ho (by omega), Option.bind_some]
   unfold endP
   cases hm : mtC (clsV rs) p with
   | none =>
    simp only
    rw [clsV_len, if_pos rfl]
   | some m =>
    obtain ⟨p', m', f1, f2, f3, f4, _⟩ := mt_inv hm
    subst f2
    rw [clsV_len] at f4
    obtain ⟨z, hz, hzm⟩ := mate_first h0 h1 hb hc hx (m := (m' : Int)) (by rw [p3]; exact hm)
    obtain ⟨j, hj, hzj⟩ := List.getElem_of_mem hz
    obtain ⟨xj, hxj⟩ := byF_some (ps := ps) (a := (m' : Int)) (j := j) ps.length hj (by
     rw [List.getD_eq_getElem?_getD, List.getElem?_eq_getElem hj, Option.getD_some, hzj, hzm])
    obtain ⟨i, hi, rfl, hi2⟩ := byF_inv _ hxj
    obtain ⟨a2, e2', _, hq⟩ := cl_all _ _ hc _ (getD_memP hi)
    obtain ⟨y1, y2, q, y3, y4, y5, _⟩ := piece_ends hq
    obtain rfl : a2 = m' := by omega
    simp only [Int.toNat_natCast]
    rw [if_neg (by omega), run_p (by rw [lvL_len, clsV_len]; omega) hq (by rw [lvL_len, clsV_len]; omega), Option.bind_some, hxj]
    simp only [Int.toNat_natCast]
    have hfl : (ps.getD i z62).f0.length ≤ 80 := by
     have := hq.2.2.2.2.2.2
     rw [this]
     have h3 := places_len (lvL (clsV rs) base) a2 e2'
     have h4 := hq.2.1
     rw [lvL_len, clsV_len] at h4
     omega
    rw [if_pos (by omega)]
    exact chain_l hn h0 h1 hb hc g k _ (ps.getD i z62) a2 e2' hq (by rw [List.length_append]; omega) (lastI_app y1) (by rw [lastI_app y1, y3]; omega) (by rw [List.length_append]; omega) (by omega)
def runsOf (ch : List Int → List Int) (cls : List Int) : List S62 → List (List Int)
 | [] => []
 | x :: r => if (cdC cls (fstP x)).isSome = true then runsOf ch cls r else ch x.f0 :: runsOf ch cls r
theorem closes_l {rs : List Int} (hn : rs.length ≤ 80) {at_ : Nat} (ha : at_ < rs.length) : ∀ (g k i : Nat), at_ - i = g → i ≤ at_ → g + 300 ≤ k → (∀ p : Nat, p < i → mtC (clsV rs) p ≠ some (at_ : Int)) → spec_l3Closes.l0 k rs (at_ : Int) (i : Int) = some (cdC (clsV rs) at_).isSome
 | 0, k, i, hg, hi, hk, hno => by
  obtain ⟨k, rfl⟩ : ∃ m, k = m + 1 := ⟨k - 1, by omega⟩
  rw [spec_l3Closes.l0, if_neg (by omega)]
  cases e : cdC (clsV rs) at_ with
  | none => rfl
  | some x =>
   exfalso
   have h := (cd_mt _ _).mp e
   obtain ⟨p, m', e1, e2, e3, _⟩ := mt_inv h
   subst e1
   exact hno p (by omega) h
 | g + 1, k, i, hg, hi, hk, hno => by
  obtain ⟨k, rfl⟩ : ∃ m, k = m + 1 := ⟨k - 1, by omega⟩
  have e1 : wrap64 ((i : Int) + 1) = ((i + 1 : Nat) : Int) := by rw [w64 (by omega) (by omega)]; omega
  rw [spec_l3Closes.l0, if_pos (by omega), if_pos (by omega), if_pos (by omega), spec_bidi_k (by omega), Option.bind_some, opens_p, Option.bind_some, rd_nat, e1]
  cases ho : opensB (bidiV (rs.getD i 0)) with
  | false =>
   rw [if_neg (by decide)]
   refine closes_l hn ha g k (i + 1) (by omega) (by omega) (by omega) (fun p hp => ?_)
   by_cases e : p = i
   ·
    subst e
    rw [opens_mt (by rw [clsV_len]; omega) (by rw [clsV_get (by omega), ho])]
    intro h; cases h
   · exact hno p (by omega)
  | true =>
   rw [if_pos rfl, mate_m (by omega) (by omega) ho (by omega), Option.bind_some]
   unfold endP
   cases hm : mtC (clsV rs) i with
   | none =>
    simp only
    rw [clsV_len, if_neg (by omega)]
    refine closes_l hn ha g k (i + 1) (by omega) (by omega) (by omega) (fun p hp => ?_)
    by_cases e : p = i
    · subst e; rw [hm]; intro h; cases h
    · exact hno p (by omega)
   | some m =>
    obtain ⟨p', m', f1, f2, f3, f4, _⟩ := mt_inv hm
    subst f2
    simp only [Int.toNat_natCast]
    by_cases hat : (m' : Int) = at_
    ·
     rw [if_pos hat]
     have := (cd_mt (cls := clsV rs) (i : Int) (at_ : Int)).mpr (by rw [hm, hat])
     rw [this]
     rfl
    ·
     rw [if_neg hat]
     refine closes_l hn ha g k (i + 1) (by omega) (by omega) (by omega) (fun p hp => ?_)
     by_cases e : p = i
     · subst e; rw [hm]; intro h; exact hat (Option.some.inj h)
     · exact hno p (by omega)
theorem closes_p {rs : List Int} (hn : rs.length ≤ 80) {at_ k : Nat} (ha : at_ < rs.length) (hk : 400 ≤ k) : spec_l3Closes.f k rs (at_ : Int) = some (cdC (clsV rs) at_).isSome := by
 unfold spec_l3Closes.f
 exact closes_l hn ha at_ k 0 rfl (by omega) (by omega) (fun p hp => by omega)
theorem runs_l {rs lv : List Int} {ch : List Int → List Int} (hn : rs.length ≤ 80) (hll : lv.length = rs.length) (hch : ∀ (k : Nat) (x : S62) (a e : Nat), 600 ≤ k → PieceP lv x a e → spec_l3Chain.f k rs lv x.f0 = some (ch x.f0)) : ∀ (r : List S62) (at_ k : Nat) (acc : List (List Int)), Cl lv r at_ → acc.length ≤ at_ → 2 * r.length + 1000 ≤ k →
  spec_l3Runs.l0 k rs lv acc (at_ : Int) = some (acc ++ runsOf ch (clsV rs) r)
 | [], at_, k, acc, hr, ha, hk => by
  obtain ⟨k, rfl⟩ : ∃ m, k = m + 1 := ⟨k - 1, by omega⟩
  have e : at_ = lv.length := hr
  rw [spec_l3Runs.l0, if_neg (by omega), runsOf, List.append_nil]
 | x :: r, at_, k, acc, hr, ha, hk => by
  rw [List.length_cons] at hk
  obtain ⟨k, rfl⟩ : ∃ m, k = m + 2 := ⟨k - 2, by omega⟩
  obtain ⟨e, hx, hr⟩ := hr
  obtain ⟨p1, p2, p, p3, p4, p5, p6, p7, p8⟩ := piece_ends hx
  have hx' := hx
  obtain ⟨x1, x2, x3, x4, x5, x6, x7⟩ := hx
  have hxl : x.f0.length ≤ 80 := by
   rw [x7]
   have := places_len lv at_ e
   omega
  have e2 : wrap64 ((x.f0.length : Int) - 1) = ((x.f0.length - 1 : Nat) : Int) := by rw [w64 (by omega) (by omega)]; omega
  have e3 : rd x.f0 ((x.f0.length - 1 : Nat) : Int) = (p : Int) := by rw [rd_nat]; exact p3
  have e4 : wrap64 ((p : Int) + 1) = ((p + 1 : Nat) : Int) := by rw [w64 (by omega) (by omega)]; omega
  have E2 := az e2
  have E3 := az e3
  have E4 := az e4
  have X7 := az x7
  clear e2 e3 e4 x7
  have hleft : spec_l3Left.f k lv ((p + 1 : Nat) : Int) = some (e : Int) := by
   unfold spec_l3Left.f
   exact left_p (by omega) x2 (fun h => (x6 h).1) (e - (p + 1)) k (p + 1) rfl (by omega) (fun j j1 j2 => p8 j (by omega) j2) (by omega)
  have hchain := hch k x at_ e (by omega) hx'
  have ih := fun acc2 h => runs_l hn hll hch r e k acc2 hr h (by omega)
  have hj : spec_l3Runs.j1 (k + 1) rs lv acc x.f0 (p : Int) (!(cdC (clsV rs) at_).isSome) = some (acc ++ (if (cdC (clsV rs) at_).isSome = true then runsOf ch (clsV rs) r else ch x.f0 :: runsOf ch (clsV rs) r)) := by
   rw [spec_l3Runs.j1]
   cases (cdC (clsV rs) at_).isSome with
   | true =>
    rw [if_neg (by decide), E4.out, hleft, Option.bind_some, if_pos rfl]
    exact ih acc (by omega)
   | false =>
    rw [if_pos (by decide), hchain, Option.bind_some, if_pos (by omega), E4.out, hleft, Option.bind_some, if_neg (by decide)]
    rw [ih _ (by simp; omega), List.append_assoc]
    rfl
  rw [spec_l3Runs.l0, if_pos (by omega), run_p (by omega) hx' (by omega), Option.bind_some, E2.out, if_pos (by omega), if_pos (by omega), if_pos (by omega), spec_bidi_k (by omega), Option.bind_some, E3.out, rd_nat, runsOf, p2]
  by_cases h22 : bidiV (rs.getD at_ 0) = 22
  ·
   rw [if_pos h22, closes_p hn (by omega) (by omega), Option.bind_some]
   exact hj
  ·
   rw [if_neg h22]
   have hcd : cdC (clsV rs) at_ = none := by
    cases e : cdC (clsV rs) at_ with
    | none => rfl
    | some y =>
     exfalso
     have h := (cd_mt _ _).mp e
     obtain ⟨p', m', f1, f2, f3, f4, f5, f6, _⟩ := mt_inv h
     obtain rfl : m' = at_ := by omega
     rw [clsV_get (by omega)] at f6
     exact h22 f6
   rw [hcd] at hj ⊢
   exact hj
theorem chain_p {rs : List Int} {base : Int} (hn : rs.length ≤ 80) (h0 : 0 ≤ base) (h1 : base ≤ 20) {ps : List S62} {b : Nat} (hb : ∀ j, j < b → (lvL (clsV rs) base).getD j 0 < 0) (hc : Cl (lvL (clsV rs) base) ps b) (k : Nat) (x : S62) (a e : Nat) (hk : 600 ≤ k) (hx : PieceP (lvL (clsV rs) base) x a e) :
  spec_l3Chain.f k rs (lvL (clsV rs) base) x.f0 = some (chainG ps (mtC (clsV rs)) rs.length x.f0) := by
 have hll : (lvL (clsV rs) base).length = rs.length := by rw [lvL_len, clsV_len]
 obtain ⟨p1, p2, p, p3, p4, p5, _⟩ := piece_ends hx
 have hxl : x.f0.length ≤ 80 := by
  have h2 := hx.2.1
  rw [hx.2.2.2.2.2.2]
  have := places_len (lvL (clsV rs) base) a e
  omega
 have hg : (rs.length : Int) - lastI x.f0 ≤ rs.length := by rw [p3]; omega
 have hlen : x.f0.length + 100 * rs.length ≤ 10000 := by omega
 have hk2 : rs.length + 400 ≤ k := by omega
 have h3 : ([] : List Int).length + x.f0.length < 17592186044416 := by rw [List.length_nil]; omega
 unfold spec_l3Chain.f
 rw [Option.bind_some, if_pos h3, List.nil_append]
 exact chain_l hn h0 h1 hb hc rs.length k x.f0 x a e hx p1 rfl hg hlen hk2
theorem l3Runs_g {rs lv : List Int} {ch : List Int → List Int} {k : Nat} (hn : rs.length ≤ 80) (hll : lv.length = rs.length) (hl : LvOk lv) (hch : ∀ (k : Nat) (x : S62) (a e : Nat), 600 ≤ k → PieceP lv x a e → spec_l3Chain.f k rs lv x.f0 = some (ch x.f0)) (hk : 2000 ≤ k) : spec_l3Runs.f k rs lv = some (runsOf ch (clsV rs) (piecesV lv)) := by
 obtain ⟨b, b1, b2, b3, b4⟩ := cl_pieces hl
 have hlen := cl_len _ _ b4
 unfold spec_l3Runs.f spec_l3Left.f
 have hlf := left_p (by omega) b1 b3 b k 0 (by omega) (by omega) (fun j _ j2 => b2 j j2) (by omega)
 rw [show ((0 : Nat) : Int) = 0 from rfl] at hlf
 rw [hlf, Option.bind_some, runs_l hn hll hch _ b k [] b4 (by simp) (by omega), List.nil_append]
theorem l3Runs_p {rs : List Int} {base : Int} {k : Nat} (hn : rs.length ≤ 80) (h0 : 0 ≤ base) (h1 : base ≤ 20) (hk : 2000 ≤ k) : spec_l3Runs.f k rs (lvL (clsV rs) base) = some (runsOf (chainG (piecesV (lvL (clsV rs) base)) (mtC (clsV rs)) rs.length) (clsV rs) (piecesV (lvL (clsV rs) base))) := by
 obtain ⟨b, b1, b2, b3, b4⟩ := cl_pieces (lvL_ok (cls := clsV rs) h0 h1)
 exact l3Runs_g hn (by rw [lvL_len, clsV_len]) (lvL_ok h0 h1) (chain_p hn h0 h1 b2 b4) hk
theorem runsF_of (ps : List S62) (cls : List Int) (n : Nat) : ∀ i, i ≤ ps.length → (runsF ps (mtC cls) (cdC cls) n i).map (·.f0) = runsOf (chainG ps (mtC cls) n) cls (ps.take i)
 | 0, _ => rfl
 | i + 1, h => by
  have ih := runsF_of ps cls n i (by omega)
  have happ : ∀ (l : List S62) (x : S62), runsOf (chainG ps (mtC cls) n) cls (l ++ [x]) = runsOf (chainG ps (mtC cls) n) cls l ++ (if (cdC cls (fstP x)).isSome = true then [] else [chainG ps (mtC cls) n x.f0]) := by
   intro l x
   induction l with
   | nil =>
    rw [List.nil_append, runsOf, runsOf, runsOf]
    split <;> rfl
   | cons y l ih2 =>
    rw [List.cons_append, runsOf, runsOf, ih2]
    split <;> rfl
  have htake : ps.take (i + 1) = ps.take i ++ [ps.getD i z62] := by
   rw [List.take_succ_eq_append_getElem (by omega), List.getD_eq_getElem?_getD, List.getElem?_eq_getElem (by omega), Option.getD_some]
  rw [htake, happ, ← ih, runsF]
  split
  · rw [List.append_nil]
  ·
   rw [List.map_append]
   rfl
end Go.Proofs.Ytojehfdioeglgaa.Pure
/- Each letter that has a level is read together with others just once. -/
namespace Go.Proofs.Ytojehfdioeglgaa.Pure
open Go.RowKit Go.Proofs.Ytojehfdioeglgaa.S Go.Proofs.YtojehfdioeglgaaW.PrintWords Go.Proofs.YtojehfdioeglgaaW.PrintLast
theorem piece_same {lv : List Int} {x y : S62} {a e e' : Nat} (h : PieceP lv x a e) (h' : PieceP lv y a e') : x = y ∧ e = e' := by
 obtain ⟨x1, x2, x3, x4, x5, x6, x7⟩ := h
 obtain ⟨y1, y2, y3, y4, y5, y6, y7⟩ := h'
 have he : e = e' := by
  rcases Nat.lt_trichotomy e e' with h | h | h
  ·
   exfalso
   obtain ⟨q1, q2⟩ := x6 (by omega)
   rcases y5 e (by omega) h with h3 | h3
   · omega
   · exact q2 h3
  · exact h
  ·
   exfalso
   obtain ⟨q1, q2⟩ := y6 (by omega)
   rcases x5 e' (by omega) h with h3 | h3
   · omega
   · exact q2 h3
 subst he
 refine ⟨?_, rfl⟩
 cases x
 cases y
 simp only at x4 x7 y4 y7
 rw [x4, x7, y4, y7]
theorem cl_apart {lv : List Int} : ∀ (ps : List S62) (b : Nat), Cl lv ps b → ∀ x ∈ ps, ∀ y ∈ ps, ∀ a e a' e', PieceP lv x a e → PieceP lv y a' e' → a < a' → e ≤ a'
 | [], _, _, x, hx, _, _, _, _, _, _, _, _, _ => by cases hx
 | z :: r, b, h, x, hx, y, hy, a, e, a', e', hp, hp', hl => by
  obtain ⟨ez, hz, hr⟩ := h
  have hfst : ∀ w ∈ z :: r, ∀ c d, PieceP lv w c d → b ≤ c ∧ (w ∈ r → ez ≤ c) := fun w hw c d hcd => by
   have htl : w ∈ r → ez ≤ c := fun hwr => by
    obtain ⟨c2, d2, h1, h2⟩ := cl_all r ez hr w hwr
    have e1 := (piece_ends h2).2.1
    have e2 := (piece_ends hcd).2.1
    omega
   refine ⟨?_, htl⟩
   rcases List.mem_cons.mp hw with rfl | hwr
   ·
    have e1 := (piece_ends hz).2.1
    have e2 := (piece_ends hcd).2.1
    omega
   ·
    have := htl hwr
    have := hz.1
    omega
  rcases List.mem_cons.mp hx with rfl | hxr
  ·
   have e1 := (piece_ends hz).2.1
   have e2 := (piece_ends hp).2.1
   obtain rfl : a = b := by omega
   obtain ⟨_, rfl⟩ := piece_same hz hp
   rcases List.mem_cons.mp hy with rfl | hyr
   ·
    have e3 := (piece_ends hp').2.1
    omega
   · exact (hfst y hy a' e' hp').2 hyr
  ·
   rcases List.mem_cons.mp hy with rfl | hyr
   ·
    exfalso
    have e1 := (piece_ends hz).2.1
    have e2 := (piece_ends hp').2.1
    have := (hfst x hx a e hp).2 hxr
    have := hz.1
    omega
   · exact cl_apart r ez hr x hxr y hyr a e a' e' hp hp' hl
theorem piece_one {lv : List Int} {ps : List S62} {b : Nat} (hc : Cl lv ps b) {x y : S62} (hx : x ∈ ps) (hy : y ∈ ps) {a e a' e' j : Nat} (hp : PieceP lv x a e) (hp' : PieceP lv y a' e') (h1 : a ≤ j) (h2 : j < e) (h3 : a' ≤ j) (h4 : j < e') : x = y ∧ a = a' ∧ e = e' := by
 rcases Nat.lt_trichotomy a a' with h | h | h
 ·
  have := cl_apart ps b hc x hx y hy a e a' e' hp hp' h
  omega
 ·
  subst h
  obtain ⟨r1, r2⟩ := piece_same hp hp'
  exact ⟨r1, rfl, r2⟩
 ·
  have := cl_apart ps b hc y hy x hx a' e' a e hp' hp h
  omega
def sucP (ps : List S62) (mt : Int → Option Int) (x : S62) : Option S62 := match mt (lastI x.f0) with
 | none => none
 | some m => match byF ps ps.length m with
  | none => none
  | some j => some (ps.getD j.toNat z62)
def chP (ps : List S62) (mt : Int → Option Int) : Nat → S62 → List S62
 | 0, x => [x]
 | g + 1, x => x :: (match sucP ps mt x with | none => [] | some y => chP ps mt g y)
theorem chP_head (ps : List S62) (mt : Int → Option Int) (g : Nat) (x : S62) : ∃ t, chP ps mt g x = x :: t := by
 cases g with
 | zero => exact ⟨[], rfl⟩
 | succ g => exact ⟨_, rfl⟩
theorem suc_inv {ps : List S62} {mt : Int → Option Int} {x y : S62} (h : sucP ps mt x = some y) : y ∈ ps ∧ mt (lastI x.f0) = some (fstP y) := by
 unfold sucP at h
 cases hm : mt (lastI x.f0) with
 | none => rw [hm] at h; cases h
 | some m =>
  rw [hm] at h
  simp only at h
  cases hb : byF ps ps.length m with
  | none => rw [hb] at h; cases h
  | some j =>
   rw [hb] at h
   obtain ⟨i, hi, rfl, hi2⟩ := byF_inv _ hb
   have h2 := Option.some.inj h
   rw [Int.toNat_natCast] at h2
   subst h2
   exact ⟨getD_memP hi, by rw [hi2]⟩
theorem chain_eq {ps : List S62} {mt : Int → Option Int} (hne : ∀ y ∈ ps, 0 < y.f0.length) : ∀ (g : Nat) (l : List Int) (x : S62), lastI l = lastI x.f0 → ∃ t, chP ps mt g x = x :: t ∧ chainG ps mt g l = l ++ (t.map (·.f0)).flatten
 | 0, l, x, _ => ⟨[], rfl, by simp [chainG]⟩
 | g + 1, l, x, h => by
  rw [chP, chainG, h]
  unfold sucP
  cases hm : mt (lastI x.f0) with
  | none => exact ⟨[], rfl, by simp⟩
  | some m =>
   simp only
   cases hb : byF ps ps.length m with
   | none => exact ⟨[], rfl, by simp⟩
   | some j =>
    simp only
    obtain ⟨i, hi, rfl, _⟩ := byF_inv _ hb
    have hy := hne _ (getD_memP hi)
    rw [Int.toNat_natCast]
    obtain ⟨t, h1, h2⟩ := chain_eq (mt := mt) hne g (l ++ (ps.getD i z62).f0) (ps.getD i z62) (lastI_app hy)
    refine ⟨_, rfl, ?_⟩
    rw [h2, h1, List.map_cons, List.flatten_cons, List.append_assoc]
theorem chain_flat {ps : List S62} {mt : Int → Option Int} (hne : ∀ y ∈ ps, 0 < y.f0.length) (g : Nat) (x : S62) : chainG ps mt g x.f0 = ((chP ps mt g x).map (·.f0)).flatten := by
 obtain ⟨t, h1, h2⟩ := chain_eq (mt := mt) hne g x.f0 x rfl
 rw [h2, h1, List.map_cons, List.flatten_cons]
theorem ch_mem {ps : List S62} {mt : Int → Option Int} : ∀ (g : Nat) (z y : S62), y ∈ chP ps mt g z → y = z ∨ (y ∈ ps ∧ ∃ y' ∈ chP ps mt g z, sucP ps mt y' = some y)
 | 0, z, y, h => by
  rw [chP, List.mem_singleton] at h
  exact .inl h
 | g + 1, z, y, h => by
  rw [chP] at h ⊢
  rcases List.mem_cons.mp h with rfl | h
  · exact .inl rfl
  ·
   cases hs : sucP ps mt z with
   | none => rw [hs] at h; cases h
   | some z' =>
    rw [hs] at h
    simp only at h
    rcases ch_mem g z' y h with rfl | ⟨h1, y', h2, h3⟩
    · exact .inr ⟨(suc_inv hs).1, z, by simp, hs⟩
    · exact .inr ⟨h1, y', by simp only; exact List.mem_cons_of_mem _ h2, h3⟩
theorem ch_next {cls : List Int} {lv : List Int} {ps : List S62} {b : Nat} (hc : Cl lv ps b) : ∀ (g : Nat) (z y x : S62), z ∈ ps → y ∈ chP ps (mtC cls) g z → sucP ps (mtC cls) y = some x → (∀ a a', fstP y = (a : Nat) → fstP z = (a' : Nat) → a < a' + g) → x ∈ chP ps (mtC cls) g z
 | 0, z, y, x, hz, hy, hs, hg => by
  rw [chP, List.mem_singleton] at hy
  subst hy
  obtain ⟨a, e, _, hp⟩ := cl_all ps b hc y hz
  have := hg a a (piece_ends hp).2.1 (piece_ends hp).2.1
  omega
 | g + 1, z, y, x, hz, hy, hs, hg => by
  rw [chP] at hy ⊢
  rcases List.mem_cons.mp hy with rfl | hy
  ·
   rw [hs]
   obtain ⟨t, ht⟩ := chP_head ps (mtC cls) g x
   simp only
   rw [ht]
   simp
  ·
   cases hz' : sucP ps (mtC cls) z with
   | none => rw [hz'] at hy; cases hy
   | some z' =>
    rw [hz'] at hy
    simp only at hy ⊢
    obtain ⟨m1, m2⟩ := suc_inv hz'
    refine List.mem_cons_of_mem _ (ch_next hc g z' y x m1 hy hs fun a a' ha ha' => ?_)
    obtain ⟨c, e, _, hp⟩ := cl_all ps b hc z hz
    obtain ⟨p1, p2, l, p3, p4, _⟩ := piece_ends hp
    obtain ⟨p', m', f1, f2, f3, _⟩ := mt_inv m2
    have := hg a c ha p2
    omega
theorem last_of {cls : List Int} {base : Int} (h0 : 0 ≤ base) (h1 : base ≤ 20) {ps : List S62} {b : Nat} (hc : Cl (lvL cls base) ps b) {x y : S62} (hx : x ∈ ps) (hy : y ∈ ps) {a e p m : Nat} (hp : PieceP (lvL cls base) y a e) (hap : a ≤ p) (hpe : p < e) (hm : mtC cls p = some (m : Int)) (hxm : fstP x = m) : lastI y.f0 = p := by
 have hlen := lvL_len cls base
 have hg : ∀ i, i < cls.length → (lvL cls base).getD i 0 = lvV cls base i := fun i hi => lvL_get hi
 obtain ⟨w1, w2, w3, w4, w5⟩ := within h0 h1 hm
 obtain ⟨q1, q2, l, q3, q4, q5, q6, q7, q8⟩ := piece_ends hp
 obtain ⟨a', e', _, hp'⟩ := cl_all ps b hc x hx
 have hfx := (piece_ends hp').2.1
 obtain rfl : a' = m := by omega
 obtain ⟨y1, y2, y3, y4, y5, y6, y7⟩ := hp
 rw [hlen] at y2 y6
 have hno : ¬ (a ≤ a' ∧ a' < e) := fun h => by
  have hp2 : PieceP (lvL cls base) y a e := ⟨y1, by rw [hlen]; exact y2, y3, y4, y5, by rw [hlen]; exact y6, y7⟩
  obtain ⟨_, r1, _⟩ := piece_one hc hy hx hp2 hp' h.1 h.2 (Nat.le_refl _) hp'.1
  omega
 have hem : e ≤ a' := by omega
 rw [q3]
 have hlp : 0 ≤ (lvL cls base).getD p 0 := by rw [hg p (by omega)]; exact w3
 have hpl : p ≤ l := by
  rcases Nat.lt_or_ge l p with h | h
  ·
   have := q8 p h hpe
   omega
  · exact h
 rcases Nat.lt_or_ge p l with h | h
 ·
  exfalso
  have ha2 : lvV cls base p = lvV cls base a := by
   rcases y5 p hap hpe with h3 | h3
   · omega
   · rw [hg p (by omega), hg a (by omega)] at h3; exact h3
  rw [hg l (by omega), hg a (by omega)] at q7
  rw [hg l (by omega)] at q6
  rcases w5 with hA | hB
  ·
   by_cases hen : e = a'
   ·
    have h3 := (y6 (by omega)).2
    rw [hen, hg a' w2, hg a (by omega)] at h3
    omega
   ·
    have h3 := y6 (by omega)
    rw [hg e (by omega), hg a (by omega)] at h3
    have := hA e (by omega) (by omega) h3.1
    omega
  ·
   have := hB l h (by omega) q6
   omega
 ·
  congr 1
  omega
theorem ch_unique {cls : List Int} {base : Int} (h0 : 0 ≤ base) (h1 : base ≤ 20) {ps : List S62} {b : Nat} (hc : Cl (lvL cls base) ps b) {g1 g2 : Nat} {z1 z2 : S62} (hz1 : z1 ∈ ps) (hz2 : z2 ∈ ps) (s1 : cdC cls (fstP z1) = none) (s2 : cdC cls (fstP z2) = none) : ∀ (n : Nat) (y : S62), y ∈ ps → fstP y = (n : Int) → y ∈ chP ps (mtC cls) g1 z1 → y ∈ chP ps (mtC cls) g2 z2 → z1 = z2 := by
 intro n
 induction n using Nat.strongRecOn with
 | ind n ih =>
  intro y hy hn m1 m2
  have hst : ∀ (g : Nat) (z : S62), y ∈ chP ps (mtC cls) g z → z ∈ ps → y = z ∨ ∃ y' ∈ chP ps (mtC cls) g z, y' ∈ ps ∧ mtC cls (lastI y'.f0) = some (fstP y) := fun g z hm hz => by
   rcases ch_mem g z y hm with h | ⟨_, y', h2, h3⟩
   · exact .inl h
   ·
    refine .inr ⟨y', h2, ?_, (suc_inv h3).2⟩
    rcases ch_mem g z y' h2 with h4 | ⟨h4, _⟩
    · rw [h4]; exact hz
    · exact h4
  rcases hst g1 z1 m1 hz1 with e1 | ⟨y1, a1, a2, a3⟩
  ·
   rcases hst g2 z2 m2 hz2 with e2 | ⟨y2, b1, b2, b3⟩
   · rw [← e1, ← e2]
   ·
    have := (cd_mt (cls := cls) (lastI y2.f0) (fstP y)).mpr b3
    rw [e1, s1] at this
    cases this
  ·
   have hcd1 := (cd_mt (cls := cls) (lastI y1.f0) (fstP y)).mpr a3
   rcases hst g2 z2 m2 hz2 with e2 | ⟨y2, b1, b2, b3⟩
   ·
    rw [e2, s2] at hcd1
    cases hcd1
   ·
    have hcd2 := (cd_mt (cls := cls) (lastI y2.f0) (fstP y)).mpr b3
    have hll : lastI y1.f0 = lastI y2.f0 := by
     rw [hcd1] at hcd2
     exact Option.some.inj hcd2
    obtain ⟨c1, d1, _, q1⟩ := cl_all ps b hc y1 a2
    obtain ⟨c2, d2, _, q2⟩ := cl_all ps b hc y2 b2
    obtain ⟨_, f1, l1, u1, u2, u3, _⟩ := piece_ends q1
    obtain ⟨_, f2, l2, v1, v2, v3, _⟩ := piece_ends q2
    obtain rfl : l1 = l2 := by omega
    obtain ⟨rfl, _, _⟩ := piece_one hc a2 b2 q1 q2 u2 u3 v2 v3
    obtain ⟨p', m', k1, k2, k3, _⟩ := mt_inv a3
    exact ih c1 (by omega) y1 a2 f1 a1 b1
theorem ch_cover {cls : List Int} {base : Int} (h0 : 0 ≤ base) (h1 : base ≤ 20) {ps : List S62} {b : Nat} (hb : ∀ j, j < b → (lvL cls base).getD j 0 < 0) (hc : Cl (lvL cls base) ps b) : ∀ (n : Nat) (x : S62), x ∈ ps → fstP x = (n : Int) → ∃ z ∈ ps, cdC cls (fstP z) = none ∧ x ∈ chP ps (mtC cls) cls.length z := by
 intro n
 induction n using Nat.strongRecOn with
 | ind n ih =>
  intro x hx hn
  cases hcd : cdC cls (fstP x) with
  | none =>
   obtain ⟨t, ht⟩ := chP_head ps (mtC cls) cls.length x
   exact ⟨x, hx, hcd, by rw [ht]; simp⟩
  | some p0 =>
   have hmt := (cd_mt (cls := cls) p0 (fstP x)).mp hcd
   obtain ⟨p, m, e1, e2, e3, e4, e5, e6, e7⟩ := mt_inv hmt
   subst e1
   have hm' : mtC cls (p : Int) = some (m : Int) := by rw [hmt, e2]
   obtain ⟨w1, w2, w3, w4, w5⟩ := within h0 h1 hm'
   have hlv : 0 ≤ (lvL cls base).getD p 0 := by rw [lvL_get (by omega)]; exact w3
   obtain ⟨y, hy, a, e, hp, y1, y2⟩ := cl_cover ps b hc p (by
    rcases Nat.lt_or_ge p b with h | h
    ·
     have := hb p h
     omega
    · exact h) (by rw [lvL_len]; omega) hlv
   have hl := last_of h0 h1 hc hx hy hp y1 y2 hm' e2
   have hfy := (piece_ends hp).2.1
   obtain ⟨z, hz, z1, z2⟩ := ih a (by omega) y hy hfy
   have hs : sucP ps (mtC cls) y = some x := by
    obtain ⟨j, hj, hxj⟩ := List.getElem_of_mem hx
    obtain ⟨xj, hb2⟩ := byF_some (ps := ps) (a := (m : Int)) (j := j) ps.length hj (by rw [List.getD_eq_getElem?_getD, List.getElem?_eq_getElem hj, Option.getD_some, hxj, e2])
    unfold sucP
    rw [hl, hm']
    simp only
    rw [hb2]
    obtain ⟨i, hi, rfl, hi2⟩ := byF_inv _ hb2
    simp only [Int.toNat_natCast]
    congr 1
    obtain ⟨a1, d1, _, q1⟩ := cl_all ps b hc _ (getD_memP hi)
    obtain ⟨a2, d2, _, q2⟩ := cl_all ps b hc x hx
    have k1 := (piece_ends q1).2.1
    have k2 := (piece_ends q2).2.1
    obtain rfl : a1 = a2 := by omega
    exact (piece_same q1 q2).1
   refine ⟨z, hz, z1, ch_next hc cls.length z y x hz z2 hs fun a3 a4 k1 k2 => ?_⟩
   have := hp.1
   have := hp.2.1
   rw [lvL_len] at this
   omega
def RowOk (lv : List Int) (l : List Int) : Prop := 0 < l.length ∧ l.Pairwise (· < ·) ∧ ∀ p ∈ l, ∃ j : Nat, p = j ∧ j < lv.length ∧ 0 ≤ lv.getD j 0 ∧ lv.getD j 0 = lv.getD (l.getD 0 0).toNat 0
theorem places_sorted (lv : List Int) (a : Nat) : ∀ d, (placesV lv a (a + d)).Pairwise (· < ·)
 | 0 => by rw [Nat.add_zero, places_self]; exact List.Pairwise.nil
 | d + 1 => by
  rw [← Nat.add_assoc, places_succ (by omega)]
  refine List.pairwise_append.mpr ⟨places_sorted lv a d, by split <;> simp, fun x hx y hy => ?_⟩
  obtain ⟨j, j1, j2, _, rfl⟩ := places_mem.mp hx
  split at hy
  ·
   rw [List.mem_singleton] at hy
   omega
  · cases hy
theorem piece_row {lv : List Int} {x : S62} {a e : Nat} (h : PieceP lv x a e) : RowOk lv x.f0 := by
 obtain ⟨p1, p2, _⟩ := piece_ends h
 obtain ⟨x1, x2, x3, x4, x5, x6, x7⟩ := h
 refine ⟨p1, ?_, fun p hp => ?_⟩
 ·
  have := places_sorted lv a (e - a)
  rw [show a + (e - a) = e by omega] at this
  rw [x7]; exact this
 ·
  have hf : (x.f0.getD 0 0).toNat = a := by
   have : x.f0.getD 0 0 = (a : Int) := p2
   omega
  rw [hf]
  rw [x7] at hp
  obtain ⟨j, j1, j2, j3, rfl⟩ := places_mem.mp hp
  refine ⟨j, rfl, by omega, j3, ?_⟩
  rcases x5 j j1 j2 with h | h
  · omega
  · exact h
theorem sorted_last {l : List Int} (h : l.Pairwise (· < ·)) : ∀ p ∈ l, p ≤ lastI l := by
 intro p hp
 obtain ⟨i, hi, rfl⟩ := List.getElem_of_mem hp
 unfold lastI
 rw [List.getD_eq_getElem?_getD, List.getElem?_eq_getElem (by omega), Option.getD_some]
 by_cases e : i = l.length - 1
 · subst e; exact Int.le_refl _
 · exact Int.le_of_lt (List.pairwise_iff_getElem.mp h i (l.length - 1) hi (by omega) (by omega))
theorem chain_row {cls : List Int} {base : Int} (h0 : 0 ≤ base) (h1 : base ≤ 20) {ps : List S62} {b : Nat} (hc : Cl (lvL cls base) ps b) : ∀ (g : Nat) (l : List Int) (x : S62), x ∈ ps → RowOk (lvL cls base) l → lastI l = lastI x.f0 → RowOk (lvL cls base) (chainG ps (mtC cls) g l)
 | 0, l, x, _, hr, _ => hr
 | g + 1, l, x, hx, hr, hl => by
  rw [chainG]
  cases hm : mtC cls (lastI l) with
  | none => exact hr
  | some m =>
   simp only
   cases hbf : byF ps ps.length m with
   | none => exact hr
   | some j =>
    simp only
    obtain ⟨i, hi, rfl, him⟩ := byF_inv _ hbf
    rw [Int.toNat_natCast]
    have hy := getD_memP hi
    obtain ⟨a, e, _, hp⟩ := cl_all ps b hc _ hy
    obtain ⟨q1, q2, _⟩ := piece_ends hp
    have hrow := piece_row hp
    obtain ⟨p, m', e1, e2, e3, e4, _⟩ := mt_inv hm
    have hm' : mtC cls (p : Int) = some (m' : Int) := by rw [← e1, hm, e2]
    obtain ⟨w1, w2, w3, w4, w5⟩ := within h0 h1 hm'
    obtain rfl : a = m' := by omega
    generalize ps.getD i z62 = y at hy hp q1 q2 hrow
    obtain ⟨r1, r2, r3⟩ := hr
    obtain ⟨s1, s2, s3⟩ := hrow
    have hlast := sorted_last r2
    have hfy : (y.f0.getD 0 0).toNat = a := by
     have : y.f0.getD 0 0 = (a : Int) := q2
     omega
    have h00 : (l ++ y.f0).getD 0 0 = l.getD 0 0 := by
     rw [List.getD_eq_getElem?_getD, List.getD_eq_getElem?_getD, List.getElem?_append_left r1]
    have hpl : (lvL cls base).getD p 0 = (lvL cls base).getD (l.getD 0 0).toNat 0 := by
     obtain ⟨j, j1, j2, j3, j4⟩ := r3 _ (lastI_mem r1)
     obtain rfl : j = p := by omega
     exact j4
    refine chain_row h0 h1 hc g _ y hy ⟨by rw [List.length_append]; omega, List.pairwise_append.mpr ⟨r2, s2, fun u hu v hv => ?_⟩, fun u hu => ?_⟩ (lastI_app q1)
    ·
     have := hlast u hu
     have hv2 : (a : Int) ≤ v := by
      rw [hp.2.2.2.2.2.2] at hv
      obtain ⟨j, j1, _, _, rfl⟩ := places_mem.mp hv
      omega
     omega
    ·
     rw [h00]
     rcases List.mem_append.mp hu with h | h
     · exact r3 u h
     ·
      obtain ⟨j, j1, j2, j3, j4⟩ := s3 u h
      refine ⟨j, j1, j2, j3, ?_⟩
      rw [j4, hfy, ← hpl, lvL_get (by omega), lvL_get (by omega), w4]
theorem runsOf_map (ch : List Int → List Int) (cls : List Int) : ∀ r : List S62, runsOf ch cls r = (r.filter (fun x => (cdC cls (fstP x)).isNone)).map (fun x => ch x.f0)
 | [] => rfl
 | x :: r => by
  rw [runsOf, runsOf_map ch cls r]
  cases h : cdC cls (fstP x) with
  | none => rw [if_neg (by simp), List.filter_cons_of_pos (by simp [h]), List.map_cons]
  | some y => rw [if_pos (show (some y).isSome = true from rfl), List.filter_cons_of_neg (by simp [h])]
theorem cl_pair {lv : List Int} : ∀ (ps : List S62) (b : Nat), Cl lv ps b → ps.Pairwise (fun x y => x ≠ y)
 | [], _, _ => List.Pairwise.nil
 | z :: r, b, h => by
  obtain ⟨e, hz, hr⟩ := h
  refine List.Pairwise.cons (fun y hy he => ?_) (cl_pair r e hr)
  subst he
  obtain ⟨a, e', h1, h2⟩ := cl_all r e hr z hy
  have k1 := (piece_ends hz).2.1
  have k2 := (piece_ends h2).2.1
  have := hz.1
  omega
theorem rows_all {cls : List Int} {base : Int} (h0 : 0 ≤ base) (h1 : base ≤ 20) {ps : List S62} {b : Nat} (hb : ∀ j, j < b → (lvL cls base).getD j 0 < 0) (hc : Cl (lvL cls base) ps b) : (∀ l ∈ runsOf (chainG ps (mtC cls) cls.length) cls ps, RowOk (lvL cls base) l) ∧ (runsOf (chainG ps (mtC cls) cls.length) cls ps).flatten.Nodup ∧
  ∀ j : Nat, j < cls.length → ((j : Int) ∈ (runsOf (chainG ps (mtC cls) cls.length) cls ps).flatten ↔ 0 ≤ (lvL cls base).getD j 0) := by
 have hne : ∀ y ∈ ps, 0 < y.f0.length := fun y hy => by
  obtain ⟨a, e, _, hp⟩ := cl_all ps b hc y hy
  exact (piece_ends hp).1
 have hrow : ∀ l ∈ runsOf (chainG ps (mtC cls) cls.length) cls ps, RowOk (lvL cls base) l := fun l hl => by
  rw [runsOf_map] at hl
  obtain ⟨x, hx, rfl⟩ := List.mem_map.mp hl
  have hxp := (List.mem_filter.mp hx).1
  obtain ⟨a, e, _, hp⟩ := cl_all ps b hc x hxp
  exact chain_row h0 h1 hc _ _ x hxp (piece_row hp) rfl
 have hin : ∀ (z : S62) (p : Int), z ∈ ps → p ∈ chainG ps (mtC cls) cls.length z.f0 → ∃ y ∈ chP ps (mtC cls) cls.length z, y ∈ ps ∧ p ∈ y.f0 := fun z p hz hp => by
  rw [chain_flat hne] at hp
  obtain ⟨l, hl, hpl⟩ := List.mem_flatten.mp hp
  obtain ⟨y, hy, rfl⟩ := List.mem_map.mp hl
  refine ⟨y, hy, ?_, hpl⟩
  rcases ch_mem _ z y hy with h | ⟨h, _⟩
  · rw [h]; exact hz
  · exact h
 refine ⟨hrow, ?_, fun j hj => ⟨fun hm => ?_, fun hv => ?_⟩⟩
 ·
  refine List.pairwise_flatten.mpr ⟨fun l hl => (hrow l hl).2.1.imp (fun h => Int.ne_of_lt h), ?_⟩
  rw [runsOf_map]
  refine List.pairwise_map.mpr (List.Pairwise.imp_of_mem (R := fun x y => x ≠ y) (fun {z1 z2} m1 m2 hne2 => ?_) ((cl_pair ps b hc).filter _))
  obtain ⟨k1, k2⟩ := List.mem_filter.mp m1
  obtain ⟨k3, k4⟩ := List.mem_filter.mp m2
  intro p hp1 p2 hp2 hpp
  subst hpp
  obtain ⟨y1, u1, u2, u3⟩ := hin z1 p k1 hp1
  obtain ⟨y2, v1, v2, v3⟩ := hin z2 p k3 hp2
  obtain ⟨a1, e1, _, q1⟩ := cl_all ps b hc y1 u2
  obtain ⟨a2, e2, _, q2⟩ := cl_all ps b hc y2 v2
  rw [q1.2.2.2.2.2.2] at u3
  rw [q2.2.2.2.2.2.2] at v3
  obtain ⟨j1, s1, s2, _, rfl⟩ := places_mem.mp u3
  obtain ⟨j2, t1, t2, _, t4⟩ := places_mem.mp v3
  obtain rfl : j1 = j2 := by omega
  obtain ⟨rfl, _, _⟩ := piece_one hc u2 v2 q1 q2 s1 s2 t1 t2
  exact hne2 (ch_unique h0 h1 hc k1 k3 (by simpa using k2) (by simpa using k4) a1 y1 u2 (piece_ends q1).2.1 u1 v1)
 ·
  obtain ⟨l, hl, hpl⟩ := List.mem_flatten.mp hm
  obtain ⟨j', e1, _, e2, _⟩ := (hrow l hl).2.2 _ hpl
  obtain rfl : j' = j := by omega
  exact e2
 ·
  obtain ⟨x, hx, a, e, hp, x1, x2⟩ := cl_cover ps b hc j (by
   rcases Nat.lt_or_ge j b with h | h
   ·
    have := hb j h
    omega
   · exact h) (by rw [lvL_len]; exact hj) hv
  obtain ⟨z, hz, z1, z2⟩ := ch_cover h0 h1 hb hc a x hx (piece_ends hp).2.1
  refine List.mem_flatten.mpr ⟨chainG ps (mtC cls) cls.length z.f0, ?_, ?_⟩
  ·
   rw [runsOf_map]
   exact List.mem_map.mpr ⟨z, List.mem_filter.mpr ⟨hz, by simp [z1]⟩, rfl⟩
  ·
   rw [chain_flat hne]
   refine List.mem_flatten.mpr ⟨x.f0, List.mem_map.mpr ⟨x, z2, rfl⟩, ?_⟩
   rw [hp.2.2.2.2.2.2]
   exact places_mem.mpr ⟨j, x1, x2, hv, rfl⟩
end Go.Proofs.Ytojehfdioeglgaa.Pure
/- What LevelRuns answers, by program and by reference. -/
namespace Go.Proofs.Ytojehfdioeglgaa.Pure
open Go.RowKit Go.Proofs.Ytojehfdioeglgaa.S Go.Proofs.YtojehfdioeglgaaW.PrintWords Go.Proofs.YtojehfdioeglgaaW.PrintLast
theorem piecesOkB_of {N : Nat} {ps : List S62} (h1 : ps.length ≤ 400) (h2 : PiecesOk N ps) : piecesOkB N ps = true := by
 unfold piecesOkB
 rw [Bool.and_eq_true, decide_eq_true_eq]
 refine ⟨h1, List.all_eq_true.mpr fun x hx => ?_⟩
 obtain ⟨a1, a2, a3, a4⟩ := h2 x hx
 simp only [Bool.and_eq_true, decide_eq_true_eq, List.all_eq_true]
 exact ⟨⟨⟨a1, a2⟩, a3⟩, a4⟩
def runsV (l : List Int) (b : Int) : List (List Int) := if okV l = true ∧ baseB b = true then runsOf (chainG (piecesV (lvL (clsV l) b)) (mtC (clsV l)) l.length) (clsV l) (piecesV (lvL (clsV l) b)) else []
theorem base01 {b : Int} (hb : baseB b = true) : 0 ≤ b ∧ b ≤ 1 := by
 unfold baseB at hb
 rw [Bool.or_eq_true, decide_eq_true_eq, decide_eq_true_eq] at hb
 omega
theorem implRuns_p (l : List Int) (b : Int) : impl_LevelRuns.f l b = some (runsV l b) := by
 unfold impl_LevelRuns.f runsV
 by_cases h : okV l = true ∧ baseB b = true
 ·
  rw [if_pos h, if_pos h, clsO_p, Option.bind_some]
  have h80 := ok_len h.1
  have hb := base01 h.2
  have hl : (toldLC (clsV l) b).1 = lvL (clsV l) b := rfl
  have hll : (lvL (clsV l) b).length = l.length := by rw [lvL_len, clsV_len]
  have hok := pieces_ok (lvL_ok (cls := clsV l) hb.1 (by omega)) (by omega)
  rw [hl, pieces_p (by omega) (by omega), Option.bind_some, piecesOkB_of (by omega) (by rw [clsV_len, ← hll]; exact hok.1), if_pos rfl]
  have hr := runsF_of (piecesV (lvL (clsV l) b)) (clsV l) l.length (piecesV (lvL (clsV l) b)).length (Nat.le_refl _)
  rw [List.take_length] at hr
  rw [← hr]
  unfold runsC
  rw [clsV_len]
  unfold mtC cdC
  rw [clsV_len]
 · rw [if_neg h, if_neg h]
theorem specRuns_p {l : List Int} {b : Int} {k : Nat} (hn : l.length ≤ 1099511627776) (hk : l.length < k) (hk2 : 3000 ≤ k) : spec_LevelRuns.f k l b = some (runsV l b) := by
 unfold spec_LevelRuns.f runsV
 rw [l3Ok_p hn hk, Option.bind_some]
 by_cases hok : okV l = true
 ·
  by_cases hb : baseB b = true
  ·
   have h80 := ok_len hok
   have hb01 := base01 hb
   obtain ⟨s, q1, _, q3, q4⟩ := walk_told (k := k) (rs := l) (base := b) (by omega) hb01.1 (by omega) (by omega) l.length (Nat.le_refl _)
   have hsl : s.lv = lvL (clsV l) b := by
    rw [q3, Nat.sub_self, List.replicate_zero, List.append_nil]
    unfold lvL
    rw [clsV_len]
   rw [hok, hb, if_pos (by decide), if_pos (by omega), if_pos ⟨rfl, rfl⟩, q1, Option.bind_some, hsl, l3Runs_p h80 hb01.1 (by omega) (by omega)]
  · rw [if_neg (by simp [hb]), if_neg (fun h => hb h.2)]
 · rw [if_neg (by simp [hok]), if_neg (fun h => hok h.1)]
theorem nodup_nat : ∀ (n : Nat) (l : List Nat), l.Nodup → (∀ x ∈ l, x < n) → l.length ≤ n
 | 0, l, _, h => by
  cases l with
  | nil => simp
  | cons a r => exact absurd (h a (by simp)) (by omega)
 | n + 1, l, hd, h => by
  by_cases hm : n ∈ l
  ·
   have h1 := List.length_erase_of_mem hm
   have h2 := nodup_nat n (l.erase n) (hd.erase n) (fun x hx => by
    have h3 := (List.Nodup.mem_erase_iff hd).mp hx
    have := h x h3.2
    omega)
   omega
  ·
   have := nodup_nat n l hd (fun x hx => by
    have := h x hx
    have : x ≠ n := fun e => hm (e ▸ hx)
    omega)
   omega
theorem nodup_len {l : List Int} {n : Nat} (h : l.Nodup) (hm : ∀ x ∈ l, ∃ j : Nat, x = j ∧ j < n) : l.length ≤ n := by
 have h1 : (l.map Int.toNat).Nodup := by
  refine List.pairwise_map.mpr (List.Pairwise.imp_of_mem (R := fun x y => x ≠ y) (fun {x y} hx hy hne he => ?_) h)
  obtain ⟨j1, rfl, _⟩ := hm x hx
  obtain ⟨j2, rfl, _⟩ := hm y hy
  rw [Int.toNat_natCast, Int.toNat_natCast] at he
  exact hne (by omega)
 have h3 := nodup_nat n (l.map Int.toNat) h1 (fun j hj => by
  obtain ⟨x, hx, rfl⟩ := List.mem_map.mp hj
  obtain ⟨j1, rfl, hj1⟩ := hm x hx
  rw [Int.toNat_natCast]
  exact hj1)
 rwa [List.length_map] at h3
theorem runs_small (t : List Int) (b : Int) : (runsV t b).length ≤ 100 ∧ (runsV t b).flatten.length ≤ 100 := by
 by_cases hok : okV t = true ∧ baseB b = true
 ·
  have h80 := ok_len hok.1
  have hb := base01 hok.2
  have hll : (lvL (clsV t) b).length = t.length := by rw [lvL_len, clsV_len]
  obtain ⟨c, c1, c2, c3, c4⟩ := cl_pieces (lvL_ok (cls := clsV t) hb.1 (show b ≤ 20 by omega))
  obtain ⟨r1, r2, r3⟩ := rows_all (cls := clsV t) hb.1 (show b ≤ 20 by omega) c2 c4
  rw [clsV_len] at r1 r2 r3
  have hpl := cl_len _ _ c4
  have hR : runsV t b = runsOf (chainG (piecesV (lvL (clsV t) b)) (mtC (clsV t)) t.length) (clsV t) (piecesV (lvL (clsV t) b)) := by unfold runsV; rw [if_pos hok]
  have hRl : (runsOf (chainG (piecesV (lvL (clsV t) b)) (mtC (clsV t)) t.length) (clsV t) (piecesV (lvL (clsV t) b))).length ≤ 80 := by
   rw [runsOf_map, List.length_map]
   have := List.length_filter_le (fun x => (cdC (clsV t) (fstP x)).isNone) (piecesV (lvL (clsV t) b))
   omega
  rw [hR]
  generalize runsOf (chainG (piecesV (lvL (clsV t) b)) (mtC (clsV t)) t.length) (clsV t) (piecesV (lvL (clsV t) b)) = R at r1 r2 r3 hRl ⊢
  generalize lvL (clsV t) b = lv at r1 r3 hll
  have hfl : R.flatten.length ≤ t.length := nodup_len r2 fun x hx => by
   obtain ⟨row, hrow, hxr⟩ := List.mem_flatten.mp hx
   obtain ⟨j, j1, j2, _⟩ := (r1 row hrow).2.2 x hxr
   exact ⟨j, j1, by omega⟩
  exact ⟨by omega, by omega⟩
 ·
  have hR : runsV t b = [] := by unfold runsV; rw [if_neg hok]
  rw [hR]
  simp
end Go.Proofs.Ytojehfdioeglgaa.Pure
