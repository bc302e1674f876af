/-
  value.Object.
-/
import Derived.Test.YtefhongghmimgaaV3
open Go Go.Proofs Go.Pw Go.RowKit
namespace Go.Proofs.Ytefhongghmimgaa
set_option maxRecDepth 4000
set_option linter.unusedVariables false
set_option linter.unusedSimpArgs false
def insAt {α : Type} (l : List α) (i : Nat) (x : α) : List α := l.take i ++ [x] ++ l.drop i
theorem insAt_len {α : Type} {l : List α} {i : Nat} (h : i ≤ l.length) (x : α) : (insAt l i x).length = l.length + 1 := by
  unfold insAt; simp; omega
def putAll (ks : List ByteArray) (is : List V) : List ByteArray → List V → Option (List ByteArray × List V)
  | k :: r, v :: vs => if foundT ks k = true then none else putAll (insAt ks (posT ks k) k) (insAt is (posT ks k) v) r vs
  | _, _ => some (ks, is)
def objR : Option (List ByteArray × List V) → PV
  | some (ks, is) => .tup [.agg (cellsV (.mk 5 false 0 ByteArray.empty is ks)), vI 0]
  | none => .tup [.agg (cellsV vZero), vI 5]
def objF (keys : List ByteArray) (items : List V) : PV :=
  if keys.length ≠ items.length then .tup [.agg (cellsV vZero), vI 1]
  else if (keys.any fun s => !isT s) = true then .tup [.agg (cellsV vZero), vI 2]
  else objR (putAll [] [] keys items)
def heapM (base : Option Nat) (E : TypeId) (cs : List PV) : List (Nat × PObj) :=
  match base with
  | none => []
  | some id => [(id, .box E cs)]
theorem heapM_some (id : Nat) (E : TypeId) (cs : List PV) : heapM (some id) E cs = [(id, .box E cs)] := rfl
theorem heapM_none (E : TypeId) (cs : List PV) : heapM none E cs = [] := rfl
theorem insArg_some (id n c : Nat) : insArg (some id) n c = .ms id 0 n c := rfl
theorem insArg_none (n c : Nat) : insArg none n c = vNil := rfl
structure ObjI where
  i : Nat
  ks : List ByteArray
  is : List V
  bK : Option Nat
  cK : Nat
  rK : List PV
  bI : Option Nat
  cI : Nat
  rI : List PV
  nx : Nat
  nt : Nat
structure ObjOk (keys : List ByteArray) (items : List V) (rr : PV) (p : ObjI) : Prop where
  hi : p.i ≤ keys.length
  lk : p.ks.length = p.i
  li : p.is.length = p.i
  sort : SortT p.ks
  res : objR (putAll p.ks p.is (keys.drop p.i) (items.drop p.i)) = rr
  nK : p.bK = none → p.cK = 0
  nI : p.bI = none → p.cI = 0
  cK : p.i ≤ p.cK
  cI : p.i ≤ p.cI
  mK : p.cK ≤ maxLen
  mI : p.cI ≤ maxLen
  rK : p.rK.length = (p.cK - p.i) * 1
  rI : p.rI.length = (p.cI - p.i) * 6
  idK : ∀ id, p.bK = some id → 12 < id ∧ id < p.nx
  idI : ∀ id, p.bI = some id → 12 < id ∧ id < p.nx
  ne : ∀ j k, p.bK = some j → p.bI = some k → j ≠ k
  nx : 12 < p.nx
def objH (p : ObjI) : List (Nat × PObj) := heapM p.bK 9 (flatT p.ks ++ p.rK) ++ heapM p.bI 31 (flatV p.is ++ p.rI)
def objS (keys : List ByteArray) (items : List V) (p : ObjI) : PS :=
  ⟨[(25, vI p.i), (24, vI keys.length), (23, .sl (encT keys)), (0, .sl (encT keys)), (1, .sl (encV items)), (4, .ptr 0 0), (5, vI 0), (6, .ptr 12 0)],
   (12, .box 31 [vI 5, vB false, vI 0, vS ByteArray.empty, insArg p.bI p.i p.cI, insArg p.bK p.i p.cK]) :: (0, .box 31 [vI 0, vB false, vI 0, vS ByteArray.empty, vNil, vNil]) :: objH p, [], p.nx, p.nt⟩
theorem lkp_app {α : Type} (l m : List (Nat × α)) (i : Nat) : lkp (l ++ m) i = (lkp l i).or (lkp m i) := by
  induction l with
  | nil => rfl
  | cons x r ih =>
    obtain ⟨k, v⟩ := x
    rw [List.cons_append, lkp_cons, lkp_cons]
    split
    · rfl
    · exact ih
theorem heapM_lkp {base : Option Nat} {E : TypeId} {cs : List PV} {j : Nat} {o : PObj} (h : lkp (heapM base E cs) j = some o) : base = some j ∧ o = .box E cs := by
  cases base with
  | none => cases h
  | some id =>
    rw [heapM_some, lkp_cons] at h
    split at h
    · rename_i e
      subst e
      exact ⟨rfl, (Option.some.inj h).symm⟩
    · cases h
theorem heapM_own (id : Nat) (E : TypeId) (cs : List PV) : lkp (heapM (some id) E cs) id = some (.box E cs) := by simp [heapM, lkp]
section
set_option linter.unusedSectionVars false
variable {keys : List ByteArray} {items : List V} {rr : PV} {p : ObjI} (h : ObjOk keys items rr p)
include h
theorem ObjOk.hK {id : Nat} (e : p.bK = some id) : lkp (objH p) id = some (.box 9 (flatT p.ks ++ p.rK)) := by
  unfold objH
  rw [lkp_app, e, heapM_own]
  rfl
theorem ObjOk.hI {id : Nat} (e : p.bI = some id) : lkp (objH p) id = some (.box 31 (flatV p.is ++ p.rI)) := by
  unfold objH
  rw [lkp_app]
  cases hk : lkp (heapM p.bK 9 (flatT p.ks ++ p.rK)) id with
  | none => rw [e, heapM_own]; rfl
  | some o =>
    obtain ⟨e1, _⟩ := heapM_lkp hk
    exact absurd rfl (h.ne id id e1 e)
theorem ObjOk.big {id : Nat} {o : PObj} (e : lkp (objH p) id = some o) : 12 < id ∧ id < p.nx := by
  unfold objH at e
  rw [lkp_app] at e
  cases hk : lkp (heapM p.bK 9 (flatT p.ks ++ p.rK)) id with
  | some o' => exact h.idK id (heapM_lkp hk).1
  | none => rw [hk] at e; exact h.idI id (heapM_lkp e).1
theorem ObjOk.fzK {a b : PObj} : fzH Try.prog ((12, a) :: (0, b) :: objH p) (insArg p.bK p.i p.cK) = some (.sl (encT p.ks)) := by
  cases e : p.bK with
  | none =>
    have h0 := h.nK e
    have := h.cK
    have hks : p.ks = [] := List.length_eq_zero_iff.1 (by rw [h.lk]; omega)
    rw [hks]
    rfl
  | some id =>
    have hl : lkp ((12, a) :: (0, b) :: objH p) id = some (.box 9 (flatT p.ks ++ p.rK)) := by
      have := h.idK id e
      rw [lkp_cons, if_neg (by omega), lkp_cons, if_neg (by omega)]
      exact h.hK e
    rw [insArg_some]
    simp only [fzH, hl, sz9]
    have h1 : 0 < 1 ∧ 0 + p.i * 1 ≤ (flatT p.ks ++ p.rK).length := ⟨by decide, by rw [List.length_append, flatT_len, h.lk]; omega⟩
    rw [if_pos h1, List.drop_zero, ← h.lk, chunksT, fz_encT]
    rfl
theorem ObjOk.fzI {a b : PObj} : fzH Try.prog ((12, a) :: (0, b) :: objH p) (insArg p.bI p.i p.cI) = some (.sl (encV p.is)) := by
  cases e : p.bI with
  | none =>
    have h0 := h.nI e
    have := h.cI
    have hks : p.is = [] := List.length_eq_zero_iff.1 (by rw [h.li]; omega)
    rw [hks, encV_nil]
    rfl
  | some id =>
    have hl : lkp ((12, a) :: (0, b) :: objH p) id = some (.box 31 (flatV p.is ++ p.rI)) := by
      have := h.idI id e
      rw [lkp_cons, if_neg (by omega), lkp_cons, if_neg (by omega)]
      exact h.hI e
    rw [insArg_some]
    simp only [fzH, hl, sz31]
    have h1 : 0 < 6 ∧ 0 + p.i * 6 ≤ (flatV p.is ++ p.rI).length := ⟨by decide, by rw [List.length_append, flatV_len, h.li]; omega⟩
    rw [if_pos h1, List.drop_zero, ← h.li, chunksV, fz_encV]
    rfl
end
theorem fzHA_ins {P : Program} {h : List (Nat × PObj)} (base : Option Nat) (n c : Nat) : fzHA P h (insArg base n c) = fzH P h (insArg base n c) := by cases base <;> rfl
theorem fzH_val {P : Program} {h : List (Nat × PObj)} (v : Value) : fzH P h (.val v) = fz (.val v) := rfl
theorem drop_consG {α : Type} {a : List α} {d : α} {k : Nat} (h : k < a.length) : a.drop k = a.getD k d :: a.drop (k + 1) := by
  rw [List.drop_eq_getElem_cons h, List.getD_eq_getElem?_getD, List.getElem?_eq_getElem h]; rfl
theorem ins_sort {k : ByteArray} : ∀ {l : List ByteArray}, SortT l → foundT l k = false → SortT (insAt l (posT l k) k)
  | [], _, _ => by simp [insAt, SortT]
  | x :: r, h, hf => by
    have h' := List.pairwise_cons.1 h
    cases hx : ltT x k with
    | true =>
      have hp : posT (x :: r) k = posT r k + 1 := by unfold posT; rw [List.takeWhile_cons, hx]; rfl
      have hf' : foundT r k = false := by
        unfold foundT at hf ⊢
        rw [hp] at hf
        simpa using hf
      rw [hp]
      have ih := ins_sort h'.2 hf'
      have e : insAt (x :: r) (posT r k + 1) k = x :: insAt r (posT r k) k := rfl
      rw [e]
      refine List.pairwise_cons.2 ⟨fun y hy => ?_, ih⟩
      unfold insAt at hy
      rcases List.mem_append.1 hy with hy | hy
      · rcases List.mem_append.1 hy with hy | hy
        · exact h'.1 y (List.mem_of_mem_take hy)
        · rw [List.mem_singleton.1 hy]; exact hx
      · exact h'.1 y (List.mem_of_mem_drop hy)
    | false =>
      have hp : posT (x :: r) k = 0 := by unfold posT; rw [List.takeWhile_cons, hx]; rfl
      rw [hp]
      unfold foundT at hf
      rw [hp] at hf
      have hne : ¬ x = k := by simpa using hf
      have hlt : ltT k x = true := by
        rcases ltT_tri x k with h | h | h
        · rw [hx] at h; cases h
        · exact absurd h hne
        · exact h
      have e : insAt (x :: r) 0 k = k :: x :: r := rfl
      rw [e]
      refine List.pairwise_cons.2 ⟨fun y hy => ?_, h⟩
      rcases List.mem_cons.1 hy with rfl | hy
      · exact hlt
      · exact ltT_trans hlt (h'.1 y hy)
set_option maxHeartbeats 8000000 in
theorem object_ok (keys : List ByteArray) (items : List V) (hf : fewT keys) (hl : keys.length ≤ 1000000) (hi : items.length ≤ 1000000) : Ok Try.prog 13 [.sl (encT keys), .sl (encV items)] (objF keys items) := by
  refine Ok.of_pwpH (bar := oneBar 13 8) (by kernel_rfl) Try.func13 rfl (by kernel_rfl) (by kernel_rfl) ?_
  unfold objF
  by_cases h1 : keys.length = items.length
  · rw [if_neg (by simpa using h1)]
    have hd : decide ((keys.length : Int) = (items.length : Int)) = true := decide_eq_true (by omega)
    simp (implicitDefEqProofs := false) (disch := omega) only [go_sem, reduceCtorEq, Nat.reduceEqDiff, Nat.reduceBEq, ↓reduceIte, Nat.reduceGT, Nat.reduceAdd, Int.reduceEq, Int.reduceLT, Int.reduceLE, Int.reduceNeg, Int.reduceAdd, Int.reduceSub, Int.reduceMul, Int.reduceDiv, Int.reduceMod, Nat.reduceLT, Nat.reduceLeDiff, Nat.reduceMul, Nat.reduceSub, Int.reduceToNat, go_sem, Nat.le_refl, hd, Try.results13]
    with_reducible refine CallOk.of (contS_ok keys hf (by omega)) rfl ?_
    cases hc : keys.any (fun s => !isT s) with
    | true =>
      rw [if_pos rfl]
      simp (implicitDefEqProofs := false) (disch := omega) only [go_sem, reduceCtorEq, Nat.reduceEqDiff, Nat.reduceBEq, ↓reduceIte, Nat.reduceGT, Nat.reduceAdd, Int.reduceEq, Int.reduceLT, Int.reduceLE, Int.reduceNeg, Int.reduceAdd, Int.reduceSub, Int.reduceMul, Int.reduceDiv, Int.reduceMod, Nat.reduceLT, Nat.reduceLeDiff, Nat.reduceMul, Nat.reduceSub, Int.reduceToNat, go_sem, Nat.le_refl, Try.results13, encV_nil, encT_nil, vZero, outH, fzHAs, fzHA, fzHL, fzH, cellsV]
    | false =>
      rw [if_neg (by decide)]
      generalize hr : objR (putAll [] [] keys items) = rr
      simp (implicitDefEqProofs := false) (disch := omega) only [go_sem, reduceCtorEq, Nat.reduceEqDiff, Nat.reduceBEq, ↓reduceIte, Nat.reduceGT, Nat.reduceAdd, Int.reduceEq, Int.reduceLT, Int.reduceLE, Int.reduceNeg, Int.reduceAdd, Int.reduceSub, Int.reduceMul, Int.reduceDiv, Int.reduceMod, Nat.reduceLT, Nat.reduceLeDiff, Nat.reduceMul, Nat.reduceSub, Int.reduceToNat, go_sem, Nat.le_refl, Try.results13, encV_nil, encT_nil, vZero]
      refine p_loop (ι := { p : ObjI // ObjOk keys items rr p }) (fun p => objS keys items p.1) (fun p => keys.length - p.1.i)
        ⟨⟨0, [], [], none, 0, [], none, 0, [], 15, 15⟩, ⟨Nat.zero_le _, rfl, rfl, List.Pairwise.nil, hr, fun _ => rfl, fun _ => rfl, Nat.le_refl _, Nat.le_refl _, Nat.zero_le _, Nat.zero_le _, rfl, rfl, fun _ h => (by cases h), fun _ h => (by cases h), fun _ _ h => (by cases h), by decide⟩⟩ ?_ ?_
      · simp only [objS, objH, heapM_none, insArg_none, List.nil_append]
        refine ⟨?_, ?_, ?_, ?_, ?_, ?_, ?_⟩ <;> simp only [mem_cons_, mem_nil_, lkp, hold_eq, b_some, frz_self, frz1_self, frzL_self, frzO_self, frzO_box, frzO_iter, frzL_cons, frzL_nil, frz_agg, frz1_row, frz1_nil, frz1_val, frz1_sl, frz1_rr, frz1_ptr, frz1_ms, frz_val, frz_sl, frz_row, frz_ptr, frz_ms, frz_fp, frz_tup, frz_fn, PV.lt, PV.ltL, PObj.lt, decide_true, Bool.true_and, Bool.and_true, Bool.and_self, Nat.reduceLT, Nat.reduceLeDiff, Nat.reduceEqDiff, if_true, if_false, ↓reduceIte, and_true, true_and, Nat.zero_le, reduceCtorEq, eq_self, decide_eq_true_eq, Int.natCast_zero] <;> try first | omega | ((repeat' (first | exact And.intro rfl (by omega) | (refine And.intro ?_ ?_))) <;> first | rfl | omega | (congr 3; omega) | (congr 2; omega))
      · rintro ⟨p, hp⟩
        simp only [objS]
        simp (implicitDefEqProofs := false) (disch := omega) only [go_sem, reduceCtorEq, Nat.reduceEqDiff, Nat.reduceBEq, ↓reduceIte, Nat.reduceGT, Nat.reduceAdd, Int.reduceEq, Int.reduceLT, Int.reduceLE, Int.reduceNeg, Int.reduceAdd, Int.reduceSub, Int.reduceMul, Int.reduceDiv, Int.reduceMod, Nat.reduceLT, Nat.reduceLeDiff, Nat.reduceMul, Nat.reduceSub, Int.reduceToNat, go_sem, Nat.le_refl, Try.results13, encV_nil, encT_nil, vZero]
        with_reducible refine ifK_split (fun hlt => ?_) (fun hge => ?_)
        · have hpi := hp.hi
          have hpnx := hp.nx
          have hlt' : p.i < keys.length := by omega
          simp (implicitDefEqProofs := false) (disch := omega) only [go_sem, reduceCtorEq, Nat.reduceEqDiff, Nat.reduceBEq, ↓reduceIte, Nat.reduceGT, Nat.reduceAdd, Int.reduceEq, Int.reduceLT, Int.reduceLE, Int.reduceNeg, Int.reduceAdd, Int.reduceSub, Int.reduceMul, Int.reduceDiv, Int.reduceMod, Nat.reduceLT, Nat.reduceLeDiff, Nat.reduceMul, Nat.reduceSub, Int.reduceToNat, go_sem, Nat.le_refl, Try.results13, encV_nil, encT_nil, vZero]
          refine CallOk.ofI (OkI.frozen (st := ⟨[], _, _, _, _⟩) (bs_ok p.ks (keys.getD p.i ByteArray.empty) hp.sort (by rw [hp.lk]; omega)) ?_ rfl) rfl rfl rfl rfl ?_
          · simp only [fzHAs, fzHA_ins, hp.fzK]
            rfl
          · rintro r st1 ⟨rfl, rfl⟩
            have ek := drop_consG (d := ByteArray.empty) hlt'
            have ei := drop_consG (a := items) (d := default) (k := p.i) (by omega)
            have hres := hp.res
            rw [ek, ei, putAll] at hres
            simp (implicitDefEqProofs := false) (disch := omega) only [go_sem, reduceCtorEq, Nat.reduceEqDiff, Nat.reduceBEq, ↓reduceIte, Nat.reduceGT, Nat.reduceAdd, Int.reduceEq, Int.reduceLT, Int.reduceLE, Int.reduceNeg, Int.reduceAdd, Int.reduceSub, Int.reduceMul, Int.reduceDiv, Int.reduceMod, Nat.reduceLT, Nat.reduceLeDiff, Nat.reduceMul, Nat.reduceSub, Int.reduceToNat, go_sem, Nat.le_refl, Try.results13, encV_nil, encT_nil, vZero]
            with_reducible refine ifK_bsplit (fun hfd => ?_) (fun hnf => ?_)
            · rw [if_pos hfd] at hres
              rw [← hres, objR]
              simp (implicitDefEqProofs := false) (disch := omega) only [go_sem, reduceCtorEq, Nat.reduceEqDiff, Nat.reduceBEq, ↓reduceIte, Nat.reduceGT, Nat.reduceAdd, Int.reduceEq, Int.reduceLT, Int.reduceLE, Int.reduceNeg, Int.reduceAdd, Int.reduceSub, Int.reduceMul, Int.reduceDiv, Int.reduceMod, Nat.reduceLT, Nat.reduceLeDiff, Nat.reduceMul, Nat.reduceSub, Int.reduceToNat, go_sem, Nat.le_refl, Try.results13, encV_nil, encT_nil, vZero, outH, fzHAs, fzHA, fzHL, fzH, cellsV]
            · rw [if_neg (by rw [hnf]; decide)] at hres
              generalize hk : keys.getD p.i ByteArray.empty = k at *
              have hple := posT_le p.ks k
              rw [hp.lk] at hple
              simp (implicitDefEqProofs := false) (disch := omega) only [go_sem, reduceCtorEq, Nat.reduceEqDiff, Nat.reduceBEq, ↓reduceIte, Nat.reduceGT, Nat.reduceAdd, Int.reduceEq, Int.reduceLT, Int.reduceLE, Int.reduceNeg, Int.reduceAdd, Int.reduceSub, Int.reduceMul, Int.reduceDiv, Int.reduceMod, Nat.reduceLT, Nat.reduceLeDiff, Nat.reduceMul, Nat.reduceSub, Int.reduceToNat, go_sem, Nat.le_refl, Try.results13, encV_nil, encT_nil, vZero]
              refine CallOk.ofI (OkI.insert (st := ⟨[], _, _, _, _⟩) (tk := _) (by kernel_rfl) insS_roads rfl (by intro u hu; simp [Value.cells] at hu; subst hu; rfl) (by decide) (x := [vS k]) rfl ?_ p.bK p.i p.cK (posT p.ks k) (flatT p.ks) p.rK ?_ hp.rK hple hp.cK hp.mK (by omega) (by unfold maxLen; omega) hp.nK ?_ ((12, .box 31 [vI 5, vB false, vI 0, vS ByteArray.empty, insArg p.bI p.i p.cI, insArg p.bK p.i p.cK]) :: (0, .box 31 [vI 0, vB false, vI 0, vS ByteArray.empty, vNil, vNil]) :: heapM p.bI 31 (flatV p.is ++ p.rI)) ?_) rfl rfl rfl rfl ?_
              · simp only [upd, lkp, if_true]
              · rw [flatT_len, hp.lk, Nat.mul_one]
              · intro id e
                have := hp.idK id e
                show lkp ((12, _) :: (0, _) :: objH p) id = _
                rw [lkp_cons, if_neg (by omega), lkp_cons, if_neg (by omega)]
                exact hp.hK e
              · intro j o h
                show lkp ((12, _) :: (0, _) :: objH p) j = some o ∧ _
                rw [lkp_cons, lkp_cons] at h ⊢
                split at h
                · rename_i e
                  rw [if_pos e]
                  exact ⟨h, fun e' => by have := hp.idK _ e'; omega⟩
                · rename_i e
                  rw [if_neg e]
                  split at h
                  · rename_i e0
                    rw [if_pos e0]
                    exact ⟨h, fun e' => by have := hp.idK _ e'; omega⟩
                  · rename_i e0
                    rw [if_neg e0]
                    obtain ⟨e1, rfl⟩ := heapM_lkp h
                    exact ⟨hp.hI e1, fun e' => hp.ne _ _ e' e1 rfl⟩
              · rintro r st1 ⟨cK', rK', q1, q2, q3, q4, rfl, rfl⟩
                simp (implicitDefEqProofs := false) (disch := omega) only [go_sem, reduceCtorEq, Nat.reduceEqDiff, Nat.reduceBEq, ↓reduceIte, Nat.reduceGT, Nat.reduceAdd, Int.reduceEq, Int.reduceLT, Int.reduceLE, Int.reduceNeg, Int.reduceAdd, Int.reduceSub, Int.reduceMul, Int.reduceDiv, Int.reduceMod, Nat.reduceLT, Nat.reduceLeDiff, Nat.reduceMul, Nat.reduceSub, Int.reduceToNat, go_sem, Nat.le_refl, Try.results13, encV_nil, encT_nil, vZero]
                refine p_bar (by kernel_rfl) ?_
                have hli := hp.li
                simp (implicitDefEqProofs := false) (disch := omega) only [go_sem, reduceCtorEq, Nat.reduceEqDiff, Nat.reduceBEq, ↓reduceIte, Nat.reduceGT, Nat.reduceAdd, Int.reduceEq, Int.reduceLT, Int.reduceLE, Int.reduceNeg, Int.reduceAdd, Int.reduceSub, Int.reduceMul, Int.reduceDiv, Int.reduceMod, Nat.reduceLT, Nat.reduceLeDiff, Nat.reduceMul, Nat.reduceSub, Int.reduceToNat, go_sem, Nat.le_refl, Try.results13, encV_nil, encT_nil, vZero]
                refine CallOk.ofI (OkI.insert (st := ⟨[], _, _, _, _⟩) (tk := _) (by kernel_rfl) insV_roads rfl (by intro u hu; simp [Value.cells] at hu; rcases hu with rfl | rfl | rfl | rfl | rfl | rfl <;> rfl) (by decide) (x := cellsV (items.getD p.i default)) rfl ?_ p.bI p.i p.cI (posT p.ks k) (flatV p.is) p.rI ?_ hp.rI hple hp.cI hp.mI (by omega) (by unfold maxLen; omega) hp.nI ?_ ((p.nx + 1 + 5 + 3 + 9 + 1 + 5, .box 9 ((flatT p.ks).take (posT p.ks k * 1) ++ [vS k] ++ (flatT p.ks).drop (posT p.ks k * 1) ++ rK')) :: (12, .box 31 [vI 5, vB false, vI 0, vS ByteArray.empty, insArg p.bI p.i p.cI, .ms (p.nx + 1 + 5 + 3 + 9 + 1 + 5) 0 (p.i + 1) cK']) :: (0, .box 31 [vI 0, vB false, vI 0, vS ByteArray.empty, vNil, vNil]) :: []) ?_) rfl rfl rfl rfl ?_
                · simp (disch := omega) only [upd, lkp, if_true, tok_T, tok_F, toks_T, toks_F]
                · rw [flatV_len, hp.li]
                · intro id e
                  have := hp.idI id e
                  show lkp ((p.nx + 1 + 5 + 3 + 9 + 1 + 5, _) :: (12, _) :: (0, _) :: heapM p.bI 31 (flatV p.is ++ p.rI)) id = _
                  rw [lkp_cons, if_neg (by omega), lkp_cons, if_neg (by omega), lkp_cons, if_neg (by omega), e, heapM_own]
                · intro j o h
                  show lkp ((p.nx + 1 + 5 + 3 + 9 + 1 + 5, _) :: (12, _) :: (0, _) :: heapM p.bI 31 (flatV p.is ++ p.rI)) j = some o ∧ _
                  rw [lkp_cons, lkp_cons, lkp_cons] at h ⊢
                  split at h
                  · rename_i e
                    rw [if_pos e]
                    exact ⟨h, fun e' => by have := hp.idI _ e'; omega⟩
                  · rename_i e
                    rw [if_neg e]
                    split at h
                    · rename_i e0
                      rw [if_pos e0]
                      exact ⟨h, fun e' => by have := hp.idI _ e'; omega⟩
                    · rename_i e0
                      rw [if_neg e0]
                      split at h
                      · rename_i e1
                        rw [if_pos e1]
                        exact ⟨h, fun e' => by have := hp.idI _ e'; omega⟩
                      · cases h
                · rintro r st1 ⟨cI', rI', w1, w2, w3, w4, rfl, rfl⟩
                  simp (implicitDefEqProofs := false) (disch := omega) only [go_sem, reduceCtorEq, Nat.reduceEqDiff, Nat.reduceBEq, ↓reduceIte, Nat.reduceGT, Nat.reduceAdd, Int.reduceEq, Int.reduceLT, Int.reduceLE, Int.reduceNeg, Int.reduceAdd, Int.reduceSub, Int.reduceMul, Int.reduceDiv, Int.reduceMod, Nat.reduceLT, Nat.reduceLeDiff, Nat.reduceMul, Nat.reduceSub, Int.reduceToNat, go_sem, Nat.le_refl, Try.results13, encV_nil, encT_nil, vZero]
                  refine ⟨⟨⟨p.i + 1, insAt p.ks (posT p.ks k) k, insAt p.is (posT p.ks k) (items.getD p.i default), some (p.nx + 1 + 5 + 3 + 9 + 1 + 5), cK', rK', some (p.nx + 1 + 5 + 3 + 9 + 1 + 5 + 1 + 8 + 8 + 0), cI', rI', p.nx + 1 + 5 + 3 + 9 + 1 + 5 + 1 + 8 + 8 + 0 + 1 + 1 + 11 + 2, p.nt + 1 + 5 + 3 + 9 + 1 + 5 + 8 + 8 + 0 + 1 + 11 + 2⟩, ?_⟩, by simp only; omega, ?_⟩
                  rotate_left
                  · simp only [objS, objH, heapM_some, insArg_some, List.cons_append, List.nil_append]
                    have eT : (flatT p.ks).take (posT p.ks k * 1) ++ [vS k] ++ (flatT p.ks).drop (posT p.ks k * 1) = flatT (insAt p.ks (posT p.ks k) k) := by
                      rw [Nat.mul_one, flatT_take, flatT_drop]; simp [insAt, flatT]
                    have eV : (flatV p.is).take (posT p.ks k * 6) ++ cellsV (items.getD p.i default) ++ (flatV p.is).drop (posT p.ks k * 6) = flatV (insAt p.is (posT p.ks k) (items.getD p.i default)) := by
                      rw [flatV_take, flatV_drop]
                      unfold insAt
                      rw [flatV_app, flatV_app]
                      rfl
                    rw [eT, eV]
                    refine ⟨?_, by simp (disch := omega) only [tok_T, tok_F, toks_T, toks_F, ob_T, ob_F, obs_T, obs_F, Bool.true_and, Bool.and_eq_true, mem_cons_, mem_nil_, lkp, hold_eq, b_some, frz_self, frz1_self, frzL_self, frzO_self, frzO_box, frzO_iter, frzL_cons, frzL_nil, frz_agg, frz1_row, frz1_nil, frz1_val, frz1_sl, frz1_rr, frz1_ptr, frz1_ms, frz_val, frz_sl, frz_row, frz_ptr, frz_ms, frz_fp, frz_tup, frz_fn, PV.lt, PV.ltL, PObj.lt, decide_true, Bool.true_and, Bool.and_true, Bool.and_self, Nat.reduceLT, Nat.reduceLeDiff, Nat.reduceEqDiff, if_true, if_false, ↓reduceIte, and_true, true_and, Nat.zero_le, reduceCtorEq, eq_self, decide_eq_true_eq, Int.natCast_add, Int.natCast_one, ltL_app, ltL_flatT, ltL_flatV, q4, w4] <;> try first | omega | ((repeat' (first | exact And.intro rfl (by omega) | (refine And.intro ?_ ?_))) <;> first | rfl | omega | (congr 3; omega) | (congr 2; omega)), ?_, ?_, ?_, ?_, ?_⟩ <;> simp only [mem_cons_, mem_nil_, lkp, hold_eq, b_some, frz_self, frz1_self, frzL_self, frzO_self, frzO_box, frzO_iter, frzL_cons, frzL_nil, frz_agg, frz1_row, frz1_nil, frz1_val, frz1_sl, frz1_rr, frz1_ptr, frz1_ms, frz_val, frz_sl, frz_row, frz_ptr, frz_ms, frz_fp, frz_tup, frz_fn, PV.lt, PV.ltL, PObj.lt, decide_true, Bool.true_and, Bool.and_true, Bool.and_self, Nat.reduceLT, Nat.reduceLeDiff, Nat.reduceEqDiff, if_true, if_false, ↓reduceIte, and_true, true_and, Nat.zero_le, reduceCtorEq, eq_self, decide_eq_true_eq, Int.natCast_add, Int.natCast_one, ltL_app, ltL_flatT, ltL_flatV, q4, w4] <;> try first | omega | ((repeat' (first | exact And.intro rfl (by omega) | (refine And.intro ?_ ?_))) <;> first | rfl | omega | (congr 3; omega) | (congr 2; omega))
                  · have hli2 : (insAt p.is (posT p.ks k) (items.getD p.i default)).length = p.i + 1 := by rw [insAt_len (by omega), hp.li]
                    refine ⟨by simp only; omega, by simp only; rw [insAt_len (by rw [hp.lk]; exact hple), hp.lk], hli2, ?_, hres, fun h => (by cases h), fun h => (by cases h), q1, w1, q2, w2, q3, w3, fun id h => ?_, fun id h => ?_, fun j l h1 h2 => ?_, by simp only; omega⟩
                    · exact ins_sort hp.sort hnf
                    · obtain rfl := Option.some.inj h
                      exact ⟨by omega, by simp only; omega⟩
                    · obtain rfl := Option.some.inj h
                      exact ⟨by omega, by simp only; omega⟩
                    · obtain rfl := Option.some.inj h1
                      obtain rfl := Option.some.inj h2
                      omega
        · have hpi := hp.hi
          have hie : p.i = keys.length := by omega
          have hres := hp.res
          rw [List.drop_eq_nil_of_le (by omega), putAll.eq_2 _ _ _ _ (fun _ _ _ _ h => by cases h), objR] at hres
          rw [← hres]
          simp (implicitDefEqProofs := false) (disch := omega) only [go_sem, reduceCtorEq, Nat.reduceEqDiff, Nat.reduceBEq, ↓reduceIte, Nat.reduceGT, Nat.reduceAdd, Int.reduceEq, Int.reduceLT, Int.reduceLE, Int.reduceNeg, Int.reduceAdd, Int.reduceSub, Int.reduceMul, Int.reduceDiv, Int.reduceMod, Nat.reduceLT, Nat.reduceLeDiff, Nat.reduceMul, Nat.reduceSub, Int.reduceToNat, go_sem, Nat.le_refl, Try.results13, encV_nil, encT_nil, outH, fzHAs, fzHA, fzHL, fzH_val, hp.fzK, hp.fzI, cellsV]
  · rw [if_pos (by simpa using h1)]
    have hd : decide ((keys.length : Int) = (items.length : Int)) = false := decide_eq_false (by omega)
    simp (implicitDefEqProofs := false) (disch := omega) only [go_sem, reduceCtorEq, Nat.reduceEqDiff, Nat.reduceBEq, ↓reduceIte, Nat.reduceGT, Nat.reduceAdd, Int.reduceEq, Int.reduceLT, Int.reduceLE, Int.reduceNeg, Int.reduceAdd, Int.reduceSub, Int.reduceMul, Int.reduceDiv, Int.reduceMod, Nat.reduceLT, Nat.reduceLeDiff, Nat.reduceMul, Nat.reduceSub, Int.reduceToNat, go_sem, Nat.le_refl, hd, Try.results13]
    simp (implicitDefEqProofs := false) (disch := omega) only [go_sem, reduceCtorEq, Nat.reduceEqDiff, Nat.reduceBEq, ↓reduceIte, Nat.reduceGT, Nat.reduceAdd, Int.reduceEq, Int.reduceLT, Int.reduceLE, Int.reduceNeg, Int.reduceAdd, Int.reduceSub, Int.reduceMul, Int.reduceDiv, Int.reduceMod, Nat.reduceLT, Nat.reduceLeDiff, Nat.reduceMul, Nat.reduceSub, Int.reduceToNat, go_sem, Nat.le_refl, Try.results13, encV_nil, encT_nil, vZero, outH, fzHAs, fzHA, fzHL, fzH, cellsV]
end Go.Proofs.Ytefhongghmimgaa
