/-
  Contracts and plain laws on the way to the statement; each says its own conditions.
-/
import Derived.Test.YtmfaejdnaippkaaDoorGS8
section
/-
  value.Object.
-/
open Go Go.Proofs Go.Pw Go.RowKit
namespace Go.Proofs.YtmfaejdnaippkaaDoor
set_option maxRecDepth 4000
set_option linter.unusedVariables false
set_option linter.unusedSimpArgs false
def insAt {α : Type} (l : List α) (i : Nat) (x : α) : List α := l.take i ++ [x] ++ l.drop i
theorem insAt_len {α : Type} {l : List α} {i : Nat} (h : i ≤ l.length) (x : α) : (insAt l i x).length = l.length + 1 := by
  unfold insAt; simp; omega
def putAll (ks : List ByteArray) (is : List V) : List ByteArray → List V → Option (List ByteArray × List V)
  | k :: r, v :: vs => if foundT ks k = true then none else putAll (insAt ks (posT ks k) k) (insAt is (posT ks k) v) r vs
  | _, _ => some (ks, is)
def objR : Option (List ByteArray × List V) → PV
  | some (ks, is) => .tup [.agg (cellsV (.mk 5 false 0 ByteArray.empty is ks)), vI 0]
  | none => .tup [.agg (cellsV vZero), vI 5]
def objF (keys : List ByteArray) (items : List V) : PV :=
  if keys.length ≠ items.length then .tup [.agg (cellsV vZero), vI 1]
  else if (keys.any fun s => !isT s) = true then .tup [.agg (cellsV vZero), vI 2]
  else objR (putAll [] [] keys items)
def heapM (base : Option Nat) (E : TypeId) (cs : List PV) : List (Nat × PObj) :=
  match base with
  | none => []
  | some id => [(id, .box E cs)]
theorem heapM_some (id : Nat) (E : TypeId) (cs : List PV) : heapM (some id) E cs = [(id, .box E cs)] := rfl
theorem heapM_none (E : TypeId) (cs : List PV) : heapM none E cs = [] := rfl
theorem insArg_some (id n c : Nat) : insArg (some id) n c = .ms id 0 n c := rfl
theorem insArg_none (n c : Nat) : insArg none n c = vNil := rfl
structure ObjI where
  i : Nat
  ks : List ByteArray
  is : List V
  bK : Option Nat
  cK : Nat
  rK : List PV
  bI : Option Nat
  cI : Nat
  rI : List PV
  nx : Nat
  nt : Nat
structure ObjOk (keys : List ByteArray) (items : List V) (rr : PV) (p : ObjI) : Prop where
  hi : p.i ≤ keys.length
  lk : p.ks.length = p.i
  li : p.is.length = p.i
  sort : SortT p.ks
  res : objR (putAll p.ks p.is (keys.drop p.i) (items.drop p.i)) = rr
  nK : p.bK = none → p.cK = 0
  nI : p.bI = none → p.cI = 0
  cK : p.i ≤ p.cK
  cI : p.i ≤ p.cI
  mK : p.cK ≤ maxLen
  mI : p.cI ≤ maxLen
  rK : p.rK.length = (p.cK - p.i) * 1
  rI : p.rI.length = (p.cI - p.i) * 6
  idK : ∀ id, p.bK = some id → 12 < id ∧ id < p.nx
  idI : ∀ id, p.bI = some id → 12 < id ∧ id < p.nx
  ne : ∀ j k, p.bK = some j → p.bI = some k → j ≠ k
  nx : 12 < p.nx
def objH (p : ObjI) : List (Nat × PObj) := heapM p.bK 9 (flatT p.ks ++ p.rK) ++ heapM p.bI 29 (flatV p.is ++ p.rI)
def objS (keys : List ByteArray) (items : List V) (p : ObjI) : PS :=
  ⟨[(25, vI p.i), (24, vI keys.length), (23, .sl (encT keys)), (0, .sl (encT keys)), (1, .sl (encV items)), (4, .ptr 0 0), (5, vI 0), (6, .ptr 12 0)],
   (12, .box 29 [vI 5, vB false, vI 0, vS ByteArray.empty, insArg p.bI p.i p.cI, insArg p.bK p.i p.cK]) :: (0, .box 29 [vI 0, vB false, vI 0, vS ByteArray.empty, vNil, vNil]) :: objH p, [], p.nx, p.nt⟩
theorem lkp_app {α : Type} (l m : List (Nat × α)) (i : Nat) : lkp (l ++ m) i = (lkp l i).or (lkp m i) := by
  induction l with
  | nil => rfl
  | cons x r ih =>
    obtain ⟨k, v⟩ := x
    rw [List.cons_append, lkp_cons, lkp_cons]
    split
    · rfl
    · exact ih
theorem heapM_lkp {base : Option Nat} {E : TypeId} {cs : List PV} {j : Nat} {o : PObj} (h : lkp (heapM base E cs) j = some o) : base = some j ∧ o = .box E cs := by
  cases base with
  | none => cases h
  | some id =>
    rw [heapM_some, lkp_cons] at h
    split at h
    · rename_i e
      subst e
      exact ⟨rfl, (Option.some.inj h).symm⟩
    · cases h
theorem heapM_own (id : Nat) (E : TypeId) (cs : List PV) : lkp (heapM (some id) E cs) id = some (.box E cs) := by simp [heapM, lkp]
section
set_option linter.unusedSectionVars false
variable {keys : List ByteArray} {items : List V} {rr : PV} {p : ObjI} (h : ObjOk keys items rr p)
include h
theorem ObjOk.hK {id : Nat} (e : p.bK = some id) : lkp (objH p) id = some (.box 9 (flatT p.ks ++ p.rK)) := by
  unfold objH
  rw [lkp_app, e, heapM_own]
  rfl
theorem ObjOk.hI {id : Nat} (e : p.bI = some id) : lkp (objH p) id = some (.box 29 (flatV p.is ++ p.rI)) := by
  unfold objH
  rw [lkp_app]
  cases hk : lkp (heapM p.bK 9 (flatT p.ks ++ p.rK)) id with
  | none => rw [e, heapM_own]; rfl
  | some o =>
    obtain ⟨e1, _⟩ := heapM_lkp hk
    exact absurd rfl (h.ne id id e1 e)
theorem ObjOk.fzK {a b : PObj} : fzH Tryd.prog ((12, a) :: (0, b) :: objH p) (insArg p.bK p.i p.cK) = some (.sl (encT p.ks)) := by
  cases e : p.bK with
  | none =>
    have h0 := h.nK e
    have := h.cK
    have hks : p.ks = [] := List.length_eq_zero_iff.1 (by rw [h.lk]; omega)
    rw [hks]
    rfl
  | some id =>
    have hl : lkp ((12, a) :: (0, b) :: objH p) id = some (.box 9 (flatT p.ks ++ p.rK)) := by
      have := h.idK id e
      rw [lkp_cons, if_neg (by omega), lkp_cons, if_neg (by omega)]
      exact h.hK e
    rw [insArg_some]
    simp only [fzH, hl, sz9]
    have h1 : 0 < 1 ∧ 0 + p.i * 1 ≤ (flatT p.ks ++ p.rK).length := ⟨by decide, by rw [List.length_append, flatT_len, h.lk]; omega⟩
    rw [if_pos h1, List.drop_zero, ← h.lk, chunksT, fz_encT]
    rfl
theorem ObjOk.fzI {a b : PObj} : fzH Tryd.prog ((12, a) :: (0, b) :: objH p) (insArg p.bI p.i p.cI) = some (.sl (encV p.is)) := by
  cases e : p.bI with
  | none =>
    have h0 := h.nI e
    have := h.cI
    have hks : p.is = [] := List.length_eq_zero_iff.1 (by rw [h.li]; omega)
    rw [hks, encV_nil]
    rfl
  | some id =>
    have hl : lkp ((12, a) :: (0, b) :: objH p) id = some (.box 29 (flatV p.is ++ p.rI)) := by
      have := h.idI id e
      rw [lkp_cons, if_neg (by omega), lkp_cons, if_neg (by omega)]
      exact h.hI e
    rw [insArg_some]
    simp only [fzH, hl, sz29]
    have h1 : 0 < 6 ∧ 0 + p.i * 6 ≤ (flatV p.is ++ p.rI).length := ⟨by decide, by rw [List.length_append, flatV_len, h.li]; omega⟩
    rw [if_pos h1, List.drop_zero, ← h.li, chunksV, fz_encV]
    rfl
end
theorem fzHA_ins {P : Program} {h : List (Nat × PObj)} (base : Option Nat) (n c : Nat) : fzHA P h (insArg base n c) = fzH P h (insArg base n c) := by cases base <;> rfl
theorem fzH_val {P : Program} {h : List (Nat × PObj)} (v : Value) : fzH P h (.val v) = fz (.val v) := rfl
theorem drop_consG {α : Type} {a : List α} {d : α} {k : Nat} (h : k < a.length) : a.drop k = a.getD k d :: a.drop (k + 1) := by
  rw [List.drop_eq_getElem_cons h, List.getD_eq_getElem?_getD, List.getElem?_eq_getElem h]; rfl
theorem ins_sort {k : ByteArray} : ∀ {l : List ByteArray}, SortT l → foundT l k = false → SortT (insAt l (posT l k) k)
  | [], _, _ => by simp [insAt, SortT]
  | x :: r, h, hf => by
    have h' := List.pairwise_cons.1 h
    cases hx : ltT x k with
    | true =>
      have hp : posT (x :: r) k = posT r k + 1 := by unfold posT; rw [List.takeWhile_cons, hx]; rfl
      have hf' : foundT r k = false := by
        unfold foundT at hf ⊢
        rw [hp] at hf
        simpa using hf
      rw [hp]
      have ih := ins_sort h'.2 hf'
      have e : insAt (x :: r) (posT r k + 1) k = x :: insAt r (posT r k) k := rfl
      rw [e]
      refine List.pairwise_cons.2 ⟨fun y hy => ?_, ih⟩
      unfold insAt at hy
      rcases List.mem_append.1 hy with hy | hy
      · rcases List.mem_append.1 hy with hy | hy
        · exact h'.1 y (List.mem_of_mem_take hy)
        · rw [List.mem_singleton.1 hy]; exact hx
      · exact h'.1 y (List.mem_of_mem_drop hy)
    | false =>
      have hp : posT (x :: r) k = 0 := by unfold posT; rw [List.takeWhile_cons, hx]; rfl
      rw [hp]
      unfold foundT at hf
      rw [hp] at hf
      have hne : ¬ x = k := by simpa using hf
      have hlt : ltT k x = true := by
        rcases ltT_tri x k with h | h | h
        · rw [hx] at h; cases h
        · exact absurd h hne
        · exact h
      have e : insAt (x :: r) 0 k = k :: x :: r := rfl
      rw [e]
      refine List.pairwise_cons.2 ⟨fun y hy => ?_, h⟩
      rcases List.mem_cons.1 hy with rfl | hy
      · exact hlt
      · exact ltT_trans hlt (h'.1 y hy)
set_option maxHeartbeats 8000000 in
theorem object_ok (keys : List ByteArray) (items : List V) (hf : fewT keys) (hl : keys.length ≤ 1000000) (hi : items.length ≤ 1000000) : Ok Tryd.prog 15 [.sl (encT keys), .sl (encV items)] (objF keys items) := by
  refine Ok.of_pwpH (bar := oneBar 13 8) (by kernel_rfl) Tryd.func15 rfl (by kernel_rfl) (by kernel_rfl) ?_
  unfold objF
  by_cases h1 : keys.length = items.length
  · rw [if_neg (by simpa using h1)]
    have hd : decide ((keys.length : Int) = (items.length : Int)) = true := decide_eq_true (by omega)
    simp (implicitDefEqProofs := false) (disch := omega) only [go_sem, simprocAttr, go_sem, Nat.le_refl, hd, Tryd.results15]
    with_reducible refine CallOk.of (contS_ok keys hf (by omega)) rfl ?_
    cases hc : keys.any (fun s => !isT s) with
    | true =>
      rw [if_pos rfl]
      simp (implicitDefEqProofs := false) (disch := omega) only [go_sem, simprocAttr, go_sem, Nat.le_refl, Tryd.results15, encV_nil, encT_nil, vZero, outH, fzHAs, fzHA, fzHL, fzH, cellsV]
    | false =>
      rw [if_neg (by decide)]
      generalize hr : objR (putAll [] [] keys items) = rr
      simp (implicitDefEqProofs := false) (disch := omega) only [go_sem, simprocAttr, go_sem, Nat.le_refl, Tryd.results15, encV_nil, encT_nil, vZero]
      refine p_loop (ι := { p : ObjI // ObjOk keys items rr p }) (fun p => objS keys items p.1) (fun p => keys.length - p.1.i)
        ⟨⟨0, [], [], none, 0, [], none, 0, [], 15, 15⟩, ⟨Nat.zero_le _, rfl, rfl, List.Pairwise.nil, hr, fun _ => rfl, fun _ => rfl, Nat.le_refl _, Nat.le_refl _, Nat.zero_le _, Nat.zero_le _, rfl, rfl, fun _ h => (by cases h), fun _ h => (by cases h), fun _ _ h => (by cases h), by decide⟩⟩ ?_ ?_
      · simp only [objS, objH, heapM_none, insArg_none, List.nil_append]
        refine ⟨?_, ?_, ?_, ?_, ?_, ?_, ?_⟩ <;> simp only [go_sem, simprocAttr, decide_eq_true_eq, Int.natCast_zero] <;> try first | omega | ((repeat' (first | exact And.intro rfl (by omega) | (refine And.intro ?_ ?_))) <;> first | rfl | omega | (congr 3; omega) | (congr 2; omega))
      · rintro ⟨p, hp⟩
        simp only [objS]
        simp (implicitDefEqProofs := false) (disch := omega) only [go_sem, simprocAttr, go_sem, Nat.le_refl, Tryd.results15, encV_nil, encT_nil, vZero]
        with_reducible refine ifK_split (fun hlt => ?_) (fun hge => ?_)
        · have hpi := hp.hi
          have hpnx := hp.nx
          have hlt' : p.i < keys.length := by omega
          simp (implicitDefEqProofs := false) (disch := omega) only [go_sem, simprocAttr, go_sem, Nat.le_refl, Tryd.results15, encV_nil, encT_nil, vZero]
          refine CallOk.ofI (OkI.frozen (st := ⟨[], _, _, _, _⟩) (bs_ok p.ks (keys.getD p.i ByteArray.empty) hp.sort (by rw [hp.lk]; omega)) ?_ rfl) rfl rfl rfl rfl ?_
          · simp only [fzHAs, fzHA_ins, hp.fzK]
            rfl
          · rintro r st1 ⟨rfl, rfl⟩
            have ek := drop_consG (d := ByteArray.empty) hlt'
            have ei := drop_consG (a := items) (d := default) (k := p.i) (by omega)
            have hres := hp.res
            rw [ek, ei, putAll] at hres
            simp (implicitDefEqProofs := false) (disch := omega) only [go_sem, simprocAttr, go_sem, Nat.le_refl, Tryd.results15, encV_nil, encT_nil, vZero]
            with_reducible refine ifK_bsplit (fun hfd => ?_) (fun hnf => ?_)
            · rw [if_pos hfd] at hres
              rw [← hres, objR]
              simp (implicitDefEqProofs := false) (disch := omega) only [go_sem, simprocAttr, go_sem, Nat.le_refl, Tryd.results15, encV_nil, encT_nil, vZero, outH, fzHAs, fzHA, fzHL, fzH, cellsV]
            · rw [if_neg (by rw [hnf]; decide)] at hres
              generalize hk : keys.getD p.i ByteArray.empty = k at *
              have hple := posT_le p.ks k
              rw [hp.lk] at hple
              simp (implicitDefEqProofs := false) (disch := omega) only [go_sem, simprocAttr, go_sem, Nat.le_refl, Tryd.results15, encV_nil, encT_nil, vZero]
              refine CallOk.ofI (OkI.insert (st := ⟨[], _, _, _, _⟩) (tk := _) (by kernel_rfl) insS_roads rfl (by intro u hu; simp [Value.cells] at hu; subst hu; rfl) (by decide) (x := [vS k]) rfl ?_ p.bK p.i p.cK (posT p.ks k) (flatT p.ks) p.rK ?_ hp.rK hple hp.cK hp.mK (by omega) (by unfold maxLen; omega) hp.nK ?_ ((12, .box 29 [vI 5, vB false, vI 0, vS ByteArray.empty, insArg p.bI p.i p.cI, insArg p.bK p.i p.cK]) :: (0, .box 29 [vI 0, vB false, vI 0, vS ByteArray.empty, vNil, vNil]) :: heapM p.bI 29 (flatV p.is ++ p.rI)) ?_) rfl rfl rfl rfl ?_
              · simp only [upd, lkp, if_true]
              · rw [flatT_len, hp.lk, Nat.mul_one]
              · intro id e
                have := hp.idK id e
                show lkp ((12, _) :: (0, _) :: objH p) id = _
                rw [lkp_cons, if_neg (by omega), lkp_cons, if_neg (by omega)]
                exact hp.hK e
              · intro j o h
                show lkp ((12, _) :: (0, _) :: objH p) j = some o ∧ _
                rw [lkp_cons, lkp_cons] at h ⊢
                split at h
                · rename_i e
                  rw [if_pos e]
                  exact ⟨h, fun e' => by have := hp.idK _ e'; omega⟩
                · rename_i e
                  rw [if_neg e]
                  split at h
                  · rename_i e0
                    rw [if_pos e0]
                    exact ⟨h, fun e' => by have := hp.idK _ e'; omega⟩
                  · rename_i e0
                    rw [if_neg e0]
                    obtain ⟨e1, rfl⟩ := heapM_lkp h
                    exact ⟨hp.hI e1, fun e' => hp.ne _ _ e' e1 rfl⟩
              · rintro r st1 ⟨cK', rK', q1, q2, q3, q4, rfl, rfl⟩
                simp (implicitDefEqProofs := false) (disch := omega) only [go_sem, simprocAttr, go_sem, Nat.le_refl, Tryd.results15, encV_nil, encT_nil, vZero]
                refine p_bar (by kernel_rfl) ?_
                have hli := hp.li
                simp (implicitDefEqProofs := false) (disch := omega) only [go_sem, simprocAttr, go_sem, Nat.le_refl, Tryd.results15, encV_nil, encT_nil, vZero]
                refine CallOk.ofI (OkI.insert (st := ⟨[], _, _, _, _⟩) (tk := _) (by kernel_rfl) insV_roads rfl (by intro u hu; simp [Value.cells] at hu; rcases hu with rfl | rfl | rfl | rfl | rfl | rfl <;> rfl) (by decide) (x := cellsV (items.getD p.i default)) rfl ?_ p.bI p.i p.cI (posT p.ks k) (flatV p.is) p.rI ?_ hp.rI hple hp.cI hp.mI (by omega) (by unfold maxLen; omega) hp.nI ?_ ((p.nx + 1 + 5 + 3 + 9 + 1 + 5, .box 9 ((flatT p.ks).take (posT p.ks k * 1) ++ [vS k] ++ (flatT p.ks).drop (posT p.ks k * 1) ++ rK')) :: (12, .box 29 [vI 5, vB false, vI 0, vS ByteArray.empty, insArg p.bI p.i p.cI, .ms (p.nx + 1 + 5 + 3 + 9 + 1 + 5) 0 (p.i + 1) cK']) :: (0, .box 29 [vI 0, vB false, vI 0, vS ByteArray.empty, vNil, vNil]) :: []) ?_) rfl rfl rfl rfl ?_
                · simp (disch := omega) only [upd, lkp, if_true, tok_T, tok_F, toks_T, toks_F]
                · rw [flatV_len, hp.li]
                · intro id e
                  have := hp.idI id e
                  show lkp ((p.nx + 1 + 5 + 3 + 9 + 1 + 5, _) :: (12, _) :: (0, _) :: heapM p.bI 29 (flatV p.is ++ p.rI)) id = _
                  rw [lkp_cons, if_neg (by omega), lkp_cons, if_neg (by omega), lkp_cons, if_neg (by omega), e, heapM_own]
                · intro j o h
                  show lkp ((p.nx + 1 + 5 + 3 + 9 + 1 + 5, _) :: (12, _) :: (0, _) :: heapM p.bI 29 (flatV p.is ++ p.rI)) j = some o ∧ _
                  rw [lkp_cons, lkp_cons, lkp_cons] at h ⊢
                  split at h
                  · rename_i e
                    rw [if_pos e]
                    exact ⟨h, fun e' => by have := hp.idI _ e'; omega⟩
                  · rename_i e
                    rw [if_neg e]
                    split at h
                    · rename_i e0
                      rw [if_pos e0]
                      exact ⟨h, fun e' => by have := hp.idI _ e'; omega⟩
                    · rename_i e0
                      rw [if_neg e0]
                      split at h
                      · rename_i e1
                        rw [if_pos e1]
                        exact ⟨h, fun e' => by have := hp.idI _ e'; omega⟩
                      · cases h
                · rintro r st1 ⟨cI', rI', w1, w2, w3, w4, rfl, rfl⟩
                  simp (implicitDefEqProofs := false) (disch := omega) only [go_sem, simprocAttr, go_sem, Nat.le_refl, Tryd.results15, encV_nil, encT_nil, vZero]
                  refine ⟨⟨⟨p.i + 1, insAt p.ks (posT p.ks k) k, insAt p.is (posT p.ks k) (items.getD p.i default), some (p.nx + 1 + 5 + 3 + 9 + 1 + 5), cK', rK', some (p.nx + 1 + 5 + 3 + 9 + 1 + 5 + 1 + 8 + 8 + 0), cI', rI', p.nx + 1 + 5 + 3 + 9 + 1 + 5 + 1 + 8 + 8 + 0 + 1 + 1 + 11 + 2, p.nt + 1 + 5 + 3 + 9 + 1 + 5 + 8 + 8 + 0 + 1 + 11 + 2⟩, ?_⟩, by simp only; omega, ?_⟩
                  rotate_left
                  · simp only [objS, objH, heapM_some, insArg_some, List.cons_append, List.nil_append]
                    have eT : (flatT p.ks).take (posT p.ks k * 1) ++ [vS k] ++ (flatT p.ks).drop (posT p.ks k * 1) = flatT (insAt p.ks (posT p.ks k) k) := by
                      rw [Nat.mul_one, flatT_take, flatT_drop]; simp [insAt, flatT]
                    have eV : (flatV p.is).take (posT p.ks k * 6) ++ cellsV (items.getD p.i default) ++ (flatV p.is).drop (posT p.ks k * 6) = flatV (insAt p.is (posT p.ks k) (items.getD p.i default)) := by
                      rw [flatV_take, flatV_drop]
                      unfold insAt
                      rw [flatV_app, flatV_app]
                      rfl
                    rw [eT, eV]
                    refine ⟨?_, by simp (disch := omega) only [tok_T, tok_F, toks_T, toks_F, ob_T, ob_F, obs_T, obs_F, Bool.true_and, Bool.and_eq_true, go_sem, simprocAttr, decide_eq_true_eq, Int.natCast_add, Int.natCast_one, ltL_app, ltL_flatT, ltL_flatV, q4, w4] <;> try first | omega | ((repeat' (first | exact And.intro rfl (by omega) | (refine And.intro ?_ ?_))) <;> first | rfl | omega | (congr 3; omega) | (congr 2; omega)), ?_, ?_, ?_, ?_, ?_⟩ <;> simp only [go_sem, simprocAttr, decide_eq_true_eq, Int.natCast_add, Int.natCast_one, ltL_app, ltL_flatT, ltL_flatV, q4, w4] <;> try first | omega | ((repeat' (first | exact And.intro rfl (by omega) | (refine And.intro ?_ ?_))) <;> first | rfl | omega | (congr 3; omega) | (congr 2; omega))
                  · have hli2 : (insAt p.is (posT p.ks k) (items.getD p.i default)).length = p.i + 1 := by rw [insAt_len (by omega), hp.li]
                    refine ⟨by simp only; omega, by simp only; rw [insAt_len (by rw [hp.lk]; exact hple), hp.lk], hli2, ?_, hres, fun h => (by cases h), fun h => (by cases h), q1, w1, q2, w2, q3, w3, fun id h => ?_, fun id h => ?_, fun j l h1 h2 => ?_, by simp only; omega⟩
                    · exact ins_sort hp.sort hnf
                    · obtain rfl := Option.some.inj h
                      exact ⟨by omega, by simp only; omega⟩
                    · obtain rfl := Option.some.inj h
                      exact ⟨by omega, by simp only; omega⟩
                    · obtain rfl := Option.some.inj h1
                      obtain rfl := Option.some.inj h2
                      omega
        · have hpi := hp.hi
          have hie : p.i = keys.length := by omega
          have hres := hp.res
          rw [List.drop_eq_nil_of_le (by omega), putAll.eq_2 _ _ _ _ (fun _ _ _ _ h => by cases h), objR] at hres
          rw [← hres]
          simp (implicitDefEqProofs := false) (disch := omega) only [go_sem, simprocAttr, go_sem, Nat.le_refl, Tryd.results15, encV_nil, encT_nil, outH, fzHAs, fzHA, fzHL, fzH_val, hp.fzK, hp.fzI, cellsV]
  · rw [if_pos (by simpa using h1)]
    have hd : decide ((keys.length : Int) = (items.length : Int)) = false := decide_eq_false (by omega)
    simp (implicitDefEqProofs := false) (disch := omega) only [go_sem, simprocAttr, go_sem, Nat.le_refl, hd, Tryd.results15]
    simp (implicitDefEqProofs := false) (disch := omega) only [go_sem, simprocAttr, go_sem, Nat.le_refl, Tryd.results15, encV_nil, encT_nil, vZero, outH, fzHAs, fzHA, fzHL, fzH, cellsV]
end Go.Proofs.YtmfaejdnaippkaaDoor

end
section
/-
  Sizes and depths of values; the item of a key; the simple makers.
-/
open Go Go.Proofs Go.Pw Go.RowKit
namespace Go.Proofs.YtmfaejdnaippkaaDoor
set_option maxRecDepth 4000
set_option linter.unusedVariables false
set_option linter.unusedSimpArgs false
mutual
def nV : V → Nat
  | .mk _ _ _ _ is _ => 1 + nVs is
def nVs : List V → Nat
  | [] => 0
  | v :: r => nV v + nVs r
end
theorem nV_eq (v : V) : nV v = 1 + nVs v.items := by cases v; simp [nV, V.items]
theorem nVs_nil : nVs [] = 0 := by simp [nVs]
theorem nVs_cons (v : V) (l : List V) : nVs (v :: l) = nV v + nVs l := by simp [nVs]
theorem nVs_app : ∀ (l m : List V), nVs (l ++ m) = nVs l + nVs m
  | [], m => by rw [nVs_nil, List.nil_append, Nat.zero_add]
  | v :: r, m => by rw [List.cons_append, nVs_cons, nVs_cons, nVs_app r m]; omega
theorem nV_le : ∀ v, nV v ≤ szV v := by
  refine V.ind fun v ih => ?_
  rw [nV_eq, szV_eq]
  have : ∀ l : List V, (∀ x ∈ l, nV x ≤ szV x) → nVs l ≤ szVs l := by
    intro l
    induction l with
    | nil => intro _; rw [nVs_nil]; omega
    | cons x r ihr =>
      intro h
      have h1 := h x (by simp)
      have h2 := ihr (fun y hy => h y (by simp [hy]))
      rw [nVs_cons, szVs_cons]; omega
  have := this v.items ih
  omega
theorem nVs_le (l : List V) : nVs l ≤ szVs l := by
  induction l with
  | nil => rw [nVs_nil]; omega
  | cons x r ih => have := nV_le x; rw [nVs_cons, szVs_cons]; omega
theorem szVs_take : ∀ (l : List V) (i : Nat), szVs (l.take i) ≤ szVs l
  | [], i => by simp
  | x :: r, 0 => by simp [szVs_nil]
  | x :: r, i + 1 => by have := szVs_take r i; rw [List.take_succ_cons, szVs_cons, szVs_cons]; omega
theorem getD_mem {α : Type} {l : List α} {i : Nat} {d : α} (h : i < l.length) : l.getD i d ∈ l := by
  rw [List.getD_eq_getElem?_getD, List.getElem?_eq_getElem h]; exact List.getElem_mem h
theorem V.small {v : V} {B : Nat} (h : szV v ≤ B) : v.items.length ≤ B ∧ v.keys.length ≤ B ∧ (∀ x ∈ v.items, szV x ≤ B) ∧ szVs v.items ≤ B := by
  have h1 := szVs_len v.items
  have h2 := szV_eq v
  have h3 := szT_len v.keys
  exact ⟨by omega, by omega, fun x hx => by have := szVs_mem hx; omega, by omega⟩
theorem V.few {v : V} {B : Nat} (h : szV v ≤ B) : v.s.size ≤ B ∧ ∀ s ∈ v.keys, s.size ≤ B := by
  have h2 := szV_eq v
  exact ⟨by omega, fun s hs => by have := szT_few s hs; omega⟩
theorem num_ok (n : Int) : Ok Tryd.prog 17 [vI n] (.agg (cellsV (.mk 2 false n ByteArray.empty [] []))) := by
  refine Ok.of_pwp (by kernel_rfl) Tryd.func17 rfl (by kernel_rfl) (by kernel_rfl) ?_
  simp (implicitDefEqProofs := false) (disch := omega) only [go_sem, simprocAttr, go_sem, Nat.le_refl, cellsV, encV_nil, encT_nil, Tryd.results17]
set_option maxHeartbeats 4000000 in
theorem rsize_ok : ∀ v, szV v ≤ 1000000 → Ok Tryd.prog 24 [.agg (cellsV v)] (vI (nV v)) := by
  refine V.ind fun v ih hv => ?_
  obtain ⟨hl, _, hx, hs⟩ := V.small hv
  have hit : ∀ i, i < v.items.length → Ok Tryd.prog 24 [.agg (cellsV (v.items.getD i default))] (vI (nV (v.items.getD i default))) := fun i hi => ih _ (getD_mem hi) (hx _ (getD_mem hi))
  refine Ok.of_pwp (by kernel_rfl) Tryd.func24 rfl (by kernel_rfl) (by kernel_rfl) ?_
  generalize hr : vI (nV v) = rr
  simp (implicitDefEqProofs := false) (disch := omega) only [go_sem, simprocAttr, go_sem, Nat.le_refl, cellsV, Tryd.results24]
  refine p_loop (ι := { i : Nat // i ≤ v.items.length }) (fun p => ⟨[(8, vI p.1), (7, vI v.items.length), (3, vI (1 + nVs (v.items.take p.1) : Nat)), (1, .ptr 0 0)], [(0, .box 35 (cellsV v))], [], 1, 0⟩) (fun p => v.items.length - p.1) ⟨0, Nat.zero_le _⟩ ?_ ?_
  · refine ⟨?_, ?_, ?_, ?_, ?_, ?_, ?_⟩ <;> simp only [go_sem, simprocAttr, decide_eq_true_eq, Int.natCast_zero, List.take_zero, nVs_nil] <;> try first | omega | ((repeat' (first | exact And.intro rfl (by omega) | (refine And.intro ?_ ?_))) <;> first | rfl | omega | (congr 3; omega) | (congr 2; omega))
  · rintro ⟨i, h1⟩
    simp only
    simp (implicitDefEqProofs := false) (disch := omega) only [go_sem, simprocAttr, go_sem, Nat.le_refl, cellsV, Tryd.results24]
    with_reducible refine ifK_split (fun hlt => ?_) (fun hge => ?_)
    · have hi : i < v.items.length := by omega
      have e1 := take_snocG (a := v.items) (d := default) hi
      have e2 := nVs_app (v.items.take i) [v.items.getD i default]
      rw [← e1, nVs_cons, nVs_nil] at e2
      have e3 := nVs_le (v.items.take (i + 1))
      have e4 := szVs_take v.items (i + 1)
      have e5 : IntKind.wrap .i64 (((1 + nVs (v.items.take i) : Nat) : Int) + (nV (v.items.getD i default) : Int)) = ((1 + nVs (v.items.take (i + 1)) : Nat) : Int) := by rw [IntKind.wrap_i64]; omega
      simp (implicitDefEqProofs := false) (disch := omega) only [go_sem, simprocAttr, go_sem, Nat.le_refl, cellsV, Tryd.results24]
      with_reducible refine CallOk.of (hit i hi) rfl ?_
      simp (implicitDefEqProofs := false) (disch := omega) only [go_sem, simprocAttr, go_sem, Nat.le_refl, cellsV, e5, Tryd.results24]
      refine ⟨⟨i + 1, hi⟩, by simp only; omega, ?_⟩
      refine ⟨?_, ?_, ?_, ?_, ?_, ?_, ?_⟩ <;> simp only [go_sem, simprocAttr, decide_eq_true_eq, Int.natCast_add, Int.natCast_one] <;> try first | omega | ((repeat' (first | exact And.intro rfl (by omega) | (refine And.intro ?_ ?_))) <;> first | rfl | omega | (congr 3; omega) | (congr 2; omega))
    · have e1 : v.items.take i = v.items := List.take_of_length_le (by omega)
      rw [← hr, nV_eq, e1]
      simp (implicitDefEqProofs := false) (disch := omega) only [go_sem, simprocAttr, go_sem, Nat.le_refl, cellsV, Tryd.results24]
end Go.Proofs.YtmfaejdnaippkaaDoor

end
