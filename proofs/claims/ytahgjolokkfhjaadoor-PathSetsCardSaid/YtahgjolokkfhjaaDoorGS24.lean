/-
  Contracts and plain laws on the way to the statement; each says its own conditions.
-/
import Derived.Test.YtahgjolokkfhjaaDoorGS20
import Derived.Test.YtahgjolokkfhjaaDoorGS22
section
/-
  Steps that are shown for themselves: what is appended to a slice of ours that is written into, too.
-/
namespace Go.Pw
open Go Go.RowKit
set_option linter.unusedVariables false
set_option linter.unusedSimpArgs false
section
variable {P : Program} {own : Nat → Prop} {S0 : Base} {w0 w : World} {C : Cx} {U V : Nat → Prop} {st : PS}
theorem flatP_get {sz : Nat} (h0 : 0 < sz) : ∀ {xs : List (List PV)}, (∀ x ∈ xs, x.length = sz) → ∀ k, xs.flatten[k]? = (xs[k / sz]?).bind (·[k % sz]?)
  | [], _, k => by simp
  | x :: r, h, k => by
    have hx := h x (by simp)
    rw [List.flatten_cons]
    by_cases hk : k < sz
    · rw [List.getElem?_append_left (by omega), Nat.div_eq_of_lt hk, Nat.mod_eq_of_lt hk]; rfl
    · rw [List.getElem?_append_right (by omega), flatP_get h0 (fun y hy => h y (by simp [hy])) (k - x.length), hx]
      have h1 : k / sz = (k - sz) / sz + 1 := by rw [← Nat.sub_add_cancel (show sz ≤ k by omega)]; simp [Nat.add_div_right _ h0]
      have h2 : k % sz = (k - sz) % sz := by rw [Nat.mod_eq_sub_mod (by omega)]
      rw [h1, h2, List.getElem?_cons_succ]
theorem flatP_len {sz : Nat} : ∀ {xs : List (List PV)}, (∀ x ∈ xs, x.length = sz) → xs.flatten.length = xs.length * sz
  | [], _ => by simp
  | x :: r, h => by rw [List.flatten_cons, List.length_append, h x (by simp), flatP_len (fun y hy => h y (by simp [hy])), List.length_cons, Nat.succ_mul]; omega
/-- An object is forgotten. -/
theorem Rel.drop1 (R : Rel own S0 w0 C U V st w) (l : List Nat) : Rel own S0 w0 C U V { st with heap := dropH l st.heap } w := by
  have hd : ∀ j o, lkp (dropH l st.heap) j = some o → lkp st.heap j = some o := fun j o h => by
    rw [dropH_lkp] at h
    split at h
    · cases h
    · exact h
  exact ⟨R.frame, R.stable, fun i T cs h => R.box i T cs (hd _ _ h), fun i s pos h => R.iter i s pos (hd _ _ h), fun i o h => R.hown i o (hd _ _ h), fun i j oi oj h1 h2 => R.hinj i j oi oj (hd _ _ h1) (hd _ _ h2), R.tok, fun i oi k t h1 h2 => R.tbox i oi k t (hd _ _ h1) h2, R.tinj, R.snew, R.sold, R.base, R.glob⟩
/-- An object under another number. -/
theorem Rel.moveObj (R : Rel own S0 w0 C U V st w) {id nid : Nat} {ob : PObj} (ho : lkp st.heap id = some ob) (hid : ¬ U nid) {U' : Nat → Prop} (hU : ∀ i, U i → U' i) (hU' : U' nid) (nx' : Nat) :
    Rel own S0 w0 (C.at nid (C.ρ id)) U' V { st with heap := (nid, ob) :: dropH [id] st.heap, nx := nx' } w := by
  have E := R.ext_at (C.ρ id) nid hid hU
  have hne : ∀ j o, lkp st.heap j = some o → j ≠ nid := fun j o h e => hid (e ▸ (R.hown j o h).1)
  have hρ : ∀ j o, lkp st.heap j = some o → (C.at nid (C.ρ id)).ρ j = C.ρ j := fun j o h => by simp [Cx.at, hne j o h]
  have hnew : (C.at nid (C.ρ id)).ρ nid = C.ρ id := by simp [Cx.at]
  have hd : ∀ j o, lkp ((nid, ob) :: dropH [id] st.heap) j = some o → (j = nid ∧ o = ob) ∨ (j ≠ nid ∧ j ≠ id ∧ lkp st.heap j = some o) := fun j o h => by
    rw [lkp_cons] at h
    split at h
    · exact .inl ⟨by assumption, (Option.some.inj h).symm⟩
    · rename_i hn
      rw [dropH_lkp] at h
      split at h
      · cases h
      · rename_i hm; exact .inr ⟨hn, by simpa using hm, h⟩
  refine ⟨R.frame, R.stable, ?_, ?_, ?_, ?_, ?_, ?_, R.tinj, R.snew, R.sold, R.base.trans E, R.glob⟩
  · intro j T cs h
    rcases hd j _ h with ⟨rfl, rfl⟩ | ⟨h1, h2, h3⟩
    · obtain ⟨us, g1, g2, g3⟩ := R.box id T cs ho
      exact ⟨us, by rw [hnew]; exact g1, g2, fun i v p hv hp => ⟨(g3 i v p hv hp).1, (g3 i v p hv hp).2.ext E⟩⟩
    · obtain ⟨us, g1, g2, g3⟩ := R.box j T cs h3
      exact ⟨us, by rw [hρ j _ h3]; exact g1, g2, fun i v p hv hp => ⟨(g3 i v p hv hp).1, (g3 i v p hv hp).2.ext E⟩⟩
  · intro j s pos h
    rcases hd j _ h with ⟨rfl, rfl⟩ | ⟨h1, h2, h3⟩
    · rw [hnew]; exact R.iter id s pos ho
    · rw [hρ j _ h3]; exact R.iter j s pos h3
  · intro j o h
    rcases hd j _ h with ⟨rfl, rfl⟩ | ⟨h1, h2, h3⟩
    · rw [hnew]; exact ⟨hU', (R.hown id _ ho).2⟩
    · rw [hρ j _ h3]; exact ⟨hU _ (R.hown j _ h3).1, (R.hown j _ h3).2⟩
  · intro i j oi oj h1 h2 he
    rcases hd i _ h1 with ⟨rfl, rfl⟩ | ⟨a1, a2, a3⟩ <;> rcases hd j _ h2 with ⟨rfl, rfl⟩ | ⟨b1, b2, b3⟩
    · rfl
    · rw [hnew, hρ j _ b3] at he
      exact absurd (R.hinj _ _ _ _ ho b3 he).symm b2
    · rw [hnew, hρ i _ a3] at he
      exact absurd (R.hinj _ _ _ _ a3 ho he) a2
    · rw [hρ i _ a3, hρ j _ b3] at he
      exact R.hinj _ _ _ _ a3 b3 he
  · intro k t h
    exact R.tok k t h
  · intro i oi k t h1 h2
    rcases hd i _ h1 with ⟨rfl, rfl⟩ | ⟨a1, a2, a3⟩
    · rw [hnew]; exact R.tbox _ _ _ _ ho h2
    · rw [hρ i _ a3]; exact R.tbox _ _ _ _ a3 h2
theorem ltL_drop' {a b : Nat} : ∀ {n : Nat} {l : List PV}, PV.ltL a b l = true → PV.ltL a b (l.drop n) = true
  | 0, l, h => h
  | n + 1, [], _ => rfl
  | n + 1, p :: r, h => by
    simp only [PV.ltL, Bool.and_eq_true, List.drop_succ_cons] at h ⊢
    exact ltL_drop' h.2
theorem ltL_vals (a b : Nat) : ∀ (l : List Value), PV.ltL a b (l.map .val) = true
  | [] => rfl
  | v :: r => by simp only [List.map_cons, PV.ltL, PV.lt, Bool.true_and]; exact ltL_vals a b r
/-- Zeros behind a row. -/
theorem zeros_rep {T : List (Nat × Tok)} {z : Value} {sz n : Nat} (hzs : z.cells.size = sz) (h0 : 0 < sz) (hz1 : ∀ u ∈ z.cells.toList, u.oneCell' = true) : RepL C T U V (Builtin.zeroCells z.cells n).toList ((Builtin.zeroCells z.cells n).toList.map .val) := by
  refine ⟨by simp, fun i v p hv hp => ?_⟩
  rw [List.getElem?_map, hv] at hp
  obtain rfl := Option.some.inj hp
  have h : (Builtin.zeroCells z.cells n)[i]? = some v := by simpa using hv
  have h1 : v.oneCell' = true := by
    unfold Builtin.zeroCells at h
    rw [Array.getElem?_map] at h
    obtain ⟨q, hq1, hq2⟩ := Option.map_eq_some_iff.1 h
    subst hq2
    have hlt : q % z.cells.size < z.cells.size := Nat.mod_lt _ (by omega)
    rw [getElem!_pos z.cells _ hlt]
    exact hz1 _ (by simp)
  exact ⟨h1, .frz (.val h1)⟩
theorem news_rep {T : List (Nat × Tok)} {sz : Nat} {ys : List (List PV)} {news : List Value} (h0 : 0 < sz) (hyl : ∀ y ∈ ys, y.length = sz) (hnl : news.length = ys.length * sz) (hn1 : ∀ u ∈ news, u.oneCell' = true)
    (hnr : ∀ (j i : Nat) (x : List PV) (p : PV), ys[j]? = some x → x[i]? = some p → ∃ u, news[j * sz + i]? = some u ∧ RepF C.S u p) : RepL C T U V news ys.flatten := by
  refine ⟨by rw [hnl, flatP_len hyl], fun k v p hv hp => ⟨hn1 v (List.mem_of_getElem? hv), ?_⟩⟩
  rw [flatP_get h0 hyl] at hp
  cases hx : ys[k / sz]? with
  | none => rw [hx] at hp; cases hp
  | some x =>
    rw [hx] at hp
    obtain ⟨u, g1, g2⟩ := hnr _ _ x p hx hp
    have : k / sz * sz + k % sz = k := by rw [Nat.mul_comm]; exact Nat.div_add_mod k sz
    rw [this, hv] at g1
    obtain rfl := Option.some.inj g1
    exact .frz g2
/-- ████ Appended to what is ours and written into. -/
theorem sem_append {d : Tmp} {ty t e : TypeId} {pos : String} {af : Array Edge} {x y : Operand} {sz by_ : Nat} {z : Value} (hu : P.underlying t = some (.slice e)) (hs : sizeOf? P e = some sz) (hb : bytesOf? P e = some by_) (hz : zeroOf? P e = some z) (hzs : z.cells.size = sz) (h0 : 0 < sz) (hz1 : ∀ u ∈ z.cells.toList, u.oneCell' = true)
    {id n cap : Nat} {cs : List PV} {sv : PV} {ys0 ys : List (List PV)} {K : PS → Prop} (hx : st.ev x = some (.ms id 0 n cap)) (hbx : lkp st.heap id = some (.box e cs)) (hcl : cs.length = cap * sz) (hnc : n ≤ cap) (hcm : cap ≤ maxLen) (hsp : PV.ltL 0 0 (cs.drop (n * sz)) = true)
    (hy : st.ev y = some sv) (hys0 : srcXs st sz sv = some ys0) (hys : fzLL ys0 = some ys) (hyl : ∀ y ∈ ys, y.length = sz) (hne : ys ≠ []) (hb1 : (n + ys.length) * by_ ≤ 140737488355328) (hb2 : n + ys.length ≤ 9223372036854775807)
    (hk : ∀ cap' rest', n + ys.length ≤ cap' → cap' ≤ maxLen → rest'.length = (cap' - (n + ys.length)) * sz → PV.ltL 0 0 rest' = true → K ⟨(d, .ms st.nx 0 (n + ys.length) cap') :: st.env, (st.nx, .box e (cs.take (n * sz) ++ ys.flatten ++ rest')) :: dropH [id] st.heap, st.toks, st.nx + 1, st.nt⟩) :
    SemStep P ⟨some d, .call ⟨.builtin .append, #[x, y], #[t, t]⟩, ty, pos, af, none⟩ st K := by
  refine ⟨rfl, fun own S0 w0 N a w X hf ⟨hd, hsz, C, R, E⟩ => ?_⟩
  obtain ⟨i, hi, hi1, hi2, hi3⟩ := info_of hs hb hz
  obtain ⟨ev, hU, _⟩ := rep_ms (ev_rep E hx)
  obtain ⟨ad, cy, ey, news, hnl, hncell, hn1, hnr⟩ := src_sound E R hy hys0 hys hyl h0 hne
  have hpos : 0 < ys.length := List.length_pos_iff.2 hne
  obtain ⟨vs, hvs, hvsz, hvr⟩ := R.box id e cs hbx
  have hrun : ∀ v w', (Builtin.append_ #[t, t] ty #[a.eval x, a.eval y]).run P w = .ok v w' → (execOp a.eval ⟨some d, .call ⟨.builtin .append, #[x, y], #[t, t]⟩, ty, pos, af, none⟩).run P w = .ok (.value v) w' := by
    intro v w' hv
    simp [execOp, resolve, invoke, builtin, hv]
  have hnew : ¬ (· < st.nx) st.nx := Nat.lt_irrefl _
  have hold : RepL C st.toks (· < st.nx) (· < st.nt) (vs.toList.take (n * sz)) (cs.take (n * sz)) := RepL.take ⟨by simpa using hvsz, fun i v p hv hp => hvr i v p (by simpa using hv) hp⟩ _
  have hfr := flatP_len hyl
  have hle : n * sz + ys.length * sz ≤ (n + ys.length) * sz := by rw [Nat.add_mul]; exact Nat.le_refl _
  have hncs : n * sz ≤ cs.length := by rw [hcl]; exact Nat.mul_le_mul_right _ hnc
  unfold Oper.wp
  by_cases hroom : n + ys.length ≤ cap
  · have hfit : n * i.size + news.length ≤ vs.size := by rw [hnl, hvsz, hcl, hi1, ← Nat.add_mul]; exact Nat.mul_le_mul_right _ hroom
    have hrun1 := run_append_room (P := P) w t ty e i hu hi (C.ρ id) n cap vs hvs ad _ cy news (by rw [hi1]; exact hnl) hncell hn1 hroom hfit
    rw [hi1] at hrun1
    rw [hrun _ _ (by rw [ev, ey]; exact hrun1), Oper.upon_value]
    have hL : RepL C st.toks (· < st.nx) (· < st.nt) ((vs.toList.take (n * sz) ++ news ++ vs.toList.drop (n * sz + news.length)).toArray).toList (cs.take (n * sz) ++ ys.flatten ++ cs.drop ((n + ys.length) * sz)) := by
      rw [List.toList_toArray, hnl, ← Nat.add_mul]
      exact (hold.app (news_rep h0 hyl hnl hn1 hnr)).app (RepL.drop ⟨by simpa using hvsz, fun i v p hv hp => hvr i v p (by simpa using hv) hp⟩ _)
    have R1 := R.store hbx hL
    have R2 := R1.moveObj (id := id) (nid := st.nx) (ob := .box e (cs.take (n * sz) ++ ys.flatten ++ cs.drop ((n + ys.length) * sz))) (by rw [lkp_upd, if_pos rfl]) hnew (U' := (· < st.nx + 1)) (fun j hj => Nat.lt_succ_of_lt hj) (Nat.lt_succ_self _) (st.nx + 1)
    have R3 : Rel own S0 w0 (C.at st.nx (C.ρ id)) (· < st.nx + 1) (· < st.nt) ⟨st.env, (st.nx, .box e (cs.take (n * sz) ++ ys.flatten ++ cs.drop ((n + ys.length) * sz))) :: dropH [id] st.heap, st.toks, st.nx + 1, st.nt⟩ (w.setRow (C.ρ id) (vs.toList.take (n * sz) ++ news ++ vs.toList.drop (n * sz + news.length)).toArray) := by
      have hq : ∀ j, lkp ((st.nx, PObj.box e (cs.take (n * sz) ++ ys.flatten ++ cs.drop ((n + ys.length) * sz))) :: dropH [id] st.heap) j = lkp ((st.nx, PObj.box e (cs.take (n * sz) ++ ys.flatten ++ cs.drop ((n + ys.length) * sz))) :: dropH [id] (upd st.heap id (.box e (cs.take (n * sz) ++ ys.flatten ++ cs.drop ((n + ys.length) * sz))))) j := fun j => by
        simp only [lkp_cons, dropH_lkp, lkp_upd]
        split
        · rfl
        · by_cases hj : j ∈ [id]
          · rw [if_pos hj, if_pos hj]
          · rw [if_neg hj, if_neg hj, if_neg (by simpa using hj)]
      exact ⟨R2.frame, R2.stable, fun j T cs h => R2.box j T cs (by rw [← h]; exact (hq j).symm), fun j s pos h => R2.iter j s pos (by rw [← h]; exact (hq j).symm), fun j o h => R2.hown j o (by rw [← h]; exact (hq j).symm), fun i j oi oj h1 h2 => R2.hinj i j oi oj (by rw [← h1]; exact (hq i).symm) (by rw [← h2]; exact (hq j).symm), R2.tok, fun i oi k t h1 h2 => R2.tbox i oi k t (by rw [← h1]; exact (hq i).symm) h2, R2.tinj, R2.snew, R2.sold, R2.base, R2.glob⟩
    have X' := R.ext_at (C.ρ id) st.nx hnew (U' := (· < st.nx + 1)) (fun j hj => Nat.lt_succ_of_lt hj)
    refine ⟨_, hk cap (cs.drop ((n + ys.length) * sz)) hroom hcm (by rw [List.length_drop, hcl, ← Nat.sub_mul]) (by
      have : cs.drop ((n + ys.length) * sz) = (cs.drop (n * sz)).drop (ys.length * sz) := by rw [List.drop_drop, Nat.add_mul]
      rw [this]; exact ltL_drop' hsp), ?_⟩
    refine StN.of_put (d := some d) (st' := ⟨st.env, (st.nx, .box e (cs.take (n * sz) ++ ys.flatten ++ cs.drop ((n + ys.length) * sz))) :: dropH [id] st.heap, st.toks, st.nx + 1, st.nt⟩) hd hsz hf R3 (fun tt q hq => ?_) ?_
    · obtain ⟨v, h1, h2⟩ := E tt q hq
      exact ⟨v, h1, h2.ext X'⟩
    · have this : (C.at st.nx (C.ρ id)).ρ st.nx = C.ρ id := by simp [Cx.at]
      have h := RepV.ms (C := C.at st.nx (C.ρ id)) (T := st.toks) (U := (· < st.nx + 1)) (V := (· < st.nt)) (id := st.nx) (lo := 0) (Nat.lt_succ_self _) hroom
      rw [this] at h
      exact h
  · have holdc : ∀ j v, (vs.toList.take (n * sz))[j]? = some v → w.cell? ((⟨C.ρ id, 0, none⟩ : Addr).add j) = some v := by
      intro j v hj
      rw [Addr.add_lit, Nat.zero_add, cell_of_row w _ _ vs e (0, 0) hvs]
      rw [List.getElem?_take] at hj
      split at hj
      · simpa using hj
      · cases hj
    have hol : (vs.toList.take (n * sz)).length = n * sz := by rw [List.length_take]; simp only [Array.length_toList]; omega
    have hrun1 := run_append_grow (P := P) w t ty e i z hu hi hi3 ⟨C.ρ id, 0, none⟩ n cap (vs.toList.take (n * sz)) (by rw [hi1]; exact hol) holdc ad _ cy news (by rw [hi1]; exact hnl) hncell (by omega) (by omega) (growslice_fits (by omega) (by rw [hi2]; exact hb1))
    have hcapge : n + ys.length ≤ grownCap w (n + ys.length) cap e := grownCap_ge w _ cap e
    have hcapm : grownCap w (n + ys.length) cap e ≤ maxLen := grownCap_le_maxLen w _ cap e (by simpa [maxLen] using hb2)
    rw [hrun _ _ (by rw [ev, ey]; exact hrun1), Oper.upon_value]
    generalize grownCap w (n + ys.length) cap e = cap' at *
    have hL : RepL C st.toks (· < st.nx) (· < st.nt) ((vs.toList.take (n * sz)).toArray ++ news.toArray ++ Builtin.zeroCells z.cells (cap' - (n + ys.length))).toList (cs.take (n * sz) ++ ys.flatten ++ (Builtin.zeroCells z.cells (cap' - (n + ys.length))).toList.map .val) := by
      simp only [Array.toList_append, List.toList_toArray]
      exact (hold.app (news_rep h0 hyl hnl hn1 hnr)).app (zeros_rep hzs h0 hz1)
    have R1 := (R.drew.newObj (w := w.drew) st.nx hnew (U' := (· < st.nx + 1)) (fun j hj => Nat.lt_succ_of_lt hj) (Nat.lt_succ_self _) (.box e (cs.take (n * sz) ++ ys.flatten ++ (Builtin.zeroCells z.cells (cap' - (n + ys.length))).toList.map .val)) _ (fun T ds h => by
      obtain ⟨rfl, rfl⟩ := PObj.box.inj h
      exact ⟨_, rfl, hL⟩) (fun s pos h => by cases h) (st.nx + 1) st.nt).drop1 [id]
    have hne : ¬ inL st.nx [id] = true := by rw [inL_iff]; simp only [List.mem_singleton]; have : id < st.nx := hU; omega
    simp only [dropH, if_neg hne] at R1
    have X' := R.drew.ext_at w.drew.heap.size st.nx hnew (U' := (· < st.nx + 1)) (fun j hj => Nat.lt_succ_of_lt hj)
    refine ⟨_, hk cap' ((Builtin.zeroCells z.cells (cap' - (n + ys.length))).toList.map .val) hcapge hcapm (by simp [Builtin.zeroCells, hzs]) (ltL_vals 0 0 _), ?_⟩
    refine StN.of_put (d := some d) (st' := ⟨st.env, (st.nx, .box e (cs.take (n * sz) ++ ys.flatten ++ (Builtin.zeroCells z.cells (cap' - (n + ys.length))).toList.map .val)) :: dropH [id] st.heap, st.toks, st.nx + 1, st.nt⟩) hd hsz hf R1 (fun tt q hq => ?_) ?_
    · obtain ⟨v, h1, h2⟩ := E tt q hq
      exact ⟨v, h1, h2.ext X'⟩
    · have this : (C.at st.nx w.drew.heap.size).ρ st.nx = w.heap.size := by simp [Cx.at]
      have h := RepV.ms (C := C.at st.nx w.drew.heap.size) (T := st.toks) (U := (· < st.nx + 1)) (V := (· < st.nt)) (id := st.nx) (lo := 0) (Nat.lt_succ_self _) hcapge
      rw [this] at h
      exact h
/-- ████ An empty slice, to be appended to and written into. -/
theorem sem_build0 {d : Tmp} {ty t e : TypeId} {pos : String} {af : Array Edge} {sz : Nat} {K : PS → Prop} (hu : P.underlying t = some (.slice e)) (hs : sizeOf? P e = some sz)
    (hk : K ⟨(d, .ms st.nx 0 0 0) :: st.env, (st.nx, .box e []) :: st.heap, st.toks, st.nx + 1, st.nt⟩) : SemStep P ⟨some d, .buildSlice t 0 #[], ty, pos, af, none⟩ st K := by
  refine ⟨rfl, fun own S0 w0 N a w X hf ⟨hd, hsz, C, R, E⟩ => ?_⟩
  have hnew : ¬ (· < st.nx) st.nx := Nat.lt_irrefl _
  have hrun : (execOp a.eval ⟨some d, .buildSlice t 0 #[], ty, pos, af, none⟩).run P w = .ok (.value (.slice (some ⟨w.heap.size, 0, none⟩) 0 0)) (w.alloc (.cells #[] e)) := by
    have hr : Array.range 0 = #[] := by simp [Array.range]
    simp [execOp, Instr.buildSlice, Instr.fill, hr, run_underlying hu, run_sizeOf? hs, newRow, run_newObj]
  unfold Oper.wp
  rw [hrun, Oper.upon_value]
  have R1 := R.newObj (w := w) st.nx hnew (U' := (· < st.nx + 1)) (fun j hj => Nat.lt_succ_of_lt hj) (Nat.lt_succ_self _) (.box e []) (.cells #[] e) (fun T ds h => by
    obtain ⟨rfl, rfl⟩ := PObj.box.inj h
    exact ⟨_, rfl, RepL.nil⟩) (fun s pos h => by cases h) (st.nx + 1) st.nt
  have X' := R.ext_at w.heap.size st.nx hnew (U' := (· < st.nx + 1)) (fun j hj => Nat.lt_succ_of_lt hj)
  refine ⟨_, hk, ?_⟩
  refine StN.of_put (d := some d) (st' := ⟨st.env, (st.nx, .box e []) :: st.heap, st.toks, st.nx + 1, st.nt⟩) hd hsz hf R1 (fun tt q hq => ?_) ?_
  · obtain ⟨v, h1, h2⟩ := E tt q hq
    exact ⟨v, h1, h2.ext X'⟩
  · have this : (C.at st.nx w.heap.size).ρ st.nx = w.heap.size := by simp [Cx.at]
    have h := RepV.ms (C := C.at st.nx w.heap.size) (T := st.toks) (U := (· < st.nx + 1)) (V := (· < st.nt)) (id := st.nx) (lo := 0) (Nat.lt_succ_self _) (Nat.le_refl 0)
    rw [this] at h
    exact h
end
end Go.Pw

end
section
/-
  Chapter 4: what is set at a path: the document's.
-/
open Go Go.Proofs Go.Pw Go.RowKit
namespace Go.Proofs.YtahgjolokkfhjaaDoor
set_option maxRecDepth 4000
set_option linter.unusedVariables false
set_option linter.unusedSimpArgs false
theorem fz_one {T : TypeId} (hT : sizeOf? Tryd.prog T = some 6) {H : List (Nat × PObj)} {id cap : Nat} {l : List V} {r : List PV} (h : lkp H id = some (.box T (flatV l ++ r))) : fzH Tryd.prog H (.ms id 0 l.length cap) = some (.sl (encV l)) := by
  simp only [fzH, h, hT, List.drop_zero]
  rw [if_pos ⟨by decide, by rw [List.length_append, flatV_len]; omega⟩, chunksV, fz_encV]; rfl
theorem fzH_sl (P : Program) (h : List (Nat × PObj)) (xs : List (List PV)) : fzH P h (.sl xs) = some (.sl xs) := rfl
theorem encT_cut1 (t : ByteArray) (r : List ByteArray) : List.drop 1 (List.take (r.length + 1) (encT (t :: r))) = encT r := by
  rw [encT_take, encT_drop, List.take_of_length_le (by simp)]; rfl
set_option maxHeartbeats 8000000 in
theorem rset_step (w : V) (t : ByteArray) (r : List ByteArray) (v : V) (gv : GV v) (ht : t.size ≤ 1000000) (hr : r.length ≤ 1000000) (u : V) (hu : setV v (t :: r) w = some u)
    (ih : ∀ x ∈ v.items, ∀ y, setV x r w = some y → Ok Tryd.prog 23 [.agg (cellsV x), .sl (encT r), .agg (cellsV w)] (.agg (cellsV y))) :
    Ok Tryd.prog 23 [.agg (cellsV v), .sl (encT (t :: r)), .agg (cellsV w)] (.agg (cellsV u)) := by
  rw [setV] at hu
  split at hu
  · cases hu
  rename_i hn
  obtain ⟨y, hy, rfl⟩ := Option.map_eq_some_iff.1 hu
  have hlt := gv.at (t := t) hn
  have c0 := rplace_ok v t gv.2 gv.sort ht
  have cx := ih _ (getD_mem (d := default) hlt) y hy
  simp only [cellsV] at c0 cx
  have hb := (V.small gv.2).1
  generalize plc v t = a at *
  obtain ⟨i, rfl⟩ : ∃ i : Nat, a = i := ⟨a.toNat, by omega⟩
  rw [Int.toNat_natCast] at *
  refine Ok.of_pwpH (bar := bar2 5 0 noBar) (by kernel_rfl) Tryd.func23 rfl (by kernel_rfl) (by kernel_rfl) ?_
  simp (implicitDefEqProofs := false) (disch := omega) only [go_sem, simprocAttr, go_sem, Nat.le_refl, Int.toNat_natCast, Int.toNat_zero, Int.toNat_one, str_eq, cellsV, decide_true, Bool.not_true, Bool.not_false, encT_cut1, cells_at, encT_get0, encT_drop, encT_cut, List.getD_cons_zero, List.drop_succ_cons, List.drop_zero, encT_len, List.length_cons, outH, fzHAs, fzHA, fzHL, fzH_i, fzH_b, fzH_s, fzH_n, fzH_sl, Tryd.results23]
  with_reducible refine CallOk.of c0 rfl ?_
  simp (implicitDefEqProofs := false) (disch := omega) only [go_sem, simprocAttr, go_sem, Nat.le_refl, Int.toNat_natCast, Int.toNat_zero, Int.toNat_one, str_eq, cellsV, decide_true, Bool.not_true, Bool.not_false, encT_cut1, cells_at, encT_get0, encT_drop, encT_cut, List.getD_cons_zero, List.drop_succ_cons, List.drop_zero, encT_len, List.length_cons, outH, fzHAs, fzHA, fzHL, fzH_i, fzH_b, fzH_s, fzH_n, fzH_sl, Tryd.results23]
  refine p_sem2 ?_
  simp (implicitDefEqProofs := false) (disch := omega) only [go_sem, simprocAttr, go_sem, Nat.le_refl, Int.toNat_natCast, Int.toNat_zero, Int.toNat_one, str_eq, cellsV, decide_true, Bool.not_true, Bool.not_false, encT_cut1, cells_at, encT_get0, encT_drop, encT_cut, List.getD_cons_zero, List.drop_succ_cons, List.drop_zero, encT_len, List.length_cons, outH, fzHAs, fzHA, fzHL, fzH_i, fzH_b, fzH_s, fzH_n, fzH_sl, Tryd.results23, List.drop_zero]
  refine x_sem (sem_build0 Tryd.underlying26 rfl ?_)
  refine x_one ?_
  simp (implicitDefEqProofs := false) (disch := omega) only [go_sem, simprocAttr, go_sem, Nat.le_refl, Int.toNat_natCast, Int.toNat_zero, Int.toNat_one, str_eq, cellsV, decide_true, Bool.not_true, Bool.not_false, encT_cut1, cells_at, encT_get0, encT_drop, encT_cut, List.getD_cons_zero, List.drop_succ_cons, List.drop_zero, encT_len, List.length_cons, outH, fzHAs, fzHA, fzHL, fzH_i, fzH_b, fzH_s, fzH_n, fzH_sl, Tryd.results23]
  refine x_one ?_
  simp (implicitDefEqProofs := false) (disch := omega) only [go_sem, simprocAttr, go_sem, Nat.le_refl, Int.toNat_natCast, Int.toNat_zero, Int.toNat_one, str_eq, cellsV, decide_true, Bool.not_true, Bool.not_false, encT_cut1, cells_at, encT_get0, encT_drop, encT_cut, List.getD_cons_zero, List.drop_succ_cons, List.drop_zero, encT_len, List.length_cons, outH, fzHAs, fzHA, fzHL, fzH_i, fzH_b, fzH_s, fzH_n, fzH_sl, Tryd.results23]
  have hne : encV v.items ≠ [] := fun e => by
    have := congrArg List.length e
    rw [encV_len, List.length_nil] at this
    omega
  refine x_sem (sem_append (cs := []) (id := 15) (n := 0) (cap := 0) (sz := 6) (by_ := 88) (ys := encV v.items) Tryd.underlying26 rfl rfl rfl rfl (by decide) one_V rfl rfl rfl (Nat.le_refl _) (Nat.zero_le _) rfl rfl rfl (fz_encV _) (encV_all6 _) hne (by rw [encV_len]; omega) (by rw [encV_len]; omega) (fun cap' rest' q1 q2 q3 q4 => ?_))
  simp only [encV_len, Nat.zero_add] at q1 q3 ⊢
  refine x_one ?_
  simp (implicitDefEqProofs := false) (disch := omega) only [go_sem, simprocAttr, go_sem, Nat.le_refl, Int.toNat_natCast, Int.toNat_zero, Int.toNat_one, str_eq, cellsV, decide_true, Bool.not_true, Bool.not_false, encT_cut1, cells_at, encT_get0, encT_drop, encT_cut, List.getD_cons_zero, List.drop_succ_cons, List.drop_zero, encT_len, List.length_cons, outH, fzHAs, fzHA, fzHL, fzH_i, fzH_b, fzH_s, fzH_n, fzH_sl, Tryd.results23, flatV_flatten, Nat.zero_mul]
  refine x_one ?_
  simp (implicitDefEqProofs := false) (disch := omega) only [go_sem, simprocAttr, go_sem, Nat.le_refl, Int.toNat_natCast, Int.toNat_zero, Int.toNat_one, str_eq, cellsV, decide_true, Bool.not_true, Bool.not_false, encT_cut1, cells_at, encT_get0, encT_drop, encT_cut, List.getD_cons_zero, List.drop_succ_cons, List.drop_zero, encT_len, List.length_cons, outH, fzHAs, fzHA, fzHL, fzH_i, fzH_b, fzH_s, fzH_n, fzH_sl, Tryd.results23, flatV_flatten, Nat.zero_mul]
  simp only [dopsX]
  have e2 := set_flatr (r := rest') hlt y
  simp only [cellsV] at e2
  simp (implicitDefEqProofs := false) (disch := omega) only [go_sem, simprocAttr, go_sem, Nat.le_refl, Int.toNat_natCast, Int.toNat_zero, Int.toNat_one, str_eq, cellsV, decide_true, Bool.not_true, Bool.not_false, encT_cut1, cells_at, encT_get0, encT_drop, encT_cut, List.getD_cons_zero, List.drop_succ_cons, List.drop_zero, encT_len, List.length_cons, outH, fzHAs, fzHA, fzHL, fzH_i, fzH_b, fzH_s, fzH_n, fzH_sl, Tryd.results23, List.length_append, flatV_len, List.append_assoc]
  with_reducible refine CallOk.of cx rfl ?_
  simp (implicitDefEqProofs := false) (disch := omega) only [go_sem, simprocAttr, go_sem, Nat.le_refl, Int.toNat_natCast, Int.toNat_zero, Int.toNat_one, str_eq, cellsV, decide_true, Bool.not_true, Bool.not_false, encT_cut1, cells_at, encT_get0, encT_drop, encT_cut, List.getD_cons_zero, List.drop_succ_cons, List.drop_zero, encT_len, List.length_cons, outH, fzHAs, fzHA, fzHL, fzH_i, fzH_b, fzH_s, fzH_n, fzH_sl, Tryd.results23, List.length_append, flatV_len, List.append_assoc, e2]
  have z1 := fz_one (T := 28) (cap := cap') (l := v.items.set i y) (r := rest') (id := 18) rfl (H := [(18, .box 28 (flatV (v.items.set i y) ++ rest')), (13, .box 28 [vI v.kind, vB v.b, vI v.n, vS v.s, .ms 18 0 v.items.length cap', .sl (encT v.keys)]), (2, .box 28 [vI v.kind, vB v.b, vI v.n, vS v.s, .ms 18 0 v.items.length cap', .sl (encT v.keys)]), (1, .box 28 [vI w.kind, vB w.b, vI w.n, vS w.s, .sl (encV w.items), .sl (encT w.keys)]), (0, .box 28 [vI v.kind, vB v.b, vI v.n, vS v.s, .sl (encV v.items), .sl (encT v.keys)])]) (by simp only [lkp, if_true])
  rw [List.length_set] at z1
  simp only [z1, fzH_sl, Option.map_some, hold_eq, b_some, packR, cells_at]
set_option maxHeartbeats 4000000 in
theorem rset_nil (w v : V) : Ok Tryd.prog 23 [.agg (cellsV v), .sl (encT []), .agg (cellsV w)] (.agg (cellsV w)) := by
  refine Ok.of_pwp (by kernel_rfl) Tryd.func23 rfl (by kernel_rfl) (by kernel_rfl) ?_
  simp (implicitDefEqProofs := false) (disch := omega) only [go_sem, simprocAttr, go_sem, Nat.le_refl, Int.toNat_natCast, Int.toNat_zero, Int.toNat_one, str_eq, cellsV, decide_true, Bool.not_true, Bool.not_false, encT_nil, encT_len, Tryd.results23, outH, fzHAs, fzHA, fzHL, fzH_i, fzH_b, fzH_s, fzH_n, fzH_sl]
theorem rset_ok (w : V) : ∀ (r : List ByteArray) (v u : V), GV v → fewT r → r.length ≤ 1000000 → setV v r w = some u → Ok Tryd.prog 23 [.agg (cellsV v), .sl (encT r), .agg (cellsV w)] (.agg (cellsV u))
  | [], v, u, gv, hf, hl, h => by obtain rfl := Option.some.inj h; exact rset_nil _ v
  | t :: r, v, u, gv, hf, hl, h => rset_step w t r v gv (hf t (by simp)) (by simp at hl; omega) u h (fun x hx y hy => rset_ok w r x y (gv.item hx) (fun s hs => hf s (by simp [hs])) (by simp at hl; omega) hy)
end Go.Proofs.YtahgjolokkfhjaaDoor

end
section
/-
  Chapter 4: with any value set at any path, the whole is the document's: the law.
-/
open Go Go.Proofs Go.Pw Go.RowKit
namespace Go.Proofs.YtahgjolokkfhjaaDoor
set_option maxRecDepth 4000
set_option linter.unusedVariables false
set_option linter.unusedSimpArgs false
set_option maxHeartbeats 8000000 in
theorem sets_ok (l m : List Nd) (n : Int) (more : List ByteArray) (hN : NdsOk l) (hM : NdsOk m) (hl : l.length ≤ 9223372036854775807) (hm : m.length ≤ 9223372036854775807) (n0 : 0 ≤ n) (n1 : n ≤ 65535) (hml : more.length ≤ 9223372036854775807) :
    Ok Tryd.prog 5 [.sl (encN l), .sl (encN m), .agg [vU16 n, .sl (encT more)]] (vB true) := by
  have c0 := awake_ok
  have cs := steps_ok more hml
  refine Ok.of_pwp (by kernel_rfl) Tryd.func5 rfl (by kernel_rfl) (by kernel_rfl) ?_
  cases hs : stepsB more with
  | false =>
    rw [hs] at cs
    simp (implicitDefEqProofs := false) (disch := omega) only [go_sem, simprocAttr, go_sem, Nat.le_refl, Int.toNat_natCast, Int.toNat_zero, Int.toNat_one, str_eq, cellsV, decide_true, Bool.not_true, Bool.not_false, beq_self_eq_true, encT_app, List.nil_append, Tryd.results5]
    with_reducible refine CallOk.of c0 rfl ?_
    simp (implicitDefEqProofs := false) (disch := omega) only [go_sem, simprocAttr, go_sem, Nat.le_refl, Int.toNat_natCast, Int.toNat_zero, Int.toNat_one, str_eq, cellsV, decide_true, Bool.not_true, Bool.not_false, beq_self_eq_true, encT_app, List.nil_append, Tryd.results5]
    with_reducible refine CallOk.of cs rfl ?_
    simp (implicitDefEqProofs := false) (disch := omega) only [go_sem, simprocAttr, go_sem, Nat.le_refl, Int.toNat_natCast, Int.toNat_zero, Int.toNat_one, str_eq, cellsV, decide_true, Bool.not_true, Bool.not_false, beq_self_eq_true, encT_app, List.nil_append, Tryd.results5]
    with_reducible refine CallOk.of c0 rfl ?_
    simp (implicitDefEqProofs := false) (disch := omega) only [go_sem, simprocAttr, go_sem, Nat.le_refl, Int.toNat_natCast, Int.toNat_zero, Int.toNat_one, str_eq, cellsV, decide_true, Bool.not_true, Bool.not_false, beq_self_eq_true, encT_app, List.nil_append, Tryd.results5]
  | true =>
  rw [hs] at cs
  unfold stepsB stepB at hs
  simp only [Bool.and_eq_true, List.all_eq_true, decide_eq_true_eq] at hs
  have hfw : fewT more := fun s h => by have := (hs.1 s h).1; omega
  simp (implicitDefEqProofs := false) (disch := omega) only [go_sem, simprocAttr, go_sem, Nat.le_refl, Int.toNat_natCast, Int.toNat_zero, Int.toNat_one, str_eq, cellsV, decide_true, Bool.not_true, Bool.not_false, beq_self_eq_true, encT_app, List.nil_append, Tryd.results5]
  with_reducible refine CallOk.of c0 rfl ?_
  simp (implicitDefEqProofs := false) (disch := omega) only [go_sem, simprocAttr, go_sem, Nat.le_refl, Int.toNat_natCast, Int.toNat_zero, Int.toNat_one, str_eq, cellsV, decide_true, Bool.not_true, Bool.not_false, beq_self_eq_true, encT_app, List.nil_append, Tryd.results5]
  with_reducible refine CallOk.of cs rfl ?_
  simp (implicitDefEqProofs := false) (disch := omega) only [go_sem, simprocAttr, go_sem, Nat.le_refl, Int.toNat_natCast, Int.toNat_zero, Int.toNat_one, str_eq, cellsV, decide_true, Bool.not_true, Bool.not_false, beq_self_eq_true, encT_app, List.nil_append, Tryd.results5]
  refine CallOk.ofI (OkI.ofQ (st := ⟨[], _, _, _, _⟩) (tree_ok l hN hl) ?_) rfl rfl rfl rfl ?_
  · rfl
  rintro r st1 ⟨⟨v, hv, rfl⟩, rfl⟩
  simp (implicitDefEqProofs := false) (disch := omega) only [go_sem, simprocAttr, go_sem, Nat.le_refl, Int.toNat_natCast, Int.toNat_zero, Int.toNat_one, str_eq, cellsV, decide_true, Bool.not_true, Bool.not_false, beq_self_eq_true, encT_app, List.nil_append, Tryd.results5]
  refine CallOk.ofI (OkI.ofQ (st := ⟨[], _, _, _, _⟩) (tree_ok m hM hm) ?_) rfl rfl rfl rfl ?_
  · rfl
  rintro r st1 ⟨⟨w, hw, rfl⟩, rfl⟩
  have gv := hv.gv
  have gw := hw.gv
  have p1 := pick_ok v gv n n0 n1
  obtain ⟨u1, hu1⟩ := pickV_get gv n.toNat
  obtain ⟨f1, s1⟩ := getV_few _ _ _ gv hu1
  have z1 := gv.2
  generalize pickV v n.toNat = q at *
  simp only [cellsV] at p1
  simp (implicitDefEqProofs := false) (disch := omega) only [go_sem, simprocAttr, go_sem, Nat.le_refl, Int.toNat_natCast, Int.toNat_zero, Int.toNat_one, str_eq, cellsV, decide_true, Bool.not_true, Bool.not_false, beq_self_eq_true, encT_app, List.nil_append, Tryd.results5]
  with_reducible refine CallOk.of p1 rfl ?_
  simp (implicitDefEqProofs := false) (disch := omega) only [go_sem, simprocAttr, go_sem, Nat.le_refl, Int.toNat_natCast, Int.toNat_zero, Int.toNat_one, str_eq, cellsV, decide_true, Bool.not_true, Bool.not_false, beq_self_eq_true, encT_app, List.nil_append, Tryd.results5]
  refine appZ_any rfl rfl (by rw [encT_len, List.length_nil]; omega) (by rw [encT_len, List.length_nil]; omega) ?_
  simp (implicitDefEqProofs := false) (disch := omega) only [go_sem, simprocAttr, go_sem, Nat.le_refl, Int.toNat_natCast, Int.toNat_zero, Int.toNat_one, str_eq, cellsV, decide_true, Bool.not_true, Bool.not_false, beq_self_eq_true, encT_app, List.nil_append, Tryd.results5]
  refine appZ_any rfl (by rw [encT_len]) (by rw [encT_len, encT_len]; omega) (by rw [encT_len, encT_len]; omega) ?_
  simp (implicitDefEqProofs := false) (disch := omega) only [go_sem, simprocAttr, go_sem, Nat.le_refl, Int.toNat_natCast, Int.toNat_zero, Int.toNat_one, str_eq, cellsV, decide_true, Bool.not_true, Bool.not_false, beq_self_eq_true, encT_app, List.nil_append, Tryd.results5]
  obtain ⟨p, hp⟩ : ∃ p, q ++ more = p := ⟨_, rfl⟩
  have hpl : p.length ≤ 1000010 := by rw [← hp, List.length_append]; omega
  have hpf : fewT p := fun s h => by
    rw [← hp, List.mem_append] at h
    rcases h with h | h
    · exact f1 s h
    · exact hfw s h
  rw [hp]
  have hzv := hv.sz
  have hzw := hw.sz
  have hpl2 : p.length ≤ 1000000 := by rw [← hp, List.length_append]; omega
  have c1 := real_ok v gv.2
  have c2 := real_ok w gw.2
  have c3 := pset_ok w gw.2 p v gv hpf hpl2
  have c4 := ref_ok v gv.2
  have c5 := same_ok v gv.2 v gv.2
  have c6 := rget_ok v p gv hpf hpl2
  rw [sameV_T rfl] at c5
  cases hg : getV v p with
  | none =>
    rw [set_none p v w hg] at c3
    rw [hg] at c6
    unfold resG at c3
    unfold resB at c6
    have c7 := ref_ok vZero vz_gv.2
    have c8 := same_ok vZero vz_gv.2 vZero vz_gv.2
    rw [sameV_T rfl] at c8
    rw [vz_cells] at c3 c6 c7 c8
    simp only [cellsV] at c1 c2 c3 c4 c5 c6
    simp (implicitDefEqProofs := false) (disch := omega) only [go_sem, simprocAttr, go_sem, Nat.le_refl, Int.toNat_natCast, Int.toNat_zero, Int.toNat_one, str_eq, cellsV, decide_true, Bool.not_true, Bool.not_false, beq_self_eq_true, encT_app, List.nil_append, Tryd.results5]
    with_reducible refine CallOk.of c1 rfl ?_
    simp (implicitDefEqProofs := false) (disch := omega) only [go_sem, simprocAttr, go_sem, Nat.le_refl, Int.toNat_natCast, Int.toNat_zero, Int.toNat_one, str_eq, cellsV, decide_true, Bool.not_true, Bool.not_false, beq_self_eq_true, encT_app, List.nil_append, Tryd.results5]
    with_reducible refine CallOk.of c2 rfl ?_
    simp (implicitDefEqProofs := false) (disch := omega) only [go_sem, simprocAttr, go_sem, Nat.le_refl, Int.toNat_natCast, Int.toNat_zero, Int.toNat_one, str_eq, cellsV, decide_true, Bool.not_true, Bool.not_false, beq_self_eq_true, encT_app, List.nil_append, Tryd.results5]
    with_reducible refine CallOk.of c3 rfl ?_
    simp (implicitDefEqProofs := false) (disch := omega) only [go_sem, simprocAttr, go_sem, Nat.le_refl, Int.toNat_natCast, Int.toNat_zero, Int.toNat_one, str_eq, cellsV, decide_true, Bool.not_true, Bool.not_false, beq_self_eq_true, encT_app, List.nil_append, Tryd.results5]
    with_reducible refine CallOk.of c4 rfl ?_
    simp (implicitDefEqProofs := false) (disch := omega) only [go_sem, simprocAttr, go_sem, Nat.le_refl, Int.toNat_natCast, Int.toNat_zero, Int.toNat_one, str_eq, cellsV, decide_true, Bool.not_true, Bool.not_false, beq_self_eq_true, encT_app, List.nil_append, Tryd.results5]
    with_reducible refine CallOk.of c5 rfl ?_
    simp (implicitDefEqProofs := false) (disch := omega) only [go_sem, simprocAttr, go_sem, Nat.le_refl, Int.toNat_natCast, Int.toNat_zero, Int.toNat_one, str_eq, cellsV, decide_true, Bool.not_true, Bool.not_false, beq_self_eq_true, encT_app, List.nil_append, Tryd.results5]
    with_reducible refine CallOk.of c6 rfl ?_
    simp (implicitDefEqProofs := false) (disch := omega) only [go_sem, simprocAttr, go_sem, Nat.le_refl, Int.toNat_natCast, Int.toNat_zero, Int.toNat_one, str_eq, cellsV, decide_true, Bool.not_true, Bool.not_false, beq_self_eq_true, encT_app, List.nil_append, Tryd.results5]
    with_reducible refine CallOk.of c7 rfl ?_
    simp (implicitDefEqProofs := false) (disch := omega) only [go_sem, simprocAttr, go_sem, Nat.le_refl, Int.toNat_natCast, Int.toNat_zero, Int.toNat_one, str_eq, cellsV, decide_true, Bool.not_true, Bool.not_false, beq_self_eq_true, encT_app, List.nil_append, Tryd.results5]
    with_reducible refine CallOk.of c8 rfl ?_
    simp (implicitDefEqProofs := false) (disch := omega) only [go_sem, simprocAttr, go_sem, Nat.le_refl, Int.toNat_natCast, Int.toNat_zero, Int.toNat_one, str_eq, cellsV, decide_true, Bool.not_true, Bool.not_false, beq_self_eq_true, encT_app, List.nil_append, Tryd.results5]
  | some u =>
    obtain ⟨v', hv'⟩ := set_some p v w u hg
    obtain ⟨g1, g2⟩ := set_good p v w v' gv.1 gw.1 gv hv'
    have gv' : GV v' := ⟨g1, by omega⟩
    have hget := set_get p v w v' gv hv'
    rw [hv'] at c3
    rw [hg] at c6
    have c7 := get_ok v' p gv' hpf hpl2
    rw [hget] at c7
    unfold resG at c3 c7
    unfold resB at c6
    have c8 := ref_ok v' gv'.2
    have c9 := rset_ok w p v v' gv hpf hpl2 hv'
    have c10 := same_ok v' gv'.2 v' gv'.2
    have c11 := ref_ok w gw.2
    have c12 := same_ok w gw.2 w gw.2
    rw [sameV_T rfl] at c10 c12
    simp only [cellsV] at c1 c2 c3 c4 c5 c6 c7 c8 c9 c10 c11 c12
    simp (implicitDefEqProofs := false) (disch := omega) only [go_sem, simprocAttr, go_sem, Nat.le_refl, Int.toNat_natCast, Int.toNat_zero, Int.toNat_one, str_eq, cellsV, decide_true, Bool.not_true, Bool.not_false, beq_self_eq_true, encT_app, List.nil_append, Tryd.results5]
    with_reducible refine CallOk.of c1 rfl ?_
    simp (implicitDefEqProofs := false) (disch := omega) only [go_sem, simprocAttr, go_sem, Nat.le_refl, Int.toNat_natCast, Int.toNat_zero, Int.toNat_one, str_eq, cellsV, decide_true, Bool.not_true, Bool.not_false, beq_self_eq_true, encT_app, List.nil_append, Tryd.results5]
    with_reducible refine CallOk.of c2 rfl ?_
    simp (implicitDefEqProofs := false) (disch := omega) only [go_sem, simprocAttr, go_sem, Nat.le_refl, Int.toNat_natCast, Int.toNat_zero, Int.toNat_one, str_eq, cellsV, decide_true, Bool.not_true, Bool.not_false, beq_self_eq_true, encT_app, List.nil_append, Tryd.results5]
    with_reducible refine CallOk.of c3 rfl ?_
    simp (implicitDefEqProofs := false) (disch := omega) only [go_sem, simprocAttr, go_sem, Nat.le_refl, Int.toNat_natCast, Int.toNat_zero, Int.toNat_one, str_eq, cellsV, decide_true, Bool.not_true, Bool.not_false, beq_self_eq_true, encT_app, List.nil_append, Tryd.results5]
    with_reducible refine CallOk.of c4 rfl ?_
    simp (implicitDefEqProofs := false) (disch := omega) only [go_sem, simprocAttr, go_sem, Nat.le_refl, Int.toNat_natCast, Int.toNat_zero, Int.toNat_one, str_eq, cellsV, decide_true, Bool.not_true, Bool.not_false, beq_self_eq_true, encT_app, List.nil_append, Tryd.results5]
    with_reducible refine CallOk.of c5 rfl ?_
    simp (implicitDefEqProofs := false) (disch := omega) only [go_sem, simprocAttr, go_sem, Nat.le_refl, Int.toNat_natCast, Int.toNat_zero, Int.toNat_one, str_eq, cellsV, decide_true, Bool.not_true, Bool.not_false, beq_self_eq_true, encT_app, List.nil_append, Tryd.results5]
    with_reducible refine CallOk.of c6 rfl ?_
    simp (implicitDefEqProofs := false) (disch := omega) only [go_sem, simprocAttr, go_sem, Nat.le_refl, Int.toNat_natCast, Int.toNat_zero, Int.toNat_one, str_eq, cellsV, decide_true, Bool.not_true, Bool.not_false, beq_self_eq_true, encT_app, List.nil_append, Tryd.results5]
    with_reducible refine CallOk.of c7 rfl ?_
    simp (implicitDefEqProofs := false) (disch := omega) only [go_sem, simprocAttr, go_sem, Nat.le_refl, Int.toNat_natCast, Int.toNat_zero, Int.toNat_one, str_eq, cellsV, decide_true, Bool.not_true, Bool.not_false, beq_self_eq_true, encT_app, List.nil_append, Tryd.results5]
    with_reducible refine CallOk.of c8 rfl ?_
    simp (implicitDefEqProofs := false) (disch := omega) only [go_sem, simprocAttr, go_sem, Nat.le_refl, Int.toNat_natCast, Int.toNat_zero, Int.toNat_one, str_eq, cellsV, decide_true, Bool.not_true, Bool.not_false, beq_self_eq_true, encT_app, List.nil_append, Tryd.results5]
    with_reducible refine CallOk.of c9 rfl ?_
    simp (implicitDefEqProofs := false) (disch := omega) only [go_sem, simprocAttr, go_sem, Nat.le_refl, Int.toNat_natCast, Int.toNat_zero, Int.toNat_one, str_eq, cellsV, decide_true, Bool.not_true, Bool.not_false, beq_self_eq_true, encT_app, List.nil_append, Tryd.results5]
    with_reducible refine CallOk.of c10 rfl ?_
    simp (implicitDefEqProofs := false) (disch := omega) only [go_sem, simprocAttr, go_sem, Nat.le_refl, Int.toNat_natCast, Int.toNat_zero, Int.toNat_one, str_eq, cellsV, decide_true, Bool.not_true, Bool.not_false, beq_self_eq_true, encT_app, List.nil_append, Tryd.results5]
    with_reducible refine CallOk.of c11 rfl ?_
    simp (implicitDefEqProofs := false) (disch := omega) only [go_sem, simprocAttr, go_sem, Nat.le_refl, Int.toNat_natCast, Int.toNat_zero, Int.toNat_one, str_eq, cellsV, decide_true, Bool.not_true, Bool.not_false, beq_self_eq_true, encT_app, List.nil_append, Tryd.results5]
    with_reducible refine CallOk.of c12 rfl ?_
    simp (implicitDefEqProofs := false) (disch := omega) only [go_sem, simprocAttr, go_sem, Nat.le_refl, Int.toNat_natCast, Int.toNat_zero, Int.toNat_one, str_eq, cellsV, decide_true, Bool.not_true, Bool.not_false, beq_self_eq_true, encT_app, List.nil_append, Tryd.results5]
theorem sets_row (l m : List Nd) (x : Int × List ByteArray) (hN : NdsOk l) (hl : l.length ≤ 9223372036854775807) (hM : NdsOk m) (hm : m.length ≤ 9223372036854775807) (hx : WhereOk x) :
    Ok Tryd.prog 5 [.sl (encN l), .sl (encN m), .agg [.val (.int .u16 x.1), .sl (encT x.2)]] (vB true) :=
  sets_ok l m x.1 x.2 hN hM hl hm hx.1.1 hx.1.2 (by have := hx.2; unfold maxLen at this; omega)
end Go.Proofs.YtahgjolokkfhjaaDoor

end
