/-
  Contracts and plain laws on the way to the statement; each says its own conditions.
-/
import Derived.Test.YtmfaejdnaippkaaDoorGQ1
import Derived.Lib.AppendStr
section
/-
  The machine does what stepK says: append, and all steps.
-/
namespace Go.Pw
open Go Go.RowKit
set_option linter.unusedVariables false
set_option linter.unusedSimpArgs false
section
variable {P : Program} {own : Nat → Prop} {S0 : Base} {w0 w : World} {C : Cx} {U V : Nat → Prop} {st : PS} {a : Act} {N : Nat}

theorem info_of {e : TypeId} {sz by_ : Nat} {z : Value} (h1 : sizeOf? P e = some sz) (h2 : bytesOf? P e = some by_) (h3 : zeroOf? P e = some z) : ∃ i, P.info? e = some i ∧ i.size = sz ∧ i.bytes = by_ ∧ i.zero = some z := by
  unfold sizeOf? at h1
  obtain ⟨i, hi, rfl⟩ := Option.map_eq_some_iff.1 h1
  unfold bytesOf? at h2
  unfold zeroOf? at h3
  rw [hi] at h2 h3
  exact ⟨i, hi, rfl, by simpa using h2, by simpa using h3⟩

/-- One row behind another, ags cells. -/
theorem rowsF {S : Cells} {sz : Nat} {xs ys : List (List PV)} {olds news rest : List Value} {cur : Array Value} (hcur : cur.toList = olds ++ news ++ rest) (ho : olds.length = xs.length * sz) (hn : news.length = ys.length * sz)
    (hxs : ∀ x ∈ xs, x.length = sz) (hys : ∀ x ∈ ys, x.length = sz)
    (hxr : ∀ (j i : Nat) (x : List PV) (p : PV), xs[j]? = some x → x[i]? = some p → ∃ u, olds[j * sz + i]? = some u ∧ RepF S u p)
    (hyr : ∀ (j i : Nat) (x : List PV) (p : PV), ys[j]? = some x → x[i]? = some p → ∃ u, news[j * sz + i]? = some u ∧ RepF S u p) :
    (∀ x ∈ xs ++ ys, x.length = sz) ∧ ∀ (j i : Nat) (x : List PV) (p : PV), (xs ++ ys)[j]? = some x → x[i]? = some p → ∃ u, cur[j * sz + i]? = some u ∧ RepF S u p := by
  refine ⟨fun x hx => ?_, fun j i x p hx hp => ?_⟩
  · rcases List.mem_append.1 hx with h | h
    · exact hxs x h
    · exact hys x h
  · have hcg : ∀ k : Nat, cur[k]? = (olds ++ news ++ rest)[k]? := fun k => by rw [← hcur]; simp
    rw [hcg]
    by_cases hj : j < xs.length
    · rw [List.getElem?_append_left hj] at hx
      obtain ⟨u, h1, h2⟩ := hxr j i x p hx hp
      have hlt := (List.getElem?_eq_some_iff.1 h1).1
      exact ⟨u, by rw [List.append_assoc, List.getElem?_append_left hlt]; exact h1, h2⟩
    · rw [List.getElem?_append_right (by omega)] at hx
      obtain ⟨u, h1, h2⟩ := hyr _ i x p hx hp
      have hlt := (List.getElem?_eq_some_iff.1 h1).1
      refine ⟨u, ?_, h2⟩
      have e : j * sz + i = olds.length + ((j - xs.length) * sz + i) := by
        rw [ho]
        have : j * sz = xs.length * sz + (j - xs.length) * sz := by rw [← Nat.add_mul]; congr 1; omega
        omega
      rw [e, List.append_assoc, List.getElem?_append_right (by omega), Nat.add_sub_cancel_left, List.getElem?_append_left hlt]
      exact h1

theorem Rel.wider (R : Rel own S0 w0 C U V st w) {V' : Nat → Prop} (hVV : ∀ i, V i → V' i) : Rel own S0 w0 C U V' st w := by
  have X : Ext C C st.toks st.toks U V U V' := ⟨SLe.refl _, fun _ _ => rfl, fun k t _ h => ⟨t, h, Nat.le_refl _, rfl, fun _ => rfl⟩, fun _ h => h, hVV⟩
  refine ⟨R.frame, R.stable, fun id T cs h => ?_, R.iter, R.hown, R.hinj, fun k t h => ?_, R.tbox, R.tinj, R.snew, R.sold, R.base.trans X, R.glob⟩
  · obtain ⟨vs, h1, h2, h3⟩ := R.box id T cs h
    exact ⟨vs, h1, h2, fun i v p hv hp => ⟨(h3 i v p hv hp).1, (h3 i v p hv hp).2.ext X⟩⟩
  · obtain ⟨h1, h2⟩ := R.tok k t h
    exact ⟨hVV _ h1, h2⟩
theorem append_core (E : Env C U V st a) (R : Rel own S0 w0 C U V st w) {o : Oper} {x : Operand} {src : Value} {t t' ty e : TypeId} {K : Delta → Prop} {tk0 : Nat} (hV : ¬ V tk0) {V' : Nat → Prop} (hVV : ∀ i, V i → V' i) (hV' : V' tk0)
    (hrun : ∀ v w', (Builtin.append_ #[t, t'] ty #[a.eval x, src]).run P w = .ok v w' → (execOp a.eval o).run P w = .ok (.value v) w') {sz by_ : Nat} {z : Value} {i : TypeInfo}
    (hzs : z.cells.size = sz) (h0 : 0 < sz) (hi1 : i.size = sz) (hi2 : i.bytes = by_) {d : PV} (hd : st.ev x = some d) {ys : List (List PV)} (hpos : 0 < ys.length) (hyl : ∀ y ∈ ys, y.length = sz)
    {news : List Value} (hnl : news.length = ys.length * sz) (hn1 : ∀ u ∈ news, u.oneCell' = true)
    (hnr : ∀ (j i : Nat) (x : List PV) (p : PV), ys[j]? = some x → x[i]? = some p → ∃ u, news[j * sz + i]? = some u ∧ RepF C.S u p)
    (hnil : ((ys.length : Nat) : Int) ≤ 9223372036854775807 → ys.length * i.bytes ≤ 281474976710656 → (Builtin.append_ #[t, t'] ty #[.slice none 0 0, src]).run P w =
      .ok (.slice (some ⟨w.heap.size, 0, none⟩) ys.length (grownCap w ys.length 0 e)) (w.drew.alloc (.cells (news.toArray ++ Builtin.zeroCells z.cells (grownCap w ys.length 0 e - ys.length)) e)))
    (hroomR : ∀ (g sLen sCap : Nat) (cur : Array Value), w.heap[g]? = some (.cells cur e (0, 0)) → sLen + ys.length ≤ sCap → sLen * i.size + news.length ≤ cur.size → (Builtin.append_ #[t, t'] ty #[.slice (some ⟨g, 0, none⟩) sLen sCap, src]).run P w =
      .ok (.slice (some ⟨g, 0, none⟩) (sLen + ys.length) sCap) (w.setRow g (cur.toList.take (sLen * i.size) ++ news ++ cur.toList.drop (sLen * i.size + news.length)).toArray))
    (hgrowR : ∀ (b : Addr) (sLen sCap : Nat) (olds : List Value), olds.length = sLen * i.size → (∀ j v, olds[j]? = some v → w.cell? (b.add j) = some v) → sCap < sLen + ys.length → ((sLen + ys.length : Nat) : Int) ≤ 9223372036854775807 → Builtin.nextslicecap (sLen + ys.length) sCap * i.bytes ≤ 281474976710656 →
      (Builtin.append_ #[t, t'] ty #[.slice (some b) sLen sCap, src]).run P w = .ok (.slice (some ⟨w.heap.size, 0, none⟩) (sLen + ys.length) (grownCap w (sLen + ys.length) sCap e))
        (w.drew.alloc (.cells (olds.toArray ++ news.toArray ++ Builtin.zeroCells z.cells (grownCap w (sLen + ys.length) sCap e - (sLen + ys.length))) e)))
    (h : appTail st tk0 e sz by_ d ys K) :
    ∃ v p st' w' C', (execOp a.eval o).run P w = .ok (.value v) w' ∧ Rel own S0 w0 C' U V' st' w' ∧ Ext C C' st.toks st'.toks U V U V' ∧ st'.env = st.env ∧ RepV C' st'.toks U V' v p ∧ ∃ d, K d ∧ d.apply o.dst st = st'.put o.dst p := by
  unfold appTail at h
  split at h
  · simp at hpos
  rename_i y0 r
  generalize hysd : y0 :: r = ys at *
  split at h
  · -- onto nil
    obtain ⟨hb, hm, hk⟩ := h
    have ex : a.eval x = .slice none 0 0 := (rep_val (ev_rep E hd)).1
    have hrun1 := hnil (by omega) (by rw [hi2]; omega)
    have hcapge : ys.length ≤ grownCap w ys.length 0 e := grownCap_ge w ys.length 0 e
    have hcapm : grownCap w ys.length 0 e ≤ maxLen := grownCap_le_maxLen w ys.length 0 e (by simpa [maxLen] using hm)
    let cur : Array Value := news.toArray ++ Builtin.zeroCells z.cells (grownCap w ys.length 0 e - ys.length)
    have hcs : cur.size = grownCap w ys.length 0 e * sz := by
      simp only [cur, Array.size_append, List.size_toArray, size_zeroCells, hzs, hnl, ← Nat.add_mul]
      congr 1
      omega
    obtain ⟨R', X'⟩ := R.row (w' := w.drew.alloc (.cells cur e)) (k := tk0) (g := w.heap.size) (cap := grownCap w ys.length 0 e) (n := ys.length) (e := e) (sz := sz) (cur := cur)
      ⟨rfl, rfl, rfl, by simp, fun b hb _ => by show (w.heap.push _)[b]? = _; rw [Array.getElem?_push, if_neg (by omega)]⟩ (heap_alloc_at (w := w.drew) _) hcs hcapge hcapm
      (.inl ⟨by cases hl : lkp st.toks tk0 with | none => rfl | some t => exact absurd (R.tok _ _ hl).1 hV, hV, Nat.le_refl _⟩) hVV hV' st.nx st.nt
    refine ⟨_, _, _, _, _, hrun _ _ (by rw [ex]; exact hrun1), R', X', rfl, ?_, _, hk, rfl⟩
    have hS : ∀ o, o < ys.length * sz → (C.keep tk0 w.heap.size (grownCap w ys.length 0 e) (ys.length * sz) cur).S w.heap.size o = cur[o]? := fun o ho => by
      show (if w.heap.size = w.heap.size ∧ o < ys.length * sz then cur[o]? else C.S w.heap.size o) = _
      rw [if_pos ⟨rfl, ho⟩]
    have hrows := rowsF (S := (C.keep tk0 w.heap.size (grownCap w ys.length 0 e) (ys.length * sz) cur).S) (sz := sz) (xs := []) (ys := ys) (olds := []) (news := news) (cur := cur)
      (rest := (Builtin.zeroCells z.cells (grownCap w ys.length 0 e - ys.length)).toList) (by simp [cur]) (by simp) hnl (by simp) hyl (by simp)
      (fun j i x p hx hp => by obtain ⟨u, h1, h2⟩ := hnr j i x p hx hp; exact ⟨u, h1, h2.mono X'.S⟩)
    simp only [List.nil_append] at hrows
    refine .row (rowF (sz := sz) (g := w.heap.size) (cur := cur) hS hcapge (by rw [hcs]; exact Nat.mul_le_mul_right _ hcapge) hrows.1 hrows.2) hV' (fun t ht => ?_)
    rw [lkp_upd, if_pos rfl] at ht
    obtain rfl := Option.some.inj ht
    exact ⟨Nat.le_refl _, hyl, fun _ => by simp [Cx.keep]⟩
  · -- onto a row of ours
    rename_i k xs
    replace h := bindO_elim h
    obtain ⟨tk, htk, hn, he, hts, hb, hm, hk⟩ := h
    obtain ⟨hknt, hown, ⟨vs, hvs, hvsz⟩, hncap, hcapm, hS7⟩ := R.tok k tk htk
    have hrep := ev_rep E hd
    have hxf : RepF C.S (a.eval x) (.sl xs) := rep_sl (.inr ⟨_, hrep⟩)
    have hval : a.eval x = .slice (some ⟨(C.τ k).1, 0, none⟩) tk.n (C.τ k).2 := by
      generalize a.eval x = v at hrep
      cases hrep with
      | frz h => cases h
      | row h1 h2 h3 => exact (h3 tk htk).2.2 hn.symm
    have hxl : ∀ x ∈ xs, x.length = tk.sz := by
      generalize a.eval x = v at hrep
      cases hrep with
      | frz h => cases h
      | row h1 h2 h3 => exact (h3 tk htk).2.1
    subst he hts
    -- the cells of the row that are told
    have hol : (vs.toList.take (xs.length * tk.sz)).length = xs.length * tk.sz := by
      have hvl : vs.toList.length = (C.τ k).2 * tk.sz := by simp [hvsz]
      rw [List.length_take, hvl]
      exact Nat.min_eq_left (Nat.mul_le_mul_right _ (by omega))
    have hor : ∀ (j i : Nat) (x : List PV) (p : PV), xs[j]? = some x → x[i]? = some p → ∃ u, (vs.toList.take (xs.length * tk.sz))[j * tk.sz + i]? = some u ∧ RepF C.S u p := by
      intro j i x' p hx' hp
      rw [hval] at hxf
      generalize hvv : Value.slice (some ⟨(C.τ k).1, 0, none⟩) tk.n (C.τ k).2 = v at hxf
      cases hxf with
      | @sl A n cc sz' _ f hn' hcc hsz' hA hrr =>
        injection hvv with g1 g2 g3
        subst g1
        have hj : j < xs.length := (List.getElem?_eq_some_iff.1 hx').1
        obtain ⟨b, o', e3, hS⟩ := hA (by omega)
        injection e3 with e3
        injection e3 with e3 e4
        subst e3 e4
        have e5 : sz' = tk.sz := by rw [← hxl _ (List.mem_of_getElem? hx')]; exact (hsz' _ (List.mem_of_getElem? hx')).symm
        subst e5
        have hi' : i < tk.sz := by rw [← hxl _ (List.mem_of_getElem? hx')]; exact (List.getElem?_eq_some_iff.1 hp).1
        have h1 := R.stable _ _ _ (hS j i (by omega) hi')
        rw [Nat.zero_add, cell_of_row w _ _ vs tk.e (0, 0) hvs] at h1
        have hlt : j * tk.sz + i < xs.length * tk.sz := by
          have : (j + 1) * tk.sz ≤ xs.length * tk.sz := Nat.mul_le_mul_right _ hj
          rw [Nat.add_mul, Nat.one_mul] at this
          omega
        exact ⟨_, by rw [List.getElem?_take, if_pos hlt]; simpa using h1, hrr j i x' p hx' hp⟩
    have hlen : (xs ++ ys).length = xs.length + ys.length := List.length_append
    -- what comes out, by where the row lies then
    have fin : ∀ (w' : World) (g cap : Nat) (cur : Array Value) (rest : List Value),
        (w'.os = w.os ∧ w'.tape = w.tape ∧ w'.output = w.output ∧ w.heap.size ≤ w'.heap.size ∧ ∀ b, b < w.heap.size → b ≠ g → w'.heap[b]? = w.heap[b]?) →
        w'.heap[g]? = some (.cells cur tk.e (0, 0)) → cur.size = cap * tk.sz → xs.length + ys.length ≤ cap → cap ≤ maxLen →
        ((g = (C.τ k).1 ∧ cap = (C.τ k).2 ∧ ∀ o v, C.S g o = some v → cur[o]? = some v) ∨ w.heap.size ≤ g) →
        cur.toList = vs.toList.take (xs.length * tk.sz) ++ news ++ rest →
        (Builtin.append_ #[t, t'] ty #[a.eval x, src]).run P w = .ok (.slice (some ⟨g, 0, none⟩) (xs.length + ys.length) cap) w' →
        ∃ v p st' w' C', (execOp a.eval o).run P w = .ok (.value v) w' ∧ Rel own S0 w0 C' U V' st' w' ∧ Ext C C' st.toks st'.toks U V U V' ∧ st'.env = st.env ∧ RepV C' st'.toks U V' v p ∧ ∃ d, K d ∧ d.apply o.dst st = st'.put o.dst p := by
      intro w' g cap cur rest hfr hg hcs hncap' hcapm' hcase hcl hrun1
      obtain ⟨R', X'⟩ := R.row (k := k) (n := xs.length + ys.length) hfr hg hcs hncap' hcapm' (.inr ⟨tk, htk, by omega, rfl, hcase⟩) hVV (hVV _ hknt) st.nx st.nt
      refine ⟨_, _, _, _, _, hrun _ _ hrun1, R', X', rfl, ?_, _, hk, rfl⟩
      have hrows := rowsF (S := (C.keep k g cap ((xs.length + ys.length) * tk.sz) cur).S) (sz := tk.sz) (xs := xs) (ys := ys) (cur := cur) hcl hol hnl hxl hyl
        (fun j i x p hx hp => by obtain ⟨u, h1, h2⟩ := hor j i x p hx hp; exact ⟨u, h1, h2.mono X'.S⟩)
        (fun j i x p hx hp => by obtain ⟨u, h1, h2⟩ := hnr j i x p hx hp; exact ⟨u, h1, h2.mono X'.S⟩)
      have hrF := rowF (S := (C.keep k g cap ((xs.length + ys.length) * tk.sz) cur).S) (sz := tk.sz) (g := g) (cur := cur) (xs := xs ++ ys) (fun o ho => by
        rw [hlen] at ho
        show (if g = g ∧ o < (xs.length + ys.length) * tk.sz then cur[o]? else C.S g o) = _
        rw [if_pos ⟨rfl, ho⟩]) (by rw [hlen]; exact hncap') (by rw [hcs, hlen]; exact Nat.mul_le_mul_right _ hncap') hrows.1 hrows.2
      rw [hlen] at hrF
      refine .row hrF (hVV _ hknt) (fun t ht => ?_)
      rw [lkp_upd, if_pos rfl] at ht
      obtain rfl := Option.some.inj ht
      exact ⟨by rw [hlen]; exact Nat.le_refl _, hrows.1, fun _ => by simp [Cx.keep]⟩
    have hpo : ∀ b, b < w.heap.size → (w.heap.push (Obj.cells #[] 0))[b]? = w.heap[b]? := fun b hb => by rw [Array.getElem?_push, if_neg (by omega)]
    by_cases hroom : xs.length + ys.length ≤ (C.τ k).2
    · -- in place
      have hfit : xs.length * i.size + news.length ≤ vs.size := by rw [hnl, hvsz, hi1, ← Nat.add_mul]; exact Nat.mul_le_mul_right _ hroom
      have hrun1 := hroomR (C.τ k).1 xs.length (C.τ k).2 vs hvs hroom hfit
      rw [hi1] at hrun1
      have hcl : ((vs.toList.take (xs.length * tk.sz) ++ news ++ vs.toList.drop (xs.length * tk.sz + news.length)).toArray).toList = vs.toList.take (xs.length * tk.sz) ++ news ++ vs.toList.drop (xs.length * tk.sz + news.length) := by simp
      refine fin (w.setRow (C.τ k).1 (vs.toList.take (xs.length * tk.sz) ++ news ++ vs.toList.drop (xs.length * tk.sz + news.length)).toArray) (C.τ k).1 (C.τ k).2 _ _ ⟨rfl, rfl, rfl, by simp [World.setRow], fun b _ hb => setRow_other w _ b _ hb⟩ (setRow_heap w _ vs _ _ _ hvs) ?_ hroom hcapm (.inl ⟨rfl, rfl, fun o' v hv => ?_⟩) hcl ?_
      · rw [hi1] at hfit
        simp only [List.size_toArray, List.length_append, List.length_take, List.length_drop, Array.length_toList]
        omega
      · have h1 := R.stable _ _ _ hv
        rw [cell_of_row w _ _ vs tk.e (0, 0) hvs] at h1
        have hlt : o' < xs.length * tk.sz := by
          apply Classical.byContradiction
          intro hge
          rw [hS7 o' (by rw [hn]; omega)] at hv
          cases hv
        have : ((vs.toList.take (xs.length * tk.sz) ++ news ++ vs.toList.drop (xs.length * tk.sz + news.length)).toArray)[o']? = (vs.toList.take (xs.length * tk.sz) ++ news ++ vs.toList.drop (xs.length * tk.sz + news.length))[o']? := by simp
        rw [this, List.append_assoc, List.getElem?_append_left (by rw [hol]; exact hlt), List.getElem?_take, if_pos hlt]
        simpa using h1
      · rw [hval, hn]
        exact hrun1
    · -- a new row
      have holdc : ∀ j v, (vs.toList.take (xs.length * tk.sz))[j]? = some v → w.cell? ((⟨(C.τ k).1, 0, none⟩ : Addr).add j) = some v := by
        intro j v hj
        rw [Addr.add_lit, Nat.zero_add, cell_of_row w _ _ vs tk.e (0, 0) hvs]
        rw [List.getElem?_take] at hj
        split at hj
        · simpa using hj
        · cases hj
      have hrun1 := hgrowR ⟨(C.τ k).1, 0, none⟩ xs.length (C.τ k).2 (vs.toList.take (xs.length * tk.sz)) (by rw [hi1]; exact hol) holdc
        (by omega) (by omega) (growslice_fits (by omega) (by rw [hi2]; exact hb))
      have hcapge := grownCap_ge w (xs.length + ys.length) (C.τ k).2 tk.e
      have hcapm2 : grownCap w (xs.length + ys.length) (C.τ k).2 tk.e ≤ maxLen := grownCap_le_maxLen w _ _ _ (by simpa [maxLen] using hm)
      refine fin (w.drew.alloc (.cells ((vs.toList.take (xs.length * tk.sz)).toArray ++ news.toArray ++ Builtin.zeroCells z.cells (grownCap w (xs.length + ys.length) (C.τ k).2 tk.e - (xs.length + ys.length))) tk.e)) w.heap.size _ _ (Builtin.zeroCells z.cells (grownCap w (xs.length + ys.length) (C.τ k).2 tk.e - (xs.length + ys.length))).toList ⟨rfl, rfl, rfl, by simp, fun b hb _ => by show (w.heap.push _)[b]? = _; rw [Array.getElem?_push, if_neg (by omega)]⟩
        (heap_alloc_at (w := w.drew) _) ?_ hcapge hcapm2 (.inr (Nat.le_refl _)) (by simp) ?_
      · simp only [Array.size_append, List.size_toArray, size_zeroCells, hzs, hnl, hol, ← Nat.add_mul]
        congr 1
        omega
      · rw [hval, hn]
        exact hrun1
  · -- onto what was made, and is full
    rename_i id lo n cap
    obtain ⟨rfl, h⟩ := h
    replace h := bindO_elim h
    obtain ⟨xs0, hxs0, h⟩ := h
    replace h := bindO_elim h
    obtain ⟨xs, hxs, hxl, hb, hm, hk⟩ := h
    obtain ⟨ev, _, _⟩ := rep_ms (ev_rep E hd)
    have hlx := (fzLL_get hxs).1
    obtain ⟨B, c', ex'⟩ := src_len E hd hxs0
    rw [ev] at ex'
    have holds : ∃ b, ∃ olds : List Value, a.eval x = .slice (some b) xs.length xs.length ∧ olds.length = xs.length * sz ∧ (∀ j u, olds[j]? = some u → w.cell? (b.add j) = some u) ∧
        ∀ (j i : Nat) (x : List PV) (p : PV), xs[j]? = some x → x[i]? = some p → ∃ u, olds[j * sz + i]? = some u ∧ RepF C.S u p := by
      injection ex' with _ en _
      by_cases hne : xs = []
      · refine ⟨⟨C.ρ id, lo, none⟩, [], ?_, by simp [hne], fun j u hu => by simp at hu, fun j i x p hx => by simp [hne] at hx⟩
        rw [ev, en, ← hlx]
      · obtain ⟨b, c1, e1, olds, g1, g2, _, g4⟩ := src_sound E R hd hxs0 hxs hxl h0 hne
        refine ⟨b, olds, ?_, g1, g2, g4⟩
        have e2 := e1
        rw [ev] at e2
        injection e2 with _ e3 e4
        rw [e1, ← e4, e3]
    obtain ⟨b, olds, ex, hol, holdc, hor⟩ := holds
    have hrun1 := hgrowR b xs.length xs.length olds (by rw [hi1]; exact hol) holdc
      (by omega) (by omega) (growslice_fits (by omega) (by rw [hi2]; exact hb))
    have hcapge : xs.length + ys.length ≤ grownCap w (xs.length + ys.length) xs.length e := grownCap_ge w (xs.length + ys.length) xs.length e
    have hcapm : grownCap w (xs.length + ys.length) xs.length e ≤ maxLen := grownCap_le_maxLen w _ _ _ (by simpa [maxLen] using hm)
    let cur : Array Value := olds.toArray ++ news.toArray ++ Builtin.zeroCells z.cells (grownCap w (xs.length + ys.length) xs.length e - (xs.length + ys.length))
    have hcs : cur.size = grownCap w (xs.length + ys.length) xs.length e * sz := by
      simp only [cur, Array.size_append, List.size_toArray, size_zeroCells, hzs, hnl, hol, ← Nat.add_mul]
      congr 1
      omega
    obtain ⟨R', X'⟩ := R.row (w' := w.drew.alloc (.cells cur e)) (k := tk0) (g := w.heap.size) (cap := grownCap w (xs.length + ys.length) xs.length e) (n := xs.length + ys.length) (e := e) (sz := sz) (cur := cur)
      ⟨rfl, rfl, rfl, by simp, fun b hb _ => by show (w.heap.push _)[b]? = _; rw [Array.getElem?_push, if_neg (by omega)]⟩ (heap_alloc_at (w := w.drew) _) hcs hcapge hcapm
      (.inl ⟨by cases hl : lkp st.toks tk0 with | none => rfl | some t => exact absurd (R.tok _ _ hl).1 hV, hV, Nat.le_refl _⟩) hVV hV' st.nx st.nt
    refine ⟨_, _, _, _, _, hrun _ _ (by rw [ex]; exact hrun1), R', X', rfl, ?_, _, hk, rfl⟩
    have hlen : (xs ++ ys).length = xs.length + ys.length := List.length_append
    have hrows := rowsF (S := (C.keep tk0 w.heap.size (grownCap w (xs.length + ys.length) xs.length e) ((xs.length + ys.length) * sz) cur).S) (sz := sz) (xs := xs) (ys := ys) (olds := olds) (news := news) (cur := cur)
      (rest := (Builtin.zeroCells z.cells (grownCap w (xs.length + ys.length) xs.length e - (xs.length + ys.length))).toList) (by simp [cur]) hol hnl hxl hyl
      (fun j i x p hx hp => by obtain ⟨u, h1, h2⟩ := hor j i x p hx hp; exact ⟨u, h1, h2.mono X'.S⟩)
      (fun j i x p hx hp => by obtain ⟨u, h1, h2⟩ := hnr j i x p hx hp; exact ⟨u, h1, h2.mono X'.S⟩)
    have hrF := rowF (S := (C.keep tk0 w.heap.size (grownCap w (xs.length + ys.length) xs.length e) ((xs.length + ys.length) * sz) cur).S) (sz := sz) (g := w.heap.size) (cur := cur) (xs := xs ++ ys) (fun o ho => by
      rw [hlen] at ho
      show (if w.heap.size = w.heap.size ∧ o < (xs.length + ys.length) * sz then cur[o]? else C.S w.heap.size o) = _
      rw [if_pos ⟨rfl, ho⟩]) (by rw [hlen]; exact hcapge) (by rw [hcs, hlen]; exact Nat.mul_le_mul_right _ hcapge) hrows.1 hrows.2
    rw [hlen] at hrF
    refine .row hrF hV' (fun t ht => ?_)
    rw [lkp_upd, if_pos rfl] at ht
    obtain rfl := Option.some.inj ht
    exact ⟨by rw [hlen]; exact Nat.le_refl _, hrows.1, fun _ => by simp [Cx.keep]⟩
  · exact h.elim

theorem run_append_emptyS {t u ty e : TypeId} {sz : Nat} (hu : P.underlying t = some (.slice e)) (hu' : P.underlying u = some .string) (hn : sizeOf? P e = some sz) (A : Option Addr) (n c : Nat) (s : ByteArray) (hs : s.size = 0) (hc : n ≤ c) (w : World) :
    (Builtin.append_ #[t, u] ty #[.slice A n c, .string s]).run P w = .ok (.slice A n c) w := by
  cases A <;> simp [Builtin.append_, run_underlying hu, run_underlying hu', run_sizeOf? hn, Builtin.lenOf, hc, hs, Builtin.firstCells, loadCells, loadCellsFrom, storeCells]
theorem append_sound (E : Env C U V st a) (R : Rel own S0 w0 C U V st w) {o : Oper} {c : Call} (ho : o.op = .call c) (hc : c.callee = .builtin .append) {K : Delta → Prop} {tk0 : Nat} (hV : ¬ V tk0) {V' : Nat → Prop} (hVV : ∀ i, V i → V' i) (hV' : V' tk0) (h : appendK P st tk0 c K) :
    ∃ v p st' w' C', (execOp a.eval o).run P w = .ok (.value v) w' ∧ Rel own S0 w0 C' U V' st' w' ∧ Ext C C' st.toks st'.toks U V U V' ∧ st'.env = st.env ∧ RepV C' st'.toks U V' v p ∧ ∃ d, K d ∧ d.apply o.dst st = st'.put o.dst p := by
  have X : Ext C C st.toks st.toks U V U V' := ⟨SLe.refl _, fun _ _ => rfl, fun k t _ h => ⟨t, h, Nat.le_refl _, rfl, fun _ => rfl⟩, fun _ h => h, hVV⟩
  have sliceV : ∀ {x : Operand} {d : PV}, st.ev x = some d → sliceLike d = true → ∃ A n cc, a.eval x = .slice A n cc ∧ n ≤ cc := by
    intro x d hd hsl
    have hr := ev_rep E hd
    unfold sliceLike at hsl
    split at hsl
    · exact ⟨none, 0, 0, (rep_val hr).1, Nat.le_refl _⟩
    · have := rep_sl (.inl hr)
      generalize a.eval x = v at this
      cases this with | sl f hn hc hsz hA hrr => exact ⟨_, _, _, rfl, hc⟩
    · have := rep_sl (.inr ⟨_, hr⟩)
      generalize a.eval x = v at this
      cases this with | sl f hn hc hsz hA hrr => exact ⟨_, _, _, rfl, hc⟩
    · obtain ⟨ev, _, hle⟩ := rep_ms hr
      exact ⟨_, _, _, ev, hle⟩
    · cases hsl
  unfold appendK at h
  split at h
  · rename_i x y t t' hx ht
    have e1 : c.args = #[x, y] := by rw [← Array.toArray_toList (xs := c.args), hx]
    have e2 : c.argTypes = #[t, t'] := by rw [← Array.toArray_toList (xs := c.argTypes), ht]
    have hrun : ∀ v w', (Builtin.append_ #[t, t'] o.type #[a.eval x, a.eval y]).run P w = .ok v w' → (execOp a.eval o).run P w = .ok (.value v) w' := by
      intro v w' hv
      simp [execOp, ho, resolve, hc, invoke, builtin, e1, e2, hv]
    split at h
    · rename_i e hu
      replace h := bindO_elim h
      obtain ⟨sz, hsz, h⟩ := h
      replace h := bindO_elim h
      obtain ⟨by_, hby, h⟩ := h
      replace h := bindO_elim h
      obtain ⟨z, hz, hzs, h0, h⟩ := h
      replace h := bindO_elim h
      obtain ⟨d, hd, h⟩ := h
      replace h := bindO_elim h
      obtain ⟨s, hs, h⟩ := h
      obtain ⟨i, hi, hi1, hi2, hi3⟩ := info_of hsz hby hz
      split at h
      · -- a text's bytes
        rename_i s
        obtain ⟨hu', rfl, rfl, h⟩ := h
        have ey : a.eval y = .string s := (rep_val (ev_rep E hs)).1
        have hlen : (encS s).length = s.size := by simp [encS]
        have hcl : (Lib.strCells s).length = s.size := Lib.strCells_length s
        by_cases hs0 : s.size = 0
        · have hys : encS s = [] := List.length_eq_zero_iff.1 (by omega)
          rw [hys] at h
          obtain ⟨hsl, hk⟩ := h
          obtain ⟨A, n, cc, ex, hle⟩ := sliceV hd hsl
          refine ⟨a.eval x, d, st, w, C, hrun _ _ ?_, R.wider hVV, X, rfl, (ev_rep E hd).ext X, _, hk, rfl⟩
          rw [ex, ey]
          exact run_append_emptyS hu hu' hsz A n cc s hs0 hle w
        · refine append_core E R hV hVV hV' (fun v w' hv => hrun v w' hv) (i := i) (news := Lib.strCells s) hzs h0 hi1 hi2 hd (by omega) (fun q hq => ?_) (by rw [hcl, hlen, Nat.mul_one]) (Lib.strCells_oneCell s) (fun j i' q p hq hp => ?_) (fun k1 k2 => ?_) (fun g sLen sCap cur hg k1 k2 => ?_) (fun b sLen sCap olds k1 k2 k3 k4 k5 => ?_) h
          · obtain ⟨b, _, rfl⟩ := List.mem_map.1 hq
            rfl
          · unfold encS at hq
            rw [List.getElem?_map] at hq
            cases hb : s.data.toList[j]? with
            | none => rw [hb] at hq; cases hq
            | some b =>
              rw [hb] at hq
              obtain rfl := Option.some.inj hq
              cases i' with
              | zero =>
                simp at hp
                subst hp
                exact ⟨_, by rw [Nat.mul_one, Nat.add_zero]; unfold Lib.strCells; rw [List.getElem?_map, hb]; rfl, .val rfl⟩
              | succ i' => simp at hp
          · rw [hlen] at k1 k2 ⊢
            have := run_append_nil_string (P := P) w t t' o.type e i _ hu hu' hi hi3 s (by omega) k1 k2
            rw [ey, this]
            congr 4
            unfold Lib.strCells
            apply Array.ext'
            simp
          · rw [hlen] at k1 ⊢
            have := Lib.run_append_room_string (P := P) w t t' o.type e i hu hu' hi hi1 g sLen sCap cur hg s k1 (by rw [hi1, Nat.mul_one, hcl] at k2; exact k2)
            rw [ey, this, hi1, Nat.mul_one, hcl]
          · rw [hlen] at k3 k4 k5 ⊢
            have := Lib.run_append_grow_string (P := P) w t t' o.type e i _ hu hu' hi hi3 b sLen sCap olds k1 k2 s k3 k4 k5
            rw [ey, this]
      · obtain ⟨rfl, h⟩ := h
        replace h := bindO_elim h
        obtain ⟨ys0, hys0, h⟩ := h
        replace h := bindO_elim h
        obtain ⟨ys, hys, hyl, h⟩ := h
        cases ys with
        | nil =>
          obtain ⟨hsl, hk⟩ := h
          obtain ⟨B, c', ey⟩ := src_len E hs hys0
          have hy0 : ys0.length = 0 := (fzLL_get hys).1
          rw [hy0] at ey
          obtain ⟨A, n, cc, ex, hle⟩ := sliceV hd hsl
          refine ⟨a.eval x, d, st, w, C, hrun _ _ ?_, R.wider hVV, X, rfl, (ev_rep E hd).ext X, _, hk, rfl⟩
          rw [ex, ey]
          exact run_append_empty hu hsz A B n cc c' hle w
        | cons y0 r =>
          obtain ⟨ad, cy, ey, news, hnl, hncell, hn1, hnr⟩ := src_sound E R hs hys0 hys hyl h0 (by simp)
          refine append_core E R hV hVV hV' (fun v w' hv => hrun v w' hv) (i := i) (news := news) hzs h0 hi1 hi2 hd (by simp) hyl hnl hn1 hnr (fun k1 k2 => ?_) (fun g sLen sCap cur hg k1 k2 => ?_) (fun b sLen sCap olds k1 k2 k3 k4 k5 => ?_) h
          · rw [ey]
            exact run_append_nil (P := P) w t o.type e i z hu hi hi3 ad _ cy news (by rw [hi1]; exact hnl) hncell (by simp) k1 k2
          · rw [ey]
            exact run_append_room (P := P) w t o.type e i hu hi g sLen sCap cur hg ad _ cy news (by rw [hi1]; exact hnl) hncell hn1 k1 k2
          · rw [ey]
            exact run_append_grow (P := P) w t o.type e i z hu hi hi3 b sLen sCap olds k1 k2 ad _ cy news (by rw [hi1]; exact hnl) hncell k3 k4 k5
    · exact h.elim
  · exact h.elim
end
end Go.Pw

end
section
/-
  The machine does what stepK says: all steps.
-/
namespace Go.Pw
open Go Go.RowKit
set_option linter.unusedVariables false
set_option linter.unusedSimpArgs false
section
variable {P : Program} {own : Nat → Prop} {S0 : Base} {w0 w : World} {C : Cx} {U V : Nat → Prop} {st : PS} {a : Act} {N : Nat}

/-- A list's literal, cell by cell. -/
theorem fill_rows {sz : Nat} : ∀ (parts : List (Nat × Value)) (k : Nat) (cells : Array Value), (∀ (j : Nat) (e : Nat × Value), parts[j]? = some e → e.1 = k + j ∧ e.2.cells.size = sz) → (k + parts.length) * sz ≤ cells.size →
    ∃ out, Instr.fill (fun i => some (i * sz, sz)) cells parts = some out ∧ out.toList = cells.toList.take (k * sz) ++ (parts.flatMap fun e => e.2.cells.toList) ++ cells.toList.drop ((k + parts.length) * sz)
  | [], k, cells, _, h => ⟨cells, rfl, by simp⟩
  | (i, v) :: r, k, cells, hp, h => by
    obtain ⟨h1, h2⟩ := hp 0 (i, v) rfl
    simp only [Nat.add_zero] at h1 h2
    subst h1
    have hle : i * sz + sz ≤ cells.size := by
      have : (i + 1) * sz ≤ (i + (r.length + 1)) * sz := Nat.mul_le_mul_right _ (by omega)
      rw [Nat.add_mul, Nat.one_mul] at this
      simp only [List.length_cons] at h
      omega
    have hfold : v.cells.zipIdx.foldl (fun cs (c, j) => cs.setIfInBounds (i * sz + j) c) cells = (v.cells.toList.zipIdx 0).foldl (fun cs (c, j) => cs.setIfInBounds (i * sz + j) c) cells := by
      rw [← Array.foldl_toList]
      simp
    have hvl : v.cells.toList.length = sz := by simpa using h2
    have hput := fold_put v.cells.toList (i * sz) 0 cells (by rw [hvl]; omega)
    rw [Nat.add_zero, hvl] at hput
    have hsize : ((v.cells.toList.zipIdx 0).foldl (fun cs (c, j) => cs.setIfInBounds (i * sz + j) c) cells).size = cells.size := by
      have := congrArg List.length hput
      simp only [List.length_append, List.length_take, List.length_drop, Array.length_toList, hvl] at this
      rw [this, Nat.min_eq_left (by omega)]
      omega
    obtain ⟨out, ho, hl⟩ := fill_rows r (i + 1) ((v.cells.toList.zipIdx 0).foldl (fun cs (c, j) => cs.setIfInBounds (i * sz + j) c) cells) (fun j e he => by
      obtain ⟨g1, g2⟩ := hp (j + 1) e (by simpa using he)
      exact ⟨by omega, g2⟩) (by rw [hsize]; simp only [List.length_cons] at h; rw [show i + 1 + r.length = i + (r.length + 1) by omega]; exact h)
    refine ⟨out, ?_, ?_⟩
    · unfold Instr.fill
      simp only
      rw [if_neg (by simp only [ne_eq, h2, not_true_eq_false, decide_false, Bool.false_or, gt_iff_lt, decide_eq_true_eq]; omega), hfold]
      exact ho
    · rw [hl, hput]
      have e1 : (i + 1) * sz = i * sz + sz := by rw [Nat.add_mul, Nat.one_mul]
      have e2 : (i + 1 + r.length) * sz = i * sz + sz + r.length * sz := by rw [Nat.add_mul, e1]
      have e3 : (i + (r.length + 1)) * sz = i * sz + sz + r.length * sz := by rw [← e2]; congr 1; omega
      have htl : (cells.toList.take (i * sz) ++ v.cells.toList).length = i * sz + sz := by
        rw [List.length_append, List.length_take, Array.length_toList, hvl, Nat.min_eq_left (by omega)]
      rw [e1, e2, List.flatMap_cons, List.length_cons, e3, List.take_left' htl, List.drop_append, htl]
      rw [List.drop_eq_nil_of_le (by rw [htl]; omega)]
      simp only [List.nil_append, List.drop_drop, List.append_assoc]
      congr 4
      omega

theorem flatMap_get {α β : Type} (f : α → List β) (sz : Nat) : ∀ (l : List α), (∀ x ∈ l, (f x).length = sz) → (l.flatMap f).length = l.length * sz ∧ ∀ (j i : Nat) (x : α), l[j]? = some x → i < sz → (l.flatMap f)[j * sz + i]? = (f x)[i]?
  | [], _ => ⟨by simp, fun j i x h => by simp at h⟩
  | y :: r, h => by
    obtain ⟨h1, h2⟩ := flatMap_get f sz r (fun x hx => h x (by simp [hx]))
    have hy := h y (by simp)
    refine ⟨by rw [List.flatMap_cons, List.length_append, h1, hy, List.length_cons, Nat.add_mul, Nat.one_mul]; omega, fun j i x hx hi => ?_⟩
    rw [List.flatMap_cons]
    cases j with
    | zero =>
      simp at hx
      subst hx
      rw [Nat.zero_mul, Nat.zero_add, List.getElem?_append_left (by omega)]
    | succ j =>
      rw [List.getElem?_append_right (by rw [hy, Nat.add_mul, Nat.one_mul]; omega)]
      have e : (j + 1) * sz + i - (f y).length = j * sz + i := by rw [hy, Nat.add_mul, Nat.one_mul]; omega
      rw [e]
      exact h2 j i x (by simpa using hx) hi

theorem Rel.wide (R : Rel own S0 w0 C U V st w) {U' V' : Nat → Prop} (hUU : ∀ i, U i → U' i) (hVV : ∀ i, V i → V' i) : Rel own S0 w0 C U' V' st w := by
  have X : Ext C C st.toks st.toks U V U' V' := ⟨SLe.refl _, fun _ _ => rfl, fun k t _ h => ⟨t, h, Nat.le_refl _, rfl, fun _ => rfl⟩, hUU, hVV⟩
  refine ⟨R.frame, R.stable, fun id T cs h => ?_, R.iter, fun id o h => ?_, R.hinj, fun k t h => ?_, R.tbox, R.tinj, R.snew, R.sold, R.base.trans X, R.glob⟩
  · obtain ⟨vs, h1, h2, h3⟩ := R.box id T cs h
    exact ⟨vs, h1, h2, fun i v p hv hp => ⟨(h3 i v p hv hp).1, (h3 i v p hv hp).2.ext X⟩⟩
  · obtain ⟨h1, h2⟩ := R.hown id o h
    exact ⟨hUU _ h1, h2⟩
  · obtain ⟨h1, h2⟩ := R.tok k t h
    exact ⟨hVV _ h1, h2⟩
theorem Rel.nxnt (R : Rel own S0 w0 C U V st w) (a b : Nat) : Rel own S0 w0 C U V { st with nx := a, nt := b } w := ⟨R.frame, R.stable, R.box, R.iter, R.hown, R.hinj, R.tok, R.tbox, R.tinj, R.snew, R.sold, R.base, R.glob⟩
theorem Ext.wider {C C' : Cx} {T T' : List (Nat × Tok)} {U V U' V' V'' : Nat → Prop} (e : Ext C C' T T' U V U' V') (h : ∀ i, V' i → V'' i) : Ext C C' T T' U V U' V'' := ⟨e.S, e.ρ, e.tok, e.nx, fun i hi => h i (e.nt i hi)⟩
theorem Ext.wideU {C C' : Cx} {T T' : List (Nat × Tok)} {U V U' U'' V' : Nat → Prop} (e : Ext C C' T T' U V U' V') (h : ∀ i, U' i → U'' i) : Ext C C' T T' U V U'' V' := ⟨e.S, e.ρ, e.tok, fun i hi => h i (e.nx i hi), e.nt⟩
theorem RepL.ext {C C' : Cx} {T T' : List (Nat × Tok)} {U V U' V' : Nat → Prop} (e : Ext C C' T T' U V U' V') {vs : List Value} {cs : List PV} (r : RepL C T U V vs cs) : RepL C' T' U' V' vs cs :=
  ⟨r.1, fun i v p hv hp => ⟨(r.2 i v p hv hp).1, (r.2 i v p hv hp).2.ext e⟩⟩
theorem RepL.mkPV {T : List (Nat × Tok)} {U V : Nat → Prop} {v : Value} {p : PV} (r : RepV C T U V v p) (h : notTup p = true) : RepL C T U V v.cells.toList p.cells :=
  r.cells (fun cs e => by subst e; simp [notTup] at h)

theorem stepN_sound (E : Env C U V st a) (R : Rel own S0 w0 C U V st w) (hd : a.defers = []) (hs : a.tmps.size = N) {o : Oper} (hf : fitsDst N o.dst = true) {K : PS → Prop} {id tk : Nat} {U' V' : Nat → Prop} (hUU : ∀ i, U i → U' i) (hVV : ∀ i, V i → V' i)
    (hid : makesObj o = true → ¬ U id ∧ U' id) (htk : makesTok o = true → ¬ V tk ∧ V' tk) (h : stepN0 P o st id tk K) {Q : Exit → Act → World → Prop} :
    Oper.wp P o a w (fun a' w' => ∃ st', K st' ∧ StN own S0 w0 N U' V' st' a' w') Q := by
  unfold Oper.wp
  have Xw : Ext C C st.toks st.toks U V U' V' := ⟨SLe.refl _, fun _ _ => rfl, fun k t _ h => ⟨t, h, Nat.le_refl _, rfl, fun _ => rfl⟩, hUU, hVV⟩
  have Rw : Rel own S0 w0 C U' V' st w := R.wide hUU hVV
  -- a value, in a world that may have grown
  have val : ∀ (v : Value) (p : PV) (st' : PS) (w' : World) (C' : Cx), (execOp a.eval o).run P w = .ok (.value v) w' → Rel own S0 w0 C' U' V' st' w' → Ext C C' st.toks st'.toks U V U' V' → st'.env = st.env →
      RepV C' st'.toks U' V' v p → K (st'.put o.dst p) → o.upon P a (fun a' w' => ∃ st', K st' ∧ StN own S0 w0 N U' V' st' a' w') Q ((execOp a.eval o).run P w) := by
    intro v p st' w' C' hr R' X' he r hk
    rw [hr, Oper.upon_value]
    exact ⟨_, hk, StN.of_put hd hs hf R' (E.ext X' he) r⟩
  have pure : ∀ {op : Op}, o.op = op → valK P st op (fun p => K (st.put o.dst p)) → o.upon P a (fun a' w' => ∃ st', K st' ∧ StN own S0 w0 N U' V' st' a' w') Q ((execOp a.eval o).run P w) := by
    intro op ho h
    obtain ⟨v, p, h1, h2, h3⟩ := valK_sound E R ho h
    exact val v p st w C h1 Rw Xw rfl (h2.ext Xw) h3
  unfold stepN0 stepD at h
  split at h
  · -- alloc
    rename_i T ho
    replace h := bindO_elim h
    obtain ⟨z, hz, hc, hk⟩ := h
    have hrl : RepL C st.toks U V z.cells.toList (constPV z).cells := (constPV_rep hc).cells (fun cs e => by cases z <;> simp [constPV] at e)
    obtain ⟨hid1, hid2⟩ := hid (by simp [makesObj, ho])
    have R' := (R.newObj id hid1 hUU hid2 (.box T (constPV z).cells) (.cells z.cells T) (fun T' cs e => by injection e with e1 e2; subst e1 e2; exact ⟨_, rfl, hrl⟩) (fun s pos e => by cases e) st.nx st.nt).wide (fun _ h => h) hVV
    have X' := (R.ext_at w.heap.size id hid1 hUU).trans ((Ext.refl _ _ _ _).wider hVV)
    refine val (.pointer (some ⟨w.heap.size, 0, none⟩)) _ _ _ _ ?_ R' X' rfl ?_ hk
    · simp [execOp, ho, Instr.alloc, run_zeroOf? hz, newVar, newRow]
    · have : RepV (C.at id w.heap.size) st.toks U' V' (.pointer (some ⟨(C.at id w.heap.size).ρ id, 0, none⟩)) (.ptr id 0) := .ptr hid2
      simpa [Cx.at] using this
  · -- box
    rename_i T x ho
    replace h := bindO_elim h
    obtain ⟨p, hp, hnt, hk⟩ := h
    have hrl := RepL.mkPV (ev_rep E hp) hnt
    obtain ⟨hid1, hid2⟩ := hid (by simp [makesObj, ho])
    have R' := (R.newObj id hid1 hUU hid2 (.box T p.cells) (.cells (a.eval x).cells T) (fun T' cs e => by injection e with e1 e2; subst e1 e2; exact ⟨_, rfl, hrl⟩) (fun s pos e => by cases e) st.nx st.nt).wide (fun _ h => h) hVV
    have X' := (R.ext_at w.heap.size id hid1 hUU).trans ((Ext.refl _ _ _ _).wider hVV)
    refine val (.pointer (some ⟨w.heap.size, 0, none⟩)) _ _ _ _ ?_ R' X' rfl ?_ hk
    · simp [execOp, ho, Instr.box, newVar, newRow]
    · have : RepV (C.at id w.heap.size) st.toks U' V' (.pointer (some ⟨(C.at id w.heap.size).ρ id, 0, none⟩)) (.ptr id 0) := .ptr hid2
      simpa [Cx.at] using this
  · -- store
    rename_i t x y ho
    replace h := bindO_elim h
    obtain ⟨p, hp, h⟩ := h
    replace h := bindO_elim h
    obtain ⟨q, hq, h⟩ := h
    split at h
    · rename_i id1 off
      replace h := bindO_elim h
      obtain ⟨ob, hob, h⟩ := h
      split at h
      · rename_i T cs
        obtain ⟨hsz, hnt, hfit, hk⟩ := h
        obtain ⟨ev, hid0⟩ := rep_ptr (ev_rep E hp)
        obtain ⟨vs, hb, hvs, hrep⟩ := R.box id1 T cs hob
        have hql := RepL.mkPV (ev_rep E hq) hnt
        have hvl : RepL C st.toks U V vs.toList cs := ⟨by simpa using hvs, fun i v p hv hp => hrep i v p (by simpa using hv) hp⟩
        have hlq : (a.eval y).cells.toList.length = q.cells.length := hql.1
        have h1 : ∀ v ∈ (a.eval y).cells.toList, v.oneCell' = true := fun v hv => by
          obtain ⟨i, hi, e⟩ := List.getElem_of_mem hv
          have hv' : (a.eval y).cells.toList[i]? = some v := by rw [List.getElem?_eq_getElem hi, e]
          exact (hql.2 i v _ hv' (List.getElem?_eq_getElem (by omega))).1
        have hst := run_storeCells_at P (C.ρ id1) off T (a.eval y).cells.toList 0 vs w hb (by rw [hlq, hvs]; omega) h1
        rw [Nat.add_zero] at hst
        have R' := R.store hob (cs' := cs.take off ++ q.cells ++ cs.drop (off + q.cells.length)) (vs' := (vs.toList.take off ++ (a.eval y).cells.toList ++ vs.toList.drop (off + (a.eval y).cells.toList.length)).toArray)
          (by rw [hlq]; simpa using ((hvl.take off).app hql).app (hvl.drop _))
        have hrun : (execOp a.eval o).run P w = .ok .skip (w.setRow (C.ρ id1) (vs.toList.take off ++ (a.eval y).cells.toList ++ vs.toList.drop (off + (a.eval y).cells.toList.length)).toArray) := by
          have hne : ¬ ((a.eval y).cells.size ≠ q.cells.length) := by simpa using hlq
          simp only [execOp, ho, Instr.storeAt, ev, Instr.sureAddr, storeVar, Sem.run_bind, Sem.run_pure, Result.andThen_ok, run_sizeOf? hsz, if_neg hne, hst]
        rw [hrun, Oper.upon_skip]
        exact ⟨_, hk, StN.of_kill hd hs hf (R'.wide hUU hVV) (E.ext Xw rfl)⟩
      · exact h.elim
    · exact h.elim
  · -- a list's literal
    rename_i t len parts ho
    split at h
    · rename_i e hu
      replace h := bindO_elim h
      obtain ⟨sz, hsz, h⟩ := h
      replace h := bindO_elim h
      obtain ⟨z, hz, h⟩ := h
      replace h := bindO_elim h
      obtain ⟨ps, hps, h⟩ := h
      replace h := bindO_elim h
      obtain ⟨xs, hxs, h0, hzs, hxl, hlen, hlim, hk⟩ := h
      have hev : ∀ (ops : List (Nat × Operand)) (ps : List (Nat × PV)), evParts st ops = some ps → ops.length = ps.length ∧ ∀ (j : Nat) (x : Nat × Operand) (y : Nat × PV), ops[j]? = some x → ps[j]? = some y → x.1 = y.1 ∧ st.ev x.2 = some y.2 := by
        intro ops
        induction ops with
        | nil => intro ps h; simp only [evParts, Option.some.injEq] at h; subst h; exact ⟨rfl, fun j x y hx => by simp at hx⟩
        | cons b r ih =>
          intro ps h
          obtain ⟨i, x⟩ := b
          simp only [evParts] at h
          split at h
          · rename_i p l hp hl
            obtain rfl := Option.some.inj h
            obtain ⟨g1, g2⟩ := ih l hl
            refine ⟨by simp [g1], fun j u y hu hy => ?_⟩
            cases j with
            | zero => simp at hu hy; subst hu hy; exact ⟨rfl, hp⟩
            | succ j => exact g2 j u y (by simpa using hu) (by simpa using hy)
          · cases h
      obtain ⟨hl1, hg1⟩ := hev _ _ hps
      obtain ⟨hl2, hg2⟩ := valsOf_get hxs
      have hpl : (parts.toList.map fun x => (x.1, a.eval x.2)).length = len := by simp only [List.length_map]; omega
      -- each part's cells
      have hpart : ∀ (j : Nat) (e' : Nat × Value), (parts.toList.map fun x => (x.1, a.eval x.2))[j]? = some e' → e'.1 = j ∧ e'.2.cells.size = sz ∧ ∃ x, xs[j]? = some x ∧ ∀ (i : Nat) (p : PV), x[i]? = some p → ∃ u, e'.2.cells.toList[i]? = some u ∧ RepF C.S u p := by
        intro j e' he
        have hj : j < parts.toList.length := by
          have := (List.getElem?_eq_some_iff.1 he).1
          simpa using this
        have hx1 := List.getElem?_eq_getElem hj
        have hx2 := List.getElem?_eq_getElem (show j < ps.length by omega)
        have hx3 := List.getElem?_eq_getElem (show j < xs.length by omega)
        obtain ⟨g1, g2⟩ := hg1 j _ _ hx1 hx2
        obtain ⟨g3, g4⟩ := hg2 j _ _ hx2 hx3
        have he' : e' = ((parts.toList[j]).1, a.eval (parts.toList[j]).2) := by
          rw [List.getElem?_map, hx1] at he
          exact (Option.some.inj he).symm
        subst he'
        have hnt : notTup (ps[j]).2 = true := by
          cases hq : (ps[j]).2 <;> first | rfl | (rw [hq] at g4; simp [PV.cells, fzL, fz] at g4)
        have hcl := RepL.mkPV (ev_rep E g2) hnt
        obtain ⟨g5, g6⟩ := fzL_get g4
        have hxj := hxl _ (List.mem_of_getElem? hx3)
        have hcs : (a.eval (parts.toList[j]).2).cells.toList.length = sz := by rw [hcl.1, g5, hxj]
        refine ⟨by simp only; omega, by simpa using hcs, _, hx3, fun i p hp => ?_⟩
        have hi : i < (xs[j]).length := (List.getElem?_eq_some_iff.1 hp).1
        have h1 := List.getElem?_eq_getElem (show i < (a.eval (parts.toList[j]).2).cells.toList.length by omega)
        have h2 := List.getElem?_eq_getElem (show i < (ps[j]).2.cells.length by omega)
        exact ⟨_, h1, fz_rep (C := C) (g6 i _ p h2 hp) (hcl.2 i _ _ h1 h2).2⟩
      obtain ⟨out, hfill, hout⟩ := fill_rows (sz := sz) (parts.toList.map fun x => (x.1, a.eval x.2)) 0 ((Array.range (len * sz)).map fun i => (if len * sz = 0 then #[] else z.cells)[i % (if len * sz = 0 then #[] else z.cells).size]!)
        (fun j e' he => ⟨by have := (hpart j e' he).1; omega, (hpart j e' he).2.1⟩) (by simp [hpl])
      have hmapL : ((parts.map fun x => (x.1, a.eval x.2)).toList) = parts.toList.map fun x => (x.1, a.eval x.2) := by simp
      have hnlim : ¬ (len * sz > 2 ^ 24) := by omega
      have hrun : (execOp a.eval o).run P w = .ok (.value (.slice (some ⟨w.heap.size, 0, none⟩) len len)) (w.alloc (.cells out e)) := by
        by_cases hz0 : len * sz = 0
        · simp only [if_pos hz0] at hfill
          simp only [execOp, ho, Instr.buildSlice, Sem.run_bind, run_underlying hu, Result.andThen_ok, run_sizeOf? hsz, if_neg hnlim, if_pos hz0, hmapL, hfill, newRow, run_newObj, Sem.run_pure]
          rfl
        · simp only [if_neg hz0] at hfill
          simp only [execOp, ho, Instr.buildSlice, Sem.run_bind, run_underlying hu, Result.andThen_ok, run_sizeOf? hsz, if_neg hnlim, if_neg hz0, run_zeroOf? hz, hmapL, hfill, newRow, run_newObj, Sem.run_pure]
          rfl
      have hsizes : ∀ x ∈ (parts.toList.map fun x => (x.1, a.eval x.2)), ((fun e' : Nat × Value => e'.2.cells.toList) x).length = sz := fun x hx => by
        obtain ⟨j, hj, ej⟩ := List.getElem_of_mem hx
        have := (hpart j x (by rw [List.getElem?_eq_getElem hj, ej])).2.1
        simpa using this
      obtain ⟨hfl, hfg⟩ := flatMap_get (fun e' : Nat × Value => e'.2.cells.toList) sz _ hsizes
      rw [hpl] at hfl
      have hout' : out.toList = (parts.toList.map fun x => (x.1, a.eval x.2)).flatMap (fun e' : Nat × Value => e'.2.cells.toList) := by
        rw [hout, Nat.zero_mul, Nat.zero_add, hpl, List.take_zero, List.nil_append, List.drop_eq_nil_of_le (by simp), List.append_nil]
      have hosz : out.size = len * sz := by
        rw [← hfl, ← hout']
        simp
      obtain ⟨htk1, htk2⟩ := htk (by simp [makesTok, ho])
      obtain ⟨R', X'⟩ := R.row (w' := w.alloc (.cells out e)) (k := tk) (g := w.heap.size) (cap := len) (n := len) (e := e) (sz := sz) (cur := out)
        ⟨rfl, rfl, rfl, by simp, fun b hb _ => by show (w.heap.push _)[b]? = _; rw [Array.getElem?_push, if_neg (by omega)]⟩ (heap_alloc_at _) hosz (Nat.le_refl _)
        (by have := Nat.le_mul_of_pos_right len h0; simp only [maxLen]; omega)
        (.inl ⟨by cases hl : lkp st.toks tk with | none => rfl | some t => exact absurd (R.tok _ _ hl).1 htk1, htk1, Nat.le_refl _⟩) hVV htk2 st.nx st.nt
      refine val _ _ _ _ _ hrun (R'.wide hUU (fun _ h => h)) (X'.wideU hUU) rfl ?_ hk
      have hrows := rowsF (S := (C.keep tk w.heap.size len (len * sz) out).S) (sz := sz) (xs := []) (ys := xs) (olds := []) (news := out.toList) (cur := out) (rest := []) (by simp) (by simp) (by simp [hosz, hlen]) (by simp) hxl (by simp)
        (fun j i x p hx hp => by
          have hj : j < (parts.toList.map fun x => (x.1, a.eval x.2)).length := by rw [hpl, ← hlen]; exact (List.getElem?_eq_some_iff.1 hx).1
          have h1 := List.getElem?_eq_getElem hj
          obtain ⟨_, _, x', hx', hc⟩ := hpart j _ h1
          rw [hx] at hx'
          obtain rfl := Option.some.inj hx'
          obtain ⟨u, g1, g2⟩ := hc i p hp
          have hi : i < sz := by rw [← hxl x (List.mem_of_getElem? hx)]; exact (List.getElem?_eq_some_iff.1 hp).1
          refine ⟨u, ?_, g2.mono X'.S⟩
          rw [hout', hfg j i _ h1 hi]
          exact g1)
      simp only [List.nil_append] at hrows
      have hrF := rowF (S := (C.keep tk w.heap.size len (len * sz) out).S) (sz := sz) (g := w.heap.size) (cap := len) (cur := out) (xs := xs) (fun o' ho' => by
        rw [hlen] at ho'
        show (if w.heap.size = w.heap.size ∧ o' < len * sz then out[o']? else C.S w.heap.size o') = _
        rw [if_pos ⟨rfl, ho'⟩]) (by omega) (by rw [hosz, hlen]; exact Nat.le_refl _) hrows.1 hrows.2
      rw [hlen] at hrF
      refine .row hrF htk2 (fun t ht => ?_)
      rw [lkp_upd, if_pos rfl] at ht
      obtain rfl := Option.some.inj ht
      exact ⟨by rw [hlen]; exact Nat.le_refl _, hxl, fun _ => by simp [Cx.keep]⟩
    · exact h.elim
  · -- make
    rename_i t l c ho
    split at h
    · rename_i e hu
      replace h := bindO_elim h
      obtain ⟨sz, hsz, h⟩ := h
      replace h := bindO_elim h
      obtain ⟨by_, hby, h⟩ := h
      replace h := bindO_elim h
      obtain ⟨z, hz, h⟩ := h
      replace h := bindO_elim h
      obtain ⟨p, hp, h⟩ := h
      replace h := bindO_elim h
      obtain ⟨q, hq, h⟩ := h
      replace h := intK_elim h
      obtain ⟨k1, n, rfl, h⟩ := h
      replace h := intK_elim h
      obtain ⟨k2, m, rfl, hc, hzs, h0, hnm, hn0, hn1, hbytes, hk⟩ := h
      subst hnm
      obtain ⟨i, hi, hi1, hi2, hi3⟩ := info_of hsz hby hz
      have el := (rep_val (ev_rep E hp)).1
      have ec := (rep_val (ev_rep E hq)).1
      have hw : IntKind.i64.wrap n = n := by
        simp [IntKind.wrap, IntKind.signed, IntKind.bits]
        omega
      have hge : ¬ n < 0 := by omega
      have hbn : ¬ (281474976710656 < (by_ : Int) * n) := by omega
      let cells : Array Value := (Array.range (n.toNat * sz)).map fun i => z.cells[i % z.cells.size]!
      have hrun : (execOp a.eval o).run P w = .ok (.value (.slice (some ⟨w.heap.size, 0, none⟩) n.toNat n.toNat)) (w.alloc (.cells cells e)) := by
        have hti : (typeInfo e).run P w = .ok i w := by simp [typeInfo, hi]
        by_cases hn00 : n.toNat * sz = 0
        · have hcz : cells = #[] := by simp [cells, hn00]
          simp only [execOp, ho, Instr.makeSlice, Sem.run_bind, run_underlying hu, Result.andThen_ok, el, ec, asInt, asIntOf, Sem.run_pure, hti, hw, hi2]
          simp [hge, hbn, run_sizeOf? hsz, hn00, newRow, hcz, show Array.range 0 = #[] from rfl]
        · simp only [execOp, ho, Instr.makeSlice, Sem.run_bind, run_underlying hu, Result.andThen_ok, el, ec, asInt, asIntOf, Sem.run_pure, hti, hw, hi2]
          simp [hge, hbn, run_sizeOf? hsz, hn00, run_zeroOf? hz, newRow, cells]
      have hzl : RepL C st.toks U V z.cells.toList (constPV z).cells := (constPV_rep hc).cells (fun cs e => by cases z <;> simp [constPV] at e)
      have hrl : RepL C st.toks U V cells.toList ((List.range (n.toNat * sz)).map fun i => (constPV z).cells.getD (i % sz) (.val .nilIface)) := by
        refine ⟨by simp [cells], fun j v p hv hp => ?_⟩
        have hj : j < n.toNat * sz := by
          have := (List.getElem?_eq_some_iff.1 hp).1
          simpa using this
        have hm : j % sz < z.cells.toList.length := by simp only [Array.length_toList, hzs]; exact Nat.mod_lt _ h0
        have h1 := List.getElem?_eq_getElem hm
        have h2 := List.getElem?_eq_getElem (show j % sz < (constPV z).cells.length by rw [← hzl.1]; exact hm)
        have hv' : v = z.cells.toList[j % sz] := by
          simp [cells, hj, hzs] at hv
          rw [← hv]
          simp [Array.getElem!_eq_getD, Array.getD, show j % sz < z.cells.size by simpa using hm]
        have hp' : p = (constPV z).cells[j % sz]'(by rw [← hzl.1]; exact hm) := by
          simp [List.getElem?_map, List.getElem?_range, hj] at hp
          rw [← hp, h2]
          rfl
        subst hv' hp'
        exact hzl.2 _ _ _ h1 h2
      obtain ⟨hid1, hid2⟩ := hid (by simp [makesObj, ho])
      have R' := (R.newObj id hid1 hUU hid2 (.box e _) (.cells cells e) (fun T' cs e' => by injection e' with e1 e2; subst e1 e2; exact ⟨_, rfl, hrl⟩) (fun s pos e => by cases e) st.nx st.nt).wide (fun _ h => h) hVV
      have X' := (R.ext_at w.heap.size id hid1 hUU).trans ((Ext.refl _ _ _ _).wider hVV)
      refine val _ _ _ _ _ hrun R' X' rfl ?_ hk
      have : RepV (C.at id w.heap.size) st.toks U' V' (.slice (some ⟨(C.at id w.heap.size).ρ id, 0, none⟩) n.toNat n.toNat) (.ms id 0 n.toNat n.toNat) := .ms hid2 (Nat.le_refl _)
      simpa [Cx.at] using this
    · exact h.elim
  · -- a text is gone through
    rename_i t x ho
    obtain ⟨hu, h⟩ := h
    replace h := bindO_elim h
    obtain ⟨p, hp, h⟩ := h
    split at h
    · rename_i s
      have ev := (rep_val (ev_rep E hp)).1
      obtain ⟨hid1, hid2⟩ := hid (by simp [makesObj, ho])
      have R' := (R.newObj id hid1 hUU hid2 (.iter s 0) (.stringIter s 0) (fun T' cs e => by cases e) (fun s' pos e => by injection e with e1 e2; subst e1 e2; rfl) st.nx st.nt).wide (fun _ h => h) hVV
      have X' := (R.ext_at w.heap.size id hid1 hUU).trans ((Ext.refl _ _ _ _).wider hVV)
      refine val (.pointer (some ⟨w.heap.size, 0, none⟩)) _ _ _ _ ?_ R' X' rfl ?_ h
      · simp [execOp, ho, Instr.range, run_underlying hu, ev]
      · have : RepV (C.at id w.heap.size) st.toks U' V' (.pointer (some ⟨(C.at id w.heap.size).ρ id, 0, none⟩)) (.ptr id 0) := .ptr hid2
        simpa [Cx.at] using this
    · exact h.elim
  · -- the next point
    rename_i x ho
    replace h := bindO_elim h
    obtain ⟨p, hp, h⟩ := h
    split at h
    · rename_i id1
      replace h := bindO_elim h
      obtain ⟨ob, hob, h⟩ := h
      split at h
      · rename_i s pos
        obtain ⟨ev, hid0⟩ := rep_ptr (ev_rep E hp)
        have hit := R.iter id1 s pos hob
        have hrep3 : ∀ (C : Cx) (T : List (Nat × Tok)) (U V : Nat → Prop) (vs : List Value), (∀ v ∈ vs, v.oneCell' = true) → RepV C T U V (.tuple vs.toArray) (.tup (vs.map .val)) := by
          intro C T nx nt vs h1
          refine .tup (by simp) (fun i v p hv hp => ?_)
          have hv' : vs[i]? = some v := by simpa using hv
          rw [List.getElem?_map, hv'] at hp
          obtain rfl := Option.some.inj hp
          exact .frz (.val (h1 v (List.mem_of_getElem? hv')))
        by_cases hlt : pos < s.size
        · refine val (.tuple #[.bool true, .int .i64 pos, .int .i32 (Utf8.decode s pos).1]) _ _ _ _ ?_ ((R.step hob (pos + (Utf8.decode s pos).2)).wide hUU hVV) Xw rfl ?_ (h.1 hlt)
          · simp only [execOp, ho, Instr.next, ev, Sem.run_bind, getObj, Sem.run, hit, Result.andThen_ok, if_pos hlt, setObj, Sem.run_pure, goInt]
          · exact hrep3 _ _ _ _ [.bool true, .int .i64 pos, .int .i32 (Utf8.decode s pos).1] (by simp [Value.oneCell'])
        · refine val (.tuple #[.bool false]) _ _ _ _ ?_ Rw Xw rfl ?_ (h.2 (by omega))
          · simp only [execOp, ho, Instr.next, ev, Sem.run_bind, getObj, Sem.run, hit, Result.andThen_ok, if_neg hlt, Sem.run_pure]
          · exact hrep3 _ _ _ _ [.bool false] (by simp [Value.oneCell'])
      · exact h.elim
    · exact h.elim
  · -- a call
    rename_i c ho
    split at h
    · rename_i hc
      obtain ⟨htk1, htk2⟩ := htk (by simp [makesTok, ho, hc])
      obtain ⟨v, p, st', w', C', h1, h2, h3, h4, h5, d, h6, hd'⟩ := append_sound E R ho hc htk1 hVV htk2 h
      have XX : Ext C' C' st'.toks st'.toks U V' U' V' := ⟨SLe.refl _, fun _ _ => rfl, fun k t _ h => ⟨t, h, Nat.le_refl _, rfl, fun _ => rfl⟩, hUU, fun _ h => h⟩
      exact val v p st' w' C' h1 (h2.wide hUU (fun _ h => h)) (h3.wideU hUU) h4 (h5.ext XX) (hd' ▸ h6)
    · obtain ⟨v, p, h1, h2, h3⟩ := call_sound (P := P) (w := w) E ho h
      exact val v p st w C h1 Rw Xw rfl (h2.ext Xw) h3
    · unfold callK at h
      split at h
      · rename_i f hc
        replace h := bindO_elim h
        obtain ⟨pf, hpf, h⟩ := h
        split at h
        · rename_i g caps
          replace h := bindO_elim h
          obtain ⟨ags, has, h⟩ := h
          obtain ⟨vs, ef, hcs, hcr⟩ := rep_fn (ev_rep E hpf)
          obtain ⟨ha1, ha2⟩ := evAll_rep E _ _ has
          have hall : ∀ (i : Nat) (v : Value) (p : PV), (c.args.map a.eval ++ vs)[i]? = some v → (ags ++ caps)[i]? = some p → RepV C st.toks U V v p := by
            intro i v p hv hp
            have hal : (c.args.map a.eval).size = ags.length := by simpa using ha1
            by_cases hi : i < ags.length
            · rw [List.getElem?_append_left hi] at hp
              rw [Array.getElem?_append_left (by omega)] at hv
              exact ha2 i v p (by simpa using hv) hp
            · rw [List.getElem?_append_right (by omega)] at hp
              rw [Array.getElem?_append_right (by omega)] at hv
              exact hcr _ v p (by rw [hal] at hv; exact hv) hp
          have hsz : (c.args.map a.eval ++ vs).size = (ags ++ caps).length := by
            have : c.args.size = ags.length := by simpa using ha1
            simp [this, hcs]
          cases h with
          | ext ws r ha hr ho' k =>
            have hvs : c.args.map a.eval ++ vs = ws.toArray := by
              apply Array.ext_getElem?
              intro i
              have hw : ws.toArray[i]? = ws[i]? := by simp
              rw [hw]
              by_cases hi : i < ws.length
              · have h1 : ws[i]? = some ws[i] := List.getElem?_eq_getElem hi
                have h2 : (ags ++ caps)[i]? = some (.val ws[i]) := by rw [ha, List.getElem?_map, h1]; rfl
                have hi' : i < (c.args.map a.eval ++ vs).size := by rw [hsz]; exact (List.getElem?_eq_some_iff.1 h2).1
                have h3 := Array.getElem?_eq_getElem hi'
                have := (rep_val (hall i _ _ h3 h2)).1
                rw [h3, h1, this]
              · rw [List.getElem?_eq_none (by omega), Array.getElem?_eq_none (by rw [hsz, ha, List.length_map]; omega)]
            have hrun : (execOp a.eval o).run P w = .ok (.value r) w := by
              have hcf := hr w
              rw [← hvs] at hcf
              simp only [execOp, ho, Sem.run_bind, resolve, hc, ef, Deferred.ofValue, Sem.run_pure, Result.andThen_ok, invoke]
              simpa using hcf
            exact val r _ st w C hrun Rw Xw rfl ((extPV_rep ho').ext Xw) k
          | pure as' r hfz ok k =>
            obtain ⟨hent, ok⟩ := ok
            obtain ⟨hl, hget⟩ := fzAs_get hfz
            have hrun : (execOp a.eval o).run P w = .ok (.enter g (c.args.map a.eval ++ vs)) w := by
              have hcf := run_callFunc hent (c.args.map a.eval ++ vs) w
              simp only [execOp, ho, Sem.run_bind, resolve, hc, ef, Deferred.ofValue, Sem.run_pure, Result.andThen_ok, invoke]
              simpa using hcf
            rw [hrun, Oper.upon_enter]
            have hargs : ∀ (i : Nat) (v : Value) (p : PV), (c.args.map a.eval ++ vs)[i]? = some v → as'[i]? = some p → RepA C.S v p := by
              intro i v p hv hp
              have hi : i < (ags ++ caps).length := by rw [hl]; exact (List.getElem?_eq_some_iff.1 hp).1
              have hp0 := List.getElem?_eq_getElem hi
              exact fzA_rep (hget i _ p hp0 hp) (hall i v _ hv hp0)
            refine (ok C.S w _ R.known R.stable (by rw [hsz, hl]) hargs).mono ?_
            rintro e w' ⟨v, S', rfl, hS, hst, hnew, hr, hb⟩
            -- the relation in the world behind the call
            let C' : Cx := { C with S := S' }
            have X' : Ext C C' st.toks st.toks U V U V := ⟨hS, fun _ _ => rfl, fun k t _ h => ⟨t, h, Nat.le_refl _, rfl, fun _ => rfl⟩, fun _ h => h, fun _ h => h⟩
            have hold : ∀ b, b < w.heap.size → w'.heap[b]? = w.heap[b]? := hb.block
            have hfree : ∀ b o, b < w.heap.size → C.S b o = none → S' b o = none := by
              intro b o hb' hn
              cases h : S' b o with
              | none => rfl
              | some u =>
                rcases hnew b o u h with h1 | h1
                · rw [hn] at h1; cases h1
                · omega
            have hs0 := R.frame.size
            have R' : Rel own S0 w0 C' U V st w' := by
              refine ⟨⟨hb.os.trans R.frame.os, hb.tape.trans R.frame.tape, hb.output.trans R.frame.output, Nat.le_trans hs0 hb.size, fun k hk hn => (hold k (by omega)).trans (R.frame.block k hk hn)⟩, hst, ?_, ?_, ?_, R.hinj, ?_, R.tbox, R.tinj, ?_, R.sold.trans hS, R.base.trans X', R.glob⟩
              · intro id T cs h
                obtain ⟨us, h1, h2, h3⟩ := R.box id T cs h
                exact ⟨us, (hold _ (heap_lt h1)).trans h1, h2, fun i v p hv hp => ⟨(h3 i v p hv hp).1, (h3 i v p hv hp).2.ext X'⟩⟩
              · intro id s pos h
                have h1 := R.iter id s pos h
                exact (hold _ (heap_lt h1)).trans h1
              · intro id o h
                obtain ⟨h1, h2, h3, h4⟩ := R.hown id o h
                exact ⟨h1, Nat.lt_of_lt_of_le h2 hb.size, h3, fun o' => hfree _ _ h2 (h4 o')⟩
              · intro k t h
                obtain ⟨h1, h2, ⟨us, h3, h4⟩, h5, h6, h7⟩ := R.tok k t h
                exact ⟨h1, h2, ⟨us, (hold _ (heap_lt h3)).trans h3, h4⟩, h5, h6, fun o ho' => hfree _ _ (heap_lt h3) (h7 o ho')⟩
              · intro b o u h
                rcases hnew b o u h with h1 | h1
                · exact R.snew b o u h1
                · exact .inr (.inr (by omega))
            exact ⟨_, k, StN.of_put hd hs hf (R'.wide hUU hVV) (E.ext ((X'.wider hVV).wideU hUU) rfl) (RepA.up (C := C') hr)⟩
        · exact h.elim
      · exact h.elim
  · rename_i hne1 hne2 hne3 hne4 hne5 hne6 hne7 hne8
    exact pure rfl h
end
end Go.Pw

end
section
/-
  A step has one outcome.
-/
namespace Go.Pw
open Go Go.RowKit
set_option linter.unusedVariables false
set_option linter.unusedSimpArgs false

/-- One outcome. -/
structure Det {α : Type} (F : (α → Prop) → Prop) : Prop where
  out : ∀ K, F K → ∃ x, K x ∧ ∀ K' : α → Prop, K' x → F K'
theorem Det.ret {α : Type} (x : α) : Det (fun K : α → Prop => K x) := ⟨fun K h => ⟨x, h, fun K' h => h⟩⟩
theorem Det.ff {α : Type} : Det (fun _ : α → Prop => False) := ⟨fun K h => h.elim⟩
theorem Det.bindO {α β : Type} {o : Option β} {G : β → (α → Prop) → Prop} (h : ∀ x, Det (G x)) : Det (fun K => bindO o fun x => G x K) := by
  cases o with
  | none => exact Det.ff
  | some x => exact h x
theorem Det.bindR {α : Type} {o : Option α} : Det (fun K : α → Prop => Go.Pw.bindO o K) := Det.bindO (fun x => Det.ret x)
theorem Det.intK {α : Type} {p : PV} {G : Int → (α → Prop) → Prop} (h : ∀ i, Det (G i)) : Det (fun K => intK p fun i => G i K) := by
  unfold Go.Pw.intK
  cases p with
  | val v => cases v <;> first | exact Det.ff | exact h _
  | _ => exact Det.ff
theorem Det.and {α : Type} {c : Prop} {F : (α → Prop) → Prop} (h : Det F) : Det (fun K => c ∧ F K) :=
  ⟨fun K ⟨hc, hf⟩ => by obtain ⟨x, h1, h2⟩ := h.out K hf; exact ⟨x, h1, fun K' hk => ⟨hc, h2 K' hk⟩⟩⟩
theorem Det.comp {α β : Type} {F : (β → Prop) → Prop} (h : Det F) (g : β → α) : Det (fun K : α → Prop => F fun p => K (g p)) :=
  ⟨fun K hf => by obtain ⟨x, h1, h2⟩ := h.out _ hf; exact ⟨g x, h1, fun K' hk => h2 (fun p => K' (g p)) hk⟩⟩
theorem Det.bool {α : Type} {t : Bool} {F G : (α → Prop) → Prop} (hf : Det F) (hg : Det G) : Det (fun K => (t = true → F K) ∧ (t = false → G K)) := by
  cases t with
  | true => exact ⟨fun K h => by obtain ⟨x, h1, h2⟩ := hf.out K (h.1 rfl); exact ⟨x, h1, fun K' hk => ⟨fun _ => h2 K' hk, fun e => by cases e⟩⟩⟩
  | false => exact ⟨fun K h => by obtain ⟨x, h1, h2⟩ := hg.out K (h.2 rfl); exact ⟨x, h1, fun K' hk => ⟨fun e => (by cases e), fun _ => h2 K' hk⟩⟩⟩
theorem Det.lt {α : Type} {a b : Nat} {F G : (α → Prop) → Prop} (hf : Det F) (hg : Det G) : Det (fun K => (a < b → F K) ∧ (b ≤ a → G K)) := by
  by_cases h : a < b
  · exact ⟨fun K k => by obtain ⟨x, h1, h2⟩ := hf.out K (k.1 h); exact ⟨x, h1, fun K' hk => ⟨fun _ => h2 K' hk, fun e => by omega⟩⟩⟩
  · exact ⟨fun K k => by obtain ⟨x, h1, h2⟩ := hg.out K (k.2 (by omega)); exact ⟨x, h1, fun K' hk => ⟨fun e => absurd e h, fun _ => h2 K' hk⟩⟩⟩
theorem Det.mono {α : Type} {F : (α → Prop) → Prop} (h : Det F) {K K' : α → Prop} (hk : ∀ x, K x → K' x) (f : F K) : F K' := by
  obtain ⟨x, h1, h2⟩ := h.out K f
  exact h2 K' (hk x h1)

section
variable {P : Program} {st : PS}
theorem bounds_det {α : Type} {lo hi : Option Operand} {len : Nat} {G : Nat → Nat → (α → Prop) → Prop} (h : ∀ l r, Det (G l r)) : Det (fun K => boundsK st lo hi len fun l r => G l r K) := by
  unfold boundsK
  cases lo <;> cases hi
  · exact h _ _
  · exact Det.bindO fun _ => Det.intK fun _ => Det.and (Det.and (h _ _))
  · exact Det.bindO fun _ => Det.intK fun _ => Det.and (Det.and (h _ _))
  · exact Det.bindO fun _ => Det.intK fun _ => Det.bindO fun _ => Det.intK fun _ => Det.and (Det.and (Det.and (h _ _)))
theorem bopK_det {op : BinOp} {t : TypeId} {x y : Value} : Det (bopK P op t x y) := by
  unfold bopK
  split
  · cases op <;> first | exact Det.and (Det.and (Det.ret _)) | exact Det.and (Det.ret _)
  · cases op <;> first | exact Det.ff | exact Det.and (Det.ret _) | exact Det.ret _
  · cases op <;> first | exact Det.and Det.ff | exact Det.and (Det.ret _)
  · cases op <;> first | exact Det.and Det.ff | exact Det.and (Det.ret _)
  · exact Det.ff
theorem isNil_det {op : BinOp} {b : Bool} : Det (isNilK op b) := by
  unfold isNilK
  cases op <;> first | exact Det.ff | exact Det.ret _
theorem bin_det {op : BinOp} {t : TypeId} {x y : Operand} : Det (binK P st op t x y) := by
  unfold binK
  refine Det.bindO fun p => Det.bindO fun q => ?_
  split
  · exact Det.and (Det.and isNil_det)
  · exact bopK_det
  · exact Det.and (Det.and isNil_det)
  · exact Det.and (Det.and isNil_det)
  · exact Det.and isNil_det
  · exact Det.ff
theorem slice_det {t : TypeId} {x : Operand} {lo hi : Option Operand} : Det (sliceK P st t x lo hi) := by
  unfold sliceK
  split
  · refine Det.bindO fun p => ?_
    split
    · exact bounds_det fun l r => Det.ret _
    · exact Det.ff
  · refine Det.bindO fun n => Det.bindO fun p => ?_
    split
    · exact bounds_det fun l r => Det.and (Det.ret _)
    · exact bounds_det fun l r => Det.and (Det.ret _)
    · exact bounds_det fun l r => Det.ret _
    · exact bounds_det fun l r => Det.and (Det.ret _)
    · exact Det.ff
  · refine Det.bindO fun n => Det.bindO fun p => ?_
    split
    · exact bounds_det fun l r => Det.and (Det.ret _)
    · exact Det.ff
  · exact Det.ff
theorem indexAddr_det {t : TypeId} {x i : Operand} : Det (indexAddrK P st t x i) := by
  unfold indexAddrK
  split
  · refine Det.bindO fun n => Det.bindO fun p => Det.bindO fun q => Det.intK fun i => ?_
    split
    · exact Det.and (Det.and (Det.and (Det.ret _)))
    · exact Det.and (Det.and (Det.and (Det.ret _)))
    · exact Det.and (Det.and (Det.ret _))
    · exact Det.ff
  · refine Det.bindO fun n => Det.bindO fun p => Det.bindO fun q => Det.intK fun i => ?_
    split
    · exact Det.and (Det.and (Det.ret _))
    · exact Det.ff
  · exact Det.ff
theorem index_det {t : TypeId} {x i : Operand} : Det (indexK P st t x i) := by
  unfold indexK
  split
  · refine Det.bindO fun p => Det.bindO fun q => Det.intK fun i => ?_
    split
    · exact Det.and (Det.and (Det.ret _))
    · exact Det.ff
  · refine Det.bindO fun n => Det.bindO fun p => Det.bindO fun q => Det.intK fun i => ?_
    split
    · exact Det.and (Det.and Det.bindR)
    · exact Det.ff
  · exact Det.ff
theorem fieldAddr_det {s : TypeId} {x : Operand} {f : Nat} : Det (fieldAddrK P st s x f) := by
  unfold fieldAddrK
  split
  · refine Det.bindO fun fd => Det.bindO fun n => Det.and (Det.bindO fun p => ?_)
    split
    · exact Det.ret _
    · exact Det.ret _
    · exact Det.ff
  · exact Det.ff
theorem field_det {s : TypeId} {x : Operand} {f : Nat} : Det (fieldK P st s x f) := by
  unfold fieldK
  split
  · refine Det.bindO fun fd => Det.bindO fun p => ?_
    split
    · exact Det.bindR
    · exact Det.ff
  · exact Det.ff
theorem load_det {t : TypeId} {x : Operand} : Det (loadK P st t x) := by
  unfold loadK
  refine Det.bindO fun p => ?_
  split
  · refine Det.bindO fun o => ?_
    split
    · exact Det.bindR
    · exact Det.ff
  · exact Det.bindR
  · exact Det.ff
theorem build_det {t : TypeId} {parts : List (Nat × Operand)} : Det (buildK P st t parts) := by
  unfold buildK
  split
  · exact Det.bindO fun z => Det.bindO fun pl => Det.bindO fun ps => Det.and (Det.and (Det.bindO fun cs => Det.ret _))
  · exact Det.bindO fun z => Det.bindO fun pl => Det.bindO fun ps => Det.and (Det.and (Det.bindO fun cs => Det.ret _))
  · exact Det.ff
theorem len_det {t : TypeId} {x : Operand} : Det (lenK P st t x) := by
  unfold lenK
  split
  · refine Det.bindO fun p => ?_
    split
    · exact Det.ret _
    · exact Det.ff
  · refine Det.bindO fun p => ?_
    split
    · exact Det.ret _
    · exact Det.ret _
    · exact Det.ret _
    · exact Det.ret _
    · exact Det.ff
  · exact Det.ret _
  · exact Det.ff
theorem un_det {op : UnOp} {p : PV} : Det (unK op p) := by
  unfold unK
  split
  · exact Det.ret _
  · exact Det.ret _
  · exact Det.ff
theorem conv_det {s d : TypeId} {p : PV} : Det (convK P s d p) := by
  unfold convK
  refine Det.and ?_
  split
  · exact Det.ret _
  · exact Det.ret _
  · exact Det.ret _
  · exact Det.and (Det.bindO fun l => Det.ret _)
  · exact Det.and (Det.bindO fun l => Det.ret _)
  · exact Det.and (Det.ret _)
  · exact Det.ff
theorem max2_det {b : Bool} {p q : PV} : Det (max2K b p q) := by
  unfold max2K
  split
  · exact Det.and (Det.ret _)
  · exact Det.ff
theorem callV_det {c : Call} : Det (callV P st c) := by
  unfold callV
  split
  · split
    · exact len_det
    · exact Det.ff
  · split
    · exact Det.bindO fun p => Det.bindO fun q => max2_det
    · exact Det.ff
  · split
    · exact Det.bindO fun p => Det.bindO fun q => max2_det
    · exact Det.ff
  · exact Det.ff
theorem valK_det {op : Op} : Det (valK P st op) := by
  unfold valK
  split
  · exact Det.bindR
  · exact Det.bindR
  · refine Det.bindO fun p => ?_
    split
    · exact Det.bool Det.bindR Det.bindR
    · exact Det.ff
  · exact load_det
  · exact build_det
  · exact bin_det
  · exact Det.bindO fun p => un_det
  · exact Det.bindO fun p => conv_det
  · exact slice_det
  · exact fieldAddr_det
  · exact field_det
  · exact indexAddr_det
  · exact index_det
  · refine Det.bindO fun p => ?_
    split
    · exact Det.bindR
    · exact Det.ff
  · exact Det.bindO fun u => Det.and (Det.bindO fun p => Det.ret _)
  · exact Det.and (Det.bindO fun cs => Det.ret _)
  · refine Det.bindO fun p => ?_
    split
    · exact Det.ret _
    · exact Det.ret _
    · exact Det.ret _
    · exact Det.ff
  · exact callV_det
  · exact Det.ff
theorem appTail_det {tk0 e sz by_ : Nat} {d : PV} {ys : List (List PV)} : Det (appTail st tk0 e sz by_ d ys) := by
  unfold appTail
  split
  · exact Det.and (Det.ret _)
  · split
    · exact Det.and (Det.and (Det.ret _))
    · exact Det.bindO fun tk => Det.and (Det.and (Det.and (Det.and (Det.and (Det.ret _)))))
    · exact Det.and (Det.bindO fun xs0 => Det.bindO fun xs => Det.and (Det.and (Det.and (Det.ret _))))
    · exact Det.ff
theorem append_det {tk : Nat} {c : Call} : Det (appendK P st tk c) := by
  unfold appendK
  split
  · split
    · refine Det.bindO fun sz => Det.bindO fun by_ => Det.bindO fun z => Det.and (Det.and (Det.bindO fun d => Det.bindO fun s => ?_))
      split
      · exact Det.and (Det.and (Det.and appTail_det))
      · exact Det.and (Det.bindO fun ys0 => Det.bindO fun ys => Det.and appTail_det)
    · exact Det.ff
  · exact Det.ff
theorem call_det {c : Call} : Det (callK P st c) := by
  unfold callK
  split
  · refine Det.bindO fun pf => ?_
    split
    · refine Det.bindO fun ags => ⟨fun K h => ?_⟩
      cases h with
      | pure as' r hf ok k => exact ⟨r, k, fun K' hk => .pure as' r hf ok hk⟩
      | ext vs r ha hr ho k => exact ⟨_, k, fun K' hk => .ext vs r ha hr ho hk⟩
    · exact Det.ff
  · exact Det.ff
theorem stepD_det {o : Oper} {id tk : Nat} : Det (stepD P o st id tk) := by
  unfold stepD
  split
  · exact Det.bindO fun z => Det.and (Det.ret _)
  · exact Det.bindO fun z => Det.and (Det.ret _)
  · refine Det.bindO fun p => Det.bindO fun q => ?_
    split
    · refine Det.bindO fun ob => ?_
      split
      · exact Det.and (Det.and (Det.and (Det.ret _)))
      · exact Det.ff
    · exact Det.ff
  · split
    · exact Det.bindO fun sz => Det.bindO fun z => Det.bindO fun ps => Det.bindO fun xs => Det.and (Det.and (Det.and (Det.and (Det.and (Det.ret _)))))
    · exact Det.ff
  · split
    · exact Det.bindO fun sz => Det.bindO fun b => Det.bindO fun z => Det.bindO fun p => Det.bindO fun q => Det.intK fun n => Det.intK fun m => Det.and (Det.and (Det.and (Det.and (Det.and (Det.and (Det.and (Det.ret _)))))))
    · exact Det.ff
  · refine Det.and (Det.bindO fun p => ?_)
    split
    · exact Det.ret _
    · exact Det.ff
  · refine Det.bindO fun p => ?_
    split
    · refine Det.bindO fun ob => ?_
      split
      · exact Det.lt (Det.ret _) (Det.ret _)
      · exact Det.ff
    · exact Det.ff
  · split
    · exact append_det
    · exact callV_det.comp _
    · exact call_det.comp _
  · exact valK_det.comp _
theorem stepD_mono {o : Oper} {id tk : Nat} {K K' : Delta → Prop} (hk : ∀ d, K d → K' d) (h : stepD P o st id tk K) : stepD P o st id tk K' := stepD_det.mono hk h
end
end Go.Pw

end
section
/-
  Code, of values without memory: regions in the order of the text, branches, loops; and that it is sound (regions that draw their order: given ags a premise here).
-/
namespace Go.Pw
open Go Go.RowKit
set_option linter.unusedVariables false
set_option linter.unusedSimpArgs false

def guardK (ops : Array Oper) (g : Nat) (st : PS) (K : Option Bool → Prop) : Prop :=
  bindO ((ops[g]?).bind (·.dst)) fun d => bindO (lkp st.env d) fun p => match p with
  | .val (.bool t) => K (some t)
  | .tup [] => K none
  | _ => False
/-- ████ What a function does in its caller's memory: called in a state with args it comes to another one, and hands back a value, ags Q says. -/
def OkI (P : Program) (f : FuncId) (args : List PV) (st : PS) (Q : PV → PS → Prop) : Prop :=
  enters P f = true ∧ ∀ (own : Nat → Prop) (S0 : Base) (w0 w : World) (C : Cx) (vals : Array Value), Rel own S0 w0 C (· < st.nx) (· < st.nt) st w → vals.size = args.length →
    (∀ (i : Nat) (v : Value) (p : PV), vals[i]? = some v → args[i]? = some p → RepV C st.toks (· < st.nx) (· < st.nt) v p) →
    Calls P f vals w fun e w' => ∃ r st' v C', Q r st' ∧ e = .returned v ∧ Rel own S0 w0 C' (· < st'.nx) (· < st'.nt) st' w' ∧ Ext C C' st.toks st'.toks (· < st.nx) (· < st.nt) (· < st'.nx) (· < st'.nt) ∧ RepV C' st'.toks (· < st'.nx) (· < st'.nt) v r
/-- A call: of a function with a contract; of one without a body; of one that works in this state's memory (only where the order isn't drawn). -/
inductive CallOk (dr : Bool) (P : Program) (g : FuncId) (ags : List PV) (st : PS) (id tk : Nat) (K : PV → PS → Prop) : Prop
  | pure (as' : List PV) (r : PV) (hf : fzAs ags = some as') (ok : Ok P g as' r) (k : K r st) : CallOk dr P g ags st id tk K
  | ext (vs : List Value) (r : Value) (ha : ags = vs.map .val) (hr : ∀ w, (callFunc g vs.toArray).run P w = .ok (.value r) w) (ho : extOk r = true) (k : K (extPV r) st) : CallOk dr P g ags st id tk K
  | own (hdr : dr = false) (Q : PV → PS → Prop) (ok : OkI P g ags { st with nx := id, nt := tk } Q) (k : ∀ r st', Q r st' → K r { st' with env := st.env }) : CallOk dr P g ags st id tk K
/-- Which function a method of a pointer's type is, and how far on its receiver lies. -/
def DispOk (P : Program) (T : TypeId) (m : String) (g : FuncId) (δ : Nat) : Prop :=
  ∀ (b o : Nat) (w : World), (method (P.types.size + Made.depth) T (.pointer (some ⟨b, o, none⟩)) m).run P w = .ok (g, .pointer (some ⟨b, o + δ, none⟩)) w
/-- A method called through an interface that holds a pointer of ours. -/
inductive InvOk (P : Program) (T : TypeId) (m : String) (i off : Nat) (ags : List PV) (st : PS) (id tk : Nat) (K : PV → PS → Prop) : Prop
  | mk (g : FuncId) (δ : Nat) (Q : PV → PS → Prop) (hd : DispOk P T m g δ) (ok : OkI P g (.ptr i (off + δ) :: ags) { st with nx := id, nt := tk } Q) (k : ∀ r st', Q r st' → K r { st' with env := st.env }) : InvOk P T m i off ags st id tk K
def stepN (dr : Bool) (P : Program) (o : Oper) (st : PS) (id tk : Nat) (K : PS → Prop) : Prop :=
  match o.op with
  | .call c => match c.callee with
    | .value f => bindO (st.ev f) fun pf => match pf with
      | .fn g caps => bindO (evAll st c.args.toList) fun ags => CallOk dr P g (ags ++ caps) st id tk fun p st' => K (st'.put o.dst p)
      | _ => False
    | .invoke x m => bindO (st.ev x) fun p => match p with
      | .iface T (.ptr i off) => bindO (evAll st c.args.toList) fun ags => dr = false ∧ InvOk P T m i off ags st id tk fun p st' => K (st'.put o.dst p)
      | _ => False
    | _ => stepN0 P o st id tk K
  | _ => stepN0 P o st id tk K
/-- Operations one behind the other; what is made has its number by the place in the region. -/
def dops0 (P : Program) (ops : Array Oper) (nx0 nt0 : Nat) : Nat → List Oper → PS → (PS → Prop) → Prop
  | i, [], st, K => K { st with nx := nx0 + i, nt := nt0 + i }
  | i, o :: r, st, K => match o.guard with
    | none => stepN0 P o st (nx0 + i) (nt0 + i) fun st' => dops0 P ops nx0 nt0 (i + 1) r st' K
    | some (g, b) => guardK ops g st fun t => (t = some b → stepN0 P o st (nx0 + i) (nt0 + i) fun st' => dops0 P ops nx0 nt0 (i + 1) r st' K) ∧ (t ≠ some b → dops0 P ops nx0 nt0 (i + 1) r (st.kill o.dst) K)
/-- The same, where the order is drawn. -/
def dops (P : Program) (ops : Array Oper) (nx0 nt0 : Nat) : Nat → List Oper → PS → (PS → Prop) → Prop
  | i, [], st, K => K { st with nx := nx0 + i, nt := nt0 + i }
  | i, o :: r, st, K => match o.guard with
    | none => stepN true P o st (nx0 + i) (nt0 + i) fun st' => dops P ops nx0 nt0 (i + 1) r st' K
    | some (g, b) => guardK ops g st fun t => (t = some b → stepN true P o st (nx0 + i) (nt0 + i) fun st' => dops P ops nx0 nt0 (i + 1) r st' K) ∧ (t ≠ some b → dops P ops nx0 nt0 (i + 1) r (st.kill o.dst) K)
/-- In the order of the text; the numbers go on from the state's own. -/
def dopsS (P : Program) (ops : Array Oper) : Nat → List Oper → PS → (PS → Prop) → Prop
  | i, [], st, K => K { st with nx := st.nx + i, nt := st.nt + i }
  | i, o :: r, st, K => match o.guard with
    | none => stepN false P o st (st.nx + i) (st.nt + i) fun st' => dopsS P ops (i + 1) r st' K
    | some (g, b) => guardK ops g st fun t => (t = some b → stepN false P o st (st.nx + i) (st.nt + i) fun st' => dopsS P ops (i + 1) r st' K) ∧ (t ≠ some b → dopsS P ops (i + 1) r (st.kill o.dst) K)

/-- Who waits for whom, ags bits. -/
def ancs : List Oper → Nat → List Nat → List Nat
  | [], _, acc => acc
  | o :: r, i, acc => ancs r (i + 1) (acc ++ [o.after.toList.foldl (fun m e => if Region.binds .any e then m ||| (1 <<< e.on) ||| acc.getD e.on 0 else m) 0])
def kindOf (o : Oper) : Nat :=
  match o.op with
  | .load _ _ => 1
  | .alloc _ => 2
  | .box _ _ => 2
  | .makeSlice _ _ _ => 2
  | .range _ _ => 2
  | .buildSlice _ _ _ => 2
  | .store _ _ _ => 3
  | .next _ _ => 3
  | .call c => match c.callee with
    | .builtin .append => 4
    | _ => 0
  | _ => 0
def conflict (k l : Nat) : Bool := (k == 3 && (l == 1 || l == 3 || l == 4)) || (l == 3 && (k == 1 || k == 4)) || (k == 4 && l == 4)
def readsOf (ops : Array Oper) (o : Oper) : List Nat :=
  (o.op.operands.toList.filterMap fun | .tmp t => some t | _ => none) ++ (match o.guard with
    | some (g, _) => (((ops[g]?).bind (·.dst)).toList)
    | none => [])
def slotsClash (ops : Array Oper) (x y : Oper) : Bool :=
  (match x.dst with
    | some d => (readsOf ops y).contains d || y.dst == some d
    | none => false) ||
  (match y.dst with
    | some d => (readsOf ops x).contains d
    | none => false)
/-- Whatever isn't ordered doesn't meet. -/
def drawOk (ops : Array Oper) : Bool :=
  let A := ancs ops.toList 0 []
  (List.range ops.size).all fun i => match ops[i]? with
    | none => false
    | some oi => (oi.after.toList.all fun e => !Region.binds .any e || decide (e.on < i)) && (List.range i).all fun j => match ops[j]? with
      | none => false
      | some oj => (A.getD i 0).testBit j || (!conflict (kindOf oi) (kindOf oj) && !slotsClash ops oi oj)
mutual
def PV.lt (a b : Nat) : PV → Bool
  | .val _ => true
  | .sl _ => true
  | .row k _ => decide (k < b)
  | .ptr i _ => decide (i < a)
  | .ms i _ _ _ => decide (i < a)
  | .fp _ => true
  | .agg cs => PV.ltL a b cs
  | .tup cs => PV.ltL a b cs
  | .fn _ cs => PV.ltL a b cs
  | .iface _ p => PV.lt a b p
def PV.ltL (a b : Nat) : List PV → Bool
  | [] => true
  | p :: r => PV.lt a b p && PV.ltL a b r
end
def PObj.lt (a b : Nat) : PObj → Bool
  | .box _ cs => PV.ltL a b cs
  | .iter _ _ => true

/-- Read ags frozen: a row or nil ags what it holds. -/
def Frz1 : PV → PV → Prop
  | .row _ xs, .sl ys => xs = ys
  | .val v, .sl ys => v = .slice none 0 0 ∧ ys = []
  | p, q => some p = some q
def FrzL : List PV → List PV → Prop
  | [], [] => True
  | p :: r, q :: s => Frz1 p q ∧ FrzL r s
  | _, _ => False
def Frz : PV → PV → Prop
  | .agg l, .agg m => FrzL l m
  | p, q => Frz1 p q
def FrzO : PObj → PObj → Prop
  | .box t cs, .box t' cs' => t = t' ∧ FrzL cs cs'
  | o, o' => some o = some o'
theorem Frz1.refl (p : PV) : Frz1 p p := by
  unfold Frz1; split <;> simp_all
theorem FrzL.refl : ∀ l, FrzL l l
  | [] => trivial
  | p :: r => ⟨Frz1.refl p, FrzL.refl r⟩
theorem Frz.refl (p : PV) : Frz p p := by
  unfold Frz; split
  · exact FrzL.refl _
  · exact Frz1.refl _
theorem FrzO.refl (o : PObj) : FrzO o o := by
  cases o with
  | box t cs => exact ⟨rfl, FrzL.refl _⟩
  | iter s pos => rfl
theorem Frz1.rep {C : Cx} {T : List (Nat × Tok)} {U V : Nat → Prop} {v : Value} {p q : PV} (h : Frz1 p q) (r : RepV C T U V v p) : RepV C T U V v q := by
  unfold Frz1 at h
  split at h
  · subst h; exact .frz (rep_sl (.inr ⟨_, r⟩))
  · obtain ⟨rfl, rfl⟩ := h
    obtain ⟨rfl, _⟩ := rep_val r
    exact .frz (.sl (sz := 0) (fun _ _ => .nilIface) rfl (Nat.le_refl _) (by simp) (by simp) (by simp))
  · obtain rfl := Option.some.inj h; exact r
theorem FrzL.len : ∀ {l m : List PV}, FrzL l m → l.length = m.length
  | [], [], _ => rfl
  | _ :: _, _ :: _, h => by simp [FrzL.len h.2]
  | [], _ :: _, h => h.elim
  | _ :: _, [], h => h.elim
theorem FrzL.get : ∀ {l m : List PV}, FrzL l m → ∀ (i : Nat) (p q : PV), l[i]? = some p → m[i]? = some q → Frz1 p q
  | [], [], _, i, p, q, h, _ => by simp at h
  | a :: l, b :: m, h, 0, p, q, hp, hq => by simp at hp hq; subst hp hq; exact h.1
  | a :: l, b :: m, h, i + 1, p, q, hp, hq => FrzL.get h.2 i p q (by simpa using hp) (by simpa using hq)
  | [], _ :: _, h, _, _, _, _, _ => h.elim
  | _ :: _, [], h, _, _, _, _, _ => h.elim
theorem Frz.rep {C : Cx} {T : List (Nat × Tok)} {U V : Nat → Prop} {v : Value} {p q : PV} (h : Frz p q) (r : RepV C T U V v p) : RepV C T U V v q := by
  unfold Frz at h
  split at h
  · rename_i l m
    cases r with
    | frz r => cases r
    | agg hs hr h1 =>
      refine .agg (hs.trans h.len) (fun i v p hv hp => ?_) h1
      have hi : i < l.length := by rw [← hs]; exact (Array.getElem?_eq_some_iff.1 hv).1
      exact (h.get i _ p (List.getElem?_eq_getElem hi) hp).rep (hr i v _ hv (List.getElem?_eq_getElem hi))
  · exact h.rep r

/-- What may be forgotten. -/
structure Weak (L : Nat × Nat) (st st' : PS) : Prop where
  env : ∀ e ∈ st'.env, bindO (lkp st.env e.1) (fun q => Frz q e.2) ∧ e.2.lt st'.nx st'.nt = true
  heap : ∀ e ∈ st'.heap, bindO (lkp st.heap e.1) (fun q => FrzO q e.2) ∧ e.1 < st'.nx ∧ e.2.lt st'.nx st'.nt = true
  toks : ∀ e ∈ st'.toks, lkp st.toks e.1 = some e.2 ∧ e.1 < st'.nt
  nx : st'.nx ≤ st.nx
  nt : st'.nt ≤ st.nt
  lx : L.1 ≤ st'.nx
  lt : L.2 ≤ st'.nt

/-- A call that all wait for, or that waits for them. -/
def barOk (ops : Array Oper) (k : Nat) : Bool :=
  let A := ancs ops.toList 0 []
  (match ops[k]? with
    | some o => o.guard.isNone
    | none => false) && ((List.range ops.size).all fun i => i == k || (if i < k then (A.getD k 0).testBit i else (A.getD i 0).testBit k))
/-- The same, where the order is drawn, but all is ordered with the k-th one. -/
def dopsB (P : Program) (ops : Array Oper) (l : List Oper) (k : Nat) (st : PS) (K : PS → Prop) : Prop :=
  dops P ops st.nx st.nt 0 (l.take k) st fun s => dopsS P ops 0 ((l.drop k).take 1) s fun s' => dops P ops s'.nx s'.nt (k + 1) (l.drop (k + 1)) s' K
/-- What a reading of code may forget at most; which regions are cut, and where. -/
structure Lim where
  l : Nat × Nat
  bar : Nat → Option Nat
abbrev noBar : Nat → Option Nat := fun _ => none
/-- Region r is cut at its k-th operation. -/
def oneBar (r k : Nat) : Nat → Option Nat := fun i => if i = r then some k else none
/-- A step that was shown for itself. -/
def SemStep (P : Program) (o : Oper) (st : PS) (K : PS → Prop) : Prop :=
  o.guard = none ∧ ∀ (own : Nat → Prop) (S0 : Base) (w0 : World) (N : Nat) (a : Act) (w : World) (X : Exit → Act → World → Prop), fitsDst N o.dst = true → StN own S0 w0 N (· < st.nx) (· < st.nt) st a w →
    Oper.wp P o a w (fun a' w' => ∃ st', K st' ∧ StN own S0 w0 N (· < st'.nx) (· < st'.nt) st' a' w') X
def stepU (P : Program) (ops : Array Oper) (o : Oper) (st : PS) (K : PS → Prop) : Prop := dopsS P ops 0 [o] st K ∨ SemStep P o st K
def dopsX (P : Program) (ops : Array Oper) : List Oper → PS → (PS → Prop) → Prop
  | [], st, K => K st
  | o :: r, st, K => stepU P ops o st fun s => dopsX P ops r s K
/-- In the order of the text; from the k-th operation on each may be by a step that was shown for itself. -/
def dopsM (P : Program) (ops : Array Oper) (l : List Oper) (k : Nat) (st : PS) (K : PS → Prop) : Prop :=
  dopsS P ops 0 (l.take k) st fun s => dopsX P ops (l.drop k) s K
/-- A region that draws its order, place by place: the states that any order comes through, each with who is listed. -/
def expl (P : Program) (ops : Array Oper) (l : Nat × Nat) (st : PS) (K : PS → Prop) : Prop :=
  ∃ (ι : Type) (I : ι → PS) (B : ι → Array Bool) (m : ι → Nat) (i0 : ι), Weak l st (I i0) ∧ B i0 = Array.replicate ops.size false ∧ m i0 ≤ ops.size ∧
    ∀ i, (Region.ready .any ops (B i) = [] → K (I i)) ∧ (m i = 0 → Region.ready .any ops (B i) = []) ∧
      ∀ k ∈ Region.ready .any ops (B i), bindO ops[k]? fun o => stepU P ops o (I i) fun s' => ∃ j, m j < m i ∧ B j = (B i).setIfInBounds k true ∧ Weak l s' (I j)
/-- ████ Code, of values without memory. -/
def pwp (P : Program) (L : Lim) : Code → PS → (Exit → PS → Prop) → Prop
  | .skip, st, Q => Q .normal st
  | .label _, st, Q => Q .normal st
  | .region id ops true, st, Q => match L.bar id with
    | none => dops P ops st.nx st.nt 0 ops.toList st (Q .normal)
    | some k => if k < ops.size then barOk ops k = true ∧ dopsB P ops ops.toList k st (Q .normal) else expl P ops L.l st (Q .normal)
  | .region id ops false, st, Q => match L.bar id with
    | none => dopsS P ops 0 ops.toList st (Q .normal)
    | some k => dopsM P ops ops.toList k st (Q .normal)
  | .seq a b, st, Q => pwp P L a st fun x st' => match x with
    | .normal => pwp P L b st' Q
    | x => Q x st'
  | .cond c t e, st, Q => bindO (st.ev c) fun p => match p with
    | .val (.bool b) => (b = true → pwp P L t st Q) ∧ (b = false → pwp P L e st Q)
    | _ => False
  | .block id c, st, Q => pwp P L c st fun x st' => match x with
    | .exit i => if i = id then Q .normal st' else Q (.exit i) st'
    | x => Q x st'
  | .loop c, st, Q => ∃ (ι : Type) (I : ι → PS) (m : ι → Nat) (i0 : ι), Weak L.l st (I i0) ∧ ∀ i, pwp P L c (I i) fun x st' => match x with
    | .normal => ∃ j, m j < m i ∧ Weak L.l st' (I j)
    | x => Q x st'
  | .scope c, st, Q => pwp P L c st fun x st' => match x with
    | .goto _ => False
    | x => Q x st'
  | .exit id, st, Q => Q (.exit id) st
  | .ret, st, Q => Q .ret st
  | _, _, _ => False

/-- All slots lie in the frame; in regions that draw their order, whatever isn't ordered doesn't meet. -/
def fitsC (N : Nat) : Code → Bool
  | .region _ ops draw => (ops.toList.all fun o => fitsDst N o.dst) && (!draw || drawOk ops)
  | .seq a b => fitsC N a && fitsC N b
  | .cond _ a b => fitsC N a && fitsC N b
  | .block _ c => fitsC N c
  | .loop c => fitsC N c
  | .scope c => fitsC N c
  | _ => true

section
variable {P : Program} {own : Nat → Prop} {S0 : Base} {w0 w : World} {C : Cx} {st : PS} {a : Act} {N : Nat}

theorem ltL_get {a b : Nat} : ∀ {cs : List PV}, PV.ltL a b cs = true → ∀ p ∈ cs, p.lt a b = true
  | [], _, p, hp => by cases hp
  | q :: r, h, p, hp => by
    simp only [PV.ltL, Bool.and_eq_true] at h
    rcases List.mem_cons.1 hp with rfl | hp
    · exact h.1
    · exact ltL_get h.2 p hp
theorem RepV.lower {T T' : List (Nat × Tok)} {U V U' V' : Nat → Prop} {a b : Nat} (hT : ∀ k t, lkp T' k = some t → lkp T k = some t) (hU : ∀ i, i < a → U' i) (hV : ∀ i, i < b → V' i) {v : Value} {p : PV} (r : RepV C T U V v p) :
    p.lt a b = true → RepV C T' U' V' v p := by
  induction r with
  | frz h => exact fun _ => .frz h
  | row h hk ht =>
    intro hl
    simp only [PV.lt, decide_eq_true_eq] at hl
    exact .row h (hV _ hl) (fun t h' => ht t (hT _ t h'))
  | ptr h => intro hl; simp only [PV.lt, decide_eq_true_eq] at hl; exact .ptr (hU _ hl)
  | ms h hc => intro hl; simp only [PV.lt, decide_eq_true_eq] at hl; exact .ms (hU _ hl) hc
  | fp h => exact fun _ => .fp h
  | agg hs h h1 ih => intro hl; exact .agg hs (fun i v p hv hp => ih i v p hv hp (ltL_get hl p (List.mem_of_getElem? hp))) h1
  | tup hs h ih => intro hl; exact .tup hs (fun i v p hv hp => ih i v p hv hp (ltL_get hl p (List.mem_of_getElem? hp)))
  | fn hs h ih => intro hl; exact .fn hs (fun i v p hv hp => ih i v p hv hp (ltL_get hl p (List.mem_of_getElem? hp)))
  | iface h ih => intro hl; exact .iface (ih hl)
theorem lkp_mem {α : Type} : ∀ {l : List (Nat × α)} {i : Nat} {v : α}, lkp l i = some v → (i, v) ∈ l
  | [], i, v, h => by simp [lkp] at h
  | (k, u) :: r, i, v, h => by
    rw [lkp_cons] at h
    split at h
    · obtain rfl := Option.some.inj h
      rename_i e
      subst e
      simp
    · exact List.mem_cons_of_mem _ (lkp_mem h)

/-- The state, in the call's own numbers. -/
abbrev Stt (own : Nat → Prop) (S0 : Base) (w0 : World) (N : Nat) (st : PS) (a : Act) (w : World) : Prop := StN own S0 w0 N (· < st.nx) (· < st.nt) st a w
theorem Stt.weak {st' : PS} {L : Nat × Nat} (hL : (∀ i, S0.U i → i < L.1) ∧ ∀ i, S0.V i → i < L.2) (h : Stt own S0 w0 N st a w) (k : Weak L st st') : Stt own S0 w0 N st' a w := by
  obtain ⟨h1, h2, C, R, E⟩ := h
  have hT : ∀ i t, lkp st'.toks i = some t → lkp st.toks i = some t := fun i t h => (k.toks _ (lkp_mem h)).1
  refine ⟨h1, h2, C, ⟨R.frame, R.stable, ?_, ?_, ?_, ?_, ?_, ?_, ?_, R.snew, R.sold, ⟨R.base.S, R.base.ρ, fun i t hi ht => R.base.tok i t hi (hT i t ht), fun i hi => Nat.lt_of_lt_of_le (hL.1 i hi) k.lx, fun i hi => Nat.lt_of_lt_of_le (hL.2 i hi) k.lt⟩, R.glob⟩, ?_⟩
  · intro id T cs h
    obtain ⟨g1, g2, g3⟩ := k.heap _ (lkp_mem h)
    obtain ⟨q, g1, gq⟩ := bindO_elim g1
    cases q with
    | iter s pos => cases gq
    | box T' cs' =>
      obtain ⟨rfl, gl⟩ := gq
      obtain ⟨vs, e1, e2, e3⟩ := R.box id T' cs' g1
      refine ⟨vs, e1, e2.trans gl.len, fun i v p hv hp => ?_⟩
      have hi : i < cs'.length := by rw [← e2]; exact (Array.getElem?_eq_some_iff.1 hv).1
      have hq := List.getElem?_eq_getElem hi
      exact ⟨(e3 i v _ hv hq).1, ((gl.get i _ p hq hp).rep (e3 i v _ hv hq).2).lower hT (fun _ h => h) (fun _ h => h) (ltL_get g3 p (List.mem_of_getElem? hp))⟩
  · intro id s pos h
    obtain ⟨q, g1, gq⟩ := bindO_elim (k.heap _ (lkp_mem h)).1
    cases q with
    | box t cs => cases gq
    | iter s' pos' =>
      have e : PObj.iter s' pos' = PObj.iter s pos := Option.some.inj gq
      rw [e] at g1
      exact R.iter id _ _ g1
  · intro id o h
    obtain ⟨g1, g2, g3⟩ := k.heap _ (lkp_mem h)
    obtain ⟨q, g1, gq⟩ := bindO_elim g1
    exact ⟨g2, (R.hown id q g1).2⟩
  · intro i j oi oj g1 g2
    obtain ⟨q, g1, _⟩ := bindO_elim (k.heap _ (lkp_mem g1)).1
    obtain ⟨q', g2, _⟩ := bindO_elim (k.heap _ (lkp_mem g2)).1
    exact R.hinj i j q q' g1 g2
  · intro i t h
    obtain ⟨g1, g2⟩ := k.toks _ (lkp_mem h)
    exact ⟨g2, (R.tok i t g1).2⟩
  · intro i oi j t g1 g2
    obtain ⟨q, g1, _⟩ := bindO_elim (k.heap _ (lkp_mem g1)).1
    exact R.tbox i q j t g1 (k.toks _ (lkp_mem g2)).1
  · intro i j ti tj g1 g2
    exact R.tinj i j ti tj (k.toks _ (lkp_mem g1)).1 (k.toks _ (lkp_mem g2)).1
  · intro t p h
    obtain ⟨g1, g2⟩ := k.env _ (lkp_mem h)
    obtain ⟨q, g1, gq⟩ := bindO_elim g1
    obtain ⟨v, e1, e2⟩ := E t q g1
    exact ⟨v, e1, (gq.rep e2).lower hT (fun _ h => h) (fun _ h => h) g2⟩

def liftN (own : Nat → Prop) (S0 : Base) (w0 : World) (N : Nat) (Q : Exit → PS → Prop) : Exit → Act → World → Prop := fun x a w => ∃ st, Q x st ∧ Stt own S0 w0 N st a w

theorem guard_sound {U V : Nat → Prop} {ops : Array Oper} {g : Nat} {K : Option Bool → Prop} (h : StN own S0 w0 N U V st a w) (k : guardK ops g st K) : ∃ t, yielded ops a.tmps g = t ∧ K t := by
  obtain ⟨h1, h2, C, R, E⟩ := h
  unfold guardK at k
  replace k := bindO_elim k
  obtain ⟨d, hd, k⟩ := k
  replace k := bindO_elim k
  obtain ⟨p, hp, k⟩ := k
  split at k
  · rename_i t
    obtain ⟨v, hv, r⟩ := E d _ hp
    obtain ⟨rfl, _⟩ := rep_val r
    exact ⟨some t, by simp [yielded, hd, hv], k⟩
  · obtain ⟨v, hv, r⟩ := E d _ hp
    obtain ⟨vs, rfl, _⟩ := rep_tup r
    exact ⟨none, by simp [yielded, hd, hv], k⟩
  · exact k.elim
theorem StN.kill {U V : Nat → Prop} (h : StN own S0 w0 N U V st a w) (d : Option Tmp) (hf : fitsDst N d = true) : StN own S0 w0 N U V (st.kill d) (a.put d undef) w := by
  obtain ⟨h1, h2, C, R, E⟩ := h
  exact StN.of_kill (d := d) h1 h2 hf R E
theorem StN.wide {U V U' V' : Nat → Prop} (h : StN own S0 w0 N U V st a w) (hU : ∀ i, U i → U' i) (hV : ∀ i, V i → V' i) : StN own S0 w0 N U' V' st a w := by
  obtain ⟨h1, h2, C, R, E⟩ := h
  have X : Ext C C st.toks st.toks U V U' V' := ⟨SLe.refl _, fun _ _ => rfl, fun k t _ h => ⟨t, h, Nat.le_refl _, rfl, fun _ => rfl⟩, hU, hV⟩
  exact ⟨h1, h2, C, R.wide hU hV, E.ext X rfl⟩
theorem StN.nxnt {U V : Nat → Prop} (h : StN own S0 w0 N U V st a w) (x y : Nat) : StN own S0 w0 N U V { st with nx := x, nt := y } a w := by
  obtain ⟨h1, h2, C, R, E⟩ := h
  exact ⟨h1, h2, C, R.nxnt x y, E⟩

theorem Rel.env_ {U V : Nat → Prop} (R : Rel own S0 w0 C U V st w) (e : List (Nat × PV)) : Rel own S0 w0 C U V { st with env := e } w := ⟨R.frame, R.stable, R.box, R.iter, R.hown, R.hinj, R.tok, R.tbox, R.tinj, R.snew, R.sold, R.base, R.glob⟩
theorem apply_nx (d : Delta) (x : Option Tmp) : (d.apply x st).nx = st.nx := by
  unfold Delta.apply PS.kill
  cases d.res <;> simp only [put_nx]
theorem apply_nt (d : Delta) (x : Option Tmp) : (d.apply x st).nt = st.nt := by
  unfold Delta.apply PS.kill
  cases d.res <;> simp only [put_nt]
theorem stepN0_keep {o : Oper} {id tk : Nat} {K : PS → Prop} (h : stepN0 P o st id tk K) : stepN0 P o st id tk (fun s => K s ∧ s.nx = st.nx ∧ s.nt = st.nt) :=
  stepD_det.mono (fun d hd => ⟨hd, apply_nx d _, apply_nt d _⟩) h
theorem callP_of {dr : Bool} {g : FuncId} {ags : List PV} {id tk : Nat} {K : PV → PS → Prop} (h : CallOk dr P g ags st id tk K) : CallP P g ags (fun p => K p st) ∨ (dr = false ∧ ∃ Q, OkI P g ags { st with nx := id, nt := tk } Q ∧ ∀ r st', Q r st' → K r { st' with env := st.env }) := by
  cases h with
  | pure as' r hf ok k => exact .inl (.pure as' r hf ok k)
  | ext vs r ha hr ho k => exact .inl (.ext vs r ha hr ho k)
  | own hdr Q ok k => exact .inr ⟨hdr, Q, ok, k⟩
theorem stepN_true {o : Oper} {id tk : Nat} {K : PS → Prop} (h : stepN true P o st id tk K) : stepN0 P o st id tk K := by
  unfold stepN at h
  split at h
  · rename_i c ho
    split at h
    · rename_i f hc
      unfold stepN0 stepD
      rw [ho]
      simp only [hc, callK]
      replace h := bindO_elim h
      obtain ⟨pf, hpf, h⟩ := h
      rw [hpf, bindO_some]
      split at h
      · replace h := bindO_elim h
        obtain ⟨ags, has, h⟩ := h
        simp only
        rw [has, bindO_some]
        rcases callP_of h with h | ⟨h, _⟩
        · exact h
        · cases h
      · exact h.elim
    · exfalso
      replace h := bindO_elim h
      obtain ⟨p, _, h⟩ := h
      split at h
      · replace h := bindO_elim h
        obtain ⟨ags, _, h, _⟩ := h
        cases h
      · exact h
    · exact h
  · exact h
theorem dops_dops0 {ops : Array Oper} {nx0 nt0 : Nat} {K : PS → Prop} : ∀ (l : List Oper) (i : Nat) (st : PS), dops P ops nx0 nt0 i l st K → dops0 P ops nx0 nt0 i l st K
  | [], i, st, h => h
  | o :: r, i, st, h => by
    simp only [dops] at h
    simp only [dops0]
    cases hg : o.guard with
    | none => rw [hg] at h; exact stepD_det.mono (fun d hd => dops_dops0 r _ _ hd) (stepN_true h)
    | some gb =>
      obtain ⟨g, b⟩ := gb
      rw [hg] at h
      simp only at h ⊢
      unfold guardK at h ⊢
      replace h := bindO_elim h
      obtain ⟨d, hd, h⟩ := h
      rw [hd, bindO_some]
      replace h := bindO_elim h
      obtain ⟨p, hp, h⟩ := h
      rw [hp, bindO_some]
      split at h
      · exact ⟨fun e => stepD_det.mono (fun d hd => dops_dops0 r _ _ hd) (stepN_true (h.1 e)), fun e => dops_dops0 r _ _ (h.2 e)⟩
      · exact ⟨fun e => stepD_det.mono (fun d hd => dops_dops0 r _ _ hd) (stepN_true (h.1 e)), fun e => dops_dops0 r _ _ (h.2 e)⟩
      · exact h.elim
theorem stepS_sound {o : Oper} {i : Nat} {K : PS → Prop} (E : Env C (· < st.nx + i) (· < st.nt + i) st a) (R : Rel own S0 w0 C (· < st.nx + i) (· < st.nt + i) st w) (hd : a.defers = []) (hs : a.tmps.size = N) (hf : fitsDst N o.dst = true)
    (h : stepN false P o st (st.nx + i) (st.nt + i) K) {Q : Exit → Act → World → Prop} : Oper.wp P o a w (fun a' w' => ∃ st', K st' ∧ StN own S0 w0 N (· < st'.nx + (i + 1)) (· < st'.nt + (i + 1)) st' a' w') Q := by
  have plain : ∀ {K : PS → Prop}, stepN0 P o st (st.nx + i) (st.nt + i) K → Oper.wp P o a w (fun a' w' => ∃ st', K st' ∧ StN own S0 w0 N (· < st'.nx + (i + 1)) (· < st'.nt + (i + 1)) st' a' w') Q := fun h => by
    refine Oper.wp_mono ?_ (stepN_sound (U' := (· < st.nx + (i + 1))) (V' := (· < st.nt + (i + 1))) E R hd hs hf (fun j hj => by omega) (fun j hj => by omega) (fun _ => ⟨Nat.lt_irrefl _, by omega⟩) (fun _ => ⟨Nat.lt_irrefl _, by omega⟩) (stepN0_keep h))
    rintro a' w' ⟨st', ⟨hk, e1, e2⟩, hS⟩
    exact ⟨st', hk, by rw [e1, e2]; exact hS⟩
  unfold stepN at h
  split at h
  · rename_i c ho
    split at h
    · rename_i f hc
      have h0 := h
      replace h := bindO_elim h
      obtain ⟨pf, hpf, h⟩ := h
      split at h
      · rename_i g caps
        replace h := bindO_elim h
        obtain ⟨ags, has, h⟩ := h
        rcases callP_of h with h | ⟨_, QI, ok, k⟩
        · refine plain ?_
          unfold stepN0 stepD
          rw [ho]
          simp only [hc, callK]
          rw [hpf, bindO_some]
          simp only
          rw [has, bindO_some]
          exact h
        · obtain ⟨vs, ef, hcs, hcr⟩ := rep_fn (ev_rep E hpf)
          obtain ⟨ha1, ha2⟩ := evAll_rep E _ _ has
          have hall : ∀ (i' : Nat) (v : Value) (p : PV), (c.args.map a.eval ++ vs)[i']? = some v → (ags ++ caps)[i']? = some p → RepV C st.toks (· < st.nx + i) (· < st.nt + i) v p := by
            intro i' v p hv hp
            have hal : (c.args.map a.eval).size = ags.length := by simpa using ha1
            by_cases hi : i' < ags.length
            · rw [List.getElem?_append_left hi] at hp
              rw [Array.getElem?_append_left (by omega)] at hv
              exact ha2 i' v p (by simpa using hv) hp
            · rw [List.getElem?_append_right (by omega)] at hp
              rw [Array.getElem?_append_right (by omega)] at hv
              exact hcr _ v p (by rw [hal] at hv; exact hv) hp
          have hsz : (c.args.map a.eval ++ vs).size = (ags ++ caps).length := by
            have : c.args.size = ags.length := by simpa using ha1
            simp [this, hcs]
          obtain ⟨hent, ok⟩ := ok
          have hrun : (execOp a.eval o).run P w = .ok (.enter g (c.args.map a.eval ++ vs)) w := by
            have hcf := run_callFunc hent (c.args.map a.eval ++ vs) w
            simp only [execOp, ho, Sem.run_bind, resolve, hc, ef, Deferred.ofValue, Sem.run_pure, Result.andThen_ok, invoke]
            simpa using hcf
          unfold Oper.wp
          rw [hrun, Oper.upon_enter]
          refine (ok own S0 w0 w C _ (R.nxnt _ _) hsz hall).mono ?_
          rintro e w' ⟨r, st2, v, C', hQ, rfl, R', X, hr⟩
          have X2 : Ext C C' st.toks st2.toks (· < st.nx + i) (· < st.nt + i) (· < st2.nx + (i + 1)) (· < st2.nt + (i + 1)) := (X.wider (fun j hj => by omega)).wideU (fun j hj => by omega)
          have R2 := (R'.wide (U' := (· < st2.nx + (i + 1))) (V' := (· < st2.nt + (i + 1))) (fun j hj => by omega) (fun j hj => by omega)).env_ st.env
          have hr2 : RepV C' st2.toks (· < st2.nx + (i + 1)) (· < st2.nt + (i + 1)) v r := hr.ext ⟨SLe.refl _, fun _ _ => rfl, fun k t _ h => ⟨t, h, Nat.le_refl _, rfl, fun _ => rfl⟩, fun j hj => by omega, fun j hj => by omega⟩
          have := StN.of_put (d := o.dst) (st' := { st2 with env := st.env }) hd hs hf R2 (E.ext X2 rfl) hr2
          exact ⟨_, k r st2 hQ, by rw [put_nx, put_nt]; exact this⟩
      · exact h.elim
    · rename_i x m hc
      replace h := bindO_elim h
      obtain ⟨pf, hpf, h⟩ := h
      split at h
      · rename_i T id off
        replace h := bindO_elim h
        obtain ⟨ags, has, _, h⟩ := h
        cases h with
        | mk g δ QI hdi ok k =>
        obtain ⟨u, ef, hu⟩ := rep_iface (ev_rep E hpf)
        obtain ⟨eu, hid⟩ := rep_ptr hu
        subst eu
        obtain ⟨ha1, ha2⟩ := evAll_rep E _ _ has
        have hall : ∀ (i' : Nat) (v : Value) (p : PV), (#[Value.pointer (some ⟨C.ρ id, off + δ, none⟩)] ++ c.args.map a.eval)[i']? = some v → (.ptr id (off + δ) :: ags)[i']? = some p → RepV C st.toks (· < st.nx + i) (· < st.nt + i) v p := by
          intro i' v p hv hp
          cases i' with
          | zero =>
            have hp' : PV.ptr id (off + δ) = p := Option.some.inj hp
            rw [Array.getElem?_append_left (by simp)] at hv
            have hv' : Value.pointer (some ⟨C.ρ id, off + δ, none⟩) = v := Option.some.inj hv
            rw [← hp', ← hv']
            exact .ptr hid
          | succ j =>
            have hp' : ags[j]? = some p := by simpa using hp
            have hv' : (c.args.map a.eval)[j]? = some v := by
              rw [Array.getElem?_append_right (by simp)] at hv
              simpa using hv
            exact ha2 j v p (by simpa using hv') hp'
        have hsz : (#[Value.pointer (some ⟨C.ρ id, off + δ, none⟩)] ++ c.args.map a.eval).size = (PV.ptr id (off + δ) :: ags).length := by
          have : c.args.size = ags.length := by simpa using ha1
          simp [this]; omega
        obtain ⟨hent, ok⟩ := ok
        have hrun : (execOp a.eval o).run P w = .ok (.enter g (#[Value.pointer (some ⟨C.ρ id, off + δ, none⟩)] ++ c.args.map a.eval)) w := by
          have hcf := run_callFunc hent (#[Value.pointer (some ⟨C.ρ id, off + δ, none⟩)] ++ c.args.map a.eval) w
          have hx : ∀ (u : Value) (A : Array Value), (#[u] ++ A)[0]? = some u := fun u A => by rw [Array.getElem?_append_left (by simp)]; rfl
          have hr : ∀ (u : Value) (A : Array Value), (#[u] ++ A).extract 1 (#[u] ++ A).size = A := fun u A => by apply Array.toList_inj.1; simp
          have hme := hdi (C.ρ id) off w
          simp only [execOp, ho, Sem.run_bind, resolve, hc, Sem.run_pure, Result.andThen_ok, invoke, ef, hx, hr, callMethod, run_program, hme]
          exact hcf
        unfold Oper.wp
        rw [hrun, Oper.upon_enter]
        refine (ok own S0 w0 w C _ (R.nxnt _ _) hsz hall).mono ?_
        rintro e w' ⟨r, st2, v, C', hQ, rfl, R', X, hr⟩
        have X2 : Ext C C' st.toks st2.toks (· < st.nx + i) (· < st.nt + i) (· < st2.nx + (i + 1)) (· < st2.nt + (i + 1)) := (X.wider (fun j hj => by omega)).wideU (fun j hj => by omega)
        have R2 := (R'.wide (U' := (· < st2.nx + (i + 1))) (V' := (· < st2.nt + (i + 1))) (fun j hj => by omega) (fun j hj => by omega)).env_ st.env
        have hr2 : RepV C' st2.toks (· < st2.nx + (i + 1)) (· < st2.nt + (i + 1)) v r := hr.ext ⟨SLe.refl _, fun _ _ => rfl, fun k t _ h => ⟨t, h, Nat.le_refl _, rfl, fun _ => rfl⟩, fun j hj => by omega, fun j hj => by omega⟩
        have := StN.of_put (d := o.dst) (st' := { st2 with env := st.env }) hd hs hf R2 (E.ext X2 rfl) hr2
        exact ⟨_, k r st2 hQ, by rw [put_nx, put_nt]; exact this⟩
      · exact h.elim
    · exact plain h
  · exact plain h
theorem dopsS_sound {ops : Array Oper} {Q : Exit → PS → Prop} : ∀ (l : List Oper) (i : Nat) (st : PS) (a : Act) (w : World), (l.all fun o => fitsDst N o.dst) = true → dopsS P ops i l st (Q .normal) →
    StN own S0 w0 N (· < st.nx + i) (· < st.nt + i) st a w → wpList P ops (liftN own S0 w0 N Q) l a w
  | [], i, st, a, w, _, k, h => wpList_nil ⟨_, k, h.nxnt (st.nx + i) (st.nt + i)⟩
  | o :: r, i, st, a, w, hf, k, h => by
    simp only [List.all_cons, Bool.and_eq_true] at hf
    refine wpList_step (fun K hK => ?_)
    simp only [dopsS] at k
    have step : stepN false P o st (st.nx + i) (st.nt + i) (fun st' => dopsS P ops (i + 1) r st' (Q .normal)) → o.wp P a w K (liftN own S0 w0 N Q) := fun k => by
      obtain ⟨h1, h2, C, R, E⟩ := h
      exact Oper.wp_mono (fun a' w' ⟨st', hk, hs⟩ => hK a' w' (dopsS_sound r (i + 1) st' a' w' hf.2 hk hs)) (stepS_sound E R h1 h2 hf.1 k)
    have skip : dopsS P ops (i + 1) r (st.kill o.dst) (Q .normal) → K (a.put o.dst undef) w := fun k => by
      refine hK _ _ (dopsS_sound r (i + 1) _ _ w hf.2 k ?_)
      have := (h.kill o.dst hf.1).wide (U' := (· < st.nx + (i + 1))) (V' := (· < st.nt + (i + 1))) (fun j hj => by omega) (fun j hj => by omega)
      unfold PS.kill
      rw [put_nx, put_nt]
      exact this
    cases hg : o.guard with
    | none =>
      rw [hg] at k
      simp only [Region.wanted, hg, if_true]
      exact step k
    | some gb =>
      obtain ⟨g, b⟩ := gb
      rw [hg] at k
      simp only at k
      obtain ⟨t, ht, k1, k2⟩ := guard_sound h k
      by_cases htb : t = some b
      · have : Region.wanted o (yielded ops a.tmps) = true := by simp [Region.wanted, hg, ht, htb]
        rw [if_pos this]
        exact step (k1 htb)
      · have : Region.wanted o (yielded ops a.tmps) = false := by simp [Region.wanted, hg, ht, htb]
        rw [this]
        simp only [Bool.false_eq_true, if_false]
        exact skip (k2 htb)
theorem dopsS_app {ops : Array Oper} {X : Exit → Act → World → Prop} {K : PS → Prop} : ∀ (l rest : List Oper) (i : Nat) (st : PS) (a : Act) (w : World), (l.all fun o => fitsDst N o.dst) = true → dopsS P ops i l st K →
    StN own S0 w0 N (· < st.nx + i) (· < st.nt + i) st a w → (∀ st' a' w', K st' → StN own S0 w0 N (· < st'.nx) (· < st'.nt) st' a' w' → wpList P ops X rest a' w') → wpList P ops X (l ++ rest) a w
  | [], rest, i, st, a, w, _, k, h, kk => kk _ a w k (h.nxnt (st.nx + i) (st.nt + i))
  | o :: r, rest, i, st, a, w, hf, k, h, kk => by
    simp only [List.all_cons, Bool.and_eq_true] at hf
    rw [List.cons_append]
    refine wpList_step (fun K' hK => ?_)
    simp only [dopsS] at k
    have step : stepN false P o st (st.nx + i) (st.nt + i) (fun st' => dopsS P ops (i + 1) r st' K) → o.wp P a w K' X := fun k => by
      obtain ⟨h1, h2, C, R, E⟩ := h
      exact Oper.wp_mono (fun a' w' ⟨st', hk, hs⟩ => hK a' w' (dopsS_app r rest (i + 1) st' a' w' hf.2 hk hs kk)) (stepS_sound E R h1 h2 hf.1 k)
    have skip : dopsS P ops (i + 1) r (st.kill o.dst) K → K' (a.put o.dst undef) w := fun k => by
      refine hK _ _ (dopsS_app r rest (i + 1) _ _ w hf.2 k ?_ kk)
      have := (h.kill o.dst hf.1).wide (U' := (· < st.nx + (i + 1))) (V' := (· < st.nt + (i + 1))) (fun j hj => by omega) (fun j hj => by omega)
      unfold PS.kill
      rw [put_nx, put_nt]
      exact this
    cases hg : o.guard with
    | none =>
      rw [hg] at k
      simp only [Region.wanted, hg, if_true]
      exact step k
    | some gb =>
      obtain ⟨g, b⟩ := gb
      rw [hg] at k
      simp only at k
      obtain ⟨t, ht, k1, k2⟩ := guard_sound h k
      by_cases htb : t = some b
      · have : Region.wanted o (yielded ops a.tmps) = true := by simp [Region.wanted, hg, ht, htb]
        rw [if_pos this]
        exact step (k1 htb)
      · have : Region.wanted o (yielded ops a.tmps) = false := by simp [Region.wanted, hg, ht, htb]
        rw [this]
        simp only [Bool.false_eq_true, if_false]
        exact skip (k2 htb)
theorem dopsX_sound {ops : Array Oper} {Q : Exit → PS → Prop} : ∀ (l : List Oper) (st : PS) (a : Act) (w : World), (∀ o ∈ l, fitsDst N o.dst = true) → dopsX P ops l st (Q .normal) → StN own S0 w0 N (· < st.nx) (· < st.nt) st a w → wpList P ops (liftN own S0 w0 N Q) l a w
  | [], st, a, w, _, h, hs => wpList_nil ⟨st, h, hs⟩
  | o :: r, st, a, w, hf, h, hs => by
    rcases h with h | ⟨hg, h⟩
    · refine dopsS_app [o] r 0 st a w (by simp [hf o (by simp)]) h hs (fun s a1 w1 k1 h1 => ?_)
      exact dopsX_sound r s a1 w1 (fun x hx => hf x (by simp [hx])) k1 h1
    · refine wpList_step (fun K' hK => ?_)
      have : Region.wanted o (yielded ops a.tmps) = true := by simp [Region.wanted, hg]
      rw [if_pos this]
      refine Oper.wp_mono ?_ (h own S0 w0 N a w _ (hf o (by simp)) hs)
      rintro a2 w2 ⟨s2, k2, h2⟩
      exact hK a2 w2 (dopsX_sound r s2 a2 w2 (fun x hx => hf x (by simp [hx])) k2 h2)
theorem dopsM_sound {ops : Array Oper} {Q : Exit → PS → Prop} (k : Nat) (st : PS) (a : Act) (w : World) (hf : (ops.toList.all fun o => fitsDst N o.dst) = true) (h : dopsM P ops ops.toList k st (Q .normal)) (hs : StN own S0 w0 N (· < st.nx) (· < st.nt) st a w) :
    wpList P ops (liftN own S0 w0 N Q) ops.toList a w := by
  rw [List.all_eq_true] at hf
  have e : ops.toList = ops.toList.take k ++ ops.toList.drop k := (List.take_append_drop k _).symm
  generalize hl : ops.toList = l at *
  rw [e]
  refine dopsS_app (l.take k) (l.drop k) 0 st a w (by rw [List.all_eq_true]; exact fun x hx => hf x (List.mem_of_mem_take hx)) h hs ?_
  intro s a1 w1 hk h1
  exact dopsX_sound (l.drop k) s a1 w1 (fun x hx => hf x (List.mem_of_mem_drop hx)) hk h1
end
end Go.Pw

end
section
/-
  A step hangs on what it reads alone; what it may turn.
-/
namespace Go.Pw
open Go Go.RowKit
set_option linter.unusedVariables false
set_option linter.unusedSimpArgs false
section
variable {P : Program} {st st' : PS}

/-- The states agree on what operands read. -/
structure Agree (l : List Operand) (mem : Prop) (toks : Prop) (st st' : PS) : Prop where
  env : ∀ x ∈ l, st'.ev x = st.ev x
  ptr : mem → ∀ x ∈ l, ∀ id off, st.ev x = some (.ptr id off) → ∀ ob, lkp st.heap id = some ob → lkp st'.heap id = some ob
  ms : mem → ∀ x ∈ l, ∀ id lo n c, st.ev x = some (.ms id lo n c) → ∀ ob, lkp st.heap id = some ob → lkp st'.heap id = some ob
  tok : toks → ∀ x ∈ l, ∀ k xs, st.ev x = some (.row k xs) → ∀ t, lkp st.toks k = some t → lkp st'.toks k = some t

theorem evParts_congr : ∀ (l : List (Nat × Operand)), (∀ e ∈ l, st'.ev e.2 = st.ev e.2) → evParts st' l = evParts st l
  | [], _ => rfl
  | (i, x) :: r, h => by
    simp only [evParts]
    rw [h (i, x) (by simp), evParts_congr r (fun e he => h e (by simp [he]))]
theorem evAll_congr : ∀ (l : List Operand), (∀ x ∈ l, st'.ev x = st.ev x) → evAll st' l = evAll st l
  | [], _ => rfl
  | x :: r, h => by
    simp only [evAll]
    rw [h x (by simp), evAll_congr r (fun e he => h e (by simp [he]))]
theorem bounds_congr {lo hi : Option Operand} {len : Nat} {K : Nat → Nat → Prop} (h1 : ∀ x, lo = some x → st'.ev x = st.ev x) (h2 : ∀ x, hi = some x → st'.ev x = st.ev x) : boundsK st' lo hi len K = boundsK st lo hi len K := by
  unfold boundsK
  cases lo <;> cases hi <;> simp only
  · rw [h2 _ rfl]
  · rw [h1 _ rfl]
  · rw [h1 _ rfl, h2 _ rfl]

theorem valK_congr {op : Op} {K : PV → Prop} {mem toks : Prop} (A : Agree op.operands.toList mem toks st st') (hm : (∃ t x, op = .load t x) → mem) (h : valK P st op K) : valK P st' op K := by
  have ev : ∀ x, x ∈ op.operands.toList → st'.ev x = st.ev x := A.env
  unfold valK at h ⊢
  split at h
  · rename_i x; rw [ev x (by simp [Op.operands])]; exact h
  · rename_i x; rw [ev x (by simp [Op.operands])]; exact h
  · rename_i c a b
    rw [ev c (by simp [Op.operands]), ev a (by simp [Op.operands]), ev b (by simp [Op.operands])]
    exact h
  · rename_i t x
    have hx := ev x (by simp [Op.operands])
    unfold loadK at h ⊢
    rw [hx]
    replace h := bindO_elim h
    obtain ⟨p, hp, h⟩ := h
    rw [hp, bindO_some]
    split at h
    · rename_i id off
      replace h := bindO_elim h
      obtain ⟨ob, hob, h⟩ := h
      try simp only
      rw [A.ptr (hm ⟨t, x, rfl⟩) x (by simp [Op.operands]) id off hp ob hob]
      exact h
    · exact h
    · exact h.elim
  · rename_i t parts
    have hp : evParts st' parts.toList = evParts st parts.toList := evParts_congr _ (fun e he => ev e.2 (by simp only [Op.operands]; exact List.mem_map.2 ⟨e, he, rfl⟩))
    unfold buildK at h ⊢
    rw [hp]
    exact h
  · rename_i op t x y _
    unfold binK at h ⊢
    rw [ev x (by simp [Op.operands]), ev y (by simp [Op.operands])]
    exact h
  · rename_i op _ x; rw [ev x (by simp [Op.operands])]; exact h
  · rename_i s d x; rw [ev x (by simp [Op.operands])]; exact h
  · rename_i t x lo hi
    have hb : ∀ (len : Nat) (K : Nat → Nat → Prop), boundsK st' lo hi len K = boundsK st lo hi len K := fun len K =>
      bounds_congr (fun y hy => ev y (by simp [Op.operands, hy])) (fun y hy => ev y (by simp [Op.operands, hy]))
    unfold sliceK at h ⊢
    rw [ev x (by simp [Op.operands])]
    simp only [hb]
    exact h
  · rename_i s x f
    unfold fieldAddrK at h ⊢
    rw [ev x (by simp [Op.operands])]
    exact h
  · rename_i s x f
    unfold fieldK at h ⊢
    rw [ev x (by simp [Op.operands])]
    exact h
  · rename_i t x i
    unfold indexAddrK at h ⊢
    rw [ev x (by simp [Op.operands]), ev i (by simp [Op.operands])]
    exact h
  · rename_i t x i
    unfold indexK at h ⊢
    rw [ev x (by simp [Op.operands]), ev i (by simp [Op.operands])]
    exact h
  · rename_i x i; rw [ev x (by simp [Op.operands])]; exact h
  · rename_i t x; rw [ev x (by simp [Op.operands])]; exact h
  · rename_i f first caps
    rw [evAll_congr caps.toList (fun y hy => ev y (by simp only [Op.operands, Array.toList_append]; exact List.mem_append.2 (.inr hy)))]
    exact h
  · rename_i x; rw [ev x (by simp [Op.operands])]; exact h
  · rename_i c
    have ev' : ∀ x ∈ c.args.toList, st'.ev x = st.ev x := fun x hx => ev x (by simp only [Op.operands, Call.operands, Array.toList_append]; exact List.mem_append.2 (.inr hx))
    unfold callV at h ⊢
    split at h
    · split at h
      · rename_i x t hx ht
        unfold lenK at h ⊢
        rw [ev' x (by rw [hx]; simp)]
        exact h
      · exact h.elim
    · split at h
      · rename_i x y hx
        rw [ev' x (by rw [hx]; simp), ev' y (by rw [hx]; simp)]
        exact h
      · exact h.elim
    · split at h
      · rename_i x y hx
        rw [ev' x (by rw [hx]; simp), ev' y (by rw [hx]; simp)]
        exact h
      · exact h.elim
    · exact h.elim
  · exact h.elim

theorem srcXs_congr {sz : Nat} {p : PV} {ys : List (List PV)} (h : srcXs st sz p = some ys) (hm : ∀ id lo n c, p = .ms id lo n c → ∀ ob, lkp st.heap id = some ob → lkp st'.heap id = some ob) : srcXs st' sz p = some ys := by
  unfold srcXs at h ⊢
  split at h
  · exact h
  · exact h
  · exact h
  · rename_i id lo n c
    try simp only
    split at h
    · rename_i T cs ho
      rw [hm id lo n c rfl _ ho]
      exact h
    · cases h
  · cases h
theorem appTail_congr {tk0 sz by_ : Nat} {e : TypeId} {d : PV} {ys : List (List PV)} {K : Delta → Prop} (htok : ∀ k xs, d = .row k xs → ∀ t, lkp st.toks k = some t → lkp st'.toks k = some t) (hms : ∀ id lo n c, d = .ms id lo n c → ∀ ob, lkp st.heap id = some ob → lkp st'.heap id = some ob) (h : appTail st tk0 e sz by_ d ys K) : appTail st' tk0 e sz by_ d ys K := by
  unfold appTail at h ⊢
  cases ys with
  | nil => exact h
  | cons y0 r =>
    try simp only at h ⊢
    split at h
    · exact h
    · rename_i k xs
      try simp only
      replace h := bindO_elim h
      obtain ⟨t1, ht1, h⟩ := h
      rw [htok k xs rfl t1 ht1]
      exact h
    · rename_i id lo n cap
      obtain ⟨h3, h⟩ := h
      refine ⟨h3, ?_⟩
      replace h := bindO_elim h
      obtain ⟨xs0, hxs0, h⟩ := h
      rw [srcXs_congr (st' := st') hxs0 (fun id lo n c' e ob ho => hms id lo n c' e ob ho), bindO_some]
      exact h
    · exact h.elim
theorem append_congr {c : Call} {tk : Nat} {K : Delta → Prop} (A : Agree c.args.toList True True st st') (h : appendK P st tk c K) : appendK P st' tk c K := by
  unfold appendK at h ⊢
  split at h
  · rename_i x y t t' hx ht
    split at h
    · rename_i e hu
      replace h := bindO_elim h
      obtain ⟨sz, hsz, h⟩ := h
      replace h := bindO_elim h
      obtain ⟨by_, hby, h⟩ := h
      replace h := bindO_elim h
      obtain ⟨z, hz, h1, h2, h⟩ := h
      replace h := bindO_elim h
      obtain ⟨d, hd, h⟩ := h
      replace h := bindO_elim h
      obtain ⟨s, hs, h⟩ := h
      have ex := A.env x (by rw [hx]; simp)
      have ey := A.env y (by rw [hx]; simp)
      have hT : ∀ k xs, d = .row k xs → ∀ t, lkp st.toks k = some t → lkp st'.toks k = some t := fun k xs hr t1 ht1 => A.tok trivial x (by rw [hx]; simp) k xs (by rw [hd, hr]) t1 ht1
      have hM : ∀ id lo n c, d = .ms id lo n c → ∀ ob, lkp st.heap id = some ob → lkp st'.heap id = some ob := fun id lo n c' hr ob ho => A.ms trivial x (by rw [hx]; simp) id lo n c' (by rw [hd, hr]) ob ho
      rw [hsz, bindO_some, hby, bindO_some, hz, bindO_some]
      refine ⟨h1, h2, ?_⟩
      rw [ex, hd, bindO_some, ey, hs, bindO_some]
      split at h
      · obtain ⟨h3, h4, h5, h⟩ := h
        exact ⟨h3, h4, h5, appTail_congr hT hM h⟩
      · obtain ⟨h3, h⟩ := h
        replace h := bindO_elim h
        obtain ⟨ys0, hys0, h⟩ := h
        replace h := bindO_elim h
        obtain ⟨ys, hys, hl, h⟩ := h
        refine ⟨h3, ?_⟩
        rw [srcXs_congr (st' := st') hys0 (fun id lo n c' e ob ho => A.ms trivial y (by rw [hx]; simp) id lo n c' (by rw [hs, e]) ob ho), bindO_some, hys, bindO_some]
        exact ⟨hl, appTail_congr hT hM h⟩
    · exact h.elim
  · exact h.elim

theorem stepD_congr {o : Oper} {id tk : Nat} {K : Delta → Prop} (A : Agree o.op.operands.toList (kindOf o = 1 ∨ kindOf o = 3 ∨ kindOf o = 4) (kindOf o = 4) st st') (h : stepD P o st id tk K) : stepD P o st' id tk K := by
  have ev : ∀ x, x ∈ o.op.operands.toList → st'.ev x = st.ev x := A.env
  unfold stepD at h ⊢
  split at h
  · exact h
  · rename_i T x ho
    rw [ev x (by simp [ho, Op.operands])]
    exact h
  · rename_i t x y ho
    rw [ev x (by simp [ho, Op.operands]), ev y (by simp [ho, Op.operands])]
    replace h := bindO_elim h
    obtain ⟨p, hp, h⟩ := h
    replace h := bindO_elim h
    obtain ⟨q, hq, h⟩ := h
    rw [hp, bindO_some, hq, bindO_some]
    split at h
    · rename_i id1 off
      replace h := bindO_elim h
      obtain ⟨ob, hob, h⟩ := h
      try simp only
      rw [A.ptr (.inr (.inl (by simp [kindOf, ho]))) x (by simp [ho, Op.operands]) id1 off hp ob hob]
      exact h
    · exact h.elim
  · rename_i t len parts ho
    rw [evParts_congr (st' := st') (st := st) parts.toList (fun e he => ev e.2 (by simp only [ho, Op.operands]; exact List.mem_map.2 ⟨e, he, rfl⟩))]
    exact h
  · rename_i t l c ho
    rw [ev l (by simp [ho, Op.operands]), ev c (by simp [ho, Op.operands])]
    exact h
  · rename_i t x ho
    rw [ev x (by simp [ho, Op.operands])]
    exact h
  · rename_i x ho
    rw [ev x (by simp [ho, Op.operands])]
    replace h := bindO_elim h
    obtain ⟨p, hp, h⟩ := h
    rw [hp, bindO_some]
    split at h
    · rename_i id1
      replace h := bindO_elim h
      obtain ⟨ob, hob, h⟩ := h
      try simp only
      rw [A.ptr (.inr (.inl (by simp [kindOf, ho]))) x (by simp [ho, Op.operands]) id1 0 hp ob hob]
      exact h
    · exact h.elim
  · rename_i c ho
    have hargs : ∀ x ∈ c.args.toList, x ∈ o.op.operands.toList := fun x hx => by simp only [ho, Op.operands, Call.operands, Array.toList_append]; exact List.mem_append.2 (.inr hx)
    split at h
    · rename_i hc
      have hk : kindOf o = 4 := by simp [kindOf, ho, hc]
      exact append_congr ⟨fun x hx => ev x (hargs x hx), fun _ x hx => A.ptr (.inr (.inr hk)) x (hargs x hx), fun _ x hx => A.ms (.inr (.inr hk)) x (hargs x hx), fun _ x hx => A.tok hk x (hargs x hx)⟩ h
    · have A' : Agree (Op.call c).operands.toList True True st st → True := fun _ => trivial
      have hh : valK P st (.call c) (fun p => K (.val p)) := h
      have := valK_congr (P := P) (st := st) (st' := st') (op := .call c) (mem := False) (toks := False) ⟨fun x hx => ev x (by rw [ho]; exact hx), fun f => f.elim, fun f => f.elim, fun f => f.elim⟩ (fun ⟨t, x, e⟩ => by cases e) hh
      exact this
    · unfold callK at h ⊢
      split at h
      · rename_i f hc
        rw [ev f (by simp [ho, Op.operands, Call.operands, hc]), evAll_congr (st' := st') (st := st) c.args.toList (fun x hx => ev x (hargs x hx))]
        exact h
      · exact h.elim
  · refine valK_congr (mem := kindOf o = 1) (toks := False) ⟨ev, fun hm => A.ptr (.inl hm), fun hm => A.ms (.inl hm), fun f => f.elim⟩ ?_ h
    rintro ⟨t, x, e⟩
    simp [kindOf, e]

/-- What a step may turn. -/
theorem stepD_shape {o : Oper} {id tk : Nat} {δ : Delta} (h : stepD P o st id tk (· = δ)) :
    (∀ i ob, δ.obj = some (true, i, ob) → i = id) ∧ (∀ i ob, δ.obj = some (false, i, ob) → kindOf o = 3 ∧ ∃ ob', lkp st.heap i = some ob') ∧
    (∀ k t, δ.tok = some (k, t) → k = tk ∧ (kindOf o = 2 ∨ kindOf o = 4) ∨ kindOf o = 4 ∧ ∃ t', lkp st.toks k = some t') := by
  have vals : ∀ {F : (PV → Prop) → Prop}, Det F → F (fun p => Delta.val p = δ) → δ.obj = none ∧ δ.tok = none := fun hF h => by
    obtain ⟨p, hp, _⟩ := hF.out _ h
    rw [← hp]
    exact ⟨rfl, rfl⟩
  have fin : δ.obj = none ∧ δ.tok = none → _ := fun (h : δ.obj = none ∧ δ.tok = none) => (⟨fun i ob e => (by rw [h.1] at e; cases e), fun i ob e => (by rw [h.1] at e; cases e), fun k t e => (by rw [h.2] at e; cases e)⟩ :
    (∀ i ob, δ.obj = some (true, i, ob) → i = id) ∧ (∀ i ob, δ.obj = some (false, i, ob) → kindOf o = 3 ∧ ∃ ob', lkp st.heap i = some ob') ∧
    (∀ k t, δ.tok = some (k, t) → k = tk ∧ (kindOf o = 2 ∨ kindOf o = 4) ∨ kindOf o = 4 ∧ ∃ t', lkp st.toks k = some t'))
  unfold stepD at h
  split at h
  · replace h := bindO_elim h
    obtain ⟨z, hz, _, rfl⟩ := h
    exact ⟨fun i ob e => (by injection e with e; injection e with _ e; injection e with e; exact e.symm), fun i ob e => (by injection e with e; injection e with e; cases e), fun k t e => (by cases e)⟩
  · replace h := bindO_elim h
    obtain ⟨z, hz, _, rfl⟩ := h
    exact ⟨fun i ob e => (by injection e with e; injection e with _ e; injection e with e; exact e.symm), fun i ob e => (by injection e with e; injection e with e; cases e), fun k t e => (by cases e)⟩
  · rename_i t x y ho
    replace h := bindO_elim h
    obtain ⟨p, hp, h⟩ := h
    replace h := bindO_elim h
    obtain ⟨q, hq, h⟩ := h
    split at h
    · replace h := bindO_elim h
      obtain ⟨ob, hob, h⟩ := h
      split at h
      · obtain ⟨_, _, _, rfl⟩ := h
        exact ⟨fun i ob e => (by injection e with e; injection e with e; cases e), fun i ob e => (by injection e with e; injection e with _ e; injection e with e _; subst e; exact ⟨by simp [kindOf, ho], _, hob⟩), fun k t e => (by cases e)⟩
      · exact h.elim
    · exact h.elim
  · rename_i t len parts ho
    split at h
    · replace h := bindO_elim h
      obtain ⟨sz, hsz, h⟩ := h
      replace h := bindO_elim h
      obtain ⟨z, hz, h⟩ := h
      replace h := bindO_elim h
      obtain ⟨ps, hps, h⟩ := h
      replace h := bindO_elim h
      obtain ⟨xs, hxs, _, _, _, _, _, rfl⟩ := h
      exact ⟨fun i ob e => (by cases e), fun i ob e => (by cases e), fun k t e => by injection e with e; injection e with e _; exact .inl ⟨e.symm, .inl (by simp [kindOf, ho])⟩⟩
    · exact h.elim
  · split at h
    · replace h := bindO_elim h
      obtain ⟨sz, hsz, h⟩ := h
      replace h := bindO_elim h
      obtain ⟨b, hb, h⟩ := h
      replace h := bindO_elim h
      obtain ⟨z, hz, h⟩ := h
      replace h := bindO_elim h
      obtain ⟨p, hp, h⟩ := h
      replace h := bindO_elim h
      obtain ⟨q, hq, h⟩ := h
      replace h := intK_elim h
      obtain ⟨_, n, _, h⟩ := h
      replace h := intK_elim h
      obtain ⟨_, m, _, _, _, _, _, _, _, _, rfl⟩ := h
      exact ⟨fun i ob e => (by injection e with e; injection e with _ e; injection e with e; exact e.symm), fun i ob e => (by injection e with e; injection e with e; cases e), fun k t e => (by cases e)⟩
    · exact h.elim
  · obtain ⟨_, h⟩ := h
    replace h := bindO_elim h
    obtain ⟨p, hp, h⟩ := h
    split at h
    · subst h
      exact ⟨fun i ob e => (by injection e with e; injection e with _ e; injection e with e; exact e.symm), fun i ob e => (by injection e with e; injection e with e; cases e), fun k t e => (by cases e)⟩
    · exact h.elim
  · rename_i x ho
    replace h := bindO_elim h
    obtain ⟨p, hp, h⟩ := h
    split at h
    · replace h := bindO_elim h
      obtain ⟨ob, hob, h⟩ := h
      split at h
      · rename_i s pos
        by_cases hlt : pos < s.size
        · have := h.1 hlt
          subst this
          exact ⟨fun i ob e => (by injection e with e; injection e with e; cases e), fun i ob e => (by injection e with e; injection e with _ e; injection e with e _; subst e; exact ⟨by simp [kindOf, ho], _, hob⟩), fun k t e => (by cases e)⟩
        · have := h.2 (by omega)
          subst this
          exact fin ⟨rfl, rfl⟩
      · exact h.elim
    · exact h.elim
  · rename_i c ho
    split at h
    · rename_i hc
      have hk : kindOf o = 4 := by simp [kindOf, ho, hc]
      unfold appendK at h
      split at h
      · split at h
        · replace h := bindO_elim h
          obtain ⟨sz, hsz, h⟩ := h
          replace h := bindO_elim h
          obtain ⟨by_, hby, h⟩ := h
          replace h := bindO_elim h
          obtain ⟨z, hz, _, _, h⟩ := h
          replace h := bindO_elim h
          obtain ⟨d, hd, h⟩ := h
          replace h := bindO_elim h
          obtain ⟨s, hs, h⟩ := h
          split at h
          · obtain ⟨_, _, _, h⟩ := h
            unfold appTail at h
            split at h
            · obtain ⟨_, rfl⟩ := h
              exact fin ⟨rfl, rfl⟩
            · split at h
              · obtain ⟨_, _, rfl⟩ := h
                exact ⟨fun i ob e => (by cases e), fun i ob e => (by cases e), fun k t e => by injection e with e; injection e with e _; exact .inl ⟨e.symm, .inr hk⟩⟩
              · replace h := bindO_elim h
                obtain ⟨tk1, htk1, _, _, _, _, _, rfl⟩ := h
                exact ⟨fun i ob e => (by cases e), fun i ob e => (by cases e), fun k t e => by injection e with e; injection e with e _; subst e; exact .inr ⟨hk, _, htk1⟩⟩
              · obtain ⟨_, h⟩ := h
                replace h := bindO_elim h
                obtain ⟨xs0, hxs0, h⟩ := h
                replace h := bindO_elim h
                obtain ⟨xs, hxs, _, _, _, rfl⟩ := h
                exact ⟨fun i ob e => (by cases e), fun i ob e => (by cases e), fun k t e => by injection e with e; injection e with e _; exact .inl ⟨e.symm, .inr hk⟩⟩
              · exact h.elim
          · obtain ⟨_, h⟩ := h
            replace h := bindO_elim h
            obtain ⟨ys0, hys0, h⟩ := h
            replace h := bindO_elim h
            obtain ⟨ys, hys, _, h⟩ := h
            unfold appTail at h
            split at h
            · obtain ⟨_, rfl⟩ := h
              exact fin ⟨rfl, rfl⟩
            · split at h
              · obtain ⟨_, _, rfl⟩ := h
                exact ⟨fun i ob e => (by cases e), fun i ob e => (by cases e), fun k t e => by injection e with e; injection e with e _; exact .inl ⟨e.symm, .inr hk⟩⟩
              · replace h := bindO_elim h
                obtain ⟨tk1, htk1, _, _, _, _, _, rfl⟩ := h
                exact ⟨fun i ob e => (by cases e), fun i ob e => (by cases e), fun k t e => by injection e with e; injection e with e _; subst e; exact .inr ⟨hk, _, htk1⟩⟩
              · obtain ⟨_, h⟩ := h
                replace h := bindO_elim h
                obtain ⟨xs0, hxs0, h⟩ := h
                replace h := bindO_elim h
                obtain ⟨xs, hxs, _, _, _, rfl⟩ := h
                exact ⟨fun i ob e => (by cases e), fun i ob e => (by cases e), fun k t e => by injection e with e; injection e with e _; exact .inl ⟨e.symm, .inr hk⟩⟩
              · exact h.elim
        · exact h.elim
      · exact h.elim
    · exact fin (vals callV_det h)
    · exact fin (vals call_det h)
  · exact fin (vals valK_det h)
end
end Go.Pw

end
section
/-
  Regions that draw their order: whatever isn't ordered changes places.
-/
namespace Go.Pw
open Go Go.RowKit
set_option linter.unusedVariables false
set_option linter.unusedSimpArgs false

/-- The same to whoever looks. -/
structure Eqv (s s' : PS) : Prop where
  env : ∀ t, lkp s.env t = lkp s'.env t
  heap : ∀ t, lkp s.heap t = lkp s'.heap t
  toks : ∀ t, lkp s.toks t = lkp s'.toks t
theorem Eqv.refl (s : PS) : Eqv s s := ⟨fun _ => rfl, fun _ => rfl, fun _ => rfl⟩
theorem Eqv.symm {s s' : PS} (h : Eqv s s') : Eqv s' s := ⟨fun t => (h.env t).symm, fun t => (h.heap t).symm, fun t => (h.toks t).symm⟩
theorem Eqv.trans {s s' s'' : PS} (h : Eqv s s') (k : Eqv s' s'') : Eqv s s'' := ⟨fun t => (h.env t).trans (k.env t), fun t => (h.heap t).trans (k.heap t), fun t => (h.toks t).trans (k.toks t)⟩
theorem Eqv.ev {s s' : PS} (h : Eqv s s') (x : Operand) : s.ev x = s'.ev x := by
  cases x <;> simp only [PS.ev]
  exact h.env _
theorem Delta.apply_env (dst : Option Tmp) (s : PS) (d : Delta) (t : Nat) : lkp (d.apply dst s).env t = if dst = some t then some (d.res.getD (.tup [])) else lkp s.env t := by
  unfold Delta.apply
  cases hr : d.res with
  | some p =>
    cases dst with
    | none => simp [PS.put]
    | some k => simp only [PS.put, lkp_cons, Option.some.injEq]; by_cases h : t = k <;> simp [h, eq_comm]
  | none =>
    cases dst with
    | none => simp [PS.kill, PS.put]
    | some k => simp only [PS.kill, PS.put, lkp_cons, Option.some.injEq]; by_cases h : t = k <;> simp [h, eq_comm]
theorem Delta.apply_heap (dst : Option Tmp) (s : PS) (d : Delta) (t : Nat) : lkp (d.apply dst s).heap t = match d.obj with
    | some (_, i, ob) => if t = i then some ob else lkp s.heap t
    | none => lkp s.heap t := by
  unfold Delta.apply
  cases hr : d.res <;> cases dst <;> (cases ho : d.obj with
    | none => rfl
    | some x => obtain ⟨b, i, ob⟩ := x; cases b <;> simp only [PS.put, PS.kill, lkp_cons, lkp_upd])
theorem Delta.apply_toks (dst : Option Tmp) (s : PS) (d : Delta) (t : Nat) : lkp (d.apply dst s).toks t = match d.tok with
    | some (i, ob) => if t = i then some ob else lkp s.toks t
    | none => lkp s.toks t := by
  unfold Delta.apply
  cases hr : d.res <;> cases dst <;> (cases ho : d.tok with
    | none => rfl
    | some x => obtain ⟨i, ob⟩ := x; simp only [PS.put, PS.kill, lkp_upd])
theorem Eqv.apply {s s' : PS} (h : Eqv s s') (dst : Option Tmp) (d : Delta) : Eqv (d.apply dst s) (d.apply dst s') :=
  ⟨fun t => by rw [Delta.apply_env, Delta.apply_env, h.env], fun t => by rw [Delta.apply_heap, Delta.apply_heap, h.heap], fun t => by rw [Delta.apply_toks, Delta.apply_toks, h.toks]⟩

section
variable {P : Program} {ops : Array Oper}
/-- One operation of a region, with its guard. -/
def elemD (P : Program) (ops : Array Oper) (o : Oper) (st : PS) (id tk : Nat) (K : Delta → Prop) : Prop :=
  match o.guard with
  | none => stepD P o st id tk K
  | some (g, b) => guardK ops g st fun t => (t = some b → stepD P o st id tk K) ∧ (t ≠ some b → K ⟨none, none, none⟩)
theorem guardK_congr {g : Nat} {s s' : PS} {K : Option Bool → Prop} (h : ∀ d, (ops[g]?).bind (·.dst) = some d → lkp s'.env d = lkp s.env d) (k : guardK ops g s K) : guardK ops g s' K := by
  unfold guardK at k ⊢
  replace k := bindO_elim k
  obtain ⟨d, hd, k⟩ := k
  rw [hd, bindO_some, h d hd]
  exact k
theorem guardK_elim {g : Nat} {s : PS} {K : Option Bool → Prop} (k : guardK ops g s K) : ∃ t, K t ∧ ∀ K' : Option Bool → Prop, K' t → guardK ops g s K' := by
  unfold guardK at k ⊢
  replace k := bindO_elim k
  obtain ⟨d, hd, k⟩ := k
  replace k := bindO_elim k
  obtain ⟨p, hp, k⟩ := k
  simp only [hd, bindO_some, hp]
  split at k
  · exact ⟨_, k, fun K' h => h⟩
  · exact ⟨_, k, fun K' h => h⟩
  · exact k.elim
theorem elemD_det {o : Oper} {st : PS} {id tk : Nat} : Det (elemD P ops o st id tk) := by
  unfold elemD
  split
  · exact stepD_det
  · rename_i g b _
    refine ⟨fun K h => ?_⟩
    obtain ⟨t, ⟨h1, h2⟩, hk⟩ := guardK_elim h
    by_cases ht : t = some b
    · obtain ⟨x, hx, hx'⟩ := stepD_det.out _ (h1 ht)
      exact ⟨x, hx, fun K' k' => hk _ ⟨fun _ => hx' K' k', fun e => absurd ht e⟩⟩
    · exact ⟨_, h2 ht, fun K' k' => hk _ ⟨fun e => absurd e ht, fun _ => k'⟩⟩
theorem mem_reads_op {o : Oper} {t : Nat} (h : Operand.tmp t ∈ o.op.operands.toList) : t ∈ readsOf ops o := by
  unfold readsOf
  exact List.mem_append.2 (.inl (List.mem_filterMap.2 ⟨_, h, rfl⟩))
theorem mem_reads_guard {o : Oper} {g : Nat} {b : Bool} {d : Nat} (hg : o.guard = some (g, b)) (h : (ops[g]?).bind (·.dst) = some d) : d ∈ readsOf ops o := by
  unfold readsOf
  refine List.mem_append.2 (.inr ?_)
  rw [hg]
  simp [h]
/-- The states agree on what an operation looks at. -/
structure AgreeO (ops : Array Oper) (o : Oper) (s s' : PS) : Prop where
  env : ∀ t ∈ readsOf ops o, lkp s'.env t = lkp s.env t
  obj : kindOf o = 1 ∨ kindOf o = 3 ∨ kindOf o = 4 → ∀ x ∈ o.op.operands.toList, ∀ id, ((∃ off, s.ev x = some (.ptr id off)) ∨ ∃ lo n c, s.ev x = some (.ms id lo n c)) → lkp s'.heap id = lkp s.heap id
  tok : kindOf o = 4 → ∀ x ∈ o.op.operands.toList, ∀ k xs, s.ev x = some (.row k xs) → lkp s'.toks k = lkp s.toks k
theorem AgreeO.evs {o : Oper} {s s' : PS} (A : AgreeO ops o s s') : ∀ x ∈ o.op.operands.toList, s'.ev x = s.ev x := by
  intro x hx
  cases x with
  | tmp t => exact A.env t (mem_reads_op hx)
  | _ => rfl
theorem AgreeO.symm {o : Oper} {s s' : PS} (A : AgreeO ops o s s') : AgreeO ops o s' s :=
  ⟨fun t ht => (A.env t ht).symm, fun hk x hx id h => (A.obj hk x hx id (by rw [A.evs x hx] at h; exact h)).symm, fun hk x hx k xs h => (A.tok hk x hx k xs (by rw [A.evs x hx] at h; exact h)).symm⟩
theorem AgreeO.of_eqv {o : Oper} {s s' : PS} (h : Eqv s s') : AgreeO ops o s s' :=
  ⟨fun t _ => (h.env t).symm, fun _ _ _ id _ => (h.heap id).symm, fun _ _ _ k _ _ => (h.toks k).symm⟩
theorem elemD_congr {o : Oper} {id tk : Nat} {K : Delta → Prop} {s s' : PS} (A : AgreeO ops o s s') (h : elemD P ops o s id tk K) : elemD P ops o s' id tk K := by
  have A' : Agree o.op.operands.toList (kindOf o = 1 ∨ kindOf o = 3 ∨ kindOf o = 4) (kindOf o = 4) s s' :=
    ⟨A.evs, fun hk x hx id off h ob hob => by rw [A.obj hk x hx id (.inl ⟨off, h⟩)]; exact hob, fun hk x hx id lo n c h ob hob => by rw [A.obj hk x hx id (.inr ⟨lo, n, c, h⟩)]; exact hob,
      fun hk x hx k xs h t ht => by rw [A.tok hk x hx k xs h]; exact ht⟩
  unfold elemD at h ⊢
  split at h
  · exact stepD_congr A' h
  · rename_i g b hg
    obtain ⟨t, ⟨h1, h2⟩, hk⟩ := guardK_elim h
    have hk' := guardK_congr (s' := s') (fun d hd => A.env d (mem_reads_guard hg hd)) (hk (fun u => u = t) rfl)
    obtain ⟨t', e, hk2⟩ := guardK_elim hk'
    subst e
    exact hk2 _ ⟨fun e => stepD_congr A' (h1 e), h2⟩
theorem elemD_shape {o : Oper} {id tk : Nat} {δ : Delta} {st : PS} (h : elemD P ops o st id tk (· = δ)) :
    (∀ i ob, δ.obj = some (true, i, ob) → i = id) ∧ (∀ i ob, δ.obj = some (false, i, ob) → kindOf o = 3 ∧ ∃ ob', lkp st.heap i = some ob') ∧
    (∀ k t, δ.tok = some (k, t) → k = tk ∧ (kindOf o = 2 ∨ kindOf o = 4) ∨ kindOf o = 4 ∧ ∃ t', lkp st.toks k = some t') := by
  unfold elemD at h
  split at h
  · exact stepD_shape h
  · rename_i g b hg
    obtain ⟨t, ⟨h1, h2⟩, hk⟩ := guardK_elim h
    by_cases ht : t = some b
    · exact stepD_shape (h1 ht)
    · have := h2 ht
      subst this
      exact ⟨fun i ob e => (by cases e), fun i ob e => (by cases e), fun k t e => (by cases e)⟩

/-- Every object and row that a slot tells, and every one that lies, is among U, V. -/
structure Inh (U V : Nat → Prop) (st : PS) : Prop where
  ptr : ∀ t id off, lkp st.env t = some (.ptr id off) → U id
  ms : ∀ t id lo n c, lkp st.env t = some (.ms id lo n c) → U id
  row : ∀ t k xs, lkp st.env t = some (.row k xs) → V k
  heap : ∀ id ob, lkp st.heap id = some ob → U id
  toks : ∀ k t, lkp st.toks k = some t → V k
theorem rep_row_V {C : Cx} {T : List (Nat × Tok)} {U V : Nat → Prop} {v : Value} {k : Nat} {xs : List (List PV)} (h : RepV C T U V v (.row k xs)) : V k := by
  cases h with
  | frz h => cases h
  | row h hk ht => exact hk
theorem StN.inh {own : Nat → Prop} {S0 : Base} {w0 w : World} {N : Nat} {U V : Nat → Prop} {st : PS} {a : Act} (h : StN own S0 w0 N U V st a w) : Inh U V st := by
  obtain ⟨h1, h2, C, R, E⟩ := h
  refine ⟨fun t id off e => ?_, fun t id lo n c e => ?_, fun t k xs e => ?_, fun id ob e => (R.hown id ob e).1, fun k t e => (R.tok k t e).1⟩
  · obtain ⟨v, _, r⟩ := E t _ e; exact (rep_ptr r).2
  · obtain ⟨v, _, r⟩ := E t _ e; exact (rep_ms r).2.1
  · obtain ⟨v, _, r⟩ := E t _ e; exact rep_row_V r
theorem constPV_no {v : Value} : (∀ id off, constPV v ≠ .ptr id off) ∧ (∀ id lo n c, constPV v ≠ .ms id lo n c) ∧ (∀ k xs, constPV v ≠ .row k xs) := by
  unfold constPV
  split <;> refine ⟨fun _ _ => ?_, fun _ _ _ _ => ?_, fun _ _ => ?_⟩ <;> exact fun e => by cases e
theorem Inh.ev_obj {U V : Nat → Prop} {st : PS} (h : Inh U V st) {x : Operand} {id : Nat} (k : (∃ off, st.ev x = some (.ptr id off)) ∨ ∃ lo n c, st.ev x = some (.ms id lo n c)) : U id := by
  cases x with
  | tmp t =>
    rcases k with ⟨off, k⟩ | ⟨lo, n, c, k⟩
    · exact h.ptr t id off k
    · exact h.ms t id lo n c k
  | const v =>
    rcases k with ⟨off, k⟩ | ⟨lo, n, c, k⟩ <;> simp only [PS.ev] at k <;> split at k
    · exact (constPV_no.1 _ _ (Option.some.inj k)).elim
    · cases k
    · exact (constPV_no.2.1 _ _ _ _ (Option.some.inj k)).elim
    · cases k
  | func f => rcases k with ⟨off, k⟩ | ⟨lo, n, c, k⟩ <;> simp [PS.ev] at k
  | global g => rcases k with ⟨off, k⟩ | ⟨lo, n, c, k⟩ <;> simp [PS.ev] at k
theorem Inh.ev_tok {U V : Nat → Prop} {st : PS} (h : Inh U V st) {x : Operand} {id : Nat} {xs : List (List PV)} (k : st.ev x = some (.row id xs)) : V id := by
  cases x with
  | tmp t => exact h.row t id xs k
  | const v =>
    simp only [PS.ev] at k
    split at k
    · exact (constPV_no.2.2 _ _ (Option.some.inj k)).elim
    · cases k
  | func f => simp [PS.ev] at k
  | global g => simp [PS.ev] at k

/-- Neither meets the other. -/
structure Indep (ops : Array Oper) (x y : Oper) : Prop where
  kind : conflict (kindOf x) (kindOf y) = false
  d : ∀ d, x.dst = some d → d ∉ readsOf ops y
  e : ∀ d, y.dst = some d → d ∉ readsOf ops x
  dd : ∀ d, x.dst = some d → y.dst ≠ some d
theorem Indep.symm {x y : Oper} (h : Indep ops x y) : Indep ops y x :=
  ⟨by have := h.kind; unfold conflict at this ⊢; cases h1 : kindOf x == 3 <;> cases h2 : kindOf y == 3 <;> cases h3 : kindOf x == 1 <;> cases h4 : kindOf y == 1 <;> cases h5 : kindOf x == 4 <;> cases h6 : kindOf y == 4 <;> simp_all,
    h.e, h.d, fun d h1 h2 => h.dd d h2 h1⟩
theorem Indep.of {x y : Oper} (h : (!conflict (kindOf x) (kindOf y) && !slotsClash ops x y) = true) : Indep ops x y := by
  simp only [Bool.and_eq_true, Bool.not_eq_true', slotsClash, Bool.or_eq_false_iff] at h
  obtain ⟨h1, h2, h3⟩ := h
  refine ⟨h1, fun d hd hm => ?_, fun d hd hm => ?_, fun d hd hm => ?_⟩
  · rw [hd] at h2; simp only [Bool.or_eq_false_iff] at h2; have := h2.1; simp [hm] at this
  · rw [hd] at h3; simp [hm] at h3
  · rw [hd] at h2; simp only [Bool.or_eq_false_iff] at h2; have := h2.2; simp [hm] at this

/-- What y turns x does not see. -/
theorem agree_apply {x y : Oper} {s : PS} {U V : Nat → Prop} {id tk : Nat} {d : Delta} (I : Indep ops x y) (hi : Inh U V s) (hU : ¬ U id) (hV : ¬ V tk) (h : elemD P ops y s id tk (· = d)) : AgreeO ops x s (d.apply y.dst s) := by
  obtain ⟨s1, s2, s3⟩ := elemD_shape h
  refine ⟨fun t ht => ?_, fun hk o ho i hx => ?_, fun hk o ho k xs hx => ?_⟩
  · rw [Delta.apply_env, if_neg (fun e => I.e t e ht)]
  · rw [Delta.apply_heap]
    have hUi := hi.ev_obj hx
    split
    · rename_i b i' ob e
      rw [if_neg]
      rintro rfl
      cases b with
      | true => exact hU (s1 _ _ e ▸ hUi)
      | false =>
        have := (s2 _ _ e).1
        have hc := I.kind
        rw [this] at hc
        rcases hk with hk | hk | hk <;> rw [hk] at hc <;> simp [conflict] at hc
    · rfl
  · rw [Delta.apply_toks]
    have hVk := hi.ev_tok hx
    split
    · rename_i i' t' e
      rw [if_neg]
      rintro rfl
      rcases s3 _ _ e with ⟨h1, _⟩ | ⟨h1, _⟩
      · exact hV (h1 ▸ hVk)
      · have hc := I.kind
        rw [hk, h1] at hc
        simp [conflict] at hc
    · rfl
theorem swap {x y : Oper} {s : PS} {U V : Nat → Prop} {ix tx iy ty : Nat} {dx dy : Delta} (I : Indep ops x y) (hi : Inh U V s) (hUx : ¬ U ix) (hVx : ¬ V tx) (hUy : ¬ U iy) (hVy : ¬ V ty) (hxy : ix ≠ iy) (txy : tx ≠ ty)
    (h : elemD P ops y s iy ty (· = dy)) (k : elemD P ops x (dy.apply y.dst s) ix tx (· = dx)) :
    elemD P ops x s ix tx (· = dx) ∧ elemD P ops y (dx.apply x.dst s) iy ty (· = dy) ∧ Eqv (dx.apply x.dst (dy.apply y.dst s)) (dy.apply y.dst (dx.apply x.dst s)) := by
  have h1 : elemD P ops x s ix tx (· = dx) := elemD_congr (agree_apply I hi hUy hVy h).symm k
  have h2 : elemD P ops y (dx.apply x.dst s) iy ty (· = dy) := elemD_congr (agree_apply I.symm hi hUx hVx h1) h
  refine ⟨h1, h2, ?_⟩
  obtain ⟨x1, x2, x3⟩ := elemD_shape h1
  obtain ⟨y1, y2, y3⟩ := elemD_shape h
  refine ⟨fun t => ?_, fun t => ?_, fun t => ?_⟩
  · simp only [Delta.apply_env]
    by_cases e1 : x.dst = some t
    · rw [if_pos e1, if_neg (I.dd t e1), if_pos e1]
    · rw [if_neg e1, if_neg e1]
  · simp only [Delta.apply_heap]
    cases ox : dx.obj with
    | none => rfl
    | some ex =>
      cases oy : dy.obj with
      | none => rfl
      | some ey =>
        obtain ⟨bx, kx, obx⟩ := ex
        obtain ⟨by_, ky, oby⟩ := ey
        have hne : kx ≠ ky := by
          rintro rfl
          cases bx <;> cases by_
          · have a := (x2 _ _ ox).1; have b := (y2 _ _ oy).1; have c := I.kind; rw [a, b] at c; simp [conflict] at c
          · obtain ⟨_, ob', e⟩ := x2 _ _ ox; exact hUy (y1 _ _ oy ▸ hi.heap _ _ e)
          · obtain ⟨_, ob', e⟩ := y2 _ _ oy; exact hUx (x1 _ _ ox ▸ hi.heap _ _ e)
          · exact hxy ((x1 _ _ ox).symm.trans (y1 _ _ oy))
        simp only
        by_cases e1 : t = kx
        · rw [if_pos e1, if_neg (fun e2 => hne (e1.symm.trans e2)), if_pos e1]
        · rw [if_neg e1, if_neg e1]
  · simp only [Delta.apply_toks]
    cases ox : dx.tok with
    | none => rfl
    | some ex =>
      cases oy : dy.tok with
      | none => rfl
      | some ey =>
        obtain ⟨kx, obx⟩ := ex
        obtain ⟨ky, oby⟩ := ey
        have hne : kx ≠ ky := by
          rintro rfl
          rcases x3 _ _ ox with ⟨a, _⟩ | ⟨a, a'⟩ <;> rcases y3 _ _ oy with ⟨b, _⟩ | ⟨b, b'⟩
          · exact txy (a.symm.trans b)
          · obtain ⟨t', e⟩ := b'; exact hVx (a ▸ hi.toks _ _ e)
          · obtain ⟨t', e⟩ := a'; exact hVy (b ▸ hi.toks _ _ e)
          · have c := I.kind; rw [a, b] at c; simp [conflict] at c
        simp only
        by_cases e1 : t = kx
        · rw [if_pos e1, if_neg (fun e2 => hne (e1.symm.trans e2)), if_pos e1]
        · rw [if_neg e1, if_neg e1]

/-- Operations by their places. -/
def dopsL (P : Program) (ops : Array Oper) (nx0 nt0 : Nat) : List (Nat × Oper) → PS → (PS → Prop) → Prop
  | [], st, K => K st
  | (i, o) :: r, st, K => elemD P ops o st (nx0 + i) (nt0 + i) fun d => dopsL P ops nx0 nt0 r (d.apply o.dst st) K
def placed : Nat → List Oper → List (Nat × Oper)
  | _, [] => []
  | i, o :: r => (i, o) :: placed (i + 1) r
theorem dops_dopsL {nx0 nt0 : Nat} {K : PS → Prop} : ∀ (l : List Oper) (i : Nat) (st : PS), dops0 P ops nx0 nt0 i l st K → dopsL P ops nx0 nt0 (placed i l) st (fun s => K { s with nx := nx0 + (i + l.length), nt := nt0 + (i + l.length) })
  | [], i, st, h => h
  | o :: r, i, st, h => by
    have ih : ∀ s, dops0 P ops nx0 nt0 (i + 1) r s K → dopsL P ops nx0 nt0 (placed (i + 1) r) s (fun s => K { s with nx := nx0 + (i + (o :: r).length), nt := nt0 + (i + (o :: r).length) }) := fun s hs => by
      have := dops_dopsL r (i + 1) s hs
      rw [show i + (o :: r).length = i + 1 + r.length by simp; omega]
      exact this
    simp only [dops0] at h
    simp only [placed, dopsL, elemD]
    cases hg : o.guard with
    | none => rw [hg] at h; exact stepD_mono (fun d hd => ih _ hd) h
    | some gb =>
      obtain ⟨g, b⟩ := gb
      rw [hg] at h
      obtain ⟨t, ⟨h1, h2⟩, hk⟩ := guardK_elim h
      exact hk _ ⟨fun e => stepD_mono (fun d hd => ih _ hd) (h1 e), fun e => ih _ (h2 e)⟩
theorem dopsL_eqv {nx0 nt0 : Nat} {K : PS → Prop} (hK : ∀ s s', Eqv s s' → K s → K s') : ∀ (l : List (Nat × Oper)) (s s' : PS), Eqv s s' → dopsL P ops nx0 nt0 l s K → dopsL P ops nx0 nt0 l s' K
  | [], s, s', e, h => hK s s' e h
  | (i, o) :: r, s, s', e, h => by
    simp only [dopsL] at h ⊢
    exact elemD_det.mono (fun d hd => dopsL_eqv hK r _ _ (e.apply _ d) hd) (elemD_congr (AgreeO.of_eqv e) h)
end

section
variable {P : Program} {own : Nat → Prop} {S0 : Base} {w0 : World} {N : Nat} {ops : Array Oper}
def With (U : Nat → Prop) (k : Nat) : Nat → Prop := fun i => U i ∨ i = k
/-- The machine goes a step where the pure reading does. -/
theorem elem_sound {o : Oper} {st : PS} {U V : Nat → Prop} {a : Act} {w : World} {id tk : Nat} {K : Delta → Prop} (hf : fitsDst N o.dst = true) (h : StN own S0 w0 N U V st a w) (hU : ¬ U id) (hV : ¬ V tk) (k : elemD P ops o st id tk K) {Q : Exit → Act → World → Prop} :
    if Region.wanted o (yielded ops a.tmps) then o.wp P a w (fun a' w' => ∃ d, K d ∧ StN own S0 w0 N (With U id) (With V tk) (d.apply o.dst st) a' w') Q else
      ∃ d, K d ∧ StN own S0 w0 N (With U id) (With V tk) (d.apply o.dst st) (a.put o.dst undef) w := by
  have step : stepD P o st id tk K → o.wp P a w (fun a' w' => ∃ d, K d ∧ StN own S0 w0 N (With U id) (With V tk) (d.apply o.dst st) a' w') Q := fun k => by
    obtain ⟨h1, h2, C, R, E⟩ := h
    refine Oper.wp_mono ?_ (stepN_sound (U' := With U id) (V' := With V tk) (K := fun s => ∃ d, K d ∧ s = d.apply o.dst st) E R h1 h2 hf (fun i h => .inl h) (fun i h => .inl h) (fun _ => ⟨hU, .inr rfl⟩) (fun _ => ⟨hV, .inr rfl⟩) (stepD_mono (fun d hd => ⟨d, hd, rfl⟩) k))
    rintro a' w' ⟨st', ⟨d, hd, rfl⟩, hs⟩
    exact ⟨d, hd, hs⟩
  unfold elemD at k
  split at k
  · rename_i hg
    have : Region.wanted o (yielded ops a.tmps) = true := by simp [Region.wanted, hg]
    rw [if_pos this]
    exact step k
  · rename_i g b hg
    obtain ⟨t, ht, k1, k2⟩ := guard_sound h k
    by_cases htb : t = some b
    · have : Region.wanted o (yielded ops a.tmps) = true := by simp [Region.wanted, hg, ht, htb]
      rw [if_pos this]
      exact step (k1 htb)
    · have : Region.wanted o (yielded ops a.tmps) = false := by simp [Region.wanted, hg, ht, htb]
      rw [if_neg (by rw [this]; simp)]
      exact ⟨_, k2 htb, ((h.kill o.dst hf).wide (fun j hj => .inl hj) (fun j hj => .inl hj))⟩
theorem upon_out {o : Oper} {a : Act} {R : Act → World → Prop} {r : Result Next} (h : o.upon P a R (fun _ _ _ => False) r) : ∃ a' w', R a' w' := by
  unfold Oper.upon at h
  split at h
  · exact ⟨_, _, h⟩
  · exact ⟨_, _, h⟩
  · exact ⟨_, _, h⟩
  · obtain ⟨e, w', fr, hr, _⟩ := h []
    cases e with
    | returned v => exact ⟨_, _, hr⟩
    | panicked c => exact hr.elim
    | outgrown => obtain ⟨a, w, h⟩ := hr; exact h.elim
  · rename_i row args w'
    obtain ⟨v, w'', hr, _⟩ := h (Frame.ofRow P row args .normal) []
    exact ⟨_, _, hr⟩
  · exact h.elim
  · exact h.elim
theorem wp_out {o : Oper} {a : Act} {w : World} {R : Act → World → Prop} (h : o.wp P a w R (fun _ _ _ => False)) : ∃ a' w', R a' w' := upon_out h
theorem elem_next {o : Oper} {st : PS} {U V : Nat → Prop} {a : Act} {w : World} {id tk : Nat} {K : Delta → Prop} (hf : fitsDst N o.dst = true) (h : StN own S0 w0 N U V st a w) (hU : ¬ U id) (hV : ¬ V tk) (k : elemD P ops o st id tk K) :
    ∃ d a' w', K d ∧ StN own S0 w0 N (With U id) (With V tk) (d.apply o.dst st) a' w' := by
  have := elem_sound (Q := fun _ _ _ => False) hf h hU hV k
  split at this
  · obtain ⟨a', w', d, hd, hs⟩ := wp_out this; exact ⟨d, a', w', hd, hs⟩
  · obtain ⟨d, hd, hs⟩ := this; exact ⟨d, _, _, hd, hs⟩

/-- What meets nobody ahead of it may come first. -/
theorem front {nx0 nt0 : Nat} {K : PS → Prop} (hK : ∀ s s', Eqv s s' → K s → K s') {i : Nat} {o : Oper} {post : List (Nat × Oper)} : ∀ (pre : List (Nat × Oper)) (st : PS) (U V : Nat → Prop) (a : Act) (w : World),
    StN own S0 w0 N U V st a w → dopsL P ops nx0 nt0 (pre ++ (i, o) :: post) st K → (∀ e ∈ pre, fitsDst N e.2.dst = true ∧ e.1 ≠ i ∧ Indep ops o e.2 ∧ ¬ U (nx0 + e.1) ∧ ¬ V (nt0 + e.1)) → (pre.map (·.1)).Nodup → ¬ U (nx0 + i) → ¬ V (nt0 + i) →
    ∃ d, elemD P ops o st (nx0 + i) (nt0 + i) (· = d) ∧ dopsL P ops nx0 nt0 (pre ++ post) (d.apply o.dst st) K
  | [], st, U, V, a, w, h, k, _, _, hU, hV => by
    simp only [List.nil_append, dopsL] at k ⊢
    obtain ⟨d, h1, h2⟩ := elemD_det.out _ k
    exact ⟨d, h2 _ rfl, h1⟩
  | (j, y) :: pre, st, U, V, a, w, h, k, hp, hn, hU, hV => by
    simp only [List.cons_append, dopsL] at k ⊢
    obtain ⟨dy, k1, k2⟩ := elemD_det.out _ k
    obtain ⟨hfy, hji, hI, hUj, hVj⟩ := hp (j, y) (by simp)
    simp only at hfy hji hI hUj hVj
    obtain ⟨dy', a', w', e, hs⟩ := elem_next (K := (· = dy)) hfy h hUj hVj (k2 _ rfl)
    subst e
    simp only [List.map_cons, List.nodup_cons] at hn
    obtain ⟨dx, e1, e2⟩ := front hK pre _ (With U (nx0 + j)) (With V (nt0 + j)) a' w' hs k1 (fun e he => by
      obtain ⟨g1, g2, g3, g4, g5⟩ := hp e (by simp [he])
      have : e.1 ≠ j := fun e' => hn.1 (List.mem_map.2 ⟨e, he, e'⟩)
      exact ⟨g1, g2, g3, fun h => h.elim g4 (fun h => this (by omega)), fun h => h.elim g5 (fun h => this (by omega))⟩) hn.2
      (fun h => h.elim hU (fun h => hji (by omega))) (fun h => h.elim hV (fun h => hji (by omega)))
    obtain ⟨f1, f2, f3⟩ := swap hI h.inh hU hV hUj hVj (by omega) (by omega) (k2 _ rfl) e1
    exact ⟨dx, f1, elemD_det.mono (fun d hd => by subst hd; exact dopsL_eqv hK _ _ _ f3 e2) f2⟩

theorem StN.eqv {U V : Nat → Prop} {st st' : PS} {a : Act} {w : World} (h : StN own S0 w0 N U V st a w) (e : Eqv st' st) : StN own S0 w0 N U V st' a w := by
  obtain ⟨h1, h2, C, R, E⟩ := h
  have X : Ext C C st.toks st'.toks U V U V := ⟨SLe.refl _, fun _ _ => rfl, fun k t _ h => ⟨t, (e.toks k) ▸ h, Nat.le_refl _, rfl, fun _ => rfl⟩, fun _ h => h, fun _ h => h⟩
  refine ⟨h1, h2, C, ⟨R.frame, R.stable, ?_, ?_, ?_, ?_, ?_, ?_, ?_, R.snew, R.sold, R.base.trans X, R.glob⟩, ?_⟩
  · intro id T cs h
    obtain ⟨vs, g1, g2, g3⟩ := R.box id T cs ((e.heap id) ▸ h)
    exact ⟨vs, g1, g2, fun i v p hv hp => ⟨(g3 i v p hv hp).1, (g3 i v p hv hp).2.ext X⟩⟩
  · exact fun id s pos h => R.iter id s pos ((e.heap id) ▸ h)
  · exact fun id o h => R.hown id o ((e.heap id) ▸ h)
  · exact fun i j oi oj g1 g2 => R.hinj i j oi oj ((e.heap i) ▸ g1) ((e.heap j) ▸ g2)
  · exact fun k t h => R.tok k t ((e.toks k) ▸ h)
  · exact fun i oi k t g1 g2 => R.tbox i oi k t ((e.heap i) ▸ g1) ((e.toks k) ▸ g2)
  · exact fun i j oi oj g1 g2 => R.tinj i j oi oj ((e.toks i) ▸ g1) ((e.toks j) ▸ g2)
  · intro t p h
    obtain ⟨v, g1, g2⟩ := E t p ((e.env t) ▸ h)
    exact ⟨v, g1, g2.ext X⟩
end
end Go.Pw

end
