/-
  The machine does what stepK says: append, and all steps.
-/
import Derived.Test.YtegehnojbfedlaaDoorPw9
import Derived.Lib.AppendStr
namespace Go.Pw
open Go Go.RowKit
set_option linter.unusedVariables false
set_option linter.unusedSimpArgs false
section
variable {P : Program} {own : Nat → Prop} {S0 : Base} {w0 w : World} {C : Cx} {U V : Nat → Prop} {st : PS} {a : Act} {N : Nat}

theorem info_of {e : TypeId} {sz by_ : Nat} {z : Value} (h1 : sizeOf? P e = some sz) (h2 : bytesOf? P e = some by_) (h3 : zeroOf? P e = some z) : ∃ i, P.info? e = some i ∧ i.size = sz ∧ i.bytes = by_ ∧ i.zero = some z := by
  unfold sizeOf? at h1
  obtain ⟨i, hi, rfl⟩ := Option.map_eq_some_iff.1 h1
  unfold bytesOf? at h2
  unfold zeroOf? at h3
  rw [hi] at h2 h3
  exact ⟨i, hi, rfl, by simpa using h2, by simpa using h3⟩

/-- One row behind another, as cells. -/
theorem rowsF {S : Cells} {sz : Nat} {xs ys : List (List PV)} {olds news rest : List Value} {cur : Array Value} (hcur : cur.toList = olds ++ news ++ rest) (ho : olds.length = xs.length * sz) (hn : news.length = ys.length * sz)
    (hxs : ∀ x ∈ xs, x.length = sz) (hys : ∀ x ∈ ys, x.length = sz)
    (hxr : ∀ (j i : Nat) (x : List PV) (p : PV), xs[j]? = some x → x[i]? = some p → ∃ u, olds[j * sz + i]? = some u ∧ RepF S u p)
    (hyr : ∀ (j i : Nat) (x : List PV) (p : PV), ys[j]? = some x → x[i]? = some p → ∃ u, news[j * sz + i]? = some u ∧ RepF S u p) :
    (∀ x ∈ xs ++ ys, x.length = sz) ∧ ∀ (j i : Nat) (x : List PV) (p : PV), (xs ++ ys)[j]? = some x → x[i]? = some p → ∃ u, cur[j * sz + i]? = some u ∧ RepF S u p := by
  refine ⟨fun x hx => ?_, fun j i x p hx hp => ?_⟩
  · rcases List.mem_append.1 hx with h | h
    · exact hxs x h
    · exact hys x h
  · have hcg : ∀ k : Nat, cur[k]? = (olds ++ news ++ rest)[k]? := fun k => by rw [← hcur]; simp
    rw [hcg]
    by_cases hj : j < xs.length
    · rw [List.getElem?_append_left hj] at hx
      obtain ⟨u, h1, h2⟩ := hxr j i x p hx hp
      have hlt := (List.getElem?_eq_some_iff.1 h1).1
      exact ⟨u, by rw [List.append_assoc, List.getElem?_append_left hlt]; exact h1, h2⟩
    · rw [List.getElem?_append_right (by omega)] at hx
      obtain ⟨u, h1, h2⟩ := hyr _ i x p hx hp
      have hlt := (List.getElem?_eq_some_iff.1 h1).1
      refine ⟨u, ?_, h2⟩
      have e : j * sz + i = olds.length + ((j - xs.length) * sz + i) := by
        rw [ho]
        have : j * sz = xs.length * sz + (j - xs.length) * sz := by rw [← Nat.add_mul]; congr 1; omega
        omega
      rw [e, List.append_assoc, List.getElem?_append_right (by omega), Nat.add_sub_cancel_left, List.getElem?_append_left hlt]
      exact h1

theorem Rel.wider (R : Rel own S0 w0 C U V st w) {V' : Nat → Prop} (hVV : ∀ i, V i → V' i) : Rel own S0 w0 C U V' st w := by
  have X : Ext C C st.toks st.toks U V U V' := ⟨SLe.refl _, fun _ _ => rfl, fun k t _ h => ⟨t, h, Nat.le_refl _, rfl, fun _ => rfl⟩, fun _ h => h, hVV⟩
  refine ⟨R.frame, R.stable, fun id T cs h => ?_, R.iter, R.hown, R.hinj, fun k t h => ?_, R.tbox, R.tinj, R.snew, R.sold, R.base.trans X, R.glob⟩
  · obtain ⟨vs, h1, h2, h3⟩ := R.box id T cs h
    exact ⟨vs, h1, h2, fun i v p hv hp => ⟨(h3 i v p hv hp).1, (h3 i v p hv hp).2.ext X⟩⟩
  · obtain ⟨h1, h2⟩ := R.tok k t h
    exact ⟨hVV _ h1, h2⟩
theorem append_core (E : Env C U V st a) (R : Rel own S0 w0 C U V st w) {o : Oper} {x : Operand} {src : Value} {t t' ty e : TypeId} {K : Delta → Prop} {tk0 : Nat} (hV : ¬ V tk0) {V' : Nat → Prop} (hVV : ∀ i, V i → V' i) (hV' : V' tk0)
    (hrun : ∀ v w', (Builtin.append_ #[t, t'] ty #[a.eval x, src]).run P w = .ok v w' → (execOp a.eval o).run P w = .ok (.value v) w') {sz by_ : Nat} {z : Value} {i : TypeInfo}
    (hzs : z.cells.size = sz) (h0 : 0 < sz) (hi1 : i.size = sz) (hi2 : i.bytes = by_) {d : PV} (hd : st.ev x = some d) {ys : List (List PV)} (hpos : 0 < ys.length) (hyl : ∀ y ∈ ys, y.length = sz)
    {news : List Value} (hnl : news.length = ys.length * sz) (hn1 : ∀ u ∈ news, u.oneCell' = true)
    (hnr : ∀ (j i : Nat) (x : List PV) (p : PV), ys[j]? = some x → x[i]? = some p → ∃ u, news[j * sz + i]? = some u ∧ RepF C.S u p)
    (hnil : ((ys.length : Nat) : Int) ≤ 9223372036854775807 → ys.length * i.bytes ≤ 281474976710656 → (Builtin.append_ #[t, t'] ty #[.slice none 0 0, src]).run P w =
      .ok (.slice (some ⟨w.heap.size, 0, none⟩) ys.length (grownCap w ys.length 0 e)) (w.drew.alloc (.cells (news.toArray ++ Builtin.zeroCells z.cells (grownCap w ys.length 0 e - ys.length)) e)))
    (hroomR : ∀ (g sLen sCap : Nat) (cur : Array Value), w.heap[g]? = some (.cells cur e (0, 0)) → sLen + ys.length ≤ sCap → sLen * i.size + news.length ≤ cur.size → (Builtin.append_ #[t, t'] ty #[.slice (some ⟨g, 0, none⟩) sLen sCap, src]).run P w =
      .ok (.slice (some ⟨g, 0, none⟩) (sLen + ys.length) sCap) (w.setRow g (cur.toList.take (sLen * i.size) ++ news ++ cur.toList.drop (sLen * i.size + news.length)).toArray))
    (hgrowR : ∀ (b : Addr) (sLen sCap : Nat) (olds : List Value), olds.length = sLen * i.size → (∀ j v, olds[j]? = some v → w.cell? (b.add j) = some v) → sCap < sLen + ys.length → ((sLen + ys.length : Nat) : Int) ≤ 9223372036854775807 → Builtin.nextslicecap (sLen + ys.length) sCap * i.bytes ≤ 281474976710656 →
      (Builtin.append_ #[t, t'] ty #[.slice (some b) sLen sCap, src]).run P w = .ok (.slice (some ⟨w.heap.size, 0, none⟩) (sLen + ys.length) (grownCap w (sLen + ys.length) sCap e))
        (w.drew.alloc (.cells (olds.toArray ++ news.toArray ++ Builtin.zeroCells z.cells (grownCap w (sLen + ys.length) sCap e - (sLen + ys.length))) e)))
    (h : appTail st tk0 e sz by_ d ys K) :
    ∃ v p st' w' C', (execOp a.eval o).run P w = .ok (.value v) w' ∧ Rel own S0 w0 C' U V' st' w' ∧ Ext C C' st.toks st'.toks U V U V' ∧ st'.env = st.env ∧ RepV C' st'.toks U V' v p ∧ ∃ d, K d ∧ d.apply o.dst st = st'.put o.dst p := by
  unfold appTail at h
  split at h
  · simp at hpos
  rename_i y0 r
  generalize hysd : y0 :: r = ys at *
  split at h
  · -- onto nil
    obtain ⟨hb, hm, hk⟩ := h
    have ex : a.eval x = .slice none 0 0 := (rep_val (ev_rep E hd)).1
    have hrun1 := hnil (by omega) (by rw [hi2]; omega)
    have hcapge : ys.length ≤ grownCap w ys.length 0 e := grownCap_ge w ys.length 0 e
    have hcapm : grownCap w ys.length 0 e ≤ maxLen := grownCap_le_maxLen w ys.length 0 e (by simpa [maxLen] using hm)
    let cur : Array Value := news.toArray ++ Builtin.zeroCells z.cells (grownCap w ys.length 0 e - ys.length)
    have hcs : cur.size = grownCap w ys.length 0 e * sz := by
      simp only [cur, Array.size_append, List.size_toArray, size_zeroCells, hzs, hnl, ← Nat.add_mul]
      congr 1
      omega
    obtain ⟨R', X'⟩ := R.row (w' := w.drew.alloc (.cells cur e)) (k := tk0) (g := w.heap.size) (cap := grownCap w ys.length 0 e) (n := ys.length) (e := e) (sz := sz) (cur := cur)
      ⟨rfl, rfl, rfl, by simp, fun b hb _ => by show (w.heap.push _)[b]? = _; rw [Array.getElem?_push, if_neg (by omega)]⟩ (heap_alloc_at (w := w.drew) _) hcs hcapge hcapm
      (.inl ⟨by cases hl : lkp st.toks tk0 with | none => rfl | some t => exact absurd (R.tok _ _ hl).1 hV, hV, Nat.le_refl _⟩) hVV hV' st.nx st.nt
    refine ⟨_, _, _, _, _, hrun _ _ (by rw [ex]; exact hrun1), R', X', rfl, ?_, _, hk, rfl⟩
    have hS : ∀ o, o < ys.length * sz → (C.keep tk0 w.heap.size (grownCap w ys.length 0 e) (ys.length * sz) cur).S w.heap.size o = cur[o]? := fun o ho => by
      show (if w.heap.size = w.heap.size ∧ o < ys.length * sz then cur[o]? else C.S w.heap.size o) = _
      rw [if_pos ⟨rfl, ho⟩]
    have hrows := rowsF (S := (C.keep tk0 w.heap.size (grownCap w ys.length 0 e) (ys.length * sz) cur).S) (sz := sz) (xs := []) (ys := ys) (olds := []) (news := news) (cur := cur)
      (rest := (Builtin.zeroCells z.cells (grownCap w ys.length 0 e - ys.length)).toList) (by simp [cur]) (by simp) hnl (by simp) hyl (by simp)
      (fun j i x p hx hp => by obtain ⟨u, h1, h2⟩ := hnr j i x p hx hp; exact ⟨u, h1, h2.mono X'.S⟩)
    simp only [List.nil_append] at hrows
    refine .row (rowF (sz := sz) (g := w.heap.size) (cur := cur) hS hcapge (by rw [hcs]; exact Nat.mul_le_mul_right _ hcapge) hrows.1 hrows.2) hV' (fun t ht => ?_)
    rw [lkp_upd, if_pos rfl] at ht
    obtain rfl := Option.some.inj ht
    exact ⟨Nat.le_refl _, hyl, fun _ => by simp [Cx.keep]⟩
  · -- onto a row of ours
    rename_i k xs
    replace h := bindO_elim h
    obtain ⟨tk, htk, hn, he, hts, hb, hm, hk⟩ := h
    obtain ⟨hknt, hown, ⟨vs, hvs, hvsz⟩, hncap, hcapm, hS7⟩ := R.tok k tk htk
    have hrep := ev_rep E hd
    have hxf : RepF C.S (a.eval x) (.sl xs) := rep_sl (.inr ⟨_, hrep⟩)
    have hval : a.eval x = .slice (some ⟨(C.τ k).1, 0, none⟩) tk.n (C.τ k).2 := by
      generalize a.eval x = v at hrep
      cases hrep with
      | frz h => cases h
      | row h1 h2 h3 => exact (h3 tk htk).2.2 hn.symm
    have hxl : ∀ x ∈ xs, x.length = tk.sz := by
      generalize a.eval x = v at hrep
      cases hrep with
      | frz h => cases h
      | row h1 h2 h3 => exact (h3 tk htk).2.1
    subst he hts
    -- the cells of the row that are told
    have hol : (vs.toList.take (xs.length * tk.sz)).length = xs.length * tk.sz := by
      have hvl : vs.toList.length = (C.τ k).2 * tk.sz := by simp [hvsz]
      rw [List.length_take, hvl]
      exact Nat.min_eq_left (Nat.mul_le_mul_right _ (by omega))
    have hor : ∀ (j i : Nat) (x : List PV) (p : PV), xs[j]? = some x → x[i]? = some p → ∃ u, (vs.toList.take (xs.length * tk.sz))[j * tk.sz + i]? = some u ∧ RepF C.S u p := by
      intro j i x' p hx' hp
      rw [hval] at hxf
      generalize hvv : Value.slice (some ⟨(C.τ k).1, 0, none⟩) tk.n (C.τ k).2 = v at hxf
      cases hxf with
      | @sl A n cc sz' _ f hn' hcc hsz' hA hrr =>
        injection hvv with g1 g2 g3
        subst g1
        have hj : j < xs.length := (List.getElem?_eq_some_iff.1 hx').1
        obtain ⟨b, o', e3, hS⟩ := hA (by omega)
        injection e3 with e3
        injection e3 with e3 e4
        subst e3 e4
        have e5 : sz' = tk.sz := by rw [← hxl _ (List.mem_of_getElem? hx')]; exact (hsz' _ (List.mem_of_getElem? hx')).symm
        subst e5
        have hi' : i < tk.sz := by rw [← hxl _ (List.mem_of_getElem? hx')]; exact (List.getElem?_eq_some_iff.1 hp).1
        have h1 := R.stable _ _ _ (hS j i (by omega) hi')
        rw [Nat.zero_add, cell_of_row w _ _ vs tk.e (0, 0) hvs] at h1
        have hlt : j * tk.sz + i < xs.length * tk.sz := by
          have : (j + 1) * tk.sz ≤ xs.length * tk.sz := Nat.mul_le_mul_right _ hj
          rw [Nat.add_mul, Nat.one_mul] at this
          omega
        exact ⟨_, by rw [List.getElem?_take, if_pos hlt]; simpa using h1, hrr j i x' p hx' hp⟩
    have hlen : (xs ++ ys).length = xs.length + ys.length := List.length_append
    -- what comes out, by where the row lies then
    have fin : ∀ (w' : World) (g cap : Nat) (cur : Array Value) (rest : List Value),
        (w'.os = w.os ∧ w'.tape = w.tape ∧ w'.output = w.output ∧ w.heap.size ≤ w'.heap.size ∧ ∀ b, b < w.heap.size → b ≠ g → w'.heap[b]? = w.heap[b]?) →
        w'.heap[g]? = some (.cells cur tk.e (0, 0)) → cur.size = cap * tk.sz → xs.length + ys.length ≤ cap → cap ≤ maxLen →
        ((g = (C.τ k).1 ∧ cap = (C.τ k).2 ∧ ∀ o v, C.S g o = some v → cur[o]? = some v) ∨ w.heap.size ≤ g) →
        cur.toList = vs.toList.take (xs.length * tk.sz) ++ news ++ rest →
        (Builtin.append_ #[t, t'] ty #[a.eval x, src]).run P w = .ok (.slice (some ⟨g, 0, none⟩) (xs.length + ys.length) cap) w' →
        ∃ v p st' w' C', (execOp a.eval o).run P w = .ok (.value v) w' ∧ Rel own S0 w0 C' U V' st' w' ∧ Ext C C' st.toks st'.toks U V U V' ∧ st'.env = st.env ∧ RepV C' st'.toks U V' v p ∧ ∃ d, K d ∧ d.apply o.dst st = st'.put o.dst p := by
      intro w' g cap cur rest hfr hg hcs hncap' hcapm' hcase hcl hrun1
      obtain ⟨R', X'⟩ := R.row (k := k) (n := xs.length + ys.length) hfr hg hcs hncap' hcapm' (.inr ⟨tk, htk, by omega, rfl, hcase⟩) hVV (hVV _ hknt) st.nx st.nt
      refine ⟨_, _, _, _, _, hrun _ _ hrun1, R', X', rfl, ?_, _, hk, rfl⟩
      have hrows := rowsF (S := (C.keep k g cap ((xs.length + ys.length) * tk.sz) cur).S) (sz := tk.sz) (xs := xs) (ys := ys) (cur := cur) hcl hol hnl hxl hyl
        (fun j i x p hx hp => by obtain ⟨u, h1, h2⟩ := hor j i x p hx hp; exact ⟨u, h1, h2.mono X'.S⟩)
        (fun j i x p hx hp => by obtain ⟨u, h1, h2⟩ := hnr j i x p hx hp; exact ⟨u, h1, h2.mono X'.S⟩)
      have hrF := rowF (S := (C.keep k g cap ((xs.length + ys.length) * tk.sz) cur).S) (sz := tk.sz) (g := g) (cur := cur) (xs := xs ++ ys) (fun o ho => by
        rw [hlen] at ho
        show (if g = g ∧ o < (xs.length + ys.length) * tk.sz then cur[o]? else C.S g o) = _
        rw [if_pos ⟨rfl, ho⟩]) (by rw [hlen]; exact hncap') (by rw [hcs, hlen]; exact Nat.mul_le_mul_right _ hncap') hrows.1 hrows.2
      rw [hlen] at hrF
      refine .row hrF (hVV _ hknt) (fun t ht => ?_)
      rw [lkp_upd, if_pos rfl] at ht
      obtain rfl := Option.some.inj ht
      exact ⟨by rw [hlen]; exact Nat.le_refl _, hrows.1, fun _ => by simp [Cx.keep]⟩
    have hpo : ∀ b, b < w.heap.size → (w.heap.push (Obj.cells #[] 0))[b]? = w.heap[b]? := fun b hb => by rw [Array.getElem?_push, if_neg (by omega)]
    by_cases hroom : xs.length + ys.length ≤ (C.τ k).2
    · -- in place
      have hfit : xs.length * i.size + news.length ≤ vs.size := by rw [hnl, hvsz, hi1, ← Nat.add_mul]; exact Nat.mul_le_mul_right _ hroom
      have hrun1 := hroomR (C.τ k).1 xs.length (C.τ k).2 vs hvs hroom hfit
      rw [hi1] at hrun1
      have hcl : ((vs.toList.take (xs.length * tk.sz) ++ news ++ vs.toList.drop (xs.length * tk.sz + news.length)).toArray).toList = vs.toList.take (xs.length * tk.sz) ++ news ++ vs.toList.drop (xs.length * tk.sz + news.length) := by simp
      refine fin (w.setRow (C.τ k).1 (vs.toList.take (xs.length * tk.sz) ++ news ++ vs.toList.drop (xs.length * tk.sz + news.length)).toArray) (C.τ k).1 (C.τ k).2 _ _ ⟨rfl, rfl, rfl, by simp [World.setRow], fun b _ hb => setRow_other w _ b _ hb⟩ (setRow_heap w _ vs _ _ _ hvs) ?_ hroom hcapm (.inl ⟨rfl, rfl, fun o' v hv => ?_⟩) hcl ?_
      · rw [hi1] at hfit
        simp only [List.size_toArray, List.length_append, List.length_take, List.length_drop, Array.length_toList]
        omega
      · have h1 := R.stable _ _ _ hv
        rw [cell_of_row w _ _ vs tk.e (0, 0) hvs] at h1
        have hlt : o' < xs.length * tk.sz := by
          apply Classical.byContradiction
          intro hge
          rw [hS7 o' (by rw [hn]; omega)] at hv
          cases hv
        have : ((vs.toList.take (xs.length * tk.sz) ++ news ++ vs.toList.drop (xs.length * tk.sz + news.length)).toArray)[o']? = (vs.toList.take (xs.length * tk.sz) ++ news ++ vs.toList.drop (xs.length * tk.sz + news.length))[o']? := by simp
        rw [this, List.append_assoc, List.getElem?_append_left (by rw [hol]; exact hlt), List.getElem?_take, if_pos hlt]
        simpa using h1
      · rw [hval, hn]
        exact hrun1
    · -- a new row
      have holdc : ∀ j v, (vs.toList.take (xs.length * tk.sz))[j]? = some v → w.cell? ((⟨(C.τ k).1, 0, none⟩ : Addr).add j) = some v := by
        intro j v hj
        rw [Addr.add_lit, Nat.zero_add, cell_of_row w _ _ vs tk.e (0, 0) hvs]
        rw [List.getElem?_take] at hj
        split at hj
        · simpa using hj
        · cases hj
      have hrun1 := hgrowR ⟨(C.τ k).1, 0, none⟩ xs.length (C.τ k).2 (vs.toList.take (xs.length * tk.sz)) (by rw [hi1]; exact hol) holdc
        (by omega) (by omega) (growslice_fits (by omega) (by rw [hi2]; exact hb))
      have hcapge := grownCap_ge w (xs.length + ys.length) (C.τ k).2 tk.e
      have hcapm2 : grownCap w (xs.length + ys.length) (C.τ k).2 tk.e ≤ maxLen := grownCap_le_maxLen w _ _ _ (by simpa [maxLen] using hm)
      refine fin (w.drew.alloc (.cells ((vs.toList.take (xs.length * tk.sz)).toArray ++ news.toArray ++ Builtin.zeroCells z.cells (grownCap w (xs.length + ys.length) (C.τ k).2 tk.e - (xs.length + ys.length))) tk.e)) w.heap.size _ _ (Builtin.zeroCells z.cells (grownCap w (xs.length + ys.length) (C.τ k).2 tk.e - (xs.length + ys.length))).toList ⟨rfl, rfl, rfl, by simp, fun b hb _ => by show (w.heap.push _)[b]? = _; rw [Array.getElem?_push, if_neg (by omega)]⟩
        (heap_alloc_at (w := w.drew) _) ?_ hcapge hcapm2 (.inr (Nat.le_refl _)) (by simp) ?_
      · simp only [Array.size_append, List.size_toArray, size_zeroCells, hzs, hnl, hol, ← Nat.add_mul]
        congr 1
        omega
      · rw [hval, hn]
        exact hrun1
  · -- onto what was made, and is full
    rename_i id lo n cap
    obtain ⟨rfl, h⟩ := h
    replace h := bindO_elim h
    obtain ⟨xs0, hxs0, h⟩ := h
    replace h := bindO_elim h
    obtain ⟨xs, hxs, hxl, hb, hm, hk⟩ := h
    obtain ⟨ev, _, _⟩ := rep_ms (ev_rep E hd)
    have hlx := (fzLL_get hxs).1
    obtain ⟨B, c', ex'⟩ := src_len E hd hxs0
    rw [ev] at ex'
    have holds : ∃ b, ∃ olds : List Value, a.eval x = .slice (some b) xs.length xs.length ∧ olds.length = xs.length * sz ∧ (∀ j u, olds[j]? = some u → w.cell? (b.add j) = some u) ∧
        ∀ (j i : Nat) (x : List PV) (p : PV), xs[j]? = some x → x[i]? = some p → ∃ u, olds[j * sz + i]? = some u ∧ RepF C.S u p := by
      injection ex' with _ en _
      by_cases hne : xs = []
      · refine ⟨⟨C.ρ id, lo, none⟩, [], ?_, by simp [hne], fun j u hu => by simp at hu, fun j i x p hx => by simp [hne] at hx⟩
        rw [ev, en, ← hlx]
      · obtain ⟨b, c1, e1, olds, g1, g2, _, g4⟩ := src_sound E R hd hxs0 hxs hxl h0 hne
        refine ⟨b, olds, ?_, g1, g2, g4⟩
        have e2 := e1
        rw [ev] at e2
        injection e2 with _ e3 e4
        rw [e1, ← e4, e3]
    obtain ⟨b, olds, ex, hol, holdc, hor⟩ := holds
    have hrun1 := hgrowR b xs.length xs.length olds (by rw [hi1]; exact hol) holdc
      (by omega) (by omega) (growslice_fits (by omega) (by rw [hi2]; exact hb))
    have hcapge : xs.length + ys.length ≤ grownCap w (xs.length + ys.length) xs.length e := grownCap_ge w (xs.length + ys.length) xs.length e
    have hcapm : grownCap w (xs.length + ys.length) xs.length e ≤ maxLen := grownCap_le_maxLen w _ _ _ (by simpa [maxLen] using hm)
    let cur : Array Value := olds.toArray ++ news.toArray ++ Builtin.zeroCells z.cells (grownCap w (xs.length + ys.length) xs.length e - (xs.length + ys.length))
    have hcs : cur.size = grownCap w (xs.length + ys.length) xs.length e * sz := by
      simp only [cur, Array.size_append, List.size_toArray, size_zeroCells, hzs, hnl, hol, ← Nat.add_mul]
      congr 1
      omega
    obtain ⟨R', X'⟩ := R.row (w' := w.drew.alloc (.cells cur e)) (k := tk0) (g := w.heap.size) (cap := grownCap w (xs.length + ys.length) xs.length e) (n := xs.length + ys.length) (e := e) (sz := sz) (cur := cur)
      ⟨rfl, rfl, rfl, by simp, fun b hb _ => by show (w.heap.push _)[b]? = _; rw [Array.getElem?_push, if_neg (by omega)]⟩ (heap_alloc_at (w := w.drew) _) hcs hcapge hcapm
      (.inl ⟨by cases hl : lkp st.toks tk0 with | none => rfl | some t => exact absurd (R.tok _ _ hl).1 hV, hV, Nat.le_refl _⟩) hVV hV' st.nx st.nt
    refine ⟨_, _, _, _, _, hrun _ _ (by rw [ex]; exact hrun1), R', X', rfl, ?_, _, hk, rfl⟩
    have hlen : (xs ++ ys).length = xs.length + ys.length := List.length_append
    have hrows := rowsF (S := (C.keep tk0 w.heap.size (grownCap w (xs.length + ys.length) xs.length e) ((xs.length + ys.length) * sz) cur).S) (sz := sz) (xs := xs) (ys := ys) (olds := olds) (news := news) (cur := cur)
      (rest := (Builtin.zeroCells z.cells (grownCap w (xs.length + ys.length) xs.length e - (xs.length + ys.length))).toList) (by simp [cur]) hol hnl hxl hyl
      (fun j i x p hx hp => by obtain ⟨u, h1, h2⟩ := hor j i x p hx hp; exact ⟨u, h1, h2.mono X'.S⟩)
      (fun j i x p hx hp => by obtain ⟨u, h1, h2⟩ := hnr j i x p hx hp; exact ⟨u, h1, h2.mono X'.S⟩)
    have hrF := rowF (S := (C.keep tk0 w.heap.size (grownCap w (xs.length + ys.length) xs.length e) ((xs.length + ys.length) * sz) cur).S) (sz := sz) (g := w.heap.size) (cur := cur) (xs := xs ++ ys) (fun o ho => by
      rw [hlen] at ho
      show (if w.heap.size = w.heap.size ∧ o < (xs.length + ys.length) * sz then cur[o]? else C.S w.heap.size o) = _
      rw [if_pos ⟨rfl, ho⟩]) (by rw [hlen]; exact hcapge) (by rw [hcs, hlen]; exact Nat.mul_le_mul_right _ hcapge) hrows.1 hrows.2
    rw [hlen] at hrF
    refine .row hrF hV' (fun t ht => ?_)
    rw [lkp_upd, if_pos rfl] at ht
    obtain rfl := Option.some.inj ht
    exact ⟨by rw [hlen]; exact Nat.le_refl _, hrows.1, fun _ => by simp [Cx.keep]⟩
  · exact h.elim

theorem run_append_emptyS {t u ty e : TypeId} {sz : Nat} (hu : P.underlying t = some (.slice e)) (hu' : P.underlying u = some .string) (hn : sizeOf? P e = some sz) (A : Option Addr) (n c : Nat) (s : ByteArray) (hs : s.size = 0) (hc : n ≤ c) (w : World) :
    (Builtin.append_ #[t, u] ty #[.slice A n c, .string s]).run P w = .ok (.slice A n c) w := by
  cases A <;> simp [Builtin.append_, run_underlying hu, run_underlying hu', run_sizeOf? hn, Builtin.lenOf, hc, hs, Builtin.firstCells, loadCells, loadCellsFrom, storeCells]
theorem append_sound (E : Env C U V st a) (R : Rel own S0 w0 C U V st w) {o : Oper} {c : Call} (ho : o.op = .call c) (hc : c.callee = .builtin .append) {K : Delta → Prop} {tk0 : Nat} (hV : ¬ V tk0) {V' : Nat → Prop} (hVV : ∀ i, V i → V' i) (hV' : V' tk0) (h : appendK P st tk0 c K) :
    ∃ v p st' w' C', (execOp a.eval o).run P w = .ok (.value v) w' ∧ Rel own S0 w0 C' U V' st' w' ∧ Ext C C' st.toks st'.toks U V U V' ∧ st'.env = st.env ∧ RepV C' st'.toks U V' v p ∧ ∃ d, K d ∧ d.apply o.dst st = st'.put o.dst p := by
  have X : Ext C C st.toks st.toks U V U V' := ⟨SLe.refl _, fun _ _ => rfl, fun k t _ h => ⟨t, h, Nat.le_refl _, rfl, fun _ => rfl⟩, fun _ h => h, hVV⟩
  have sliceV : ∀ {x : Operand} {d : PV}, st.ev x = some d → sliceLike d = true → ∃ A n cc, a.eval x = .slice A n cc ∧ n ≤ cc := by
    intro x d hd hsl
    have hr := ev_rep E hd
    unfold sliceLike at hsl
    split at hsl
    · exact ⟨none, 0, 0, (rep_val hr).1, Nat.le_refl _⟩
    · have := rep_sl (.inl hr)
      generalize a.eval x = v at this
      cases this with | sl f hn hc hsz hA hrr => exact ⟨_, _, _, rfl, hc⟩
    · have := rep_sl (.inr ⟨_, hr⟩)
      generalize a.eval x = v at this
      cases this with | sl f hn hc hsz hA hrr => exact ⟨_, _, _, rfl, hc⟩
    · obtain ⟨ev, _, hle⟩ := rep_ms hr
      exact ⟨_, _, _, ev, hle⟩
    · cases hsl
  unfold appendK at h
  split at h
  · rename_i x y t t' hx ht
    have e1 : c.args = #[x, y] := by rw [← Array.toArray_toList (xs := c.args), hx]
    have e2 : c.argTypes = #[t, t'] := by rw [← Array.toArray_toList (xs := c.argTypes), ht]
    have hrun : ∀ v w', (Builtin.append_ #[t, t'] o.type #[a.eval x, a.eval y]).run P w = .ok v w' → (execOp a.eval o).run P w = .ok (.value v) w' := by
      intro v w' hv
      simp [execOp, ho, resolve, hc, invoke, builtin, e1, e2, hv]
    split at h
    · rename_i e hu
      replace h := bindO_elim h
      obtain ⟨sz, hsz, h⟩ := h
      replace h := bindO_elim h
      obtain ⟨by_, hby, h⟩ := h
      replace h := bindO_elim h
      obtain ⟨z, hz, hzs, h0, h⟩ := h
      replace h := bindO_elim h
      obtain ⟨d, hd, h⟩ := h
      replace h := bindO_elim h
      obtain ⟨s, hs, h⟩ := h
      obtain ⟨i, hi, hi1, hi2, hi3⟩ := info_of hsz hby hz
      split at h
      · -- a text's bytes
        rename_i s
        obtain ⟨hu', rfl, rfl, h⟩ := h
        have ey : a.eval y = .string s := (rep_val (ev_rep E hs)).1
        have hlen : (encS s).length = s.size := by simp [encS]
        have hcl : (Lib.strCells s).length = s.size := Lib.strCells_length s
        by_cases hs0 : s.size = 0
        · have hys : encS s = [] := List.length_eq_zero_iff.1 (by omega)
          rw [hys] at h
          obtain ⟨hsl, hk⟩ := h
          obtain ⟨A, n, cc, ex, hle⟩ := sliceV hd hsl
          refine ⟨a.eval x, d, st, w, C, hrun _ _ ?_, R.wider hVV, X, rfl, (ev_rep E hd).ext X, _, hk, rfl⟩
          rw [ex, ey]
          exact run_append_emptyS hu hu' hsz A n cc s hs0 hle w
        · refine append_core E R hV hVV hV' (fun v w' hv => hrun v w' hv) (i := i) (news := Lib.strCells s) hzs h0 hi1 hi2 hd (by omega) (fun q hq => ?_) (by rw [hcl, hlen, Nat.mul_one]) (Lib.strCells_oneCell s) (fun j i' q p hq hp => ?_) (fun k1 k2 => ?_) (fun g sLen sCap cur hg k1 k2 => ?_) (fun b sLen sCap olds k1 k2 k3 k4 k5 => ?_) h
          · obtain ⟨b, _, rfl⟩ := List.mem_map.1 hq
            rfl
          · unfold encS at hq
            rw [List.getElem?_map] at hq
            cases hb : s.data.toList[j]? with
            | none => rw [hb] at hq; cases hq
            | some b =>
              rw [hb] at hq
              obtain rfl := Option.some.inj hq
              cases i' with
              | zero =>
                simp at hp
                subst hp
                exact ⟨_, by rw [Nat.mul_one, Nat.add_zero]; unfold Lib.strCells; rw [List.getElem?_map, hb]; rfl, .val rfl⟩
              | succ i' => simp at hp
          · rw [hlen] at k1 k2 ⊢
            have := run_append_nil_string (P := P) w t t' o.type e i _ hu hu' hi hi3 s (by omega) k1 k2
            rw [ey, this]
            congr 4
            unfold Lib.strCells
            apply Array.ext'
            simp
          · rw [hlen] at k1 ⊢
            have := Lib.run_append_room_string (P := P) w t t' o.type e i hu hu' hi hi1 g sLen sCap cur hg s k1 (by rw [hi1, Nat.mul_one, hcl] at k2; exact k2)
            rw [ey, this, hi1, Nat.mul_one, hcl]
          · rw [hlen] at k3 k4 k5 ⊢
            have := Lib.run_append_grow_string (P := P) w t t' o.type e i _ hu hu' hi hi3 b sLen sCap olds k1 k2 s k3 k4 k5
            rw [ey, this]
      · obtain ⟨rfl, h⟩ := h
        replace h := bindO_elim h
        obtain ⟨ys0, hys0, h⟩ := h
        replace h := bindO_elim h
        obtain ⟨ys, hys, hyl, h⟩ := h
        cases ys with
        | nil =>
          obtain ⟨hsl, hk⟩ := h
          obtain ⟨B, c', ey⟩ := src_len E hs hys0
          have hy0 : ys0.length = 0 := (fzLL_get hys).1
          rw [hy0] at ey
          obtain ⟨A, n, cc, ex, hle⟩ := sliceV hd hsl
          refine ⟨a.eval x, d, st, w, C, hrun _ _ ?_, R.wider hVV, X, rfl, (ev_rep E hd).ext X, _, hk, rfl⟩
          rw [ex, ey]
          exact run_append_empty hu hsz A B n cc c' hle w
        | cons y0 r =>
          obtain ⟨ad, cy, ey, news, hnl, hncell, hn1, hnr⟩ := src_sound E R hs hys0 hys hyl h0 (by simp)
          refine append_core E R hV hVV hV' (fun v w' hv => hrun v w' hv) (i := i) (news := news) hzs h0 hi1 hi2 hd (by simp) hyl hnl hn1 hnr (fun k1 k2 => ?_) (fun g sLen sCap cur hg k1 k2 => ?_) (fun b sLen sCap olds k1 k2 k3 k4 k5 => ?_) h
          · rw [ey]
            exact run_append_nil (P := P) w t o.type e i z hu hi hi3 ad _ cy news (by rw [hi1]; exact hnl) hncell (by simp) k1 k2
          · rw [ey]
            exact run_append_room (P := P) w t o.type e i hu hi g sLen sCap cur hg ad _ cy news (by rw [hi1]; exact hnl) hncell hn1 k1 k2
          · rw [ey]
            exact run_append_grow (P := P) w t o.type e i z hu hi hi3 b sLen sCap olds k1 k2 ad _ cy news (by rw [hi1]; exact hnl) hncell k3 k4 k5
    · exact h.elim
  · exact h.elim
end
end Go.Pw
