/-
  The machine does what stepK says.
-/
import Derived.Test.YtegehnojbfedlaaDoorPw8
namespace Go.Pw
open Go Go.RowKit
set_option linter.unusedVariables false
set_option linter.unusedSimpArgs false
section
variable {P : Program} {own : Nat → Prop} {S0 : Base} {w0 w : World} {C : Cx} {U V : Nat → Prop} {st : PS} {a : Act} {N : Nat}

theorem Env.ext {C' : Cx} {U' V' : Nat → Prop} {st' : PS} (E : Env C U V st a) (e : Ext C C' st.toks st'.toks U V U' V') (he : st'.env = st.env) : Env C' U' V' st' a := by
  intro t p h
  rw [he] at h
  obtain ⟨v, h1, h2⟩ := E t p h
  exact ⟨v, h1, h2.ext e⟩
/-- The state, its numbers said apart. -/
structure StN (own : Nat → Prop) (S0 : Base) (w0 : World) (N : Nat) (U V : Nat → Prop) (st : PS) (a : Act) (w : World) : Prop where
  defers : a.defers = []
  size : a.tmps.size = N
  ex : ∃ C, Rel own S0 w0 C U V st w ∧ Env C U V st a
theorem StN.of_put {w' : World} {C' : Cx} {U' V' : Nat → Prop} {st' : PS} {d : Option Tmp} {v : Value} {p : PV} (hd : a.defers = []) (hs : a.tmps.size = N) (hf : fitsDst N d = true)
    (R : Rel own S0 w0 C' U' V' st' w') (E : Env C' U' V' st' a) (r : RepV C' st'.toks U' V' v p) : StN own S0 w0 N U' V' (st'.put d p) (a.put d v) w' :=
  ⟨by cases d <;> exact hd, by cases d <;> simpa [Act.put] using hs, C', R.put d p, E.put (hs ▸ hf) r⟩
theorem StN.of_kill {w' : World} {C' : Cx} {U' V' : Nat → Prop} {st' : PS} {d : Option Tmp} (hd : a.defers = []) (hs : a.tmps.size = N) (hf : fitsDst N d = true)
    (R : Rel own S0 w0 C' U' V' st' w') (E : Env C' U' V' st' a) : StN own S0 w0 N U' V' (st'.kill d) (a.put d undef) w' :=
  StN.of_put hd hs hf R E undef_rep

theorem valsOf_get : ∀ {ps : List (Nat × PV)} {k : Nat} {xs : List (List PV)}, valsOf ps k = some xs → ps.length = xs.length ∧ ∀ (j : Nat) (e : Nat × PV) (x : List PV), ps[j]? = some e → xs[j]? = some x → e.1 = k + j ∧ fzL e.2.cells = some x
  | [], k, xs, h => by
    simp only [valsOf, Option.some.injEq] at h
    subst h
    exact ⟨rfl, fun j e x he => by simp at he⟩
  | (i, p) :: r, k, xs, h => by
    simp only [valsOf] at h
    split at h
    · rename_i hi
      split at h
      · rename_i c l hc hl
        obtain rfl := Option.some.inj h
        obtain ⟨h1, h2⟩ := valsOf_get hl
        refine ⟨by simp [h1], fun j e x he hx => ?_⟩
        cases j with
        | zero => simp at he hx; subst he hx; exact ⟨by simpa using hi, hc⟩
        | succ j =>
          obtain ⟨h3, h4⟩ := h2 j e x (by simpa using he) (by simpa using hx)
          exact ⟨by omega, h4⟩
      · cases h
    · cases h

/-- A row whose first cells turn no more reads as xs. -/
theorem rowF {S : Cells} {g cap sz : Nat} {cur : Array Value} {xs : List (List PV)} (hS : ∀ o, o < xs.length * sz → S g o = cur[o]?) (hc : xs.length ≤ cap) (hcur : xs.length * sz ≤ cur.size) (hsz : ∀ x ∈ xs, x.length = sz)
    (hr : ∀ (j i : Nat) (x : List PV) (p : PV), xs[j]? = some x → x[i]? = some p → ∃ u, cur[j * sz + i]? = some u ∧ RepF S u p) : RepF S (.slice (some ⟨g, 0, none⟩) xs.length cap) (.sl xs) := by
  refine .sl (sz := sz) (fun j i => (cur[j * sz + i]?).getD undef) rfl hc hsz (fun h0 => ⟨g, 0, rfl, fun j i hj hi => ?_⟩) (fun j i x p hx hp => ?_)
  · have hlt : j * sz + i < xs.length * sz := by
      have : (j + 1) * sz ≤ xs.length * sz := Nat.mul_le_mul_right _ hj
      rw [Nat.add_mul, Nat.one_mul] at this
      omega
    rw [Nat.zero_add, hS _ hlt, Array.getElem?_eq_getElem (by omega)]
    rfl
  · obtain ⟨u, h1, h2⟩ := hr j i x p hx hp
    rw [h1]
    exact h2

/-- What is appended, in memory. -/
theorem src_sound (E : Env C U V st a) (R : Rel own S0 w0 C U V st w) {sz : Nat} {y : Operand} {s : PV} {ys0 ys : List (List PV)} (hs : st.ev y = some s) (h : srcXs st sz s = some ys0) (hf : fzLL ys0 = some ys)
    (hsz : ∀ y ∈ ys, y.length = sz) (h0 : 0 < sz) (hne : ys ≠ []) :
    ∃ ad c, a.eval y = .slice (some ad) ys.length c ∧ ∃ news : List Value, news.length = ys.length * sz ∧ (∀ j u, news[j]? = some u → w.cell? (ad.add j) = some u) ∧ (∀ u ∈ news, u.oneCell' = true) ∧
      ∀ (j i : Nat) (x : List PV) (p : PV), ys[j]? = some x → x[i]? = some p → ∃ u, news[j * sz + i]? = some u ∧ RepF C.S u p := by
  obtain ⟨hl, hg⟩ := fzLL_get hf
  have hlen : 0 < ys.length := List.length_pos_iff.2 hne
  -- by cells: g tells them
  have key : ∀ (ad : Addr) (g : Nat → Value), (∀ k, k < ys.length * sz → w.cell? (ad.add k) = some (g k) ∧ (g k).oneCell' = true) →
      (∀ (j i : Nat) (x : List PV) (p : PV), ys0[j]? = some x → x[i]? = some p → i < sz → RepV C st.toks U V (g (j * sz + i)) p) →
      ∃ news : List Value, news.length = ys.length * sz ∧ (∀ j u, news[j]? = some u → w.cell? (ad.add j) = some u) ∧ (∀ u ∈ news, u.oneCell' = true) ∧
      ∀ (j i : Nat) (x : List PV) (p : PV), ys[j]? = some x → x[i]? = some p → ∃ u, news[j * sz + i]? = some u ∧ RepF C.S u p := by
    intro ad g h1 h2
    have hget : ∀ k, ((List.range (ys.length * sz)).map g)[k]? = if k < ys.length * sz then some (g k) else none := fun k => by
      by_cases hk : k < ys.length * sz <;> simp [List.getElem?_map, List.getElem?_range, hk]
    refine ⟨(List.range (ys.length * sz)).map g, by simp, fun j u hu => ?_, fun u hu => ?_, fun j i x p hx hp => ?_⟩
    · rw [hget] at hu
      split at hu
      · obtain rfl := Option.some.inj hu
        exact (h1 j (by assumption)).1
      · cases hu
    · obtain ⟨k, hk, rfl⟩ := List.mem_map.1 hu
      exact (h1 k (List.mem_range.1 hk)).2
    · have hxl := hsz x (List.mem_of_getElem? hx)
      have hi : i < sz := hxl ▸ (List.getElem?_eq_some_iff.1 hp).1
      have hj : j < ys.length := (List.getElem?_eq_some_iff.1 hx).1
      have hx0 := List.getElem?_eq_getElem (show j < ys0.length by omega)
      obtain ⟨hfl, hfg⟩ := fzL_get (hg j _ x hx0 hx)
      have hp0 := List.getElem?_eq_getElem (show i < (ys0[j]'(by omega)).length by omega)
      have hlt : j * sz + i < ys.length * sz := by
        have : (j + 1) * sz ≤ ys.length * sz := Nat.mul_le_mul_right _ hj
        rw [Nat.add_mul, Nat.one_mul] at this
        omega
      exact ⟨_, by rw [hget, if_pos hlt], fz_rep (C := C) (hfg i _ p hp0 hp) (h2 j i _ _ hx0 hp0 hi)⟩
  have frozen : ∀ zs : List (List PV), ys0 = zs → RepF C.S (a.eval y) (.sl zs) → ∃ ad c, a.eval y = .slice (some ad) ys.length c ∧ ∃ news : List Value, news.length = ys.length * sz ∧ (∀ j u, news[j]? = some u → w.cell? (ad.add j) = some u) ∧ (∀ u ∈ news, u.oneCell' = true) ∧
      ∀ (j i : Nat) (x : List PV) (p : PV), ys[j]? = some x → x[i]? = some p → ∃ u, news[j * sz + i]? = some u ∧ RepF C.S u p := by
    intro zs e hr
    subst e
    generalize a.eval y = v at hr
    cases hr with
    | @sl A n c sz' _ f hn hc hsz' hA hrr =>
      obtain ⟨b, o, rfl, hS⟩ := hA (by omega)
      have h00 := List.getElem?_eq_getElem (show 0 < ys0.length by omega)
      have h01 := List.getElem?_eq_getElem (show 0 < ys.length by omega)
      have e1 := (fzL_get (hg 0 _ _ h00 h01)).1
      have e2 := hsz' _ (List.mem_of_getElem? h00)
      have e3 := hsz _ (List.mem_of_getElem? h01)
      have hszz : sz' = sz := by omega
      subst hszz
      refine ⟨⟨b, o, none⟩, c, by rw [← hn, hl], key ⟨b, o, none⟩ (fun k => f (k / sz') (k % sz')) (fun k hk => ?_) (fun j i x p hx hp hi => ?_)⟩
      · have h1 : k / sz' < n := by
          rw [← hn, hl]
          exact Nat.div_lt_of_lt_mul (by rw [Nat.mul_comm]; exact hk)
        have h2 := hS (k / sz') (k % sz') h1 (Nat.mod_lt _ h0)
        have h3 : k / sz' * sz' + k % sz' = k := Nat.div_add_mod' k sz'
        rw [h3] at h2
        have h4 := R.stable _ _ _ h2
        refine ⟨by rw [Addr.add_lit]; exact h4, ?_⟩
        have hx := List.getElem?_eq_getElem (show k / sz' < ys0.length by omega)
        have hxl := hsz' _ (List.mem_of_getElem? hx)
        have hp := List.getElem?_eq_getElem (show k % sz' < (ys0[k / sz']'(by omega)).length by rw [hxl]; exact Nat.mod_lt _ h0)
        exact (hrr _ _ _ _ hx hp).one
      · have e4 : (j * sz' + i) / sz' = j := by
          rw [Nat.mul_comm, Nat.mul_add_div h0, Nat.div_eq_of_lt hi, Nat.add_zero]
        have e5 : (j * sz' + i) % sz' = i := by
          rw [Nat.mul_comm, Nat.mul_add_mod, Nat.mod_eq_of_lt hi]
        simp only [e4, e5]
        exact .frz (hrr j i x p hx hp)
  unfold srcXs at h
  split at h
  · obtain rfl := Option.some.inj h
    exact frozen _ rfl (rep_sl (.inl (ev_rep E hs)))
  · obtain rfl := Option.some.inj h
    exact frozen _ rfl (rep_sl (.inr ⟨_, ev_rep E hs⟩))
  · obtain rfl := Option.some.inj h
    simp at hl
    omega
  · rename_i id lo n cap
    split at h
    · rename_i T cs ho
      split at h
      · rename_i hfit
        obtain rfl := Option.some.inj h
        obtain ⟨ev, hid, hnc⟩ := rep_ms (ev_rep E hs)
        obtain ⟨vs, hb, hvs, hrep⟩ := R.box id T cs ho
        have hn : ys.length = n := by rw [← hl]; simp [chunks]
        refine ⟨⟨C.ρ id, lo, none⟩, cap, by rw [ev, hn], key _ (fun k => (vs[lo + k]?).getD undef) (fun k hk => ?_) (fun j i x p hx hp hi => ?_)⟩
        · have hlt : lo + k < vs.size := by rw [hvs]; rw [hn] at hk; omega
          have h1 : vs[lo + k]? = some vs[lo + k] := Array.getElem?_eq_getElem hlt
          have h2 := List.getElem?_eq_getElem (show lo + k < cs.length by omega)
          rw [Addr.add_lit, cell_of_row w (C.ρ id) (lo + k) vs T (0, 0) hb, h1]
          exact ⟨rfl, (hrep _ _ _ h1 h2).1⟩
        · have hj : j < n := by
            have := (List.getElem?_eq_some_iff.1 hx).1
            simpa [chunks] using this
          have hx' : x = (cs.drop (lo + j * sz)).take sz := by
            simp [chunks, List.getElem?_map, List.getElem?_range, hj] at hx
            exact hx.symm
          subst hx'
          rw [List.getElem?_take, if_pos hi, List.getElem?_drop, Nat.add_assoc] at hp
          have hlt : lo + (j * sz + i) < vs.size := by rw [hvs]; exact (List.getElem?_eq_some_iff.1 hp).1
          have h1 : vs[lo + (j * sz + i)]? = some vs[lo + (j * sz + i)] := Array.getElem?_eq_getElem hlt
          simp only [h1, Option.getD_some]
          exact (hrep _ _ _ h1 hp).2
      · cases h
    · cases h
  · cases h
theorem src_len {sz : Nat} {y : Operand} {s : PV} {ys0 : List (List PV)} (E : Env C U V st a) (hs : st.ev y = some s) (h : srcXs st sz s = some ys0) : ∃ B c, a.eval y = .slice B ys0.length c := by
  unfold srcXs at h
  split at h
  · obtain rfl := Option.some.inj h
    obtain ⟨A, c, e, _⟩ := sl_slice (rep_sl (.inl (ev_rep E hs)))
    exact ⟨A, c, e⟩
  · obtain rfl := Option.some.inj h
    obtain ⟨A, c, e, _⟩ := sl_slice (rep_sl (.inr ⟨_, ev_rep E hs⟩))
    exact ⟨A, c, e⟩
  · obtain rfl := Option.some.inj h
    exact ⟨none, 0, (rep_val (ev_rep E hs)).1⟩
  · rename_i id lo n cap
    split at h
    · split at h
      · obtain rfl := Option.some.inj h
        obtain ⟨ev, _⟩ := rep_ms (ev_rep E hs)
        refine ⟨some ⟨C.ρ id, lo, none⟩, cap, ev.trans ?_⟩
        simp only [chunks, List.length_map, List.length_range]
      · cases h
    · cases h
  · cases h
theorem run_append_empty {t ty e : TypeId} {sz : Nat} (hu : P.underlying t = some (.slice e)) (hn : sizeOf? P e = some sz) (A B : Option Addr) (n c c' : Nat) (hc : n ≤ c) (w : World) :
    (Builtin.append_ #[t, t] ty #[.slice A n c, .slice B 0 c']).run P w = .ok (.slice A n c) w := by
  cases A <;> cases B <;> simp [Builtin.append_, run_underlying hu, run_sizeOf? hn, Builtin.lenOf, hc, Builtin.firstCells, loadCells, loadCellsFrom, storeCells]
end
end Go.Pw
