/-
  The machine tells what valK says.
-/
import Derived.Test.YtegehnojbfedlaaDoorPw4
namespace Go.Pw
open Go Go.RowKit
set_option linter.unusedVariables false
set_option linter.unusedSimpArgs false
section
variable {P : Program} {own : Nat → Prop} {S0 : Base} {w0 w : World} {C : Cx} {U V : Nat → Prop} {st : PS} {a : Act}

theorem run_sliceBound_ok (k : IntKind) (i : Int) (y : Nat) (code : BoundsCode) (h0 : 0 ≤ i) (h1 : i ≤ y) (w : World) : (Instr.sliceBound (.int k i) y code).run P w = .ok i.toNat w := by
  simp [Instr.sliceBound, asIntOf, h0, h1]

theorem bounds_sound (E : Env C U V st a) {lo hi : Option Operand} {len cap : Nat} {K : Nat → Nat → Prop} (isS : Bool) (h : boundsK st lo hi len K) (hc : len ≤ cap) :
    ∃ l r, (Instr.sliceBounds isS len cap (lo.map a.eval) (hi.map a.eval) none).run P w = .ok (l, r, cap) w ∧ l ≤ r ∧ r ≤ len ∧ K l r ∧ (lo = none → l = 0) := by
  unfold boundsK at h
  split at h
  · exact ⟨0, len, by simp [Instr.sliceBounds], Nat.zero_le _, Nat.le_refl _, h, fun _ => rfl⟩
  · rename_i x
    replace h := bindO_elim h; obtain ⟨p, hp, h⟩ := h
    replace h := intK_elim h; obtain ⟨k, i, rfl, h0, h1, h⟩ := h
    have e : a.eval x = .int k i := (rep_val (ev_rep E hp)).1
    exact ⟨i.toNat, len, by simp [Instr.sliceBounds, e, run_sliceBound_ok k i len _ h0 h1], by omega, Nat.le_refl _, h, fun e => by cases e⟩
  · rename_i x
    replace h := bindO_elim h; obtain ⟨p, hp, h⟩ := h
    replace h := intK_elim h; obtain ⟨k, i, rfl, h0, h1, h⟩ := h
    have e : a.eval x = .int k i := (rep_val (ev_rep E hp)).1
    exact ⟨0, i.toNat, by simp [Instr.sliceBounds, e, run_sliceBound_ok k i cap _ h0 (by omega)], Nat.zero_le _, by omega, h, fun _ => rfl⟩
  · rename_i x y
    replace h := bindO_elim h; obtain ⟨p, hp, h⟩ := h
    replace h := intK_elim h; obtain ⟨k, i, rfl, h⟩ := h
    replace h := bindO_elim h; obtain ⟨q, hq, h⟩ := h
    replace h := intK_elim h; obtain ⟨k', j, rfl, h0, h1, h2, h⟩ := h
    have e : a.eval x = .int k i := (rep_val (ev_rep E hp)).1
    have e' : a.eval y = .int k' j := (rep_val (ev_rep E hq)).1
    exact ⟨i.toNat, j.toNat, by simp [Instr.sliceBounds, e, e', run_sliceBound_ok k' j cap _ (by omega) (by omega), run_sliceBound_ok k i j.toNat _ h0 (by omega)], by omega, by omega, h, fun e => by cases e⟩

theorem repF_cut {S : Cells} {A : Option Addr} {m c n : Nat} {xs : List (List PV)} (h : RepF S (.slice A m c) (.sl xs)) (l r : Nat) (hl : l ≤ r) (hr : r ≤ xs.length) (hn : l = 0 ∨ ∀ x ∈ xs, x.length = n) :
    RepF S (.slice (if c = l then A else A.map (·.add (l * n))) (r - l) (c - l)) (.sl ((xs.take r).drop l)) := by
  cases h with
  | @sl _ _ _ sz _ f hm hc hsz hA hrr =>
    refine .sl (sz := sz) (fun j i => f (l + j) i) (by rw [List.length_drop, List.length_take]; omega) (by omega) (fun x hx => hsz x (List.mem_of_mem_take (List.mem_of_mem_drop hx))) (fun h0 => ?_) (fun j i x p hx hp => ?_)
    · obtain ⟨b, o, rfl, hS⟩ := hA (by omega)
      rw [if_neg (by omega)]
      have hsn : l * n = l * sz := by
        rcases hn with rfl | hn
        · simp
        · have hx0 : xs[0]? = some (xs[0]'(by omega)) := List.getElem?_eq_getElem _
          have h1 := hn _ (List.mem_of_getElem? hx0)
          have h2 := hsz _ (List.mem_of_getElem? hx0)
          have : n = sz := h1.symm.trans h2
          rw [this]
      refine ⟨b, o + l * sz, by simp [Addr.add_lit, hsn], fun j i hj hi => ?_⟩
      have := hS (l + j) i (by omega) hi
      rw [← this]
      congr 1
      rw [Nat.add_mul]
      omega
    · rw [List.getElem?_drop, List.getElem?_take] at hx
      split at hx
      · exact hrr _ i x p hx hp
      · cases hx

theorem slice_sound (E : Env C U V st a) (R : Rel own S0 w0 C U V st w) {t : TypeId} {x : Operand} {lo hi : Option Operand} {K : PV → Prop} (h : sliceK P st t x lo hi K) :
    ∃ v p, (Instr.sliceAt t (a.eval x) (lo.map a.eval) (hi.map a.eval) none).run P w = .ok v w ∧ RepV C st.toks U V v p ∧ K p := by
  unfold sliceK at h
  split at h
  · rename_i hu
    replace h := bindO_elim h; obtain ⟨p, hp, h⟩ := h
    split at h
    · rename_i s
      have e : a.eval x = .string s := (rep_val (ev_rep E hp)).1
      obtain ⟨l, r, hb, _, _, hk, _⟩ := bounds_sound (P := P) (w := w) E false h (Nat.le_refl _)
      refine ⟨_, _, ?_, .frz (.val rfl), hk⟩
      simp [Instr.sliceAt, Instr.slice, run_underlying hu, e, hb]
    · exact h.elim
  · rename_i e hu
    replace h := bindO_elim h; obtain ⟨n, hn, h⟩ := h
    replace h := bindO_elim h; obtain ⟨p, hp, h⟩ := h
    have key : ∀ (xs : List (List PV)), RepF C.S (a.eval x) (.sl xs) → boundsK st lo hi xs.length (fun l r => (lo = none ∨ ∀ x ∈ xs, x.length = n) ∧ K (.sl ((xs.take r).drop l))) →
        ∃ v p, (Instr.sliceAt t (a.eval x) (lo.map a.eval) (hi.map a.eval) none).run P w = .ok v w ∧ RepV C st.toks U V v p ∧ K p := by
      intro xs hr h
      generalize a.eval x = v at hr
      cases hr with
      | @sl A m c sz _ f hm hc hsz hA hrr =>
        obtain ⟨l, r, hb, h1, h2, ⟨hk1, hk⟩, h3⟩ := bounds_sound (P := P) (w := w) E true h (by omega : xs.length ≤ c)
        rw [hm] at hb
        refine ⟨_, _, ?_, .frz (repF_cut (n := n) (.sl f hm hc hsz hA hrr) l r h1 h2 (hk1.imp h3 id)), hk⟩
        simp [Instr.sliceAt, Instr.slice, run_underlying hu, hb, run_sizeOf? hn]
    split at h
    · exact key _ (rep_sl (.inl (ev_rep E hp))) h
    · exact key _ (rep_sl (.inr ⟨_, ev_rep E hp⟩)) h
    · have ev : a.eval x = .slice none 0 0 := (rep_val (ev_rep E hp)).1
      obtain ⟨l, r, hb, h1, h2, hk, h3⟩ := bounds_sound (P := P) (w := w) E true h (Nat.le_refl 0)
      have hl : l = 0 := by omega
      have hr : r = 0 := by omega
      subst hl hr
      refine ⟨_, _, ?_, .frz (.val rfl), hk⟩
      simp [Instr.sliceAt, Instr.slice, run_underlying hu, ev, hb, run_sizeOf? hn]
    · rename_i id l0 m cap
      obtain ⟨ev, hid, hmc⟩ := rep_ms (ev_rep E hp)
      obtain ⟨l, r, hb, h1, h2, ⟨hlo, hk⟩, h3⟩ := bounds_sound (P := P) (w := w) E true h hmc
      have hl := h3 hlo
      subst hl
      refine ⟨.slice (some ⟨C.ρ id, l0, none⟩) r cap, _, ?_, .ms hid (by omega), hk⟩
      simp [Instr.sliceAt, Instr.slice, run_underlying hu, ev, hb, run_sizeOf? hn, Addr.add]
    · exact h.elim
  · rename_i m e hu
    replace h := bindO_elim h; obtain ⟨n, hn, h⟩ := h
    replace h := bindO_elim h; obtain ⟨p, hp, h⟩ := h
    split at h
    · rename_i id off
      obtain ⟨ev, hid⟩ := rep_ptr (ev_rep E hp)
      obtain ⟨l, r, hb, h1, h2, ⟨hlo, hk⟩, h3⟩ := bounds_sound (P := P) (w := w) E false h (Nat.le_refl _)
      have hl := h3 hlo
      subst hl
      refine ⟨.slice (some ⟨C.ρ id, off, none⟩) r m, _, ?_, .ms hid (by omega), hk⟩
      simp [Instr.sliceAt, run_underlying hu, ev, hb, run_sizeOf? hn, Addr.add, Instr.sureAddr]
    · exact h.elim
  · exact h.elim

theorem indexAddr_sound (E : Env C U V st a) (R : Rel own S0 w0 C U V st w) {t : TypeId} {x ix : Operand} {K : PV → Prop} (h : indexAddrK P st t x ix K) :
    ∃ v p, (Instr.indexAt t (a.eval x) (a.eval ix)).run P w = .ok v w ∧ RepV C st.toks U V v p ∧ K p := by
  unfold indexAddrK at h
  split at h
  · rename_i e hu
    replace h := bindO_elim h; obtain ⟨n, hn, h⟩ := h
    replace h := bindO_elim h; obtain ⟨p, hp, h⟩ := h
    replace h := bindO_elim h; obtain ⟨q, hq, h⟩ := h
    replace h := intK_elim h; obtain ⟨k, i, rfl, h⟩ := h
    have ei : a.eval ix = .int k i := (rep_val (ev_rep E hq)).1
    have key : ∀ (xs : List (List PV)), RepF C.S (a.eval x) (.sl xs) → (0 ≤ i ∧ i < xs.length ∧ (xs.getD i.toNat []).length = n ∧ K (.fp (xs.getD i.toNat []))) →
        ∃ v p, (Instr.indexAt t (a.eval x) (a.eval ix)).run P w = .ok v w ∧ RepV C st.toks U V v p ∧ K p := by
      intro xs hr ⟨h0, h1, h2, hk⟩
      rw [ei]
      generalize a.eval x = v at hr
      cases hr with
      | @sl A m c sz _ f hm hc hsz hA hrr =>
        obtain ⟨b, o, rfl, hS⟩ := hA (by omega)
        have hlt : i.toNat < xs.length := by omega
        have hx : xs[i.toNat]? = some (xs.getD i.toNat []) := by simp [List.getD_eq_getElem?_getD, List.getElem?_eq_getElem hlt]
        have hszn : sz = n := by rw [← h2]; exact (hsz _ (List.mem_of_getElem? hx)).symm
        refine ⟨.pointer (some ⟨b, o + i.toNat * n, none⟩), _, ?_, .fp (fun j p hp => ?_), hk⟩
        · simp [Instr.indexAt, run_underlying hu, asIntOf, h0, (by omega : i < (m : Int)), run_sizeOf? hn, Addr.add_lit]
        · have hj : j < n := by rw [← h2]; exact (List.getElem?_eq_some_iff.1 hp).1
          refine ⟨f i.toNat j, ?_, hrr _ j _ p hx hp⟩
          have := hS i.toNat j (by omega) (by omega)
          rw [hszn] at this
          rw [← this]
          congr 1
          omega
    split at h
    · exact key _ (rep_sl (.inl (ev_rep E hp))) h
    · exact key _ (rep_sl (.inr ⟨_, ev_rep E hp⟩)) h
    · rename_i id l0 m cap
      obtain ⟨ev, hid, hmc⟩ := rep_ms (ev_rep E hp)
      obtain ⟨h0, h1, hk⟩ := h
      refine ⟨.pointer (some ⟨C.ρ id, l0 + i.toNat * n, none⟩), _, ?_, .ptr hid, hk⟩
      simp [Instr.indexAt, run_underlying hu, asIntOf, ev, ei, h0, h1, run_sizeOf? hn, Addr.add_lit]
    · exact h.elim
  · rename_i m e hu
    replace h := bindO_elim h; obtain ⟨n, hn, h⟩ := h
    replace h := bindO_elim h; obtain ⟨p, hp, h⟩ := h
    replace h := bindO_elim h; obtain ⟨q, hq, h⟩ := h
    replace h := intK_elim h; obtain ⟨k, i, rfl, h⟩ := h
    have ei : a.eval ix = .int k i := (rep_val (ev_rep E hq)).1
    split at h
    · rename_i id off
      obtain ⟨ev, hid⟩ := rep_ptr (ev_rep E hp)
      obtain ⟨h0, h1, hk⟩ := h
      refine ⟨.pointer (some ⟨C.ρ id, off + i.toNat * n, none⟩), _, ?_, .ptr hid, hk⟩
      simp [Instr.indexAt, run_underlying hu, asIntOf, ev, ei, h0, h1, run_sizeOf? hn, Addr.add_lit, Instr.sureAddr]
    · exact h.elim
  · exact h.elim

theorem part_sound {T : List (Nat × Tok)} {U V : Nat → Prop} {t : TypeId} {vs : Array Value} {cs : List PV} {off : Nat} {p : PV} (h : RepL C T U V vs.toList cs) (hr : readCells P t cs off = some p) :
    ∃ v, (part t vs off).run P w = .ok v w ∧ RepV C T U V v p := by
  unfold readCells at hr
  split at hr
  · rename_i ha
    split at hr
    · rename_i n hn
      split at hr
      · obtain rfl := Option.some.inj hr
        refine ⟨.agg (vs.extract off (off + n)), by simp [part, run_isAgg ha, run_sizeOf? hn], rep_aggL ?_⟩
        have := (h.drop off).take n
        simpa [List.extract_eq_take_drop] using this
      · cases hr
    · cases hr
  · rename_i ha
    have hlt : off < vs.toList.length := by rw [h.1]; exact (List.getElem?_eq_some_iff.1 hr).1
    have hv : vs.toList[off]? = some (vs.toList[off]'hlt) := List.getElem?_eq_getElem hlt
    have hv2 : vs[off]? = some (vs.toList[off]'hlt) := by simp at hv; simp [hv]
    refine ⟨vs.toList[off]'hlt, by simp only [part, Sem.run_bind, run_isAgg ha, Result.andThen_ok, Bool.false_eq_true, if_false, hv2, Sem.run_pure], (h.2 off _ p hv hr).2⟩
  · cases hr

theorem index_sound (E : Env C U V st a) (R : Rel own S0 w0 C U V st w) {t : TypeId} {x ix : Operand} {K : PV → Prop} (h : indexK P st t x ix K) :
    ∃ v p, (Instr.index t (a.eval x) (a.eval ix)).run P w = .ok v w ∧ RepV C st.toks U V v p ∧ K p := by
  unfold indexK at h
  split at h
  · rename_i hu
    replace h := bindO_elim h; obtain ⟨p, hp, h⟩ := h
    replace h := bindO_elim h; obtain ⟨q, hq, h⟩ := h
    replace h := intK_elim h; obtain ⟨k, i, rfl, h⟩ := h
    have ei : a.eval ix = .int k i := (rep_val (ev_rep E hq)).1
    split at h
    · rename_i s
      have e : a.eval x = .string s := (rep_val (ev_rep E hp)).1
      obtain ⟨h0, h1, hk⟩ := h
      have hlt : i.toNat < s.size := by omega
      have hlt2 : i.toNat < s.data.toList.length := by simpa using hlt
      refine ⟨_, _, ?_, .frz (.val rfl), hk⟩
      have hb : (s[i.toNat]'hlt).toNat = (s.data.toList.getD i.toNat 0).toNat := by
        have : s[i.toNat]'hlt = s.data.toList.getD i.toNat 0 := by
          rw [List.getD_eq_getElem?_getD, List.getElem?_eq_getElem hlt2]
          rfl
        rw [this]
      simp [Instr.index, run_underlying hu, e, ei, asIntOf, h0, hlt, bt, hb]
    · exact h.elim
  · rename_i m e hu
    replace h := bindO_elim h; obtain ⟨n, hn, h⟩ := h
    replace h := bindO_elim h; obtain ⟨p, hp, h⟩ := h
    replace h := bindO_elim h; obtain ⟨q, hq, h⟩ := h
    replace h := intK_elim h; obtain ⟨k, i, rfl, h⟩ := h
    have ei : a.eval ix = .int k i := (rep_val (ev_rep E hq)).1
    split at h
    · rename_i cs
      obtain ⟨vs, ev, hr⟩ := rep_agg (ev_rep E hp)
      obtain ⟨h0, h1, h⟩ := h
      replace h := bindO_elim h; obtain ⟨p, hp, hk⟩ := h
      obtain ⟨v, hv, hv2⟩ := part_sound (P := P) (w := w) hr hp
      exact ⟨v, p, by simp [Instr.index, run_underlying hu, ev, ei, asIntOf, h0, h1, run_sizeOf? hn, hv], hv2, hk⟩
    · exact h.elim
  · exact h.elim

theorem field_sound (E : Env C U V st a) {s : TypeId} {x : Operand} {f : Nat} {K : PV → Prop} (h : fieldK P st s x f K) :
    ∃ v p, (Instr.field s (a.eval x) f).run P w = .ok v w ∧ RepV C st.toks U V v p ∧ K p := by
  unfold fieldK at h
  split at h
  · rename_i fs hu
    replace h := bindO_elim h; obtain ⟨fd, hf, h⟩ := h
    replace h := bindO_elim h; obtain ⟨p, hp, h⟩ := h
    split at h
    · obtain ⟨vs, ev, hr⟩ := rep_agg (ev_rep E hp)
      replace h := bindO_elim h; obtain ⟨p, hp, hk⟩ := h
      obtain ⟨v, hv, hv2⟩ := part_sound (P := P) (w := w) hr hp
      exact ⟨v, p, by simp [Instr.field, run_underlying hu, ev, hf, asAgg, hv], hv2, hk⟩
    · exact h.elim
  · exact h.elim

theorem fieldAddr_sound (E : Env C U V st a) {s : TypeId} {x : Operand} {f : Nat} {K : PV → Prop} (h : fieldAddrK P st s x f K) :
    ∃ v p, (Instr.fieldAt s (a.eval x) f).run P w = .ok v w ∧ RepV C st.toks U V v p ∧ K p := by
  unfold fieldAddrK at h
  split at h
  · rename_i fs hu
    replace h := bindO_elim h; obtain ⟨fd, hf, h⟩ := h
    replace h := bindO_elim h; obtain ⟨n, hn, hn0, h⟩ := h
    replace h := bindO_elim h; obtain ⟨p, hp, h⟩ := h
    split at h
    · rename_i id off
      obtain ⟨ev, hid⟩ := rep_ptr (ev_rep E hp)
      refine ⟨_, _, ?_, .ptr hid, h⟩
      simp [Instr.fieldAt, run_underlying hu, hf, ev, Instr.sureAddr, fieldPlace, run_sizeOf? hn, hn0, Addr.add_lit]
    · rename_i cs
      obtain ⟨b, o, ev, hS⟩ := rep_fp (ev_rep E hp)
      refine ⟨_, _, ?_, .fp (b := b) (o := o + fd.offset) (fun i p hp => ?_), h⟩
      · simp [Instr.fieldAt, run_underlying hu, hf, ev, Instr.sureAddr, fieldPlace, run_sizeOf? hn, hn0, Addr.add_lit]
      · rw [List.getElem?_drop] at hp
        have := hS _ p hp
        rwa [← Nat.add_assoc] at this
    · exact h.elim
  · exact h.elim

theorem load_sound (E : Env C U V st a) (R : Rel own S0 w0 C U V st w) {t : TypeId} {x : Operand} {K : PV → Prop} (h : loadK P st t x K) :
    ∃ v p, (Instr.loadAt t (a.eval x)).run P w = .ok v w ∧ RepV C st.toks U V v p ∧ K p := by
  unfold loadK at h
  replace h := bindO_elim h; obtain ⟨p, hp, h⟩ := h
  split at h
  · rename_i id off
    obtain ⟨ev, hid⟩ := rep_ptr (ev_rep E hp)
    replace h := bindO_elim h; obtain ⟨o, ho, h⟩ := h
    split at h
    · rename_i ty cs
      replace h := bindO_elim h; obtain ⟨q, hq, hk⟩ := h
      obtain ⟨vs, hb, hsz, hrep⟩ := R.box id ty cs ho
      obtain ⟨v, hv, hv2⟩ := run_loadVar_cells (P := P) (b := C.ρ id) (w := w) (vs := []) (C := C) (T := st.toks) (U := U) (V := V) hq (fun i q hq => by
        have hi : i < vs.size := by rw [hsz]; exact (List.getElem?_eq_some_iff.1 hq).1
        have h1 : vs[i]? = some vs[i] := Array.getElem?_eq_getElem hi
        exact ⟨vs[i], by rw [Nat.add_sub_cancel, cell_of_row w (C.ρ id) i vs ty (0, 0) hb]; exact h1, (hrep i _ q h1 hq).1, (hrep i _ q h1 hq).2⟩)
      exact ⟨v, q, by simp [Instr.loadAt, ev, Instr.sureAddr, hv], hv2, hk⟩
    · exact h.elim
  · rename_i cs
    obtain ⟨b, o, ev, hS⟩ := rep_fp (ev_rep E hp)
    replace h := bindO_elim h; obtain ⟨q, hq, hk⟩ := h
    -- the cells from o on
    have hq' : readCells P t (List.replicate o (.val .nilIface) ++ cs) o = some q := by
      unfold readCells at hq ⊢
      split at hq
      · split at hq
        · rename_i n hn
          split at hq
          · rename_i hl
            rw [if_pos (by simp; omega)]
            simpa using hq
          · cases hq
        · cases hq
      · rw [List.getElem?_append_right (by simp)]
        simpa using hq
      · cases hq
    unfold readCells at hq
    split at hq
    · rename_i ha
      split at hq
      · rename_i n hn
        split at hq
        · rename_i hl
          obtain rfl := Option.some.inj hq
          let f : Nat → Value := fun j => (w.cell? ⟨b, o + j, none⟩).getD undef
          have hf : ∀ j, j < n → ∃ q, cs[j]? = some q ∧ w.cell? ⟨b, o + j, none⟩ = some (f j) ∧ RepF C.S (f j) q := fun j hj => by
            have hlt : j < cs.length := by omega
            obtain ⟨u, h1, h2⟩ := hS j _ (List.getElem?_eq_getElem hlt)
            have h3 := R.stable _ _ _ h1
            have : f j = u := by simp [f, h3]
            exact ⟨_, List.getElem?_eq_getElem hlt, by rw [this]; exact h3, by rw [this]; exact h2⟩
          refine ⟨.agg ((List.range n).map f).toArray, _, ?_, rep_aggL ?_, hk⟩
          · have hl := run_loadCells (P := P) w ⟨b, o, none⟩ n f (fun j hj => by rw [Addr.add_lit]; obtain ⟨_, _, h, _⟩ := hf j hj; exact h)
            simp [Instr.loadAt, ev, Instr.sureAddr, loadVar, run_isAgg ha, run_sizeOf? hn, hl]
          · refine ⟨by simp; omega, fun i v p hv hp => ?_⟩
            have hi : i < n := by
              have := (List.getElem?_eq_some_iff.1 hv).1
              simpa using this
            obtain ⟨q', h1, h2, h3⟩ := hf i hi
            have hv' : v = f i := by simp [hi] at hv; exact hv.symm
            have hp' : p = q' := by
              rw [List.getElem?_take, if_pos hi, List.getElem?_drop, Nat.zero_add, h1] at hp
              exact (Option.some.inj hp).symm
            subst hv' hp'
            exact ⟨h3.one, .frz h3⟩
        · cases hq
      · cases hq
    · rename_i ha
      obtain ⟨u, h1, h2⟩ := hS 0 q hq
      have h3 := R.stable _ _ _ h1
      rw [Nat.add_zero] at h3
      exact ⟨u, q, by simp [Instr.loadAt, ev, Instr.sureAddr, loadVar, run_isAgg ha, h3], .frz h2, hk⟩
    · cases hq
  · exact h.elim
end
end Go.Pw
