/-
  strings.Builder as an object of the call's own memory: copyCheck, WriteString, String by contract.
-/
import Derived.Test.YtfhdokpcnkpcpaaB1
import Derived.Test.YtfhdokpcnkpcpaaTy
open Go Go.Proofs Go.Pw Go.RowKit
namespace Go.Proofs.Ytfhdokpcnkpcpaa
set_option linter.unusedVariables false
set_option linter.unusedSimpArgs false
section
variable {own : Nat → Prop} {S0 : Base} {w0 w : World} {C : Cx} {U V : Nat → Prop} {st : PS}
theorem setCell_row {vs : Array Value} {t : TypeId} {fr : Nat × Nat} {g i : Nat} (hg : w.heap[g]? = some (.cells vs t fr)) (v : Value) : w.setCell ⟨g, i, none⟩ v = w.setRow g (vs.setIfInBounds i v) := by
  unfold World.setCell World.setRow
  congr 1
  refine Array.ext_getElem? fun j => ?_
  simp only [Array.getElem?_modify]
  split
  · rename_i h
    subst h
    rw [hg]
    rfl
  · rfl
theorem upd_self {α : Type} {l : List (Nat × α)} {i : Nat} {v : α} (h : lkp l i = some v) : upd l i v = l := by
  induction l with
  | nil => cases h
  | cons x r ih =>
    obtain ⟨k, u⟩ := x
    simp only [upd, lkp] at h ⊢
    split
    · rename_i e
      rw [if_pos e] at h
      rw [e, Option.some.inj h]
    · rename_i e
      rw [if_neg e] at h
      rw [ih h]
/-- Forget a row. -/
theorem Rel.toks_ (R : Rel own S0 w0 C U V st w) {T : List (Nat × Tok)} (hT : ∀ k t, lkp T k = some t → lkp st.toks k = some t) : Rel own S0 w0 C U V { st with toks := T } w ∧ Ext C C st.toks T U V U V := by
  have X : Ext C C st.toks T U V U V := ⟨SLe.refl _, fun _ _ => rfl, fun k t _ h => ⟨t, hT k t h, Nat.le_refl _, rfl, fun _ => rfl⟩, fun _ h => h, fun _ h => h⟩
  refine ⟨⟨R.frame, R.stable, fun id T' cs h => ?_, R.iter, R.hown, R.hinj, fun k t h => R.tok k t (hT k t h), fun i oi k t h1 h2 => R.tbox i oi k t h1 (hT k t h2), fun i j ti tj h1 h2 => R.tinj i j ti tj (hT _ _ h1) (hT _ _ h2), R.snew, R.sold, R.base.trans X⟩, X⟩
  obtain ⟨vs, h1, h2, h3⟩ := R.box id T' cs h
  exact ⟨vs, h1, h2, fun i v p hv hp => ⟨(h3 i v p hv hp).1, (h3 i v p hv hp).2.ext X⟩⟩
theorem freeze_other (w : World) (g n k : Nat) (h : k ≠ g) : (w.freeze ⟨g, 0, none⟩ n).heap[k]? = w.heap[k]? := by
  unfold World.freeze
  split
  · rfl
  · simp [Array.getElem?_modify, Ne.symm h]
theorem freeze_cell (w : World) (g n b o : Nat) : (w.freeze ⟨g, 0, none⟩ n).cell? ⟨b, o, none⟩ = w.cell? ⟨b, o, none⟩ := by
  by_cases hb : b = g
  · subst hb
    unfold World.freeze
    split
    · rfl
    · unfold World.cell?
      simp only [Array.getElem?_modify, if_true]
      cases w.heap[b]? with
      | none => rfl
      | some x => cases x <;> rfl
  · exact World.cell?_of_block (freeze_other w g n b hb)
/-- Forget a row, and freeze what lies there. -/
theorem Rel.freeze_ (R : Rel own S0 w0 C U V st w) {k : Nat} {t : Tok} (hk : lkp st.toks k = some t) {T : List (Nat × Tok)} (hT : ∀ j t, lkp T j = some t → j ≠ k ∧ lkp st.toks j = some t) (n : Nat) :
    Rel own S0 w0 C U V { st with toks := T } (w.freeze ⟨(C.τ k).1, 0, none⟩ n) ∧ Ext C C st.toks T U V U V := by
  obtain ⟨R', X⟩ := Rel.toks_ R (T := T) fun j t h => (hT j t h).2
  have hown := (R.tok k t hk).2.1
  have hother : ∀ b, b ≠ (C.τ k).1 → (w.freeze ⟨(C.τ k).1, 0, none⟩ n).heap[b]? = w.heap[b]? := fun b hb => freeze_other w _ n b hb
  have hsize : (w.freeze ⟨(C.τ k).1, 0, none⟩ n).heap.size = w.heap.size := by
    unfold World.freeze
    split
    · rfl
    · simp
  have hio : (w.freeze ⟨(C.τ k).1, 0, none⟩ n).os = w.os ∧ (w.freeze ⟨(C.τ k).1, 0, none⟩ n).tape = w.tape ∧ (w.freeze ⟨(C.τ k).1, 0, none⟩ n).output = w.output := by
    unfold World.freeze
    split <;> exact ⟨rfl, rfl, rfl⟩
  refine ⟨⟨⟨by rw [hio.1]; exact R.frame.os, by rw [hio.2.1]; exact R.frame.tape, by rw [hio.2.2]; exact R.frame.output, by rw [hsize]; exact R.frame.size, fun b hb hn => ?_⟩, fun b o v h => ?_, fun id T' cs h => ?_, fun id s pos h => ?_, fun id o h => ?_, R'.hinj, fun j t' h => ?_, R'.tbox, R'.tinj, R'.snew, R'.sold, R'.base⟩, X⟩
  · rw [hother b (fun e => by subst e; rcases hown with h | h; exact hn h; omega)]
    exact R.frame.block b hb hn
  · rw [freeze_cell]
    exact R.stable b o v h
  · rw [hother _ (fun e => R.tbox id _ k t h hk e)]
    exact R'.box id T' cs h
  · rw [hother _ (fun e => R.tbox id _ k t h hk e)]
    exact R.iter id s pos h
  · rw [hsize]
    exact R.hown id o h
  · rw [hother _ (fun e => (hT j t' h).1 (R.tinj j k t' t (hT j t' h).2 hk e))]
    exact R'.tok j t' h
end
abbrev vNP : PV := .val (.pointer none)
def rowS (k : Nat) (s : ByteArray) : PV := if s.size = 0 then .val (.slice none 0 0) else .row k (encS s)
def tokS (k : Nat) (e : TypeId) (s : ByteArray) : List (Nat × Tok) := if s.size = 0 then [] else [(k, ⟨e, 1, s.size⟩)]
theorem copy_ok (id nx nt : Nat) (a b : PV) (T : List (Nat × Tok)) (ha : a = vNP ∨ a = .ptr id 0) :
    OkI Try.prog 33 [.ptr id 0] ⟨[], [(id, .box 54 [a, b])], T, nx, nt⟩ (fun r st' => r = .tup [] ∧ st' = ⟨[], [(id, .box 54 [.ptr id 0, b])], T, nx, nt⟩) := by
  refine ⟨by kernel_rfl, fun own S0 w0 w C vals R hn hr => ?_⟩
  have ho : lkp ([(id, PObj.box 54 [a, b])] : List (Nat × PObj)) id = some (.box 54 [a, b]) := by simp [lkp]
  obtain ⟨vs, hb, hs, hv⟩ := R.box id _ _ ho
  obtain ⟨v, rfl⟩ : ∃ v, vals = #[v] := by
    cases vals with
    | mk l => match l, hn with
      | [v], _ => exact ⟨v, rfl⟩
  obtain ⟨v0, v1, rfl⟩ : ∃ v0 v1, vs = #[v0, v1] := by
    cases vs with
    | mk l => match l, hs with
      | [v0, v1], _ => exact ⟨v0, v1, rfl⟩
  obtain ⟨rfl, hU⟩ := rep_ptr (hr 0 v _ rfl rfl)
  have h0 := hv 0 v0 a rfl rfl
  have h1 := hv 1 v1 b rfl rfl
  have hc : w.cell? ⟨C.ρ id, 0, none⟩ = some v0 := by rw [Lib.cell_of_heap hb]; rfl
  rcases ha with rfl | rfl
  · obtain ⟨rfl, _⟩ := rep_val h0.2
    refine (copy_fresh (C.ρ id) w hc (by simp [World.shape?, hb]) (by simp [World.frozen?, hb])).mono ?_
    rintro e w' ⟨rfl, rfl⟩
    refine ⟨.tup [], _, .tuple #[], C, ⟨rfl, rfl⟩, rfl, ?_, Ext.refl _ _ _ _, .tup rfl (fun i v p hv hp => by simp at hp)⟩
    have R' := R.store (id := id) (T := 54) ho (cs' := [.ptr id 0, b]) (vs' := #[.pointer (some ⟨C.ρ id, 0, none⟩), v1]) ⟨rfl, fun i v p hv hp => by
      match i with
      | 0 => simp at hv hp; subst hv hp; exact ⟨rfl, .ptr hU⟩
      | 1 => simp at hv hp; subst hv hp; exact h1
      | i + 2 => simp at hp⟩
    rw [setCell_row hb]
    have eu : upd [(id, PObj.box 54 [vNP, b])] id (.box 54 [.ptr id 0, b]) = [(id, .box 54 [.ptr id 0, b])] := by simp [upd]
    rw [← eu]
    exact R'
  · obtain ⟨rfl, _⟩ := rep_ptr h0.2
    refine (copy_used (C.ρ id) w hc).mono ?_
    rintro e w' ⟨rfl, rfl⟩
    exact ⟨.tup [], _, .tuple #[], C, ⟨rfl, rfl⟩, rfl, R, Ext.refl _ _ _ _, .tup rfl (fun i v p hv hp => by simp at hp)⟩
theorem string_ok (s : ByteArray) (id k nx nt : Nat) (a : PV) :
    OkI Try.prog 30 [.ptr id 0] ⟨[], [(id, .box 54 [a, rowS k s])], tokS k 5 s, nx, nt⟩ (fun r st' => r = .val (.string s) ∧ st' = ⟨[], [(id, .box 54 [a, rowS k s])], [], nx, nt⟩) := by
  refine ⟨by kernel_rfl, fun own S0 w0 w C vals R hn hr => ?_⟩
  have ho : lkp ([(id, PObj.box 54 [a, rowS k s])] : List (Nat × PObj)) id = some (.box 54 [a, rowS k s]) := by simp [lkp]
  obtain ⟨vs, hb, hs, hv⟩ := R.box id _ _ ho
  obtain ⟨v, rfl⟩ : ∃ v, vals = #[v] := by
    cases vals with
    | mk l => match l, hn with
      | [v], _ => exact ⟨v, rfl⟩
  obtain ⟨v0, v1, rfl⟩ : ∃ v0 v1, vs = #[v0, v1] := by
    cases vs with
    | mk l => match l, hs with
      | [v0, v1], _ => exact ⟨v0, v1, rfl⟩
  obtain ⟨rfl, hU⟩ := rep_ptr (hr 0 v _ rfl rfl)
  have h1 := hv 1 v1 (rowS k s) rfl rfl
  have hc : w.cell? ⟨C.ρ id, 1, none⟩ = some v1 := by rw [Lib.cell_of_heap hb]; rfl
  by_cases h0 : s.size = 0
  · have es : s = ⟨#[]⟩ := by
      cases s with
      | mk d => congr 1; exact Array.size_eq_zero_iff.1 h0
    simp only [rowS, h0, if_true] at h1
    obtain ⟨rfl, _⟩ := rep_val h1.2
    have eT : tokS k 5 s = [] := by simp [tokS, h0]
    refine (string_nil (C.ρ id) w hc).mono ?_
    rintro e w' ⟨rfl, rfl⟩
    rw [eT] at R ⊢
    exact ⟨.val (.string s), _, .string ⟨#[]⟩, C, ⟨rfl, rfl⟩, rfl, R.drew, Ext.refl _ _ _ _, by rw [es]; exact .frz (.val rfl)⟩
  · have eT : tokS k 5 s = [(k, ⟨5, 1, s.size⟩)] := by simp [tokS, h0]
    simp only [rowS, h0, if_false] at h1
    rw [eT] at R h1
    have hk : lkp [(k, (⟨5, 1, s.size⟩ : Tok))] k = some ⟨5, 1, s.size⟩ := by simp [lkp]
    obtain ⟨hV, hown, ⟨cur, hcur, hcs⟩, hnc, hcm, hS⟩ := R.tok k _ hk
    have hlen : (encS s).length = s.size := by simp [encS]
    have hll : s.data.toList.length = s.size := by simp
    have hval : v1 = .slice (some ⟨(C.τ k).1, 0, none⟩) s.data.toList.length (C.τ k).2 := by
      rw [hll]
      have h2 := h1.2
      cases h2 with
      | frz h => cases h
      | row g1 g2 g3 => exact (g3 _ hk).2.2 hlen
    have hxf := rep_sl (.inr ⟨_, h1.2⟩)
    have hcells : ∀ (j : Nat) (x : UInt8), s.data.toList[j]? = some x → cur[j]? = some (Value.int .u8 x.toNat) := by
      intro j x hx
      have hj : j < (encS s).length := by rw [hlen]; have := (List.getElem?_eq_some_iff.1 hx).1; omega
      rw [hval] at hxf
      generalize hvv : Value.slice (some ⟨(C.τ k).1, 0, none⟩) s.data.toList.length (C.τ k).2 = v at hxf
      have hxs : (encS s)[j]? = some [.val (.int .u8 x.toNat)] := by simp [encS, hx]
      cases hxf with
      | @sl A n cc sz' _ f hn' hcc hsz' hA hrr =>
        injection hvv with g1 g2 g3
        subst g1
        obtain ⟨b, o', e3, hS'⟩ := hA (by omega)
        injection e3 with e3
        injection e3 with e3 e4
        subst e3 e4
        have e5 : sz' = 1 := (hsz' _ (List.mem_of_getElem? hxs)).symm
        subst e5
        have h1 := R.stable _ _ _ (hS' j 0 (by omega) (by omega))
        rw [cell_of_row w _ _ cur 5 (0, 0) hcur] at h1
        have h2 := hrr j 0 _ _ hxs rfl
        rw [show f j 0 = Value.int .u8 x.toNat from by generalize f j 0 = u at h2; cases h2; rfl] at h1
        simpa using h1
    rw [hval] at hc
    refine (string_some (C.ρ id) (C.τ k).1 (C.τ k).2 w s.data.toList (fun h => h0 (by rw [← hll, h]; rfl)) (by rw [hll]; exact hnc) hcm hc cur hcur (by rw [hcs, Nat.mul_one]) hcells).mono ?_
    rintro e w' ⟨rfl, rfl⟩
    obtain ⟨R', X⟩ := Rel.freeze_ (R.drew) (k := k) hk (T := []) (fun j t h => by cases h) s.data.toList.length
    rw [eT]
    exact ⟨.val (.string s), _, .string ⟨s.data.toList.toArray⟩, C, ⟨rfl, rfl⟩, rfl, R', X, .frz (by
      have : (⟨s.data.toList.toArray⟩ : ByteArray) = s := by simp
      rw [this]; exact .val rfl)⟩
end Go.Proofs.Ytfhdokpcnkpcpaa
