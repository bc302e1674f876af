/-
  How a law's arguments read: numbers, truths, texts, slices and structs of such.
-/
import Derived.Test.YtegehnojbfedlaaDoorPwX
import Derived.ChangeSlices
import Derived.ChangeArms
import Derived.OpenShut
namespace Go.Pw
open Go Go.RowKit
set_option linter.unusedVariables false
set_option linter.unusedSimpArgs false
/-- Cells read as these. -/
def CellsRep (w : World) (cs : List Value) (ps : List PV) : Prop := cs.length = ps.length ∧ ∀ (i : Nat) (c : Value) (p : PV), cs[i]? = some c → ps[i]? = some p → RepF (memCells w) c p
section
variable {H : Type} {en : TypeId × Value → H} {P : Program} {w : World} {base : Nat} {spare : Nat → Bool} {held : Bool}
/-- What lies in memory at a type reads as a datum. -/
def Rd {H : Type} (en : TypeId × Value → H) (P : Program) (w : World) (base : Nat) (spare : Nat → Bool) (held : Bool) (t : TypeId) {α : Type} (e : α → List PV) (ok : α → Prop) : Prop :=
  ∀ (fuel : Nat) (cs : List Value) (x : DataW H × List MemPlace), DataW.trod en P w base spare held fuel t cs = some x → ∃ a, ok a ∧ CellsRep w cs (e a)
theorem CellsRep.one {c : Value} {p : PV} (h : RepF (memCells w) c p) : CellsRep w [c] [p] :=
  ⟨rfl, fun i c' p' h1 h2 => by
    cases i with
    | zero => simp at h1 h2; subst h1 h2; exact h
    | succ i => simp at h1⟩
theorem Rd.int {t : TypeId} {k : IntKind} (ht : P.underlying t = some (.int k)) : Rd en P w base spare held t (fun n : Int => [.val (.int k n)]) (fun n => (Lit.int k n).wf = true) := fun fuel cs x h => by
  obtain ⟨n, rfl, _, hw⟩ := DataW.trod_int ht h
  exact ⟨n, hw, .one (.val rfl)⟩
theorem Rd.string {t : TypeId} (ht : P.underlying t = some .string) : Rd en P w base spare held t (fun s : ByteArray => [vS s]) (fun s => s.size ≤ maxLen) := fun fuel cs x h => by
  obtain ⟨n, rfl, _, hw⟩ := DataW.trod_string ht h
  exact ⟨n, hw, .one (.val rfl)⟩
theorem Rd.map {t : TypeId} {α β : Type} {e : α → List PV} {ok : α → Prop} {e' : β → List PV} {ok' : β → Prop} (h : Rd en P w base spare held t e ok) (g : α → β) (he : ∀ a, e a = e' (g a)) (hk : ∀ a, ok a → ok' (g a)) : Rd en P w base spare held t e' ok' := fun fuel cs x hx => by
  obtain ⟨a, h1, h2⟩ := h fuel cs x hx
  exact ⟨g a, hk a h1, by rw [← he]; exact h2⟩
theorem list_of {α : Type} {p : Nat → α → Prop} : ∀ (n : Nat), (∀ i, i < n → ∃ a, p i a) → ∃ l : List α, l.length = n ∧ ∀ (i : Nat) (a : α), l[i]? = some a → p i a
  | 0, _ => ⟨[], rfl, fun i a h => by simp at h⟩
  | n + 1, h => by
    obtain ⟨l, h1, h2⟩ := list_of n (fun i hi => h i (by omega))
    obtain ⟨a, ha⟩ := h n (by omega)
    refine ⟨l ++ [a], by simp [h1], fun i b hb => ?_⟩
    by_cases hi : i < n
    · rw [List.getElem?_append_left (by omega)] at hb
      exact h2 i b hb
    · have : i = n := by
        have := (List.getElem?_eq_some_iff.1 hb).1
        simp at this
        omega
      subst this
      rw [List.getElem?_append_right (by omega), h1] at hb
      simp at hb
      subst hb
      exact ha
theorem cells?_get {a : Addr} {n : Nat} {cs : List Value} (h : w.cells? base a n = some cs) : cs.length = n ∧ ∀ j, j < n → w.cell? (a.add j) = cs[j]? := by
  unfold World.cells? at h
  split at h
  · have h1 := mapM_some_length h
    refine ⟨by simpa using h1, fun j hj => ?_⟩
    exact mapM_some_get h j j (by simp [hj])
  · cases h
theorem spot_none {a : Addr} {v : Value} (h : w.cell? a = some v) : a.spot = none := by
  unfold World.cell? at h
  split at h
  · split at h
    · cases h
    · rename_i hn
      cases hs : a.spot with
      | none => rfl
      | some x => rw [hs] at hn; simp at hn
  · cases h
theorem Rd.slice {t e : TypeId} {α : Type} {en' : α → List PV} {ok : α → Prop} {sz : Nat} (ht : P.underlying t = some (.slice e)) (hc : P.cellsOf e = sz) (h0 : 0 < sz) (hl : ∀ a, (en' a).length = sz) (h : Rd en P w base spare held e en' ok) :
    Rd en P w base spare held t (fun l : List α => [.sl (l.map en')]) (fun l => l.length ≤ maxLen ∧ ∀ a ∈ l, ok a) := fun fuel cs x hx => by
  rcases DataW.trod_slice ht hx with ⟨rfl, _⟩ | ⟨a, len, cap, elems, rest, n, _, rfl, _, _, hlc, hm, hlen, hel, _, _⟩
  · exact ⟨[], ⟨Nat.zero_le _, fun a ha => by cases ha⟩, .one (.sl (sz := 1) (fun _ _ => .nilIface) rfl (Nat.le_refl _) (by simp) (by simp) (by simp))⟩
  · have each : ∀ i, i < len → ∃ b : α, ok b ∧ ∃ ci, w.cells? base (a.add (i * sz)) sz = some ci ∧ CellsRep w ci (en' b) := fun i hi => by
      have h1 := hel i hi
      rw [hc] at h1
      have h2 : elems[i]? = some elems[i] := List.getElem?_eq_getElem (by omega)
      rw [h2, Option.bind_eq_some_iff] at h1
      obtain ⟨ci, h3, h4⟩ := h1
      obtain ⟨b, hb1, hb2⟩ := h n ci _ h4
      exact ⟨b, hb1, ci, h3, hb2⟩
    obtain ⟨l, l1, l2⟩ := list_of len each
    refine ⟨l, ⟨by omega, fun b hb => ?_⟩, .one ?_⟩
    · obtain ⟨i, hi⟩ := List.mem_iff_getElem?.1 hb
      exact (l2 i b hi).1
    · have spot : 0 < len → a = ⟨a.block, a.off, none⟩ := fun hp => by
        obtain ⟨b, _, ci, h3, h4⟩ := each 0 hp
        obtain ⟨g1, g2⟩ := cells?_get h3
        have h5 := g2 0 h0
        have h6 : ci[0]? = some (ci[0]'(by omega)) := List.getElem?_eq_getElem (by omega)
        rw [h6] at h5
        have e0 : (a.add (0 * sz)).add 0 = a := by simp [Addr.add]
        rw [e0] at h5
        have := spot_none h5
        cases a; simp at this; subst this; rfl
      refine .sl (sz := sz) (fun i j => (w.cell? ⟨a.block, a.off + (i * sz + j), none⟩).getD undef) (by simp [l1]) hlc (fun x hx => ?_) (fun hp => ⟨a.block, a.off, congrArg some (spot hp), fun i j hi hj => ?_⟩) (fun i j x p hx hp => ?_)
      · obtain ⟨b, _, rfl⟩ := List.mem_map.1 hx
        exact hl b
      · obtain ⟨b, _, ci, h3, h4⟩ := each i hi
        obtain ⟨g1, g2⟩ := cells?_get h3
        have h5 := g2 j hj
        have h6 : ci[j]? = some (ci[j]'(by omega)) := List.getElem?_eq_getElem (by omega)
        rw [h6, spot (by omega), Addr.add_lit, Addr.add_lit, Nat.add_assoc] at h5
        show w.cell? _ = _
        rw [h5]; rfl
      · rw [List.getElem?_map] at hx
        cases hli : l[i]? with
        | none => rw [hli] at hx; cases hx
        | some b =>
          rw [hli] at hx
          obtain rfl := Option.some.inj hx
          obtain ⟨_, ci, h3, h4⟩ := l2 i b hli
          have hi : i < len := by rw [← l1]; exact (List.getElem?_eq_some_iff.1 hli).1
          have hj : j < sz := by rw [← hl b]; exact (List.getElem?_eq_some_iff.1 hp).1
          obtain ⟨g1, g2⟩ := cells?_get h3
          have h5 := g2 j hj
          have h6 : ci[j]? = some (ci[j]'(by omega)) := List.getElem?_eq_getElem (by omega)
          rw [h6, spot (by omega), Addr.add_lit, Addr.add_lit, Nat.add_assoc] at h5
          rw [h5]
          exact h4.2 j _ p h6 hp
theorem Rd.bool {t : TypeId} (ht : P.underlying t = some .bool) : Rd en P w base spare held t (fun b : Bool => [vB b]) (fun _ => True) := fun fuel cs x h => by
  obtain ⟨b, rfl, _⟩ := DataW.trod_bool ht h
  exact ⟨b, trivial, .one (.val rfl)⟩
/-- A struct of 3 fields of one cell each. -/
theorem Rd.struct3 {t : TypeId} {fs : Array Field} {f0 f1 f2 : Field} {α0 α1 α2 : Type} {e0 : α0 → PV} {e1 : α1 → PV} {e2 : α2 → PV} {o0 : α0 → Prop} {o1 : α1 → Prop} {o2 : α2 → Prop}
    (ht : P.underlying t = some (.struct fs)) (hfs : fs = #[f0, f1, f2]) (hn : P.cellsOf t = 3)
    (g0 : f0.offset = 0) (g1 : f1.offset = 1) (g2 : f2.offset = 2)
    (c0 : P.cellsOf f0.type = 1) (c1 : P.cellsOf f1.type = 1) (c2 : P.cellsOf f2.type = 1)
    (h0 : Rd en P w base spare held f0.type (fun a => [e0 a]) o0) (h1 : Rd en P w base spare held f1.type (fun a => [e1 a]) o1) (h2 : Rd en P w base spare held f2.type (fun a => [e2 a]) o2) :
    Rd en P w base spare held t (fun a : α0 × α1 × α2 => [e0 a.1, e1 a.2.1, e2 a.2.2]) (fun a => o0 a.1 ∧ o1 a.2.1 ∧ o2 a.2.2) := fun fuel cs x hx => by
  subst hfs
  obtain ⟨xs, n, _, _, hl, hxl, hget⟩ := DataW.trod_struct ht hx
  rw [hn] at hl
  have hxl : xs.length = 3 := hxl
  match cs, hl with
  | [v0, v1, v2], _ =>
  match xs, hxl with
  | [x0, x1, x2], _ =>
  have q0 := hget 0 f0 rfl
  have q1 := hget 1 f1 rfl
  have q2 := hget 2 f2 rfl
  rw [g0, c0] at q0
  rw [g1, c1] at q1
  rw [g2, c2] at q2
  obtain ⟨a0, k0, r0⟩ := h0 n _ x0 q0
  obtain ⟨a1, k1, r1⟩ := h1 n _ x1 q1
  obtain ⟨a2, k2, r2⟩ := h2 n _ x2 q2
  refine ⟨(a0, a1, a2), ⟨k0, k1, k2⟩, rfl, fun i c p hc hp => ?_⟩
  match i with
  | 0 => simp at hc hp; subst hc hp; exact r0.2 0 _ _ rfl rfl
  | 1 => simp at hc hp; subst hc hp; exact r1.2 0 _ _ rfl rfl
  | 2 => simp at hc hp; subst hc hp; exact r2.2 0 _ _ rfl rfl
  | i + 3 => simp at hc
/-- A struct of 4 fields of one cell each. -/
theorem Rd.struct4 {t : TypeId} {fs : Array Field} {f0 f1 f2 f3 : Field} {α0 α1 α2 α3 : Type} {e0 : α0 → PV} {e1 : α1 → PV} {e2 : α2 → PV} {e3 : α3 → PV} {o0 : α0 → Prop} {o1 : α1 → Prop} {o2 : α2 → Prop} {o3 : α3 → Prop}
    (ht : P.underlying t = some (.struct fs)) (hfs : fs = #[f0, f1, f2, f3]) (hn : P.cellsOf t = 4)
    (g0 : f0.offset = 0) (g1 : f1.offset = 1) (g2 : f2.offset = 2) (g3 : f3.offset = 3)
    (c0 : P.cellsOf f0.type = 1) (c1 : P.cellsOf f1.type = 1) (c2 : P.cellsOf f2.type = 1) (c3 : P.cellsOf f3.type = 1)
    (h0 : Rd en P w base spare held f0.type (fun a => [e0 a]) o0) (h1 : Rd en P w base spare held f1.type (fun a => [e1 a]) o1) (h2 : Rd en P w base spare held f2.type (fun a => [e2 a]) o2) (h3 : Rd en P w base spare held f3.type (fun a => [e3 a]) o3) :
    Rd en P w base spare held t (fun a : α0 × α1 × α2 × α3 => [e0 a.1, e1 a.2.1, e2 a.2.2.1, e3 a.2.2.2]) (fun a => o0 a.1 ∧ o1 a.2.1 ∧ o2 a.2.2.1 ∧ o3 a.2.2.2) := fun fuel cs x hx => by
  subst hfs
  obtain ⟨xs, n, _, _, hl, hxl, hget⟩ := DataW.trod_struct ht hx
  rw [hn] at hl
  have hxl : xs.length = 4 := hxl
  match cs, hl with
  | [v0, v1, v2, v3], _ =>
  match xs, hxl with
  | [x0, x1, x2, x3], _ =>
  have q0 := hget 0 f0 rfl
  have q1 := hget 1 f1 rfl
  have q2 := hget 2 f2 rfl
  have q3 := hget 3 f3 rfl
  rw [g0, c0] at q0
  rw [g1, c1] at q1
  rw [g2, c2] at q2
  rw [g3, c3] at q3
  obtain ⟨a0, k0, r0⟩ := h0 n _ x0 q0
  obtain ⟨a1, k1, r1⟩ := h1 n _ x1 q1
  obtain ⟨a2, k2, r2⟩ := h2 n _ x2 q2
  obtain ⟨a3, k3, r3⟩ := h3 n _ x3 q3
  refine ⟨(a0, a1, a2, a3), ⟨k0, k1, k2, k3⟩, rfl, fun i c p hc hp => ?_⟩
  match i with
  | 0 => simp at hc hp; subst hc hp; exact r0.2 0 _ _ rfl rfl
  | 1 => simp at hc hp; subst hc hp; exact r1.2 0 _ _ rfl rfl
  | 2 => simp at hc hp; subst hc hp; exact r2.2 0 _ _ rfl rfl
  | 3 => simp at hc hp; subst hc hp; exact r3.2 0 _ _ rfl rfl
  | i + 4 => simp at hc
/-- A struct of 5 fields of one cell each. -/
theorem Rd.struct5 {t : TypeId} {fs : Array Field} {f0 f1 f2 f3 f4 : Field} {α0 α1 α2 α3 α4 : Type} {e0 : α0 → PV} {e1 : α1 → PV} {e2 : α2 → PV} {e3 : α3 → PV} {e4 : α4 → PV} {o0 : α0 → Prop} {o1 : α1 → Prop} {o2 : α2 → Prop} {o3 : α3 → Prop} {o4 : α4 → Prop}
    (ht : P.underlying t = some (.struct fs)) (hfs : fs = #[f0, f1, f2, f3, f4]) (hn : P.cellsOf t = 5)
    (g0 : f0.offset = 0) (g1 : f1.offset = 1) (g2 : f2.offset = 2) (g3 : f3.offset = 3) (g4 : f4.offset = 4)
    (c0 : P.cellsOf f0.type = 1) (c1 : P.cellsOf f1.type = 1) (c2 : P.cellsOf f2.type = 1) (c3 : P.cellsOf f3.type = 1) (c4 : P.cellsOf f4.type = 1)
    (h0 : Rd en P w base spare held f0.type (fun a => [e0 a]) o0) (h1 : Rd en P w base spare held f1.type (fun a => [e1 a]) o1) (h2 : Rd en P w base spare held f2.type (fun a => [e2 a]) o2) (h3 : Rd en P w base spare held f3.type (fun a => [e3 a]) o3) (h4 : Rd en P w base spare held f4.type (fun a => [e4 a]) o4) :
    Rd en P w base spare held t (fun a : α0 × α1 × α2 × α3 × α4 => [e0 a.1, e1 a.2.1, e2 a.2.2.1, e3 a.2.2.2.1, e4 a.2.2.2.2]) (fun a => o0 a.1 ∧ o1 a.2.1 ∧ o2 a.2.2.1 ∧ o3 a.2.2.2.1 ∧ o4 a.2.2.2.2) := fun fuel cs x hx => by
  subst hfs
  obtain ⟨xs, n, _, _, hl, hxl, hget⟩ := DataW.trod_struct ht hx
  rw [hn] at hl
  have hxl : xs.length = 5 := hxl
  match cs, hl with
  | [v0, v1, v2, v3, v4], _ =>
  match xs, hxl with
  | [x0, x1, x2, x3, x4], _ =>
  have q0 := hget 0 f0 rfl
  have q1 := hget 1 f1 rfl
  have q2 := hget 2 f2 rfl
  have q3 := hget 3 f3 rfl
  have q4 := hget 4 f4 rfl
  rw [g0, c0] at q0
  rw [g1, c1] at q1
  rw [g2, c2] at q2
  rw [g3, c3] at q3
  rw [g4, c4] at q4
  obtain ⟨a0, k0, r0⟩ := h0 n _ x0 q0
  obtain ⟨a1, k1, r1⟩ := h1 n _ x1 q1
  obtain ⟨a2, k2, r2⟩ := h2 n _ x2 q2
  obtain ⟨a3, k3, r3⟩ := h3 n _ x3 q3
  obtain ⟨a4, k4, r4⟩ := h4 n _ x4 q4
  refine ⟨(a0, a1, a2, a3, a4), ⟨k0, k1, k2, k3, k4⟩, rfl, fun i c p hc hp => ?_⟩
  match i with
  | 0 => simp at hc hp; subst hc hp; exact r0.2 0 _ _ rfl rfl
  | 1 => simp at hc hp; subst hc hp; exact r1.2 0 _ _ rfl rfl
  | 2 => simp at hc hp; subst hc hp; exact r2.2 0 _ _ rfl rfl
  | 3 => simp at hc hp; subst hc hp; exact r3.2 0 _ _ rfl rfl
  | 4 => simp at hc hp; subst hc hp; exact r4.2 0 _ _ rfl rfl
  | i + 5 => simp at hc
/-- A value of one cell, as an argument. -/
theorem CellsRep.arg {v : Value} {p : PV} (h1 : v.oneCell' = true) (h : CellsRep w v.cells.toList [p]) : RepA (memCells w) v p := by
  have e : v.cells = #[v] := by cases v <;> first | rfl | simp [Value.oneCell'] at h1
  rw [e] at h
  exact .frz (h.2 0 v p rfl rfl)
theorem CellsRep.aggr {vs : Array Value} {ps : List PV} (h : CellsRep w vs.toList ps) : RepA (memCells w) (.agg vs) (.agg ps) :=
  .agg (by simpa using h.1) (fun i v p hv hp => .frz (h.2 i v p (by simpa using hv) hp)) (fun i v hv => by
    have hi : i < ps.length := by
      have := (Array.getElem?_eq_some_iff.1 hv).1
      have h1 := h.1
      simp at h1
      omega
    exact (h.2 i v _ (by simpa using hv) (List.getElem?_eq_getElem hi)).one)
end
end Go.Pw
