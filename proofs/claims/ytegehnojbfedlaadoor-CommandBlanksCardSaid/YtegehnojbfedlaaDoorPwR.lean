/-
  From a function's contract to a walk.
-/
import Derived.Test.YtegehnojbfedlaaDoorPwS
namespace Go.Pw
open Go Go.RowKit
set_option linter.unusedVariables false
set_option linter.unusedSimpArgs false
/-- No cell is told; the arguments are plain. -/
theorem Ok.walk {P : Program} {f : FuncId} {args : List PV} {r : Value} (h : Ok P f args (.val r)) (S : Cells) (w : World) (vals : Array Value) (hk : Known w) (hS : Stable S w) (hn : vals.size = args.length)
    (ha : ∀ (i : Nat) (v : Value) (p : PV), vals[i]? = some v → args[i]? = some p → RepA S v p) : Calls P f vals w fun e w' => e = .returned r ∧ Below w.heap.size w w' := by
  refine Calls.mono (h.2 S w vals hk hS hn ha) ?_
  rintro e w' ⟨v, S', rfl, _, _, _, hr, hb⟩
  obtain ⟨rfl, _⟩ := rep_val hr
  exact ⟨rfl, hb⟩
def noCells : Cells := fun _ _ => none
theorem noCells_stable (w : World) : Stable noCells w := fun b o v h => by cases h
/-- All arguments are values of one cell. -/
theorem Ok.walk_vals {P : Program} {f : FuncId} {l : List Value} {r : Value} (h : Ok P f (l.map .val) (.val r)) (hl : l.all (·.oneCell') = true) (w : World) (hk : Known w) : Calls P f l.toArray w fun e w' => e = .returned r ∧ Below w.heap.size w w' := by
  refine h.walk noCells w l.toArray hk (noCells_stable w) (by simp) (fun i v p hv hp => ?_)
  have h1 : l[i]? = some v := by simpa using hv
  rw [List.getElem?_map, h1] at hp
  obtain rfl := Option.some.inj hp
  exact .frz (.val (List.all_eq_true.1 hl v (List.mem_of_getElem? h1)))
/-- All of a memory's cells. -/
def memCells (w : World) : Cells := fun b o => w.cell? ⟨b, o, none⟩
theorem memCells_stable (w : World) : Stable (memCells w) w := fun b o v h => h
def Reps (S : Cells) : List Value → List PV → Prop
  | [], [] => True
  | v :: vs, p :: ps => RepA S v p ∧ Reps S vs ps
  | _, _ => False
theorem Reps.len {S : Cells} : ∀ {vs : List Value} {ps : List PV}, Reps S vs ps → vs.length = ps.length
  | [], [], _ => rfl
  | _ :: _, _ :: _, h => by simp [Reps.len h.2]
  | [], _ :: _, h => h.elim
  | _ :: _, [], h => h.elim
theorem Reps.get {S : Cells} : ∀ {vs : List Value} {ps : List PV}, Reps S vs ps → ∀ (i : Nat) (v : Value) (p : PV), vs[i]? = some v → ps[i]? = some p → RepA S v p
  | [], [], _, i, v, p, hv, _ => by simp at hv
  | v0 :: vs, p0 :: ps, h, 0, v, p, hv, hp => by
    simp at hv hp
    subst hv hp
    exact h.1
  | _ :: vs, _ :: ps, h, i + 1, v, p, hv, hp => Reps.get h.2 i v p (by simpa using hv) (by simpa using hp)
  | [], _ :: _, h, _, _, _, _, _ => h.elim
  | _ :: _, [], h, _, _, _, _, _ => h.elim
theorem Ok.walk_reps {P : Program} {f : FuncId} {args : List PV} {r : Value} (h : Ok P f args (.val r)) (w : World) (hk : Known w) (vals : List Value) (hr : Reps (memCells w) vals args) :
    Calls P f vals.toArray w fun e w' => e = .returned r ∧ Below w.heap.size w w' :=
  h.walk (memCells w) w vals.toArray hk (memCells_stable w) (by simp [hr.len]) (fun i v p hv hp => hr.get i v p (by simpa using hv) hp)
theorem repA_one {S : Cells} {v : Value} (h : v.oneCell' = true) : RepA S v (.val v) := .frz (.val h)
/-- A slice of numbers that lies in memory. -/
theorem repA_ints {w : World} {k : IntKind} {a : Addr} {len cap : Nat} {zs : List Int} (hl : len ≤ cap) (hz : zs.length = cap) (hc : ∀ i, i < zs.length → w.cell? (a.add i) = some (.int k (zs.getD i 0))) :
    RepA (memCells w) (.slice (some a) len cap) (.sl ((zs.take len).map fun n => [.val (.int k n)])) := by
  refine .frz (.sl (sz := 1) (fun j _ => .int k (zs.getD j 0)) (by simp [hz]; omega) hl (fun x hx => ?_) (fun h0 => ?_) (fun j i x p hx hp => ?_))
  · obtain ⟨n, _, rfl⟩ := List.mem_map.1 hx
    rfl
  · have h1 := hc 0 (by omega)
    have hs : a.spot = none := by
      have e0 : a.add 0 = a := by simp [Addr.add]
      rw [e0] at h1
      unfold World.cell? at h1
      split at h1
      · split at h1
        · cases h1
        · rename_i hn
          cases hsp : a.spot with
          | none => rfl
          | some x => rw [hsp] at hn; simp at hn
      · cases h1
    refine ⟨a.block, a.off, by cases a; simp at hs; subst hs; rfl, fun j i hj hi => ?_⟩
    have h2 := hc j (by omega)
    have e : a.add j = ⟨a.block, a.off + (j * 1 + i), none⟩ := by
      have hi0 : i = 0 := by omega
      subst hi0
      unfold Addr.add
      split
      · rename_i hj0; subst hj0; cases a; simp at hs; subst hs; simp
      · simp
    rw [e] at h2
    exact h2
  · rw [List.getElem?_map] at hx
    cases hj : (zs.take len)[j]? with
    | none => rw [hj] at hx; cases hx
    | some n =>
      rw [hj] at hx
      obtain rfl := Option.some.inj hx
      have hn : zs.getD j 0 = n := by
        rw [List.getElem?_take] at hj
        split at hj
        · rw [List.getD_eq_getElem?_getD, hj]; rfl
        · cases hj
      cases i with
      | zero =>
        simp at hp
        subst hp
        rw [hn]
        exact .val rfl
      | succ i => simp at hp
theorem repA_nil {S : Cells} : RepA S (.slice none 0 0) (.sl []) :=
  .frz (.sl (sz := 1) (fun _ _ => .nilIface) rfl (Nat.le_refl _) (fun x hx => by cases hx) (fun h => absurd h (Nat.lt_irrefl _)) (fun j i x p hx => by simp at hx))
end Go.Pw
