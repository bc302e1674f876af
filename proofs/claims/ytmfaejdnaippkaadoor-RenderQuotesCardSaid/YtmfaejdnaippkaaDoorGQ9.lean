/-
  Contracts and plain laws on the way to the statement; each says its own conditions.
-/
import Derived.Test.YtmfaejdnaippkaaDoorGQ8
import Derived.Test.YtmfaejdnaippkaaDoorGQ4
import Derived.Lib.Builder
section
/-
  slices.Insert of one element, out of its four roads: where the new row lies, what it holds, and that no other block has turned.
-/
open Go Go.Proofs Go.RowKit Go.Lib Go.Pw
namespace Go.Proofs.YtmfaejdnaippkaaDoor
set_option maxRecDepth 4000
set_option linter.unusedVariables false
set_option linter.unusedSimpArgs false
def setL : Nat → List Value → Array Value → Array Value
  | _, [], us => us
  | o, v :: r, us => setL (o + 1) r (us.setIfInBounds o v)
theorem setL_size : ∀ (vs : List Value) (o : Nat) (us : Array Value), (setL o vs us).size = us.size
  | [], _, _ => rfl
  | v :: r, o, us => by rw [setL, setL_size r]; simp
theorem setL_out : ∀ (vs : List Value) (o : Nat) (us : Array Value) (j : Nat), (j < o ∨ o + vs.length ≤ j) → (setL o vs us)[j]? = us[j]?
  | [], _, _, _, _ => rfl
  | v :: r, o, us, j, h => by
    rw [setL, setL_out r (o + 1) _ j (by simp at h; omega), Array.getElem?_setIfInBounds_ne (by simp at h; omega)]
theorem setL_in : ∀ (vs : List Value) (o : Nat) (us : Array Value) (j : Nat), j < vs.length → o + j < us.size → (setL o vs us)[o + j]? = vs[j]?
  | [], _, _, j, h, _ => by simp at h
  | v :: r, o, us, 0, h, h' => by
    rw [setL, setL_out r (o + 1) _ _ (by omega)]
    simp at h' ⊢
    simp [h']
  | v :: r, o, us, j + 1, h, h' => by
    have := setL_in r (o + 1) (us.setIfInBounds o v) j (by simp at h; omega) (by simp; omega)
    rw [setL, show o + (j + 1) = o + 1 + j by omega, this]
    rfl
theorem setL_one {vs : List Value} (hv : ∀ v ∈ vs, v.oneCell' = true) : ∀ (o : Nat) (us : Array Value), (∀ (j : Nat) (u : Value), us[j]? = some u → u.oneCell' = true) → ∀ (j : Nat) (u : Value), (setL o vs us)[j]? = some u → u.oneCell' = true := by
  induction vs with
  | nil => exact fun o us h => h
  | cons v r ih =>
    intro o us h
    rw [setL]
    refine ih (fun x hx => hv x (by simp [hx])) (o + 1) _ (fun j u hu => ?_)
    by_cases e : o = j
    · subst e
      by_cases hl : o < us.size
      · rw [Array.getElem?_setIfInBounds_self_of_lt hl] at hu
        obtain rfl := Option.some.inj hu
        exact hv _ (by simp)
      · rw [Array.getElem?_eq_none (by simpa using hl)] at hu; cases hu
    · rw [Array.getElem?_setIfInBounds_ne e] at hu
      exact h j u hu
theorem heap_setCells {b : Nat} {E : TypeId} {f : Nat × Nat} : ∀ (vs : List Value) (o : Nat) (w : World) (us : Array Value), w.heap[b]? = some (.cells us E f) → (w.setCells b o vs).heap[b]? = some (.cells (setL o vs us) E f)
  | [], _, _, _, h => h
  | v :: r, o, w, us, h => by
    rw [World.setCells, setL]
    refine heap_setCells r (o + 1) _ _ ?_
    unfold World.setCell
    simp [Array.getElem?_modify, h]
theorem size_setCells_ {b : Nat} : ∀ (vs : List Value) (o : Nat) (w : World), (w.setCells b o vs).heap.size = w.heap.size
  | [], _, _ => rfl
  | v :: r, o, w => by rw [World.setCells, size_setCells_ r]; simp [World.setCell]
theorem other_setCells_ {b k : Nat} (h : k ≠ b) : ∀ (vs : List Value) (o : Nat) (w : World), (w.setCells b o vs).heap[k]? = w.heap[k]?
  | [], _, _ => rfl
  | v :: r, o, w => by
    rw [World.setCells, other_setCells_ h r]
    simp [World.setCell, Array.getElem?_modify, Ne.symm h]
theorem rest_setCells_ {b : Nat} : ∀ (vs : List Value) (o : Nat) (w : World), (w.setCells b o vs).os = w.os ∧ (w.setCells b o vs).tape = w.tape ∧ (w.setCells b o vs).output = w.output
  | [], _, _ => ⟨rfl, rfl, rfl⟩
  | v :: r, o, w => rest_setCells_ r (o + 1) (w.setCell ⟨b, o, none⟩ v)

/-- The four roads, at one element. -/
structure Roads (P : Program) (F : FuncId) (E : TypeId) (sz by_ : Nat) (z : Value) : Prop where
  shift : ∀ (b n c i vb vc : Nat) (cs vs : List Value) (w : World), i < n → n + 1 ≤ c → c ≤ 9223372036854775807 → vb ≠ b → cs.length = n * sz → vs.length = sz →
    (∀ j v, cs[j]? = some v → w.cell? ⟨b, 0 + j, none⟩ = some v) → (∀ j, j < (n + 1) * sz → (w.cell? ⟨b, 0 + j, none⟩).isSome = true) → (∀ j, j < (n + 1) * sz → w.frozen? ⟨b, 0 + j, none⟩ = false) →
    (∀ j v, vs[j]? = some v → w.cell? ⟨vb, 0 + j, none⟩ = some v) → (∀ v ∈ cs, v.oneCell' = true) → (∀ v ∈ vs, v.oneCell' = true) →
    ∀ (tA tB : TypeId) (kA kB : Nat), w.shape? vb = some (tA, kA) → w.shape? b = some (tB, kB) → kB ≠ 0 → w.frozen? ⟨vb, 0, none⟩ = false → w.frozen? ⟨vb, kA, none⟩ = false →
    Calls P F #[.slice (some ⟨b, 0, none⟩) n c, .int .i64 i, .slice (some ⟨vb, 0, none⟩) 1 vc] w fun e w' =>
      e = .returned (.slice (some ⟨b, 0, none⟩) (n + 1) c) ∧ w' = (w.drew.setCells b (0 + (i + 1) * sz) (cs.drop (i * sz))).setCells b (0 + i * sz) vs
  end_room : ∀ (b n c vb vc : Nat) (vs : List Value) (w : World), n + 1 ≤ c → c ≤ 9223372036854775807 → vs.length = sz → (∀ j, j < sz → (w.cell? ⟨b, 0 + n * sz + j, none⟩).isSome = true) → (∀ j, j < sz → w.frozen? ⟨b, 0 + n * sz + j, none⟩ = false) →
    (∀ j v, vs[j]? = some v → w.cell? ⟨vb, 0 + j, none⟩ = some v) → (∀ v ∈ vs, v.oneCell' = true) →
    Calls P F #[.slice (some ⟨b, 0, none⟩) n c, .int .i64 n, .slice (some ⟨vb, 0, none⟩) 1 vc] w fun e w' =>
      e = .returned (.slice (some ⟨b, 0, none⟩) (n + 1) c) ∧ w' = w.setCells b (0 + n * sz) vs
  end_grow : ∀ (base : Option Addr) (n c vb vc : Nat) (cs vs : List Value) (w : World), n ≤ c → c < n + 1 → (n + 1) * by_ ≤ 140737488355328 → cs.length = n * sz → vs.length = sz → (base = none → n = 0) →
    (∀ a, base = some a → ∀ j v, cs[j]? = some v → w.cell? (a.add j) = some v) → (∀ j v, vs[j]? = some v → w.cell? ⟨vb, 0 + j, none⟩ = some v) → (∀ v ∈ vs, v.oneCell' = true) →
    Calls P F #[.slice base n c, .int .i64 n, .slice (some ⟨vb, 0, none⟩) 1 vc] w fun e w' =>
      e = .returned (.slice (some ⟨w.heap.size, 0, none⟩) (n + 1) (grownCap w (n + 1) c E)) ∧
      w' = w.drew.alloc (.cells ((cs ++ vs).toArray ++ Builtin.zeroCells z.cells (grownCap w (n + 1) c E - (n + 1))) E)
  grow : ∀ (b n c i vb vc : Nat) (cs vs : List Value) (w : World), i < n → n ≤ c → c < n + 1 → (n + 1) * by_ ≤ 140737488355328 → cs.length = n * sz → vs.length = sz →
    (∀ j v, cs[j]? = some v → w.cell? ⟨b, 0 + j, none⟩ = some v) → (∀ j v, vs[j]? = some v → w.cell? ⟨vb, 0 + j, none⟩ = some v) → (∀ v ∈ cs, v.oneCell' = true) → (∀ v ∈ vs, v.oneCell' = true) →
    Calls P F #[.slice (some ⟨b, 0, none⟩) n c, .int .i64 i, .slice (some ⟨vb, 0, none⟩) 1 vc] w fun e w' =>
      e = .returned (.slice (some ⟨w.heap.size, 0, none⟩) (n + 1) (grownCap w (n + 1) c E)) ∧
      w' = (((w.alloc (.cells ((cs.take (i * sz)).toArray ++ Builtin.zeroCells z.cells (n + 1 - i) ++ Builtin.zeroCells z.cells (grownCap w (n + 1) c E - (n + 1))) E)).drew.setCells w.heap.size (i * sz) vs).drew).setCells w.heap.size ((i + 1) * sz) (cs.drop (i * sz))
theorem insS_roads : Roads Tryd.prog 33 9 1 16 (.string ⟨#[]⟩) := by
  refine ⟨fun b n c i vb vc cs vs w h1 h2 h3 h4 h5 h6 h7 h8 h9 h10 h11 h12 tA tB kA kB h13 h14 h15 h16 h17 => ?_, fun b n c vb vc vs w h1 h2 h3 h4 h5 h6 h7 => ?_, fun base n c vb vc cs vs w h1 h2 h3 h4 h5 h6 h7 h8 h9 => ?_, fun b n c i vb vc cs vs w h1 h2 h3 h4 h5 h6 h7 h8 h9 h10 => ?_⟩ <;> (try simp only [Nat.mul_one] at *)
  · exact insS_shift b 0 n c i vb 0 1 vc cs vs w h1 (by omega) h2 h3 h4 h5 h6 h7 h8 h9 h10 h11 h12 tA tB kA kB h13 h14 h15 h16 h17
  · exact insS_end_room b 0 n c vb 0 1 vc vs w (by omega) h1 h2 h3 h4 h5 h6 h7
  · exact insS_end_grow base n c vb 0 1 vc cs vs w (by omega) h1 h2 (by omega) h4 h5 h6 h7 h8 h9
  · exact insS_grow b 0 n c i vb 0 1 vc cs vs w h1 (by omega) h2 h3 (by omega) h5 h6 h7 h8 h9 h10
theorem insV_roads : Roads Tryd.prog 34 29 6 88 (.agg #[.int .i64 0, .bool false, .int .i64 0, .string ⟨#[]⟩, .slice none 0 0, .slice none 0 0]) := by
  refine ⟨fun b n c i vb vc cs vs w h1 h2 h3 h4 h5 h6 h7 h8 h9 h10 h11 h12 tA tB kA kB h13 h14 h15 h16 h17 => ?_, fun b n c vb vc vs w h1 h2 h3 h4 h5 h6 h7 => ?_, fun base n c vb vc cs vs w h1 h2 h3 h4 h5 h6 h7 h8 h9 => ?_, fun b n c i vb vc cs vs w h1 h2 h3 h4 h5 h6 h7 h8 h9 h10 => ?_⟩
  · exact insV_shift b 0 n c i vb 0 1 vc cs vs w h1 (by omega) h2 h3 h4 h5 (by omega) h7 h8 h9 h10 h11 h12 tA tB kA kB h13 h14 h15 h16 h17
  · exact insV_end_room b 0 n c vb 0 1 vc vs w (by omega) h1 h2 (by omega) h4 h5 h6 h7
  · exact insV_end_grow base n c vb 0 1 vc cs vs w (by omega) h1 h2 (by omega) h4 (by omega) h6 h7 h8 h9
  · exact insV_grow b 0 n c i vb 0 1 vc cs vs w h1 (by omega) h2 h3 (by omega) h5 (by omega) h7 h8 h9 h10

/-- What Insert leaves. -/
structure InsDid (E : TypeId) (sz : Nat) (w : World) (base : Option Nat) (n i : Nat) (us uv : Array Value) (b' c' : Nat) (us' : Array Value) (w' : World) : Prop where
  room : n + 1 ≤ c'
  small : c' ≤ maxLen
  row : w'.heap[b']? = some (.cells us' E (0, 0))
  size : us'.size = c' * sz
  front : ∀ j, j < i * sz → us'[j]? = us[j]?
  mid : ∀ j, j < sz → us'[i * sz + j]? = uv[j]?
  back : ∀ j, i * sz ≤ j → j < n * sz → us'[j + sz]? = us[j]?
  one : ∀ (j : Nat) (u : Value), us'[j]? = some u → u.oneCell' = true
  place : base = some b' ∨ b' = w.heap.size
  os : w'.os = w.os
  tape : w'.tape = w.tape
  output : w'.output = w.output
  grew : w.heap.size ≤ w'.heap.size
  other : ∀ k, k < w.heap.size → base ≠ some k → w'.heap[k]? = w.heap[k]?
theorem zero_one {z : Value} (hz : ∀ u ∈ z.cells.toList, u.oneCell' = true) (n : Nat) : ∀ (j : Nat) (u : Value), (Builtin.zeroCells z.cells n)[j]? = some u → u.oneCell' = true := by
  intro j u h
  have hm : u ∈ (Builtin.zeroCells z.cells n) := Array.mem_of_getElem? h
  unfold Builtin.zeroCells at hm
  obtain ⟨i, hi, rfl⟩ := Array.mem_map.1 hm
  have hi : i < n * z.cells.size := Array.mem_range.1 hi
  have hp : 0 < z.cells.size := by
    rcases Nat.eq_zero_or_pos z.cells.size with h | h
    · rw [h] at hi; simp at hi
    · exact h
  have hl : i % z.cells.size < z.cells.size := Nat.mod_lt _ hp
  rw [getElem!_pos z.cells _ hl]
  exact hz _ (by simp)
theorem zero_size {z : Value} {sz : Nat} (hz : z.cells.size = sz) (n : Nat) : (Builtin.zeroCells z.cells n).size = n * sz := by
  unfold Builtin.zeroCells
  simp [hz]
set_option maxHeartbeats 1000000 in
theorem Roads.ins {P : Program} {F : FuncId} {E : TypeId} {sz by_ : Nat} {z : Value} (R : Roads P F E sz by_ z) (hzs : z.cells.size = sz) (hz1 : ∀ u ∈ z.cells.toList, u.oneCell' = true) (hsz : 0 < sz) (w : World) (base : Option Nat) (n c i vb vc : Nat) (us uv : Array Value)
    (hi : i ≤ n) (hn : n ≤ c) (hc : c ≤ maxLen) (hbig : (n + 1) * by_ ≤ 140737488355328) (hn63 : n + 1 ≤ maxLen) (hus : us.size = c * sz) (hnone : base = none → c = 0) (hb : ∀ b, base = some b → w.heap[b]? = some (.cells us E (0, 0)) ∧ vb ≠ b)
    (h1 : ∀ (j : Nat) (u : Value), us[j]? = some u → u.oneCell' = true) (hv : 1 ≤ vc) (hvb : w.heap[vb]? = some (.cells uv E (0, 0))) (hvs : uv.size = vc * sz) (hv1 : ∀ (j : Nat) (u : Value), j < sz → uv[j]? = some u → u.oneCell' = true) :
    Calls P F #[.slice (base.map fun b => ⟨b, 0, none⟩) n c, .int .i64 i, .slice (some ⟨vb, 0, none⟩) 1 vc] w fun e w' => ∃ b' c' us', e = .returned (.slice (some ⟨b', 0, none⟩) (n + 1) c') ∧ InsDid E sz w base n i us uv b' c' us' w' := by
  have hsv : sz ≤ uv.size := by rw [hvs]; exact Nat.le_mul_of_pos_left sz hv
  have hnz : n * sz ≤ us.size := by rw [hus]; exact Nat.mul_le_mul_right _ hn
  have hiz : i * sz ≤ n * sz := Nat.mul_le_mul_right _ hi
  have hn1 : (n + 1) * sz = n * sz + sz := Nat.succ_mul _ _
  have hi1 : (i + 1) * sz = i * sz + sz := Nat.succ_mul _ _
  have hcl : (us.toList.take (n * sz)).length = n * sz := by rw [List.length_take]; simp; omega
  have hvl : (uv.toList.take sz).length = sz := by rw [List.length_take]; simp; omega
  have hcget : ∀ j v, (us.toList.take (n * sz))[j]? = some v → us[j]? = some v := fun j v h => by
    rw [List.getElem?_take] at h
    split at h
    · simpa using h
    · cases h
  have hvget : ∀ j v, (uv.toList.take sz)[j]? = some v → uv[j]? = some v := fun j v h => by
    rw [List.getElem?_take] at h
    split at h
    · simpa using h
    · cases h
  have hcone : ∀ v ∈ us.toList.take (n * sz), v.oneCell' = true := fun v hv => by
    obtain ⟨j, hj⟩ := List.mem_iff_getElem?.1 hv
    exact h1 j v (hcget j v hj)
  have hvone : ∀ v ∈ uv.toList.take sz, v.oneCell' = true := fun v hv => by
    obtain ⟨j, hj⟩ := List.mem_iff_getElem?.1 hv
    exact hv1 j v (by have := (List.getElem?_eq_some_iff.1 hj).1; rw [hvl] at this; exact this) (hvget j v hj)
  have hvcell : ∀ j v, (uv.toList.take sz)[j]? = some v → w.cell? ⟨vb, 0 + j, none⟩ = some v := fun j v h => by
    rw [Nat.zero_add, Lib.cell_of_heap hvb]; exact hvget j v h
  have hvbl : vb < w.heap.size := (Array.getElem?_eq_some_iff.1 hvb).1
  have hmax : maxLen = 9223372036854775807 := rfl
  have hget : ∀ j, j < sz → (uv.toList.take sz)[j]? = uv[j]? := fun j hj => by rw [List.getElem?_take, if_pos hj]; simp
  cases base with
  | none =>
    have hc0 := hnone rfl
    subst hc0
    have hn0 : n = 0 := by omega
    subst hn0
    have hi0 : i = 0 := by omega
    subst hi0
    refine (R.end_grow none 0 0 vb vc (us.toList.take (0 * sz)) (uv.toList.take sz) w (Nat.le_refl _) (by omega) hbig hcl hvl (fun _ => rfl) (fun a ha => by cases ha) hvcell hvone).mono ?_
    rintro e w' ⟨rfl, rfl⟩
    have hg := grownCap_ge w (0 + 1) 0 E
    have hgm := grownCap_le_maxLen w (0 + 1) 0 E (by omega)
    refine ⟨w.heap.size, _, _, rfl, hg, hgm, heap_alloc_at (w := w.drew) _, ?_, fun j hj => by omega, fun j hj => ?_, fun j _ hj => by omega, fun j u hu => ?_, .inr rfl, rfl, rfl, rfl, (by show w.heap.size ≤ (w.heap.push _).size; simp), fun k hk _ => ?_⟩
    · simp only [Array.size_append, List.size_toArray, List.length_append, hcl, hvl, zero_size hzs]
      rw [← hn1, ← Nat.add_mul]
      congr 1
      omega
    · rw [Array.getElem?_append_left (by simp [hcl, hvl]; omega), ← hget j hj]
      simp
    · rw [Array.getElem?_append] at hu
      split at hu
      · have : u ∈ us.toList.take (0 * sz) ++ uv.toList.take sz := List.mem_of_getElem? (by simpa using hu)
        rcases List.mem_append.1 this with h | h
        · exact hcone u h
        · exact hvone u h
      · exact zero_one hz1 _ _ u hu
    · show (w.heap.push _)[k]? = _
      rw [Array.getElem?_push, if_neg (by omega)]
  | some b =>
    obtain ⟨hbw, hne⟩ := hb b rfl
    have hbl : b < w.heap.size := (Array.getElem?_eq_some_iff.1 hbw).1
    have hccell : ∀ j v, (us.toList.take (n * sz))[j]? = some v → w.cell? ⟨b, 0 + j, none⟩ = some v := fun j v h => by
      rw [Nat.zero_add, Lib.cell_of_heap hbw]; exact hcget j v h
    have hsome : ∀ j, j < us.size → (w.cell? ⟨b, j, none⟩).isSome = true := fun j hj => by
      rw [Lib.cell_of_heap hbw, Array.getElem?_eq_getElem hj]; rfl
    have hfz : ∀ j, w.frozen? ⟨b, j, none⟩ = false := fun j => by simp [World.frozen?, hbw]
    have hfv : ∀ j, w.frozen? ⟨vb, j, none⟩ = false := fun j => by simp [World.frozen?, hvb]
    by_cases hroom : n + 1 ≤ c
    · have hrz : (n + 1) * sz ≤ us.size := by rw [hus]; exact Nat.mul_le_mul_right _ hroom
      by_cases hin : i < n
      · refine (R.shift b n c i vb vc (us.toList.take (n * sz)) (uv.toList.take sz) w hin hroom (by omega) hne hcl hvl hccell (fun j hj => by rw [Nat.zero_add]; exact hsome j (by omega)) (fun j _ => hfz _) hvcell hcone hvone E E uv.size us.size
          (by simp [World.shape?, hvb]) (by simp [World.shape?, hbw]) (by omega) (hfv _) (hfv _)).mono ?_
        rintro e w' ⟨rfl, rfl⟩
        simp only [Nat.zero_add]
        have hdl : ((us.toList.take (n * sz)).drop (i * sz)).length = n * sz - i * sz := by rw [List.length_drop, hcl]
        have hw1 := heap_setCells (b := b) (E := E) (f := (0, 0)) ((us.toList.take (n * sz)).drop (i * sz)) ((i + 1) * sz) w.drew us hbw
        have hw2 := heap_setCells (uv.toList.take sz) (i * sz) _ _ hw1
        have r1 := rest_setCells_ (b := b) (uv.toList.take sz) (i * sz) (w.drew.setCells b ((i + 1) * sz) ((us.toList.take (n * sz)).drop (i * sz)))
        have r2 := rest_setCells_ (b := b) ((us.toList.take (n * sz)).drop (i * sz)) ((i + 1) * sz) w.drew
        refine ⟨b, c, _, rfl, hroom, hc, hw2, by rw [setL_size, setL_size, hus], fun j hj => ?_, fun j hj => ?_, fun j hj hj' => ?_, setL_one hvone _ _ (setL_one (fun v hv => hcone v (List.mem_of_mem_drop hv)) _ _ h1), .inl rfl, r1.1.trans r2.1, r1.2.1.trans r2.2.1, r1.2.2.trans r2.2.2, by rw [size_setCells_, size_setCells_]; exact Nat.le_refl _, fun k hk hkb => ?_⟩
        · rw [setL_out _ _ _ _ (by omega), setL_out _ _ _ _ (by omega)]
        · rw [setL_in _ _ _ _ (by omega) (by rw [setL_size]; omega), hget j hj]
        · rw [setL_out _ _ _ _ (by rw [hvl]; omega), show j + sz = (i + 1) * sz + (j - i * sz) by omega, setL_in _ _ _ _ (by omega) (by omega), List.getElem?_drop, List.getElem?_take, if_pos (by omega), show i * sz + (j - i * sz) = j by omega]
          simp
        · rw [other_setCells_ (fun e => hkb (by rw [e])), other_setCells_ (fun e => hkb (by rw [e]))]; rfl
      · have hin : i = n := by omega
        subst hin
        refine (R.end_room b i c vb vc (uv.toList.take sz) w hroom (by omega) hvl (fun j hj => by rw [Nat.zero_add]; exact hsome _ (by omega)) (fun j _ => hfz _) hvcell hvone).mono ?_
        rintro e w' ⟨rfl, rfl⟩
        simp only [Nat.zero_add]
        have hw1 := heap_setCells (b := b) (E := E) (f := (0, 0)) (uv.toList.take sz) (i * sz) w us hbw
        have r1 := rest_setCells_ (b := b) (uv.toList.take sz) (i * sz) w
        refine ⟨b, c, _, rfl, hroom, hc, hw1, by rw [setL_size, hus], fun j hj => ?_, fun j hj => ?_, fun j hj hj' => by omega, setL_one hvone _ _ h1, .inl rfl, r1.1, r1.2.1, r1.2.2, by rw [size_setCells_]; exact Nat.le_refl _, fun k hk hkb => ?_⟩
        · rw [setL_out _ _ _ _ (by omega)]
        · rw [setL_in _ _ _ _ (by omega) (by omega), hget j hj]
        · rw [other_setCells_ (fun e => hkb (by rw [e]))]
    · have hg := grownCap_ge w (n + 1) c E
      have hgm := grownCap_le_maxLen w (n + 1) c E (by omega)
      by_cases hin : i < n
      · refine (R.grow b n c i vb vc (us.toList.take (n * sz)) (uv.toList.take sz) w hin hn (by omega) hbig hcl hvl hccell hvcell hcone hvone).mono ?_
        rintro e w' ⟨rfl, rfl⟩
        have hdl : ((us.toList.take (n * sz)).drop (i * sz)).length = n * sz - i * sz := by rw [List.length_drop, hcl]
        have htl : ((us.toList.take (n * sz)).take (i * sz)).length = i * sz := by rw [List.length_take, hcl]; omega
        have h0 : ∀ (o : Array Value), (w.alloc (.cells o E)).drew.heap[w.heap.size]? = some (.cells o E (0, 0)) := fun o => heap_alloc_at (w := w) _
        have hw1 := heap_setCells (uv.toList.take sz) (i * sz) _ _ (h0 (((us.toList.take (n * sz)).take (i * sz)).toArray ++ Builtin.zeroCells z.cells (n + 1 - i) ++ Builtin.zeroCells z.cells (grownCap w (n + 1) c E - (n + 1))))
        have hw2 := heap_setCells ((us.toList.take (n * sz)).drop (i * sz)) ((i + 1) * sz) (World.drew _) _ hw1
        have hrs : (((us.toList.take (n * sz)).take (i * sz)).toArray ++ Builtin.zeroCells z.cells (n + 1 - i) ++ Builtin.zeroCells z.cells (grownCap w (n + 1) c E - (n + 1))).size = grownCap w (n + 1) c E * sz := by
          simp only [Array.size_append, List.size_toArray, htl, zero_size hzs]
          rw [← Nat.add_mul, ← Nat.add_mul]
          congr 1
          omega
        have hgz : (n + 1) * sz ≤ grownCap w (n + 1) c E * sz := Nat.mul_le_mul_right _ hg
        have hro : ∀ (j : Nat) (u : Value), (((us.toList.take (n * sz)).take (i * sz)).toArray ++ Builtin.zeroCells z.cells (n + 1 - i) ++ Builtin.zeroCells z.cells (grownCap w (n + 1) c E - (n + 1)))[j]? = some u → u.oneCell' = true := by
          intro j u hu
          rw [Array.getElem?_append] at hu
          split at hu
          · rw [Array.getElem?_append] at hu
            split at hu
            · exact hcone u (List.mem_of_mem_take (List.mem_of_getElem? (by simpa using hu)))
            · exact zero_one hz1 _ _ u hu
          · exact zero_one hz1 _ _ u hu
        have hrg : ∀ j, j < i * sz → (((us.toList.take (n * sz)).take (i * sz)).toArray ++ Builtin.zeroCells z.cells (n + 1 - i) ++ Builtin.zeroCells z.cells (grownCap w (n + 1) c E - (n + 1)))[j]? = us[j]? := by
          intro j hj
          rw [Array.getElem?_append_left (by simp only [Array.size_append, List.size_toArray, htl]; omega), Array.getElem?_append_left (by simp only [List.size_toArray, htl]; exact hj)]
          rw [List.getElem?_toArray, List.getElem?_take, if_pos hj, List.getElem?_take, if_pos (by omega)]
          simp
        generalize (((us.toList.take (n * sz)).take (i * sz)).toArray ++ Builtin.zeroCells z.cells (n + 1 - i) ++ Builtin.zeroCells z.cells (grownCap w (n + 1) c E - (n + 1))) = ROW at *
        have r1 := rest_setCells_ (b := w.heap.size) (uv.toList.take sz) (i * sz) (w.alloc (.cells ROW E)).drew
        have r2 := rest_setCells_ (b := w.heap.size) ((us.toList.take (n * sz)).drop (i * sz)) ((i + 1) * sz) (((w.alloc (.cells ROW E)).drew.setCells w.heap.size (i * sz) (uv.toList.take sz)).drew)
        refine ⟨w.heap.size, _, _, rfl, hg, hgm, hw2, by rw [setL_size, setL_size, hrs], fun j hj => ?_, fun j hj => ?_, fun j hj hj' => ?_, setL_one (fun v hv => hcone v (List.mem_of_mem_drop hv)) _ _ (setL_one hvone _ _ hro), .inr rfl, r2.1.trans r1.1, r2.2.1.trans r1.2.1, r2.2.2.trans r1.2.2, ?_, fun k hk hkb => ?_⟩
        · rw [setL_out _ _ _ _ (by omega), setL_out _ _ _ _ (by omega), hrg j hj]
        · rw [setL_out _ _ _ _ (by omega), setL_in _ _ _ _ (by omega) (by omega), hget j hj]
        · rw [show j + sz = (i + 1) * sz + (j - i * sz) by omega, setL_in _ _ _ _ (by omega) (by rw [setL_size]; omega), List.getElem?_drop, List.getElem?_take, if_pos (by omega), show i * sz + (j - i * sz) = j by omega]
          simp
        · rw [size_setCells_]
          show w.heap.size ≤ (World.setCells _ _ _ _).heap.size
          rw [size_setCells_]
          show w.heap.size ≤ (w.heap.push _).size
          simp
        · rw [other_setCells_ (by omega)]
          show (World.setCells _ _ _ _).heap[k]? = _
          rw [other_setCells_ (by omega)]
          show (w.heap.push _)[k]? = _
          rw [Array.getElem?_push, if_neg (by omega)]
      · have hin : i = n := by omega
        subst hin
        refine (R.end_grow (some ⟨b, 0, none⟩) i c vb vc (us.toList.take (i * sz)) (uv.toList.take sz) w hn (by omega) hbig hcl hvl (fun h => by cases h) (fun a ha j v hj => by
          obtain rfl := Option.some.inj ha
          rw [Addr.add_lit]; exact hccell j v hj) hvcell hvone).mono ?_
        rintro e w' ⟨rfl, rfl⟩
        refine ⟨w.heap.size, _, _, rfl, hg, hgm, heap_alloc_at (w := w.drew) _, ?_, fun j hj => ?_, fun j hj => ?_, fun j _ hj => by omega, fun j u hu => ?_, .inr rfl, rfl, rfl, rfl, (by show w.heap.size ≤ (w.heap.push _).size; simp), fun k hk _ => ?_⟩
        · simp only [Array.size_append, List.size_toArray, List.length_append, hcl, hvl, zero_size hzs]
          rw [← hn1, ← Nat.add_mul]
          congr 1
          omega
        · rw [Array.getElem?_append_left (by simp [hcl, hvl]; omega)]
          rw [List.getElem?_toArray, List.getElem?_append_left (by omega), List.getElem?_take, if_pos (by omega)]
          simp
        · rw [Array.getElem?_append_left (by simp [hcl, hvl]; omega)]
          rw [List.getElem?_toArray, List.getElem?_append_right (by omega), hcl, Nat.add_sub_cancel_left, hget j hj]
        · rw [Array.getElem?_append] at hu
          split at hu
          · have : u ∈ us.toList.take (i * sz) ++ uv.toList.take sz := List.mem_of_getElem? (by simpa using hu)
            rcases List.mem_append.1 this with h | h
            · exact hcone u h
            · exact hvone u h
          · exact zero_one hz1 _ _ u hu
        · show (w.heap.push _)[k]? = _
          rw [Array.getElem?_push, if_neg (by omega)]
end Go.Proofs.YtmfaejdnaippkaaDoor

end
section
/-
  slices.Insert of one element, ags a contract over made slices.
-/
open Go Go.Proofs Go.RowKit Go.Lib Go.Pw
namespace Go.Proofs.YtmfaejdnaippkaaDoor
set_option maxRecDepth 4000
set_option linter.unusedVariables false
set_option linter.unusedSimpArgs false
/-- The first argument: nil, or what was made. -/
def insArg (base : Option Nat) (n c : Nat) : PV :=
  match base with
  | none => vNil
  | some id => .ms id 0 n c
theorem Rel.put_row {own : Nat → Prop} {S0 : Base} {w0 w w' : World} {C : Cx} {st : PS} (R : Rel own S0 w0 C (· < st.nx) (· < st.nt) st w) {E : TypeId} {sz n i b' c' : Nat} {us uv us' : Array Value} (base : Option Nat)
    (hbase : ∀ id, base = some id → ∃ t cs, lkp st.heap id = some (.box t cs)) (D : InsDid E sz w (base.map C.ρ) n i us uv b' c' us' w') (heap' : List (Nat × PObj)) (hh : ∀ j o, lkp heap' j = some o → lkp st.heap j = some o ∧ base ≠ some j)
    (cs : List PV) (hr : RepL C st.toks (· < st.nx) (· < st.nt) us'.toList cs) :
    Rel own S0 w0 (C.at st.nx b') (· < st.nx + 1) (· < st.nt) { st with heap := (st.nx, .box E cs) :: heap', nx := st.nx + 1 } w' := by
  have X := R.ext_at b' st.nx (Nat.lt_irrefl _) (U' := (· < st.nx + 1)) (fun j hj => Nat.lt_succ_of_lt hj)
  have hnew : (C.at st.nx b').ρ st.nx = b' := by simp [Cx.at]
  have hρ : ∀ j o, lkp heap' j = some o → (C.at st.nx b').ρ j = C.ρ j := fun j o h => by
    have := (R.hown j o (hh j o h).1).1
    simp only [Cx.at]
    rw [if_neg (by omega)]
  have hnewb : b' < w'.heap.size := (Array.getElem?_eq_some_iff.1 D.row).1
  -- where the new row lies: no cell that never turns, no other object, no row
  have place : (∃ id t us0, base = some id ∧ lkp st.heap id = some (.box t us0) ∧ b' = C.ρ id) ∨ b' = w.heap.size := by
    rcases D.place with h | h
    · cases hb : base with
      | none => rw [hb] at h; cases h
      | some id =>
        obtain ⟨t, cs, ho⟩ := hbase id hb
        rw [hb] at h
        exact .inl ⟨id, t, cs, rfl, ho, (Option.some.inj h).symm⟩
    · exact .inr h
  have lt : ∀ {b : Nat} {x : Obj}, w.heap[b]? = some x → b < w.heap.size := fun h => (Array.getElem?_eq_some_iff.1 h).1
  have keep : ∀ k, k < w.heap.size → (∀ id, base = some id → k ≠ C.ρ id) → w'.heap[k]? = w.heap[k]? := fun k hk hn => D.other k hk (fun e => by
    cases hb : base with
    | none => rw [hb] at e; cases e
    | some id => rw [hb] at e; exact hn id hb (Option.some.inj e).symm)
  have hfree : ∀ o, C.S b' o = none := fun o => by
    rcases place with ⟨id, t, cs, _, ho, rfl⟩ | rfl
    · exact (R.hown id _ ho).2.2.2 o
    · exact R.fresh o
  refine ⟨⟨D.os.trans R.frame.os, D.tape.trans R.frame.tape, D.output.trans R.frame.output, Nat.le_trans R.frame.size D.grew, fun k hk hn => ?_⟩, fun b o v h => ?_, ?_, ?_, ?_, ?_, ?_, ?_, R.tinj, R.snew, R.sold, R.base.trans X, R.glob⟩
  · rw [keep k (Nat.lt_of_lt_of_le hk R.frame.size) (fun id hb e => ?_)]
    · exact R.frame.block k hk hn
    · obtain ⟨t, cs, ho⟩ := hbase id hb
      rcases (R.hown id _ ho).2.2.1 with h | h
      · rw [← e] at h; exact hn h
      · omega
  · have h1 := R.stable b o v h
    have hlt : b < w.heap.size := by
      rcases Nat.lt_or_ge b w.heap.size with h' | h'
      · exact h'
      · simp [World.cell?, Array.getElem?_eq_none h'] at h1
    have hk := keep b hlt (fun id hb e => by
      obtain ⟨t, cs, ho⟩ := hbase id hb
      have h2 : C.S b o = some v := h
      have := (R.hown id _ ho).2.2.2 o
      rw [← e, h2] at this
      cases this)
    exact (World.cell?_of_block hk).trans h1
  · intro j T cs' h
    simp only [lkp_cons] at h
    split at h
    · rename_i e
      subst e
      obtain ⟨rfl, rfl⟩ := PObj.box.inj (Option.some.inj h)
      refine ⟨us', by rw [hnew]; exact D.row, by simpa using hr.1, fun k v p hv hp => ?_⟩
      have := hr.2 k v p (by simpa using hv) hp
      exact ⟨this.1, this.2.ext X⟩
    · obtain ⟨h0, hne⟩ := hh j _ h
      obtain ⟨vs, h1, h2, h3⟩ := R.box j T cs' h0
      refine ⟨vs, ?_, h2, fun i v p hv hp => ⟨(h3 i v p hv hp).1, (h3 i v p hv hp).2.ext X⟩⟩
      rw [hρ j _ h, keep _ (lt h1) (fun id hb e => ?_)]
      · exact h1
      · obtain ⟨t, cs, ho⟩ := hbase id hb
        exact hne (by rw [hb, R.hinj j id _ _ h0 ho e])
  · intro j s pos h
    simp only [lkp_cons] at h
    split at h
    · cases h
    · obtain ⟨h0, hne⟩ := hh j _ h
      have h1 := R.iter j s pos h0
      rw [hρ j _ h, keep _ (lt h1) (fun id hb e => ?_)]
      · exact h1
      · obtain ⟨t, cs, ho⟩ := hbase id hb
        exact hne (by rw [hb, R.hinj j id _ _ h0 ho e])
  · intro j o h
    simp only [lkp_cons] at h
    split at h
    · rename_i e
      subst e
      rw [hnew]
      refine ⟨Nat.lt_succ_self _, hnewb, ?_, hfree⟩
      rcases place with ⟨id, t, cs, _, ho, rfl⟩ | rfl
      · exact (R.hown id _ ho).2.2.1
      · exact .inr R.frame.size
    · obtain ⟨h0, _⟩ := hh j _ h
      obtain ⟨h1, h2, h3, h4⟩ := R.hown j o h0
      rw [hρ j _ h]
      exact ⟨Nat.lt_succ_of_lt h1, Nat.lt_of_lt_of_le h2 D.grew, h3, h4⟩
  · have apart : ∀ j o, lkp heap' j = some o → C.ρ j ≠ b' := fun j o h e => by
      obtain ⟨h0, hne⟩ := hh j o h
      rcases place with ⟨id, t, cs, hb, ho, rfl⟩ | rfl
      · exact hne (by rw [hb, R.hinj j id _ _ h0 ho e])
      · have := (R.hown j o h0).2.1; omega
    intro j k oj ok h1 h2 he
    simp only [lkp_cons] at h1 h2
    split at h1 <;> split at h2
    · rename_i e1 e2
      rw [e1, e2]
    · rename_i e1 e2
      subst e1
      rw [hnew, hρ k _ h2] at he
      exact absurd he.symm (apart k _ h2)
    · rename_i e1 e2
      subst e2
      rw [hnew, hρ j _ h1] at he
      exact absurd he (apart j _ h1)
    · rw [hρ j _ h1, hρ k _ h2] at he
      exact R.hinj j k oj ok (hh j _ h1).1 (hh k _ h2).1 he
  · intro k t h
    obtain ⟨h1, h2, ⟨vs, h3, h4⟩, h5⟩ := R.tok k t h
    refine ⟨h1, h2, ⟨vs, ?_, h4⟩, h5⟩
    show w'.heap[(C.τ k).1]? = _
    rw [keep _ (lt h3) (fun id hb e => ?_)]
    · exact h3
    · obtain ⟨t', cs, ho⟩ := hbase id hb
      exact R.tbox id _ k t ho h e.symm
  · intro j oj k t h1 h2
    simp only [lkp_cons] at h1
    split at h1
    · rename_i e
      subst e
      rw [hnew]
      rcases place with ⟨id, t', cs, hb, ho, rfl⟩ | rfl
      · exact R.tbox id _ k t ho h2
      · obtain ⟨_, _, ⟨vs, h3, _⟩, _⟩ := R.tok k t h2
        have := lt h3
        show w.heap.size ≠ (C.τ k).1
        omega
    · rw [hρ j _ h1]
      exact R.tbox j oj k t (hh j _ h1).1 h2
theorem ltL_val : ∀ (l : List Value) (a b : Nat), PV.ltL a b (l.map .val) = true
  | [], _, _ => rfl
  | v :: r, a, b => by rw [List.map_cons, PV.ltL, ltL_val r a b]; rfl
theorem OkI.insert {P : Program} {F : FuncId} {E : TypeId} {sz by_ : Nat} {z : Value} (hent : enters P F = true) (RR : Roads P F E sz by_ z) (hzs : z.cells.size = sz) (hz1 : ∀ u ∈ z.cells.toList, u.oneCell' = true) (hsz : 0 < sz)
    {st : PS} {tk : Nat} {x : List PV} (hx : x.length = sz) (ht : lkp st.toks tk = some ⟨E, sz, 1⟩) (base : Option Nat) (n c i : Nat) (cs rest : List PV) (hcs : cs.length = n * sz) (hrest : rest.length = (c - n) * sz) (hi : i ≤ n) (hn : n ≤ c) (hc : c ≤ maxLen) (hn1 : (n + 1) * by_ ≤ 140737488355328) (hn63 : n + 1 ≤ maxLen)
    (h0 : base = none → c = 0) (hb : ∀ id, base = some id → lkp st.heap id = some (.box E (cs ++ rest))) (heap' : List (Nat × PObj)) (hh : ∀ j o, lkp heap' j = some o → lkp st.heap j = some o ∧ base ≠ some j) :
    OkI P F [insArg base n c, vI i, .row tk [x]] st (fun r st' => ∃ c' rest', n + 1 ≤ c' ∧ c' ≤ maxLen ∧ rest'.length = (c' - (n + 1)) * sz ∧ (∀ a b, PV.ltL a b rest' = true) ∧ r = .ms st.nx 0 (n + 1) c' ∧
      st' = { st with heap := (st.nx, .box E (cs.take (i * sz) ++ x ++ cs.drop (i * sz) ++ rest')) :: heap', nx := st.nx + 1 }) := by
  refine ⟨hent, fun own S0 w0 w C vals R hsv hrep => ?_⟩
  obtain ⟨v0, v1, v2, rfl⟩ : ∃ v0 v1 v2, vals = #[v0, v1, v2] := by
    cases vals with
    | mk l => match l, hsv with
      | [a, b, c], _ => exact ⟨a, b, c, rfl⟩
  have r0 := hrep 0 v0 _ rfl rfl
  obtain ⟨rfl, _⟩ := rep_val (hrep 1 v1 _ rfl rfl)
  have r2 := hrep 2 v2 _ rfl rfl
  cases r2 with
  | frz h => cases h
  | row h hk htk =>
  obtain ⟨g1, g2, g3⟩ := htk _ ht
  obtain rfl := g3 rfl
  obtain ⟨t1, t2, ⟨uv, t3, t4⟩, t5, t6, t7⟩ := R.tok tk _ ht
  have hvb : w.heap[(C.τ tk).1]? = some (.cells uv E (0, 0)) := t3
  have hvs : uv.size = (C.τ tk).2 * sz := t4
  have hv1 : 1 ≤ (C.τ tk).2 := t5
  -- the element's cells
  have hcell : ∀ j, j < sz → ∃ u p, uv[j]? = some u ∧ x[j]? = some p ∧ RepF C.S u p := by
    cases h with
    | sl f hn' hc' hsz' hA hr =>
      obtain ⟨b, o, e, hS⟩ := hA (by simp)
      obtain ⟨rfl, rfl⟩ : (C.τ tk).1 = b ∧ 0 = o := by
        have := Option.some.inj e
        exact ⟨congrArg Addr.block this, congrArg Addr.off this⟩
      rename_i sz'
      have hsz2 : sz' = sz := by rw [← hsz' x (by simp), hx]
      subst hsz2
      intro j hj
      have h1 := hS 0 j (by simp) hj
      have h2 := R.stable _ _ _ h1
      have hp : x[j]? = some (x[j]'(by omega)) := List.getElem?_eq_getElem (by omega)
      refine ⟨f 0 j, _, ?_, hp, hr 0 j x _ rfl hp⟩
      rw [Lib.cell_of_heap hvb] at h2
      rw [← h2]
      congr 1
      omega
  have hbase : ∀ id, base = some id → ∃ t cs, lkp st.heap id = some (.box t cs) := fun id h => ⟨_, _, hb id h⟩
  -- the old row
  obtain ⟨us, hus, husz, hus1, husr⟩ : ∃ us : Array Value, us.size = c * sz ∧ (∀ b, base.map C.ρ = some b → w.heap[b]? = some (.cells us E (0, 0)) ∧ (C.τ tk).1 ≠ b) ∧ (∀ (j : Nat) (u : Value), us[j]? = some u → u.oneCell' = true) ∧
      (∀ (j : Nat) (u : Value) (p : PV), us[j]? = some u → (cs ++ rest)[j]? = some p → RepV C st.toks (· < st.nx) (· < st.nt) u p) := by
    cases hbb : base with
    | none =>
      have := h0 hbb
      subst this
      exact ⟨#[], by simp, fun b h => (by cases h), fun j u h => (by simp at h), fun j u p h => (by simp at h)⟩
    | some id =>
      obtain ⟨us, q1, q2, q3⟩ := R.box id E _ (hb id hbb)
      have hlen : us.size = c * sz := by
        rw [q2, List.length_append, hcs, hrest, ← Nat.add_mul]
        congr 1
        omega
      refine ⟨us, hlen, fun b h => ?_, fun j u hu => ?_, fun j u p hu hp => (q3 j u p hu hp).2⟩
      · obtain rfl := Option.some.inj h
        exact ⟨q1, fun e => R.tbox id _ tk _ (hb id hbb) ht e.symm⟩
      · have hj : j < (cs ++ rest).length := by rw [← q2]; exact (Array.getElem?_eq_some_iff.1 hu).1
        exact (q3 j u _ hu (List.getElem?_eq_getElem hj)).1
  have hv0 : v0 = .slice ((base.map C.ρ).map fun b => ⟨b, 0, none⟩) n c := by
    cases hbb : base with
    | none =>
      have hc0 := h0 hbb
      rw [hbb] at r0
      obtain ⟨rfl, _⟩ := rep_val r0
      have hn0 : n = 0 := by omega
      rw [hc0, hn0]
      rfl
    | some id =>
      rw [hbb] at r0
      exact (rep_ms r0).1
  subst hv0
  refine (RR.ins hzs hz1 hsz w (base.map C.ρ) n c i (C.τ tk).1 (C.τ tk).2 us uv hi hn hc hn1 hn63 hus (fun h => h0 (by simpa using h)) husz hus1 hv1 hvb hvs (fun j u hj hu => by
    obtain ⟨u', p, e1, _, e3⟩ := hcell j hj
    rw [e1] at hu
    obtain rfl := Option.some.inj hu
    exact e3.one)).mono ?_
  rintro e w' ⟨b', c', us', rfl, D⟩
  have hiz : i * sz ≤ n * sz := Nat.mul_le_mul_right _ hi
  have hn1z : (n + 1) * sz = n * sz + sz := Nat.succ_mul _ _
  have hcz : (n + 1) * sz ≤ us'.size := by rw [D.size]; exact Nat.mul_le_mul_right _ D.room
  have hlen : (cs.take (i * sz) ++ x ++ cs.drop (i * sz)).length = (n + 1) * sz := by
    simp only [List.length_append, List.length_take, List.length_drop, hcs, hx]
    omega
  have hrep' : RepL C st.toks (· < st.nx) (· < st.nt) us'.toList (cs.take (i * sz) ++ x ++ cs.drop (i * sz) ++ (us'.toList.drop ((n + 1) * sz)).map .val) := by
    refine ⟨by rw [List.length_append, hlen, List.length_map, List.length_drop]; simp; omega, fun j u p hu hp => ?_⟩
    have hu' : us'[j]? = some u := by simpa using hu
    refine ⟨D.one j u hu', ?_⟩
    by_cases h1 : j < (n + 1) * sz
    · rw [List.getElem?_append_left (by omega)] at hp
      by_cases h2 : j < i * sz
      · rw [List.getElem?_append_left (by simp only [List.length_append, List.length_take, hcs, hx]; omega), List.getElem?_append_left (by simp only [List.length_take, hcs]; omega), List.getElem?_take, if_pos h2] at hp
        rw [D.front j h2] at hu'
        exact husr j u p hu' (by rw [List.getElem?_append_left (by omega)]; exact hp)
      · by_cases h3 : j < i * sz + sz
        · rw [List.getElem?_append_left (by simp only [List.length_append, List.length_take, hcs, hx]; omega), List.getElem?_append_right (by simp only [List.length_take, hcs]; omega)] at hp
          simp only [List.length_take, hcs] at hp
          rw [Nat.min_eq_left hiz] at hp
          have h4 := D.mid (j - i * sz) (by omega)
          rw [show i * sz + (j - i * sz) = j by omega, hu'] at h4
          obtain ⟨u', p', e1, e2, e3⟩ := hcell (j - i * sz) (by omega)
          rw [← h4] at e1
          rw [e2] at hp
          obtain rfl := Option.some.inj e1
          obtain rfl := Option.some.inj hp
          exact .frz e3
        · rw [List.getElem?_append_right (by simp only [List.length_append, List.length_take, hcs, hx]; omega)] at hp
          simp only [List.length_append, List.length_take, hcs, hx, List.getElem?_drop] at hp
          rw [Nat.min_eq_left hiz] at hp
          have h4 := D.back (j - sz) (by omega) (by omega)
          rw [show j - sz + sz = j by omega, hu'] at h4
          refine husr (j - sz) u p h4.symm ?_
          rw [List.getElem?_append_left (by omega), ← hp]
          congr 1
          omega
    · rw [List.getElem?_append_right (by omega), hlen, List.getElem?_map, List.getElem?_drop, show (n + 1) * sz + (j - (n + 1) * sz) = j by omega, hu] at hp
      obtain rfl := Option.some.inj hp
      exact .frz (.val (D.one j u hu'))
  have R' := Rel.put_row R base hbase D heap' hh _ hrep'
  refine ⟨_, _, _, C.at st.nx b', ⟨c', _, D.room, D.small, ?_, ltL_val _, rfl, rfl⟩, rfl, R', R.ext_at b' st.nx (Nat.lt_irrefl _) (fun j hj => Nat.lt_succ_of_lt hj), ?_⟩
  · rw [List.length_map, List.length_drop]
    simp only [Array.length_toList]
    rw [D.size, ← Nat.sub_mul]
  · have : RepV (C.at st.nx b') st.toks (· < st.nx + 1) (· < st.nt) (.slice (some ⟨(C.at st.nx b').ρ st.nx, 0, none⟩) (n + 1) c') (.ms st.nx 0 (n + 1) c') := .ms (Nat.lt_succ_self _) D.room
    have hb' : (C.at st.nx b').ρ st.nx = b' := by simp [Cx.at]
    rw [hb'] at this
    exact this
end Go.Proofs.YtmfaejdnaippkaaDoor

end
section
/-
  Values ags data: what they hold, cell by cell; rows that grow; lists of values.
-/
open Go Go.Proofs Go.Pw Go.RowKit
namespace Go.Proofs.YtmfaejdnaippkaaDoor
set_option maxRecDepth 4000
set_option linter.unusedVariables false
set_option linter.unusedSimpArgs false
inductive V where
  | mk (kind : Int) (b : Bool) (n : Int) (s : ByteArray) (items : List V) (keys : List ByteArray)
namespace V
def kind : V → Int | .mk k _ _ _ _ _ => k
def b : V → Bool | .mk _ b _ _ _ _ => b
def n : V → Int | .mk _ _ n _ _ _ => n
def s : V → ByteArray | .mk _ _ _ s _ _ => s
def items : V → List V | .mk _ _ _ _ l _ => l
def keys : V → List ByteArray | .mk _ _ _ _ _ l => l
end V
theorem V.kind_mk (k : Int) (b : Bool) (n : Int) (s : ByteArray) (l : List V) (ks : List ByteArray) : (V.mk k b n s l ks).kind = k := rfl
theorem V.b_mk (k : Int) (b : Bool) (n : Int) (s : ByteArray) (l : List V) (ks : List ByteArray) : (V.mk k b n s l ks).b = b := rfl
theorem V.n_mk (k : Int) (b : Bool) (n : Int) (s : ByteArray) (l : List V) (ks : List ByteArray) : (V.mk k b n s l ks).n = n := rfl
theorem V.s_mk (k : Int) (b : Bool) (n : Int) (s : ByteArray) (l : List V) (ks : List ByteArray) : (V.mk k b n s l ks).s = s := rfl
theorem V.items_mk (k : Int) (b : Bool) (n : Int) (s : ByteArray) (l : List V) (ks : List ByteArray) : (V.mk k b n s l ks).items = l := rfl
theorem V.keys_mk (k : Int) (b : Bool) (n : Int) (s : ByteArray) (l : List V) (ks : List ByteArray) : (V.mk k b n s l ks).keys = ks := rfl
attribute [go_sem] V.kind_mk V.b_mk V.n_mk V.s_mk V.items_mk V.keys_mk
def vZero : V := .mk 0 false 0 ByteArray.empty [] []
instance : Inhabited V := ⟨vZero⟩
mutual
def encC6 : V → List PV
  | .mk k b n s is ks => [vI k, vB b, vI n, vS s, .sl (encV is), .sl (encT ks)]
def encV : List V → List (List PV)
  | [] => []
  | v :: r => encC6 v :: encV r
end
/-- A value's cells. -/
abbrev cellsV (v : V) : List PV := [vI v.kind, vB v.b, vI v.n, vS v.s, .sl (encV v.items), .sl (encT v.keys)]
theorem encC6_eq (v : V) : encC6 v = cellsV v := by cases v; simp [encC6, cellsV, V.kind, V.b, V.n, V.s, V.items, V.keys]
theorem encV_nil : encV [] = [] := by simp [encV]
theorem encV_cons (v : V) (l : List V) : encV (v :: l) = cellsV v :: encV l := by rw [← encC6_eq]; simp [encV]
theorem encV_map : ∀ l, encV l = l.map cellsV
  | [] => encV_nil
  | v :: r => by rw [encV_cons, encV_map r]; rfl
theorem encV_len (l : List V) : (encV l).length = l.length := by rw [encV_map]; simp
theorem encV_get (l : List V) (i : Nat) : (encV l).getD i [] = if i < l.length then cellsV (l.getD i default) else [] := by
  rw [encV_map]
  by_cases h : i < l.length
  · simp [h, List.getD_eq_getElem?_getD]
  · rw [if_neg h, List.getD_eq_getElem?_getD, List.getElem?_eq_none (by simpa using h)]; rfl
theorem ix_V {a : List V} {i : Int} {K : PV → Prop} (h0 : 0 ≤ i) (h1 : i < (a.length : Int)) : ixP 6 i K (.sl (encV a)) = K (.fp (cellsV (a.getD i.toNat default))) := by
  have h : i.toNat < a.length := by omega
  simp only [ixP, encV_get, if_pos h, encV_len, cellsV, List.length_cons, List.length_nil, h0, h1, true_and]
theorem ix_Vr {a : List V} {i : Int} {k : Nat} {K : PV → Prop} (h0 : 0 ≤ i) (h1 : i < (a.length : Int)) : ixP 6 i K (.row k (encV a)) = K (.fp (cellsV (a.getD i.toNat default))) := by
  have h : i.toNat < a.length := by omega
  simp only [ixP, encV_get, if_pos h, encV_len, cellsV, List.length_cons, List.length_nil, h0, h1, true_and]
theorem encV_all (l : List V) : (∀ x ∈ encV l, x.length = 6) = True := eq_true (fun x hx => by
  rw [encV_map] at hx
  obtain ⟨n, _, rfl⟩ := List.mem_map.1 hx
  rfl)
theorem fz_encV : ∀ (l : List V), fzLL (encV l) = some (encV l)
  | [] => by rw [encV_nil]; rfl
  | x :: r => by
    have ih := fz_encV r
    rw [encV_cons, fzLL, ih]
    rfl
attribute [go_sem ↓ 2000] ix_V ix_Vr
attribute [go_sem] encV_len encV_all fz_encV
/-! Cells, one behind the other. -/
def flatT (l : List ByteArray) : List PV := l.map fun s => vS s
def flatV (l : List V) : List PV := l.flatMap cellsV
theorem ltL_app {a b : Nat} : ∀ (l m : List PV), PV.ltL a b (l ++ m) = (PV.ltL a b l && PV.ltL a b m)
  | [], m => by simp [PV.ltL]
  | p :: r, m => by rw [List.cons_append, PV.ltL, PV.ltL, ltL_app r m, Bool.and_assoc]
theorem ltL_flatT (a b : Nat) : ∀ (l : List ByteArray), PV.ltL a b (flatT l) = true
  | [] => rfl
  | x :: r => by
    have ih := ltL_flatT a b r
    unfold flatT at ih ⊢
    rw [List.map_cons, PV.ltL, ih]; rfl
theorem ltL_flatV (a b : Nat) : ∀ (l : List V), PV.ltL a b (flatV l) = true
  | [] => rfl
  | x :: r => by
    have ih := ltL_flatV a b r
    unfold flatV at ih ⊢
    rw [List.flatMap_cons, ltL_app, ih]; rfl
theorem flatT_len (l : List ByteArray) : (flatT l).length = l.length := by simp [flatT]
theorem flatV_len (l : List V) : (flatV l).length = l.length * 6 := by
  unfold flatV
  induction l with
  | nil => rfl
  | cons v r ih => simp only [List.flatMap_cons, List.length_append, ih, List.length_cons, List.length_nil]; omega
theorem flatT_take (l : List ByteArray) (i : Nat) : (flatT l).take i = flatT (l.take i) := by simp [flatT, List.map_take]
theorem flatT_drop (l : List ByteArray) (i : Nat) : (flatT l).drop i = flatT (l.drop i) := by simp [flatT, List.map_drop]
theorem flatV_cons (v : V) (l : List V) : flatV (v :: l) = cellsV v ++ flatV l := rfl
theorem flatV_app (l m : List V) : flatV (l ++ m) = flatV l ++ flatV m := by simp [flatV]
theorem flatV_take : ∀ (l : List V) (i : Nat), (flatV l).take (i * 6) = flatV (l.take i)
  | l, 0 => by simp [flatV]
  | [], i + 1 => by simp [flatV]
  | v :: r, i + 1 => by
    rw [flatV_cons, List.take_succ_cons, flatV_cons, ← flatV_take r i, List.take_append, List.take_of_length_le (by simp; omega)]
    congr 2
    simp; omega
theorem flatV_drop : ∀ (l : List V) (i : Nat), (flatV l).drop (i * 6) = flatV (l.drop i)
  | l, 0 => by simp
  | [], i + 1 => by simp [flatV]
  | v :: r, i + 1 => by
    rw [flatV_cons, List.drop_succ_cons, ← flatV_drop r i, List.drop_append, List.drop_eq_nil_of_le (by simp; omega)]
    rw [List.nil_append]
    congr 1
    simp; omega
theorem chunksT (l : List ByteArray) (rest : List PV) : chunks 1 l.length (flatT l ++ rest) = encT l := by
  unfold chunks encT
  apply List.ext_getElem?
  intro j
  rw [List.getElem?_map, List.getElem?_map]
  by_cases h : j < l.length
  · rw [List.getElem?_range h, List.getElem?_eq_getElem h]
    simp only [Option.map_some, Nat.mul_one]
    rw [List.drop_append_of_le_length (by rw [flatT_len]; omega), flatT_drop, List.drop_eq_getElem_cons h]
    rfl
  · rw [List.getElem?_eq_none (by simpa using h), List.getElem?_eq_none (by simpa using h)]
    rfl
theorem chunksV (l : List V) (rest : List PV) : chunks 6 l.length (flatV l ++ rest) = encV l := by
  unfold chunks
  rw [encV_map]
  apply List.ext_getElem?
  intro j
  rw [List.getElem?_map, List.getElem?_map]
  by_cases h : j < l.length
  · rw [List.getElem?_range h, List.getElem?_eq_getElem h]
    simp only [Option.map_some]
    rw [List.drop_append_of_le_length (by rw [flatV_len]; omega), flatV_drop, List.drop_eq_getElem_cons h]
    rfl
  · rw [List.getElem?_eq_none (by simpa using h), List.getElem?_eq_none (by simpa using h)]
    rfl
/-! Sizes. -/
def szT : List ByteArray → Nat
  | [] => 0
  | k :: r => 1 + k.size + szT r
theorem szT_len : ∀ l, l.length ≤ szT l
  | [] => Nat.zero_le _
  | k :: r => by have := szT_len r; rw [szT, List.length_cons]; omega
mutual
def szV : V → Nat
  | .mk _ _ _ s is ks => 1 + s.size + szT ks + szVs is
def szVs : List V → Nat
  | [] => 0
  | v :: r => szV v + szVs r
end
theorem szV_eq (v : V) : szV v = 1 + v.s.size + szT v.keys + szVs v.items := by cases v; simp [szV, V.s, V.keys, V.items]
theorem szVs_nil : szVs [] = 0 := by simp [szVs]
theorem szVs_cons (v : V) (l : List V) : szVs (v :: l) = szV v + szVs l := by simp [szVs]
theorem szVs_app : ∀ (l m : List V), szVs (l ++ m) = szVs l + szVs m
  | [], m => by rw [szVs_nil, List.nil_append, Nat.zero_add]
  | v :: r, m => by rw [List.cons_append, szVs_cons, szVs_cons, szVs_app r m]; omega
theorem szV_pos (v : V) : 1 ≤ szV v := by rw [szV_eq]; omega
theorem szVs_len : ∀ (l : List V), l.length ≤ szVs l
  | [] => Nat.zero_le _
  | v :: r => by have := szV_pos v; have := szVs_len r; rw [szVs_cons, List.length_cons]; omega
theorem szVs_mem : ∀ {l : List V} {v : V}, v ∈ l → szV v ≤ szVs l
  | x :: r, v, h => by
    rw [szVs_cons]
    rcases List.mem_cons.1 h with rfl | h
    · omega
    · have := szVs_mem h; omega
/-- Induction over values. -/
theorem V.ind {p : V → Prop} (h : ∀ v, (∀ x ∈ v.items, p x) → p v) : ∀ v, p v := by
  have key : ∀ n, ∀ v, szV v < n → p v := by
    intro n
    induction n with
    | zero => intro v hv; omega
    | succ n ih =>
      intro v hv
      refine h v (fun x hx => ih x ?_)
      have := szVs_mem hx
      rw [szV_eq] at hv
      omega
  exact fun v => key _ v (Nat.lt_succ_self _)
end Go.Proofs.YtmfaejdnaippkaaDoor

end
section
/-
  value.Object.
-/
open Go Go.Proofs Go.Pw Go.RowKit
namespace Go.Proofs.YtmfaejdnaippkaaDoor
set_option maxRecDepth 4000
set_option linter.unusedVariables false
set_option linter.unusedSimpArgs false
def insAt {α : Type} (l : List α) (i : Nat) (x : α) : List α := l.take i ++ [x] ++ l.drop i
theorem insAt_len {α : Type} {l : List α} {i : Nat} (h : i ≤ l.length) (x : α) : (insAt l i x).length = l.length + 1 := by
  unfold insAt; simp; omega
def putAll (ks : List ByteArray) (is : List V) : List ByteArray → List V → Option (List ByteArray × List V)
  | k :: r, v :: vs => if foundT ks k = true then none else putAll (insAt ks (posT ks k) k) (insAt is (posT ks k) v) r vs
  | _, _ => some (ks, is)
def objR : Option (List ByteArray × List V) → PV
  | some (ks, is) => .tup [.agg (cellsV (.mk 5 false 0 ByteArray.empty is ks)), vI 0]
  | none => .tup [.agg (cellsV vZero), vI 5]
def objF (keys : List ByteArray) (items : List V) : PV :=
  if keys.length ≠ items.length then .tup [.agg (cellsV vZero), vI 1]
  else if (keys.any fun s => !isT s) = true then .tup [.agg (cellsV vZero), vI 2]
  else objR (putAll [] [] keys items)
def heapM (base : Option Nat) (E : TypeId) (cs : List PV) : List (Nat × PObj) :=
  match base with
  | none => []
  | some id => [(id, .box E cs)]
theorem heapM_some (id : Nat) (E : TypeId) (cs : List PV) : heapM (some id) E cs = [(id, .box E cs)] := rfl
theorem heapM_none (E : TypeId) (cs : List PV) : heapM none E cs = [] := rfl
theorem insArg_some (id n c : Nat) : insArg (some id) n c = .ms id 0 n c := rfl
theorem insArg_none (n c : Nat) : insArg none n c = vNil := rfl
structure ObjI where
  i : Nat
  ks : List ByteArray
  is : List V
  bK : Option Nat
  cK : Nat
  rK : List PV
  bI : Option Nat
  cI : Nat
  rI : List PV
  nx : Nat
  nt : Nat
structure ObjOk (keys : List ByteArray) (items : List V) (rr : PV) (p : ObjI) : Prop where
  hi : p.i ≤ keys.length
  lk : p.ks.length = p.i
  li : p.is.length = p.i
  sort : SortT p.ks
  res : objR (putAll p.ks p.is (keys.drop p.i) (items.drop p.i)) = rr
  nK : p.bK = none → p.cK = 0
  nI : p.bI = none → p.cI = 0
  cK : p.i ≤ p.cK
  cI : p.i ≤ p.cI
  mK : p.cK ≤ maxLen
  mI : p.cI ≤ maxLen
  rK : p.rK.length = (p.cK - p.i) * 1
  rI : p.rI.length = (p.cI - p.i) * 6
  idK : ∀ id, p.bK = some id → 12 < id ∧ id < p.nx
  idI : ∀ id, p.bI = some id → 12 < id ∧ id < p.nx
  ne : ∀ j k, p.bK = some j → p.bI = some k → j ≠ k
  nx : 12 < p.nx
def objH (p : ObjI) : List (Nat × PObj) := heapM p.bK 9 (flatT p.ks ++ p.rK) ++ heapM p.bI 29 (flatV p.is ++ p.rI)
def objS (keys : List ByteArray) (items : List V) (p : ObjI) : PS :=
  ⟨[(25, vI p.i), (24, vI keys.length), (23, .sl (encT keys)), (0, .sl (encT keys)), (1, .sl (encV items)), (4, .ptr 0 0), (5, vI 0), (6, .ptr 12 0)],
   (12, .box 29 [vI 5, vB false, vI 0, vS ByteArray.empty, insArg p.bI p.i p.cI, insArg p.bK p.i p.cK]) :: (0, .box 29 [vI 0, vB false, vI 0, vS ByteArray.empty, vNil, vNil]) :: objH p, [], p.nx, p.nt⟩
theorem lkp_app {α : Type} (l m : List (Nat × α)) (i : Nat) : lkp (l ++ m) i = (lkp l i).or (lkp m i) := by
  induction l with
  | nil => rfl
  | cons x r ih =>
    obtain ⟨k, v⟩ := x
    rw [List.cons_append, lkp_cons, lkp_cons]
    split
    · rfl
    · exact ih
theorem heapM_lkp {base : Option Nat} {E : TypeId} {cs : List PV} {j : Nat} {o : PObj} (h : lkp (heapM base E cs) j = some o) : base = some j ∧ o = .box E cs := by
  cases base with
  | none => cases h
  | some id =>
    rw [heapM_some, lkp_cons] at h
    split at h
    · rename_i e
      subst e
      exact ⟨rfl, (Option.some.inj h).symm⟩
    · cases h
theorem heapM_own (id : Nat) (E : TypeId) (cs : List PV) : lkp (heapM (some id) E cs) id = some (.box E cs) := by simp [heapM, lkp]
section
set_option linter.unusedSectionVars false
variable {keys : List ByteArray} {items : List V} {rr : PV} {p : ObjI} (h : ObjOk keys items rr p)
include h
theorem ObjOk.hK {id : Nat} (e : p.bK = some id) : lkp (objH p) id = some (.box 9 (flatT p.ks ++ p.rK)) := by
  unfold objH
  rw [lkp_app, e, heapM_own]
  rfl
theorem ObjOk.hI {id : Nat} (e : p.bI = some id) : lkp (objH p) id = some (.box 29 (flatV p.is ++ p.rI)) := by
  unfold objH
  rw [lkp_app]
  cases hk : lkp (heapM p.bK 9 (flatT p.ks ++ p.rK)) id with
  | none => rw [e, heapM_own]; rfl
  | some o =>
    obtain ⟨e1, _⟩ := heapM_lkp hk
    exact absurd rfl (h.ne id id e1 e)
theorem ObjOk.fzK {a b : PObj} : fzH Tryd.prog ((12, a) :: (0, b) :: objH p) (insArg p.bK p.i p.cK) = some (.sl (encT p.ks)) := by
  cases e : p.bK with
  | none =>
    have h0 := h.nK e
    have := h.cK
    have hks : p.ks = [] := List.length_eq_zero_iff.1 (by rw [h.lk]; omega)
    rw [hks]
    rfl
  | some id =>
    have hl : lkp ((12, a) :: (0, b) :: objH p) id = some (.box 9 (flatT p.ks ++ p.rK)) := by
      have := h.idK id e
      rw [lkp_cons, if_neg (by omega), lkp_cons, if_neg (by omega)]
      exact h.hK e
    rw [insArg_some]
    simp only [fzH, hl, sz9]
    have h1 : 0 < 1 ∧ 0 + p.i * 1 ≤ (flatT p.ks ++ p.rK).length := ⟨by decide, by rw [List.length_append, flatT_len, h.lk]; omega⟩
    rw [if_pos h1, List.drop_zero, ← h.lk, chunksT, fz_encT]
    rfl
theorem ObjOk.fzI {a b : PObj} : fzH Tryd.prog ((12, a) :: (0, b) :: objH p) (insArg p.bI p.i p.cI) = some (.sl (encV p.is)) := by
  cases e : p.bI with
  | none =>
    have h0 := h.nI e
    have := h.cI
    have hks : p.is = [] := List.length_eq_zero_iff.1 (by rw [h.li]; omega)
    rw [hks, encV_nil]
    rfl
  | some id =>
    have hl : lkp ((12, a) :: (0, b) :: objH p) id = some (.box 29 (flatV p.is ++ p.rI)) := by
      have := h.idI id e
      rw [lkp_cons, if_neg (by omega), lkp_cons, if_neg (by omega)]
      exact h.hI e
    rw [insArg_some]
    simp only [fzH, hl, sz29]
    have h1 : 0 < 6 ∧ 0 + p.i * 6 ≤ (flatV p.is ++ p.rI).length := ⟨by decide, by rw [List.length_append, flatV_len, h.li]; omega⟩
    rw [if_pos h1, List.drop_zero, ← h.li, chunksV, fz_encV]
    rfl
end
theorem fzHA_ins {P : Program} {h : List (Nat × PObj)} (base : Option Nat) (n c : Nat) : fzHA P h (insArg base n c) = fzH P h (insArg base n c) := by cases base <;> rfl
theorem fzH_val {P : Program} {h : List (Nat × PObj)} (v : Value) : fzH P h (.val v) = fz (.val v) := rfl
theorem drop_consG {α : Type} {a : List α} {d : α} {k : Nat} (h : k < a.length) : a.drop k = a.getD k d :: a.drop (k + 1) := by
  rw [List.drop_eq_getElem_cons h, List.getD_eq_getElem?_getD, List.getElem?_eq_getElem h]; rfl
theorem ins_sort {k : ByteArray} : ∀ {l : List ByteArray}, SortT l → foundT l k = false → SortT (insAt l (posT l k) k)
  | [], _, _ => by simp [insAt, SortT]
  | x :: r, h, hf => by
    have h' := List.pairwise_cons.1 h
    cases hx : ltT x k with
    | true =>
      have hp : posT (x :: r) k = posT r k + 1 := by unfold posT; rw [List.takeWhile_cons, hx]; rfl
      have hf' : foundT r k = false := by
        unfold foundT at hf ⊢
        rw [hp] at hf
        simpa using hf
      rw [hp]
      have ih := ins_sort h'.2 hf'
      have e : insAt (x :: r) (posT r k + 1) k = x :: insAt r (posT r k) k := rfl
      rw [e]
      refine List.pairwise_cons.2 ⟨fun y hy => ?_, ih⟩
      unfold insAt at hy
      rcases List.mem_append.1 hy with hy | hy
      · rcases List.mem_append.1 hy with hy | hy
        · exact h'.1 y (List.mem_of_mem_take hy)
        · rw [List.mem_singleton.1 hy]; exact hx
      · exact h'.1 y (List.mem_of_mem_drop hy)
    | false =>
      have hp : posT (x :: r) k = 0 := by unfold posT; rw [List.takeWhile_cons, hx]; rfl
      rw [hp]
      unfold foundT at hf
      rw [hp] at hf
      have hne : ¬ x = k := by simpa using hf
      have hlt : ltT k x = true := by
        rcases ltT_tri x k with h | h | h
        · rw [hx] at h; cases h
        · exact absurd h hne
        · exact h
      have e : insAt (x :: r) 0 k = k :: x :: r := rfl
      rw [e]
      refine List.pairwise_cons.2 ⟨fun y hy => ?_, h⟩
      rcases List.mem_cons.1 hy with rfl | hy
      · exact hlt
      · exact ltT_trans hlt (h'.1 y hy)
set_option maxHeartbeats 8000000 in
theorem object_ok (keys : List ByteArray) (items : List V) (hf : fewT keys) (hl : keys.length ≤ 1000000) (hi : items.length ≤ 1000000) : Ok Tryd.prog 15 [.sl (encT keys), .sl (encV items)] (objF keys items) := by
  refine Ok.of_pwpH (bar := oneBar 13 8) (by kernel_rfl) Tryd.func15 rfl (by kernel_rfl) (by kernel_rfl) ?_
  unfold objF
  by_cases h1 : keys.length = items.length
  · rw [if_neg (by simpa using h1)]
    have hd : decide ((keys.length : Int) = (items.length : Int)) = true := decide_eq_true (by omega)
    simp (implicitDefEqProofs := false) (disch := omega) only [go_sem, simprocAttr, go_sem, Nat.le_refl, hd, Tryd.results15]
    with_reducible refine CallOk.of (contS_ok keys hf (by omega)) rfl ?_
    cases hc : keys.any (fun s => !isT s) with
    | true =>
      rw [if_pos rfl]
      simp (implicitDefEqProofs := false) (disch := omega) only [go_sem, simprocAttr, go_sem, Nat.le_refl, Tryd.results15, encV_nil, encT_nil, vZero, outH, fzHAs, fzHA, fzHL, fzH, cellsV]
    | false =>
      rw [if_neg (by decide)]
      generalize hr : objR (putAll [] [] keys items) = rr
      simp (implicitDefEqProofs := false) (disch := omega) only [go_sem, simprocAttr, go_sem, Nat.le_refl, Tryd.results15, encV_nil, encT_nil, vZero]
      refine p_loop (ι := { p : ObjI // ObjOk keys items rr p }) (fun p => objS keys items p.1) (fun p => keys.length - p.1.i)
        ⟨⟨0, [], [], none, 0, [], none, 0, [], 15, 15⟩, ⟨Nat.zero_le _, rfl, rfl, List.Pairwise.nil, hr, fun _ => rfl, fun _ => rfl, Nat.le_refl _, Nat.le_refl _, Nat.zero_le _, Nat.zero_le _, rfl, rfl, fun _ h => (by cases h), fun _ h => (by cases h), fun _ _ h => (by cases h), by decide⟩⟩ ?_ ?_
      · simp only [objS, objH, heapM_none, insArg_none, List.nil_append]
        refine ⟨?_, ?_, ?_, ?_, ?_, ?_, ?_⟩ <;> simp only [go_sem, simprocAttr, decide_eq_true_eq, Int.natCast_zero] <;> try first | omega | ((repeat' (first | exact And.intro rfl (by omega) | (refine And.intro ?_ ?_))) <;> first | rfl | omega | (congr 3; omega) | (congr 2; omega))
      · rintro ⟨p, hp⟩
        simp only [objS]
        simp (implicitDefEqProofs := false) (disch := omega) only [go_sem, simprocAttr, go_sem, Nat.le_refl, Tryd.results15, encV_nil, encT_nil, vZero]
        with_reducible refine ifK_split (fun hlt => ?_) (fun hge => ?_)
        · have hpi := hp.hi
          have hpnx := hp.nx
          have hlt' : p.i < keys.length := by omega
          simp (implicitDefEqProofs := false) (disch := omega) only [go_sem, simprocAttr, go_sem, Nat.le_refl, Tryd.results15, encV_nil, encT_nil, vZero]
          refine CallOk.ofI (OkI.frozen (st := ⟨[], _, _, _, _⟩) (bs_ok p.ks (keys.getD p.i ByteArray.empty) hp.sort (by rw [hp.lk]; omega)) ?_ rfl) rfl rfl rfl rfl ?_
          · simp only [fzHAs, fzHA_ins, hp.fzK]
            rfl
          · rintro r st1 ⟨rfl, rfl⟩
            have ek := drop_consG (d := ByteArray.empty) hlt'
            have ei := drop_consG (a := items) (d := default) (k := p.i) (by omega)
            have hres := hp.res
            rw [ek, ei, putAll] at hres
            simp (implicitDefEqProofs := false) (disch := omega) only [go_sem, simprocAttr, go_sem, Nat.le_refl, Tryd.results15, encV_nil, encT_nil, vZero]
            with_reducible refine ifK_bsplit (fun hfd => ?_) (fun hnf => ?_)
            · rw [if_pos hfd] at hres
              rw [← hres, objR]
              simp (implicitDefEqProofs := false) (disch := omega) only [go_sem, simprocAttr, go_sem, Nat.le_refl, Tryd.results15, encV_nil, encT_nil, vZero, outH, fzHAs, fzHA, fzHL, fzH, cellsV]
            · rw [if_neg (by rw [hnf]; decide)] at hres
              generalize hk : keys.getD p.i ByteArray.empty = k at *
              have hple := posT_le p.ks k
              rw [hp.lk] at hple
              simp (implicitDefEqProofs := false) (disch := omega) only [go_sem, simprocAttr, go_sem, Nat.le_refl, Tryd.results15, encV_nil, encT_nil, vZero]
              refine CallOk.ofI (OkI.insert (st := ⟨[], _, _, _, _⟩) (tk := _) (by kernel_rfl) insS_roads rfl (by intro u hu; simp [Value.cells] at hu; subst hu; rfl) (by decide) (x := [vS k]) rfl ?_ p.bK p.i p.cK (posT p.ks k) (flatT p.ks) p.rK ?_ hp.rK hple hp.cK hp.mK (by omega) (by unfold maxLen; omega) hp.nK ?_ ((12, .box 29 [vI 5, vB false, vI 0, vS ByteArray.empty, insArg p.bI p.i p.cI, insArg p.bK p.i p.cK]) :: (0, .box 29 [vI 0, vB false, vI 0, vS ByteArray.empty, vNil, vNil]) :: heapM p.bI 29 (flatV p.is ++ p.rI)) ?_) rfl rfl rfl rfl ?_
              · simp only [upd, lkp, if_true]
              · rw [flatT_len, hp.lk, Nat.mul_one]
              · intro id e
                have := hp.idK id e
                show lkp ((12, _) :: (0, _) :: objH p) id = _
                rw [lkp_cons, if_neg (by omega), lkp_cons, if_neg (by omega)]
                exact hp.hK e
              · intro j o h
                show lkp ((12, _) :: (0, _) :: objH p) j = some o ∧ _
                rw [lkp_cons, lkp_cons] at h ⊢
                split at h
                · rename_i e
                  rw [if_pos e]
                  exact ⟨h, fun e' => by have := hp.idK _ e'; omega⟩
                · rename_i e
                  rw [if_neg e]
                  split at h
                  · rename_i e0
                    rw [if_pos e0]
                    exact ⟨h, fun e' => by have := hp.idK _ e'; omega⟩
                  · rename_i e0
                    rw [if_neg e0]
                    obtain ⟨e1, rfl⟩ := heapM_lkp h
                    exact ⟨hp.hI e1, fun e' => hp.ne _ _ e' e1 rfl⟩
              · rintro r st1 ⟨cK', rK', q1, q2, q3, q4, rfl, rfl⟩
                simp (implicitDefEqProofs := false) (disch := omega) only [go_sem, simprocAttr, go_sem, Nat.le_refl, Tryd.results15, encV_nil, encT_nil, vZero]
                refine p_bar (by kernel_rfl) ?_
                have hli := hp.li
                simp (implicitDefEqProofs := false) (disch := omega) only [go_sem, simprocAttr, go_sem, Nat.le_refl, Tryd.results15, encV_nil, encT_nil, vZero]
                refine CallOk.ofI (OkI.insert (st := ⟨[], _, _, _, _⟩) (tk := _) (by kernel_rfl) insV_roads rfl (by intro u hu; simp [Value.cells] at hu; rcases hu with rfl | rfl | rfl | rfl | rfl | rfl <;> rfl) (by decide) (x := cellsV (items.getD p.i default)) rfl ?_ p.bI p.i p.cI (posT p.ks k) (flatV p.is) p.rI ?_ hp.rI hple hp.cI hp.mI (by omega) (by unfold maxLen; omega) hp.nI ?_ ((p.nx + 1 + 5 + 3 + 9 + 1 + 5, .box 9 ((flatT p.ks).take (posT p.ks k * 1) ++ [vS k] ++ (flatT p.ks).drop (posT p.ks k * 1) ++ rK')) :: (12, .box 29 [vI 5, vB false, vI 0, vS ByteArray.empty, insArg p.bI p.i p.cI, .ms (p.nx + 1 + 5 + 3 + 9 + 1 + 5) 0 (p.i + 1) cK']) :: (0, .box 29 [vI 0, vB false, vI 0, vS ByteArray.empty, vNil, vNil]) :: []) ?_) rfl rfl rfl rfl ?_
                · simp (disch := omega) only [upd, lkp, if_true, tok_T, tok_F, toks_T, toks_F]
                · rw [flatV_len, hp.li]
                · intro id e
                  have := hp.idI id e
                  show lkp ((p.nx + 1 + 5 + 3 + 9 + 1 + 5, _) :: (12, _) :: (0, _) :: heapM p.bI 29 (flatV p.is ++ p.rI)) id = _
                  rw [lkp_cons, if_neg (by omega), lkp_cons, if_neg (by omega), lkp_cons, if_neg (by omega), e, heapM_own]
                · intro j o h
                  show lkp ((p.nx + 1 + 5 + 3 + 9 + 1 + 5, _) :: (12, _) :: (0, _) :: heapM p.bI 29 (flatV p.is ++ p.rI)) j = some o ∧ _
                  rw [lkp_cons, lkp_cons, lkp_cons] at h ⊢
                  split at h
                  · rename_i e
                    rw [if_pos e]
                    exact ⟨h, fun e' => by have := hp.idI _ e'; omega⟩
                  · rename_i e
                    rw [if_neg e]
                    split at h
                    · rename_i e0
                      rw [if_pos e0]
                      exact ⟨h, fun e' => by have := hp.idI _ e'; omega⟩
                    · rename_i e0
                      rw [if_neg e0]
                      split at h
                      · rename_i e1
                        rw [if_pos e1]
                        exact ⟨h, fun e' => by have := hp.idI _ e'; omega⟩
                      · cases h
                · rintro r st1 ⟨cI', rI', w1, w2, w3, w4, rfl, rfl⟩
                  simp (implicitDefEqProofs := false) (disch := omega) only [go_sem, simprocAttr, go_sem, Nat.le_refl, Tryd.results15, encV_nil, encT_nil, vZero]
                  refine ⟨⟨⟨p.i + 1, insAt p.ks (posT p.ks k) k, insAt p.is (posT p.ks k) (items.getD p.i default), some (p.nx + 1 + 5 + 3 + 9 + 1 + 5), cK', rK', some (p.nx + 1 + 5 + 3 + 9 + 1 + 5 + 1 + 8 + 8 + 0), cI', rI', p.nx + 1 + 5 + 3 + 9 + 1 + 5 + 1 + 8 + 8 + 0 + 1 + 1 + 11 + 2, p.nt + 1 + 5 + 3 + 9 + 1 + 5 + 8 + 8 + 0 + 1 + 11 + 2⟩, ?_⟩, by simp only; omega, ?_⟩
                  rotate_left
                  · simp only [objS, objH, heapM_some, insArg_some, List.cons_append, List.nil_append]
                    have eT : (flatT p.ks).take (posT p.ks k * 1) ++ [vS k] ++ (flatT p.ks).drop (posT p.ks k * 1) = flatT (insAt p.ks (posT p.ks k) k) := by
                      rw [Nat.mul_one, flatT_take, flatT_drop]; simp [insAt, flatT]
                    have eV : (flatV p.is).take (posT p.ks k * 6) ++ cellsV (items.getD p.i default) ++ (flatV p.is).drop (posT p.ks k * 6) = flatV (insAt p.is (posT p.ks k) (items.getD p.i default)) := by
                      rw [flatV_take, flatV_drop]
                      unfold insAt
                      rw [flatV_app, flatV_app]
                      rfl
                    rw [eT, eV]
                    refine ⟨?_, by simp (disch := omega) only [tok_T, tok_F, toks_T, toks_F, ob_T, ob_F, obs_T, obs_F, Bool.true_and, Bool.and_eq_true, go_sem, simprocAttr, decide_eq_true_eq, Int.natCast_add, Int.natCast_one, ltL_app, ltL_flatT, ltL_flatV, q4, w4] <;> try first | omega | ((repeat' (first | exact And.intro rfl (by omega) | (refine And.intro ?_ ?_))) <;> first | rfl | omega | (congr 3; omega) | (congr 2; omega)), ?_, ?_, ?_, ?_, ?_⟩ <;> simp only [go_sem, simprocAttr, decide_eq_true_eq, Int.natCast_add, Int.natCast_one, ltL_app, ltL_flatT, ltL_flatV, q4, w4] <;> try first | omega | ((repeat' (first | exact And.intro rfl (by omega) | (refine And.intro ?_ ?_))) <;> first | rfl | omega | (congr 3; omega) | (congr 2; omega))
                  · have hli2 : (insAt p.is (posT p.ks k) (items.getD p.i default)).length = p.i + 1 := by rw [insAt_len (by omega), hp.li]
                    refine ⟨by simp only; omega, by simp only; rw [insAt_len (by rw [hp.lk]; exact hple), hp.lk], hli2, ?_, hres, fun h => (by cases h), fun h => (by cases h), q1, w1, q2, w2, q3, w3, fun id h => ?_, fun id h => ?_, fun j l h1 h2 => ?_, by simp only; omega⟩
                    · exact ins_sort hp.sort hnf
                    · obtain rfl := Option.some.inj h
                      exact ⟨by omega, by simp only; omega⟩
                    · obtain rfl := Option.some.inj h
                      exact ⟨by omega, by simp only; omega⟩
                    · obtain rfl := Option.some.inj h1
                      obtain rfl := Option.some.inj h2
                      omega
        · have hpi := hp.hi
          have hie : p.i = keys.length := by omega
          have hres := hp.res
          rw [List.drop_eq_nil_of_le (by omega), putAll.eq_2 _ _ _ _ (fun _ _ _ _ h => by cases h), objR] at hres
          rw [← hres]
          simp (implicitDefEqProofs := false) (disch := omega) only [go_sem, simprocAttr, go_sem, Nat.le_refl, Tryd.results15, encV_nil, encT_nil, outH, fzHAs, fzHA, fzHL, fzH_val, hp.fzK, hp.fzI, cellsV]
  · rw [if_pos (by simpa using h1)]
    have hd : decide ((keys.length : Int) = (items.length : Int)) = false := decide_eq_false (by omega)
    simp (implicitDefEqProofs := false) (disch := omega) only [go_sem, simprocAttr, go_sem, Nat.le_refl, hd, Tryd.results15]
    simp (implicitDefEqProofs := false) (disch := omega) only [go_sem, simprocAttr, go_sem, Nat.le_refl, Tryd.results15, encV_nil, encT_nil, vZero, outH, fzHAs, fzHA, fzHL, fzH, cellsV]
end Go.Proofs.YtmfaejdnaippkaaDoor

end
section
/-
  Sizes and depths of values; the item of a key; the simple makers.
-/
open Go Go.Proofs Go.Pw Go.RowKit
namespace Go.Proofs.YtmfaejdnaippkaaDoor
set_option maxRecDepth 4000
set_option linter.unusedVariables false
set_option linter.unusedSimpArgs false
mutual
def nV : V → Nat
  | .mk _ _ _ _ is _ => 1 + nVs is
def nVs : List V → Nat
  | [] => 0
  | v :: r => nV v + nVs r
end
theorem nV_eq (v : V) : nV v = 1 + nVs v.items := by cases v; simp [nV, V.items]
theorem nVs_nil : nVs [] = 0 := by simp [nVs]
theorem nVs_cons (v : V) (l : List V) : nVs (v :: l) = nV v + nVs l := by simp [nVs]
theorem nVs_app : ∀ (l m : List V), nVs (l ++ m) = nVs l + nVs m
  | [], m => by rw [nVs_nil, List.nil_append, Nat.zero_add]
  | v :: r, m => by rw [List.cons_append, nVs_cons, nVs_cons, nVs_app r m]; omega
theorem getD_mem {α : Type} {l : List α} {i : Nat} {d : α} (h : i < l.length) : l.getD i d ∈ l := by
  rw [List.getD_eq_getElem?_getD, List.getElem?_eq_getElem h]; exact List.getElem_mem h
theorem V.small {v : V} {B : Nat} (h : szV v ≤ B) : v.items.length ≤ B ∧ v.keys.length ≤ B ∧ (∀ x ∈ v.items, szV x ≤ B) ∧ szVs v.items ≤ B := by
  have h1 := szVs_len v.items
  have h2 := szV_eq v
  have h3 := szT_len v.keys
  exact ⟨by omega, by omega, fun x hx => by have := szVs_mem hx; omega, by omega⟩
theorem num_ok (n : Int) : Ok Tryd.prog 17 [vI n] (.agg (cellsV (.mk 2 false n ByteArray.empty [] []))) := by
  refine Ok.of_pwp (by kernel_rfl) Tryd.func17 rfl (by kernel_rfl) (by kernel_rfl) ?_
  simp (implicitDefEqProofs := false) (disch := omega) only [go_sem, simprocAttr, go_sem, Nat.le_refl, cellsV, encV_nil, encT_nil, Tryd.results17]
end Go.Proofs.YtmfaejdnaippkaaDoor

end
