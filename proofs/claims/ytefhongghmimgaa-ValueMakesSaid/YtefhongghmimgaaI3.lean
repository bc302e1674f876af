/-
  slices.Insert of one element, out of its four roads: where the new row lies, what it holds, and that no other block has turned.
-/
import Derived.Test.YtefhongghmimgaaI1
import Derived.Test.YtefhongghmimgaaI2
import Derived.Test.YtefhongghmimgaaTy
import Derived.Lib.Builder
open Go Go.Proofs Go.RowKit Go.Lib Go.Pw
namespace Go.Proofs.Ytefhongghmimgaa
set_option maxRecDepth 4000
set_option linter.unusedVariables false
set_option linter.unusedSimpArgs false
def setL : Nat → List Value → Array Value → Array Value
  | _, [], us => us
  | o, v :: r, us => setL (o + 1) r (us.setIfInBounds o v)
theorem setL_size : ∀ (vs : List Value) (o : Nat) (us : Array Value), (setL o vs us).size = us.size
  | [], _, _ => rfl
  | v :: r, o, us => by rw [setL, setL_size r]; simp
theorem setL_out : ∀ (vs : List Value) (o : Nat) (us : Array Value) (j : Nat), (j < o ∨ o + vs.length ≤ j) → (setL o vs us)[j]? = us[j]?
  | [], _, _, _, _ => rfl
  | v :: r, o, us, j, h => by
    rw [setL, setL_out r (o + 1) _ j (by simp at h; omega), Array.getElem?_setIfInBounds_ne (by simp at h; omega)]
theorem setL_in : ∀ (vs : List Value) (o : Nat) (us : Array Value) (j : Nat), j < vs.length → o + j < us.size → (setL o vs us)[o + j]? = vs[j]?
  | [], _, _, j, h, _ => by simp at h
  | v :: r, o, us, 0, h, h' => by
    rw [setL, setL_out r (o + 1) _ _ (by omega)]
    simp at h' ⊢
    simp [h']
  | v :: r, o, us, j + 1, h, h' => by
    have := setL_in r (o + 1) (us.setIfInBounds o v) j (by simp at h; omega) (by simp; omega)
    rw [setL, show o + (j + 1) = o + 1 + j by omega, this]
    rfl
theorem setL_one {vs : List Value} (hv : ∀ v ∈ vs, v.oneCell' = true) : ∀ (o : Nat) (us : Array Value), (∀ (j : Nat) (u : Value), us[j]? = some u → u.oneCell' = true) → ∀ (j : Nat) (u : Value), (setL o vs us)[j]? = some u → u.oneCell' = true := by
  induction vs with
  | nil => exact fun o us h => h
  | cons v r ih =>
    intro o us h
    rw [setL]
    refine ih (fun x hx => hv x (by simp [hx])) (o + 1) _ (fun j u hu => ?_)
    by_cases e : o = j
    · subst e
      by_cases hl : o < us.size
      · rw [Array.getElem?_setIfInBounds_self_of_lt hl] at hu
        obtain rfl := Option.some.inj hu
        exact hv _ (by simp)
      · rw [Array.getElem?_eq_none (by simpa using hl)] at hu; cases hu
    · rw [Array.getElem?_setIfInBounds_ne e] at hu
      exact h j u hu
theorem heap_setCells {b : Nat} {E : TypeId} {f : Nat × Nat} : ∀ (vs : List Value) (o : Nat) (w : World) (us : Array Value), w.heap[b]? = some (.cells us E f) → (w.setCells b o vs).heap[b]? = some (.cells (setL o vs us) E f)
  | [], _, _, _, h => h
  | v :: r, o, w, us, h => by
    rw [World.setCells, setL]
    refine heap_setCells r (o + 1) _ _ ?_
    unfold World.setCell
    simp [Array.getElem?_modify, h]
theorem size_setCells_ {b : Nat} : ∀ (vs : List Value) (o : Nat) (w : World), (w.setCells b o vs).heap.size = w.heap.size
  | [], _, _ => rfl
  | v :: r, o, w => by rw [World.setCells, size_setCells_ r]; simp [World.setCell]
theorem other_setCells_ {b k : Nat} (h : k ≠ b) : ∀ (vs : List Value) (o : Nat) (w : World), (w.setCells b o vs).heap[k]? = w.heap[k]?
  | [], _, _ => rfl
  | v :: r, o, w => by
    rw [World.setCells, other_setCells_ h r]
    simp [World.setCell, Array.getElem?_modify, Ne.symm h]
theorem rest_setCells_ {b : Nat} : ∀ (vs : List Value) (o : Nat) (w : World), (w.setCells b o vs).os = w.os ∧ (w.setCells b o vs).tape = w.tape ∧ (w.setCells b o vs).output = w.output
  | [], _, _ => ⟨rfl, rfl, rfl⟩
  | v :: r, o, w => rest_setCells_ r (o + 1) (w.setCell ⟨b, o, none⟩ v)

/-- The four roads, at one element. -/
structure Roads (P : Program) (F : FuncId) (E : TypeId) (sz by_ : Nat) (z : Value) : Prop where
  shift : ∀ (b n c i vb vc : Nat) (cs vs : List Value) (w : World), i < n → n + 1 ≤ c → c ≤ 9223372036854775807 → vb ≠ b → cs.length = n * sz → vs.length = sz →
    (∀ j v, cs[j]? = some v → w.cell? ⟨b, 0 + j, none⟩ = some v) → (∀ j, j < (n + 1) * sz → (w.cell? ⟨b, 0 + j, none⟩).isSome = true) → (∀ j, j < (n + 1) * sz → w.frozen? ⟨b, 0 + j, none⟩ = false) →
    (∀ j v, vs[j]? = some v → w.cell? ⟨vb, 0 + j, none⟩ = some v) → (∀ v ∈ cs, v.oneCell' = true) → (∀ v ∈ vs, v.oneCell' = true) →
    ∀ (tA tB : TypeId) (kA kB : Nat), w.shape? vb = some (tA, kA) → w.shape? b = some (tB, kB) → kB ≠ 0 → w.frozen? ⟨vb, 0, none⟩ = false → w.frozen? ⟨vb, kA, none⟩ = false →
    Calls P F #[.slice (some ⟨b, 0, none⟩) n c, .int .i64 i, .slice (some ⟨vb, 0, none⟩) 1 vc] w fun e w' =>
      e = .returned (.slice (some ⟨b, 0, none⟩) (n + 1) c) ∧ w' = (w.drew.setCells b (0 + (i + 1) * sz) (cs.drop (i * sz))).setCells b (0 + i * sz) vs
  end_room : ∀ (b n c vb vc : Nat) (vs : List Value) (w : World), n + 1 ≤ c → c ≤ 9223372036854775807 → vs.length = sz → (∀ j, j < sz → (w.cell? ⟨b, 0 + n * sz + j, none⟩).isSome = true) → (∀ j, j < sz → w.frozen? ⟨b, 0 + n * sz + j, none⟩ = false) →
    (∀ j v, vs[j]? = some v → w.cell? ⟨vb, 0 + j, none⟩ = some v) → (∀ v ∈ vs, v.oneCell' = true) →
    Calls P F #[.slice (some ⟨b, 0, none⟩) n c, .int .i64 n, .slice (some ⟨vb, 0, none⟩) 1 vc] w fun e w' =>
      e = .returned (.slice (some ⟨b, 0, none⟩) (n + 1) c) ∧ w' = w.setCells b (0 + n * sz) vs
  end_grow : ∀ (base : Option Addr) (n c vb vc : Nat) (cs vs : List Value) (w : World), n ≤ c → c < n + 1 → (n + 1) * by_ ≤ 140737488355328 → cs.length = n * sz → vs.length = sz → (base = none → n = 0) →
    (∀ a, base = some a → ∀ j v, cs[j]? = some v → w.cell? (a.add j) = some v) → (∀ j v, vs[j]? = some v → w.cell? ⟨vb, 0 + j, none⟩ = some v) → (∀ v ∈ vs, v.oneCell' = true) →
    Calls P F #[.slice base n c, .int .i64 n, .slice (some ⟨vb, 0, none⟩) 1 vc] w fun e w' =>
      e = .returned (.slice (some ⟨w.heap.size, 0, none⟩) (n + 1) (grownCap w (n + 1) c E)) ∧
      w' = w.drew.alloc (.cells ((cs ++ vs).toArray ++ Builtin.zeroCells z.cells (grownCap w (n + 1) c E - (n + 1))) E)
  grow : ∀ (b n c i vb vc : Nat) (cs vs : List Value) (w : World), i < n → n ≤ c → c < n + 1 → (n + 1) * by_ ≤ 140737488355328 → cs.length = n * sz → vs.length = sz →
    (∀ j v, cs[j]? = some v → w.cell? ⟨b, 0 + j, none⟩ = some v) → (∀ j v, vs[j]? = some v → w.cell? ⟨vb, 0 + j, none⟩ = some v) → (∀ v ∈ cs, v.oneCell' = true) → (∀ v ∈ vs, v.oneCell' = true) →
    Calls P F #[.slice (some ⟨b, 0, none⟩) n c, .int .i64 i, .slice (some ⟨vb, 0, none⟩) 1 vc] w fun e w' =>
      e = .returned (.slice (some ⟨w.heap.size, 0, none⟩) (n + 1) (grownCap w (n + 1) c E)) ∧
      w' = (((w.alloc (.cells ((cs.take (i * sz)).toArray ++ Builtin.zeroCells z.cells (n + 1 - i) ++ Builtin.zeroCells z.cells (grownCap w (n + 1) c E - (n + 1))) E)).drew.setCells w.heap.size (i * sz) vs).drew).setCells w.heap.size ((i + 1) * sz) (cs.drop (i * sz))
theorem insS_roads : Roads Try.prog 40 9 1 16 (.string ⟨#[]⟩) := by
  refine ⟨fun b n c i vb vc cs vs w h1 h2 h3 h4 h5 h6 h7 h8 h9 h10 h11 h12 tA tB kA kB h13 h14 h15 h16 h17 => ?_, fun b n c vb vc vs w h1 h2 h3 h4 h5 h6 h7 => ?_, fun base n c vb vc cs vs w h1 h2 h3 h4 h5 h6 h7 h8 h9 => ?_, fun b n c i vb vc cs vs w h1 h2 h3 h4 h5 h6 h7 h8 h9 h10 => ?_⟩ <;> (try simp only [Nat.mul_one] at *)
  · exact insS_shift b 0 n c i vb 0 1 vc cs vs w h1 (by omega) h2 h3 h4 h5 h6 h7 h8 h9 h10 h11 h12 tA tB kA kB h13 h14 h15 h16 h17
  · exact insS_end_room b 0 n c vb 0 1 vc vs w (by omega) h1 h2 h3 h4 h5 h6 h7
  · exact insS_end_grow base n c vb 0 1 vc cs vs w (by omega) h1 h2 (by omega) h4 h5 h6 h7 h8 h9
  · exact insS_grow b 0 n c i vb 0 1 vc cs vs w h1 (by omega) h2 h3 (by omega) h5 h6 h7 h8 h9 h10
theorem insV_roads : Roads Try.prog 41 31 6 88 (.agg #[.int .i64 0, .bool false, .int .i64 0, .string ⟨#[]⟩, .slice none 0 0, .slice none 0 0]) := by
  refine ⟨fun b n c i vb vc cs vs w h1 h2 h3 h4 h5 h6 h7 h8 h9 h10 h11 h12 tA tB kA kB h13 h14 h15 h16 h17 => ?_, fun b n c vb vc vs w h1 h2 h3 h4 h5 h6 h7 => ?_, fun base n c vb vc cs vs w h1 h2 h3 h4 h5 h6 h7 h8 h9 => ?_, fun b n c i vb vc cs vs w h1 h2 h3 h4 h5 h6 h7 h8 h9 h10 => ?_⟩
  · exact insV_shift b 0 n c i vb 0 1 vc cs vs w h1 (by omega) h2 h3 h4 h5 (by omega) h7 h8 h9 h10 h11 h12 tA tB kA kB h13 h14 h15 h16 h17
  · exact insV_end_room b 0 n c vb 0 1 vc vs w (by omega) h1 h2 (by omega) h4 h5 h6 h7
  · exact insV_end_grow base n c vb 0 1 vc cs vs w (by omega) h1 h2 (by omega) h4 (by omega) h6 h7 h8 h9
  · exact insV_grow b 0 n c i vb 0 1 vc cs vs w h1 (by omega) h2 h3 (by omega) h5 (by omega) h7 h8 h9 h10

/-- What Insert leaves. -/
structure InsDid (E : TypeId) (sz : Nat) (w : World) (base : Option Nat) (n i : Nat) (us uv : Array Value) (b' c' : Nat) (us' : Array Value) (w' : World) : Prop where
  room : n + 1 ≤ c'
  small : c' ≤ maxLen
  row : w'.heap[b']? = some (.cells us' E (0, 0))
  size : us'.size = c' * sz
  front : ∀ j, j < i * sz → us'[j]? = us[j]?
  mid : ∀ j, j < sz → us'[i * sz + j]? = uv[j]?
  back : ∀ j, i * sz ≤ j → j < n * sz → us'[j + sz]? = us[j]?
  one : ∀ (j : Nat) (u : Value), us'[j]? = some u → u.oneCell' = true
  place : base = some b' ∨ b' = w.heap.size
  os : w'.os = w.os
  tape : w'.tape = w.tape
  output : w'.output = w.output
  grew : w.heap.size ≤ w'.heap.size
  other : ∀ k, k < w.heap.size → base ≠ some k → w'.heap[k]? = w.heap[k]?
theorem zero_one {z : Value} (hz : ∀ u ∈ z.cells.toList, u.oneCell' = true) (n : Nat) : ∀ (j : Nat) (u : Value), (Builtin.zeroCells z.cells n)[j]? = some u → u.oneCell' = true := by
  intro j u h
  have hm : u ∈ (Builtin.zeroCells z.cells n) := Array.mem_of_getElem? h
  unfold Builtin.zeroCells at hm
  obtain ⟨i, hi, rfl⟩ := Array.mem_map.1 hm
  have hi : i < n * z.cells.size := Array.mem_range.1 hi
  have hp : 0 < z.cells.size := by
    rcases Nat.eq_zero_or_pos z.cells.size with h | h
    · rw [h] at hi; simp at hi
    · exact h
  have hl : i % z.cells.size < z.cells.size := Nat.mod_lt _ hp
  rw [getElem!_pos z.cells _ hl]
  exact hz _ (by simp)
theorem zero_size {z : Value} {sz : Nat} (hz : z.cells.size = sz) (n : Nat) : (Builtin.zeroCells z.cells n).size = n * sz := by
  unfold Builtin.zeroCells
  simp [hz]
set_option maxHeartbeats 1000000 in
theorem Roads.ins {P : Program} {F : FuncId} {E : TypeId} {sz by_ : Nat} {z : Value} (R : Roads P F E sz by_ z) (hzs : z.cells.size = sz) (hz1 : ∀ u ∈ z.cells.toList, u.oneCell' = true) (hsz : 0 < sz) (w : World) (base : Option Nat) (n c i vb vc : Nat) (us uv : Array Value)
    (hi : i ≤ n) (hn : n ≤ c) (hc : c ≤ maxLen) (hbig : (n + 1) * by_ ≤ 140737488355328) (hn63 : n + 1 ≤ maxLen) (hus : us.size = c * sz) (hnone : base = none → c = 0) (hb : ∀ b, base = some b → w.heap[b]? = some (.cells us E (0, 0)) ∧ vb ≠ b)
    (h1 : ∀ (j : Nat) (u : Value), us[j]? = some u → u.oneCell' = true) (hv : 1 ≤ vc) (hvb : w.heap[vb]? = some (.cells uv E (0, 0))) (hvs : uv.size = vc * sz) (hv1 : ∀ (j : Nat) (u : Value), j < sz → uv[j]? = some u → u.oneCell' = true) :
    Calls P F #[.slice (base.map fun b => ⟨b, 0, none⟩) n c, .int .i64 i, .slice (some ⟨vb, 0, none⟩) 1 vc] w fun e w' => ∃ b' c' us', e = .returned (.slice (some ⟨b', 0, none⟩) (n + 1) c') ∧ InsDid E sz w base n i us uv b' c' us' w' := by
  have hsv : sz ≤ uv.size := by rw [hvs]; exact Nat.le_mul_of_pos_left sz hv
  have hnz : n * sz ≤ us.size := by rw [hus]; exact Nat.mul_le_mul_right _ hn
  have hiz : i * sz ≤ n * sz := Nat.mul_le_mul_right _ hi
  have hn1 : (n + 1) * sz = n * sz + sz := Nat.succ_mul _ _
  have hi1 : (i + 1) * sz = i * sz + sz := Nat.succ_mul _ _
  have hcl : (us.toList.take (n * sz)).length = n * sz := by rw [List.length_take]; simp; omega
  have hvl : (uv.toList.take sz).length = sz := by rw [List.length_take]; simp; omega
  have hcget : ∀ j v, (us.toList.take (n * sz))[j]? = some v → us[j]? = some v := fun j v h => by
    rw [List.getElem?_take] at h
    split at h
    · simpa using h
    · cases h
  have hvget : ∀ j v, (uv.toList.take sz)[j]? = some v → uv[j]? = some v := fun j v h => by
    rw [List.getElem?_take] at h
    split at h
    · simpa using h
    · cases h
  have hcone : ∀ v ∈ us.toList.take (n * sz), v.oneCell' = true := fun v hv => by
    obtain ⟨j, hj⟩ := List.mem_iff_getElem?.1 hv
    exact h1 j v (hcget j v hj)
  have hvone : ∀ v ∈ uv.toList.take sz, v.oneCell' = true := fun v hv => by
    obtain ⟨j, hj⟩ := List.mem_iff_getElem?.1 hv
    exact hv1 j v (by have := (List.getElem?_eq_some_iff.1 hj).1; rw [hvl] at this; exact this) (hvget j v hj)
  have hvcell : ∀ j v, (uv.toList.take sz)[j]? = some v → w.cell? ⟨vb, 0 + j, none⟩ = some v := fun j v h => by
    rw [Nat.zero_add, Lib.cell_of_heap hvb]; exact hvget j v h
  have hvbl : vb < w.heap.size := (Array.getElem?_eq_some_iff.1 hvb).1
  have hmax : maxLen = 9223372036854775807 := rfl
  have hget : ∀ j, j < sz → (uv.toList.take sz)[j]? = uv[j]? := fun j hj => by rw [List.getElem?_take, if_pos hj]; simp
  cases base with
  | none =>
    have hc0 := hnone rfl
    subst hc0
    have hn0 : n = 0 := by omega
    subst hn0
    have hi0 : i = 0 := by omega
    subst hi0
    refine (R.end_grow none 0 0 vb vc (us.toList.take (0 * sz)) (uv.toList.take sz) w (Nat.le_refl _) (by omega) hbig hcl hvl (fun _ => rfl) (fun a ha => by cases ha) hvcell hvone).mono ?_
    rintro e w' ⟨rfl, rfl⟩
    have hg := grownCap_ge w (0 + 1) 0 E
    have hgm := grownCap_le_maxLen w (0 + 1) 0 E (by omega)
    refine ⟨w.heap.size, _, _, rfl, hg, hgm, heap_alloc_at (w := w.drew) _, ?_, fun j hj => by omega, fun j hj => ?_, fun j _ hj => by omega, fun j u hu => ?_, .inr rfl, rfl, rfl, rfl, (by show w.heap.size ≤ (w.heap.push _).size; simp), fun k hk _ => ?_⟩
    · simp only [Array.size_append, List.size_toArray, List.length_append, hcl, hvl, zero_size hzs]
      rw [← hn1, ← Nat.add_mul]
      congr 1
      omega
    · rw [Array.getElem?_append_left (by simp [hcl, hvl]; omega), ← hget j hj]
      simp
    · rw [Array.getElem?_append] at hu
      split at hu
      · have : u ∈ us.toList.take (0 * sz) ++ uv.toList.take sz := List.mem_of_getElem? (by simpa using hu)
        rcases List.mem_append.1 this with h | h
        · exact hcone u h
        · exact hvone u h
      · exact zero_one hz1 _ _ u hu
    · show (w.heap.push _)[k]? = _
      rw [Array.getElem?_push, if_neg (by omega)]
  | some b =>
    obtain ⟨hbw, hne⟩ := hb b rfl
    have hbl : b < w.heap.size := (Array.getElem?_eq_some_iff.1 hbw).1
    have hccell : ∀ j v, (us.toList.take (n * sz))[j]? = some v → w.cell? ⟨b, 0 + j, none⟩ = some v := fun j v h => by
      rw [Nat.zero_add, Lib.cell_of_heap hbw]; exact hcget j v h
    have hsome : ∀ j, j < us.size → (w.cell? ⟨b, j, none⟩).isSome = true := fun j hj => by
      rw [Lib.cell_of_heap hbw, Array.getElem?_eq_getElem hj]; rfl
    have hfz : ∀ j, w.frozen? ⟨b, j, none⟩ = false := fun j => by simp [World.frozen?, hbw]
    have hfv : ∀ j, w.frozen? ⟨vb, j, none⟩ = false := fun j => by simp [World.frozen?, hvb]
    by_cases hroom : n + 1 ≤ c
    · have hrz : (n + 1) * sz ≤ us.size := by rw [hus]; exact Nat.mul_le_mul_right _ hroom
      by_cases hin : i < n
      · refine (R.shift b n c i vb vc (us.toList.take (n * sz)) (uv.toList.take sz) w hin hroom (by omega) hne hcl hvl hccell (fun j hj => by rw [Nat.zero_add]; exact hsome j (by omega)) (fun j _ => hfz _) hvcell hcone hvone E E uv.size us.size
          (by simp [World.shape?, hvb]) (by simp [World.shape?, hbw]) (by omega) (hfv _) (hfv _)).mono ?_
        rintro e w' ⟨rfl, rfl⟩
        simp only [Nat.zero_add]
        have hdl : ((us.toList.take (n * sz)).drop (i * sz)).length = n * sz - i * sz := by rw [List.length_drop, hcl]
        have hw1 := heap_setCells (b := b) (E := E) (f := (0, 0)) ((us.toList.take (n * sz)).drop (i * sz)) ((i + 1) * sz) w.drew us hbw
        have hw2 := heap_setCells (uv.toList.take sz) (i * sz) _ _ hw1
        have r1 := rest_setCells_ (b := b) (uv.toList.take sz) (i * sz) (w.drew.setCells b ((i + 1) * sz) ((us.toList.take (n * sz)).drop (i * sz)))
        have r2 := rest_setCells_ (b := b) ((us.toList.take (n * sz)).drop (i * sz)) ((i + 1) * sz) w.drew
        refine ⟨b, c, _, rfl, hroom, hc, hw2, by rw [setL_size, setL_size, hus], fun j hj => ?_, fun j hj => ?_, fun j hj hj' => ?_, setL_one hvone _ _ (setL_one (fun v hv => hcone v (List.mem_of_mem_drop hv)) _ _ h1), .inl rfl, r1.1.trans r2.1, r1.2.1.trans r2.2.1, r1.2.2.trans r2.2.2, by rw [size_setCells_, size_setCells_]; exact Nat.le_refl _, fun k hk hkb => ?_⟩
        · rw [setL_out _ _ _ _ (by omega), setL_out _ _ _ _ (by omega)]
        · rw [setL_in _ _ _ _ (by omega) (by rw [setL_size]; omega), hget j hj]
        · rw [setL_out _ _ _ _ (by rw [hvl]; omega), show j + sz = (i + 1) * sz + (j - i * sz) by omega, setL_in _ _ _ _ (by omega) (by omega), List.getElem?_drop, List.getElem?_take, if_pos (by omega), show i * sz + (j - i * sz) = j by omega]
          simp
        · rw [other_setCells_ (fun e => hkb (by rw [e])), other_setCells_ (fun e => hkb (by rw [e]))]; rfl
      · have hin : i = n := by omega
        subst hin
        refine (R.end_room b i c vb vc (uv.toList.take sz) w hroom (by omega) hvl (fun j hj => by rw [Nat.zero_add]; exact hsome _ (by omega)) (fun j _ => hfz _) hvcell hvone).mono ?_
        rintro e w' ⟨rfl, rfl⟩
        simp only [Nat.zero_add]
        have hw1 := heap_setCells (b := b) (E := E) (f := (0, 0)) (uv.toList.take sz) (i * sz) w us hbw
        have r1 := rest_setCells_ (b := b) (uv.toList.take sz) (i * sz) w
        refine ⟨b, c, _, rfl, hroom, hc, hw1, by rw [setL_size, hus], fun j hj => ?_, fun j hj => ?_, fun j hj hj' => by omega, setL_one hvone _ _ h1, .inl rfl, r1.1, r1.2.1, r1.2.2, by rw [size_setCells_]; exact Nat.le_refl _, fun k hk hkb => ?_⟩
        · rw [setL_out _ _ _ _ (by omega)]
        · rw [setL_in _ _ _ _ (by omega) (by omega), hget j hj]
        · rw [other_setCells_ (fun e => hkb (by rw [e]))]
    · have hg := grownCap_ge w (n + 1) c E
      have hgm := grownCap_le_maxLen w (n + 1) c E (by omega)
      by_cases hin : i < n
      · refine (R.grow b n c i vb vc (us.toList.take (n * sz)) (uv.toList.take sz) w hin hn (by omega) hbig hcl hvl hccell hvcell hcone hvone).mono ?_
        rintro e w' ⟨rfl, rfl⟩
        have hdl : ((us.toList.take (n * sz)).drop (i * sz)).length = n * sz - i * sz := by rw [List.length_drop, hcl]
        have htl : ((us.toList.take (n * sz)).take (i * sz)).length = i * sz := by rw [List.length_take, hcl]; omega
        have h0 : ∀ (o : Array Value), (w.alloc (.cells o E)).drew.heap[w.heap.size]? = some (.cells o E (0, 0)) := fun o => heap_alloc_at (w := w) _
        have hw1 := heap_setCells (uv.toList.take sz) (i * sz) _ _ (h0 (((us.toList.take (n * sz)).take (i * sz)).toArray ++ Builtin.zeroCells z.cells (n + 1 - i) ++ Builtin.zeroCells z.cells (grownCap w (n + 1) c E - (n + 1))))
        have hw2 := heap_setCells ((us.toList.take (n * sz)).drop (i * sz)) ((i + 1) * sz) (World.drew _) _ hw1
        have hrs : (((us.toList.take (n * sz)).take (i * sz)).toArray ++ Builtin.zeroCells z.cells (n + 1 - i) ++ Builtin.zeroCells z.cells (grownCap w (n + 1) c E - (n + 1))).size = grownCap w (n + 1) c E * sz := by
          simp only [Array.size_append, List.size_toArray, htl, zero_size hzs]
          rw [← Nat.add_mul, ← Nat.add_mul]
          congr 1
          omega
        have hgz : (n + 1) * sz ≤ grownCap w (n + 1) c E * sz := Nat.mul_le_mul_right _ hg
        have hro : ∀ (j : Nat) (u : Value), (((us.toList.take (n * sz)).take (i * sz)).toArray ++ Builtin.zeroCells z.cells (n + 1 - i) ++ Builtin.zeroCells z.cells (grownCap w (n + 1) c E - (n + 1)))[j]? = some u → u.oneCell' = true := by
          intro j u hu
          rw [Array.getElem?_append] at hu
          split at hu
          · rw [Array.getElem?_append] at hu
            split at hu
            · exact hcone u (List.mem_of_mem_take (List.mem_of_getElem? (by simpa using hu)))
            · exact zero_one hz1 _ _ u hu
          · exact zero_one hz1 _ _ u hu
        have hrg : ∀ j, j < i * sz → (((us.toList.take (n * sz)).take (i * sz)).toArray ++ Builtin.zeroCells z.cells (n + 1 - i) ++ Builtin.zeroCells z.cells (grownCap w (n + 1) c E - (n + 1)))[j]? = us[j]? := by
          intro j hj
          rw [Array.getElem?_append_left (by simp only [Array.size_append, List.size_toArray, htl]; omega), Array.getElem?_append_left (by simp only [List.size_toArray, htl]; exact hj)]
          rw [List.getElem?_toArray, List.getElem?_take, if_pos hj, List.getElem?_take, if_pos (by omega)]
          simp
        generalize (((us.toList.take (n * sz)).take (i * sz)).toArray ++ Builtin.zeroCells z.cells (n + 1 - i) ++ Builtin.zeroCells z.cells (grownCap w (n + 1) c E - (n + 1))) = ROW at *
        have r1 := rest_setCells_ (b := w.heap.size) (uv.toList.take sz) (i * sz) (w.alloc (.cells ROW E)).drew
        have r2 := rest_setCells_ (b := w.heap.size) ((us.toList.take (n * sz)).drop (i * sz)) ((i + 1) * sz) (((w.alloc (.cells ROW E)).drew.setCells w.heap.size (i * sz) (uv.toList.take sz)).drew)
        refine ⟨w.heap.size, _, _, rfl, hg, hgm, hw2, by rw [setL_size, setL_size, hrs], fun j hj => ?_, fun j hj => ?_, fun j hj hj' => ?_, setL_one (fun v hv => hcone v (List.mem_of_mem_drop hv)) _ _ (setL_one hvone _ _ hro), .inr rfl, r2.1.trans r1.1, r2.2.1.trans r1.2.1, r2.2.2.trans r1.2.2, ?_, fun k hk hkb => ?_⟩
        · rw [setL_out _ _ _ _ (by omega), setL_out _ _ _ _ (by omega), hrg j hj]
        · rw [setL_out _ _ _ _ (by omega), setL_in _ _ _ _ (by omega) (by omega), hget j hj]
        · rw [show j + sz = (i + 1) * sz + (j - i * sz) by omega, setL_in _ _ _ _ (by omega) (by rw [setL_size]; omega), List.getElem?_drop, List.getElem?_take, if_pos (by omega), show i * sz + (j - i * sz) = j by omega]
          simp
        · rw [size_setCells_]
          show w.heap.size ≤ (World.setCells _ _ _ _).heap.size
          rw [size_setCells_]
          show w.heap.size ≤ (w.heap.push _).size
          simp
        · rw [other_setCells_ (by omega)]
          show (World.setCells _ _ _ _).heap[k]? = _
          rw [other_setCells_ (by omega)]
          show (w.heap.push _)[k]? = _
          rw [Array.getElem?_push, if_neg (by omega)]
      · have hin : i = n := by omega
        subst hin
        refine (R.end_grow (some ⟨b, 0, none⟩) i c vb vc (us.toList.take (i * sz)) (uv.toList.take sz) w hn (by omega) hbig hcl hvl (fun h => by cases h) (fun a ha j v hj => by
          obtain rfl := Option.some.inj ha
          rw [Addr.add_lit]; exact hccell j v hj) hvcell hvone).mono ?_
        rintro e w' ⟨rfl, rfl⟩
        refine ⟨w.heap.size, _, _, rfl, hg, hgm, heap_alloc_at (w := w.drew) _, ?_, fun j hj => ?_, fun j hj => ?_, fun j _ hj => by omega, fun j u hu => ?_, .inr rfl, rfl, rfl, rfl, (by show w.heap.size ≤ (w.heap.push _).size; simp), fun k hk _ => ?_⟩
        · simp only [Array.size_append, List.size_toArray, List.length_append, hcl, hvl, zero_size hzs]
          rw [← hn1, ← Nat.add_mul]
          congr 1
          omega
        · rw [Array.getElem?_append_left (by simp [hcl, hvl]; omega)]
          rw [List.getElem?_toArray, List.getElem?_append_left (by omega), List.getElem?_take, if_pos (by omega)]
          simp
        · rw [Array.getElem?_append_left (by simp [hcl, hvl]; omega)]
          rw [List.getElem?_toArray, List.getElem?_append_right (by omega), hcl, Nat.add_sub_cancel_left, hget j hj]
        · rw [Array.getElem?_append] at hu
          split at hu
          · have : u ∈ us.toList.take (i * sz) ++ uv.toList.take sz := List.mem_of_getElem? (by simpa using hu)
            rcases List.mem_append.1 this with h | h
            · exact hcone u h
            · exact hvone u h
          · exact zero_one hz1 _ _ u hu
        · show (w.heap.push _)[k]? = _
          rw [Array.getElem?_push, if_neg (by omega)]
end Go.Proofs.Ytefhongghmimgaa
