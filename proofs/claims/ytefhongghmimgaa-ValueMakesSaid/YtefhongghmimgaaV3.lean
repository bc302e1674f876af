/-
  Values as data: what they hold, cell by cell; rows that grow; lists of values.
-/
import Derived.Test.YtefhongghmimgaaV2
import Derived.Test.YtefhongghmimgaaI4
open Go Go.Proofs Go.Pw Go.RowKit
namespace Go.Proofs.Ytefhongghmimgaa
set_option maxRecDepth 4000
set_option linter.unusedVariables false
set_option linter.unusedSimpArgs false
inductive V where
  | mk (kind : Int) (b : Bool) (n : Int) (s : ByteArray) (items : List V) (keys : List ByteArray)
namespace V
def kind : V → Int | .mk k _ _ _ _ _ => k
def b : V → Bool | .mk _ b _ _ _ _ => b
def n : V → Int | .mk _ _ n _ _ _ => n
def s : V → ByteArray | .mk _ _ _ s _ _ => s
def items : V → List V | .mk _ _ _ _ l _ => l
def keys : V → List ByteArray | .mk _ _ _ _ _ l => l
end V
theorem V.kind_mk (k : Int) (b : Bool) (n : Int) (s : ByteArray) (l : List V) (ks : List ByteArray) : (V.mk k b n s l ks).kind = k := rfl
theorem V.b_mk (k : Int) (b : Bool) (n : Int) (s : ByteArray) (l : List V) (ks : List ByteArray) : (V.mk k b n s l ks).b = b := rfl
theorem V.n_mk (k : Int) (b : Bool) (n : Int) (s : ByteArray) (l : List V) (ks : List ByteArray) : (V.mk k b n s l ks).n = n := rfl
theorem V.s_mk (k : Int) (b : Bool) (n : Int) (s : ByteArray) (l : List V) (ks : List ByteArray) : (V.mk k b n s l ks).s = s := rfl
theorem V.items_mk (k : Int) (b : Bool) (n : Int) (s : ByteArray) (l : List V) (ks : List ByteArray) : (V.mk k b n s l ks).items = l := rfl
theorem V.keys_mk (k : Int) (b : Bool) (n : Int) (s : ByteArray) (l : List V) (ks : List ByteArray) : (V.mk k b n s l ks).keys = ks := rfl
attribute [go_sem] V.kind_mk V.b_mk V.n_mk V.s_mk V.items_mk V.keys_mk
def vZero : V := .mk 0 false 0 ByteArray.empty [] []
instance : Inhabited V := ⟨vZero⟩
mutual
def encC6 : V → List PV
  | .mk k b n s is ks => [vI k, vB b, vI n, vS s, .sl (encV is), .sl (encT ks)]
def encV : List V → List (List PV)
  | [] => []
  | v :: r => encC6 v :: encV r
end
/-- A value's cells. -/
abbrev cellsV (v : V) : List PV := [vI v.kind, vB v.b, vI v.n, vS v.s, .sl (encV v.items), .sl (encT v.keys)]
theorem encC6_eq (v : V) : encC6 v = cellsV v := by cases v; simp [encC6, cellsV, V.kind, V.b, V.n, V.s, V.items, V.keys]
theorem encV_nil : encV [] = [] := by simp [encV]
theorem encV_cons (v : V) (l : List V) : encV (v :: l) = cellsV v :: encV l := by rw [← encC6_eq]; simp [encV]
theorem encV_map : ∀ l, encV l = l.map cellsV
  | [] => encV_nil
  | v :: r => by rw [encV_cons, encV_map r]; rfl
theorem encV_len (l : List V) : (encV l).length = l.length := by rw [encV_map]; simp
theorem encV_get (l : List V) (i : Nat) : (encV l).getD i [] = if i < l.length then cellsV (l.getD i default) else [] := by
  rw [encV_map]
  by_cases h : i < l.length
  · simp [h, List.getD_eq_getElem?_getD]
  · rw [if_neg h, List.getD_eq_getElem?_getD, List.getElem?_eq_none (by simpa using h)]; rfl
theorem encV_take (l : List V) (n : Nat) : (encV l).take n = encV (l.take n) := by simp [encV_map, List.map_take]
theorem encV_drop (l : List V) (n : Nat) : (encV l).drop n = encV (l.drop n) := by simp [encV_map, List.map_drop]
theorem encV_app (l m : List V) : encV l ++ encV m = encV (l ++ m) := by simp [encV_map]
theorem encV_one (v : V) : [cellsV v] = encV [v] := by simp [encV_map]
theorem encV_snoc (l : List V) (v : V) : encV l ++ [cellsV v] = encV (l ++ [v]) := by simp [encV_map]
theorem ix_V {a : List V} {i : Int} {K : PV → Prop} (h0 : 0 ≤ i) (h1 : i < (a.length : Int)) : ixP 6 i K (.sl (encV a)) = K (.fp (cellsV (a.getD i.toNat default))) := by
  have h : i.toNat < a.length := by omega
  simp only [ixP, encV_get, if_pos h, encV_len, cellsV, List.length_cons, List.length_nil, h0, h1, true_and]
theorem ix_Vr {a : List V} {i : Int} {k : Nat} {K : PV → Prop} (h0 : 0 ≤ i) (h1 : i < (a.length : Int)) : ixP 6 i K (.row k (encV a)) = K (.fp (cellsV (a.getD i.toNat default))) := by
  have h : i.toNat < a.length := by omega
  simp only [ixP, encV_get, if_pos h, encV_len, cellsV, List.length_cons, List.length_nil, h0, h1, true_and]
theorem encV_all (l : List V) : (∀ x ∈ encV l, x.length = 6) = True := eq_true (fun x hx => by
  rw [encV_map] at hx
  obtain ⟨n, _, rfl⟩ := List.mem_map.1 hx
  rfl)
theorem fz_encV : ∀ (l : List V), fzLL (encV l) = some (encV l)
  | [] => by rw [encV_nil]; rfl
  | x :: r => by
    have ih := fz_encV r
    rw [encV_cons, fzLL, ih]
    rfl
attribute [go_sem ↓ 2000] ix_V ix_Vr
attribute [go_sem] encV_len encV_all fz_encV
/-! Cells, one behind the other. -/
def flatT (l : List ByteArray) : List PV := l.map fun s => vS s
def flatV (l : List V) : List PV := l.flatMap cellsV
theorem ltL_app {a b : Nat} : ∀ (l m : List PV), PV.ltL a b (l ++ m) = (PV.ltL a b l && PV.ltL a b m)
  | [], m => by simp [PV.ltL]
  | p :: r, m => by rw [List.cons_append, PV.ltL, PV.ltL, ltL_app r m, Bool.and_assoc]
theorem ltL_flatT (a b : Nat) : ∀ (l : List ByteArray), PV.ltL a b (flatT l) = true
  | [] => rfl
  | x :: r => by
    have ih := ltL_flatT a b r
    unfold flatT at ih ⊢
    rw [List.map_cons, PV.ltL, ih]; rfl
theorem ltL_flatV (a b : Nat) : ∀ (l : List V), PV.ltL a b (flatV l) = true
  | [] => rfl
  | x :: r => by
    have ih := ltL_flatV a b r
    unfold flatV at ih ⊢
    rw [List.flatMap_cons, ltL_app, ih]; rfl
theorem flatT_len (l : List ByteArray) : (flatT l).length = l.length := by simp [flatT]
theorem flatV_len (l : List V) : (flatV l).length = l.length * 6 := by
  unfold flatV
  induction l with
  | nil => rfl
  | cons v r ih => simp only [List.flatMap_cons, List.length_append, ih, List.length_cons, List.length_nil]; omega
theorem flatT_take (l : List ByteArray) (i : Nat) : (flatT l).take i = flatT (l.take i) := by simp [flatT, List.map_take]
theorem flatT_drop (l : List ByteArray) (i : Nat) : (flatT l).drop i = flatT (l.drop i) := by simp [flatT, List.map_drop]
theorem flatV_cons (v : V) (l : List V) : flatV (v :: l) = cellsV v ++ flatV l := rfl
theorem flatV_app (l m : List V) : flatV (l ++ m) = flatV l ++ flatV m := by simp [flatV]
theorem flatV_take : ∀ (l : List V) (i : Nat), (flatV l).take (i * 6) = flatV (l.take i)
  | l, 0 => by simp [flatV]
  | [], i + 1 => by simp [flatV]
  | v :: r, i + 1 => by
    rw [flatV_cons, List.take_succ_cons, flatV_cons, ← flatV_take r i, List.take_append, List.take_of_length_le (by simp; omega)]
    congr 2
    simp; omega
theorem flatV_drop : ∀ (l : List V) (i : Nat), (flatV l).drop (i * 6) = flatV (l.drop i)
  | l, 0 => by simp
  | [], i + 1 => by simp [flatV]
  | v :: r, i + 1 => by
    rw [flatV_cons, List.drop_succ_cons, ← flatV_drop r i, List.drop_append, List.drop_eq_nil_of_le (by simp; omega)]
    rw [List.nil_append]
    congr 1
    simp; omega
theorem chunksT (l : List ByteArray) (rest : List PV) : chunks 1 l.length (flatT l ++ rest) = encT l := by
  unfold chunks encT
  apply List.ext_getElem?
  intro j
  rw [List.getElem?_map, List.getElem?_map]
  by_cases h : j < l.length
  · rw [List.getElem?_range h, List.getElem?_eq_getElem h]
    simp only [Option.map_some, Nat.mul_one]
    rw [List.drop_append_of_le_length (by rw [flatT_len]; omega), flatT_drop, List.drop_eq_getElem_cons h]
    rfl
  · rw [List.getElem?_eq_none (by simpa using h), List.getElem?_eq_none (by simpa using h)]
    rfl
theorem chunksV (l : List V) (rest : List PV) : chunks 6 l.length (flatV l ++ rest) = encV l := by
  unfold chunks
  rw [encV_map]
  apply List.ext_getElem?
  intro j
  rw [List.getElem?_map, List.getElem?_map]
  by_cases h : j < l.length
  · rw [List.getElem?_range h, List.getElem?_eq_getElem h]
    simp only [Option.map_some]
    rw [List.drop_append_of_le_length (by rw [flatV_len]; omega), flatV_drop, List.drop_eq_getElem_cons h]
    rfl
  · rw [List.getElem?_eq_none (by simpa using h), List.getElem?_eq_none (by simpa using h)]
    rfl
/-! Sizes. -/
def szT : List ByteArray → Nat
  | [] => 0
  | k :: r => 1 + k.size + szT r
theorem szT_len : ∀ l, l.length ≤ szT l
  | [] => Nat.zero_le _
  | k :: r => by have := szT_len r; rw [szT, List.length_cons]; omega
theorem szT_few {l : List ByteArray} : ∀ s ∈ l, s.size ≤ szT l := by
  induction l with
  | nil => intro s h; cases h
  | cons k r ih =>
    intro s h
    rw [szT]
    rcases List.mem_cons.1 h with rfl | h
    · omega
    · have := ih s h; omega
mutual
def szV : V → Nat
  | .mk _ _ _ s is ks => 1 + s.size + szT ks + szVs is
def szVs : List V → Nat
  | [] => 0
  | v :: r => szV v + szVs r
end
theorem szV_eq (v : V) : szV v = 1 + v.s.size + szT v.keys + szVs v.items := by cases v; simp [szV, V.s, V.keys, V.items]
theorem szVs_nil : szVs [] = 0 := by simp [szVs]
theorem szVs_cons (v : V) (l : List V) : szVs (v :: l) = szV v + szVs l := by simp [szVs]
theorem szVs_app : ∀ (l m : List V), szVs (l ++ m) = szVs l + szVs m
  | [], m => by rw [szVs_nil, List.nil_append, Nat.zero_add]
  | v :: r, m => by rw [List.cons_append, szVs_cons, szVs_cons, szVs_app r m]; omega
theorem szV_pos (v : V) : 1 ≤ szV v := by rw [szV_eq]; omega
theorem szVs_len : ∀ (l : List V), l.length ≤ szVs l
  | [] => Nat.zero_le _
  | v :: r => by have := szV_pos v; have := szVs_len r; rw [szVs_cons, List.length_cons]; omega
theorem szVs_mem : ∀ {l : List V} {v : V}, v ∈ l → szV v ≤ szVs l
  | x :: r, v, h => by
    rw [szVs_cons]
    rcases List.mem_cons.1 h with rfl | h
    · omega
    · have := szVs_mem h; omega
theorem szVs_get {l : List V} {i : Nat} (h : i < l.length) : szV (l.getD i default) ≤ szVs l := by
  rw [List.getD_eq_getElem?_getD, List.getElem?_eq_getElem h]; exact szVs_mem (List.getElem_mem h)
/-- Induction over values. -/
theorem V.ind {p : V → Prop} (h : ∀ v, (∀ x ∈ v.items, p x) → p v) : ∀ v, p v := by
  have key : ∀ n, ∀ v, szV v < n → p v := by
    intro n
    induction n with
    | zero => intro v hv; omega
    | succ n ih =>
      intro v hv
      refine h v (fun x hx => ih x ?_)
      have := szVs_mem hx
      rw [szV_eq] at hv
      omega
  exact fun v => key _ v (Nat.lt_succ_self _)
end Go.Proofs.Ytefhongghmimgaa
