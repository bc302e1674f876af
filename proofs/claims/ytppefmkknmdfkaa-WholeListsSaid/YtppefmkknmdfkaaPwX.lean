/-
  How lists of numbers and of texts read, and rules for rows that may still be nil.
-/
import Derived.Test.YtppefmkknmdfkaaPwR
namespace Go.Pw
open Go Go.RowKit
set_option linter.unusedVariables false
abbrev vI (n : Int) : PV := .val (.int .i64 n)
abbrev vU (n : Int) : PV := .val (.int .u64 n)
abbrev vC (n : Int) : PV := .val (.int .u8 n)
abbrev vB (b : Bool) : PV := .val (.bool b)
abbrev vS (s : ByteArray) : PV := .val (.string s)
abbrev vNil : PV := .val (.slice none 0 0)
def encI (l : List Int) : List (List PV) := l.map fun n => [.val (.int .i64 n)]
theorem encI_len (l : List Int) : (encI l).length = l.length := by simp [encI]
theorem encI_get (l : List Int) (i : Nat) : (encI l).getD i [] = if i < l.length then [vI (l.getD i 0)] else [] := by
  unfold encI
  by_cases h : i < l.length
  · simp [h, List.getD_eq_getElem?_getD]
  · rw [if_neg h, List.getD_eq_getElem?_getD, List.getElem?_eq_none (by simpa using h)]; rfl
theorem encI_take (l : List Int) (n : Nat) : (encI l).take n = encI (l.take n) := by simp [encI, List.map_take]
theorem encI_drop (l : List Int) (n : Nat) : (encI l).drop n = encI (l.drop n) := by simp [encI, List.map_drop]
theorem encI_app (l m : List Int) : encI l ++ encI m = encI (l ++ m) := by simp [encI]
theorem encI_snoc (l : List Int) (f : Int) : encI l ++ [[.val (.int .i64 f)]] = encI (l ++ [f]) := by simp [encI]
theorem encI_one (f : Int) : [[PV.val (.int .i64 f)]] = encI [f] := by simp [encI]
theorem encI_nil : encI [] = [] := rfl
theorem ix_enc {a : List Int} {i : Int} {K : PV → Prop} (h0 : 0 ≤ i) (h1 : i < (a.length : Int)) : ixP 1 i K (.sl (encI a)) = K (.fp [vI (a.getD i.toNat 0)]) := by
  have h : i.toNat < a.length := by omega
  simp only [ixP, encI_get, if_pos h, encI_len, List.length_singleton, h0, h1, true_and]
theorem ix_encr {a : List Int} {i : Int} {k : Nat} {K : PV → Prop} (h0 : 0 ≤ i) (h1 : i < (a.length : Int)) : ixP 1 i K (.row k (encI a)) = K (.fp [vI (a.getD i.toNat 0)]) := by
  have h : i.toNat < a.length := by omega
  simp only [ixP, encI_get, if_pos h, encI_len, List.length_singleton, h0, h1, true_and]
/-- A row of numbers, or nil. -/
def rowI (k : Nat) : List Int → PV
  | [] => vNil
  | x :: r => .row k (encI (x :: r))
def tokI (k : Nat) (e : TypeId) : List Int → List (Nat × Tok)
  | [] => []
  | x :: r => [(k, ⟨e, 1, (x :: r).length⟩)]
/-- Where the next one goes. -/
def nextK (k tk : Nat) : List Int → Nat
  | [] => tk
  | _ :: _ => k
theorem rowI_snoc (k : Nat) (l : List Int) (f : Int) : rowI k (l ++ [f]) = .row k (encI (l ++ [f])) := by cases l <;> rfl
theorem tokI_snoc (k : Nat) (e : TypeId) (l : List Int) (f : Int) : tokI k e (l ++ [f]) = [(k, ⟨e, 1, l.length + 1⟩)] := by cases l <;> simp [tokI]
theorem app_rowI {e : TypeId} {b tk k : Nat} {st : PS} {K : Delta → Prop} {l : List Int} {f : Int} (ht : st.toks = tokI k e l) (h1 : (l.length + 1) * b ≤ 140737488355328) (h2 : l.length + 1 ≤ 9223372036854775807) :
    appT e 1 b st tk K (rowI k l) [[.val (.int .i64 f)]] = K ⟨none, some (nextK k tk l, ⟨e, 1, l.length + 1⟩), some (.row (nextK k tk l) (encI (l ++ [f])))⟩ := by
  cases l with
  | nil =>
    refine propext ⟨fun h => h.2.2, fun h => ⟨by simpa using h1, by simp, h⟩⟩
  | cons x r =>
    have e1 : lkp st.toks k = some ⟨e, 1, (x :: r).length⟩ := by rw [ht]; simp [tokI, lkp]
    have e2 : (encI (x :: r)).length = (x :: r).length := encI_len _
    unfold rowI appT
    simp only
    rw [e1, b_some, encI_snoc, e2]
    refine propext ⟨fun h => h.2.2.2.2.2, fun h => ⟨rfl, rfl, rfl, h1, h2, h⟩⟩
theorem upd_tokI (k tk : Nat) (e : TypeId) (l : List Int) (t : Tok) : upd (tokI k e l) (nextK k tk l) t = [(nextK k tk l, t)] := by
  cases l <;> simp [tokI, nextK, upd]
theorem len_rowI (k : Nat) (l : List Int) (K : PV → Prop) : lenP K (rowI k l) = K (.val (.int .i64 l.length)) := by
  cases l with
  | nil => exact propext Iff.rfl
  | cons x r => simp only [rowI, lenP, encI_len]
theorem ix_rowI {a : List Int} {i : Int} {k : Nat} {K : PV → Prop} (h0 : 0 ≤ i) (h1 : i < (a.length : Int)) : ixP 1 i K (rowI k a) = K (.fp [vI (a.getD i.toNat 0)]) := by
  cases a with
  | nil => simp at h1; omega
  | cons x r => exact ix_encr h0 h1
theorem fz_rowI (k : Nat) (l : List Int) : fzA (rowI k l) = some (.sl (encI l)) := by
  cases l <;> rfl
theorem fz1_rowI (k : Nat) (l : List Int) : fz (rowI k l) = some (.sl (encI l)) := by
  cases l <;> rfl
end Go.Pw
