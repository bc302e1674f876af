import Derived.Test.YtmfaejdnaippkaaDoorGS10
/-
  Which values are good (plain); nodes ags data; the fixed example.
-/
open Go Go.Proofs Go.Pw Go.RowKit
namespace Go.Proofs.YtmfaejdnaippkaaDoor
set_option maxRecDepth 4000
set_option linter.unusedVariables false
set_option linter.unusedSimpArgs false
def bareB (k : Int) (b : Bool) (n : Int) (s : ByteArray) (il kl : Nat) : Bool :=
  (decide (k = 1) || !b) && (decide (k = 2) || decide (n = 0)) && (decide (k = 3) || decide (s = ByteArray.empty)) && (decide (4 ≤ k) || decide (il = 0)) && (decide (k = 5) || decide (kl = 0))
def sortB : List ByteArray → Bool
  | x :: y :: r => ltT x y && sortB (y :: r)
  | _ => true
def keyedB (k : Int) (il : Nat) (ks : List ByteArray) : Bool := ks.all isT && sortB ks && (decide (k ≠ 5) || decide (ks.length = il))
mutual
def goodB : V → Bool
  | .mk k b n s is ks => decide (0 ≤ k ∧ k ≤ 5) && bareB k b n s is.length ks.length && keyedB k is.length ks && isT s && goodBs is
def goodBs : List V → Bool
  | [] => true
  | v :: r => goodB v && goodBs r
end
theorem goodBs_eq : ∀ l, goodBs l = l.all goodB
  | [] => by simp [goodBs]
  | v :: r => by simp [goodBs, goodBs_eq r]
theorem goodB_eq (v : V) : goodB v = (decide (0 ≤ v.kind ∧ v.kind ≤ 5) && bareB v.kind v.b v.n v.s v.items.length v.keys.length && keyedB v.kind v.items.length v.keys && isT v.s && v.items.all goodB) := by
  cases v; rw [goodB, goodBs_eq]; rfl
theorem sortB_iff : ∀ l, sortB l = true ↔ SortT l
  | [] => by simp [sortB, SortT]
  | [x] => by simp [sortB, SortT]
  | x :: y :: r => by
    have ih := sortB_iff (y :: r)
    rw [sortB, Bool.and_eq_true, ih]
    constructor
    · rintro ⟨h1, h2⟩
      refine List.pairwise_cons.2 ⟨fun z hz => ?_, h2⟩
      rcases List.mem_cons.1 hz with rfl | hz
      · exact h1
      · exact ltT_trans h1 ((List.pairwise_cons.1 h2).1 z hz)
    · intro h
      exact ⟨(List.pairwise_cons.1 h).1 y (by simp), (List.pairwise_cons.1 h).2⟩
theorem isT_empty : isT ByteArray.empty = true := by
  unfold isT
  rw [scan_end (by decide)]
  rfl
/-! Short texts. -/
mutual
def str60 : V → Bool
  | .mk _ _ _ s is ks => decide (s.size ≤ 60) && ks.all (fun k => decide (k.size ≤ 60)) && str60s is
def str60s : List V → Bool
  | [] => true
  | v :: r => str60 v && str60s r
end
theorem str60s_eq : ∀ l, str60s l = l.all str60
  | [] => by simp [str60s]
  | v :: r => by simp [str60s, str60s_eq r]
theorem str60_eq (v : V) : str60 v = (decide (v.s.size ≤ 60) && v.keys.all (fun k => decide (k.size ≤ 60)) && v.items.all str60) := by
  cases v; rw [str60, str60s_eq]; rfl
/-! Numbers of 64 bits. -/
mutual
def fitV : V → Bool
  | .mk _ _ n _ is _ => decide (-9223372036854775808 ≤ n ∧ n ≤ 9223372036854775807) && fitVs is
def fitVs : List V → Bool
  | [] => true
  | v :: r => fitV v && fitVs r
end
theorem fitVs_eq : ∀ l, fitVs l = l.all fitV
  | [] => by simp [fitVs]
  | v :: r => by simp [fitVs, fitVs_eq r]
theorem fitV_eq (v : V) : fitV v = (decide (-9223372036854775808 ≤ v.n ∧ v.n ≤ 9223372036854775807) && v.items.all fitV) := by
  cases v; rw [fitV, fitVs_eq]; rfl
structure TreeOk (v : V) : Prop where
  good : goodB v = true
  str : str60 v = true
  size : nV v ≤ 40
  fit : fitV v = true
theorem nVs_pos : ∀ l : List V, l.length ≤ nVs l
  | [] => Nat.zero_le _
  | v :: r => by have := nVs_pos r; rw [nVs_cons, List.length_cons, nV_eq]; omega
theorem szT_60 : ∀ l : List ByteArray, (l.all fun k => decide (k.size ≤ 60)) = true → szT l ≤ 61 * l.length
  | [], _ => Nat.zero_le _
  | k :: r, h => by
    simp only [List.all_cons, Bool.and_eq_true, decide_eq_true_eq] at h
    have := szT_60 r h.2
    rw [szT, List.length_cons]; omega
theorem sz_of_good : ∀ v, goodB v = true → str60 v = true → szV v + 61 ≤ 122 * nV v := by
  refine V.ind fun v ih hg hs => ?_
  rw [goodB_eq] at hg
  rw [str60_eq] at hs
  simp only [Bool.and_eq_true, decide_eq_true_eq] at hg hs
  obtain ⟨⟨⟨⟨_, hbare⟩, hkey⟩, _⟩, hgi⟩ := hg
  obtain ⟨⟨hs1, hs2⟩, hsi⟩ := hs
  have hk := szT_60 _ hs2
  have hlen : v.keys.length ≤ v.items.length := by
    unfold bareB at hbare
    unfold keyedB at hkey
    simp only [Bool.and_eq_true, Bool.or_eq_true, decide_eq_true_eq] at hbare hkey
    rcases hbare.2 with h | h
    · rcases hkey.2 with h' | h'
      · exact absurd h h'
      · omega
    · omega
  have hsum : ∀ l : List V, (∀ x ∈ l, szV x + 61 ≤ 122 * nV x) → szVs l + 61 * l.length ≤ 122 * nVs l := by
    intro l
    induction l with
    | nil => intro _; rw [szVs_nil, nVs_nil]; simp
    | cons x r ihr =>
      intro h
      have h1 := h x (by simp)
      have h2 := ihr (fun y hy => h y (by simp [hy]))
      rw [szVs_cons, nVs_cons, List.length_cons]; omega
  have := hsum v.items (fun x hx => ih x hx (List.all_eq_true.1 hgi x hx) (List.all_eq_true.1 hsi x hx))
  rw [szV_eq, nV_eq]
  omega
theorem TreeOk.sz {v : V} (h : TreeOk v) : szV v ≤ 5000 := by
  have := sz_of_good v h.good h.str
  have := h.size
  omega
theorem TreeOk.sort {v : V} (h : TreeOk v) : SortT v.keys := by
  have hg := h.good
  rw [goodB_eq] at hg
  simp only [Bool.and_eq_true] at hg
  have hk := hg.1.1.2
  unfold keyedB at hk
  simp only [Bool.and_eq_true] at hk
  exact (sortB_iff _).1 hk.1.2
/-! Nodes. -/
structure Nd where
  kind : Int
  n : Int
  s : ByteArray
  items : List Int
  keys : List ByteArray
instance : Inhabited Nd := ⟨⟨0, 0, ByteArray.empty, [], []⟩⟩
abbrev cellsN (x : Nd) : List PV := [.val (.int .u8 x.kind), vI x.n, vS x.s, .sl (encC x.items), .sl (encT x.keys)]
def encN (l : List Nd) : List (List PV) := l.map cellsN
theorem encN_len (l : List Nd) : (encN l).length = l.length := by simp [encN]
theorem encN_get (l : List Nd) (i : Nat) : (encN l).getD i [] = if i < l.length then cellsN (l.getD i default) else [] := by
  unfold encN
  by_cases h : i < l.length
  · simp [h, List.getD_eq_getElem?_getD]
  · rw [if_neg h, List.getD_eq_getElem?_getD, List.getElem?_eq_none (by simpa using h)]; rfl
theorem encN_take (l : List Nd) (n : Nat) : (encN l).take n = encN (l.take n) := by simp [encN, List.map_take]
theorem ix_N {a : List Nd} {i : Int} {K : PV → Prop} (h0 : 0 ≤ i) (h1 : i < (a.length : Int)) : ixP 5 i K (.sl (encN a)) = K (.fp (cellsN (a.getD i.toNat default))) := by
  have h : i.toNat < a.length := by omega
  simp only [ixP, encN_get, if_pos h, encN_len, cellsN, List.length_cons, List.length_nil, h0, h1, true_and]
theorem encC_get (l : List Int) (i : Nat) : (encC l).getD i [] = if i < l.length then [vC (l.getD i 0)] else [] := by
  unfold encC
  by_cases h : i < l.length
  · simp [h, List.getD_eq_getElem?_getD]
  · rw [if_neg h, List.getD_eq_getElem?_getD, List.getElem?_eq_none (by simpa using h)]; rfl
theorem ix_C {a : List Int} {i : Int} {K : PV → Prop} (h0 : 0 ≤ i) (h1 : i < (a.length : Int)) : ixP 1 i K (.sl (encC a)) = K (.fp [vC (a.getD i.toNat 0)]) := by
  have h : i.toNat < a.length := by omega
  simp only [ixP, encC_get, if_pos h, encC_len, List.length_singleton, h0, h1, true_and]
attribute [go_sem ↓ 2000] ix_N ix_C
attribute [go_sem] encN_len
/-- A node's ranges. -/
structure NdOk (x : Nd) : Prop where
  kind : 0 ≤ x.kind ∧ x.kind ≤ 255
  num : -9223372036854775808 ≤ x.n ∧ x.n ≤ 9223372036854775807
  items : ∀ d ∈ x.items, 0 ≤ d ∧ d ≤ 255
  il : x.items.length ≤ 9223372036854775807
  kl : x.keys.length ≤ 9223372036854775807
def textL (s : ByteArray) : ByteArray := if s.size ≤ 60 ∧ isT s = true then s else ⟨#[97]⟩
theorem ltext_ok (s : ByteArray) : Ok Tryd.prog 23 [vS s] (vS (textL s)) := by
  refine Ok.of_pwp (by kernel_rfl) Tryd.func23 rfl (by kernel_rfl) (by kernel_rfl) ?_
  unfold textL
  by_cases h : s.size ≤ 60
  · have v := rvalid_ok s (by omega)
    have e : decide ((scan s 0).2 = s.size) = isT s := rfl
    rw [e] at v
    cases ht : isT s with
    | true =>
      rw [if_pos ⟨h, rfl⟩]
      rw [ht] at v
      simp (implicitDefEqProofs := false) (disch := omega) only [go_sem, simprocAttr, go_sem, Nat.le_refl, cellsV, Tryd.results23]
      with_reducible refine CallOk.of (v) rfl ?_
      simp (implicitDefEqProofs := false) (disch := omega) only [go_sem, simprocAttr, go_sem, Nat.le_refl, cellsV, Tryd.results23]
    | false =>
      rw [if_neg (by simp)]
      rw [ht] at v
      simp (implicitDefEqProofs := false) (disch := omega) only [go_sem, simprocAttr, go_sem, Nat.le_refl, cellsV, Tryd.results23]
      with_reducible refine CallOk.of (v) rfl ?_
      simp (implicitDefEqProofs := false) (disch := omega) only [go_sem, simprocAttr, go_sem, Nat.le_refl, cellsV, Tryd.results23]
  · rw [if_neg (fun h' => h h'.1)]
    simp (implicitDefEqProofs := false) (disch := omega) only [go_sem, simprocAttr, go_sem, Nat.le_refl, cellsV, Tryd.results23]
theorem textL_ok (s : ByteArray) : (textL s).size ≤ 60 ∧ isT (textL s) = true := by
  unfold textL
  split
  · assumption
  · exact ⟨by decide, by decide +kernel⟩
end Go.Proofs.YtmfaejdnaippkaaDoor
