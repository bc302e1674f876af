/-
  Contracts and plain laws on the way to the statement; each says its own conditions.
-/
import Derived.Test.YtmfaejdnaippkaaDoorGS8
import Derived.Test.YtmfaejdnaippkaaDoorGS13
import Derived.Test.YtmfaejdnaippkaaDoorGS5
import Derived.Test.YtmfaejdnaippkaaDoorGS10
import Derived.Lib.AppendZeros
import Derived.WalkKit
import Derived.Lib.Walk
import Derived.Lib.SliceRun
import Derived.Test.YtmfaejdnaippkaaDoorGS3
import Derived.ChangeSlices
import Derived.ChangeArms
import Derived.OpenShut
section
/-
  Values' texts, by definition; how long they are.
-/
open Go Go.Proofs Go.Pw Go.RowKit
namespace Go.Proofs.YtmfaejdnaippkaaDoor
set_option maxRecDepth 4000
set_option linter.unusedVariables false
set_option linter.unusedSimpArgs false
/-- The first i items, written. g: what stands ahead of each; c: behind each key (o: there are keys). -/
def itT (g c : ByteArray) (o : Bool) (ks its : List ByteArray) : Nat → ByteArray
  | 0 => ByteArray.empty
  | i + 1 => itT g c o ks its i ++ (if 0 < i then bC 44 else ByteArray.empty) ++ g ++ (if o then qF (ks.getD i ByteArray.empty) ++ c else ByteArray.empty) ++ its.getD i ByteArray.empty
/-- The items, and what closes them. g0: what stands ahead of that. -/
def inT (g0 g c : ByteArray) (o : Bool) (ks its : List ByteArray) : ByteArray := itT g c o ks its its.length ++ (if 0 < its.length then g0 else ByteArray.empty)
/-- A value written, its items' texts given. -/
def nodeT (g0 g c : ByteArray) (k : Int) (b : Bool) (n : Int) (s : ByteArray) (ks its : List ByteArray) : ByteArray :=
  if k = 1 then (if b = true then ⟨#[116, 114, 117, 101]⟩ else ⟨#[102, 97, 108, 115, 101]⟩) else if k = 2 then sOf n else if k = 3 then qF s else if k = 4 then ⟨#[91]⟩ ++ inT g0 g c false ks its ++ ⟨#[93]⟩ else if k = 5 then ⟨#[123]⟩ ++ inT g0 g c true ks its ++ ⟨#[125]⟩ else ⟨#[110, 117, 108, 108]⟩
mutual
/-- A value's text, at a depth. -/
def txV (G : Nat → ByteArray) (c : ByteArray) : Nat → V → ByteArray
  | d, .mk k b n s is ks => nodeT (G d) (G (d + 1)) c k b n s ks (txVs G c (d + 1) is)
def txVs (G : Nat → ByteArray) (c : ByteArray) : Nat → List V → List ByteArray
  | d, [] => []
  | d, v :: l => txV G c d v :: txVs G c d l
end
theorem txVs_eq (G : Nat → ByteArray) (c : ByteArray) (d : Nat) : ∀ l, txVs G c d l = l.map (txV G c d)
  | [] => by simp [txVs]
  | v :: l => by simp [txVs, txVs_eq G c d l]
theorem txV_eq (G : Nat → ByteArray) (c : ByteArray) (d : Nat) (v : V) : txV G c d v = nodeT (G d) (G (d + 1)) c v.kind v.b v.n v.s v.keys (v.items.map (txV G c (d + 1))) := by
  cases v; rw [txV, txVs_eq]; rfl
theorem map_get {l : List V} {i : Nat} (f : V → ByteArray) (h : i < l.length) : (l.map f).getD i ByteArray.empty = f (l.getD i default) := by
  simp [List.getD_eq_getElem?_getD, h]
/-- What is needed of a value to be written: its numbers have 64 bits, each item of an object has a key. -/
def wrB (k n : Int) (il kl : Nat) : Bool := decide (-9223372036854775808 ≤ n ∧ n ≤ 9223372036854775807 ∧ (k = 5 → il ≤ kl))
mutual
def wrV : V → Bool
  | .mk k _ n _ is ks => wrB k n is.length ks.length && wrVs is
def wrVs : List V → Bool
  | [] => true
  | v :: r => wrV v && wrVs r
end
theorem wrVs_eq : ∀ l, wrVs l = l.all wrV
  | [] => by simp [wrVs]
  | v :: r => by simp [wrVs, wrVs_eq r]
theorem wrV_eq (v : V) : wrV v = (wrB v.kind v.n v.items.length v.keys.length && v.items.all wrV) := by
  cases v; rw [wrV, wrVs_eq]; rfl
theorem wrV_get {v : V} (h : wrV v = true) : (-9223372036854775808 ≤ v.n ∧ v.n ≤ 9223372036854775807) ∧ (v.kind = 5 → v.items.length ≤ v.keys.length) ∧ ∀ x ∈ v.items, wrV x = true := by
  rw [wrV_eq, Bool.and_eq_true, wrB, decide_eq_true_eq] at h
  exact ⟨⟨h.1.1, h.1.2.1⟩, h.1.2.2, List.all_eq_true.1 h.2⟩
theorem TreeOk.wr {v : V} (h : TreeOk v) : wrV v = true := by
  have key : ∀ v, goodB v = true → fitV v = true → wrV v = true := by
    refine V.ind fun v ih hg hf => ?_
    rw [goodB_eq] at hg
    rw [fitV_eq] at hf
    simp only [Bool.and_eq_true, decide_eq_true_eq, keyedB, Bool.or_eq_true, List.all_eq_true] at hg hf
    rw [wrV_eq, Bool.and_eq_true, wrB, decide_eq_true_eq]
    refine ⟨⟨hf.1.1, hf.1.2, fun h5 => ?_⟩, List.all_eq_true.2 fun x hx => ih x hx (hg.2 x hx) (hf.2 x hx)⟩
    rcases hg.1.1.2.2 with h | h
    · exact absurd h5 h
    · omega
  exact key v h.good h.fit
theorem szT_take (l : List ByteArray) : ∀ i, szT (l.take (i + 1)) + 0 ≥ szT (l.take i) + (l.getD i ByteArray.empty).size ∧ szT (l.take i) ≤ szT l := by
  induction l with
  | nil => intro i; simp [szT]
  | cons k r ih =>
    intro i
    cases i with
    | zero => simp [szT]
    | succ i =>
      have := ih i
      simp only [List.take_succ_cons, szT, List.getD_cons_succ]
      omega
theorem szVs_takeS {l : List V} {i : Nat} (h : i < l.length) : szVs (l.take (i + 1)) = szVs (l.take i) + szV (l.getD i default) ∧ nVs (l.take (i + 1)) = nVs (l.take i) + nV (l.getD i default) ∧ szVs (l.take (i + 1)) ≤ szVs l ∧ nVs (l.take (i + 1)) ≤ nVs l := by
  have e := take_snocG (a := l) (d := default) h
  have e1 := szVs_app (l.take i) [l.getD i default]
  have e2 := nVs_app (l.take i) [l.getD i default]
  rw [← e, szVs_cons, szVs_nil] at e1
  rw [← e, nVs_cons, nVs_nil] at e2
  have e3 := szVs_app (l.take (i + 1)) (l.drop (i + 1))
  have e4 := nVs_app (l.take (i + 1)) (l.drop (i + 1))
  rw [List.take_append_drop] at e3 e4
  omega
theorem itT_size {g c : ByteArray} {o : Bool} {ks : List ByteArray} {is : List V} {f : V → ByteArray} (hg : g.size ≤ 400) (hc : c.size ≤ 2) (hf : ∀ x ∈ is, (f x).size + 430 ≤ 60 * szV x + 800 * nV x) :
    ∀ i, i ≤ is.length → (itT g c o ks (is.map f) i).size ≤ 60 * szVs (is.take i) + 800 * nVs (is.take i) + 6 * szT (ks.take i)
  | 0, _ => by simp [itT]
  | i + 1, h => by
    have ih := itT_size (o := o) (ks := ks) hg hc hf i (by omega)
    have h1 := hf _ (getD_mem (d := default) (show i < is.length by omega))
    obtain ⟨e1, e2, _, _⟩ := szVs_takeS (show i < is.length by omega)
    have e3 := (szT_take ks i).1
    have e4 := qF_size (ks.getD i ByteArray.empty)
    rw [itT, ByteArray.size_append, ByteArray.size_append, ByteArray.size_append, ByteArray.size_append, map_get f (by omega), e1, e2]
    have a1 : (if 0 < i then bC 44 else ByteArray.empty).size ≤ 1 := by split <;> simp [bC_size]
    have a2 : (if o = true then qF (ks.getD i ByteArray.empty) ++ c else ByteArray.empty).size ≤ 6 * (ks.getD i ByteArray.empty).size + 4 := by
      split
      · rw [ByteArray.size_append]; omega
      · simp
    omega
theorem sOf_le (n : Int) (h : -9223372036854775808 ≤ n ∧ n ≤ 9223372036854775807) : (sOf n).size ≤ 21 := sOf_size n h
theorem txV_size {G : Nat → ByteArray} {c : ByteArray} {D : Nat} (hG : ∀ d, d ≤ D → (G d).size ≤ 400) (hc : c.size ≤ 2) : ∀ v d, wrV v = true → d + nV v ≤ D → (txV G c d v).size + 430 ≤ 60 * szV v + 800 * nV v := by
  refine V.ind fun v ih d hw hd => ?_
  obtain ⟨hf, _, hx⟩ := wrV_get hw
  have hn := nV_eq v
  have hz := szV_eq v
  have hkt := (szT_take v.keys v.items.length).2
  have hin : ∀ o, (inT (G d) (G (d + 1)) c o v.keys (v.items.map (txV G c (d + 1)))).size ≤ 60 * szVs v.items + 800 * nVs v.items + 6 * szT v.keys + 400 := fun o => by
    have hit := itT_size (g := G (d + 1)) (c := c) (o := o) (ks := v.keys) (is := v.items) (f := txV G c (d + 1))
    rw [inT, List.length_map, ByteArray.size_append]
    have h0 := hG d (by omega)
    have h2 : (if 0 < v.items.length then G d else ByteArray.empty).size ≤ 400 := by
      split
      · exact h0
      · simp
    by_cases h1 : v.items.length = 0
    · have e0 : itT (G (d + 1)) c o v.keys (v.items.map (txV G c (d + 1))) v.items.length = ByteArray.empty := by rw [h1]; rfl
      rw [e0, ByteArray.size_empty]; omega
    · have hg : (G (d + 1)).size ≤ 400 := hG _ (by have := nVs_pos v.items; omega)
      have := hit hg hc (fun x hx' => ih x hx' (d + 1) (hx x hx') (by
        have : nV x ≤ nVs v.items := by
          obtain ⟨i, hi, rfl⟩ := List.mem_iff_getElem.1 hx'
          have := szVs_takeS hi
          rw [List.getD_eq_getElem?_getD, List.getElem?_eq_getElem hi] at this
          simp only [Option.getD_some] at this
          omega
        omega)) _ (Nat.le_refl _)
      rw [List.take_length] at this
      omega
  have h1 := sOf_le v.n hf
  have h2 := qF_size v.s
  have h3 := hin true
  have h4 := hin false
  rw [txV_eq, nodeT]
  repeat' split
  all_goals first | (show 4 + 430 ≤ _; omega) | (show 5 + 430 ≤ _; omega) | omega | (rw [ByteArray.size_append, ByteArray.size_append]; show 1 + _ + 1 + 430 ≤ _; omega)
end Go.Proofs.YtmfaejdnaippkaaDoor

end
section
/-
  A value's text: the program's.
-/
open Go Go.Proofs Go.Pw Go.RowKit
namespace Go.Proofs.YtmfaejdnaippkaaDoor
set_option maxRecDepth 4000
set_option linter.unusedVariables false
set_option linter.unusedSimpArgs false
/-- The state of a writer alone. -/
def wr0 (a : PV) (s : ByteArray) (rest : List PV) : PS := ⟨[], bldB 55 0 a s rest, tokS 0 5 s, 1, 1⟩
/-- What writes t, by the writer's own memory. -/
def Writes (g : FuncId) (rest ags : List PV) (s t : ByteArray) : Prop := ∀ a, (a = vNP ∨ a = .ptr 0 0) → OkI Tryd.prog g (.ptr 0 0 :: ags) (wr0 a s rest) (bldQ 55 (s ++ t) rest (.tup []))
/-- What writes, at a state with more objects. -/
theorem Writes.at {g : FuncId} {rest ags : List PV} {s t : ByteArray} (h : Writes g rest ags s t) (hrest : PV.ltL 0 0 rest = true) (has : PV.ltL 0 0 ags = true) {a : PV} (k : Nat) {H : List (Nat × PObj)} {nx nt : Nat} (ha : a = vNP ∨ a = .ptr 0 0) (hx : 0 < nx) (hk : k < nt) (ho : lkp H 0 = some (.box 55 (a :: rowS k s :: rest))) :
    OkI Tryd.prog g (.ptr 0 0 :: ags) ⟨[], H, tokS k 5 s, nx, nt⟩ (fun r st' => r = .tup [] ∧ ∃ k' nt', k' < nt' ∧ nt ≤ nt' ∧ st' = ⟨[], (0, .box 55 (.ptr 0 0 :: rowS k' (s ++ t) :: rest)) :: dropH [0] H, tokS k' 5 (s ++ t), nx, nt'⟩) := by
  refine OkI.mono' (bld_at (st := ⟨[], H, tokS k 5 s, nx, nt⟩) 0 k (fun a ha => h a ha) hx hk ha hrest has rfl ho lkp_tokS) ?_
  rintro r st' ⟨rfl, k', nt', g1, g2, rfl⟩
  refine ⟨rfl, k', nt', g1, g2, ?_⟩
  simp [dropK_tokS, dropH, inL]
/-- What writes into a writer that has been written into. -/
def WritesP (g : FuncId) (rest ags : List PV) (s t : ByteArray) : Prop := OkI Tryd.prog g (.ptr 0 0 :: ags) (wr0 (.ptr 0 0) s rest) (bldQ 55 (s ++ t) rest (.tup []))
theorem WritesP.at {g : FuncId} {rest ags : List PV} {s t : ByteArray} (h : WritesP g rest ags s t) (hrest : PV.ltL 0 0 rest = true) (has : PV.ltL 0 0 ags = true) (k : Nat) {H : List (Nat × PObj)} {nx nt : Nat} (hx : 0 < nx) (hk : k < nt) (ho : lkp H 0 = some (.box 55 (.ptr 0 0 :: rowS k s :: rest))) :
    OkI Tryd.prog g (.ptr 0 0 :: ags) ⟨[], H, tokS k 5 s, nx, nt⟩ (fun r st' => r = .tup [] ∧ ∃ k' nt', k' < nt' ∧ nt ≤ nt' ∧ st' = ⟨[], (0, .box 55 (.ptr 0 0 :: rowS k' (s ++ t) :: rest)) :: dropH [0] H, tokS k' 5 (s ++ t), nx, nt'⟩) := by
  refine OkI.mono' (bld_at0 (R := .tup []) (s' := s ++ t) (st := ⟨[], H, tokS k 5 s, nx, nt⟩) 0 k (fun a ha hh => ?_) hx hk (.inr rfl) hrest has rfl ho lkp_tokS) ?_
  · rcases ha with rfl | rfl
    · cases hh
    · exact h
  rintro r st' ⟨rfl, k', nt', g1, g2, rfl⟩
  refine ⟨rfl, k', nt', g1, g2, ?_⟩
  simp [dropK_tokS, dropH, inL]
theorem writeS_W {r1 r2 r3 : PV} (hrest : PV.ltL 0 0 [r1, r2, r3] = true) {s t : ByteArray} {a : PV} (k : Nat) {H : List (Nat × PObj)} {nx nt : Nat} (ha : a = vNP ∨ a = .ptr 0 0) (hl : s.size + t.size ≤ 1000000) (hx : 0 < nx) (hk : k < nt) (ho : lkp H 0 = some (.box 55 (a :: rowS k s :: [r1, r2, r3]))) :
    OkI Tryd.prog 39 [.ptr 0 0, vS t] ⟨[], H, tokS k 5 s, nx, nt⟩ (fun r st' => r = .tup [vI t.size, .val .nilIface] ∧ ∃ k' nt', k' < nt' ∧ nt ≤ nt' ∧ st' = ⟨[], (0, .box 55 (.ptr 0 0 :: rowS k' (s ++ t) :: [r1, r2, r3])) :: dropH [0] H, tokS k' 5 (s ++ t), nx, nt'⟩) := by
  refine OkI.mono' (writeS_at (st := ⟨[], H, tokS k 5 s, nx, nt⟩) heads_writer hrest 0 k hl hx hk ha ho lkp_tokS) ?_
  rintro r st' ⟨rfl, k', nt', g1, g2, rfl⟩
  refine ⟨rfl, k', nt', g1, g2, ?_⟩
  simp [dropK_tokS, dropH, inL]
theorem writeB_W {r1 r2 r3 : PV} (hrest : PV.ltL 0 0 [r1, r2, r3] = true) {s : ByteArray} {c : Int} {a : PV} (k : Nat) {H : List (Nat × PObj)} {nx nt : Nat} (ha : a = vNP ∨ a = .ptr 0 0) (h0 : 0 ≤ c) (h1 : c ≤ 255) (hl : s.size ≤ 1000000) (hx : 0 < nx) (hk : k < nt) (ho : lkp H 0 = some (.box 55 (a :: rowS k s :: [r1, r2, r3]))) :
    OkI Tryd.prog 37 [.ptr 0 0, vC c] ⟨[], H, tokS k 5 s, nx, nt⟩ (fun r st' => r = .val .nilIface ∧ ∃ k' nt', k' < nt' ∧ nt ≤ nt' ∧ st' = ⟨[], (0, .box 55 (.ptr 0 0 :: rowS k' (s ++ bC c) :: [r1, r2, r3])) :: dropH [0] H, tokS k' 5 (s ++ bC c), nx, nt'⟩) := by
  refine OkI.mono' (writeB_at (st := ⟨[], H, tokS k 5 s, nx, nt⟩) heads_writer hrest 0 k h0 h1 hl hx hk ha ho lkp_tokS) ?_
  rintro r st' ⟨rfl, k', nt', g1, g2, rfl⟩
  refine ⟨rfl, k', nt', g1, g2, ?_⟩
  simp [dropK_tokS, dropH, inL]
theorem cellsV_lt (v : V) : PV.ltL 0 0 (cellsV v) = true := by simp [cellsV, PV.ltL, PV.lt]
theorem quote_W {r1 r2 r3 : PV} (hrest : PV.ltL 0 0 [r1, r2, r3] = true) {s t : ByteArray} (hl : s.size + 6 * t.size ≤ 900000) : Writes 19 [r1, r2, r3] [vS t] s (qF t) := fun a ha => quote_ok hrest s t hl a ha
/-- The end of a function that writes: other objects are let go. -/
theorem wr_end {L : Nat × Nat} {H : List (Nat × PObj)} {k nt nx0 nt0 : Nat} {s : ByteArray} {rest : List PV} (hr : PV.ltL 0 0 rest = true) (hk : k < nt) (h1 : 1 ≤ nx0) (h2 : nt ≤ nt0) (h3 : L.1 ≤ 1) (h4 : L.2 ≤ nt) :
    Weak L ⟨[(0, .tup [])], (0, .box 55 (.ptr 0 0 :: rowS k s :: rest)) :: H, tokS k 5 s, nx0, nt0⟩ ⟨[(0, .tup [])], [(0, .box 55 (.ptr 0 0 :: rowS k s :: rest))], tokS k 5 s, 1, nt⟩ := by
  have h0 : ∀ e ∈ [((0 : Nat), PV.tup [])], bindO (lkp [((0 : Nat), PV.tup [])] e.1) (fun q => Frz q e.2) ∧ e.2.lt 1 nt = true := by simp only [go_sem, simprocAttr]
  have hl := ltL_low (Nat.zero_le 1) (Nat.zero_le nt) _ hr
  refine ⟨h0, fun e he => ?_, tokS_weak _ _ _ _ hk, h1, h2, h3, h4⟩
  rw [List.mem_singleton] at he
  subst he
  refine ⟨by simp [lkp, bindO, FrzO.refl], Nat.zero_lt_one, ?_⟩
  simp only [PObj.lt, PV.ltL, PV.lt, rowS_lt _ _ _ _ hk, Bool.true_and, Nat.zero_lt_one, decide_true]
  exact hl
set_option maxHeartbeats 8000000 in
theorem value_step {c : ByteArray} {f by_ : PV} (hrest : PV.ltL 0 0 [vS c, f, by_] = true) (G : Nat → ByteArray) (v : V) (d : Nat) (s : ByteArray) (hw : wrV v = true) (hl : s.size + 60 * szV v + 800 * nV v ≤ 800000)
    (hit : ∀ (o : Bool) (oc ec : UInt8), v.kind = (if o = true then 5 else 4) → oc = (if o = true then 123 else 91) → ec = (if o = true then 125 else 93) → ∀ s, s.size + 60 * szV v + 800 * nV v ≤ 800000 → Writes 41 [vS c, f, by_] [.agg (cellsV v), vI d, vS ⟨#[oc]⟩, vS ⟨#[ec]⟩] s (⟨#[oc]⟩ ++ inT (G d) (G (d + 1)) c o v.keys (v.items.map (txV G c (d + 1))) ++ ⟨#[ec]⟩)) :
    Writes 22 [vS c, f, by_] [.agg (cellsV v), vI d] s (txV G c d v) := by
  intro a ha
  refine OkI.of_pwpB (by kernel_rfl) Tryd.func22 rfl (by kernel_rfl) (by kernel_rfl) (bar := bar2 8 6 noBar) ?_
  have hz := szV_eq v
  have hn := nV_eq v
  obtain ⟨hf, _, _⟩ := wrV_get hw
  rw [txV_eq, nodeT]
  simp only [wr0, bldB]
  have hit0 := cellsV_lt v
  by_cases k1 : v.kind = 1
  · rw [if_pos k1]
    simp (implicitDefEqProofs := false) (disch := omega) only [go_sem, simprocAttr, go_sem, Nat.le_refl, cellsV, dropK_tokS, List.append_nil, dropH, inL, Tryd.results22, decide_eq_true k1]
    by_cases hb : v.b = true
    · rw [if_pos hb]
      simp (implicitDefEqProofs := false) (disch := omega) only [go_sem, simprocAttr, go_sem, Nat.le_refl, cellsV, dropK_tokS, List.append_nil, dropH, inL, Tryd.results22, hb]
      refine CallOk.ofI (writeS_W hrest 0 ha (by show s.size + 4 ≤ _; omega) ?_ ?_ (by rfl)) rfl rfl rfl rfl ?_
      · (first | omega | (simp only; omega) | (simp; done) | (simp; omega))
      · (first | omega | (simp only; omega) | (simp; done) | (simp; omega))
      rintro r st' ⟨rfl, k1, nt1, q1, q2, rfl⟩
      simp (implicitDefEqProofs := false) (disch := omega) only [go_sem, simprocAttr, go_sem, Nat.le_refl, cellsV, dropK_tokS, List.append_nil, dropH, inL, Tryd.results22]
      refine ⟨⟨[], [(0, .box 55 (.ptr 0 0 :: rowS k1 _ :: [vS c, f, by_]))], tokS k1 5 _, 1, nt1⟩, ⟨rfl, k1, q1, by simp only; omega, rfl, rfl, rfl⟩, ?_⟩; refine wr_end hrest q1 ?_ ?_ ?_ ?_ <;> (first | omega | (simp only; omega) | (simp; done) | (simp; omega))
    · rw [if_neg hb]
      simp (implicitDefEqProofs := false) (disch := omega) only [go_sem, simprocAttr, go_sem, Nat.le_refl, cellsV, dropK_tokS, List.append_nil, dropH, inL, Tryd.results22, Bool.eq_false_iff.2 hb]
      refine CallOk.ofI (writeS_W hrest 0 ha (by show s.size + 5 ≤ _; omega) ?_ ?_ (by rfl)) rfl rfl rfl rfl ?_
      · (first | omega | (simp only; omega) | (simp; done) | (simp; omega))
      · (first | omega | (simp only; omega) | (simp; done) | (simp; omega))
      rintro r st' ⟨rfl, k1, nt1, q1, q2, rfl⟩
      simp (implicitDefEqProofs := false) (disch := omega) only [go_sem, simprocAttr, go_sem, Nat.le_refl, cellsV, dropK_tokS, List.append_nil, dropH, inL, Tryd.results22]
      refine ⟨⟨[], [(0, .box 55 (.ptr 0 0 :: rowS k1 _ :: [vS c, f, by_]))], tokS k1 5 _, 1, nt1⟩, ⟨rfl, k1, q1, by simp only; omega, rfl, rfl, rfl⟩, ?_⟩; refine wr_end hrest q1 ?_ ?_ ?_ ?_ <;> (first | omega | (simp only; omega) | (simp; done) | (simp; omega))
  rw [if_neg k1]
  have j1 := decide_eq_false k1
  by_cases k2 : v.kind = 2
  · rw [if_pos k2]
    have hsz := sOf_le v.n hf
    have hfi : fits v.n := hf
    simp (implicitDefEqProofs := false) (disch := omega) only [go_sem, simprocAttr, go_sem, Nat.le_refl, cellsV, dropK_tokS, List.append_nil, dropH, inL, Tryd.results22, j1, decide_eq_true k2]
    refine p_bar2 (by kernel_rfl) ?_
    simp (implicitDefEqProofs := false) (disch := omega) only [go_sem, simprocAttr, go_sem, Nat.le_refl, cellsV, dropK_tokS, List.append_nil, dropH, inL, Tryd.results22]
    with_reducible refine CallOk.of (wtext_ok v.n hfi) rfl ?_
    simp (implicitDefEqProofs := false) (disch := omega) only [go_sem, simprocAttr, go_sem, Nat.le_refl, cellsV, dropK_tokS, List.append_nil, dropH, inL, Tryd.results22]
    refine CallOk.ofI (writeS_W hrest 0 ha (by omega) ?_ ?_ (by rfl)) rfl rfl rfl rfl ?_
    · (first | omega | (simp only; omega) | (simp; done) | (simp; omega))
    · (first | omega | (simp only; omega) | (simp; done) | (simp; omega))
    rintro r st' ⟨rfl, k1, nt1, q1, q2, rfl⟩
    simp (implicitDefEqProofs := false) (disch := omega) only [go_sem, simprocAttr, go_sem, Nat.le_refl, cellsV, dropK_tokS, List.append_nil, dropH, inL, Tryd.results22]
    refine ⟨⟨[], [(0, .box 55 (.ptr 0 0 :: rowS k1 _ :: [vS c, f, by_]))], tokS k1 5 _, 1, nt1⟩, ⟨rfl, k1, q1, by simp only; omega, rfl, rfl, rfl⟩, ?_⟩; refine wr_end hrest q1 ?_ ?_ ?_ ?_ <;> (first | omega | (simp only; omega) | (simp; done) | (simp; omega))
  rw [if_neg k2]
  have j2 := decide_eq_false k2
  by_cases k3 : v.kind = 3
  · rw [if_pos k3]
    simp (implicitDefEqProofs := false) (disch := omega) only [go_sem, simprocAttr, go_sem, Nat.le_refl, cellsV, dropK_tokS, List.append_nil, dropH, inL, Tryd.results22, j1, j2, decide_eq_true k3]
    refine CallOk.ofI ((quote_W hrest (by omega)).at hrest rfl 0 ha ?_ ?_ (by rfl)) rfl rfl rfl rfl ?_
    · (first | omega | (simp only; omega) | (simp; done) | (simp; omega))
    · (first | omega | (simp only; omega) | (simp; done) | (simp; omega))
    rintro r st' ⟨rfl, k1, nt1, q1, q2, rfl⟩
    simp (implicitDefEqProofs := false) (disch := omega) only [go_sem, simprocAttr, go_sem, Nat.le_refl, cellsV, dropK_tokS, List.append_nil, dropH, inL, Tryd.results22]
    refine ⟨⟨[], [(0, .box 55 (.ptr 0 0 :: rowS k1 _ :: [vS c, f, by_]))], tokS k1 5 _, 1, nt1⟩, ⟨rfl, k1, q1, by simp only; omega, rfl, rfl, rfl⟩, ?_⟩; refine wr_end hrest q1 ?_ ?_ ?_ ?_ <;> (first | omega | (simp only; omega) | (simp; done) | (simp; omega))
  rw [if_neg k3]
  have j3 := decide_eq_false k3
  by_cases k4 : v.kind = 4
  · rw [if_pos k4]
    have h := hit false 91 93 (by rw [k4]; rfl) rfl rfl s hl
    simp (implicitDefEqProofs := false) (disch := omega) only [go_sem, simprocAttr, go_sem, Nat.le_refl, cellsV, dropK_tokS, List.append_nil, dropH, inL, Tryd.results22, j1, j2, j3, decide_eq_true k4]
    refine CallOk.ofI (h.at hrest (by simp [PV.ltL, hit0, PV.lt]) 0 ha ?_ ?_ (by rfl)) rfl rfl rfl rfl ?_
    · (first | omega | (simp only; omega) | (simp; done) | (simp; omega))
    · (first | omega | (simp only; omega) | (simp; done) | (simp; omega))
    rintro r st' ⟨rfl, k1, nt1, q1, q2, rfl⟩
    simp (implicitDefEqProofs := false) (disch := omega) only [go_sem, simprocAttr, go_sem, Nat.le_refl, cellsV, dropK_tokS, List.append_nil, dropH, inL, Tryd.results22]
    refine ⟨⟨[], [(0, .box 55 (.ptr 0 0 :: rowS k1 _ :: [vS c, f, by_]))], tokS k1 5 _, 1, nt1⟩, ⟨rfl, k1, q1, by simp only; omega, rfl, rfl, rfl⟩, ?_⟩; refine wr_end hrest q1 ?_ ?_ ?_ ?_ <;> (first | omega | (simp only; omega) | (simp; done) | (simp; omega))
  rw [if_neg k4]
  have j4 := decide_eq_false k4
  by_cases k5 : v.kind = 5
  · rw [if_pos k5]
    have h := hit true 123 125 (by rw [k5]; rfl) rfl rfl s hl
    simp (implicitDefEqProofs := false) (disch := omega) only [go_sem, simprocAttr, go_sem, Nat.le_refl, cellsV, dropK_tokS, List.append_nil, dropH, inL, Tryd.results22, j1, j2, j3, j4, decide_eq_true k5]
    refine CallOk.ofI (h.at hrest (by simp [PV.ltL, hit0, PV.lt]) 0 ha ?_ ?_ (by rfl)) rfl rfl rfl rfl ?_
    · (first | omega | (simp only; omega) | (simp; done) | (simp; omega))
    · (first | omega | (simp only; omega) | (simp; done) | (simp; omega))
    rintro r st' ⟨rfl, k1, nt1, q1, q2, rfl⟩
    simp (implicitDefEqProofs := false) (disch := omega) only [go_sem, simprocAttr, go_sem, Nat.le_refl, cellsV, dropK_tokS, List.append_nil, dropH, inL, Tryd.results22]
    refine ⟨⟨[], [(0, .box 55 (.ptr 0 0 :: rowS k1 _ :: [vS c, f, by_]))], tokS k1 5 _, 1, nt1⟩, ⟨rfl, k1, q1, by simp only; omega, rfl, rfl, rfl⟩, ?_⟩; refine wr_end hrest q1 ?_ ?_ ?_ ?_ <;> (first | omega | (simp only; omega) | (simp; done) | (simp; omega))
  rw [if_neg k5]
  have j5 := decide_eq_false k5
  simp (implicitDefEqProofs := false) (disch := omega) only [go_sem, simprocAttr, go_sem, Nat.le_refl, cellsV, dropK_tokS, List.append_nil, dropH, inL, Tryd.results22, decide_eq_false k1, decide_eq_false k2, decide_eq_false k3, decide_eq_false k4, decide_eq_false k5]
  refine CallOk.ofI (writeS_W hrest 0 ha (by show s.size + 4 ≤ _; omega) ?_ ?_ (by rfl)) rfl rfl rfl rfl ?_
  · (first | omega | (simp only; omega) | (simp; done) | (simp; omega))
  · (first | omega | (simp only; omega) | (simp; done) | (simp; omega))
  rintro r st' ⟨rfl, k1, nt1, q1, q2, rfl⟩
  simp (implicitDefEqProofs := false) (disch := omega) only [go_sem, simprocAttr, go_sem, Nat.le_refl, cellsV, dropK_tokS, List.append_nil, dropH, inL, Tryd.results22]
  refine ⟨⟨[], [(0, .box 55 (.ptr 0 0 :: rowS k1 _ :: [vS c, f, by_]))], tokS k1 5 _, 1, nt1⟩, ⟨rfl, k1, q1, by simp only; omega, rfl, rfl, rfl⟩, ?_⟩; refine wr_end hrest q1 ?_ ?_ ?_ ?_ <;> (first | omega | (simp only; omega) | (simp; done) | (simp; omega))
end Go.Proofs.YtmfaejdnaippkaaDoor

end
section
/-
  An array's, an object's text: the program's; a value's text, whole.
-/
open Go Go.Proofs Go.Pw Go.RowKit
namespace Go.Proofs.YtmfaejdnaippkaaDoor
set_option maxRecDepth 4000
set_option linter.unusedVariables false
set_option linter.unusedSimpArgs false
theorem wr_weak2 {L : Nat × Nat} {E E' : List (Nat × PV)} {H : List (Nat × PObj)} {k nt nx0 nt0 : Nat} {s : ByteArray} {rest : List PV} {v : V} (hr : PV.ltL 0 0 rest = true) (hk : k < nt) (hE : ∀ e ∈ E', bindO (lkp E e.1) (fun q => Frz q e.2) ∧ e.2.lt 2 nt = true) (o0 : lkp H 0 = some (.box 55 (.ptr 0 0 :: rowS k s :: rest))) (o1 : lkp H 1 = some (.box 29 (cellsV v))) (h1 : 2 ≤ nx0) (h2 : nt ≤ nt0) (h3 : L.1 ≤ 2) (h4 : L.2 ≤ nt) :
    Weak L ⟨E, H, tokS k 5 s, nx0, nt0⟩ ⟨E', [(0, .box 55 (.ptr 0 0 :: rowS k s :: rest)), (1, .box 29 (cellsV v))], tokS k 5 s, 2, nt⟩ := by
  have hl := ltL_low (Nat.zero_le 2) (Nat.zero_le nt) _ hr
  have hv := ltL_low (Nat.zero_le 2) (Nat.zero_le nt) _ (cellsV_lt v)
  refine ⟨hE, fun e he => ?_, tokS_weak _ _ _ _ hk, h1, h2, h3, h4⟩
  simp only [List.mem_cons, List.not_mem_nil, or_false] at he
  rcases he with rfl | rfl
  · refine ⟨by rw [o0]; simp [bindO, FrzO.refl], by simp only; omega, ?_⟩
    simp only [PObj.lt, PV.ltL, PV.lt, rowS_lt _ _ _ _ hk, Bool.true_and]
    exact hl
  · exact ⟨by rw [o1]; simp [bindO, FrzO.refl], by simp only; omega, hv⟩
theorem nVs_mem {l : List V} {x : V} (h : x ∈ l) : nV x ≤ nVs l := by
  obtain ⟨i, hi, rfl⟩ := List.mem_iff_getElem.1 h
  have := szVs_takeS hi
  rw [List.getD_eq_getElem?_getD, List.getElem?_eq_getElem hi] at this
  simp only [Option.getD_some] at this
  omega
set_option maxHeartbeats 8000000 in
theorem items_step {c : ByteArray} {g : FuncId} {by_ : PV} (hrest : PV.ltL 0 0 [vS c, .fn g [], by_] = true) (G : Nat → ByteArray) (D : Nat) (hG : ∀ d, d ≤ D → (G d).size ≤ 400) (hc : c.size ≤ 2)
    (hgap : ∀ d, d ≤ D → ∀ s, s.size ≤ 900000 → WritesP g [vS c, .fn g [], by_] [vI d] s (G d)) (v : V) (d : Nat) (hw : wrV v = true) (hd : d + nV v ≤ D) (hD : D ≤ 1000000)
    (ih : ∀ x ∈ v.items, ∀ s, s.size + 60 * szV x + 800 * nV x ≤ 800000 → Writes 22 [vS c, .fn g [], by_] [.agg (cellsV x), vI (d + 1 : Nat)] s (txV G c (d + 1) x))
    (o : Bool) (oc ec : UInt8) (hk : v.kind = if o = true then 5 else 4) (s : ByteArray) (hl : s.size + 60 * szV v + 800 * nV v ≤ 800000) :
    Writes 41 [vS c, .fn g [], by_] [.agg (cellsV v), vI d, vS ⟨#[oc]⟩, vS ⟨#[ec]⟩] s (⟨#[oc]⟩ ++ inT (G d) (G (d + 1)) c o v.keys (v.items.map (txV G c (d + 1))) ++ ⟨#[ec]⟩) := by
  intro a ha
  refine OkI.of_pwpB (by kernel_rfl) Tryd.func41 rfl (by kernel_rfl) (by kernel_rfl) (bar := bar2 10 7 noBar) ?_
  have hz := szV_eq v
  have hn := nV_eq v
  obtain ⟨hf, hkk, hx⟩ := wrV_get hw
  have hkind : decide (v.kind = 5) = o := by rw [hk]; cases o <;> rfl
  have hlen := nVs_pos v.items
  have hsz0 : (⟨#[oc]⟩ : ByteArray).size = 1 := rfl
  simp only [wr0, bldB]
  simp (implicitDefEqProofs := false) (disch := omega) only [go_sem, simprocAttr, go_sem, Nat.le_refl, cellsV, dropK_tokS, List.append_nil, dropH, inL, Tryd.results41]
  refine CallOk.ofI (writeS_W hrest 0 ha (by omega) ?_ ?_ (by rfl)) rfl rfl rfl rfl ?_
  · (first | omega | (simp only; omega) | (simp; done) | (simp; omega))
  · (first | omega | (simp only; omega) | (simp; done) | (simp; omega))
  rintro r st' ⟨rfl, k1, nt1, q1, q2, rfl⟩
  simp (implicitDefEqProofs := false) (disch := omega) only [go_sem, simprocAttr, go_sem, Nat.le_refl, cellsV, dropK_tokS, List.append_nil, dropH, inL, Tryd.results41]
  refine p_loop (ι := { p : Nat × Nat × Nat // p.1 ≤ v.items.length ∧ p.2.1 < p.2.2 ∧ 1 ≤ p.2.2 }) (fun p => ⟨[(20, vI p.1.1), (19, vI v.items.length), (18, .sl (encV v.items)), (0, .ptr 0 0), (2, vI d), (6, .ptr 1 0), (4, vS ⟨#[ec]⟩)], [(0, .box 55 (.ptr 0 0 :: rowS p.1.2.1 (s ++ ⟨#[oc]⟩ ++ itT (G (d + 1)) c o v.keys (v.items.map (txV G c (d + 1))) p.1.1) :: [vS c, .fn g [], by_])), (1, .box 29 (cellsV v))], tokS p.1.2.1 5 (s ++ ⟨#[oc]⟩ ++ itT (G (d + 1)) c o v.keys (v.items.map (txV G c (d + 1))) p.1.1), 2, p.1.2.2⟩) (fun p => v.items.length - p.1.1) ⟨(0, k1, nt1), Nat.zero_le _, q1, by simp only; omega⟩ ?_ ?_
  · simp only [itT, ByteArray.append_empty]
    refine wr_weak2 hrest q1 ?_ (by rfl) (by rfl) ?_ ?_ ?_ ?_
    · simp only [go_sem, simprocAttr, Int.natCast_zero]; try omega
    all_goals (first | omega | (simp only; omega) | (simp; done) | (simp; omega))
  · rintro ⟨⟨i, k, nt⟩, h1, h2, h3⟩
    simp only at h1 h2 h3 ⊢
    have hitz : (itT (G (d + 1)) c o v.keys (v.items.map (txV G c (d + 1))) i).size ≤ 60 * szVs (v.items.take i) + 800 * nVs (v.items.take i) + 6 * szT (v.keys.take i) := by
      by_cases h0 : i = 0
      · subst h0; simp [itT]
      · exact itT_size (hG _ (by omega)) hc (fun x hx' => txV_size hG hc x (d + 1) (hx x hx') (by have := nVs_mem hx'; omega)) i h1
    have hkt := szT_take v.keys i
    have hxz : (s ++ ⟨#[oc]⟩ ++ itT (G (d + 1)) c o v.keys (v.items.map (txV G c (d + 1))) i).size = s.size + 1 + (itT (G (d + 1)) c o v.keys (v.items.map (txV G c (d + 1))) i).size := by rw [ByteArray.size_append, ByteArray.size_append]; rfl
    by_cases hi : i < v.items.length
    · have hsv := szVs_takeS hi
      have hqz := qF_size (v.keys.getD i ByteArray.empty)
      have hG1 := hG (d + 1) (by omega)
      have hxi := hx _ (getD_mem (d := default) hi)
      have hfin : s ++ ⟨#[oc]⟩ ++ itT (G (d + 1)) c o v.keys (v.items.map (txV G c (d + 1))) (i + 1) = s ++ ⟨#[oc]⟩ ++ itT (G (d + 1)) c o v.keys (v.items.map (txV G c (d + 1))) i ++ (if 0 < i then bC 44 else ByteArray.empty) ++ G (d + 1) ++ (if o then qF (v.keys.getD i ByteArray.empty) ++ c else ByteArray.empty) ++ txV G c (d + 1) (v.items.getD i default) := by
        rw [itT, map_get _ hi]
        simp only [ByteArray.append_assoc]
      have hvi := ih _ (getD_mem (d := default) hi)
      have hcast : ((d + 1 : Nat) : Int) = (d : Int) + 1 := rfl
      rw [hcast] at hvi
      have hgp := hgap (d + 1) (by omega)
      rw [hcast] at hgp
      have hagg : PV.ltL 0 0 [.agg (cellsV (v.items.getD i default)), vI ((d : Int) + 1)] = true := by simp [PV.ltL, PV.lt, cellsV_lt]
      have hkt2 := (szT_take v.keys (i + 1)).2
      generalize s ++ ⟨#[oc]⟩ ++ itT (G (d + 1)) c o v.keys (v.items.map (txV G c (d + 1))) i = x at *
      by_cases h0 : 0 < i
      · rw [if_pos h0] at hfin
        simp (implicitDefEqProofs := false) (disch := omega) only [go_sem, simprocAttr, go_sem, Nat.le_refl, cellsV, dropK_tokS, List.append_nil, dropH, inL, Tryd.results41, decide_eq_true (show (0 : Int) < (i : Int) by omega)]
        refine CallOk.ofI (writeB_W hrest k (.inr rfl) (by decide) (by decide) (by omega) ?_ ?_ (by rfl)) rfl rfl rfl rfl ?_
        · (first | omega | (simp only; omega) | (simp; done) | (simp; omega))
        · (first | omega | (simp only; omega) | (simp; done) | (simp; omega))
        rintro r st' ⟨rfl, k1, nt1, q1, q2, rfl⟩
        have hx1 : (x ++ bC 44).size = x.size + 1 := by rw [ByteArray.size_append]; rfl
        generalize x ++ bC 44 = y at *
        simp (implicitDefEqProofs := false) (disch := omega) only [go_sem, simprocAttr, go_sem, Nat.le_refl, cellsV, dropK_tokS, List.append_nil, dropH, inL, Tryd.results41]
        refine CallOk.ofI ((hgp y (by omega)).at hrest rfl k1 ?_ ?_ (by rfl)) rfl rfl rfl rfl ?_
        · (first | omega | (simp only; omega) | (simp; done) | (simp; omega))
        · (first | omega | (simp only; omega) | (simp; done) | (simp; omega))
        rintro r st' ⟨rfl, k2, nt2, q3, q4, rfl⟩
        have hx2 : (y ++ G (d + 1)).size = y.size + (G (d + 1)).size := ByteArray.size_append
        generalize y ++ G (d + 1) = z at *
        cases o with
        | true =>
          have hkl := hkk (by rw [hk]; rfl)
          have hkl' : (i : Int) < (v.keys.length : Int) := by omega
          rw [if_pos rfl, ← ByteArray.append_assoc] at hfin
          simp (implicitDefEqProofs := false) (disch := omega) only [go_sem, simprocAttr, go_sem, Nat.le_refl, cellsV, dropK_tokS, List.append_nil, dropH, inL, Tryd.results41, hkind]
          refine CallOk.ofI ((quote_W hrest (by omega)).at hrest rfl k2 (.inr rfl) ?_ ?_ (by rfl)) rfl rfl rfl rfl ?_
          · (first | omega | (simp only; omega) | (simp; done) | (simp; omega))
          · (first | omega | (simp only; omega) | (simp; done) | (simp; omega))
          rintro r st' ⟨rfl, k3, nt3, q5, q6, rfl⟩
          have hx3 : (z ++ qF (v.keys.getD i ByteArray.empty)).size = z.size + (qF (v.keys.getD i ByteArray.empty)).size := ByteArray.size_append
          generalize z ++ qF (v.keys.getD i ByteArray.empty) = u at *
          simp (implicitDefEqProofs := false) (disch := omega) only [go_sem, simprocAttr, go_sem, Nat.le_refl, cellsV, dropK_tokS, List.append_nil, dropH, inL, Tryd.results41]
          refine p_bar2 (by kernel_rfl) ?_
          simp (implicitDefEqProofs := false) (disch := omega) only [go_sem, simprocAttr, go_sem, Nat.le_refl, cellsV, dropK_tokS, List.append_nil, dropH, inL, Tryd.results41]
          refine CallOk.ofI (writeS_W hrest k3 (.inr rfl) (by omega) ?_ ?_ (by rfl)) rfl rfl rfl rfl ?_
          · (first | omega | (simp only; omega) | (simp; done) | (simp; omega))
          · (first | omega | (simp only; omega) | (simp; done) | (simp; omega))
          rintro r st' ⟨rfl, k4, nt4, q7, q8, rfl⟩
          have hx4 : (u ++ c).size = u.size + c.size := ByteArray.size_append
          generalize u ++ c = w at *
          simp (implicitDefEqProofs := false) (disch := omega) only [go_sem, simprocAttr, go_sem, Nat.le_refl, cellsV, dropK_tokS, List.append_nil, dropH, inL, Tryd.results41]
          refine CallOk.ofI ((hvi w (by omega)).at hrest hagg k4 (.inr rfl) ?_ ?_ (by rfl)) rfl rfl rfl rfl ?_
          · (first | omega | (simp only; omega) | (simp; done) | (simp; omega))
          · (first | omega | (simp only; omega) | (simp; done) | (simp; omega))
          rintro r st' ⟨rfl, k5, nt5, q9, q0, rfl⟩
          simp (implicitDefEqProofs := false) (disch := omega) only [go_sem, simprocAttr, go_sem, Nat.le_refl, cellsV, dropK_tokS, List.append_nil, dropH, inL, Tryd.results41]
          refine ⟨⟨(i + 1, k5, nt5), hi, q9, by simp only; omega⟩, by simp only; omega, ?_⟩
          rw [hfin]
          refine wr_weak2 hrest q9 ?_ (by rfl) (by rfl) ?_ ?_ ?_ ?_
          · simp only [go_sem, simprocAttr, Int.natCast_add, Int.natCast_one]; try omega
          all_goals (first | omega | (simp only; omega) | (simp; done) | (simp; omega))
        | false =>
          rw [if_neg (by decide), ByteArray.append_empty] at hfin
          simp (implicitDefEqProofs := false) (disch := omega) only [go_sem, simprocAttr, go_sem, Nat.le_refl, cellsV, dropK_tokS, List.append_nil, dropH, inL, Tryd.results41, hkind]
          refine CallOk.ofI ((hvi z (by omega)).at hrest hagg k2 (.inr rfl) ?_ ?_ (by rfl)) rfl rfl rfl rfl ?_
          · (first | omega | (simp only; omega) | (simp; done) | (simp; omega))
          · (first | omega | (simp only; omega) | (simp; done) | (simp; omega))
          rintro r st' ⟨rfl, k5, nt5, q9, q0, rfl⟩
          simp (implicitDefEqProofs := false) (disch := omega) only [go_sem, simprocAttr, go_sem, Nat.le_refl, cellsV, dropK_tokS, List.append_nil, dropH, inL, Tryd.results41]
          refine ⟨⟨(i + 1, k5, nt5), hi, q9, by simp only; omega⟩, by simp only; omega, ?_⟩
          rw [hfin]
          refine wr_weak2 hrest q9 ?_ (by rfl) (by rfl) ?_ ?_ ?_ ?_
          · simp only [go_sem, simprocAttr, Int.natCast_add, Int.natCast_one]; try omega
          all_goals (first | omega | (simp only; omega) | (simp; done) | (simp; omega))
      · rw [if_neg h0, ByteArray.append_empty] at hfin
        have hx1 : x.size ≤ x.size + 1 := by omega
        simp (implicitDefEqProofs := false) (disch := omega) only [go_sem, simprocAttr, go_sem, Nat.le_refl, cellsV, dropK_tokS, List.append_nil, dropH, inL, Tryd.results41, decide_eq_false h0, decide_eq_false (show ¬ (0 : Int) < (i : Int) by omega)]
        have q1 := h2
        have q2 : nt ≤ nt := Nat.le_refl _
        have hy : x.size = x.size := rfl
        refine CallOk.ofI ((hgp x (by omega)).at hrest rfl k ?_ ?_ (by rfl)) rfl rfl rfl rfl ?_
        · (first | omega | (simp only; omega) | (simp; done) | (simp; omega))
        · (first | omega | (simp only; omega) | (simp; done) | (simp; omega))
        rintro r st' ⟨rfl, k2, nt2, q3, q4, rfl⟩
        have hx2 : (x ++ G (d + 1)).size = x.size + (G (d + 1)).size := ByteArray.size_append
        generalize x ++ G (d + 1) = z at *
        cases o with
        | true =>
          have hkl := hkk (by rw [hk]; rfl)
          have hkl' : (i : Int) < (v.keys.length : Int) := by omega
          rw [if_pos rfl, ← ByteArray.append_assoc] at hfin
          simp (implicitDefEqProofs := false) (disch := omega) only [go_sem, simprocAttr, go_sem, Nat.le_refl, cellsV, dropK_tokS, List.append_nil, dropH, inL, Tryd.results41, hkind]
          refine CallOk.ofI ((quote_W hrest (by omega)).at hrest rfl k2 (.inr rfl) ?_ ?_ (by rfl)) rfl rfl rfl rfl ?_
          · (first | omega | (simp only; omega) | (simp; done) | (simp; omega))
          · (first | omega | (simp only; omega) | (simp; done) | (simp; omega))
          rintro r st' ⟨rfl, k3, nt3, q5, q6, rfl⟩
          have hx3 : (z ++ qF (v.keys.getD i ByteArray.empty)).size = z.size + (qF (v.keys.getD i ByteArray.empty)).size := ByteArray.size_append
          generalize z ++ qF (v.keys.getD i ByteArray.empty) = u at *
          simp (implicitDefEqProofs := false) (disch := omega) only [go_sem, simprocAttr, go_sem, Nat.le_refl, cellsV, dropK_tokS, List.append_nil, dropH, inL, Tryd.results41]
          refine p_bar2 (by kernel_rfl) ?_
          simp (implicitDefEqProofs := false) (disch := omega) only [go_sem, simprocAttr, go_sem, Nat.le_refl, cellsV, dropK_tokS, List.append_nil, dropH, inL, Tryd.results41]
          refine CallOk.ofI (writeS_W hrest k3 (.inr rfl) (by omega) ?_ ?_ (by rfl)) rfl rfl rfl rfl ?_
          · (first | omega | (simp only; omega) | (simp; done) | (simp; omega))
          · (first | omega | (simp only; omega) | (simp; done) | (simp; omega))
          rintro r st' ⟨rfl, k4, nt4, q7, q8, rfl⟩
          have hx4 : (u ++ c).size = u.size + c.size := ByteArray.size_append
          generalize u ++ c = w at *
          simp (implicitDefEqProofs := false) (disch := omega) only [go_sem, simprocAttr, go_sem, Nat.le_refl, cellsV, dropK_tokS, List.append_nil, dropH, inL, Tryd.results41]
          refine CallOk.ofI ((hvi w (by omega)).at hrest hagg k4 (.inr rfl) ?_ ?_ (by rfl)) rfl rfl rfl rfl ?_
          · (first | omega | (simp only; omega) | (simp; done) | (simp; omega))
          · (first | omega | (simp only; omega) | (simp; done) | (simp; omega))
          rintro r st' ⟨rfl, k5, nt5, q9, q0, rfl⟩
          simp (implicitDefEqProofs := false) (disch := omega) only [go_sem, simprocAttr, go_sem, Nat.le_refl, cellsV, dropK_tokS, List.append_nil, dropH, inL, Tryd.results41]
          refine ⟨⟨(i + 1, k5, nt5), hi, q9, by simp only; omega⟩, by simp only; omega, ?_⟩
          rw [hfin]
          refine wr_weak2 hrest q9 ?_ (by rfl) (by rfl) ?_ ?_ ?_ ?_
          · simp only [go_sem, simprocAttr, Int.natCast_add, Int.natCast_one]; try omega
          all_goals (first | omega | (simp only; omega) | (simp; done) | (simp; omega))
        | false =>
          rw [if_neg (by decide), ByteArray.append_empty] at hfin
          simp (implicitDefEqProofs := false) (disch := omega) only [go_sem, simprocAttr, go_sem, Nat.le_refl, cellsV, dropK_tokS, List.append_nil, dropH, inL, Tryd.results41, hkind]
          refine CallOk.ofI ((hvi z (by omega)).at hrest hagg k2 (.inr rfl) ?_ ?_ (by rfl)) rfl rfl rfl rfl ?_
          · (first | omega | (simp only; omega) | (simp; done) | (simp; omega))
          · (first | omega | (simp only; omega) | (simp; done) | (simp; omega))
          rintro r st' ⟨rfl, k5, nt5, q9, q0, rfl⟩
          simp (implicitDefEqProofs := false) (disch := omega) only [go_sem, simprocAttr, go_sem, Nat.le_refl, cellsV, dropK_tokS, List.append_nil, dropH, inL, Tryd.results41]
          refine ⟨⟨(i + 1, k5, nt5), hi, q9, by simp only; omega⟩, by simp only; omega, ?_⟩
          rw [hfin]
          refine wr_weak2 hrest q9 ?_ (by rfl) (by rfl) ?_ ?_ ?_ ?_
          · simp only [go_sem, simprocAttr, Int.natCast_add, Int.natCast_one]; try omega
          all_goals (first | omega | (simp only; omega) | (simp; done) | (simp; omega))
    · have hi' : i = v.items.length := by omega
      subst hi'
      rw [List.take_length] at hitz
      have hG0 := hG d (by omega)
      have hec : (⟨#[ec]⟩ : ByteArray).size = 1 := rfl
      have hgp := hgap d (by omega)
      have hml : (v.items.map (txV G c (d + 1))).length = v.items.length := by simp
      rw [inT, hml]
      have hfin : ∀ e : ByteArray, s ++ (⟨#[oc]⟩ ++ (itT (G (d + 1)) c o v.keys (v.items.map (txV G c (d + 1))) v.items.length ++ e) ++ ⟨#[ec]⟩) = s ++ ⟨#[oc]⟩ ++ itT (G (d + 1)) c o v.keys (v.items.map (txV G c (d + 1))) v.items.length ++ e ++ ⟨#[ec]⟩ := fun e => by simp only [ByteArray.append_assoc]
      rw [hfin]
      generalize s ++ ⟨#[oc]⟩ ++ itT (G (d + 1)) c o v.keys (v.items.map (txV G c (d + 1))) v.items.length = x at *
      by_cases h0 : 0 < v.items.length
      · rw [if_pos h0]
        simp (implicitDefEqProofs := false) (disch := omega) only [go_sem, simprocAttr, go_sem, Nat.le_refl, cellsV, dropK_tokS, List.append_nil, dropH, inL, Tryd.results41, decide_eq_true (show (0 : Int) < (v.items.length : Int) by omega)]
        refine CallOk.ofI ((hgp x (by omega)).at hrest rfl k ?_ ?_ (by rfl)) rfl rfl rfl rfl ?_
        · (first | omega | (simp only; omega) | (simp; done) | (simp; omega))
        · (first | omega | (simp only; omega) | (simp; done) | (simp; omega))
        rintro r st' ⟨rfl, k2, nt2, q3, q4, rfl⟩
        have hx2 : (x ++ G d).size = x.size + (G d).size := ByteArray.size_append
        generalize x ++ G d = y at *
        simp (implicitDefEqProofs := false) (disch := omega) only [go_sem, simprocAttr, go_sem, Nat.le_refl, cellsV, dropK_tokS, List.append_nil, dropH, inL, Tryd.results41]
        refine CallOk.ofI (writeS_W hrest k2 (.inr rfl) (by omega) ?_ ?_ (by rfl)) rfl rfl rfl rfl ?_
        · (first | omega | (simp only; omega) | (simp; done) | (simp; omega))
        · (first | omega | (simp only; omega) | (simp; done) | (simp; omega))
        rintro r st' ⟨rfl, k1, nt1, q1, q2, rfl⟩
        simp (implicitDefEqProofs := false) (disch := omega) only [go_sem, simprocAttr, go_sem, Nat.le_refl, cellsV, dropK_tokS, List.append_nil, dropH, inL, Tryd.results41]
        refine ⟨⟨[], [(0, .box 55 (.ptr 0 0 :: rowS k1 _ :: [vS c, .fn g [], by_]))], tokS k1 5 _, 1, nt1⟩, ⟨rfl, k1, q1, by simp only; omega, rfl, rfl, rfl⟩, ?_⟩; refine wr_end hrest q1 ?_ ?_ ?_ ?_ <;> (first | omega | (simp only; omega) | (simp; done) | (simp; omega))
      · rw [if_neg h0, ByteArray.append_empty]
        simp (implicitDefEqProofs := false) (disch := omega) only [go_sem, simprocAttr, go_sem, Nat.le_refl, cellsV, dropK_tokS, List.append_nil, dropH, inL, Tryd.results41, decide_eq_false (show ¬ (0 : Int) < (v.items.length : Int) by omega)]
        refine CallOk.ofI (writeS_W hrest k (.inr rfl) (by omega) ?_ ?_ (by rfl)) rfl rfl rfl rfl ?_
        · (first | omega | (simp only; omega) | (simp; done) | (simp; omega))
        · (first | omega | (simp only; omega) | (simp; done) | (simp; omega))
        rintro r st' ⟨rfl, k1, nt1, q1, q2, rfl⟩
        simp (implicitDefEqProofs := false) (disch := omega) only [go_sem, simprocAttr, go_sem, Nat.le_refl, cellsV, dropK_tokS, List.append_nil, dropH, inL, Tryd.results41]
        refine ⟨⟨[], [(0, .box 55 (.ptr 0 0 :: rowS k1 _ :: [vS c, .fn g [], by_]))], tokS k1 5 _, 1, nt1⟩, ⟨rfl, k1, q1, by simp only; omega, rfl, rfl, rfl⟩, ?_⟩; refine wr_end hrest q1 ?_ ?_ ?_ ?_ <;> (first | omega | (simp only; omega) | (simp; done) | (simp; omega))
/-- A value's text, written. -/
theorem value_ok {c : ByteArray} {g : FuncId} {by_ : PV} (hrest : PV.ltL 0 0 [vS c, .fn g [], by_] = true) (G : Nat → ByteArray) (D : Nat) (hG : ∀ d, d ≤ D → (G d).size ≤ 400) (hc : c.size ≤ 2)
    (hgap : ∀ d, d ≤ D → ∀ s, s.size ≤ 900000 → WritesP g [vS c, .fn g [], by_] [vI d] s (G d)) (hD : D ≤ 1000000) :
    ∀ v d s, wrV v = true → d + nV v ≤ D → s.size + 60 * szV v + 800 * nV v ≤ 800000 → Writes 22 [vS c, .fn g [], by_] [.agg (cellsV v), vI (d : Nat)] s (txV G c d v) := by
  refine V.ind fun v ih d s hw hd hl => ?_
  have hn := nV_eq v
  refine value_step hrest G v d s hw hl fun o oc ec hk e1 e2 s hs => items_step hrest G D hG hc hgap v d hw hd hD (fun x hx s hs => ?_) o oc ec hk s hs
  exact ih x hx (d + 1) s ((wrV_get hw).2.2 x hx) (by have := nVs_mem hx; omega) hs
end Go.Proofs.YtmfaejdnaippkaaDoor

end
section
/-
  Texts in quotation marks are the same just if the texts are; the program's Quote and Text.
-/
open Go Go.Proofs Go.Pw Go.RowKit
namespace Go.Proofs.YtmfaejdnaippkaaDoor
set_option maxRecDepth 4000
set_option linter.unusedVariables false
set_option linter.unusedSimpArgs false
def escF (l : List UInt8) : List UInt8 := l.flatMap fun b => escL b.toNat
theorem escS_data (s : ByteArray) : ∀ i, i ≤ s.size → (escS s i).data.toList = escF (s.data.toList.take i)
  | 0, _ => by simp [escS, escF]
  | i + 1, h => by
    have hl : i < s.data.toList.length := by
      have : s.data.toList.length = s.size := by simp
      omega
    rw [List.take_succ_eq_append_getElem hl, escF, List.flatMap_append, escS, ByteArray.data_append, Array.toList_append, escS_data s i (by omega), escF]
    have : s.data.toList.getD i 0 = s.data.toList[i] := by rw [List.getD_eq_getElem?_getD, List.getElem?_eq_getElem hl]; rfl
    rw [this]
    simp [escA]
/-- Nothing parts. -/
def gT : Nat → ByteArray := fun _ => ByteArray.empty
theorem rowS_0 (k : Nat) : rowS k ByteArray.empty = .val (.slice none 0 0) := by unfold rowS; rfl
theorem emp_app (t : ByteArray) : ByteArray.empty ++ t = t := by simp
theorem tight_W (d : Nat) (s : ByteArray) : WritesP 21 [vS (bC 58), .fn 21 [], vI 0] [vI d] s (gT d) := by
  refine OkI.of_pwp (by kernel_rfl) Tryd.func21 rfl (by kernel_rfl) (by kernel_rfl) ?_
  simp only [wr0, bldB, gT, ByteArray.append_empty]
  simp (implicitDefEqProofs := false) (disch := omega) only [go_sem, simprocAttr, go_sem, Nat.le_refl, cellsV, dropK_tokS, List.append_nil, dropH, inL, Tryd.results21]
  refine ⟨⟨[], [(0, .box 55 (.ptr 0 0 :: rowS 0 s :: [vS (bC 58), .fn 21 [], vI 0]))], tokS 0 5 s, 1, 1⟩, ⟨rfl, 0, by simp only; omega, by simp only; omega, rfl, rfl, rfl⟩, ?_⟩
  refine wr_end (by rfl) ?_ ?_ ?_ ?_ ?_ <;> first | omega | (simp only; omega) | (simp; done)
/-- The text of a value. -/
def tV (v : V) : ByteArray := txV gT (bC 58) 0 v
set_option maxHeartbeats 4000000 in
theorem rtxt_ok (v : V) (hw : wrV v = true) (hl : 60 * szV v + 800 * nV v ≤ 800000) : Ok Tryd.prog 9 [.agg (cellsV v)] (vS (tV v)) := by
  have hv := value_ok (c := bC 58) (g := 21) (by_ := vI 0) (by rfl) gT 1000000 (fun d _ => Nat.zero_le _) (by decide) (fun d _ s _ => tight_W d s) (Nat.le_refl _) v 0 ByteArray.empty hw (by omega) (by show 0 + _ + _ ≤ _; omega)
  refine Ok.of_pwp (by kernel_rfl) Tryd.func9 rfl (by kernel_rfl) (by kernel_rfl) ?_
  generalize hR : vS (tV v) = R
  simp (implicitDefEqProofs := false) (disch := omega) only [go_sem, simprocAttr, go_sem, Nat.le_refl, cellsV, dropK_tokS, List.append_nil, dropH, inL, Tryd.results9]
  refine CallOk.ofI (bld_at (st := ⟨[], _, _, _, _⟩) (a' := vNP) (s := ByteArray.empty) (rest := [vS (bC 58), .fn 21 [], vI 0]) 3 0 (fun a ha => hv a ha) ?_ ?_ (.inl rfl) (by rfl) (by simp [PV.ltL, PV.lt, cellsV_lt]) rfl (by rw [rowS_0]; rfl) (fun h => absurd rfl h)) rfl rfl rfl rfl ?_
  · simp
  · simp
  rintro r st' ⟨rfl, k1, nt1, q1, q2, rfl⟩
  simp only [emp_app]
  simp (implicitDefEqProofs := false) (disch := omega) only [go_sem, simprocAttr, go_sem, Nat.le_refl, cellsV, dropK_tokS, List.append_nil, dropH, inL, Tryd.results9]
  refine CallOk.ofI (string_at (st := ⟨[], _, _, _, _⟩) (rest := [vS (bC 58), .fn 21 [], vI 0]) 3 k1 ?_ ?_ (.inr rfl) (by rfl) rfl lkp_tokS) rfl rfl rfl rfl ?_
  · simp
  · simp only; omega
  rintro r st' ⟨rfl, rfl⟩
  simp (implicitDefEqProofs := false) (disch := omega) only [go_sem, simprocAttr, go_sem, Nat.le_refl, cellsV, dropK_tokS, List.append_nil, dropH, inL, Tryd.results9]
  exact hR
end Go.Proofs.YtmfaejdnaippkaaDoor

end
section
/-
  A value's text: the document's.
-/
open Go Go.Proofs Go.Pw Go.RowKit
namespace Go.Proofs.YtmfaejdnaippkaaDoor
set_option maxRecDepth 4000
set_option linter.unusedVariables false
set_option linter.unusedSimpArgs false
/-- A line feed, and spaces. -/
def gapI (n : Nat) : List Int := 10 :: List.replicate n 32
def gapT (n : Nat) : ByteArray := strOfNums (gapI n)
theorem gapT_size (n : Nat) : (gapT n).size = n + 1 := by
  show (gapT n).data.size = _
  simp [gapT, gapI, strOfNums]
/-- What stands ahead of an item; behind a key. -/
def gL (lines : Bool) (b : Nat) (d : Nat) : ByteArray := if lines = true then gapT (d * b) else ByteArray.empty
def cL (lines : Bool) : ByteArray := if lines = true then bC 58 ++ bC 32 else bC 58
theorem gL_empty (b d : Nat) : gL false b d = ByteArray.empty := rfl
theorem gL_f (b : Nat) : gL false b = gT := by funext d; rfl
theorem cL_size (lines : Bool) : (cL lines).size ≤ 2 := by cases lines <;> decide
theorem mul_le' {d b : Nat} (hd : d ≤ 49) (hb : b ≤ 8) : d * b ≤ 392 := Nat.le_trans (Nat.mul_le_mul hd hb) (by decide)
theorem gL_size {lines : Bool} {b d : Nat} (hb : b ≤ 8) (hd : lines = true → d ≤ 49) : (gL lines b d).size ≤ 400 := by
  unfold gL
  split
  · rename_i h
    rw [gapT_size]; have := mul_le' (hd h) hb; omega
  · simp
set_option maxHeartbeats 4000000 in
theorem gap_ok (d b : Nat) (hd : d ≤ 49) (hb : b ≤ 8) : Ok Tryd.prog 61 [vI d, vI b] (vS (gapT (d * b))) := by
  have hm := mul_le' hd hb
  refine Ok.of_pwp (by kernel_rfl) Tryd.func61 rfl (by kernel_rfl) (by kernel_rfl) ?_
  generalize hR : vS (gapT (d * b)) = R
  have hmul : (d : Int) * (b : Int) = ((d * b : Nat) : Int) := rfl
  simp (implicitDefEqProofs := false) (disch := omega) only [go_sem, simprocAttr, go_sem, Nat.le_refl, cellsV, Tryd.results61]
  refine p_loop (ι := { p : Nat × Nat // p.1 ≤ d * b }) (fun p => ⟨[(5, .row p.1.2 (encC (gapI p.1.1))), (6, vI p.1.1), (0, vI d), (1, vI b)], [], [(p.1.2, ⟨5, 1, p.1.1 + 1⟩)], 0, p.1.2 + 1⟩) (fun p => d * b - p.1.1) ⟨(0, 1), Nat.zero_le _⟩ ?_ ?_
  · simp only [gapI, encC, List.replicate_zero, List.map_cons, List.map_nil]
    refine ⟨?_, ?_, ?_, ?_, ?_, ?_, ?_⟩ <;> simp only [go_sem, simprocAttr, decide_eq_true_eq, Int.natCast_zero] <;> try first | omega | ((repeat' (first | exact And.intro rfl (by omega) | (refine And.intro ?_ ?_))) <;> first | rfl | omega | (congr 3; omega) | (congr 2; omega))
  · rintro ⟨⟨i, tk⟩, hi⟩
    simp only at hi ⊢
    have hstep : gapI i ++ [32] = gapI (i + 1) := by simp [gapI, List.replicate_succ']
    have hgl : (gapI i).length = i + 1 := by simp [gapI]
    by_cases hlt : i < d * b
    · simp (implicitDefEqProofs := false) (disch := omega) only [go_sem, simprocAttr, go_sem, Nat.le_refl, cellsV, Tryd.results61, hmul, hstep, hgl]
      refine ⟨⟨(i + 1, tk), hlt⟩, by simp only; omega, ?_⟩
      refine ⟨?_, ?_, ?_, ?_, ?_, ?_, ?_⟩ <;> simp only [go_sem, simprocAttr, decide_eq_true_eq, Int.natCast_add, Int.natCast_one] <;> try first | omega | ((repeat' (first | exact And.intro rfl (by omega) | (refine And.intro ?_ ?_))) <;> first | rfl | omega | (congr 3; omega) | (congr 2; omega))
    · have hi' : i = d * b := by omega
      subst hi'
      simp (implicitDefEqProofs := false) (disch := omega) only [go_sem, simprocAttr, go_sem, Nat.le_refl, cellsV, Tryd.results61, hmul]
      exact hR
theorem good_get {v : V} (h : goodB v = true) : (0 ≤ v.kind ∧ v.kind ≤ 5) ∧ (v.kind < 4 → v.items = []) ∧ ∀ x ∈ v.items, goodB x = true := by
  rw [goodB_eq] at h
  simp only [Bool.and_eq_true, decide_eq_true_eq, List.all_eq_true] at h
  refine ⟨h.1.1.1.1, fun hk => ?_, h.2⟩
  have hb := h.1.1.1.2
  have h0 := h.1.1.1.1
  simp only [bareB, Bool.and_eq_true, Bool.or_eq_true, decide_eq_true_eq] at hb
  rcases hb.1.2 with h | h
  · omega
  · exact List.eq_nil_of_length_eq_zero h
theorem bC_44 : bC 44 = ⟨#[44]⟩ := rfl
theorem bC_58 : bC 58 = ⟨#[58]⟩ := rfl
theorem bC_32 : bC 32 = ⟨#[32]⟩ := rfl
theorem sz_44 : (⟨#[44]⟩ : ByteArray).size = 1 := rfl
theorem sz_58 : (⟨#[58]⟩ : ByteArray).size = 1 := rfl
theorem sz_32 : (⟨#[32]⟩ : ByteArray).size = 1 := rfl
theorem sz_91 : (⟨#[91]⟩ : ByteArray).size = 1 := rfl
theorem sz_93 : (⟨#[93]⟩ : ByteArray).size = 1 := rfl
theorem sz_123 : (⟨#[123]⟩ : ByteArray).size = 1 := rfl
theorem sz_125 : (⟨#[125]⟩ : ByteArray).size = 1 := rfl
set_option maxHeartbeats 8000000 in
theorem rwrite_ok (lines : Bool) (b : Nat) (hb : b ≤ 8) : ∀ v d, goodB v = true → wrV v = true → (lines = true → d + nV v ≤ 49) → d + nV v ≤ 1000000 → szV v ≤ 10000 → Ok Tryd.prog 44 [.agg (cellsV v), vI d, vI b, vB lines] (vS (txV (gL lines b) (cL lines) d v)) := by
  refine V.ind fun v ih d hg hw hd hd2 hz => ?_
  have hze := szV_eq v
  have hn := nV_eq v
  obtain ⟨hf, hkk, hx⟩ := wrV_get hw
  have hfi : fits v.n := hf
  obtain ⟨hk, hk4, hgx⟩ := good_get hg
  rw [txV_eq, nodeT]
  refine Ok.of_pwp (by kernel_rfl) Tryd.func44 rfl (by kernel_rfl) (by kernel_rfl) ?_
  have cases6 : v.kind = 0 ∨ v.kind = 1 ∨ v.kind = 2 ∨ v.kind = 3 ∨ v.kind = 4 ∨ v.kind = 5 := by omega
  rcases cases6 with k | k | k | k | k45
  · rw [if_neg (by omega), if_neg (by omega), if_neg (by omega), if_neg (by omega), if_neg (by omega)]
    simp (implicitDefEqProofs := false) (disch := omega) only [go_sem, simprocAttr, go_sem, Nat.le_refl, cellsV, Tryd.results44, k]
  · rw [if_pos (by omega)]
    cases hbb : v.b with
    | true => simp (implicitDefEqProofs := false) (disch := omega) only [go_sem, simprocAttr, go_sem, Nat.le_refl, cellsV, Tryd.results44, k, hbb]
    | false => simp (implicitDefEqProofs := false) (disch := omega) only [go_sem, simprocAttr, go_sem, Nat.le_refl, cellsV, Tryd.results44, k, hbb]
  · rw [if_neg (by omega), if_pos (by omega)]
    simp (implicitDefEqProofs := false) (disch := omega) only [go_sem, simprocAttr, go_sem, Nat.le_refl, cellsV, Tryd.results44, k]
    with_reducible refine CallOk.of (of_rep v.n hfi) rfl ?_
    simp (implicitDefEqProofs := false) (disch := omega) only [go_sem, simprocAttr, go_sem, Nat.le_refl, cellsV, Tryd.results44, k]
    with_reducible refine CallOk.of (rtext_ok v.n hfi) rfl ?_
    simp (implicitDefEqProofs := false) (disch := omega) only [go_sem, simprocAttr, go_sem, Nat.le_refl, cellsV, Tryd.results44, k]
  · rw [if_neg (by omega), if_neg (by omega), if_pos (by omega)]
    simp (implicitDefEqProofs := false) (disch := omega) only [go_sem, simprocAttr, go_sem, Nat.le_refl, cellsV, Tryd.results44, k]
    with_reducible refine CallOk.of (rquote_ok v.s (by omega)) rfl ?_
    simp (implicitDefEqProofs := false) (disch := omega) only [go_sem, simprocAttr, go_sem, Nat.le_refl, cellsV, Tryd.results44, k]
  · obtain ⟨o, ho⟩ : ∃ o : Bool, decide (v.kind = 5) = o := ⟨_, rfl⟩
    have hlen := nVs_pos v.items
    have hmul : ∀ d : Nat, (d : Int) * (b : Int) = ((d * b : Nat) : Int) := fun d => rfl
    have hsm := V.small (v := v) (B := 10000) hz
    have hfw := V.few (v := v) (B := 10000) hz
    have hgd := fun (h : lines = true) => gap_ok d b (by have := hd h; omega) hb
    have hgd1 := fun (h : lines = true) (h2 : 0 < v.items.length) => gap_ok (d + 1) b (by have := hd h; omega) hb
    have hcast : ((d + 1 : Nat) : Int) = (d : Int) + 1 := rfl
    rw [hcast] at hgd1
    have hk0 : decide (v.kind = 0) = false := decide_eq_false (by omega)
    have hk1 : decide (v.kind = 1) = false := decide_eq_false (by omega)
    have hk2 : decide (v.kind = 2) = false := decide_eq_false (by omega)
    have hk3 : decide (v.kind = 3) = false := decide_eq_false (by omega)
    have hG : ∀ d', d' ≤ d + nV v → (gL lines b d').size ≤ 400 := fun d' hd' => gL_size hb (fun h => by have := hd h; omega)
    have hitz := fun i (hi : i ≤ v.items.length) => itT_size (g := gL lines b (d + 1)) (c := cL lines) (o := o) (ks := v.keys) (is := v.items) (f := txV (gL lines b) (cL lines) (d + 1)) (hG _ (by omega)) (cL_size lines) (fun x hx' => txV_size hG (cL_size lines) x (d + 1) (hx x hx') (by have := nVs_mem hx'; omega)) i hi
    have htk := szVs_take v.items
    have htn : ∀ i, nVs (v.items.take i) ≤ szVs (v.items.take i) := fun i => nVs_le _
    have htt := fun i => (szT_take v.keys i).2
    have hnle := nVs_le v.items
    generalize hR : vS _ = R
    simp (implicitDefEqProofs := false) (disch := omega) only [go_sem, simprocAttr, go_sem, Nat.le_refl, cellsV, Tryd.results44, ByteArray.size_append, sz_44, sz_58, sz_32, sz_91, sz_93, sz_123, sz_125, hk0, hk1, hk2, hk3]
    refine p_loop (ι := { i : Nat // i ≤ v.items.length }) (fun p => ⟨[(9, vS (itT (gL lines b (d + 1)) (cL lines) o v.keys (v.items.map (txV (gL lines b) (cL lines) (d + 1))) p.1)), (33, vI p.1), (32, vI v.items.length), (1, vI d), (2, vI b), (3, vB lines), (4, .ptr 0 0)], [(0, .box 35 (cellsV v))], [], 1, 0⟩) (fun p => v.items.length - p.1) ⟨0, Nat.zero_le _⟩ ?_ ?_
    · simp only [itT]
      refine ⟨?_, ?_, ?_, ?_, ?_, ?_, ?_⟩ <;> simp only [go_sem, simprocAttr, decide_eq_true_eq, Int.natCast_zero, cellsV] <;> try first | omega | ((repeat' (first | exact And.intro rfl (by omega) | (refine And.intro ?_ ?_))) <;> first | rfl | omega | (congr 3; omega) | (congr 2; omega))
    · rintro ⟨i, hi⟩
      simp only at hi ⊢
      by_cases hlt : i < v.items.length
      · have hfin : itT (gL lines b (d + 1)) (cL lines) o v.keys (v.items.map (txV (gL lines b) (cL lines) (d + 1))) (i + 1) = itT (gL lines b (d + 1)) (cL lines) o v.keys (v.items.map (txV (gL lines b) (cL lines) (d + 1))) i ++ (if 0 < i then bC 44 else ByteArray.empty) ++ gL lines b (d + 1) ++ (if o then qF (v.keys.getD i ByteArray.empty) ++ cL lines else ByteArray.empty) ++ txV (gL lines b) (cL lines) (d + 1) (v.items.getD i default) := by
          rw [itT, map_get _ hlt]
        have hmem := getD_mem (d := (default : V)) hlt
        have hnm := nVs_mem hmem
        have hvi := ih _ hmem (d + 1) (hgx _ hmem) (hx _ hmem) (fun h => by have := hd h; omega) (by omega) (hsm.2.2.1 _ hmem)
        rw [hcast] at hvi
        have hg1 := fun (h : lines = true) => hgd1 h (by omega)
        have hxz := hitz i hi
        have htk := htk i
        have htn := htn i
        have htt := htt i
        have hGz := hG (d + 1) (by omega)
        have htz := txV_size hG (cL_size lines) (v.items.getD i default) (d + 1) (hx _ hmem) (by omega)
        have htz1 := szVs_mem hmem
        have htz2 := nV_le (v.items.getD i default)
        have hmul1 : ((d : Int) + 1) * (b : Int) = (((d + 1) * b : Nat) : Int) := rfl
        generalize itT (gL lines b (d + 1)) (cL lines) o v.keys (v.items.map (txV (gL lines b) (cL lines) (d + 1))) i = x at *
        generalize hY : itT (gL lines b (d + 1)) (cL lines) o v.keys (v.items.map (txV (gL lines b) (cL lines) (d + 1))) (i + 1) = Y at hfin
        generalize txV (gL lines b) (cL lines) (d + 1) (v.items.getD i default) = T at *
        cases lines with
        | true =>
          have hg1' := hg1 rfl
          have hGz : (gapT ((d + 1) * b)).size ≤ 400 := hGz
          cases o with
          | true =>
            have hkl := hkk (of_decide_eq_true ho)
            have hkl' : (i : Int) < (v.keys.length : Int) := by omega
            have hqz := qF_size (v.keys.getD i ByteArray.empty)
            have hqz2 := hfw.2 _ (getD_mem (d := ByteArray.empty) (show i < v.keys.length by omega))
            have hq := rquote_ok (v.keys.getD i ByteArray.empty) (by have := hfw.2 _ (getD_mem (d := ByteArray.empty) (show i < v.keys.length by omega)); omega)
            by_cases h0 : 0 < i
            · rw [if_pos h0] at hfin
              simp only [gL, cL, if_true, Bool.false_eq_true, if_false, bC_44, bC_58, bC_32, ByteArray.append_empty, ← ByteArray.append_assoc] at hfin
              simp (implicitDefEqProofs := false) (disch := omega) only [go_sem, simprocAttr, go_sem, Nat.le_refl, cellsV, Tryd.results44, ByteArray.size_append, sz_44, sz_58, sz_32, sz_91, sz_93, sz_123, sz_125, ho, hmul1, decide_eq_true (show (0 : Int) < (i : Int) by omega)]
              with_reducible refine CallOk.of hg1' rfl ?_
              simp (implicitDefEqProofs := false) (disch := omega) only [go_sem, simprocAttr, go_sem, Nat.le_refl, cellsV, Tryd.results44, ByteArray.size_append, sz_44, sz_58, sz_32, sz_91, sz_93, sz_123, sz_125, ho, hmul1, decide_eq_true (show (0 : Int) < (i : Int) by omega)]
              with_reducible refine CallOk.of hq rfl ?_
              simp (implicitDefEqProofs := false) (disch := omega) only [go_sem, simprocAttr, go_sem, Nat.le_refl, cellsV, Tryd.results44, ByteArray.size_append, sz_44, sz_58, sz_32, sz_91, sz_93, sz_123, sz_125, ho, hmul1, decide_eq_true (show (0 : Int) < (i : Int) by omega)]
              with_reducible refine CallOk.of hvi rfl ?_
              simp (implicitDefEqProofs := false) (disch := omega) only [go_sem, simprocAttr, go_sem, Nat.le_refl, cellsV, Tryd.results44, ByteArray.size_append, sz_44, sz_58, sz_32, sz_91, sz_93, sz_123, sz_125, ho, hmul1, decide_eq_true (show (0 : Int) < (i : Int) by omega)]
              refine ⟨⟨i + 1, hlt⟩, by simp only; omega, ?_⟩
              simp only [hY, hfin]
              refine ⟨?_, ?_, ?_, ?_, ?_, ?_, ?_⟩ <;> simp only [go_sem, simprocAttr, decide_eq_true_eq, Int.natCast_add, Int.natCast_one, cellsV] <;> try first | omega | ((repeat' (first | exact And.intro rfl (by omega) | (refine And.intro ?_ ?_))) <;> first | rfl | omega | (congr 3; omega) | (congr 2; omega))
            · rw [if_neg h0] at hfin
              simp only [gL, cL, if_true, Bool.false_eq_true, if_false, bC_44, bC_58, bC_32, ByteArray.append_empty, ← ByteArray.append_assoc] at hfin
              simp (implicitDefEqProofs := false) (disch := omega) only [go_sem, simprocAttr, go_sem, Nat.le_refl, cellsV, Tryd.results44, ByteArray.size_append, sz_44, sz_58, sz_32, sz_91, sz_93, sz_123, sz_125, ho, hmul1, decide_eq_false (show ¬ (0 : Int) < (i : Int) by omega)]
              with_reducible refine CallOk.of hg1' rfl ?_
              simp (implicitDefEqProofs := false) (disch := omega) only [go_sem, simprocAttr, go_sem, Nat.le_refl, cellsV, Tryd.results44, ByteArray.size_append, sz_44, sz_58, sz_32, sz_91, sz_93, sz_123, sz_125, ho, hmul1, decide_eq_false (show ¬ (0 : Int) < (i : Int) by omega)]
              with_reducible refine CallOk.of hq rfl ?_
              simp (implicitDefEqProofs := false) (disch := omega) only [go_sem, simprocAttr, go_sem, Nat.le_refl, cellsV, Tryd.results44, ByteArray.size_append, sz_44, sz_58, sz_32, sz_91, sz_93, sz_123, sz_125, ho, hmul1, decide_eq_false (show ¬ (0 : Int) < (i : Int) by omega)]
              with_reducible refine CallOk.of hvi rfl ?_
              simp (implicitDefEqProofs := false) (disch := omega) only [go_sem, simprocAttr, go_sem, Nat.le_refl, cellsV, Tryd.results44, ByteArray.size_append, sz_44, sz_58, sz_32, sz_91, sz_93, sz_123, sz_125, ho, hmul1, decide_eq_false (show ¬ (0 : Int) < (i : Int) by omega)]
              refine ⟨⟨i + 1, hlt⟩, by simp only; omega, ?_⟩
              simp only [hY, hfin]
              refine ⟨?_, ?_, ?_, ?_, ?_, ?_, ?_⟩ <;> simp only [go_sem, simprocAttr, decide_eq_true_eq, Int.natCast_add, Int.natCast_one, cellsV] <;> try first | omega | ((repeat' (first | exact And.intro rfl (by omega) | (refine And.intro ?_ ?_))) <;> first | rfl | omega | (congr 3; omega) | (congr 2; omega))
          | false =>
            by_cases h0 : 0 < i
            · rw [if_pos h0] at hfin
              simp only [gL, cL, if_true, Bool.false_eq_true, if_false, bC_44, bC_58, bC_32, ByteArray.append_empty, ← ByteArray.append_assoc] at hfin
              simp (implicitDefEqProofs := false) (disch := omega) only [go_sem, simprocAttr, go_sem, Nat.le_refl, cellsV, Tryd.results44, ByteArray.size_append, sz_44, sz_58, sz_32, sz_91, sz_93, sz_123, sz_125, ho, hmul1, decide_eq_true (show (0 : Int) < (i : Int) by omega)]
              with_reducible refine CallOk.of hg1' rfl ?_
              simp (implicitDefEqProofs := false) (disch := omega) only [go_sem, simprocAttr, go_sem, Nat.le_refl, cellsV, Tryd.results44, ByteArray.size_append, sz_44, sz_58, sz_32, sz_91, sz_93, sz_123, sz_125, ho, hmul1, decide_eq_true (show (0 : Int) < (i : Int) by omega)]
              with_reducible refine CallOk.of hvi rfl ?_
              simp (implicitDefEqProofs := false) (disch := omega) only [go_sem, simprocAttr, go_sem, Nat.le_refl, cellsV, Tryd.results44, ByteArray.size_append, sz_44, sz_58, sz_32, sz_91, sz_93, sz_123, sz_125, ho, hmul1, decide_eq_true (show (0 : Int) < (i : Int) by omega)]
              refine ⟨⟨i + 1, hlt⟩, by simp only; omega, ?_⟩
              simp only [hY, hfin]
              refine ⟨?_, ?_, ?_, ?_, ?_, ?_, ?_⟩ <;> simp only [go_sem, simprocAttr, decide_eq_true_eq, Int.natCast_add, Int.natCast_one, cellsV] <;> try first | omega | ((repeat' (first | exact And.intro rfl (by omega) | (refine And.intro ?_ ?_))) <;> first | rfl | omega | (congr 3; omega) | (congr 2; omega))
            · rw [if_neg h0] at hfin
              simp only [gL, cL, if_true, Bool.false_eq_true, if_false, bC_44, bC_58, bC_32, ByteArray.append_empty, ← ByteArray.append_assoc] at hfin
              simp (implicitDefEqProofs := false) (disch := omega) only [go_sem, simprocAttr, go_sem, Nat.le_refl, cellsV, Tryd.results44, ByteArray.size_append, sz_44, sz_58, sz_32, sz_91, sz_93, sz_123, sz_125, ho, hmul1, decide_eq_false (show ¬ (0 : Int) < (i : Int) by omega)]
              with_reducible refine CallOk.of hg1' rfl ?_
              simp (implicitDefEqProofs := false) (disch := omega) only [go_sem, simprocAttr, go_sem, Nat.le_refl, cellsV, Tryd.results44, ByteArray.size_append, sz_44, sz_58, sz_32, sz_91, sz_93, sz_123, sz_125, ho, hmul1, decide_eq_false (show ¬ (0 : Int) < (i : Int) by omega)]
              with_reducible refine CallOk.of hvi rfl ?_
              simp (implicitDefEqProofs := false) (disch := omega) only [go_sem, simprocAttr, go_sem, Nat.le_refl, cellsV, Tryd.results44, ByteArray.size_append, sz_44, sz_58, sz_32, sz_91, sz_93, sz_123, sz_125, ho, hmul1, decide_eq_false (show ¬ (0 : Int) < (i : Int) by omega)]
              refine ⟨⟨i + 1, hlt⟩, by simp only; omega, ?_⟩
              simp only [hY, hfin]
              refine ⟨?_, ?_, ?_, ?_, ?_, ?_, ?_⟩ <;> simp only [go_sem, simprocAttr, decide_eq_true_eq, Int.natCast_add, Int.natCast_one, cellsV] <;> try first | omega | ((repeat' (first | exact And.intro rfl (by omega) | (refine And.intro ?_ ?_))) <;> first | rfl | omega | (congr 3; omega) | (congr 2; omega))
        | false =>
          cases o with
          | true =>
            have hkl := hkk (of_decide_eq_true ho)
            have hkl' : (i : Int) < (v.keys.length : Int) := by omega
            have hqz := qF_size (v.keys.getD i ByteArray.empty)
            have hqz2 := hfw.2 _ (getD_mem (d := ByteArray.empty) (show i < v.keys.length by omega))
            have hq := rquote_ok (v.keys.getD i ByteArray.empty) (by have := hfw.2 _ (getD_mem (d := ByteArray.empty) (show i < v.keys.length by omega)); omega)
            by_cases h0 : 0 < i
            · rw [if_pos h0] at hfin
              simp only [gL, cL, if_true, Bool.false_eq_true, if_false, bC_44, bC_58, bC_32, ByteArray.append_empty, ← ByteArray.append_assoc] at hfin
              simp (implicitDefEqProofs := false) (disch := omega) only [go_sem, simprocAttr, go_sem, Nat.le_refl, cellsV, Tryd.results44, ByteArray.size_append, sz_44, sz_58, sz_32, sz_91, sz_93, sz_123, sz_125, ho, hmul1, decide_eq_true (show (0 : Int) < (i : Int) by omega)]
              with_reducible refine CallOk.of hq rfl ?_
              simp (implicitDefEqProofs := false) (disch := omega) only [go_sem, simprocAttr, go_sem, Nat.le_refl, cellsV, Tryd.results44, ByteArray.size_append, sz_44, sz_58, sz_32, sz_91, sz_93, sz_123, sz_125, ho, hmul1, decide_eq_true (show (0 : Int) < (i : Int) by omega)]
              with_reducible refine CallOk.of hvi rfl ?_
              simp (implicitDefEqProofs := false) (disch := omega) only [go_sem, simprocAttr, go_sem, Nat.le_refl, cellsV, Tryd.results44, ByteArray.size_append, sz_44, sz_58, sz_32, sz_91, sz_93, sz_123, sz_125, ho, hmul1, decide_eq_true (show (0 : Int) < (i : Int) by omega)]
              refine ⟨⟨i + 1, hlt⟩, by simp only; omega, ?_⟩
              simp only [hY, hfin]
              refine ⟨?_, ?_, ?_, ?_, ?_, ?_, ?_⟩ <;> simp only [go_sem, simprocAttr, decide_eq_true_eq, Int.natCast_add, Int.natCast_one, cellsV] <;> try first | omega | ((repeat' (first | exact And.intro rfl (by omega) | (refine And.intro ?_ ?_))) <;> first | rfl | omega | (congr 3; omega) | (congr 2; omega))
            · rw [if_neg h0] at hfin
              simp only [gL, cL, if_true, Bool.false_eq_true, if_false, bC_44, bC_58, bC_32, ByteArray.append_empty, ← ByteArray.append_assoc] at hfin
              simp (implicitDefEqProofs := false) (disch := omega) only [go_sem, simprocAttr, go_sem, Nat.le_refl, cellsV, Tryd.results44, ByteArray.size_append, sz_44, sz_58, sz_32, sz_91, sz_93, sz_123, sz_125, ho, hmul1, decide_eq_false (show ¬ (0 : Int) < (i : Int) by omega)]
              with_reducible refine CallOk.of hq rfl ?_
              simp (implicitDefEqProofs := false) (disch := omega) only [go_sem, simprocAttr, go_sem, Nat.le_refl, cellsV, Tryd.results44, ByteArray.size_append, sz_44, sz_58, sz_32, sz_91, sz_93, sz_123, sz_125, ho, hmul1, decide_eq_false (show ¬ (0 : Int) < (i : Int) by omega)]
              with_reducible refine CallOk.of hvi rfl ?_
              simp (implicitDefEqProofs := false) (disch := omega) only [go_sem, simprocAttr, go_sem, Nat.le_refl, cellsV, Tryd.results44, ByteArray.size_append, sz_44, sz_58, sz_32, sz_91, sz_93, sz_123, sz_125, ho, hmul1, decide_eq_false (show ¬ (0 : Int) < (i : Int) by omega)]
              refine ⟨⟨i + 1, hlt⟩, by simp only; omega, ?_⟩
              simp only [hY, hfin]
              refine ⟨?_, ?_, ?_, ?_, ?_, ?_, ?_⟩ <;> simp only [go_sem, simprocAttr, decide_eq_true_eq, Int.natCast_add, Int.natCast_one, cellsV] <;> try first | omega | ((repeat' (first | exact And.intro rfl (by omega) | (refine And.intro ?_ ?_))) <;> first | rfl | omega | (congr 3; omega) | (congr 2; omega))
          | false =>
            by_cases h0 : 0 < i
            · rw [if_pos h0] at hfin
              simp only [gL, cL, if_true, Bool.false_eq_true, if_false, bC_44, bC_58, bC_32, ByteArray.append_empty, ← ByteArray.append_assoc] at hfin
              simp (implicitDefEqProofs := false) (disch := omega) only [go_sem, simprocAttr, go_sem, Nat.le_refl, cellsV, Tryd.results44, ByteArray.size_append, sz_44, sz_58, sz_32, sz_91, sz_93, sz_123, sz_125, ho, hmul1, decide_eq_true (show (0 : Int) < (i : Int) by omega)]
              with_reducible refine CallOk.of hvi rfl ?_
              simp (implicitDefEqProofs := false) (disch := omega) only [go_sem, simprocAttr, go_sem, Nat.le_refl, cellsV, Tryd.results44, ByteArray.size_append, sz_44, sz_58, sz_32, sz_91, sz_93, sz_123, sz_125, ho, hmul1, decide_eq_true (show (0 : Int) < (i : Int) by omega)]
              refine ⟨⟨i + 1, hlt⟩, by simp only; omega, ?_⟩
              simp only [hY, hfin]
              refine ⟨?_, ?_, ?_, ?_, ?_, ?_, ?_⟩ <;> simp only [go_sem, simprocAttr, decide_eq_true_eq, Int.natCast_add, Int.natCast_one, cellsV] <;> try first | omega | ((repeat' (first | exact And.intro rfl (by omega) | (refine And.intro ?_ ?_))) <;> first | rfl | omega | (congr 3; omega) | (congr 2; omega))
            · rw [if_neg h0] at hfin
              simp only [gL, cL, if_true, Bool.false_eq_true, if_false, bC_44, bC_58, bC_32, ByteArray.append_empty, ← ByteArray.append_assoc] at hfin
              simp (implicitDefEqProofs := false) (disch := omega) only [go_sem, simprocAttr, go_sem, Nat.le_refl, cellsV, Tryd.results44, ByteArray.size_append, sz_44, sz_58, sz_32, sz_91, sz_93, sz_123, sz_125, ho, hmul1, decide_eq_false (show ¬ (0 : Int) < (i : Int) by omega)]
              with_reducible refine CallOk.of hvi rfl ?_
              simp (implicitDefEqProofs := false) (disch := omega) only [go_sem, simprocAttr, go_sem, Nat.le_refl, cellsV, Tryd.results44, ByteArray.size_append, sz_44, sz_58, sz_32, sz_91, sz_93, sz_123, sz_125, ho, hmul1, decide_eq_false (show ¬ (0 : Int) < (i : Int) by omega)]
              refine ⟨⟨i + 1, hlt⟩, by simp only; omega, ?_⟩
              simp only [hY, hfin]
              refine ⟨?_, ?_, ?_, ?_, ?_, ?_, ?_⟩ <;> simp only [go_sem, simprocAttr, decide_eq_true_eq, Int.natCast_add, Int.natCast_one, cellsV] <;> try first | omega | ((repeat' (first | exact And.intro rfl (by omega) | (refine And.intro ?_ ?_))) <;> first | rfl | omega | (congr 3; omega) | (congr 2; omega))
      · have hi' : i = v.items.length := by omega
        subst hi'
        have hml : (v.items.map (txV (gL lines b) (cL lines) (d + 1))).length = v.items.length := by simp
        have hxz := hitz _ (Nat.le_refl _)
        rw [List.take_length] at hxz
        have htt := htt v.items.length
        rw [inT, inT, hml] at hR
        have hk1' : ¬ v.kind = 1 := by omega
        have hk2' : ¬ v.kind = 2 := by omega
        have hk3' : ¬ v.kind = 3 := by omega
        rw [if_neg hk1', if_neg hk2', if_neg hk3'] at hR
        cases o with
        | true =>
          have h5 := of_decide_eq_true ho
          rw [if_neg (by omega), if_pos h5] at hR
          generalize itT (gL lines b (d + 1)) (cL lines) true v.keys (v.items.map (txV (gL lines b) (cL lines) (d + 1))) v.items.length = x at *
          have hk4 : decide (v.kind = 4) = false := decide_eq_false (by omega)
          cases lines with
          | true =>
            have hgd' := hgd rfl
            have hGz : (gapT (d * b)).size ≤ 400 := hG d (by omega)
            by_cases h0 : 0 < v.items.length
            · rw [if_pos h0] at hR
              simp (implicitDefEqProofs := false) (disch := omega) only [go_sem, simprocAttr, go_sem, Nat.le_refl, cellsV, Tryd.results44, ByteArray.size_append, sz_44, sz_58, sz_32, sz_91, sz_93, sz_123, sz_125, ho, hk4, hmul, decide_eq_true (show (0 : Int) < (v.items.length : Int) by omega)]
              with_reducible refine CallOk.of hgd' rfl ?_
              simp (implicitDefEqProofs := false) (disch := omega) only [go_sem, simprocAttr, go_sem, Nat.le_refl, cellsV, Tryd.results44, ByteArray.size_append, sz_44, sz_58, sz_32, sz_91, sz_93, sz_123, sz_125, ho, hk4, hmul, decide_eq_true (show (0 : Int) < (v.items.length : Int) by omega)]
              exact hR
            · rw [if_neg h0, ByteArray.append_empty] at hR
              simp (implicitDefEqProofs := false) (disch := omega) only [go_sem, simprocAttr, go_sem, Nat.le_refl, cellsV, Tryd.results44, ByteArray.size_append, sz_44, sz_58, sz_32, sz_91, sz_93, sz_123, sz_125, ho, hk4, hmul, decide_eq_false (show ¬ (0 : Int) < (v.items.length : Int) by omega)]
              exact hR
          | false =>
            rw [gL_empty, ite_self, ByteArray.append_empty] at hR
            simp (implicitDefEqProofs := false) (disch := omega) only [go_sem, simprocAttr, go_sem, Nat.le_refl, cellsV, Tryd.results44, ByteArray.size_append, sz_44, sz_58, sz_32, sz_91, sz_93, sz_123, sz_125, ho, hk4, hmul]
            exact hR
        | false =>
          have h5 := of_decide_eq_false ho
          have h4 : v.kind = 4 := by omega
          rw [if_pos h4] at hR
          generalize itT (gL lines b (d + 1)) (cL lines) false v.keys (v.items.map (txV (gL lines b) (cL lines) (d + 1))) v.items.length = x at *
          have hk4 : decide (v.kind = 4) = true := decide_eq_true h4
          cases lines with
          | true =>
            have hgd' := hgd rfl
            have hGz : (gapT (d * b)).size ≤ 400 := hG d (by omega)
            by_cases h0 : 0 < v.items.length
            · rw [if_pos h0] at hR
              simp (implicitDefEqProofs := false) (disch := omega) only [go_sem, simprocAttr, go_sem, Nat.le_refl, cellsV, Tryd.results44, ByteArray.size_append, sz_44, sz_58, sz_32, sz_91, sz_93, sz_123, sz_125, ho, hk4, hmul, decide_eq_true (show (0 : Int) < (v.items.length : Int) by omega)]
              with_reducible refine CallOk.of hgd' rfl ?_
              simp (implicitDefEqProofs := false) (disch := omega) only [go_sem, simprocAttr, go_sem, Nat.le_refl, cellsV, Tryd.results44, ByteArray.size_append, sz_44, sz_58, sz_32, sz_91, sz_93, sz_123, sz_125, ho, hk4, hmul, decide_eq_true (show (0 : Int) < (v.items.length : Int) by omega)]
              exact hR
            · rw [if_neg h0, ByteArray.append_empty] at hR
              simp (implicitDefEqProofs := false) (disch := omega) only [go_sem, simprocAttr, go_sem, Nat.le_refl, cellsV, Tryd.results44, ByteArray.size_append, sz_44, sz_58, sz_32, sz_91, sz_93, sz_123, sz_125, ho, hk4, hmul, decide_eq_false (show ¬ (0 : Int) < (v.items.length : Int) by omega)]
              exact hR
          | false =>
            rw [gL_empty, ite_self, ByteArray.append_empty] at hR
            simp (implicitDefEqProofs := false) (disch := omega) only [go_sem, simprocAttr, go_sem, Nat.le_refl, cellsV, Tryd.results44, ByteArray.size_append, sz_44, sz_58, sz_32, sz_91, sz_93, sz_123, sz_125, ho, hk4, hmul]
            exact hR
end Go.Proofs.YtmfaejdnaippkaaDoor

end
section
/-
  A value's text is a text.
-/
open Go Go.Proofs Go.Pw Go.RowKit
namespace Go.Proofs.YtmfaejdnaippkaaDoor
set_option maxRecDepth 4000
set_option linter.unusedVariables false
set_option linter.unusedSimpArgs false
theorem isT_iff (s : ByteArray) : isT s = true ↔ (scan s 0).2 = s.size := by unfold isT; simp
theorem isT_app {a b : ByteArray} (ha : isT a = true) (hb : isT b = true) : isT (a ++ b) = true := by
  rw [isT_iff] at ha hb ⊢
  rw [scan_join ha hb]
theorem isT_pts {l : List Int} (h : l.all isF = true) : isT (strOfNums (textN l)) = true := by
  rw [isT_iff, scan_text l h]
theorem textN_ascii : ∀ {l : List Int}, (∀ x ∈ l, 0 ≤ x ∧ x < 128) → textN l = l
  | [], _ => rfl
  | x :: r, h => by
    have ih := textN_ascii (l := r) (fun y hy => h y (List.mem_cons_of_mem _ hy))
    have hx := h x (List.mem_cons_self ..)
    have : textN (x :: r) = bytesF x ++ textN r := rfl
    rw [this, ih]
    unfold bytesF
    rw [if_pos hx.2]
    rfl
theorem isT_ascii {l : List Int} (h : ∀ x ∈ l, 0 ≤ x ∧ x < 128) : isT (strOfNums l) = true := by
  have := isT_pts (l := l) (List.all_eq_true.2 fun x hx => by have := h x hx; unfold isF; simp; omega)
  rwa [textN_ascii h] at this
theorem isT_asc8 {l : List UInt8} (h : ∀ x ∈ l, x < 128) : isT ⟨l.toArray⟩ = true := by
  have e : (⟨l.toArray⟩ : ByteArray) = strOfNums (l.map toI) := by
    have := strOf_toI ⟨l.toArray⟩
    simpa using this.symm
  rw [e]
  refine isT_ascii fun x hx => ?_
  obtain ⟨y, hy, rfl⟩ := List.mem_map.1 hx
  have := h y hy
  rw [UInt8.lt_iff_toNat_lt] at this
  unfold toI
  exact ⟨by omega, by have h2 : (128 : UInt8).toNat = 128 := rfl; omega⟩
theorem esc_low : ∀ c : Fin 128, (escL c.1).all (fun x => decide (x < 128)) = true := by decide +kernel
theorem esc_high : ∀ c : Fin 256, 128 ≤ c.1 → escL c.1 = [c.1.toUInt8] := by decide +kernel
theorem bytesF_high {n : Int} (h : isF n = true) (h1 : ¬ n < 128) : ∀ x ∈ bytesF n, 128 ≤ x ∧ x ≤ 255 := by
  unfold isF at h
  simp only [decide_eq_true_eq] at h
  unfold bytesF
  rw [if_neg h1]
  intro x hx
  split at hx
  · simp at hx; omega
  · split at hx
    · simp at hx; omega
    · simp at hx; omega
/-- A point's bytes, escaped, are a text. -/
theorem esc_pt {n : Int} (h : isF n = true) : isT (strOfNums ((bytesF n).flatMap fun x => escI x.toNat)) = true := by
  by_cases h1 : n < 128
  · have h0 : 0 ≤ n := by unfold isF at h; simp only [decide_eq_true_eq] at h; omega
    have e : bytesF n = [n] := by unfold bytesF; rw [if_pos h1]
    rw [e]
    have hl := esc_low ⟨n.toNat, by omega⟩
    simp only [List.all_eq_true, decide_eq_true_eq] at hl
    refine isT_ascii fun x hx => ?_
    simp only [List.flatMap_cons, List.flatMap_nil, List.append_nil, escI, List.mem_map] at hx
    obtain ⟨y, hy, rfl⟩ := hx
    have := hl y hy
    rw [UInt8.lt_iff_toNat_lt] at this
    exact ⟨by omega, by have h2 : (128 : UInt8).toNat = 128 := rfl; omega⟩
  · have hb := bytesF_high h h1
    have e : ∀ l : List Int, (∀ x ∈ l, 128 ≤ x ∧ x ≤ 255) → (l.flatMap fun x => escI x.toNat) = l := by
      intro l
      induction l with
      | nil => intro _; rfl
      | cons x r ih =>
        intro hx
        have h2 := hx x (List.mem_cons_self ..)
        rw [List.flatMap_cons, ih fun y hy => hx y (List.mem_cons_of_mem _ hy)]
        have h3 := esc_high ⟨x.toNat, by omega⟩ (by show 128 ≤ x.toNat; omega)
        simp only at h3
        rw [escI, h3]
        have : (x.toNat.toUInt8).toNat = x.toNat := by rw [UInt8.toNat_ofNat']; omega
        simp only [List.map_cons, List.map_nil, this, List.cons_append, List.nil_append]
        congr 1
        omega
    rw [e _ hb]
    have := isT_pts (l := [n]) (by simp [h])
    simpa [textN] using this
theorem esc_text : ∀ l : List Int, l.all isF = true → isT (strOfNums ((textN l).flatMap fun x => escI x.toNat)) = true
  | [], _ => isT_empty
  | n :: r, h => by
    rw [List.all_cons, Bool.and_eq_true] at h
    have : textN (n :: r) = bytesF n ++ textN r := rfl
    rw [this, List.flatMap_append, ← strOf_app]
    exact isT_app (esc_pt h.1) (esc_text r h.2)
theorem qF_T {s : ByteArray} (h : isT s = true) : isT (qF s) = true := by
  rw [isT_iff] at h
  obtain ⟨h1, h2⟩ := scan_bytes s 0 (Nat.zero_le _) h
  rw [List.drop_zero] at h1
  have h3 := esc_text _ (List.all_eq_true.2 h2)
  rw [← h1] at h3
  have e : escS s s.size = strOfNums ((s.data.toList.map toI).flatMap fun x => escI x.toNat) := by
    apply ByteArray.ext
    apply Array.toList_inj.1
    rw [escS_data s s.size (Nat.le_refl _), List.take_of_length_le (by simp)]
    have h4 : ∀ l : List UInt8, (strOfNums ((l.map toI).flatMap fun x => escI x.toNat)).data.toList = escF l := by
      intro l
      induction l with
      | nil => rfl
      | cons b r ih =>
        have : strOfNums (((b :: r).map toI).flatMap fun x => escI x.toNat) = escA b.toNat ++ strOfNums ((r.map toI).flatMap fun x => escI x.toNat) := by
          rw [List.map_cons, List.flatMap_cons, ← strOf_app, strN_esc]
          rfl
        rw [this, ByteArray.data_append, Array.toList_append, ih]
        simp [escA, escF]
    exact (h4 _).symm
  rw [qF, e]
  exact isT_app (isT_app (by decide +kernel) h3) (by decide +kernel)
theorem isT_bt {s : ByteArray} (h : ∀ j : Nat, j < s.size → bt s j < 128) : isT s = true := by
  have : (⟨s.data.toList.toArray⟩ : ByteArray) = s := by simp
  rw [← this]
  refine isT_asc8 fun x hx => ?_
  obtain ⟨j, hj, rfl⟩ := List.mem_iff_getElem.1 hx
  have hl : s.data.toList.length = s.size := by simp
  have h1 := h j (by omega)
  rw [bt_eq, List.getD_eq_getElem?_getD, List.getElem?_eq_getElem hj, Option.getD_some] at h1
  rw [UInt8.lt_iff_toNat_lt]
  have h2 : (128 : UInt8).toNat = 128 := rfl
  omega
theorem dS_T (n : Nat) : isT (dS n) = true := by
  refine isT_bt fun j hj => ?_
  have := dS_all n j hj (Nat.zero_le _)
  unfold isD at this
  omega
theorem sOf_T (n : Int) : isT (sOf n) = true := by
  by_cases h : 0 ≤ n
  · rw [sOf_pos h]; exact dS_T _
  · rw [← sOf_neg (by omega)]
    exact isT_app (by decide +kernel) (dS_T _)
theorem itT_T {g c : ByteArray} {o : Bool} {ks its : List ByteArray} (hg : isT g = true) (hc : isT c = true) (hk : ∀ k ∈ ks, isT k = true) (hi : ∀ x ∈ its, isT x = true) : ∀ i, isT (itT g c o ks its i) = true
  | 0 => isT_empty
  | i + 1 => by
    have gd : ∀ (l : List ByteArray) i, (∀ x ∈ l, isT x = true) → isT (l.getD i ByteArray.empty) = true := fun l i h => by
      by_cases hl : i < l.length
      · exact h _ (getD_mem hl)
      · rw [List.getD_eq_getElem?_getD, List.getElem?_eq_none (by omega)]; exact isT_empty
    rw [itT]
    refine isT_app (isT_app (isT_app (isT_app (itT_T hg hc hk hi i) ?_) hg) ?_) (gd _ _ hi)
    · split
      · decide +kernel
      · exact isT_empty
    · split
      · exact isT_app (qF_T (gd _ _ hk)) hc
      · exact isT_empty
theorem good_texts {v : V} (h : goodB v = true) : isT v.s = true ∧ ∀ k ∈ v.keys, isT k = true := by
  rw [goodB_eq] at h
  simp only [Bool.and_eq_true, keyedB, List.all_eq_true] at h
  exact ⟨h.1.2, h.1.1.2.1.1⟩
/-- A good value's text is a text. -/
theorem txV_T {G : Nat → ByteArray} {c : ByteArray} (hG : ∀ d, isT (G d) = true) (hc : isT c = true) : ∀ v d, goodB v = true → isT (txV G c d v) = true := by
  refine V.ind fun v ih d hg => ?_
  obtain ⟨h1, h2⟩ := good_texts hg
  have hx := (good_get hg).2.2
  have hin : ∀ o, isT (inT (G d) (G (d + 1)) c o v.keys (v.items.map (txV G c (d + 1)))) = true := fun o => by
    rw [inT]
    refine isT_app (itT_T (hG _) hc h2 (fun x hx' => ?_) _) ?_
    · obtain ⟨y, hy, rfl⟩ := List.mem_map.1 hx'
      exact ih y hy (d + 1) (hx y hy)
    · split
      · exact hG _
      · exact isT_empty
  have l1 : isT ⟨#[91]⟩ = true := by decide +kernel
  have l2 : isT ⟨#[93]⟩ = true := by decide +kernel
  have l3 : isT ⟨#[123]⟩ = true := by decide +kernel
  have l4 : isT ⟨#[125]⟩ = true := by decide +kernel
  rw [txV_eq, nodeT]
  repeat' split
  all_goals first | exact sOf_T _ | exact qF_T h1 | exact isT_app (isT_app l1 (hin _)) l2 | exact isT_app (isT_app l3 (hin _)) l4 | decide +kernel
theorem tV_T {v : V} (h : goodB v = true) : isT (tV v) = true := txV_T (fun d => isT_empty) (by decide +kernel) v 0 h
/-- The first points' text. -/
def tP (l : List Int) (k : Nat) : ByteArray := strOfNums (textN (l.take k))
/-- How many points of a text have at most lim bytes, from k on. -/
def cutK (l : List Int) (lim : Int) : Nat → Nat → Nat
  | 0, k => k
  | f + 1, k => if lim < ((tP l (k + 1)).size : Int) then k else cutK l lim f (k + 1)
def shortF (s : ByteArray) (m : Int) : ByteArray :=
  if (s.size : Int) ≤ m then s else if m < 3 then ByteArray.empty else tP (scan s 0).1 (cutK (scan s 0).1 (m - 3) (scan s 0).1.length 0) ++ ⟨#[46, 46, 46]⟩
theorem tP_all {s : ByteArray} (h : isT s = true) : tP (scan s 0).1 (scan s 0).1.length = s ∧ (scan s 0).1.all isF = true := by
  rw [isT_iff] at h
  obtain ⟨h1, h2⟩ := scan_bytes s 0 (Nat.zero_le _) h
  rw [List.drop_zero] at h1
  rw [tP, List.take_length, ← h1, strOf_toI]
  exact ⟨rfl, List.all_eq_true.2 h2⟩
theorem tP_step {l : List Int} {k : Nat} (h : k < l.length) : tP l (k + 1) = tP l k ++ strOfNums (bytesF (l.getD k 0)) := by
  rw [tP, textN_step h, ← strOf_app, tP]
theorem tP_drop (l : List Int) (k : Nat) : tP l l.length = tP l k ++ strOfNums (textN (l.drop k)) := by
  rw [tP, tP, List.take_length, strOf_app]
  congr 1
  unfold textN
  rw [← List.flatMap_append, List.take_append_drop]
theorem drop_pt {l : List Int} {k : Nat} (h : k < l.length) : strOfNums (textN (l.drop k)) = strOfNums (bytesF (l.getD k 0)) ++ strOfNums (textN (l.drop (k + 1))) := by
  rw [strOf_app, List.drop_eq_getElem_cons h, List.getD_eq_getElem?_getD, List.getElem?_eq_getElem h]
  rfl
theorem tP_0 (l : List Int) : tP l 0 = ByteArray.empty := by
  apply ByteArray.ext
  simp [tP, textN, strOfNums]
theorem tP_T {l : List Int} (h : l.all isF = true) (k : Nat) : isT (tP l k) = true := by
  refine isT_pts (List.all_eq_true.2 fun x hx => List.all_eq_true.1 h x (List.mem_of_mem_take hx))
theorem cutK_lim {l : List Int} {lim : Int} : ∀ f k, k + f = l.length → ((tP l k).size : Int) ≤ lim → ((tP l (cutK l lim f k)).size : Int) ≤ lim ∧ cutK l lim f k ≤ l.length
  | 0, k, h, h0 => ⟨h0, by rw [cutK]; omega⟩
  | f + 1, k, h, h0 => by
    rw [cutK]
    split
    · exact ⟨h0, by omega⟩
    · exact cutK_lim f (k + 1) (by omega) (by omega)
theorem short_T {s : ByteArray} (h : isT s = true) (m : Int) : isT (shortF s m) = true ∧ (((shortF s m).size : Int) ≤ m ∨ shortF s m = ByteArray.empty) := by
  unfold shortF
  split
  · exact ⟨h, .inl (by assumption)⟩
  · split
    · exact ⟨isT_empty, .inr rfl⟩
    · refine ⟨isT_app (tP_T (tP_all h).2 _) (by decide +kernel), .inl ?_⟩
      have := (cutK_lim (l := (scan s 0).1) (lim := m - 3) (scan s 0).1.length 0 (by omega) (by rw [tP_0]; show ((0 : Nat) : Int) ≤ _; omega)).1
      rw [ByteArray.size_append]
      show ((_ + 3 : Nat) : Int) ≤ m
      omega
end Go.Proofs.YtmfaejdnaippkaaDoor

end
section
/-
  slices.Clone: of nothing, in memory; of something, by its code.
-/
open Go Go.Proofs Go.RowKit Go.Lib Go.Pw
namespace Go.Proofs.YtmfaejdnaippkaaDoor
set_option maxRecDepth 4000
set_option linter.unusedVariables false
set_option linter.unusedSimpArgs false
theorem run_append_empty {P : Program} {t e ty : TypeId} {i : TypeInfo} (ht : P.underlying t = some (.slice e)) (hi : P.info? e = some i) (b : Nat) (a : Addr) (cd c : Nat) (w : World) :
    (Builtin.append_ #[t, t] ty #[.slice (some ⟨b, 0, none⟩) 0 cd, .slice (some a) 0 c]).run P w = .ok (.slice (some ⟨b, 0, none⟩) 0 cd) w := by
  have hs : Src P i.size t (.slice (some a) 0 c) 0 [] w := Src.ofSlice w ht a 0 c [] (by simp) (fun j u hj => by simp at hj) (fun v hv => by cases hv)
  have := run_append_room_src (P := P) (w := w) t t ty e i ht hi b 0 0 cd (.slice (some a) 0 c) 0 [] hs (Nat.zero_le _) (fun j hj => by simp at hj) (fun j hj => by simp at hj)
  simpa [World.setCells] using this
theorem ok_of_empty {P : Program} {f : FuncId} (hent : enters P f = true) (h : ∀ (A : Option Addr) (c : Nat) (w : World), Calls P f #[.slice A 0 c] w fun e w' => ∃ A c', e = .returned (.slice A 0 c') ∧ Below w.heap.size w w') : Ok P f [.sl []] (.sl []) := by
  refine ⟨hent, fun S w vals hkn hS hn hr => ?_⟩
  obtain ⟨v, rfl⟩ : ∃ v, vals = #[v] := by
    cases vals with
    | mk l => match l, hn with
      | [v], _ => exact ⟨v, rfl⟩
  have r := hr 0 v _ rfl rfl
  cases r with
  | frz r =>
  cases r with
  | sl f hn' hc hsz hA hr' =>
  rename_i A n c sz
  have h0 : n = 0 := by simpa using hn'.symm
  subst h0
  refine (h A c w).mono ?_
  rintro e w' ⟨A', c', rfl, hb⟩
  refine ⟨_, S, rfl, SLe.refl _, fun b o u hu => ?_, fun b o u hu => .inl hu, .frz (.sl (sz := 1) (fun _ _ => .nilIface) rfl (Nat.zero_le _) (by simp) (by simp) (by simp)), hb⟩
  have h1 := hS b o u hu
  have hlt : b < w.heap.size := by
    rcases Nat.lt_or_ge b w.heap.size with h' | h'
    · exact h'
    · simp [World.cell?, Array.getElem?_eq_none h'] at h1
  rw [World.cell?_of_block (hb.block b hlt)]
  exact h1
set_option maxHeartbeats 2000000 in
set_option maxRecDepth 100000 in
theorem cloneV_none (c : Nat) (w : World) : Calls Tryd.prog 35 #[.slice none 0 c] w fun e w' => ∃ A c', e = .returned (.slice A 0 c') ∧ Below w.heap.size w w' := by
  go_enter Tryd.func35, Tryd.ntmps35
  go_wp2
  rw [Lib.run_eql_slice_nil _ _ _ _ _ _ _ _ Tryd.underlying26]
  simp only [Result.andThen]
  rw [Oper.upon_value]
  go_wp2
  go_ret
  exact ⟨none, 0, rfl, Below.refl _ _⟩
set_option maxHeartbeats 2000000 in
set_option maxRecDepth 100000 in
theorem cloneV_some (a : Addr) (c : Nat) (w : World) : Calls Tryd.prog 35 #[.slice (some a) 0 c] w fun e w' => ∃ A c', e = .returned (.slice A 0 c') ∧ Below w.heap.size w w' := by
  obtain ⟨i0, hi0, _⟩ : ∃ i0, Tryd.prog.info? 29 = some i0 ∧ True := ⟨_, rfl, trivial⟩
  have hrun := fun (ty : TypeId) (b cd : Nat) (W : World) => run_append_empty (ty := ty) Tryd.underlying26 hi0 b a cd c W
  go_enter Tryd.func35, Tryd.ntmps35
  go_wp2
  rw [Lib.run_eql_slice_nil _ _ _ _ _ _ _ _ Tryd.underlying26]
  simp only [Result.andThen]
  rw [Oper.upon_value]
  go_wp2_with (at_builtin; refine Lib.wpList_append_run _ rfl _ _ _ _ rfl _ _ rfl rfl _ _ (hrun _ _ _ _) ?_)
  go_ret
  exact ⟨some _, 0, rfl, (Below.refl _ _).alloc (Nat.le_refl _) _⟩
set_option maxHeartbeats 2000000 in
theorem cloneV_ok (l : List V) (hl : l.length ≤ 1000000) : Ok Tryd.prog 35 [.sl (encV l)] (.sl (encV l)) := by
  cases l with
  | nil =>
    rw [encV_nil]
    refine ok_of_empty (by kernel_rfl) fun A c w => ?_
    cases A with
    | none => exact cloneV_none c w
    | some a => exact cloneV_some a c w
  | cons x r =>
    refine Ok.of_pwp (by kernel_rfl) Tryd.func35 rfl (by kernel_rfl) (by kernel_rfl) ?_
    simp (implicitDefEqProofs := false) (disch := omega) only [go_sem, simprocAttr, go_sem, Nat.le_refl, cellsV, Tryd.results35]
    refine ⟨⟨_, Tryd.underlying26⟩, by simp [encV_cons], ?_⟩
    refine appZ_any rfl rfl (by rw [encV_len, List.length_nil]; omega) (by rw [encV_len, List.length_nil]; omega) ?_
    simp (implicitDefEqProofs := false) (disch := omega) only [go_sem, simprocAttr, go_sem, Nat.le_refl, cellsV, Tryd.results35]
end Go.Proofs.YtmfaejdnaippkaaDoor

end
section
/-
  How a law's arguments read: numbers, truths, texts, slices and structs of such.
-/
namespace Go.Pw
open Go Go.RowKit
set_option linter.unusedVariables false
set_option linter.unusedSimpArgs false
/-- Cells read ags these. -/
def CellsRep (w : World) (cs : List Value) (ps : List PV) : Prop := cs.length = ps.length ∧ ∀ (i : Nat) (c : Value) (p : PV), cs[i]? = some c → ps[i]? = some p → RepF (memCells w) c p
section
variable {H : Type} {en : TypeId × Value → H} {P : Program} {w : World} {base : Nat} {spare : Nat → Bool} {held : Bool}
/-- What lies in memory at a type reads ags a datum. -/
def Rd {H : Type} (en : TypeId × Value → H) (P : Program) (w : World) (base : Nat) (spare : Nat → Bool) (held : Bool) (t : TypeId) {α : Type} (e : α → List PV) (ok : α → Prop) : Prop :=
  ∀ (fuel : Nat) (cs : List Value) (x : DataW H × List MemPlace), DataW.trod en P w base spare held fuel t cs = some x → ∃ a, ok a ∧ CellsRep w cs (e a)
theorem CellsRep.one {c : Value} {p : PV} (h : RepF (memCells w) c p) : CellsRep w [c] [p] :=
  ⟨rfl, fun i c' p' h1 h2 => by
    cases i with
    | zero => simp at h1 h2; subst h1 h2; exact h
    | succ i => simp at h1⟩
theorem Rd.int {t : TypeId} {k : IntKind} (ht : P.underlying t = some (.int k)) : Rd en P w base spare held t (fun n : Int => [.val (.int k n)]) (fun n => (Lit.int k n).wf = true) := fun fuel cs x h => by
  obtain ⟨n, rfl, _, hw⟩ := DataW.trod_int ht h
  exact ⟨n, hw, .one (.val rfl)⟩
theorem Rd.string {t : TypeId} (ht : P.underlying t = some .string) : Rd en P w base spare held t (fun s : ByteArray => [vS s]) (fun s => s.size ≤ maxLen) := fun fuel cs x h => by
  obtain ⟨n, rfl, _, hw⟩ := DataW.trod_string ht h
  exact ⟨n, hw, .one (.val rfl)⟩
theorem Rd.map {t : TypeId} {α β : Type} {e : α → List PV} {ok : α → Prop} {e' : β → List PV} {ok' : β → Prop} (h : Rd en P w base spare held t e ok) (g : α → β) (he : ∀ a, e a = e' (g a)) (hk : ∀ a, ok a → ok' (g a)) : Rd en P w base spare held t e' ok' := fun fuel cs x hx => by
  obtain ⟨a, h1, h2⟩ := h fuel cs x hx
  exact ⟨g a, hk a h1, by rw [← he]; exact h2⟩
theorem list_of {α : Type} {p : Nat → α → Prop} : ∀ (n : Nat), (∀ i, i < n → ∃ a, p i a) → ∃ l : List α, l.length = n ∧ ∀ (i : Nat) (a : α), l[i]? = some a → p i a
  | 0, _ => ⟨[], rfl, fun i a h => by simp at h⟩
  | n + 1, h => by
    obtain ⟨l, h1, h2⟩ := list_of n (fun i hi => h i (by omega))
    obtain ⟨a, ha⟩ := h n (by omega)
    refine ⟨l ++ [a], by simp [h1], fun i b hb => ?_⟩
    by_cases hi : i < n
    · rw [List.getElem?_append_left (by omega)] at hb
      exact h2 i b hb
    · have : i = n := by
        have := (List.getElem?_eq_some_iff.1 hb).1
        simp at this
        omega
      subst this
      rw [List.getElem?_append_right (by omega), h1] at hb
      simp at hb
      subst hb
      exact ha
theorem cells?_get {a : Addr} {n : Nat} {cs : List Value} (h : w.cells? base a n = some cs) : cs.length = n ∧ ∀ j, j < n → w.cell? (a.add j) = cs[j]? := by
  unfold World.cells? at h
  split at h
  · have h1 := mapM_some_length h
    refine ⟨by simpa using h1, fun j hj => ?_⟩
    exact mapM_some_get h j j (by simp [hj])
  · cases h
theorem spot_none {a : Addr} {v : Value} (h : w.cell? a = some v) : a.spot = none := by
  unfold World.cell? at h
  split at h
  · split at h
    · cases h
    · rename_i hn
      cases hs : a.spot with
      | none => rfl
      | some x => rw [hs] at hn; simp at hn
  · cases h
theorem Rd.slice {t e : TypeId} {α : Type} {en' : α → List PV} {ok : α → Prop} {sz : Nat} (ht : P.underlying t = some (.slice e)) (hc : P.cellsOf e = sz) (h0 : 0 < sz) (hl : ∀ a, (en' a).length = sz) (h : Rd en P w base spare held e en' ok) :
    Rd en P w base spare held t (fun l : List α => [.sl (l.map en')]) (fun l => l.length ≤ maxLen ∧ ∀ a ∈ l, ok a) := fun fuel cs x hx => by
  rcases DataW.trod_slice ht hx with ⟨rfl, _⟩ | ⟨a, len, cap, elems, rest, n, _, rfl, _, _, hlc, hm, hlen, hel, _, _⟩
  · exact ⟨[], ⟨Nat.zero_le _, fun a ha => by cases ha⟩, .one (.sl (sz := 1) (fun _ _ => .nilIface) rfl (Nat.le_refl _) (by simp) (by simp) (by simp))⟩
  · have each : ∀ i, i < len → ∃ b : α, ok b ∧ ∃ ci, w.cells? base (a.add (i * sz)) sz = some ci ∧ CellsRep w ci (en' b) := fun i hi => by
      have h1 := hel i hi
      rw [hc] at h1
      have h2 : elems[i]? = some elems[i] := List.getElem?_eq_getElem (by omega)
      rw [h2, Option.bind_eq_some_iff] at h1
      obtain ⟨ci, h3, h4⟩ := h1
      obtain ⟨b, hb1, hb2⟩ := h n ci _ h4
      exact ⟨b, hb1, ci, h3, hb2⟩
    obtain ⟨l, l1, l2⟩ := list_of len each
    refine ⟨l, ⟨by omega, fun b hb => ?_⟩, .one ?_⟩
    · obtain ⟨i, hi⟩ := List.mem_iff_getElem?.1 hb
      exact (l2 i b hi).1
    · have spot : 0 < len → a = ⟨a.block, a.off, none⟩ := fun hp => by
        obtain ⟨b, _, ci, h3, h4⟩ := each 0 hp
        obtain ⟨g1, g2⟩ := cells?_get h3
        have h5 := g2 0 h0
        have h6 : ci[0]? = some (ci[0]'(by omega)) := List.getElem?_eq_getElem (by omega)
        rw [h6] at h5
        have e0 : (a.add (0 * sz)).add 0 = a := by simp [Addr.add]
        rw [e0] at h5
        have := spot_none h5
        cases a; simp at this; subst this; rfl
      refine .sl (sz := sz) (fun i j => (w.cell? ⟨a.block, a.off + (i * sz + j), none⟩).getD undef) (by simp [l1]) hlc (fun x hx => ?_) (fun hp => ⟨a.block, a.off, congrArg some (spot hp), fun i j hi hj => ?_⟩) (fun i j x p hx hp => ?_)
      · obtain ⟨b, _, rfl⟩ := List.mem_map.1 hx
        exact hl b
      · obtain ⟨b, _, ci, h3, h4⟩ := each i hi
        obtain ⟨g1, g2⟩ := cells?_get h3
        have h5 := g2 j hj
        have h6 : ci[j]? = some (ci[j]'(by omega)) := List.getElem?_eq_getElem (by omega)
        rw [h6, spot (by omega), Addr.add_lit, Addr.add_lit, Nat.add_assoc] at h5
        show w.cell? _ = _
        rw [h5]; rfl
      · rw [List.getElem?_map] at hx
        cases hli : l[i]? with
        | none => rw [hli] at hx; cases hx
        | some b =>
          rw [hli] at hx
          obtain rfl := Option.some.inj hx
          obtain ⟨_, ci, h3, h4⟩ := l2 i b hli
          have hi : i < len := by rw [← l1]; exact (List.getElem?_eq_some_iff.1 hli).1
          have hj : j < sz := by rw [← hl b]; exact (List.getElem?_eq_some_iff.1 hp).1
          obtain ⟨g1, g2⟩ := cells?_get h3
          have h5 := g2 j hj
          have h6 : ci[j]? = some (ci[j]'(by omega)) := List.getElem?_eq_getElem (by omega)
          rw [h6, spot (by omega), Addr.add_lit, Addr.add_lit, Nat.add_assoc] at h5
          rw [h5]
          exact h4.2 j _ p h6 hp
theorem Rd.bool {t : TypeId} (ht : P.underlying t = some .bool) : Rd en P w base spare held t (fun b : Bool => [vB b]) (fun _ => True) := fun fuel cs x h => by
  obtain ⟨b, rfl, _⟩ := DataW.trod_bool ht h
  exact ⟨b, trivial, .one (.val rfl)⟩
/-- A struct of 5 fields of one cell each. -/
theorem Rd.struct5 {t : TypeId} {fs : Array Field} {f0 f1 f2 f3 f4 : Field} {α0 α1 α2 α3 α4 : Type} {e0 : α0 → PV} {e1 : α1 → PV} {e2 : α2 → PV} {e3 : α3 → PV} {e4 : α4 → PV} {o0 : α0 → Prop} {o1 : α1 → Prop} {o2 : α2 → Prop} {o3 : α3 → Prop} {o4 : α4 → Prop}
    (ht : P.underlying t = some (.struct fs)) (hfs : fs = #[f0, f1, f2, f3, f4]) (hn : P.cellsOf t = 5)
    (g0 : f0.offset = 0) (g1 : f1.offset = 1) (g2 : f2.offset = 2) (g3 : f3.offset = 3) (g4 : f4.offset = 4)
    (c0 : P.cellsOf f0.type = 1) (c1 : P.cellsOf f1.type = 1) (c2 : P.cellsOf f2.type = 1) (c3 : P.cellsOf f3.type = 1) (c4 : P.cellsOf f4.type = 1)
    (h0 : Rd en P w base spare held f0.type (fun a => [e0 a]) o0) (h1 : Rd en P w base spare held f1.type (fun a => [e1 a]) o1) (h2 : Rd en P w base spare held f2.type (fun a => [e2 a]) o2) (h3 : Rd en P w base spare held f3.type (fun a => [e3 a]) o3) (h4 : Rd en P w base spare held f4.type (fun a => [e4 a]) o4) :
    Rd en P w base spare held t (fun a : α0 × α1 × α2 × α3 × α4 => [e0 a.1, e1 a.2.1, e2 a.2.2.1, e3 a.2.2.2.1, e4 a.2.2.2.2]) (fun a => o0 a.1 ∧ o1 a.2.1 ∧ o2 a.2.2.1 ∧ o3 a.2.2.2.1 ∧ o4 a.2.2.2.2) := fun fuel cs x hx => by
  subst hfs
  obtain ⟨xs, n, _, _, hl, hxl, hget⟩ := DataW.trod_struct ht hx
  rw [hn] at hl
  have hxl : xs.length = 5 := hxl
  match cs, hl with
  | [v0, v1, v2, v3, v4], _ =>
  match xs, hxl with
  | [x0, x1, x2, x3, x4], _ =>
  have q0 := hget 0 f0 rfl
  have q1 := hget 1 f1 rfl
  have q2 := hget 2 f2 rfl
  have q3 := hget 3 f3 rfl
  have q4 := hget 4 f4 rfl
  rw [g0, c0] at q0
  rw [g1, c1] at q1
  rw [g2, c2] at q2
  rw [g3, c3] at q3
  rw [g4, c4] at q4
  obtain ⟨a0, k0, r0⟩ := h0 n _ x0 q0
  obtain ⟨a1, k1, r1⟩ := h1 n _ x1 q1
  obtain ⟨a2, k2, r2⟩ := h2 n _ x2 q2
  obtain ⟨a3, k3, r3⟩ := h3 n _ x3 q3
  obtain ⟨a4, k4, r4⟩ := h4 n _ x4 q4
  refine ⟨(a0, a1, a2, a3, a4), ⟨k0, k1, k2, k3, k4⟩, rfl, fun i c p hc hp => ?_⟩
  match i with
  | 0 => simp at hc hp; subst hc hp; exact r0.2 0 _ _ rfl rfl
  | 1 => simp at hc hp; subst hc hp; exact r1.2 0 _ _ rfl rfl
  | 2 => simp at hc hp; subst hc hp; exact r2.2 0 _ _ rfl rfl
  | 3 => simp at hc hp; subst hc hp; exact r3.2 0 _ _ rfl rfl
  | 4 => simp at hc hp; subst hc hp; exact r4.2 0 _ _ rfl rfl
  | i + 5 => simp at hc
/-- A value of one cell, ags an argument. -/
theorem CellsRep.arg {v : Value} {p : PV} (h1 : v.oneCell' = true) (h : CellsRep w v.cells.toList [p]) : RepA (memCells w) v p := by
  have e : v.cells = #[v] := by cases v <;> first | rfl | simp [Value.oneCell'] at h1
  rw [e] at h
  exact .frz (h.2 0 v p rfl rfl)
end
end Go.Pw

end
