/-
  Contracts and plain laws on the way to the statement; each says its own conditions.
-/
import Derived.Test.YtmfaejdnaippkaaDoorGQ8
import Derived.Test.YtmfaejdnaippkaaDoorGQ13
import Derived.Test.YtmfaejdnaippkaaDoorGQ10
import Derived.Lib.AppendZeros
import Derived.WalkKit
import Derived.Lib.Walk
import Derived.Lib.SliceRun
import Derived.Test.YtmfaejdnaippkaaDoorGQ3
import Derived.ChangeSlices
import Derived.ChangeArms
import Derived.OpenShut
section
/-
  Values' texts, by definition; how long they are.
-/
open Go Go.Proofs Go.Pw Go.RowKit
namespace Go.Proofs.YtmfaejdnaippkaaDoor
set_option maxRecDepth 4000
set_option linter.unusedVariables false
set_option linter.unusedSimpArgs false
/-- The first i items, written. g: what stands ahead of each; c: behind each key (o: there are keys). -/
def itT (g c : ByteArray) (o : Bool) (ks its : List ByteArray) : Nat → ByteArray
  | 0 => ByteArray.empty
  | i + 1 => itT g c o ks its i ++ (if 0 < i then bC 44 else ByteArray.empty) ++ g ++ (if o then qF (ks.getD i ByteArray.empty) ++ c else ByteArray.empty) ++ its.getD i ByteArray.empty
/-- The items, and what closes them. g0: what stands ahead of that. -/
def inT (g0 g c : ByteArray) (o : Bool) (ks its : List ByteArray) : ByteArray := itT g c o ks its its.length ++ (if 0 < its.length then g0 else ByteArray.empty)
/-- A value written, its items' texts given. -/
def nodeT (g0 g c : ByteArray) (k : Int) (b : Bool) (n : Int) (s : ByteArray) (ks its : List ByteArray) : ByteArray :=
  if k = 1 then (if b = true then ⟨#[116, 114, 117, 101]⟩ else ⟨#[102, 97, 108, 115, 101]⟩) else if k = 2 then sOf n else if k = 3 then qF s else if k = 4 then ⟨#[91]⟩ ++ inT g0 g c false ks its ++ ⟨#[93]⟩ else if k = 5 then ⟨#[123]⟩ ++ inT g0 g c true ks its ++ ⟨#[125]⟩ else ⟨#[110, 117, 108, 108]⟩
mutual
/-- A value's text, at a depth. -/
def txV (G : Nat → ByteArray) (c : ByteArray) : Nat → V → ByteArray
  | d, .mk k b n s is ks => nodeT (G d) (G (d + 1)) c k b n s ks (txVs G c (d + 1) is)
def txVs (G : Nat → ByteArray) (c : ByteArray) : Nat → List V → List ByteArray
  | d, [] => []
  | d, v :: l => txV G c d v :: txVs G c d l
end
theorem txVs_eq (G : Nat → ByteArray) (c : ByteArray) (d : Nat) : ∀ l, txVs G c d l = l.map (txV G c d)
  | [] => by simp [txVs]
  | v :: l => by simp [txVs, txVs_eq G c d l]
theorem txV_eq (G : Nat → ByteArray) (c : ByteArray) (d : Nat) (v : V) : txV G c d v = nodeT (G d) (G (d + 1)) c v.kind v.b v.n v.s v.keys (v.items.map (txV G c (d + 1))) := by
  cases v; rw [txV, txVs_eq]; rfl
theorem map_get {l : List V} {i : Nat} (f : V → ByteArray) (h : i < l.length) : (l.map f).getD i ByteArray.empty = f (l.getD i default) := by
  simp [List.getD_eq_getElem?_getD, h]
/-- What is needed of a value to be written: its numbers have 64 bits, each item of an object has a key. -/
def wrB (k n : Int) (il kl : Nat) : Bool := decide (-9223372036854775808 ≤ n ∧ n ≤ 9223372036854775807 ∧ (k = 5 → il ≤ kl))
mutual
def wrV : V → Bool
  | .mk k _ n _ is ks => wrB k n is.length ks.length && wrVs is
def wrVs : List V → Bool
  | [] => true
  | v :: r => wrV v && wrVs r
end
theorem wrVs_eq : ∀ l, wrVs l = l.all wrV
  | [] => by simp [wrVs]
  | v :: r => by simp [wrVs, wrVs_eq r]
theorem wrV_eq (v : V) : wrV v = (wrB v.kind v.n v.items.length v.keys.length && v.items.all wrV) := by
  cases v; rw [wrV, wrVs_eq]; rfl
theorem wrV_get {v : V} (h : wrV v = true) : (-9223372036854775808 ≤ v.n ∧ v.n ≤ 9223372036854775807) ∧ (v.kind = 5 → v.items.length ≤ v.keys.length) ∧ ∀ x ∈ v.items, wrV x = true := by
  rw [wrV_eq, Bool.and_eq_true, wrB, decide_eq_true_eq] at h
  exact ⟨⟨h.1.1, h.1.2.1⟩, h.1.2.2, List.all_eq_true.1 h.2⟩
theorem szT_take (l : List ByteArray) : ∀ i, szT (l.take (i + 1)) + 0 ≥ szT (l.take i) + (l.getD i ByteArray.empty).size ∧ szT (l.take i) ≤ szT l := by
  induction l with
  | nil => intro i; simp [szT]
  | cons k r ih =>
    intro i
    cases i with
    | zero => simp [szT]
    | succ i =>
      have := ih i
      simp only [List.take_succ_cons, szT, List.getD_cons_succ]
      omega
theorem szVs_takeS {l : List V} {i : Nat} (h : i < l.length) : szVs (l.take (i + 1)) = szVs (l.take i) + szV (l.getD i default) ∧ nVs (l.take (i + 1)) = nVs (l.take i) + nV (l.getD i default) ∧ szVs (l.take (i + 1)) ≤ szVs l ∧ nVs (l.take (i + 1)) ≤ nVs l := by
  have e := take_snocG (a := l) (d := default) h
  have e1 := szVs_app (l.take i) [l.getD i default]
  have e2 := nVs_app (l.take i) [l.getD i default]
  rw [← e, szVs_cons, szVs_nil] at e1
  rw [← e, nVs_cons, nVs_nil] at e2
  have e3 := szVs_app (l.take (i + 1)) (l.drop (i + 1))
  have e4 := nVs_app (l.take (i + 1)) (l.drop (i + 1))
  rw [List.take_append_drop] at e3 e4
  omega
theorem itT_size {g c : ByteArray} {o : Bool} {ks : List ByteArray} {is : List V} {f : V → ByteArray} (hg : g.size ≤ 400) (hc : c.size ≤ 2) (hf : ∀ x ∈ is, (f x).size + 430 ≤ 60 * szV x + 800 * nV x) :
    ∀ i, i ≤ is.length → (itT g c o ks (is.map f) i).size ≤ 60 * szVs (is.take i) + 800 * nVs (is.take i) + 6 * szT (ks.take i)
  | 0, _ => by simp [itT]
  | i + 1, h => by
    have ih := itT_size (o := o) (ks := ks) hg hc hf i (by omega)
    have h1 := hf _ (getD_mem (d := default) (show i < is.length by omega))
    obtain ⟨e1, e2, _, _⟩ := szVs_takeS (show i < is.length by omega)
    have e3 := (szT_take ks i).1
    have e4 := qF_size (ks.getD i ByteArray.empty)
    rw [itT, ByteArray.size_append, ByteArray.size_append, ByteArray.size_append, ByteArray.size_append, map_get f (by omega), e1, e2]
    have a1 : (if 0 < i then bC 44 else ByteArray.empty).size ≤ 1 := by split <;> simp [bC_size]
    have a2 : (if o = true then qF (ks.getD i ByteArray.empty) ++ c else ByteArray.empty).size ≤ 6 * (ks.getD i ByteArray.empty).size + 4 := by
      split
      · rw [ByteArray.size_append]; omega
      · simp
    omega
theorem sOf_le (n : Int) (h : -9223372036854775808 ≤ n ∧ n ≤ 9223372036854775807) : (sOf n).size ≤ 21 := sOf_size n h
theorem txV_size {G : Nat → ByteArray} {c : ByteArray} {D : Nat} (hG : ∀ d, d ≤ D → (G d).size ≤ 400) (hc : c.size ≤ 2) : ∀ v d, wrV v = true → d + nV v ≤ D → (txV G c d v).size + 430 ≤ 60 * szV v + 800 * nV v := by
  refine V.ind fun v ih d hw hd => ?_
  obtain ⟨hf, _, hx⟩ := wrV_get hw
  have hn := nV_eq v
  have hz := szV_eq v
  have hkt := (szT_take v.keys v.items.length).2
  have hin : ∀ o, (inT (G d) (G (d + 1)) c o v.keys (v.items.map (txV G c (d + 1)))).size ≤ 60 * szVs v.items + 800 * nVs v.items + 6 * szT v.keys + 400 := fun o => by
    have hit := itT_size (g := G (d + 1)) (c := c) (o := o) (ks := v.keys) (is := v.items) (f := txV G c (d + 1))
    rw [inT, List.length_map, ByteArray.size_append]
    have h0 := hG d (by omega)
    have h2 : (if 0 < v.items.length then G d else ByteArray.empty).size ≤ 400 := by
      split
      · exact h0
      · simp
    by_cases h1 : v.items.length = 0
    · have e0 : itT (G (d + 1)) c o v.keys (v.items.map (txV G c (d + 1))) v.items.length = ByteArray.empty := by rw [h1]; rfl
      rw [e0, ByteArray.size_empty]; omega
    · have hg : (G (d + 1)).size ≤ 400 := hG _ (by have := nVs_pos v.items; omega)
      have := hit hg hc (fun x hx' => ih x hx' (d + 1) (hx x hx') (by
        have : nV x ≤ nVs v.items := by
          obtain ⟨i, hi, rfl⟩ := List.mem_iff_getElem.1 hx'
          have := szVs_takeS hi
          rw [List.getD_eq_getElem?_getD, List.getElem?_eq_getElem hi] at this
          simp only [Option.getD_some] at this
          omega
        omega)) _ (Nat.le_refl _)
      rw [List.take_length] at this
      omega
  have h1 := sOf_le v.n hf
  have h2 := qF_size v.s
  have h3 := hin true
  have h4 := hin false
  rw [txV_eq, nodeT]
  repeat' split
  all_goals first | (show 4 + 430 ≤ _; omega) | (show 5 + 430 ≤ _; omega) | omega | (rw [ByteArray.size_append, ByteArray.size_append]; show 1 + _ + 1 + 430 ≤ _; omega)
end Go.Proofs.YtmfaejdnaippkaaDoor

end
section
/-
  A value's text: the program's.
-/
open Go Go.Proofs Go.Pw Go.RowKit
namespace Go.Proofs.YtmfaejdnaippkaaDoor
set_option maxRecDepth 4000
set_option linter.unusedVariables false
set_option linter.unusedSimpArgs false
/-- The state of a writer alone. -/
def wr0 (a : PV) (s : ByteArray) (rest : List PV) : PS := ⟨[], bldB 55 0 a s rest, tokS 0 5 s, 1, 1⟩
/-- What writes t, by the writer's own memory. -/
def Writes (g : FuncId) (rest ags : List PV) (s t : ByteArray) : Prop := ∀ a, (a = vNP ∨ a = .ptr 0 0) → OkI Tryd.prog g (.ptr 0 0 :: ags) (wr0 a s rest) (bldQ 55 (s ++ t) rest (.tup []))
/-- What writes, at a state with more objects. -/
theorem Writes.at {g : FuncId} {rest ags : List PV} {s t : ByteArray} (h : Writes g rest ags s t) (hrest : PV.ltL 0 0 rest = true) (has : PV.ltL 0 0 ags = true) {a : PV} (k : Nat) {H : List (Nat × PObj)} {nx nt : Nat} (ha : a = vNP ∨ a = .ptr 0 0) (hx : 0 < nx) (hk : k < nt) (ho : lkp H 0 = some (.box 55 (a :: rowS k s :: rest))) :
    OkI Tryd.prog g (.ptr 0 0 :: ags) ⟨[], H, tokS k 5 s, nx, nt⟩ (fun r st' => r = .tup [] ∧ ∃ k' nt', k' < nt' ∧ nt ≤ nt' ∧ st' = ⟨[], (0, .box 55 (.ptr 0 0 :: rowS k' (s ++ t) :: rest)) :: dropH [0] H, tokS k' 5 (s ++ t), nx, nt'⟩) := by
  refine OkI.mono' (bld_at (st := ⟨[], H, tokS k 5 s, nx, nt⟩) 0 k (fun a ha => h a ha) hx hk ha hrest has rfl ho lkp_tokS) ?_
  rintro r st' ⟨rfl, k', nt', g1, g2, rfl⟩
  refine ⟨rfl, k', nt', g1, g2, ?_⟩
  simp [dropK_tokS, dropH, inL]
/-- What writes into a writer that has been written into. -/
def WritesP (g : FuncId) (rest ags : List PV) (s t : ByteArray) : Prop := OkI Tryd.prog g (.ptr 0 0 :: ags) (wr0 (.ptr 0 0) s rest) (bldQ 55 (s ++ t) rest (.tup []))
theorem WritesP.at {g : FuncId} {rest ags : List PV} {s t : ByteArray} (h : WritesP g rest ags s t) (hrest : PV.ltL 0 0 rest = true) (has : PV.ltL 0 0 ags = true) (k : Nat) {H : List (Nat × PObj)} {nx nt : Nat} (hx : 0 < nx) (hk : k < nt) (ho : lkp H 0 = some (.box 55 (.ptr 0 0 :: rowS k s :: rest))) :
    OkI Tryd.prog g (.ptr 0 0 :: ags) ⟨[], H, tokS k 5 s, nx, nt⟩ (fun r st' => r = .tup [] ∧ ∃ k' nt', k' < nt' ∧ nt ≤ nt' ∧ st' = ⟨[], (0, .box 55 (.ptr 0 0 :: rowS k' (s ++ t) :: rest)) :: dropH [0] H, tokS k' 5 (s ++ t), nx, nt'⟩) := by
  refine OkI.mono' (bld_at0 (R := .tup []) (s' := s ++ t) (st := ⟨[], H, tokS k 5 s, nx, nt⟩) 0 k (fun a ha hh => ?_) hx hk (.inr rfl) hrest has rfl ho lkp_tokS) ?_
  · rcases ha with rfl | rfl
    · cases hh
    · exact h
  rintro r st' ⟨rfl, k', nt', g1, g2, rfl⟩
  refine ⟨rfl, k', nt', g1, g2, ?_⟩
  simp [dropK_tokS, dropH, inL]
theorem writeS_W {r1 r2 r3 : PV} (hrest : PV.ltL 0 0 [r1, r2, r3] = true) {s t : ByteArray} {a : PV} (k : Nat) {H : List (Nat × PObj)} {nx nt : Nat} (ha : a = vNP ∨ a = .ptr 0 0) (hl : s.size + t.size ≤ 1000000) (hx : 0 < nx) (hk : k < nt) (ho : lkp H 0 = some (.box 55 (a :: rowS k s :: [r1, r2, r3]))) :
    OkI Tryd.prog 39 [.ptr 0 0, vS t] ⟨[], H, tokS k 5 s, nx, nt⟩ (fun r st' => r = .tup [vI t.size, .val .nilIface] ∧ ∃ k' nt', k' < nt' ∧ nt ≤ nt' ∧ st' = ⟨[], (0, .box 55 (.ptr 0 0 :: rowS k' (s ++ t) :: [r1, r2, r3])) :: dropH [0] H, tokS k' 5 (s ++ t), nx, nt'⟩) := by
  refine OkI.mono' (writeS_at (st := ⟨[], H, tokS k 5 s, nx, nt⟩) heads_writer hrest 0 k hl hx hk ha ho lkp_tokS) ?_
  rintro r st' ⟨rfl, k', nt', g1, g2, rfl⟩
  refine ⟨rfl, k', nt', g1, g2, ?_⟩
  simp [dropK_tokS, dropH, inL]
theorem writeB_W {r1 r2 r3 : PV} (hrest : PV.ltL 0 0 [r1, r2, r3] = true) {s : ByteArray} {c : Int} {a : PV} (k : Nat) {H : List (Nat × PObj)} {nx nt : Nat} (ha : a = vNP ∨ a = .ptr 0 0) (h0 : 0 ≤ c) (h1 : c ≤ 255) (hl : s.size ≤ 1000000) (hx : 0 < nx) (hk : k < nt) (ho : lkp H 0 = some (.box 55 (a :: rowS k s :: [r1, r2, r3]))) :
    OkI Tryd.prog 37 [.ptr 0 0, vC c] ⟨[], H, tokS k 5 s, nx, nt⟩ (fun r st' => r = .val .nilIface ∧ ∃ k' nt', k' < nt' ∧ nt ≤ nt' ∧ st' = ⟨[], (0, .box 55 (.ptr 0 0 :: rowS k' (s ++ bC c) :: [r1, r2, r3])) :: dropH [0] H, tokS k' 5 (s ++ bC c), nx, nt'⟩) := by
  refine OkI.mono' (writeB_at (st := ⟨[], H, tokS k 5 s, nx, nt⟩) heads_writer hrest 0 k h0 h1 hl hx hk ha ho lkp_tokS) ?_
  rintro r st' ⟨rfl, k', nt', g1, g2, rfl⟩
  refine ⟨rfl, k', nt', g1, g2, ?_⟩
  simp [dropK_tokS, dropH, inL]
theorem cellsV_lt (v : V) : PV.ltL 0 0 (cellsV v) = true := by simp [cellsV, PV.ltL, PV.lt]
theorem quote_W {r1 r2 r3 : PV} (hrest : PV.ltL 0 0 [r1, r2, r3] = true) {s t : ByteArray} (hl : s.size + 6 * t.size ≤ 900000) : Writes 19 [r1, r2, r3] [vS t] s (qF t) := fun a ha => quote_ok hrest s t hl a ha
/-- The end of a function that writes: other objects are let go. -/
theorem wr_end {L : Nat × Nat} {H : List (Nat × PObj)} {k nt nx0 nt0 : Nat} {s : ByteArray} {rest : List PV} (hr : PV.ltL 0 0 rest = true) (hk : k < nt) (h1 : 1 ≤ nx0) (h2 : nt ≤ nt0) (h3 : L.1 ≤ 1) (h4 : L.2 ≤ nt) :
    Weak L ⟨[(0, .tup [])], (0, .box 55 (.ptr 0 0 :: rowS k s :: rest)) :: H, tokS k 5 s, nx0, nt0⟩ ⟨[(0, .tup [])], [(0, .box 55 (.ptr 0 0 :: rowS k s :: rest))], tokS k 5 s, 1, nt⟩ := by
  have h0 : ∀ e ∈ [((0 : Nat), PV.tup [])], bindO (lkp [((0 : Nat), PV.tup [])] e.1) (fun q => Frz q e.2) ∧ e.2.lt 1 nt = true := by simp only [go_sem, simprocAttr]
  have hl := ltL_low (Nat.zero_le 1) (Nat.zero_le nt) _ hr
  refine ⟨h0, fun e he => ?_, tokS_weak _ _ _ _ hk, h1, h2, h3, h4⟩
  rw [List.mem_singleton] at he
  subst he
  refine ⟨by simp [lkp, bindO, FrzO.refl], Nat.zero_lt_one, ?_⟩
  simp only [PObj.lt, PV.ltL, PV.lt, rowS_lt _ _ _ _ hk, Bool.true_and, Nat.zero_lt_one, decide_true]
  exact hl
set_option maxHeartbeats 8000000 in
theorem value_step {c : ByteArray} {f by_ : PV} (hrest : PV.ltL 0 0 [vS c, f, by_] = true) (G : Nat → ByteArray) (v : V) (d : Nat) (s : ByteArray) (hw : wrV v = true) (hl : s.size + 60 * szV v + 800 * nV v ≤ 800000)
    (hit : ∀ (o : Bool) (oc ec : UInt8), v.kind = (if o = true then 5 else 4) → oc = (if o = true then 123 else 91) → ec = (if o = true then 125 else 93) → ∀ s, s.size + 60 * szV v + 800 * nV v ≤ 800000 → Writes 41 [vS c, f, by_] [.agg (cellsV v), vI d, vS ⟨#[oc]⟩, vS ⟨#[ec]⟩] s (⟨#[oc]⟩ ++ inT (G d) (G (d + 1)) c o v.keys (v.items.map (txV G c (d + 1))) ++ ⟨#[ec]⟩)) :
    Writes 22 [vS c, f, by_] [.agg (cellsV v), vI d] s (txV G c d v) := by
  intro a ha
  refine OkI.of_pwpB (by kernel_rfl) Tryd.func22 rfl (by kernel_rfl) (by kernel_rfl) (bar := bar2 8 6 noBar) ?_
  have hz := szV_eq v
  have hn := nV_eq v
  obtain ⟨hf, _, _⟩ := wrV_get hw
  rw [txV_eq, nodeT]
  simp only [wr0, bldB]
  have hit0 := cellsV_lt v
  by_cases k1 : v.kind = 1
  · rw [if_pos k1]
    simp (implicitDefEqProofs := false) (disch := omega) only [go_sem, simprocAttr, go_sem, Nat.le_refl, cellsV, dropK_tokS, List.append_nil, dropH, inL, Tryd.results22, decide_eq_true k1]
    by_cases hb : v.b = true
    · rw [if_pos hb]
      simp (implicitDefEqProofs := false) (disch := omega) only [go_sem, simprocAttr, go_sem, Nat.le_refl, cellsV, dropK_tokS, List.append_nil, dropH, inL, Tryd.results22, hb]
      refine CallOk.ofI (writeS_W hrest 0 ha (by show s.size + 4 ≤ _; omega) ?_ ?_ (by rfl)) rfl rfl rfl rfl ?_
      · (first | omega | (simp only; omega) | (simp; done) | (simp; omega))
      · (first | omega | (simp only; omega) | (simp; done) | (simp; omega))
      rintro r st' ⟨rfl, k1, nt1, q1, q2, rfl⟩
      simp (implicitDefEqProofs := false) (disch := omega) only [go_sem, simprocAttr, go_sem, Nat.le_refl, cellsV, dropK_tokS, List.append_nil, dropH, inL, Tryd.results22]
      refine ⟨⟨[], [(0, .box 55 (.ptr 0 0 :: rowS k1 _ :: [vS c, f, by_]))], tokS k1 5 _, 1, nt1⟩, ⟨rfl, k1, q1, by simp only; omega, rfl, rfl, rfl⟩, ?_⟩; refine wr_end hrest q1 ?_ ?_ ?_ ?_ <;> (first | omega | (simp only; omega) | (simp; done) | (simp; omega))
    · rw [if_neg hb]
      simp (implicitDefEqProofs := false) (disch := omega) only [go_sem, simprocAttr, go_sem, Nat.le_refl, cellsV, dropK_tokS, List.append_nil, dropH, inL, Tryd.results22, Bool.eq_false_iff.2 hb]
      refine CallOk.ofI (writeS_W hrest 0 ha (by show s.size + 5 ≤ _; omega) ?_ ?_ (by rfl)) rfl rfl rfl rfl ?_
      · (first | omega | (simp only; omega) | (simp; done) | (simp; omega))
      · (first | omega | (simp only; omega) | (simp; done) | (simp; omega))
      rintro r st' ⟨rfl, k1, nt1, q1, q2, rfl⟩
      simp (implicitDefEqProofs := false) (disch := omega) only [go_sem, simprocAttr, go_sem, Nat.le_refl, cellsV, dropK_tokS, List.append_nil, dropH, inL, Tryd.results22]
      refine ⟨⟨[], [(0, .box 55 (.ptr 0 0 :: rowS k1 _ :: [vS c, f, by_]))], tokS k1 5 _, 1, nt1⟩, ⟨rfl, k1, q1, by simp only; omega, rfl, rfl, rfl⟩, ?_⟩; refine wr_end hrest q1 ?_ ?_ ?_ ?_ <;> (first | omega | (simp only; omega) | (simp; done) | (simp; omega))
  rw [if_neg k1]
  have j1 := decide_eq_false k1
  by_cases k2 : v.kind = 2
  · rw [if_pos k2]
    have hsz := sOf_le v.n hf
    have hfi : fits v.n := hf
    simp (implicitDefEqProofs := false) (disch := omega) only [go_sem, simprocAttr, go_sem, Nat.le_refl, cellsV, dropK_tokS, List.append_nil, dropH, inL, Tryd.results22, j1, decide_eq_true k2]
    refine p_bar2 (by kernel_rfl) ?_
    simp (implicitDefEqProofs := false) (disch := omega) only [go_sem, simprocAttr, go_sem, Nat.le_refl, cellsV, dropK_tokS, List.append_nil, dropH, inL, Tryd.results22]
    with_reducible refine CallOk.of (wtext_ok v.n hfi) rfl ?_
    simp (implicitDefEqProofs := false) (disch := omega) only [go_sem, simprocAttr, go_sem, Nat.le_refl, cellsV, dropK_tokS, List.append_nil, dropH, inL, Tryd.results22]
    refine CallOk.ofI (writeS_W hrest 0 ha (by omega) ?_ ?_ (by rfl)) rfl rfl rfl rfl ?_
    · (first | omega | (simp only; omega) | (simp; done) | (simp; omega))
    · (first | omega | (simp only; omega) | (simp; done) | (simp; omega))
    rintro r st' ⟨rfl, k1, nt1, q1, q2, rfl⟩
    simp (implicitDefEqProofs := false) (disch := omega) only [go_sem, simprocAttr, go_sem, Nat.le_refl, cellsV, dropK_tokS, List.append_nil, dropH, inL, Tryd.results22]
    refine ⟨⟨[], [(0, .box 55 (.ptr 0 0 :: rowS k1 _ :: [vS c, f, by_]))], tokS k1 5 _, 1, nt1⟩, ⟨rfl, k1, q1, by simp only; omega, rfl, rfl, rfl⟩, ?_⟩; refine wr_end hrest q1 ?_ ?_ ?_ ?_ <;> (first | omega | (simp only; omega) | (simp; done) | (simp; omega))
  rw [if_neg k2]
  have j2 := decide_eq_false k2
  by_cases k3 : v.kind = 3
  · rw [if_pos k3]
    simp (implicitDefEqProofs := false) (disch := omega) only [go_sem, simprocAttr, go_sem, Nat.le_refl, cellsV, dropK_tokS, List.append_nil, dropH, inL, Tryd.results22, j1, j2, decide_eq_true k3]
    refine CallOk.ofI ((quote_W hrest (by omega)).at hrest rfl 0 ha ?_ ?_ (by rfl)) rfl rfl rfl rfl ?_
    · (first | omega | (simp only; omega) | (simp; done) | (simp; omega))
    · (first | omega | (simp only; omega) | (simp; done) | (simp; omega))
    rintro r st' ⟨rfl, k1, nt1, q1, q2, rfl⟩
    simp (implicitDefEqProofs := false) (disch := omega) only [go_sem, simprocAttr, go_sem, Nat.le_refl, cellsV, dropK_tokS, List.append_nil, dropH, inL, Tryd.results22]
    refine ⟨⟨[], [(0, .box 55 (.ptr 0 0 :: rowS k1 _ :: [vS c, f, by_]))], tokS k1 5 _, 1, nt1⟩, ⟨rfl, k1, q1, by simp only; omega, rfl, rfl, rfl⟩, ?_⟩; refine wr_end hrest q1 ?_ ?_ ?_ ?_ <;> (first | omega | (simp only; omega) | (simp; done) | (simp; omega))
  rw [if_neg k3]
  have j3 := decide_eq_false k3
  by_cases k4 : v.kind = 4
  · rw [if_pos k4]
    have h := hit false 91 93 (by rw [k4]; rfl) rfl rfl s hl
    simp (implicitDefEqProofs := false) (disch := omega) only [go_sem, simprocAttr, go_sem, Nat.le_refl, cellsV, dropK_tokS, List.append_nil, dropH, inL, Tryd.results22, j1, j2, j3, decide_eq_true k4]
    refine CallOk.ofI (h.at hrest (by simp [PV.ltL, hit0, PV.lt]) 0 ha ?_ ?_ (by rfl)) rfl rfl rfl rfl ?_
    · (first | omega | (simp only; omega) | (simp; done) | (simp; omega))
    · (first | omega | (simp only; omega) | (simp; done) | (simp; omega))
    rintro r st' ⟨rfl, k1, nt1, q1, q2, rfl⟩
    simp (implicitDefEqProofs := false) (disch := omega) only [go_sem, simprocAttr, go_sem, Nat.le_refl, cellsV, dropK_tokS, List.append_nil, dropH, inL, Tryd.results22]
    refine ⟨⟨[], [(0, .box 55 (.ptr 0 0 :: rowS k1 _ :: [vS c, f, by_]))], tokS k1 5 _, 1, nt1⟩, ⟨rfl, k1, q1, by simp only; omega, rfl, rfl, rfl⟩, ?_⟩; refine wr_end hrest q1 ?_ ?_ ?_ ?_ <;> (first | omega | (simp only; omega) | (simp; done) | (simp; omega))
  rw [if_neg k4]
  have j4 := decide_eq_false k4
  by_cases k5 : v.kind = 5
  · rw [if_pos k5]
    have h := hit true 123 125 (by rw [k5]; rfl) rfl rfl s hl
    simp (implicitDefEqProofs := false) (disch := omega) only [go_sem, simprocAttr, go_sem, Nat.le_refl, cellsV, dropK_tokS, List.append_nil, dropH, inL, Tryd.results22, j1, j2, j3, j4, decide_eq_true k5]
    refine CallOk.ofI (h.at hrest (by simp [PV.ltL, hit0, PV.lt]) 0 ha ?_ ?_ (by rfl)) rfl rfl rfl rfl ?_
    · (first | omega | (simp only; omega) | (simp; done) | (simp; omega))
    · (first | omega | (simp only; omega) | (simp; done) | (simp; omega))
    rintro r st' ⟨rfl, k1, nt1, q1, q2, rfl⟩
    simp (implicitDefEqProofs := false) (disch := omega) only [go_sem, simprocAttr, go_sem, Nat.le_refl, cellsV, dropK_tokS, List.append_nil, dropH, inL, Tryd.results22]
    refine ⟨⟨[], [(0, .box 55 (.ptr 0 0 :: rowS k1 _ :: [vS c, f, by_]))], tokS k1 5 _, 1, nt1⟩, ⟨rfl, k1, q1, by simp only; omega, rfl, rfl, rfl⟩, ?_⟩; refine wr_end hrest q1 ?_ ?_ ?_ ?_ <;> (first | omega | (simp only; omega) | (simp; done) | (simp; omega))
  rw [if_neg k5]
  have j5 := decide_eq_false k5
  simp (implicitDefEqProofs := false) (disch := omega) only [go_sem, simprocAttr, go_sem, Nat.le_refl, cellsV, dropK_tokS, List.append_nil, dropH, inL, Tryd.results22, decide_eq_false k1, decide_eq_false k2, decide_eq_false k3, decide_eq_false k4, decide_eq_false k5]
  refine CallOk.ofI (writeS_W hrest 0 ha (by show s.size + 4 ≤ _; omega) ?_ ?_ (by rfl)) rfl rfl rfl rfl ?_
  · (first | omega | (simp only; omega) | (simp; done) | (simp; omega))
  · (first | omega | (simp only; omega) | (simp; done) | (simp; omega))
  rintro r st' ⟨rfl, k1, nt1, q1, q2, rfl⟩
  simp (implicitDefEqProofs := false) (disch := omega) only [go_sem, simprocAttr, go_sem, Nat.le_refl, cellsV, dropK_tokS, List.append_nil, dropH, inL, Tryd.results22]
  refine ⟨⟨[], [(0, .box 55 (.ptr 0 0 :: rowS k1 _ :: [vS c, f, by_]))], tokS k1 5 _, 1, nt1⟩, ⟨rfl, k1, q1, by simp only; omega, rfl, rfl, rfl⟩, ?_⟩; refine wr_end hrest q1 ?_ ?_ ?_ ?_ <;> (first | omega | (simp only; omega) | (simp; done) | (simp; omega))
end Go.Proofs.YtmfaejdnaippkaaDoor

end
section
/-
  An array's, an object's text: the program's; a value's text, whole.
-/
open Go Go.Proofs Go.Pw Go.RowKit
namespace Go.Proofs.YtmfaejdnaippkaaDoor
set_option maxRecDepth 4000
set_option linter.unusedVariables false
set_option linter.unusedSimpArgs false
theorem wr_weak2 {L : Nat × Nat} {E E' : List (Nat × PV)} {H : List (Nat × PObj)} {k nt nx0 nt0 : Nat} {s : ByteArray} {rest : List PV} {v : V} (hr : PV.ltL 0 0 rest = true) (hk : k < nt) (hE : ∀ e ∈ E', bindO (lkp E e.1) (fun q => Frz q e.2) ∧ e.2.lt 2 nt = true) (o0 : lkp H 0 = some (.box 55 (.ptr 0 0 :: rowS k s :: rest))) (o1 : lkp H 1 = some (.box 29 (cellsV v))) (h1 : 2 ≤ nx0) (h2 : nt ≤ nt0) (h3 : L.1 ≤ 2) (h4 : L.2 ≤ nt) :
    Weak L ⟨E, H, tokS k 5 s, nx0, nt0⟩ ⟨E', [(0, .box 55 (.ptr 0 0 :: rowS k s :: rest)), (1, .box 29 (cellsV v))], tokS k 5 s, 2, nt⟩ := by
  have hl := ltL_low (Nat.zero_le 2) (Nat.zero_le nt) _ hr
  have hv := ltL_low (Nat.zero_le 2) (Nat.zero_le nt) _ (cellsV_lt v)
  refine ⟨hE, fun e he => ?_, tokS_weak _ _ _ _ hk, h1, h2, h3, h4⟩
  simp only [List.mem_cons, List.not_mem_nil, or_false] at he
  rcases he with rfl | rfl
  · refine ⟨by rw [o0]; simp [bindO, FrzO.refl], by simp only; omega, ?_⟩
    simp only [PObj.lt, PV.ltL, PV.lt, rowS_lt _ _ _ _ hk, Bool.true_and]
    exact hl
  · exact ⟨by rw [o1]; simp [bindO, FrzO.refl], by simp only; omega, hv⟩
theorem nVs_mem {l : List V} {x : V} (h : x ∈ l) : nV x ≤ nVs l := by
  obtain ⟨i, hi, rfl⟩ := List.mem_iff_getElem.1 h
  have := szVs_takeS hi
  rw [List.getD_eq_getElem?_getD, List.getElem?_eq_getElem hi] at this
  simp only [Option.getD_some] at this
  omega
set_option maxHeartbeats 8000000 in
theorem items_step {c : ByteArray} {g : FuncId} {by_ : PV} (hrest : PV.ltL 0 0 [vS c, .fn g [], by_] = true) (G : Nat → ByteArray) (D : Nat) (hG : ∀ d, d ≤ D → (G d).size ≤ 400) (hc : c.size ≤ 2)
    (hgap : ∀ d, d ≤ D → ∀ s, s.size ≤ 900000 → WritesP g [vS c, .fn g [], by_] [vI d] s (G d)) (v : V) (d : Nat) (hw : wrV v = true) (hd : d + nV v ≤ D) (hD : D ≤ 1000000)
    (ih : ∀ x ∈ v.items, ∀ s, s.size + 60 * szV x + 800 * nV x ≤ 800000 → Writes 22 [vS c, .fn g [], by_] [.agg (cellsV x), vI (d + 1 : Nat)] s (txV G c (d + 1) x))
    (o : Bool) (oc ec : UInt8) (hk : v.kind = if o = true then 5 else 4) (s : ByteArray) (hl : s.size + 60 * szV v + 800 * nV v ≤ 800000) :
    Writes 41 [vS c, .fn g [], by_] [.agg (cellsV v), vI d, vS ⟨#[oc]⟩, vS ⟨#[ec]⟩] s (⟨#[oc]⟩ ++ inT (G d) (G (d + 1)) c o v.keys (v.items.map (txV G c (d + 1))) ++ ⟨#[ec]⟩) := by
  intro a ha
  refine OkI.of_pwpB (by kernel_rfl) Tryd.func41 rfl (by kernel_rfl) (by kernel_rfl) (bar := bar2 10 7 noBar) ?_
  have hz := szV_eq v
  have hn := nV_eq v
  obtain ⟨hf, hkk, hx⟩ := wrV_get hw
  have hkind : decide (v.kind = 5) = o := by rw [hk]; cases o <;> rfl
  have hlen := nVs_pos v.items
  have hsz0 : (⟨#[oc]⟩ : ByteArray).size = 1 := rfl
  simp only [wr0, bldB]
  simp (implicitDefEqProofs := false) (disch := omega) only [go_sem, simprocAttr, go_sem, Nat.le_refl, cellsV, dropK_tokS, List.append_nil, dropH, inL, Tryd.results41]
  refine CallOk.ofI (writeS_W hrest 0 ha (by omega) ?_ ?_ (by rfl)) rfl rfl rfl rfl ?_
  · (first | omega | (simp only; omega) | (simp; done) | (simp; omega))
  · (first | omega | (simp only; omega) | (simp; done) | (simp; omega))
  rintro r st' ⟨rfl, k1, nt1, q1, q2, rfl⟩
  simp (implicitDefEqProofs := false) (disch := omega) only [go_sem, simprocAttr, go_sem, Nat.le_refl, cellsV, dropK_tokS, List.append_nil, dropH, inL, Tryd.results41]
  refine p_loop (ι := { p : Nat × Nat × Nat // p.1 ≤ v.items.length ∧ p.2.1 < p.2.2 ∧ 1 ≤ p.2.2 }) (fun p => ⟨[(20, vI p.1.1), (19, vI v.items.length), (18, .sl (encV v.items)), (0, .ptr 0 0), (2, vI d), (6, .ptr 1 0), (4, vS ⟨#[ec]⟩)], [(0, .box 55 (.ptr 0 0 :: rowS p.1.2.1 (s ++ ⟨#[oc]⟩ ++ itT (G (d + 1)) c o v.keys (v.items.map (txV G c (d + 1))) p.1.1) :: [vS c, .fn g [], by_])), (1, .box 29 (cellsV v))], tokS p.1.2.1 5 (s ++ ⟨#[oc]⟩ ++ itT (G (d + 1)) c o v.keys (v.items.map (txV G c (d + 1))) p.1.1), 2, p.1.2.2⟩) (fun p => v.items.length - p.1.1) ⟨(0, k1, nt1), Nat.zero_le _, q1, by simp only; omega⟩ ?_ ?_
  · simp only [itT, ByteArray.append_empty]
    refine wr_weak2 hrest q1 ?_ (by rfl) (by rfl) ?_ ?_ ?_ ?_
    · simp only [go_sem, simprocAttr, Int.natCast_zero]; try omega
    all_goals (first | omega | (simp only; omega) | (simp; done) | (simp; omega))
  · rintro ⟨⟨i, k, nt⟩, h1, h2, h3⟩
    simp only at h1 h2 h3 ⊢
    have hitz : (itT (G (d + 1)) c o v.keys (v.items.map (txV G c (d + 1))) i).size ≤ 60 * szVs (v.items.take i) + 800 * nVs (v.items.take i) + 6 * szT (v.keys.take i) := by
      by_cases h0 : i = 0
      · subst h0; simp [itT]
      · exact itT_size (hG _ (by omega)) hc (fun x hx' => txV_size hG hc x (d + 1) (hx x hx') (by have := nVs_mem hx'; omega)) i h1
    have hkt := szT_take v.keys i
    have hxz : (s ++ ⟨#[oc]⟩ ++ itT (G (d + 1)) c o v.keys (v.items.map (txV G c (d + 1))) i).size = s.size + 1 + (itT (G (d + 1)) c o v.keys (v.items.map (txV G c (d + 1))) i).size := by rw [ByteArray.size_append, ByteArray.size_append]; rfl
    by_cases hi : i < v.items.length
    · have hsv := szVs_takeS hi
      have hqz := qF_size (v.keys.getD i ByteArray.empty)
      have hG1 := hG (d + 1) (by omega)
      have hxi := hx _ (getD_mem (d := default) hi)
      have hfin : s ++ ⟨#[oc]⟩ ++ itT (G (d + 1)) c o v.keys (v.items.map (txV G c (d + 1))) (i + 1) = s ++ ⟨#[oc]⟩ ++ itT (G (d + 1)) c o v.keys (v.items.map (txV G c (d + 1))) i ++ (if 0 < i then bC 44 else ByteArray.empty) ++ G (d + 1) ++ (if o then qF (v.keys.getD i ByteArray.empty) ++ c else ByteArray.empty) ++ txV G c (d + 1) (v.items.getD i default) := by
        rw [itT, map_get _ hi]
        simp only [ByteArray.append_assoc]
      have hvi := ih _ (getD_mem (d := default) hi)
      have hcast : ((d + 1 : Nat) : Int) = (d : Int) + 1 := rfl
      rw [hcast] at hvi
      have hgp := hgap (d + 1) (by omega)
      rw [hcast] at hgp
      have hagg : PV.ltL 0 0 [.agg (cellsV (v.items.getD i default)), vI ((d : Int) + 1)] = true := by simp [PV.ltL, PV.lt, cellsV_lt]
      have hkt2 := (szT_take v.keys (i + 1)).2
      generalize s ++ ⟨#[oc]⟩ ++ itT (G (d + 1)) c o v.keys (v.items.map (txV G c (d + 1))) i = x at *
      by_cases h0 : 0 < i
      · rw [if_pos h0] at hfin
        simp (implicitDefEqProofs := false) (disch := omega) only [go_sem, simprocAttr, go_sem, Nat.le_refl, cellsV, dropK_tokS, List.append_nil, dropH, inL, Tryd.results41, decide_eq_true (show (0 : Int) < (i : Int) by omega)]
        refine CallOk.ofI (writeB_W hrest k (.inr rfl) (by decide) (by decide) (by omega) ?_ ?_ (by rfl)) rfl rfl rfl rfl ?_
        · (first | omega | (simp only; omega) | (simp; done) | (simp; omega))
        · (first | omega | (simp only; omega) | (simp; done) | (simp; omega))
        rintro r st' ⟨rfl, k1, nt1, q1, q2, rfl⟩
        have hx1 : (x ++ bC 44).size = x.size + 1 := by rw [ByteArray.size_append]; rfl
        generalize x ++ bC 44 = y at *
        simp (implicitDefEqProofs := false) (disch := omega) only [go_sem, simprocAttr, go_sem, Nat.le_refl, cellsV, dropK_tokS, List.append_nil, dropH, inL, Tryd.results41]
        refine CallOk.ofI ((hgp y (by omega)).at hrest rfl k1 ?_ ?_ (by rfl)) rfl rfl rfl rfl ?_
        · (first | omega | (simp only; omega) | (simp; done) | (simp; omega))
        · (first | omega | (simp only; omega) | (simp; done) | (simp; omega))
        rintro r st' ⟨rfl, k2, nt2, q3, q4, rfl⟩
        have hx2 : (y ++ G (d + 1)).size = y.size + (G (d + 1)).size := ByteArray.size_append
        generalize y ++ G (d + 1) = z at *
        cases o with
        | true =>
          have hkl := hkk (by rw [hk]; rfl)
          have hkl' : (i : Int) < (v.keys.length : Int) := by omega
          rw [if_pos rfl, ← ByteArray.append_assoc] at hfin
          simp (implicitDefEqProofs := false) (disch := omega) only [go_sem, simprocAttr, go_sem, Nat.le_refl, cellsV, dropK_tokS, List.append_nil, dropH, inL, Tryd.results41, hkind]
          refine CallOk.ofI ((quote_W hrest (by omega)).at hrest rfl k2 (.inr rfl) ?_ ?_ (by rfl)) rfl rfl rfl rfl ?_
          · (first | omega | (simp only; omega) | (simp; done) | (simp; omega))
          · (first | omega | (simp only; omega) | (simp; done) | (simp; omega))
          rintro r st' ⟨rfl, k3, nt3, q5, q6, rfl⟩
          have hx3 : (z ++ qF (v.keys.getD i ByteArray.empty)).size = z.size + (qF (v.keys.getD i ByteArray.empty)).size := ByteArray.size_append
          generalize z ++ qF (v.keys.getD i ByteArray.empty) = u at *
          simp (implicitDefEqProofs := false) (disch := omega) only [go_sem, simprocAttr, go_sem, Nat.le_refl, cellsV, dropK_tokS, List.append_nil, dropH, inL, Tryd.results41]
          refine p_bar2 (by kernel_rfl) ?_
          simp (implicitDefEqProofs := false) (disch := omega) only [go_sem, simprocAttr, go_sem, Nat.le_refl, cellsV, dropK_tokS, List.append_nil, dropH, inL, Tryd.results41]
          refine CallOk.ofI (writeS_W hrest k3 (.inr rfl) (by omega) ?_ ?_ (by rfl)) rfl rfl rfl rfl ?_
          · (first | omega | (simp only; omega) | (simp; done) | (simp; omega))
          · (first | omega | (simp only; omega) | (simp; done) | (simp; omega))
          rintro r st' ⟨rfl, k4, nt4, q7, q8, rfl⟩
          have hx4 : (u ++ c).size = u.size + c.size := ByteArray.size_append
          generalize u ++ c = w at *
          simp (implicitDefEqProofs := false) (disch := omega) only [go_sem, simprocAttr, go_sem, Nat.le_refl, cellsV, dropK_tokS, List.append_nil, dropH, inL, Tryd.results41]
          refine CallOk.ofI ((hvi w (by omega)).at hrest hagg k4 (.inr rfl) ?_ ?_ (by rfl)) rfl rfl rfl rfl ?_
          · (first | omega | (simp only; omega) | (simp; done) | (simp; omega))
          · (first | omega | (simp only; omega) | (simp; done) | (simp; omega))
          rintro r st' ⟨rfl, k5, nt5, q9, q0, rfl⟩
          simp (implicitDefEqProofs := false) (disch := omega) only [go_sem, simprocAttr, go_sem, Nat.le_refl, cellsV, dropK_tokS, List.append_nil, dropH, inL, Tryd.results41]
          refine ⟨⟨(i + 1, k5, nt5), hi, q9, by simp only; omega⟩, by simp only; omega, ?_⟩
          rw [hfin]
          refine wr_weak2 hrest q9 ?_ (by rfl) (by rfl) ?_ ?_ ?_ ?_
          · simp only [go_sem, simprocAttr, Int.natCast_add, Int.natCast_one]; try omega
          all_goals (first | omega | (simp only; omega) | (simp; done) | (simp; omega))
        | false =>
          rw [if_neg (by decide), ByteArray.append_empty] at hfin
          simp (implicitDefEqProofs := false) (disch := omega) only [go_sem, simprocAttr, go_sem, Nat.le_refl, cellsV, dropK_tokS, List.append_nil, dropH, inL, Tryd.results41, hkind]
          refine CallOk.ofI ((hvi z (by omega)).at hrest hagg k2 (.inr rfl) ?_ ?_ (by rfl)) rfl rfl rfl rfl ?_
          · (first | omega | (simp only; omega) | (simp; done) | (simp; omega))
          · (first | omega | (simp only; omega) | (simp; done) | (simp; omega))
          rintro r st' ⟨rfl, k5, nt5, q9, q0, rfl⟩
          simp (implicitDefEqProofs := false) (disch := omega) only [go_sem, simprocAttr, go_sem, Nat.le_refl, cellsV, dropK_tokS, List.append_nil, dropH, inL, Tryd.results41]
          refine ⟨⟨(i + 1, k5, nt5), hi, q9, by simp only; omega⟩, by simp only; omega, ?_⟩
          rw [hfin]
          refine wr_weak2 hrest q9 ?_ (by rfl) (by rfl) ?_ ?_ ?_ ?_
          · simp only [go_sem, simprocAttr, Int.natCast_add, Int.natCast_one]; try omega
          all_goals (first | omega | (simp only; omega) | (simp; done) | (simp; omega))
      · rw [if_neg h0, ByteArray.append_empty] at hfin
        have hx1 : x.size ≤ x.size + 1 := by omega
        simp (implicitDefEqProofs := false) (disch := omega) only [go_sem, simprocAttr, go_sem, Nat.le_refl, cellsV, dropK_tokS, List.append_nil, dropH, inL, Tryd.results41, decide_eq_false h0, decide_eq_false (show ¬ (0 : Int) < (i : Int) by omega)]
        have q1 := h2
        have q2 : nt ≤ nt := Nat.le_refl _
        have hy : x.size = x.size := rfl
        refine CallOk.ofI ((hgp x (by omega)).at hrest rfl k ?_ ?_ (by rfl)) rfl rfl rfl rfl ?_
        · (first | omega | (simp only; omega) | (simp; done) | (simp; omega))
        · (first | omega | (simp only; omega) | (simp; done) | (simp; omega))
        rintro r st' ⟨rfl, k2, nt2, q3, q4, rfl⟩
        have hx2 : (x ++ G (d + 1)).size = x.size + (G (d + 1)).size := ByteArray.size_append
        generalize x ++ G (d + 1) = z at *
        cases o with
        | true =>
          have hkl := hkk (by rw [hk]; rfl)
          have hkl' : (i : Int) < (v.keys.length : Int) := by omega
          rw [if_pos rfl, ← ByteArray.append_assoc] at hfin
          simp (implicitDefEqProofs := false) (disch := omega) only [go_sem, simprocAttr, go_sem, Nat.le_refl, cellsV, dropK_tokS, List.append_nil, dropH, inL, Tryd.results41, hkind]
          refine CallOk.ofI ((quote_W hrest (by omega)).at hrest rfl k2 (.inr rfl) ?_ ?_ (by rfl)) rfl rfl rfl rfl ?_
          · (first | omega | (simp only; omega) | (simp; done) | (simp; omega))
          · (first | omega | (simp only; omega) | (simp; done) | (simp; omega))
          rintro r st' ⟨rfl, k3, nt3, q5, q6, rfl⟩
          have hx3 : (z ++ qF (v.keys.getD i ByteArray.empty)).size = z.size + (qF (v.keys.getD i ByteArray.empty)).size := ByteArray.size_append
          generalize z ++ qF (v.keys.getD i ByteArray.empty) = u at *
          simp (implicitDefEqProofs := false) (disch := omega) only [go_sem, simprocAttr, go_sem, Nat.le_refl, cellsV, dropK_tokS, List.append_nil, dropH, inL, Tryd.results41]
          refine p_bar2 (by kernel_rfl) ?_
          simp (implicitDefEqProofs := false) (disch := omega) only [go_sem, simprocAttr, go_sem, Nat.le_refl, cellsV, dropK_tokS, List.append_nil, dropH, inL, Tryd.results41]
          refine CallOk.ofI (writeS_W hrest k3 (.inr rfl) (by omega) ?_ ?_ (by rfl)) rfl rfl rfl rfl ?_
          · (first | omega | (simp only; omega) | (simp; done) | (simp; omega))
          · (first | omega | (simp only; omega) | (simp; done) | (simp; omega))
          rintro r st' ⟨rfl, k4, nt4, q7, q8, rfl⟩
          have hx4 : (u ++ c).size = u.size + c.size := ByteArray.size_append
          generalize u ++ c = w at *
          simp (implicitDefEqProofs := false) (disch := omega) only [go_sem, simprocAttr, go_sem, Nat.le_refl, cellsV, dropK_tokS, List.append_nil, dropH, inL, Tryd.results41]
          refine CallOk.ofI ((hvi w (by omega)).at hrest hagg k4 (.inr rfl) ?_ ?_ (by rfl)) rfl rfl rfl rfl ?_
          · (first | omega | (simp only; omega) | (simp; done) | (simp; omega))
          · (first | omega | (simp only; omega) | (simp; done) | (simp; omega))
          rintro r st' ⟨rfl, k5, nt5, q9, q0, rfl⟩
          simp (implicitDefEqProofs := false) (disch := omega) only [go_sem, simprocAttr, go_sem, Nat.le_refl, cellsV, dropK_tokS, List.append_nil, dropH, inL, Tryd.results41]
          refine ⟨⟨(i + 1, k5, nt5), hi, q9, by simp only; omega⟩, by simp only; omega, ?_⟩
          rw [hfin]
          refine wr_weak2 hrest q9 ?_ (by rfl) (by rfl) ?_ ?_ ?_ ?_
          · simp only [go_sem, simprocAttr, Int.natCast_add, Int.natCast_one]; try omega
          all_goals (first | omega | (simp only; omega) | (simp; done) | (simp; omega))
        | false =>
          rw [if_neg (by decide), ByteArray.append_empty] at hfin
          simp (implicitDefEqProofs := false) (disch := omega) only [go_sem, simprocAttr, go_sem, Nat.le_refl, cellsV, dropK_tokS, List.append_nil, dropH, inL, Tryd.results41, hkind]
          refine CallOk.ofI ((hvi z (by omega)).at hrest hagg k2 (.inr rfl) ?_ ?_ (by rfl)) rfl rfl rfl rfl ?_
          · (first | omega | (simp only; omega) | (simp; done) | (simp; omega))
          · (first | omega | (simp only; omega) | (simp; done) | (simp; omega))
          rintro r st' ⟨rfl, k5, nt5, q9, q0, rfl⟩
          simp (implicitDefEqProofs := false) (disch := omega) only [go_sem, simprocAttr, go_sem, Nat.le_refl, cellsV, dropK_tokS, List.append_nil, dropH, inL, Tryd.results41]
          refine ⟨⟨(i + 1, k5, nt5), hi, q9, by simp only; omega⟩, by simp only; omega, ?_⟩
          rw [hfin]
          refine wr_weak2 hrest q9 ?_ (by rfl) (by rfl) ?_ ?_ ?_ ?_
          · simp only [go_sem, simprocAttr, Int.natCast_add, Int.natCast_one]; try omega
          all_goals (first | omega | (simp only; omega) | (simp; done) | (simp; omega))
    · have hi' : i = v.items.length := by omega
      subst hi'
      rw [List.take_length] at hitz
      have hG0 := hG d (by omega)
      have hec : (⟨#[ec]⟩ : ByteArray).size = 1 := rfl
      have hgp := hgap d (by omega)
      have hml : (v.items.map (txV G c (d + 1))).length = v.items.length := by simp
      rw [inT, hml]
      have hfin : ∀ e : ByteArray, s ++ (⟨#[oc]⟩ ++ (itT (G (d + 1)) c o v.keys (v.items.map (txV G c (d + 1))) v.items.length ++ e) ++ ⟨#[ec]⟩) = s ++ ⟨#[oc]⟩ ++ itT (G (d + 1)) c o v.keys (v.items.map (txV G c (d + 1))) v.items.length ++ e ++ ⟨#[ec]⟩ := fun e => by simp only [ByteArray.append_assoc]
      rw [hfin]
      generalize s ++ ⟨#[oc]⟩ ++ itT (G (d + 1)) c o v.keys (v.items.map (txV G c (d + 1))) v.items.length = x at *
      by_cases h0 : 0 < v.items.length
      · rw [if_pos h0]
        simp (implicitDefEqProofs := false) (disch := omega) only [go_sem, simprocAttr, go_sem, Nat.le_refl, cellsV, dropK_tokS, List.append_nil, dropH, inL, Tryd.results41, decide_eq_true (show (0 : Int) < (v.items.length : Int) by omega)]
        refine CallOk.ofI ((hgp x (by omega)).at hrest rfl k ?_ ?_ (by rfl)) rfl rfl rfl rfl ?_
        · (first | omega | (simp only; omega) | (simp; done) | (simp; omega))
        · (first | omega | (simp only; omega) | (simp; done) | (simp; omega))
        rintro r st' ⟨rfl, k2, nt2, q3, q4, rfl⟩
        have hx2 : (x ++ G d).size = x.size + (G d).size := ByteArray.size_append
        generalize x ++ G d = y at *
        simp (implicitDefEqProofs := false) (disch := omega) only [go_sem, simprocAttr, go_sem, Nat.le_refl, cellsV, dropK_tokS, List.append_nil, dropH, inL, Tryd.results41]
        refine CallOk.ofI (writeS_W hrest k2 (.inr rfl) (by omega) ?_ ?_ (by rfl)) rfl rfl rfl rfl ?_
        · (first | omega | (simp only; omega) | (simp; done) | (simp; omega))
        · (first | omega | (simp only; omega) | (simp; done) | (simp; omega))
        rintro r st' ⟨rfl, k1, nt1, q1, q2, rfl⟩
        simp (implicitDefEqProofs := false) (disch := omega) only [go_sem, simprocAttr, go_sem, Nat.le_refl, cellsV, dropK_tokS, List.append_nil, dropH, inL, Tryd.results41]
        refine ⟨⟨[], [(0, .box 55 (.ptr 0 0 :: rowS k1 _ :: [vS c, .fn g [], by_]))], tokS k1 5 _, 1, nt1⟩, ⟨rfl, k1, q1, by simp only; omega, rfl, rfl, rfl⟩, ?_⟩; refine wr_end hrest q1 ?_ ?_ ?_ ?_ <;> (first | omega | (simp only; omega) | (simp; done) | (simp; omega))
      · rw [if_neg h0, ByteArray.append_empty]
        simp (implicitDefEqProofs := false) (disch := omega) only [go_sem, simprocAttr, go_sem, Nat.le_refl, cellsV, dropK_tokS, List.append_nil, dropH, inL, Tryd.results41, decide_eq_false (show ¬ (0 : Int) < (v.items.length : Int) by omega)]
        refine CallOk.ofI (writeS_W hrest k (.inr rfl) (by omega) ?_ ?_ (by rfl)) rfl rfl rfl rfl ?_
        · (first | omega | (simp only; omega) | (simp; done) | (simp; omega))
        · (first | omega | (simp only; omega) | (simp; done) | (simp; omega))
        rintro r st' ⟨rfl, k1, nt1, q1, q2, rfl⟩
        simp (implicitDefEqProofs := false) (disch := omega) only [go_sem, simprocAttr, go_sem, Nat.le_refl, cellsV, dropK_tokS, List.append_nil, dropH, inL, Tryd.results41]
        refine ⟨⟨[], [(0, .box 55 (.ptr 0 0 :: rowS k1 _ :: [vS c, .fn g [], by_]))], tokS k1 5 _, 1, nt1⟩, ⟨rfl, k1, q1, by simp only; omega, rfl, rfl, rfl⟩, ?_⟩; refine wr_end hrest q1 ?_ ?_ ?_ ?_ <;> (first | omega | (simp only; omega) | (simp; done) | (simp; omega))
/-- A value's text, written. -/
theorem value_ok {c : ByteArray} {g : FuncId} {by_ : PV} (hrest : PV.ltL 0 0 [vS c, .fn g [], by_] = true) (G : Nat → ByteArray) (D : Nat) (hG : ∀ d, d ≤ D → (G d).size ≤ 400) (hc : c.size ≤ 2)
    (hgap : ∀ d, d ≤ D → ∀ s, s.size ≤ 900000 → WritesP g [vS c, .fn g [], by_] [vI d] s (G d)) (hD : D ≤ 1000000) :
    ∀ v d s, wrV v = true → d + nV v ≤ D → s.size + 60 * szV v + 800 * nV v ≤ 800000 → Writes 22 [vS c, .fn g [], by_] [.agg (cellsV v), vI (d : Nat)] s (txV G c d v) := by
  refine V.ind fun v ih d s hw hd hl => ?_
  have hn := nV_eq v
  refine value_step hrest G v d s hw hl fun o oc ec hk e1 e2 s hs => items_step hrest G D hG hc hgap v d hw hd hD (fun x hx s hs => ?_) o oc ec hk s hs
  exact ih x hx (d + 1) s ((wrV_get hw).2.2 x hx) (by have := nVs_mem hx; omega) hs
end Go.Proofs.YtmfaejdnaippkaaDoor

end
section
/-
  Texts in quotation marks are the same just if the texts are; the program's Quote and Text.
-/
open Go Go.Proofs Go.Pw Go.RowKit
namespace Go.Proofs.YtmfaejdnaippkaaDoor
set_option maxRecDepth 4000
set_option linter.unusedVariables false
set_option linter.unusedSimpArgs false
/-- What stands at the head of a text in quotation marks: the byte it stands for, and how many bytes it takes. -/
def hxv (b : UInt8) : UInt8 := (Lib.indexByte hexL b).toNat.toUInt8
def unesc (l : List UInt8) : UInt8 × Nat :=
  if l.getD 0 0 = 92 then (if l.getD 1 0 = 117 then (hxv (l.getD 4 0) * 16 + hxv (l.getD 5 0), 6) else (sgnL.getD (Lib.indexByte mrkL (l.getD 1 0)).toNat 0, 2)) else (l.getD 0 0, 1)
theorem esc_facts : ∀ c : Fin 256, (0 ≤ Lib.indexByte sgnL c.1.toUInt8 → mrkL.getD (Lib.indexByte sgnL c.1.toUInt8).toNat 0 ≠ 117 ∧ sgnL.getD (Lib.indexByte mrkL (mrkL.getD (Lib.indexByte sgnL c.1.toUInt8).toNat 0)).toNat 0 = c.1.toUInt8) ∧
    (¬ 0 ≤ Lib.indexByte sgnL c.1.toUInt8 → c.1.toUInt8 ≠ 92) ∧ (c.1 < 32 → hxv (hexL.getD (c.1 / 16) 0) * 16 + hxv (hexL.getD (c.1 % 16) 0) = c.1.toUInt8) := by decide +kernel
theorem unesc_esc (b : UInt8) (r : List UInt8) : unesc (escL b.toNat ++ r) = (b, (escL b.toNat).length) := by
  have h := esc_facts ⟨b.toNat, UInt8.toNat_lt b⟩
  simp only at h
  have hb : b.toNat.toUInt8 = b := by simp
  rw [hb] at h
  unfold escL
  rw [hb]
  by_cases h1 : 0 ≤ Lib.indexByte sgnL b
  · rw [if_pos h1]
    obtain ⟨h2, h3⟩ := h.1 h1
    unfold unesc
    simp only [List.cons_append, List.nil_append, List.getD_cons_zero, List.getD_cons_succ, if_true, if_neg h2, h3]
    rfl
  · rw [if_neg h1]
    by_cases h2 : b.toNat < 32
    · rw [if_pos h2]
      unfold unesc
      simp only [List.cons_append, List.nil_append, List.getD_cons_zero, List.getD_cons_succ, if_true, h.2.2 h2]
      rfl
    · rw [if_neg h2]
      unfold unesc
      simp only [List.cons_append, List.nil_append, List.getD_cons_zero, if_neg (h.2.1 h1)]
      rfl
def escF (l : List UInt8) : List UInt8 := l.flatMap fun b => escL b.toNat
theorem unesc_end : unesc [34] = (34, 1) := by decide +kernel
theorem esc_34 : (escL (34 : UInt8).toNat).length = 2 := by decide +kernel
theorem escF_inj : ∀ l m : List UInt8, escF l ++ [34] = escF m ++ [34] → l = m
  | [], [], _ => rfl
  | [], b :: m, h => by
    have h1 := congrArg unesc h
    rw [show escF [] ++ [34] = [34] from rfl, unesc_end, escF, List.flatMap_cons, List.append_assoc, unesc_esc] at h1
    simp only [Prod.mk.injEq] at h1
    obtain ⟨rfl, h2⟩ := h1
    rw [esc_34] at h2
    omega
  | a :: l, [], h => by
    have h1 := congrArg unesc h
    rw [show escF [] ++ [34] = [34] from rfl, unesc_end, escF, List.flatMap_cons, List.append_assoc, unesc_esc] at h1
    simp only [Prod.mk.injEq] at h1
    obtain ⟨rfl, h2⟩ := h1
    rw [esc_34] at h2
    omega
  | a :: l, b :: m, h => by
    have h1 := congrArg unesc h
    rw [escF, escF, List.flatMap_cons, List.flatMap_cons, List.append_assoc, List.append_assoc, unesc_esc, unesc_esc] at h1
    simp only [Prod.mk.injEq] at h1
    obtain ⟨rfl, _⟩ := h1
    rw [escF, escF, List.flatMap_cons, List.flatMap_cons, List.append_assoc, List.append_assoc] at h
    rw [escF_inj l m (List.append_cancel_left h)]
theorem escS_data (s : ByteArray) : ∀ i, i ≤ s.size → (escS s i).data.toList = escF (s.data.toList.take i)
  | 0, _ => by simp [escS, escF]
  | i + 1, h => by
    have hl : i < s.data.toList.length := by
      have : s.data.toList.length = s.size := by simp
      omega
    rw [List.take_succ_eq_append_getElem hl, escF, List.flatMap_append, escS, ByteArray.data_append, Array.toList_append, escS_data s i (by omega), escF]
    have : s.data.toList.getD i 0 = s.data.toList[i] := by rw [List.getD_eq_getElem?_getD, List.getElem?_eq_getElem hl]; rfl
    rw [this]
    simp [escA]
theorem qF_inj {s t : ByteArray} : qF s = qF t ↔ s = t := by
  refine ⟨fun h => ?_, fun h => by rw [h]⟩
  have h1 := congrArg (fun x => x.data.toList) h
  simp only [qF, ByteArray.data_append, Array.toList_append, escS_data _ _ (Nat.le_refl _)] at h1
  have e : ∀ s : ByteArray, s.data.toList.take s.size = s.data.toList := fun s => List.take_of_length_le (by simp)
  rw [e, e] at h1
  have h2 := escF_inj _ _ (by simpa [bC] using h1)
  apply ByteArray.ext
  exact Array.toList_inj.1 h2
/-- Nothing parts. -/
def gT : Nat → ByteArray := fun _ => ByteArray.empty
theorem rowS_0 (k : Nat) : rowS k ByteArray.empty = .val (.slice none 0 0) := by unfold rowS; rfl
theorem emp_app (t : ByteArray) : ByteArray.empty ++ t = t := by simp
theorem tight_W (d : Nat) (s : ByteArray) : WritesP 21 [vS (bC 58), .fn 21 [], vI 0] [vI d] s (gT d) := by
  refine OkI.of_pwp (by kernel_rfl) Tryd.func21 rfl (by kernel_rfl) (by kernel_rfl) ?_
  simp only [wr0, bldB, gT, ByteArray.append_empty]
  simp (implicitDefEqProofs := false) (disch := omega) only [go_sem, simprocAttr, go_sem, Nat.le_refl, cellsV, dropK_tokS, List.append_nil, dropH, inL, Tryd.results21]
  refine ⟨⟨[], [(0, .box 55 (.ptr 0 0 :: rowS 0 s :: [vS (bC 58), .fn 21 [], vI 0]))], tokS 0 5 s, 1, 1⟩, ⟨rfl, 0, by simp only; omega, by simp only; omega, rfl, rfl, rfl⟩, ?_⟩
  refine wr_end (by rfl) ?_ ?_ ?_ ?_ ?_ <;> first | omega | (simp only; omega) | (simp; done)
/-- The text of a value. -/
def tV (v : V) : ByteArray := txV gT (bC 58) 0 v
set_option maxHeartbeats 4000000 in
theorem rtxt_ok (v : V) (hw : wrV v = true) (hl : 60 * szV v + 800 * nV v ≤ 800000) : Ok Tryd.prog 9 [.agg (cellsV v)] (vS (tV v)) := by
  have hv := value_ok (c := bC 58) (g := 21) (by_ := vI 0) (by rfl) gT 1000000 (fun d _ => Nat.zero_le _) (by decide) (fun d _ s _ => tight_W d s) (Nat.le_refl _) v 0 ByteArray.empty hw (by omega) (by show 0 + _ + _ ≤ _; omega)
  refine Ok.of_pwp (by kernel_rfl) Tryd.func9 rfl (by kernel_rfl) (by kernel_rfl) ?_
  generalize hR : vS (tV v) = R
  simp (implicitDefEqProofs := false) (disch := omega) only [go_sem, simprocAttr, go_sem, Nat.le_refl, cellsV, dropK_tokS, List.append_nil, dropH, inL, Tryd.results9]
  refine CallOk.ofI (bld_at (st := ⟨[], _, _, _, _⟩) (a' := vNP) (s := ByteArray.empty) (rest := [vS (bC 58), .fn 21 [], vI 0]) 3 0 (fun a ha => hv a ha) ?_ ?_ (.inl rfl) (by rfl) (by simp [PV.ltL, PV.lt, cellsV_lt]) rfl (by rw [rowS_0]; rfl) (fun h => absurd rfl h)) rfl rfl rfl rfl ?_
  · simp
  · simp
  rintro r st' ⟨rfl, k1, nt1, q1, q2, rfl⟩
  simp only [emp_app]
  simp (implicitDefEqProofs := false) (disch := omega) only [go_sem, simprocAttr, go_sem, Nat.le_refl, cellsV, dropK_tokS, List.append_nil, dropH, inL, Tryd.results9]
  refine CallOk.ofI (string_at (st := ⟨[], _, _, _, _⟩) (rest := [vS (bC 58), .fn 21 [], vI 0]) 3 k1 ?_ ?_ (.inr rfl) (by rfl) rfl lkp_tokS) rfl rfl rfl rfl ?_
  · simp
  · simp only; omega
  rintro r st' ⟨rfl, rfl⟩
  simp (implicitDefEqProofs := false) (disch := omega) only [go_sem, simprocAttr, go_sem, Nat.le_refl, cellsV, dropK_tokS, List.append_nil, dropH, inL, Tryd.results9]
  exact hR
set_option maxHeartbeats 4000000 in
theorem pquote_ok (s : ByteArray) (hl : s.size ≤ 100000) : Ok Tryd.prog 7 [vS s] (vS (qF s)) := by
  refine Ok.of_pwp (by kernel_rfl) Tryd.func7 rfl (by kernel_rfl) (by kernel_rfl) ?_
  generalize hR : vS (qF s) = R
  simp (implicitDefEqProofs := false) (disch := omega) only [go_sem, simprocAttr, go_sem, Nat.le_refl, cellsV, dropK_tokS, List.append_nil, dropH, inL, Tryd.results7]
  refine CallOk.ofI (bld_at (st := ⟨[], _, _, _, _⟩) (a' := vNP) (s := ByteArray.empty) 1 0 (fun a ha => quote_ok (r1 := vS ByteArray.empty) (r2 := .val .nilFunc) (r3 := vI 0) (by rfl) ByteArray.empty s (by show 0 + _ ≤ _; omega) a ha) ?_ ?_ (.inl rfl) (by rfl) (by rfl) rfl (by rw [rowS_0]; rfl) (fun h => absurd rfl h)) rfl rfl rfl rfl ?_
  · simp
  · simp
  rintro r st' ⟨rfl, k1, nt1, q1, q2, rfl⟩
  simp only [emp_app]
  simp (implicitDefEqProofs := false) (disch := omega) only [go_sem, simprocAttr, go_sem, Nat.le_refl, cellsV, dropK_tokS, List.append_nil, dropH, inL, Tryd.results7]
  refine CallOk.ofI (string_at (st := ⟨[], _, _, _, _⟩) (rest := [vS ByteArray.empty, .val .nilFunc, vI 0]) 1 k1 ?_ ?_ (.inr rfl) (by rfl) rfl lkp_tokS) rfl rfl rfl rfl ?_
  · simp
  · simp only; omega
  rintro r st' ⟨rfl, rfl⟩
  simp (implicitDefEqProofs := false) (disch := omega) only [go_sem, simprocAttr, go_sem, Nat.le_refl, cellsV, dropK_tokS, List.append_nil, dropH, inL, Tryd.results7]
  exact hR
end Go.Proofs.YtmfaejdnaippkaaDoor

end
section
/-
  slices.Clone: of nothing, in memory; of something, by its code.
-/
open Go Go.Proofs Go.RowKit Go.Lib Go.Pw
namespace Go.Proofs.YtmfaejdnaippkaaDoor
set_option maxRecDepth 4000
set_option linter.unusedVariables false
set_option linter.unusedSimpArgs false
theorem run_append_empty {P : Program} {t e ty : TypeId} {i : TypeInfo} (ht : P.underlying t = some (.slice e)) (hi : P.info? e = some i) (b : Nat) (a : Addr) (cd c : Nat) (w : World) :
    (Builtin.append_ #[t, t] ty #[.slice (some ⟨b, 0, none⟩) 0 cd, .slice (some a) 0 c]).run P w = .ok (.slice (some ⟨b, 0, none⟩) 0 cd) w := by
  have hs : Src P i.size t (.slice (some a) 0 c) 0 [] w := Src.ofSlice w ht a 0 c [] (by simp) (fun j u hj => by simp at hj) (fun v hv => by cases hv)
  have := run_append_room_src (P := P) (w := w) t t ty e i ht hi b 0 0 cd (.slice (some a) 0 c) 0 [] hs (Nat.zero_le _) (fun j hj => by simp at hj) (fun j hj => by simp at hj)
  simpa [World.setCells] using this
theorem ok_of_empty {P : Program} {f : FuncId} (hent : enters P f = true) (h : ∀ (A : Option Addr) (c : Nat) (w : World), Calls P f #[.slice A 0 c] w fun e w' => ∃ A c', e = .returned (.slice A 0 c') ∧ Below w.heap.size w w') : Ok P f [.sl []] (.sl []) := by
  refine ⟨hent, fun S w vals hkn hS hn hr => ?_⟩
  obtain ⟨v, rfl⟩ : ∃ v, vals = #[v] := by
    cases vals with
    | mk l => match l, hn with
      | [v], _ => exact ⟨v, rfl⟩
  have r := hr 0 v _ rfl rfl
  cases r with
  | frz r =>
  cases r with
  | sl f hn' hc hsz hA hr' =>
  rename_i A n c sz
  have h0 : n = 0 := by simpa using hn'.symm
  subst h0
  refine (h A c w).mono ?_
  rintro e w' ⟨A', c', rfl, hb⟩
  refine ⟨_, S, rfl, SLe.refl _, fun b o u hu => ?_, fun b o u hu => .inl hu, .frz (.sl (sz := 1) (fun _ _ => .nilIface) rfl (Nat.zero_le _) (by simp) (by simp) (by simp)), hb⟩
  have h1 := hS b o u hu
  have hlt : b < w.heap.size := by
    rcases Nat.lt_or_ge b w.heap.size with h' | h'
    · exact h'
    · simp [World.cell?, Array.getElem?_eq_none h'] at h1
  rw [World.cell?_of_block (hb.block b hlt)]
  exact h1
set_option maxHeartbeats 2000000 in
set_option maxRecDepth 100000 in
theorem cloneV_none (c : Nat) (w : World) : Calls Tryd.prog 35 #[.slice none 0 c] w fun e w' => ∃ A c', e = .returned (.slice A 0 c') ∧ Below w.heap.size w w' := by
  go_enter Tryd.func35, Tryd.ntmps35
  go_wp2
  rw [Lib.run_eql_slice_nil _ _ _ _ _ _ _ _ Tryd.underlying26]
  simp only [Result.andThen]
  rw [Oper.upon_value]
  go_wp2
  go_ret
  exact ⟨none, 0, rfl, Below.refl _ _⟩
set_option maxHeartbeats 2000000 in
set_option maxRecDepth 100000 in
theorem cloneV_some (a : Addr) (c : Nat) (w : World) : Calls Tryd.prog 35 #[.slice (some a) 0 c] w fun e w' => ∃ A c', e = .returned (.slice A 0 c') ∧ Below w.heap.size w w' := by
  obtain ⟨i0, hi0, _⟩ : ∃ i0, Tryd.prog.info? 29 = some i0 ∧ True := ⟨_, rfl, trivial⟩
  have hrun := fun (ty : TypeId) (b cd : Nat) (W : World) => run_append_empty (ty := ty) Tryd.underlying26 hi0 b a cd c W
  go_enter Tryd.func35, Tryd.ntmps35
  go_wp2
  rw [Lib.run_eql_slice_nil _ _ _ _ _ _ _ _ Tryd.underlying26]
  simp only [Result.andThen]
  rw [Oper.upon_value]
  go_wp2_with (at_builtin; refine Lib.wpList_append_run _ rfl _ _ _ _ rfl _ _ rfl rfl _ _ (hrun _ _ _ _) ?_)
  go_ret
  exact ⟨some _, 0, rfl, (Below.refl _ _).alloc (Nat.le_refl _) _⟩
set_option maxHeartbeats 2000000 in
theorem cloneV_ok (l : List V) (hl : l.length ≤ 1000000) : Ok Tryd.prog 35 [.sl (encV l)] (.sl (encV l)) := by
  cases l with
  | nil =>
    rw [encV_nil]
    refine ok_of_empty (by kernel_rfl) fun A c w => ?_
    cases A with
    | none => exact cloneV_none c w
    | some a => exact cloneV_some a c w
  | cons x r =>
    refine Ok.of_pwp (by kernel_rfl) Tryd.func35 rfl (by kernel_rfl) (by kernel_rfl) ?_
    simp (implicitDefEqProofs := false) (disch := omega) only [go_sem, simprocAttr, go_sem, Nat.le_refl, cellsV, Tryd.results35]
    refine ⟨⟨_, Tryd.underlying26⟩, by simp [encV_cons], ?_⟩
    refine appZ_any rfl rfl (by rw [encV_len, List.length_nil]; omega) (by rw [encV_len, List.length_nil]; omega) ?_
    simp (implicitDefEqProofs := false) (disch := omega) only [go_sem, simprocAttr, go_sem, Nat.le_refl, cellsV, Tryd.results35]
end Go.Proofs.YtmfaejdnaippkaaDoor

end
section
/-
  How a law's arguments read: numbers, truths, texts, slices and structs of such.
-/
namespace Go.Pw
open Go Go.RowKit
set_option linter.unusedVariables false
set_option linter.unusedSimpArgs false
/-- Cells read ags these. -/
def CellsRep (w : World) (cs : List Value) (ps : List PV) : Prop := cs.length = ps.length ∧ ∀ (i : Nat) (c : Value) (p : PV), cs[i]? = some c → ps[i]? = some p → RepF (memCells w) c p
section
variable {H : Type} {en : TypeId × Value → H} {P : Program} {w : World} {base : Nat} {spare : Nat → Bool} {held : Bool}
/-- What lies in memory at a type reads ags a datum. -/
def Rd {H : Type} (en : TypeId × Value → H) (P : Program) (w : World) (base : Nat) (spare : Nat → Bool) (held : Bool) (t : TypeId) {α : Type} (e : α → List PV) (ok : α → Prop) : Prop :=
  ∀ (fuel : Nat) (cs : List Value) (x : DataW H × List MemPlace), DataW.trod en P w base spare held fuel t cs = some x → ∃ a, ok a ∧ CellsRep w cs (e a)
theorem CellsRep.one {c : Value} {p : PV} (h : RepF (memCells w) c p) : CellsRep w [c] [p] :=
  ⟨rfl, fun i c' p' h1 h2 => by
    cases i with
    | zero => simp at h1 h2; subst h1 h2; exact h
    | succ i => simp at h1⟩
theorem Rd.int {t : TypeId} {k : IntKind} (ht : P.underlying t = some (.int k)) : Rd en P w base spare held t (fun n : Int => [.val (.int k n)]) (fun n => (Lit.int k n).wf = true) := fun fuel cs x h => by
  obtain ⟨n, rfl, _, hw⟩ := DataW.trod_int ht h
  exact ⟨n, hw, .one (.val rfl)⟩
theorem Rd.string {t : TypeId} (ht : P.underlying t = some .string) : Rd en P w base spare held t (fun s : ByteArray => [vS s]) (fun s => s.size ≤ maxLen) := fun fuel cs x h => by
  obtain ⟨n, rfl, _, hw⟩ := DataW.trod_string ht h
  exact ⟨n, hw, .one (.val rfl)⟩
theorem Rd.map {t : TypeId} {α β : Type} {e : α → List PV} {ok : α → Prop} {e' : β → List PV} {ok' : β → Prop} (h : Rd en P w base spare held t e ok) (g : α → β) (he : ∀ a, e a = e' (g a)) (hk : ∀ a, ok a → ok' (g a)) : Rd en P w base spare held t e' ok' := fun fuel cs x hx => by
  obtain ⟨a, h1, h2⟩ := h fuel cs x hx
  exact ⟨g a, hk a h1, by rw [← he]; exact h2⟩
theorem list_of {α : Type} {p : Nat → α → Prop} : ∀ (n : Nat), (∀ i, i < n → ∃ a, p i a) → ∃ l : List α, l.length = n ∧ ∀ (i : Nat) (a : α), l[i]? = some a → p i a
  | 0, _ => ⟨[], rfl, fun i a h => by simp at h⟩
  | n + 1, h => by
    obtain ⟨l, h1, h2⟩ := list_of n (fun i hi => h i (by omega))
    obtain ⟨a, ha⟩ := h n (by omega)
    refine ⟨l ++ [a], by simp [h1], fun i b hb => ?_⟩
    by_cases hi : i < n
    · rw [List.getElem?_append_left (by omega)] at hb
      exact h2 i b hb
    · have : i = n := by
        have := (List.getElem?_eq_some_iff.1 hb).1
        simp at this
        omega
      subst this
      rw [List.getElem?_append_right (by omega), h1] at hb
      simp at hb
      subst hb
      exact ha
theorem cells?_get {a : Addr} {n : Nat} {cs : List Value} (h : w.cells? base a n = some cs) : cs.length = n ∧ ∀ j, j < n → w.cell? (a.add j) = cs[j]? := by
  unfold World.cells? at h
  split at h
  · have h1 := mapM_some_length h
    refine ⟨by simpa using h1, fun j hj => ?_⟩
    exact mapM_some_get h j j (by simp [hj])
  · cases h
theorem spot_none {a : Addr} {v : Value} (h : w.cell? a = some v) : a.spot = none := by
  unfold World.cell? at h
  split at h
  · split at h
    · cases h
    · rename_i hn
      cases hs : a.spot with
      | none => rfl
      | some x => rw [hs] at hn; simp at hn
  · cases h
theorem Rd.slice {t e : TypeId} {α : Type} {en' : α → List PV} {ok : α → Prop} {sz : Nat} (ht : P.underlying t = some (.slice e)) (hc : P.cellsOf e = sz) (h0 : 0 < sz) (hl : ∀ a, (en' a).length = sz) (h : Rd en P w base spare held e en' ok) :
    Rd en P w base spare held t (fun l : List α => [.sl (l.map en')]) (fun l => l.length ≤ maxLen ∧ ∀ a ∈ l, ok a) := fun fuel cs x hx => by
  rcases DataW.trod_slice ht hx with ⟨rfl, _⟩ | ⟨a, len, cap, elems, rest, n, _, rfl, _, _, hlc, hm, hlen, hel, _, _⟩
  · exact ⟨[], ⟨Nat.zero_le _, fun a ha => by cases ha⟩, .one (.sl (sz := 1) (fun _ _ => .nilIface) rfl (Nat.le_refl _) (by simp) (by simp) (by simp))⟩
  · have each : ∀ i, i < len → ∃ b : α, ok b ∧ ∃ ci, w.cells? base (a.add (i * sz)) sz = some ci ∧ CellsRep w ci (en' b) := fun i hi => by
      have h1 := hel i hi
      rw [hc] at h1
      have h2 : elems[i]? = some elems[i] := List.getElem?_eq_getElem (by omega)
      rw [h2, Option.bind_eq_some_iff] at h1
      obtain ⟨ci, h3, h4⟩ := h1
      obtain ⟨b, hb1, hb2⟩ := h n ci _ h4
      exact ⟨b, hb1, ci, h3, hb2⟩
    obtain ⟨l, l1, l2⟩ := list_of len each
    refine ⟨l, ⟨by omega, fun b hb => ?_⟩, .one ?_⟩
    · obtain ⟨i, hi⟩ := List.mem_iff_getElem?.1 hb
      exact (l2 i b hi).1
    · have spot : 0 < len → a = ⟨a.block, a.off, none⟩ := fun hp => by
        obtain ⟨b, _, ci, h3, h4⟩ := each 0 hp
        obtain ⟨g1, g2⟩ := cells?_get h3
        have h5 := g2 0 h0
        have h6 : ci[0]? = some (ci[0]'(by omega)) := List.getElem?_eq_getElem (by omega)
        rw [h6] at h5
        have e0 : (a.add (0 * sz)).add 0 = a := by simp [Addr.add]
        rw [e0] at h5
        have := spot_none h5
        cases a; simp at this; subst this; rfl
      refine .sl (sz := sz) (fun i j => (w.cell? ⟨a.block, a.off + (i * sz + j), none⟩).getD undef) (by simp [l1]) hlc (fun x hx => ?_) (fun hp => ⟨a.block, a.off, congrArg some (spot hp), fun i j hi hj => ?_⟩) (fun i j x p hx hp => ?_)
      · obtain ⟨b, _, rfl⟩ := List.mem_map.1 hx
        exact hl b
      · obtain ⟨b, _, ci, h3, h4⟩ := each i hi
        obtain ⟨g1, g2⟩ := cells?_get h3
        have h5 := g2 j hj
        have h6 : ci[j]? = some (ci[j]'(by omega)) := List.getElem?_eq_getElem (by omega)
        rw [h6, spot (by omega), Addr.add_lit, Addr.add_lit, Nat.add_assoc] at h5
        show w.cell? _ = _
        rw [h5]; rfl
      · rw [List.getElem?_map] at hx
        cases hli : l[i]? with
        | none => rw [hli] at hx; cases hx
        | some b =>
          rw [hli] at hx
          obtain rfl := Option.some.inj hx
          obtain ⟨_, ci, h3, h4⟩ := l2 i b hli
          have hi : i < len := by rw [← l1]; exact (List.getElem?_eq_some_iff.1 hli).1
          have hj : j < sz := by rw [← hl b]; exact (List.getElem?_eq_some_iff.1 hp).1
          obtain ⟨g1, g2⟩ := cells?_get h3
          have h5 := g2 j hj
          have h6 : ci[j]? = some (ci[j]'(by omega)) := List.getElem?_eq_getElem (by omega)
          rw [h6, spot (by omega), Addr.add_lit, Addr.add_lit, Nat.add_assoc] at h5
          rw [h5]
          exact h4.2 j _ p h6 hp
theorem Rd.bool {t : TypeId} (ht : P.underlying t = some .bool) : Rd en P w base spare held t (fun b : Bool => [vB b]) (fun _ => True) := fun fuel cs x h => by
  obtain ⟨b, rfl, _⟩ := DataW.trod_bool ht h
  exact ⟨b, trivial, .one (.val rfl)⟩
end
end Go.Pw

end
