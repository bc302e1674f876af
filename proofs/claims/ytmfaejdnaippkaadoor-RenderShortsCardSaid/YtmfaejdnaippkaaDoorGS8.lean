/-
  Contracts and plain laws on the way to the statement; each says its own conditions.
-/
import Derived.Test.YtmfaejdnaippkaaDoorGS6
import Derived.Test.YtmfaejdnaippkaaDoorGS7
import Derived.Lib.AppendIntMem
import Derived.Lib.AtoiErrMem
import Derived.Test.YtmfaejdnaippkaaDoorGS5
import Derived.Lib.TrimUEq
import Derived.Lib.ItoaLen
import Derived.Sort.Walk0
import Derived.Shelf.Spec.SlicesInsertGrow
import Derived.Test.YtmfaejdnaippkaaDoorProg
import Derived.Test.YtmfaejdnaippkaaDoorGS4
import Derived.Lib.Builder
section
/-
  Contracts of the library's functions on numbers' texts, out of the kit's shelf.
-/
open Go Go.Proofs Go.Pw Go.RowKit
namespace Go.Proofs.YtmfaejdnaippkaaDoor
set_option maxRecDepth 4000
set_option linter.unusedVariables false
set_option linter.unusedSimpArgs false
theorem stable_below {S : Cells} {w w' : World} (hS : Stable S w) (hb : Below w.heap.size w w') : Stable S w' := fun b o u hu => by
  have h1 := hS b o u hu
  have hlt : b < w.heap.size := by
    rcases Nat.lt_or_ge b w.heap.size with h' | h'
    · exact h'
    · simp [World.cell?, Array.getElem?_eq_none h'] at h1
  rw [World.cell?_of_block (hb.block b hlt)]
  exact h1
/-- A function that is handed plain values, and hands back what reads so wherever it stands. -/
theorem Ok.of_plain {P : Program} {f : FuncId} {l : List Value} {r : PV} (hent : enters P f = true) (h : ∀ w, Known w → Calls P f l.toArray w fun e w' => ∃ v, e = .returned v ∧ (∀ S, RepA S v r) ∧ Below w.heap.size w w') : Ok P f (l.map .val) r := by
  refine ⟨hent, fun S w vals hk hS hn hr => ?_⟩
  have e : vals = l.toArray := by
    apply Array.ext (by simpa using hn)
    intro i h1 h2
    have hl : i < l.length := by simpa using h2
    have := (rep_val (hr i vals[i] (.val l[i]) (Array.getElem?_eq_getElem h1) (by simp [hl]))).1
    simpa using this
  subst e
  refine (h w hk).mono ?_
  rintro e w' ⟨v, rfl, hv, hb⟩
  exact ⟨v, S, rfl, SLe.refl _, stable_below hS hb, fun b o u hu => .inl hu, hv S, hb⟩
theorem formatInt_ok (n : Int) (h : fits n) : Ok Tryd.prog 57 [vI n, vI 10] (vS ⟨(Lib.itoa n).toArray⟩) :=
  Ok.of_plain (l := [.int .i64 n, .int .i64 10]) (by kernel_rfl) fun w hk => (Tryd.strconv_FormatInt_10 n h.1 h.2 w (hasW_tab (by kernel_rfl) hk.2)).mono (by
    rintro e w' ⟨rfl, k, os, rfl⟩
    exact ⟨_, rfl, fun S => .frz (.val rfl), Lib.below_grow _ _ (Nat.le_refl _) _ _⟩)
end Go.Proofs.YtmfaejdnaippkaaDoor

end
section
/-
  A text in quotation marks: the program's.
-/
open Go Go.Proofs Go.Pw Go.RowKit
namespace Go.Proofs.YtmfaejdnaippkaaDoor
set_option maxRecDepth 4000
set_option linter.unusedVariables false
set_option linter.unusedSimpArgs false
theorem indexByte_ok (s : ByteArray) (c : Int) : Ok Tryd.prog 38 [vS s, vC c] (vI (Lib.indexByte s.data.toList c.toNat.toUInt8)) :=
  Ok.of_plain (l := [.string s, .int .u8 c]) (by kernel_rfl) fun w hk => (Tryd.strings_IndexByte s c w).mono (by
    rintro e w' ⟨rfl, rfl⟩
    exact ⟨_, rfl, fun S => .frz (.val rfl), Below.refl _ _⟩)
def sgnL : List UInt8 := [34, 92, 8, 12, 10, 13, 9]
def mrkL : List UInt8 := [34, 92, 98, 102, 110, 114, 116]
def hexL : List UInt8 := [48, 49, 50, 51, 52, 53, 54, 55, 56, 57, 97, 98, 99, 100, 101, 102]
/-- What is written for a byte. -/
def escL (c : Nat) : List UInt8 := if 0 ≤ Lib.indexByte sgnL c.toUInt8 then [92, mrkL.getD (Lib.indexByte sgnL c.toUInt8).toNat 0] else if c < 32 then [92, 117, 48, 48, hexL.getD (c / 16) 0, hexL.getD (c % 16) 0] else [c.toUInt8]
def escA (c : Nat) : ByteArray := ⟨(escL c).toArray⟩
theorem escL_len : ∀ c : Fin 256, (escL c.1).length ≤ 6 := by decide +kernel
theorem escA_size (c : Nat) (h : c < 256) : (escA c).size ≤ 6 := by
  have := escL_len ⟨c, h⟩
  show (escA c).data.size ≤ 6
  simpa [escA] using this
/-- What is written for a text's first bytes. -/
def escS (s : ByteArray) : Nat → ByteArray
  | 0 => ByteArray.empty
  | i + 1 => escS s i ++ escA (s.data.toList.getD i 0).toNat
theorem escS_size (s : ByteArray) : ∀ i, (escS s i).size ≤ 6 * i
  | 0 => by simp [escS]
  | i + 1 => by
    have := escS_size s i
    have h2 := escA_size (s.data.toList.getD i 0).toNat (UInt8.toNat_lt _)
    rw [escS, ByteArray.size_append]
    omega
/-- A text in quotation marks. -/
def qF (s : ByteArray) : ByteArray := bC 34 ++ escS s s.size ++ bC 34
theorem qF_size (s : ByteArray) : (qF s).size ≤ 6 * s.size + 2 := by
  have := escS_size s s.size
  rw [qF, ByteArray.size_append, ByteArray.size_append, bC_size]
  omega
theorem bt_eq (s : ByteArray) (i : Nat) : bt s (i : Int) = ((s.data.toList.getD i 0).toNat : Int) := by unfold bt; rw [Int.toNat_natCast]
theorem sgn_facts : ∀ c : Fin 256, -1 ≤ Lib.indexByte sgnL c.1.toUInt8 ∧ Lib.indexByte sgnL c.1.toUInt8 < 7 := by decide +kernel
theorem lkp_tokS {k : Nat} {e : TypeId} {s : ByteArray} (h : s.size ≠ 0) : lkp (tokS k e s) k = some ⟨e, 1, s.size⟩ := by
  unfold tokS
  rw [if_neg h]
  simp [lkp]
theorem dropK_tokS (k : Nat) (e : TypeId) (s : ByteArray) : dropK [k] (tokS k e s) = [] := by
  unfold tokS
  split
  · rfl
  · simp [dropK, inL]
theorem tokS_weak (k nt : Nat) (t : TypeId) (s : ByteArray) (hk : k < nt) : ∀ e ∈ tokS k t s, lkp (tokS k t s) e.1 = some e.2 ∧ e.1 < nt := by
  unfold tokS
  split
  · intro e he; cases he
  · intro e he
    simp only [List.mem_singleton] at he
    subst he
    exact ⟨by simp [lkp], hk⟩
theorem esc_2 (m : UInt8) : (bC 92 : ByteArray) ++ bC (m.toNat : Int) = ⟨[92, m].toArray⟩ := by
  apply ByteArray.ext
  simp [bC]
theorem esc_6 (m n : UInt8) : (⟨[92, 117, 48, 48].toArray⟩ : ByteArray) ++ bC (m.toNat : Int) ++ bC (n.toNat : Int) = ⟨[92, 117, 48, 48, m, n].toArray⟩ := by
  apply ByteArray.ext
  simp [bC]
theorem heads_writer : Heads 55 5 := ⟨by decide, by kernel_rfl⟩
theorem wr_weak {L : Nat × Nat} {E E' : List (Nat × PV)} {k nt nx0 nt0 : Nat} {s : ByteArray} {r1 r2 r3 : PV} (hr : PV.ltL 0 0 [r1, r2, r3] = true) (hk : k < nt) (hE : ∀ e ∈ E', bindO (lkp E e.1) (fun q => Frz q e.2) ∧ e.2.lt 1 nt = true) (h1 : 1 ≤ nx0) (h2 : nt ≤ nt0) (h3 : L.1 ≤ 1) (h4 : L.2 ≤ nt) :
    Weak L ⟨E, [(0, .box 55 [.ptr 0 0, rowS k s, r1, r2, r3])], tokS k 5 s, nx0, nt0⟩ ⟨E', [(0, .box 55 [.ptr 0 0, rowS k s, r1, r2, r3])], tokS k 5 s, 1, nt⟩ := by
  have hl := ltL_low (Nat.zero_le 1) (Nat.zero_le nt) _ hr
  refine ⟨hE, fun e he => ?_, tokS_weak _ _ _ _ hk, h1, h2, h3, h4⟩
  rw [List.mem_singleton] at he
  subst he
  refine ⟨by simp [lkp, bindO, FrzO.refl], Nat.zero_lt_one, ?_⟩
  simp only [PObj.lt, PV.ltL, PV.lt, rowS_lt _ _ _ _ hk, Bool.true_and, Nat.zero_lt_one, decide_true]
  simpa [PV.ltL] using hl
/-- The state in which a text is being written: the writer's number is 0. -/
def wrS (E : List (Nat × PV)) (k nt : Nat) (s : ByteArray) (rest : List PV) : PS := ⟨E, [(0, .box 55 (.ptr 0 0 :: rowS k s :: rest))], tokS k 5 s, 1, nt⟩
/-- A byte, a text, written into the writer. -/
theorem wB {k nt nx : Nat} {s : ByteArray} {c : Int} {r1 r2 r3 : PV} (hr : PV.ltL 0 0 [r1, r2, r3] = true) (h0 : 0 ≤ c) (h1 : c ≤ 255) (hl : s.size ≤ 1000000) (hx : 0 < nx) (hk : k < nt) :
    OkI Tryd.prog 37 [.ptr 0 0, vC c] ⟨[], [(0, .box 55 [.ptr 0 0, rowS k s, r1, r2, r3])], tokS k 5 s, nx, nt⟩ (fun r st' => r = .val .nilIface ∧ ∃ k' nt', k' < nt' ∧ nt ≤ nt' ∧ st' = ⟨[], [(0, .box 55 [.ptr 0 0, rowS k' (s ++ bC c), r1, r2, r3])], tokS k' 5 (s ++ bC c), nx, nt'⟩) := by
  refine OkI.mono' (writeB_at heads_writer hr 0 k h0 h1 hl hx hk (.inr rfl) rfl lkp_tokS) ?_
  rintro r st' ⟨rfl, k', nt', g1, g2, rfl⟩
  refine ⟨rfl, k', nt', g1, g2, ?_⟩
  simp only [dropK_tokS, List.append_nil]
  rfl
theorem wS {k nt nx : Nat} {s t : ByteArray} {r1 r2 r3 : PV} (hr : PV.ltL 0 0 [r1, r2, r3] = true) (hl : s.size + t.size ≤ 1000000) (hx : 0 < nx) (hk : k < nt) :
    OkI Tryd.prog 39 [.ptr 0 0, vS t] ⟨[], [(0, .box 55 [.ptr 0 0, rowS k s, r1, r2, r3])], tokS k 5 s, nx, nt⟩ (fun r st' => r = .tup [vI t.size, .val .nilIface] ∧ ∃ k' nt', k' < nt' ∧ nt ≤ nt' ∧ st' = ⟨[], [(0, .box 55 [.ptr 0 0, rowS k' (s ++ t), r1, r2, r3])], tokS k' 5 (s ++ t), nx, nt'⟩) := by
  refine OkI.mono' (writeS_at heads_writer hr 0 k hl hx hk (.inr rfl) rfl lkp_tokS) ?_
  rintro r st' ⟨rfl, k', nt', g1, g2, rfl⟩
  refine ⟨rfl, k', nt', g1, g2, ?_⟩
  simp only [dropK_tokS, List.append_nil]
  rfl
set_option maxHeartbeats 8000000 in
theorem quote_ok {r1 r2 r3 : PV} (hrest : PV.ltL 0 0 [r1, r2, r3] = true) (s t : ByteArray) (hl : s.size + 6 * t.size ≤ 900000) (a : PV) (ha : a = vNP ∨ a = .ptr 0 0) :
    OkI Tryd.prog 19 [.ptr 0 0, vS t] ⟨[], bldB 55 0 a s [r1, r2, r3], tokS 0 5 s, 1, 1⟩ (bldQ 55 (s ++ qF t) [r1, r2, r3] (.tup [])) := by
  refine OkI.of_pwpB (by kernel_rfl) Tryd.func19 rfl (by kernel_rfl) (by kernel_rfl) (bar := bar2 9 5 (bar2 12 6 (bar2 13 6 noBar))) ?_
  have hlt : ∀ (a b : Nat), PV.ltL a b [r1, r2, r3] = true := fun a b => ltL_low (Nat.zero_le a) (Nat.zero_le b) _ hrest
  simp only [bldB]
  simp (implicitDefEqProofs := false) (disch := omega) only [go_sem, simprocAttr, go_sem, Nat.le_refl, Tryd.results19, dropK_tokS, List.append_nil]
  refine CallOk.ofI (writeB_at (st := ⟨[], _, _, _, _⟩) heads_writer hrest 0 0 (by decide) (by decide) (by omega) (by simp) (by simp) ha rfl lkp_tokS) rfl rfl rfl rfl ?_
  rintro r st' ⟨rfl, k', nt', g1, g2, rfl⟩
  simp only at g1 g2
  simp (implicitDefEqProofs := false) (disch := omega) only [go_sem, simprocAttr, go_sem, Nat.le_refl, Tryd.results19, dropK_tokS, List.append_nil]
  refine p_loop (ι := { p : Nat × Nat × Nat // p.1 ≤ t.size ∧ p.2.1 < p.2.2 ∧ 1 ≤ p.2.2 }) (fun p => wrS [(13, vI p.1.1), (12, vI t.size), (0, .ptr 0 0), (1, vS t)] p.1.2.1 p.1.2.2 (s ++ bC 34 ++ escS t p.1.1) [r1, r2, r3]) (fun p => t.size - p.1.1) ⟨(0, k', nt'), Nat.zero_le _, g1, by simp only; omega⟩ ?_ ?_
  · simp only [wrS, escS, ByteArray.append_empty]
    exact wr_weak hrest g1 (by (simp only [go_sem, simprocAttr, decide_eq_true_eq, Int.natCast_zero, Int.natCast_add, Int.natCast_one]; try omega)) (by (first | omega | (simp only; omega) | (simp; done) | (simp; omega))) (by (first | omega | (simp only; omega) | (simp; done) | (simp; omega))) (by (first | omega | (simp only; omega) | (simp; done) | (simp; omega))) (by (first | omega | (simp only; omega) | (simp; done) | (simp; omega)))
  · rintro ⟨⟨i, k, nt⟩, h1, h2, h3⟩
    simp only at h1 h2 h3 ⊢
    have hes := escS_size t i
    have hsz : (s ++ bC 34 ++ escS t i).size ≤ 900100 := by rw [ByteArray.size_append, ByteArray.size_append, bC_size]; omega
    have hstep : s ++ bC 34 ++ escS t (i + 1) = s ++ bC 34 ++ escS t i ++ escA (t.data.toList.getD i 0).toNat := by rw [escS, ← ByteArray.append_assoc]
    have hend : s ++ qF t = s ++ bC 34 ++ escS t t.size ++ bC 34 := by rw [qF, ← ByteArray.append_assoc, ← ByteArray.append_assoc]
    unfold wrS
    by_cases hi : i < t.size
    · have hb := bt_eq t i
      have hn := UInt8.toNat_lt (t.data.toList.getD i 0)
      generalize hx : s ++ bC 34 ++ escS t i = x at *
      have ci := indexByte_ok ⟨#[34, 92, 8, 12, 10, 13, 9]⟩ (bt t i)
      rw [hb, Int.toNat_natCast] at ci
      generalize (t.data.toList.getD i 0).toNat = n at *
      have hf := sgn_facts ⟨n, hn⟩
      simp only at hf
      have ea : escA n = ⟨(escL n).toArray⟩ := rfl
      unfold escL at ea
      generalize hat : Lib.indexByte sgnL n.toUInt8 = z at *
      have hat' : Lib.indexByte (⟨#[34, 92, 8, 12, 10, 13, 9]⟩ : ByteArray).data.toList n.toUInt8 = z := hat
      rw [hat'] at ci
      have go : ∀ (k2 nt2 : Nat), k2 < nt2 → nt ≤ nt2 → ∀ (E : List (Nat × PV)), True := fun _ _ _ _ _ => trivial
      simp (implicitDefEqProofs := false) (disch := omega) only [go_sem, simprocAttr, go_sem, Nat.le_refl, Tryd.results19, dropK_tokS, List.append_nil]
      rw [hb]
      with_reducible refine CallOk.of ci rfl ?_
      by_cases hz : 0 ≤ z
      · rw [if_pos hz] at ea
        simp (implicitDefEqProofs := false) (disch := omega) only [go_sem, simprocAttr, go_sem, Nat.le_refl, Tryd.results19, dropK_tokS, List.append_nil]
        refine CallOk.ofI (wB hrest (by omega) (by omega) ?_ ?_ ?_) rfl rfl rfl rfl ?_
        · first | omega | (simp only [ByteArray.size_append, bC_size]; omega) | (simp only [ByteArray.size_append, bC_size]; show x.size + 4 ≤ _; omega) | (simp only [ByteArray.size_append, bC_size]; show x.size + 4 + 1 ≤ _; omega)
        · (first | omega | (simp only; omega) | (simp; done) | (simp; omega))
        · (first | omega | (simp only; omega) | (simp; done) | (simp; omega))
        rintro r st' ⟨rfl, k1, nt1, q1, q2, rfl⟩
        try simp only at q1 q2
        simp (implicitDefEqProofs := false) (disch := omega) only [go_sem, simprocAttr, go_sem, Nat.le_refl, Tryd.results19, dropK_tokS, List.append_nil]
        refine p_bar2 (by kernel_rfl) ?_
        have hm : bt ⟨#[34, 92, 98, 102, 110, 114, 116]⟩ z = ((mrkL.getD z.toNat 0).toNat : Int) := rfl
        have hm2 := UInt8.toNat_lt (mrkL.getD z.toNat 0)
        simp (implicitDefEqProofs := false) (disch := omega) only [go_sem, simprocAttr, go_sem, Nat.le_refl, Tryd.results19, dropK_tokS, List.append_nil, hm]
        refine ⟨by show z < 7; omega, ?_⟩
        refine CallOk.ofI (wB hrest (by omega) (by omega) ?_ ?_ ?_) rfl rfl rfl rfl ?_
        · first | omega | (simp only [ByteArray.size_append, bC_size]; omega) | (simp only [ByteArray.size_append, bC_size]; show x.size + 4 ≤ _; omega) | (simp only [ByteArray.size_append, bC_size]; show x.size + 4 + 1 ≤ _; omega)
        · (first | omega | (simp only; omega) | (simp; done) | (simp; omega))
        · (first | omega | (simp only; omega) | (simp; done) | (simp; omega))
        rintro r st' ⟨rfl, k2, nt2, q3, q4, rfl⟩
        try simp only at q3 q4
        simp (implicitDefEqProofs := false) (disch := omega) only [go_sem, simprocAttr, go_sem, Nat.le_refl, Tryd.results19, dropK_tokS, List.append_nil]
        refine ⟨⟨(i + 1, k2, nt2), hi, q3, by simp only; omega⟩, by simp only; omega, ?_⟩
        rw [hstep, ea, ← esc_2, ← ByteArray.append_assoc]
        exact wr_weak hrest q3 (by (simp only [go_sem, simprocAttr, decide_eq_true_eq, Int.natCast_zero, Int.natCast_add, Int.natCast_one]; try omega)) (by (first | omega | (simp only; omega) | (simp; done) | (simp; omega))) (by (first | omega | (simp only; omega) | (simp; done) | (simp; omega))) (by (first | omega | (simp only; omega) | (simp; done) | (simp; omega))) (by (first | omega | (simp only; omega) | (simp; done) | (simp; omega)))
      · rw [if_neg hz] at ea
        by_cases hc : n < 32
        · rw [if_pos hc] at ea
          have hh : ∀ y : Int, bt ⟨#[48, 49, 50, 51, 52, 53, 54, 55, 56, 57, 97, 98, 99, 100, 101, 102]⟩ y = ((hexL.getD y.toNat 0).toNat : Int) := fun y => rfl
          have hd : ((n : Int).tdiv 16) = ((n / 16 : Nat) : Int) := by rw [tdivE (by omega)]; rfl
          have hmo : ((n : Int).tmod 16) = ((n % 16 : Nat) : Int) := by rw [tmodE (by omega)]; rfl
          have u1 := UInt8.toNat_lt (hexL.getD (n / 16) 0)
          have u2 := UInt8.toNat_lt (hexL.getD (n % 16) 0)
          simp (implicitDefEqProofs := false) (disch := omega) only [go_sem, simprocAttr, go_sem, Nat.le_refl, Tryd.results19, dropK_tokS, List.append_nil]
          refine CallOk.ofI (wS hrest ?_ ?_ ?_) rfl rfl rfl rfl ?_
          · show x.size + 4 ≤ 1000000; omega
          · (first | omega | (simp only; omega) | (simp; done) | (simp; omega))
          · (first | omega | (simp only; omega) | (simp; done) | (simp; omega))
          rintro r st' ⟨rfl, k1, nt1, q1, q2, rfl⟩
          try simp only at q1 q2
          simp (implicitDefEqProofs := false) (disch := omega) only [go_sem, simprocAttr, go_sem, Nat.le_refl, Tryd.results19, dropK_tokS, List.append_nil]
          refine p_bar2 (by kernel_rfl) ?_
          simp (implicitDefEqProofs := false) (disch := omega) only [go_sem, simprocAttr, go_sem, Nat.le_refl, Tryd.results19, dropK_tokS, List.append_nil, hh, hd, Int.toNat_natCast, wrap8]
          refine ⟨by show _ < (16 : Int); omega, ?_⟩
          refine CallOk.ofI (wB hrest (by omega) (by omega) ?_ ?_ ?_) rfl rfl rfl rfl ?_
          · first | omega | (simp only [ByteArray.size_append, bC_size]; omega) | (simp only [ByteArray.size_append, bC_size]; show x.size + 4 ≤ _; omega) | (simp only [ByteArray.size_append, bC_size]; show x.size + 4 + 1 ≤ _; omega)
          · (first | omega | (simp only; omega) | (simp; done) | (simp; omega))
          · (first | omega | (simp only; omega) | (simp; done) | (simp; omega))
          rintro r st' ⟨rfl, k2, nt2, q3, q4, rfl⟩
          try simp only at q3 q4
          simp (implicitDefEqProofs := false) (disch := omega) only [go_sem, simprocAttr, go_sem, Nat.le_refl, Tryd.results19, dropK_tokS, List.append_nil]
          refine p_bar2 (by kernel_rfl) ?_
          simp (implicitDefEqProofs := false) (disch := omega) only [go_sem, simprocAttr, go_sem, Nat.le_refl, Tryd.results19, dropK_tokS, List.append_nil, hh, hmo, Int.toNat_natCast, wrap8]
          refine ⟨by show _ < (16 : Int); omega, ?_⟩
          refine CallOk.ofI (wB hrest (by omega) (by omega) ?_ ?_ ?_) rfl rfl rfl rfl ?_
          · first | omega | (simp only [ByteArray.size_append, bC_size]; omega) | (simp only [ByteArray.size_append, bC_size]; show x.size + 4 ≤ _; omega) | (simp only [ByteArray.size_append, bC_size]; show x.size + 4 + 1 ≤ _; omega)
          · (first | omega | (simp only; omega) | (simp; done) | (simp; omega))
          · (first | omega | (simp only; omega) | (simp; done) | (simp; omega))
          rintro r st' ⟨rfl, k3, nt3, q5, q6, rfl⟩
          try simp only at q5 q6
          simp (implicitDefEqProofs := false) (disch := omega) only [go_sem, simprocAttr, go_sem, Nat.le_refl, Tryd.results19, dropK_tokS, List.append_nil]
          refine ⟨⟨(i + 1, k3, nt3), hi, q5, by simp only; omega⟩, by simp only; omega, ?_⟩
          rw [hstep, ea, ← esc_6, ← ByteArray.append_assoc, ← ByteArray.append_assoc]
          exact wr_weak hrest q5 (by (simp only [go_sem, simprocAttr, decide_eq_true_eq, Int.natCast_zero, Int.natCast_add, Int.natCast_one]; try omega)) (by (first | omega | (simp only; omega) | (simp; done) | (simp; omega))) (by (first | omega | (simp only; omega) | (simp; done) | (simp; omega))) (by (first | omega | (simp only; omega) | (simp; done) | (simp; omega))) (by (first | omega | (simp only; omega) | (simp; done) | (simp; omega)))
        · rw [if_neg hc] at ea
          simp (implicitDefEqProofs := false) (disch := omega) only [go_sem, simprocAttr, go_sem, Nat.le_refl, Tryd.results19, dropK_tokS, List.append_nil]
          refine CallOk.ofI (wB hrest (by omega) (by omega) ?_ ?_ ?_) rfl rfl rfl rfl ?_
          · first | omega | (simp only [ByteArray.size_append, bC_size]; omega) | (simp only [ByteArray.size_append, bC_size]; show x.size + 4 ≤ _; omega) | (simp only [ByteArray.size_append, bC_size]; show x.size + 4 + 1 ≤ _; omega)
          · (first | omega | (simp only; omega) | (simp; done) | (simp; omega))
          · (first | omega | (simp only; omega) | (simp; done) | (simp; omega))
          rintro r st' ⟨rfl, k2, nt2, q3, q4, rfl⟩
          try simp only at q3 q4
          simp (implicitDefEqProofs := false) (disch := omega) only [go_sem, simprocAttr, go_sem, Nat.le_refl, Tryd.results19, dropK_tokS, List.append_nil]
          refine ⟨⟨(i + 1, k2, nt2), hi, q3, by simp only; omega⟩, by simp only; omega, ?_⟩
          rw [hstep, ea]
          exact wr_weak hrest q3 (by (simp only [go_sem, simprocAttr, decide_eq_true_eq, Int.natCast_zero, Int.natCast_add, Int.natCast_one]; try omega)) (by (first | omega | (simp only; omega) | (simp; done) | (simp; omega))) (by (first | omega | (simp only; omega) | (simp; done) | (simp; omega))) (by (first | omega | (simp only; omega) | (simp; done) | (simp; omega))) (by (first | omega | (simp only; omega) | (simp; done) | (simp; omega)))
    · have hi' : i = t.size := by omega
      subst hi'
      generalize hx : s ++ bC 34 ++ escS t t.size = x at *
      simp (implicitDefEqProofs := false) (disch := omega) only [go_sem, simprocAttr, go_sem, Nat.le_refl, Tryd.results19, dropK_tokS, List.append_nil]
      refine CallOk.ofI (wB hrest (by omega) (by omega) ?_ ?_ ?_) rfl rfl rfl rfl ?_
      · first | omega | (simp only [ByteArray.size_append, bC_size]; omega) | (simp only [ByteArray.size_append, bC_size]; show x.size + 4 ≤ _; omega) | (simp only [ByteArray.size_append, bC_size]; show x.size + 4 + 1 ≤ _; omega)
      · (first | omega | (simp only; omega) | (simp; done) | (simp; omega))
      · (first | omega | (simp only; omega) | (simp; done) | (simp; omega))
      rintro r st' ⟨rfl, k1, nt1, q1, q2, rfl⟩
      try simp only at q1 q2
      simp (implicitDefEqProofs := false) (disch := omega) only [go_sem, simprocAttr, go_sem, Nat.le_refl, Tryd.results19, dropK_tokS, List.append_nil]
      rw [hend]
      refine ⟨⟨[], [(0, .box 55 (.ptr 0 0 :: rowS k1 (x ++ bC 34) :: [r1, r2, r3]))], tokS k1 5 (x ++ bC 34), 1, nt1⟩, ⟨rfl, k1, q1, by simp only; omega, rfl, rfl, rfl⟩, ?_⟩
      exact wr_weak hrest q1 (by (simp only [go_sem, simprocAttr, decide_eq_true_eq, Int.natCast_zero, Int.natCast_add, Int.natCast_one]; try omega)) (by (first | omega | (simp only; omega) | (simp; done) | (simp; omega))) (by (first | omega | (simp only; omega) | (simp; done) | (simp; omega))) (by (first | omega | (simp only; omega) | (simp; done) | (simp; omega))) (by (first | omega | (simp only; omega) | (simp; done) | (simp; omega)))
end Go.Proofs.YtmfaejdnaippkaaDoor

end
section
/-
  A text in quotation marks: the document's.
-/
open Go Go.Proofs Go.Pw Go.RowKit
namespace Go.Proofs.YtmfaejdnaippkaaDoor
set_option maxRecDepth 4000
set_option linter.unusedVariables false
set_option linter.unusedSimpArgs false
def escI (c : Nat) : List Int := (escL c).map fun b => (b.toNat : Int)
def rowQ (s : ByteArray) : Nat → List Int
  | 0 => [34]
  | i + 1 => rowQ s i ++ escI (s.data.toList.getD i 0).toNat
theorem rowQ_len (s : ByteArray) : ∀ i, (rowQ s i).length ≤ 6 * i + 1
  | 0 => Nat.le_refl _
  | i + 1 => by
    have := rowQ_len s i
    have h2 := escL_len ⟨(s.data.toList.getD i 0).toNat, UInt8.toNat_lt _⟩
    simp only at h2
    rw [rowQ, List.length_append, escI, List.length_map]
    omega
theorem strN_app (a b : List Int) : strOfNums (a ++ b) = strOfNums a ++ strOfNums b := by
  apply ByteArray.ext
  simp [strOfNums]
theorem strN_esc (c : Nat) : strOfNums (escI c) = escA c := by
  apply ByteArray.ext
  have h : (fun n : Int => UInt8.ofNat n.toNat) ∘ (fun b : UInt8 => (b.toNat : Int)) = id := by funext b; simp
  simp [strOfNums, escI, escA, h]
theorem rowQ_str (s : ByteArray) : ∀ i, strOfNums (rowQ s i) = bC 34 ++ escS s i
  | 0 => by apply ByteArray.ext; simp [rowQ, strOfNums, escS, bC]
  | i + 1 => by rw [rowQ, strN_app, rowQ_str s i, strN_esc, escS, ByteArray.append_assoc]
theorem rowQ_end (s : ByteArray) : strOfNums (rowQ s s.size ++ [34]) = qF s := by
  rw [strN_app, rowQ_str, qF]
  rfl
theorem sgn_at : ∀ c : Fin 256, ∀ j : Fin 7, ((c.1 : Int) = ((sgnL.getD j.1 0).toNat : Int)) ↔ Lib.indexByte sgnL c.1.toUInt8 = (j.1 : Int) := by decide +kernel
theorem hs7 : (((#[34, 92, 8, 12, 10, 13, 9] : Array UInt8).size : Nat) : Int) = 7 := rfl
theorem hs7m : (((#[34, 92, 98, 102, 110, 114, 116] : Array UInt8).size : Nat) : Int) = 7 := rfl
def zb (z : Int) (j : Nat) : Bool := decide (0 ≤ z ∧ z < j)
def zl (z : Int) (j : Nat) (l : List Int) : List Int := if zb z j = true then l ++ [92, ((mrkL.getD z.toNat 0).toNat : Int)] else l
theorem zb_t {z : Int} {j : Nat} (h : 0 ≤ z ∧ z < j) : zb z j = true := decide_eq_true h
theorem zb_f {z : Int} {j : Nat} (h : ¬ (0 ≤ z ∧ z < j)) : zb z j = false := decide_eq_false h
theorem zb_s {z : Int} {j : Nat} (h : z ≠ j) : zb z (j + 1) = zb z j := decide_eq_decide.2 (by omega)
theorem zl_t {z : Int} {j : Nat} {l : List Int} (h : zb z j = true) : zl z j l = l ++ [92, ((mrkL.getD z.toNat 0).toNat : Int)] := if_pos h
theorem zl_f {z : Int} {j : Nat} {l : List Int} (h : zb z j = false) : zl z j l = l := if_neg (by rw [h]; decide)
theorem zl_s {z : Int} {j : Nat} {l : List Int} (h : z ≠ j) : zl z (j + 1) l = zl z j l := by unfold zl; rw [zb_s h]
theorem encC_two (l : List Int) (a b : Int) : encC l ++ [[.val (.int .u8 a)], [.val (.int .u8 b)]] = encC (l ++ [a, b]) := by simp [encC]
theorem encC_six (l : List Int) (a b c d e f : Int) : encC l ++ [[.val (.int .u8 a)], [.val (.int .u8 b)], [.val (.int .u8 c)], [.val (.int .u8 d)], [.val (.int .u8 e)], [.val (.int .u8 f)]] = encC (l ++ [a, b, c, d, e, f]) := by simp [encC]
/-- The state in the outer loop. -/
def qS (s : ByteArray) (i tk : Nat) (l : List Int) : PS := ⟨[(3, .row tk (encC l)), (4, vS ⟨#[34, 92, 8, 12, 10, 13, 9]⟩), (5, vS ⟨#[34, 92, 98, 102, 110, 114, 116]⟩), (6, vI i), (0, vS s)], [], [(tk, ⟨5, 1, l.length⟩)], 0, tk + 1⟩
def qS2 (s : ByteArray) (i tk j : Nat) (c : Nat) (b : Bool) (l : List Int) : PS := ⟨[(9, vI j), (8, vB b), (7, vC c), (3, .row tk (encC l)), (4, vS ⟨#[34, 92, 8, 12, 10, 13, 9]⟩), (5, vS ⟨#[34, 92, 98, 102, 110, 114, 116]⟩), (6, vI i), (0, vS s)], [], [(tk, ⟨5, 1, l.length⟩)], 0, tk + 1⟩
set_option maxHeartbeats 8000000 in
theorem rquote_ok (s : ByteArray) (hl : s.size ≤ 100000) : Ok Tryd.prog 8 [vS s] (vS (qF s)) := by
  refine Ok.of_pwp (by kernel_rfl) Tryd.func8 rfl (by kernel_rfl) (by kernel_rfl) ?_
  generalize hR : vS (qF s) = R
  simp (implicitDefEqProofs := false) (disch := omega) only [go_sem, simprocAttr, go_sem, Nat.le_refl, Tryd.results8, hs7, hs7m]
  refine p_loop (ι := { p : Nat × Nat // p.1 ≤ s.size }) (fun p => qS s p.1.1 p.1.2 (rowQ s p.1.1)) (fun p => s.size - p.1.1) ⟨(0, 1), Nat.zero_le _⟩ ?_ ?_
  · simp only [qS, rowQ, List.length_singleton]
    refine ⟨?_, ?_, ?_, ?_, ?_, ?_, ?_⟩ <;> simp only [go_sem, simprocAttr, decide_eq_true_eq, Int.natCast_zero, encC, List.map_cons, List.map_nil] <;> try first | omega | ((repeat' (first | exact And.intro rfl (by omega) | (refine And.intro ?_ ?_))) <;> first | rfl | omega | (congr 3; omega) | (congr 2; omega))
  · rintro ⟨⟨i, tk⟩, hi⟩
    simp only at hi ⊢
    have hql := rowQ_len s i
    by_cases hlt : i < s.size
    · have hb := bt_eq s i
      have hn := UInt8.toNat_lt (s.data.toList.getD i 0)
      have hstep : rowQ s (i + 1) = rowQ s i ++ escI (s.data.toList.getD i 0).toNat := rfl
      have hz1 := sgn_facts ⟨(s.data.toList.getD i 0).toNat, hn⟩
      have hz2 := sgn_at ⟨(s.data.toList.getD i 0).toNat, hn⟩
      simp only at hz1 hz2
      have hesc : escI (s.data.toList.getD i 0).toNat = (escL (s.data.toList.getD i 0).toNat).map fun b => (b.toNat : Int) := rfl
      generalize (s.data.toList.getD i 0).toNat = n at *
      unfold escL at hesc
      generalize Lib.indexByte sgnL n.toUInt8 = z at *
      generalize hx : rowQ s i = l at *
      unfold qS
      simp (implicitDefEqProofs := false) (disch := omega) only [go_sem, simprocAttr, go_sem, Nat.le_refl, Tryd.results8, hs7, hs7m, hb]
      refine p_loop (ι := { p : Nat × Nat // p.1 ≤ 7 }) (fun p => qS2 s i p.1.2 p.1.1 n (zb z p.1.1) (zl z p.1.1 l)) (fun p => 7 - p.1.1) ⟨(0, tk), by simp⟩ ?_ ?_
      · have h0 : zb z 0 = false := zb_f (by omega)
        simp only [qS2, h0, zl_f h0]
        refine ⟨?_, ?_, ?_, ?_, ?_, ?_, ?_⟩ <;> simp only [go_sem, simprocAttr, decide_eq_true_eq, Int.natCast_zero] <;> try first | omega | ((repeat' (first | exact And.intro rfl (by omega) | (refine And.intro ?_ ?_))) <;> first | rfl | omega | (congr 3; omega) | (congr 2; omega))
      · rintro ⟨⟨j, tk⟩, hj⟩
        simp only at hj ⊢
        by_cases hj7 : j < 7
        · have hz3 := hz2 ⟨j, hj7⟩
          simp only at hz3
          have hbj : bt ⟨#[34, 92, 8, 12, 10, 13, 9]⟩ j = ((sgnL.getD j 0).toNat : Int) := rfl
          unfold qS2
          by_cases hzj : z = j
          · have h0 : zb z j = false := zb_f (by omega)
            have h1 : zb z (j + 1) = true := zb_t (by omega)
            have hjz : j = z.toNat := by omega
            rw [zl_f h0, h0]
            have hbm : bt ⟨#[34, 92, 98, 102, 110, 114, 116]⟩ j = ((mrkL.getD z.toNat 0).toNat : Int) := by rw [hjz]; rfl
            simp (implicitDefEqProofs := false) (disch := omega) only [go_sem, simprocAttr, go_sem, Nat.le_refl, Tryd.results8, hs7, hs7m, hbj, decide_eq_true (hz3.2 hzj), hbm]
            refine ⟨⟨(j + 1, tk), hj7⟩, by simp only; omega, ?_⟩
            simp only [h1, zl_t h1, encC_two]
            refine ⟨?_, ?_, ?_, ?_, ?_, ?_, ?_⟩ <;> simp only [go_sem, simprocAttr, decide_eq_true_eq, Int.natCast_add, Int.natCast_one, List.length_append] <;> try first | omega | ((repeat' (first | exact And.intro rfl (by omega) | (refine And.intro ?_ ?_))) <;> first | rfl | omega | (congr 3; omega) | (congr 2; omega))
          · generalize hzl : zl z j l = l2 at *
            generalize hzb : zb z j = b2 at *
            simp (implicitDefEqProofs := false) (disch := omega) only [go_sem, simprocAttr, go_sem, Nat.le_refl, Tryd.results8, hs7, hs7m, hbj, decide_eq_false (fun h => hzj (hz3.1 h))]
            refine ⟨⟨(j + 1, tk), hj7⟩, by simp only; omega, ?_⟩
            simp only [zb_s hzj, zl_s hzj, hzl, hzb]
            refine ⟨?_, ?_, ?_, ?_, ?_, ?_, ?_⟩ <;> simp only [go_sem, simprocAttr, decide_eq_true_eq, Int.natCast_add, Int.natCast_one] <;> try first | omega | ((repeat' (first | exact And.intro rfl (by omega) | (refine And.intro ?_ ?_))) <;> first | rfl | omega | (congr 3; omega) | (congr 2; omega))
        · obtain rfl : j = 7 := by omega
          unfold qS2
          by_cases hz : 0 ≤ z
          · have h1 : zb z 7 = true := zb_t (by omega)
            rw [h1, zl_t h1]
            rw [if_pos hz] at hesc
            have hfin : l ++ [92, ((mrkL.getD z.toNat 0).toNat : Int)] = rowQ s (i + 1) := by rw [hstep, hesc]; rfl
            rw [hfin]
            simp (implicitDefEqProofs := false) (disch := omega) only [go_sem, simprocAttr, go_sem, Nat.le_refl, Tryd.results8, hs7, hs7m]
            refine ⟨⟨(i + 1, tk), hlt⟩, by simp only; omega, ?_⟩
            simp only [qS]
            refine ⟨?_, ?_, ?_, ?_, ?_, ?_, ?_⟩ <;> simp only [go_sem, simprocAttr, decide_eq_true_eq, Int.natCast_add, Int.natCast_one] <;> try first | omega | ((repeat' (first | exact And.intro rfl (by omega) | (refine And.intro ?_ ?_))) <;> first | rfl | omega | (congr 3; omega) | (congr 2; omega))
          · have h1 : zb z 7 = false := zb_f (by omega)
            rw [h1, zl_f h1]
            rw [if_neg hz] at hesc
            by_cases hc : n < 32
            · rw [if_pos hc] at hesc
              have hh : ∀ y : Int, bt ⟨#[48, 49, 50, 51, 52, 53, 54, 55, 56, 57, 97, 98, 99, 100, 101, 102]⟩ y = ((hexL.getD y.toNat 0).toNat : Int) := fun y => rfl
              have hd : ((n : Int).tdiv 16) = ((n / 16 : Nat) : Int) := by rw [tdivE (by omega)]; rfl
              have hmo : ((n : Int).tmod 16) = ((n % 16 : Nat) : Int) := by rw [tmodE (by omega)]; rfl
              have u1 := UInt8.toNat_lt (hexL.getD (n / 16) 0)
              have u2 := UInt8.toNat_lt (hexL.getD (n % 16) 0)
              simp (implicitDefEqProofs := false) (disch := omega) only [go_sem, simprocAttr, go_sem, Nat.le_refl, Tryd.results8, hs7, hs7m, hh, hd, hmo, Int.toNat_natCast, wrap8]
              refine ⟨by show _ < (16 : Int); omega, by show _ < (16 : Int); omega, ?_⟩
              have hfin : l ++ [92, 117, 48, 48, ((hexL.getD (n / 16) 0).toNat : Int), ((hexL.getD (n % 16) 0).toNat : Int)] = rowQ s (i + 1) := by rw [hstep, hesc]; rfl
              rw [encC_six, hfin]
              have hll := congrArg List.length hfin
              rw [List.length_append] at hll
              simp only [List.length_cons, List.length_nil] at hll
              refine ⟨⟨(i + 1, tk), hlt⟩, by simp only; omega, ?_⟩
              simp only [qS]
              refine ⟨?_, ?_, ?_, ?_, ?_, ?_, ?_⟩ <;> simp only [go_sem, simprocAttr, decide_eq_true_eq, Int.natCast_add, Int.natCast_one, hll] <;> try first | omega | ((repeat' (first | exact And.intro rfl (by omega) | (refine And.intro ?_ ?_))) <;> first | rfl | omega | (congr 3; omega) | (congr 2; omega))
            · rw [if_neg hc] at hesc
              have hn8 : n.toUInt8.toNat = n := by
                rw [UInt8.toNat_ofNat']; omega
              have hfin : l ++ [(n : Int)] = rowQ s (i + 1) := by rw [hstep, hesc]; simp only [List.map_cons, List.map_nil, hn8]
              simp (implicitDefEqProofs := false) (disch := omega) only [go_sem, simprocAttr, go_sem, Nat.le_refl, Tryd.results8, hs7, hs7m, hfin]
              have hll := congrArg List.length hfin
              rw [List.length_append, List.length_singleton] at hll
              refine ⟨⟨(i + 1, tk), hlt⟩, by simp only; omega, ?_⟩
              simp only [qS]
              refine ⟨?_, ?_, ?_, ?_, ?_, ?_, ?_⟩ <;> simp only [go_sem, simprocAttr, decide_eq_true_eq, Int.natCast_add, Int.natCast_one, hll] <;> try first | omega | ((repeat' (first | exact And.intro rfl (by omega) | (refine And.intro ?_ ?_))) <;> first | rfl | omega | (congr 3; omega) | (congr 2; omega))
    · have hi' : i = s.size := by omega
      subst hi'
      unfold qS
      simp (implicitDefEqProofs := false) (disch := omega) only [go_sem, simprocAttr, go_sem, Nat.le_refl, Tryd.results8, hs7, hs7m]
      rw [rowQ_end]
      exact hR
end Go.Proofs.YtmfaejdnaippkaaDoor

end
section
/-
  Numbers' texts: the document's Form, Number, Parse; the program's form, Parse, Text.
-/
open Go Go.Proofs Go.Pw
namespace Go.Proofs.YtmfaejdnaippkaaDoor
set_option maxRecDepth 4000
set_option linter.unusedVariables false
set_option linter.unusedSimpArgs false
end Go.Proofs.YtmfaejdnaippkaaDoor

end
section
/-
  Numbers' texts: the document's Number, Parse.
-/
open Go Go.Proofs Go.Pw
namespace Go.Proofs.YtmfaejdnaippkaaDoor
set_option maxRecDepth 4000
set_option linter.unusedVariables false
set_option linter.unusedSimpArgs false
end Go.Proofs.YtmfaejdnaippkaaDoor

end
section
/-
  Numbers' texts: the program's form, Parse, Text.
-/
open Go Go.Proofs Go.Pw
namespace Go.Proofs.YtmfaejdnaippkaaDoor
set_option maxRecDepth 4000
set_option linter.unusedVariables false
set_option linter.unusedSimpArgs false
/-- An integer's text. -/
def sOf (n : Int) : ByteArray := ⟨(Lib.itoa n).toArray⟩
theorem wtext_ok (n : Int) (h : fits n) : Ok Tryd.prog 40 [vI n] (vS (sOf n)) := by
  have c0 := formatInt_ok n h
  refine Ok.of_pwp (by kernel_rfl) Tryd.func40 rfl (by kernel_rfl) (by kernel_rfl) ?_
  simp (implicitDefEqProofs := false) (disch := omega) only [go_sem, simprocAttr, go_sem, Nat.le_refl, Int.toNat_natCast, Int.toNat_zero, Int.toNat_one, str_eq, Tryd.results40]
  with_reducible refine CallOk.of c0 rfl ?_
  simp (implicitDefEqProofs := false) (disch := omega) only [go_sem, simprocAttr, go_sem, Nat.le_refl, Int.toNat_natCast, Int.toNat_zero, Int.toNat_one, str_eq, Tryd.results40]
  rfl
end Go.Proofs.YtmfaejdnaippkaaDoor

end
section
/-
  A number's text, by the document.
-/
open Go Go.Proofs Go.Pw
namespace Go.Proofs.YtmfaejdnaippkaaDoor
set_option maxRecDepth 4000
set_option linter.unusedVariables false
set_option linter.unusedSimpArgs false
/-- The last so many digits. -/
def padD : Nat → Nat → List UInt8
  | _, 0 => []
  | n, k + 1 => padD (n / 10) k ++ [UInt8.ofNat (48 + n % 10)]
theorem padD_front : ∀ (k n : Nat), padD n (k + 1) = UInt8.ofNat (48 + n / 10 ^ k % 10) :: padD n k
  | 0, n => by simp [padD]
  | k + 1, n => by
    rw [padD, padD_front k (n / 10), padD, List.cons_append, Nat.div_div_eq_div_mul, Nat.pow_succ, Nat.mul_comm 10]
theorem padD_len : ∀ (k n : Nat), (padD n k).length = k
  | 0, _ => rfl
  | k + 1, n => by simp [padD, padD_len k]
theorem decD_pad (n : Nat) : Lib.decDigits n = padD n (Lib.nDigits n) := by
  induction n using Nat.strongRecOn with
  | _ n ih =>
    by_cases h : n < 10
    · rw [Lib.decDigits, dif_pos h, Lib.nDigits_small h]
      simp [padD, Nat.mod_eq_of_lt h]
    · rw [Lib.decDigits, dif_neg h, Lib.nDigits_big h, padD, ih (n / 10) (by omega)]
theorem nD_gt : ∀ (t n : Nat), 0 < n → (t < Lib.nDigits n ↔ 10 ^ t ≤ n)
  | 0, n, h => by
    have := Lib.nDigits_pos n
    simp; omega
  | t + 1, n, h => by
    by_cases hn : n < 10
    · rw [Lib.nDigits_small hn, Nat.pow_succ]
      have : 0 < 10 ^ t := Nat.pow_pos (by decide)
      omega
    · rw [Lib.nDigits_big hn, Nat.pow_succ, ← Nat.le_div_iff_mul_le (by decide), ← nD_gt t (n / 10) (by omega)]
      omega
theorem figs_get : ∀ (i n : Nat), (figs n).getD i 0 = ((n / 10000 ^ i % 10000 : Nat) : Int)
  | i, n => by
    by_cases h : n = 0
    · subst h; rw [figs_zero]; simp
    · rw [figs_step n h]
      cases i with
      | zero => simp
      | succ i =>
        rw [List.getD_cons_succ, figs_get i (n / 10000), Nat.div_div_eq_div_mul, Nat.pow_succ, Nat.mul_comm 10000]
theorem p4 (i : Nat) : 10000 ^ i = 10 ^ (4 * i) := by rw [Nat.pow_mul]
/-- More figures: more digits. -/
theorem figs_more {n i : Nat} (h : i < (figs n).length) : 10 ^ (4 * i) ≤ n := by
  have hn : n ≠ 0 := fun e => by subst e; rw [figs_zero] at h; cases h
  have g := figs_len_ge n hn
  have : (10000 : Int) ^ i ≤ 10000 ^ ((figs n).length - 1) := pow_le' (by omega)
  have e : ((10000 ^ i : Nat) : Int) = (10000 : Int) ^ i := by simp
  rw [← p4]
  omega
theorem figs_top {n : Nat} : n < 10 ^ (4 * (figs n).length) := by
  have h := valF_fg (figs_digs n)
  rw [figs_val] at h
  unfold Fg at h
  rw [← p4]
  simpa using h
/-- The digits behind a place: the text so far. -/
def tT (n t : Nat) : ByteArray := ⟨(padD n (min t (Lib.nDigits n))).toArray⟩
theorem tT_end {n t : Nat} (h : Lib.nDigits n ≤ t) : tT n t = ⟨(Lib.decDigits n).toArray⟩ := by
  unfold tT
  rw [Nat.min_eq_right h, decD_pad]
theorem tT_same {n t : Nat} (h : Lib.nDigits n ≤ t) : tT n (t + 1) = tT n t := by
  rw [tT_end h, tT_end (by omega)]
theorem tT_size (n t : Nat) : (tT n t).size = min t (Lib.nDigits n) := by
  show (padD n _).toArray.size = _
  simp [padD_len]
/-- A digit. -/
def oneD (d : Nat) : ByteArray := (⟨#[48, 49, 50, 51, 52, 53, 54, 55, 56, 57]⟩ : ByteArray).extract d (d + 1)
theorem oneD_eq {d : Nat} (h : d < 10) : oneD d = ⟨#[UInt8.ofNat (48 + d)]⟩ := by
  match d, h with
  | 0, _ => rfl
  | 1, _ => rfl
  | 2, _ => rfl
  | 3, _ => rfl
  | 4, _ => rfl
  | 5, _ => rfl
  | 6, _ => rfl
  | 7, _ => rfl
  | 8, _ => rfl
  | 9, _ => rfl
theorem tT_step {n t : Nat} (h : t < Lib.nDigits n) : oneD (n / 10 ^ t % 10) ++ tT n t = tT n (t + 1) := by
  rw [oneD_eq (Nat.mod_lt _ (by decide))]
  unfold tT
  rw [Nat.min_eq_left (by omega), Nat.min_eq_left (by omega), padD_front]
  apply ByteArray.ext
  simp
theorem sOf_zero : sOf 0 = ⟨#[48]⟩ := by
  unfold sOf Lib.itoa
  rw [if_neg (by decide), Int.toNat_zero, decD_pad, Lib.nDigits_small (by decide)]
  rfl
theorem sOf_pos {n : Int} (h : 0 ≤ n) : sOf n = ⟨(Lib.decDigits n.natAbs).toArray⟩ := by
  unfold sOf Lib.itoa
  rw [if_neg (by omega), show n.toNat = n.natAbs by omega]
theorem sOf_neg {n : Int} (h : n < 0) : (⟨#[45]⟩ : ByteArray) ++ ⟨(Lib.decDigits n.natAbs).toArray⟩ = sOf n := by
  unfold sOf Lib.itoa
  rw [if_pos h]
  apply ByteArray.ext
  simp
set_option maxHeartbeats 4000000 in
theorem rtext_ok (n : Int) (hn : fits n) : Ok Tryd.prog 59 [repN n] (vS (sOf n)) := by
  obtain ⟨F, hF⟩ : ∃ F, F = figs n.natAbs := ⟨_, rfl⟩
  obtain ⟨N, hN⟩ : ∃ N, N = n.natAbs := ⟨_, rfl⟩
  rw [← hN] at hF
  have hlen : F.length ≤ 5 := by rw [hF]; exact figs_len 5 _ (by rw [hN]; exact Fg.of_fits hn)
  have eq0 : repN n = .agg [vB (decide (n < 0)), .sl (encI F)] := by rw [hF, hN]; rfl
  rw [eq0]
  refine Ok.of_pwp (by kernel_rfl) Tryd.func59 rfl (by kernel_rfl) (by kernel_rfl) ?_
  by_cases h0 : N = 0
  · have hn0 : n = 0 := by omega
    subst hn0
    have : F = [] := by rw [hF, h0, figs_zero]
    subst this
    rw [sOf_zero]
    simp (implicitDefEqProofs := false) (disch := omega) only [go_sem, simprocAttr, go_sem, Nat.le_refl, Int.toNat_natCast, Int.toNat_zero, Int.toNat_one, encI_len, ↓ix_enc, Tryd.results59]
  have hl0 : 0 < F.length := by rw [hF]; exact (figs_pos N).2 (by omega)
  have hl0' : ¬ (F.length : Int) = 0 := by omega
  have hD : Lib.nDigits N ≤ 4 * F.length := by
    have h1 := figs_top (n := N)
    rw [← hF] at h1
    have h2 := nD_gt (4 * F.length) N (by omega)
    omega
  simp (implicitDefEqProofs := false) (disch := omega) only [go_sem, simprocAttr, go_sem, Nat.le_refl, Int.toNat_natCast, Int.toNat_zero, Int.toNat_one, encI_len, ↓ix_enc, Tryd.results59]
  refine p_loop (ι := { i : Nat // i ≤ F.length }) (fun i => ⟨[(14, vI i.1), (13, vI F.length), (3, vS (tT N (4 * i.1))), (1, .ptr 0 0)], [(0, .box 101 [vB (decide (n < 0)), .sl (encI F)])], [], 1, 0⟩) (fun i => F.length - i.1) ⟨0, Nat.zero_le _⟩ ?_ ?_
  · have e : tT N (4 * 0) = ⟨#[]⟩ := by unfold tT; rw [Nat.mul_zero, Nat.zero_min]; rfl
    rw [e]
    refine ⟨?_, ?_, ?_, ?_, ?_, ?_, ?_⟩ <;> simp only [go_sem, simprocAttr, decide_eq_true_eq, Int.natCast_zero] <;> try first | omega | ((repeat' (first | exact And.intro rfl (by omega) | (refine And.intro ?_ ?_))) <;> first | rfl | omega | (congr 3; omega) | (congr 2; omega))
  · rintro ⟨i, hi⟩
    simp only
    by_cases hil : i < F.length
    · have ef : F.getD i 0 = ((N / 10 ^ (4 * i + 0) % 10 ^ (4 - 0) : Nat) : Int) := by rw [hF, figs_get, p4, Nat.add_zero]
      have efr : N / 10 ^ (4 * i + 0) % 10 ^ (4 - 0) < 10000 := Nat.mod_lt _ (by decide)
      simp (implicitDefEqProofs := false) (disch := omega) only [go_sem, simprocAttr, go_sem, Nat.le_refl, Int.toNat_natCast, Int.toNat_zero, Int.toNat_one, encI_len, ↓ix_enc, Tryd.results59]
      rw [ef]
      refine p_loop (ι := { k : Nat // k ≤ 4 }) (fun k => ⟨[(6, vI k.1), (5, vI ((N / 10 ^ (4 * i + k.1) % 10 ^ (4 - k.1) : Nat) : Int)), (4, vI i), (3, vS (tT N (4 * i + k.1))), (14, vI i), (13, vI F.length), (1, .ptr 0 0)], [(0, .box 101 [vB (decide (n < 0)), .sl (encI F)])], [], 1, 0⟩) (fun k => 4 - k.1) ⟨0, by decide⟩ ?_ ?_
      · refine ⟨?_, ?_, ?_, ?_, ?_, ?_, ?_⟩ <;> simp only [go_sem, simprocAttr, decide_eq_true_eq, Int.natCast_zero, Nat.add_zero] <;> try first | omega | ((repeat' (first | exact And.intro rfl (by omega) | (refine And.intro ?_ ?_))) <;> first | rfl | omega | (congr 3; omega) | (congr 2; omega))
      · rintro ⟨k, hk⟩
        simp only
        by_cases hk4 : k < 4
        · obtain ⟨f, hf⟩ : ∃ f, f = N / 10 ^ (4 * i + k) % 10 ^ (4 - k) := ⟨_, rfl⟩
          have hp : 10 ^ (4 - k) = 10 * 10 ^ (4 - (k + 1)) := by rw [show 4 - k = (4 - (k + 1)) + 1 by omega, Nat.pow_succ]; omega
          have hp4 : 10 ^ (4 - k) ≤ 10 ^ 4 := Nat.pow_le_pow_right (by decide) (by omega)
          have hp0 : 0 < 10 ^ (4 - k) := Nat.pow_pos (by decide)
          have hfr : f < 10 ^ (4 - k) := by rw [hf]; exact Nat.mod_lt _ hp0
          have hfr' : f < 10000 := Nat.lt_of_lt_of_le hfr hp4
          have hm : (f : Int).tmod 10 = ((f % 10 : Nat) : Int) := by rw [Int.tmod_eq_emod_of_nonneg (by omega)]; omega
          have hd : (f : Int).tdiv 10 = ((f / 10 : Nat) : Int) := by rw [Int.tdiv_eq_ediv_of_nonneg (by omega)]; omega
          have hd2 : f / 10 = N / 10 ^ (4 * i + (k + 1)) % 10 ^ (4 - (k + 1)) := by
            rw [hf, hp, Nat.mod_mul_right_div_self, Nat.div_div_eq_div_mul, ← Nat.pow_succ]; rfl
          have hm2 : f % 10 = N / 10 ^ (4 * i + k) % 10 := by
            rw [hf, hp, Nat.mod_mul_right_mod]
          have hm9 : f % 10 < 10 := Nat.mod_lt _ (by decide)
          have e3 : (((f % 10 : Nat) : Int) + 1).toNat = f % 10 + 1 := by omega
          have hts : (tT N (4 * i + k)).size ≤ 1000 := by rw [tT_size]; omega
          rw [← hf]
          by_cases hx : 0 < f
          · have ht : 4 * i + k < Lib.nDigits N := by
              rw [nD_gt _ _ (by omega)]
              apply Decidable.byContradiction
              intro hc
              rw [Nat.div_eq_of_lt (by omega), Nat.zero_mod] at hf
              omega
            have e4 : (⟨#[48, 49, 50, 51, 52, 53, 54, 55, 56, 57]⟩ : ByteArray).extract (f % 10) (f % 10 + 1) ++ tT N (4 * i + k) = tT N (4 * i + (k + 1)) := by rw [hm2]; exact tT_step ht
            simp (implicitDefEqProofs := false) (disch := omega) only [go_sem, simprocAttr, go_sem, Nat.le_refl, Int.toNat_natCast, Int.toNat_zero, Int.toNat_one, encI_len, ↓ix_enc, Tryd.results59, hm, hd, e3]
            refine ⟨by simp only [List.size_toArray, List.length_cons, List.length_nil]; omega, by rw [ByteArray.size_extract]; omega, ⟨k + 1, by omega⟩, by show 4 - (k + 1) < 4 - k; omega, ?_⟩
            rw [e4, hd2]
            refine ⟨?_, ?_, ?_, ?_, ?_, ?_, ?_⟩ <;> simp only [go_sem, simprocAttr, decide_eq_true_eq, Int.natCast_add, Int.cast_ofNat_Int] <;> try first | omega | ((repeat' (first | exact And.intro rfl (by omega) | (refine And.intro ?_ ?_))) <;> first | rfl | omega | (congr 3; omega) | (congr 2; omega))
          · have hf0 : f = 0 := by omega
            by_cases hy : i + 1 < F.length
            · have ht : 4 * i + k < Lib.nDigits N := by
                rw [nD_gt _ _ (by omega)]
                have h1 := figs_more (n := N) (i := i + 1) (by rw [← hF]; exact hy)
                exact Nat.le_trans (Nat.pow_le_pow_right (by decide) (by omega)) h1
              have e4 : (⟨#[48, 49, 50, 51, 52, 53, 54, 55, 56, 57]⟩ : ByteArray).extract (f % 10) (f % 10 + 1) ++ tT N (4 * i + k) = tT N (4 * i + (k + 1)) := by rw [hm2]; exact tT_step ht
              simp (implicitDefEqProofs := false) (disch := omega) only [go_sem, simprocAttr, go_sem, Nat.le_refl, Int.toNat_natCast, Int.toNat_zero, Int.toNat_one, encI_len, ↓ix_enc, Tryd.results59, hm, hd, e3, hx, hy]
              refine ⟨by simp only [List.size_toArray, List.length_cons, List.length_nil]; omega, by rw [ByteArray.size_extract]; omega, ⟨k + 1, by omega⟩, by show 4 - (k + 1) < 4 - k; omega, ?_⟩
              rw [e4, hd2]
              refine ⟨?_, ?_, ?_, ?_, ?_, ?_, ?_⟩ <;> simp only [go_sem, simprocAttr, decide_eq_true_eq, Int.natCast_add, Int.cast_ofNat_Int] <;> try first | omega | ((repeat' (first | exact And.intro rfl (by omega) | (refine And.intro ?_ ?_))) <;> first | rfl | omega | (congr 3; omega) | (congr 2; omega))
            · have ht : Lib.nDigits N ≤ 4 * i + k := by
                have h1 := (nD_gt (4 * i + k) N (by omega)).1
                apply Decidable.byContradiction
                intro hc
                have h2 := h1 (by omega)
                have h3 := figs_top (n := N)
                rw [← hF, show F.length = i + 1 by omega] at h3
                have h4 : N / 10 ^ (4 * i + k) < 10 ^ (4 - k) := by
                  rw [Nat.div_lt_iff_lt_mul (Nat.pow_pos (by decide)), ← Nat.pow_add]
                  rw [show 4 - k + (4 * i + k) = 4 * (i + 1) by omega]
                  exact h3
                rw [Nat.mod_eq_of_lt h4] at hf
                have := (Nat.le_div_iff_mul_le (Nat.pow_pos (by decide : 0 < 10) : 0 < 10 ^ (4 * i + k)) (x := 1) (y := N)).2 (by omega)
                omega
              have e4 : tT N (4 * i + k) = tT N (4 * i + (k + 1)) := (tT_same ht).symm
              simp (implicitDefEqProofs := false) (disch := omega) only [go_sem, simprocAttr, go_sem, Nat.le_refl, Int.toNat_natCast, Int.toNat_zero, Int.toNat_one, encI_len, ↓ix_enc, Tryd.results59, hm, hd, e3, hx, hy]
              refine ⟨⟨k + 1, by omega⟩, by show 4 - (k + 1) < 4 - k; omega, ?_⟩
              rw [e4, hd2]
              refine ⟨?_, ?_, ?_, ?_, ?_, ?_, ?_⟩ <;> simp only [go_sem, simprocAttr, decide_eq_true_eq, Int.natCast_add, Int.cast_ofNat_Int] <;> try first | omega | ((repeat' (first | exact And.intro rfl (by omega) | (refine And.intro ?_ ?_))) <;> first | rfl | omega | (congr 3; omega) | (congr 2; omega))
        · have hk4' : k = 4 := by omega
          subst hk4'
          simp (implicitDefEqProofs := false) (disch := omega) only [go_sem, simprocAttr, go_sem, Nat.le_refl, Int.toNat_natCast, Int.toNat_zero, Int.toNat_one, encI_len, ↓ix_enc, Tryd.results59]
          refine ⟨⟨i + 1, by omega⟩, by show F.length - (i + 1) < F.length - i; omega, ?_⟩
          rw [show tT N (4 * i + 4) = tT N (4 * (i + 1)) by rw [Nat.mul_add]]
          refine ⟨?_, ?_, ?_, ?_, ?_, ?_, ?_⟩ <;> simp only [go_sem, simprocAttr, decide_eq_true_eq, Int.natCast_add, Int.cast_ofNat_Int] <;> try first | omega | ((repeat' (first | exact And.intro rfl (by omega) | (refine And.intro ?_ ?_))) <;> first | rfl | omega | (congr 3; omega) | (congr 2; omega))
    · have hil' : i = F.length := by omega
      subst hil'
      rw [tT_end hD]
      by_cases hb : n < 0
      · rw [← sOf_neg hb]
        simp (implicitDefEqProofs := false) (disch := omega) only [go_sem, simprocAttr, go_sem, Nat.le_refl, Int.toNat_natCast, Int.toNat_zero, Int.toNat_one, encI_len, ↓ix_enc, Tryd.results59, hb]
        rw [hN]
        have hz : (Lib.decDigits N).toArray.size ≤ 1000 := by
          have := tT_size N (Lib.nDigits N)
          rw [tT_end (Nat.le_refl _)] at this
          have e : (⟨(Lib.decDigits N).toArray⟩ : ByteArray).size = (Lib.decDigits N).toArray.size := rfl
          omega
        rw [hN] at hz
        exact ⟨by simp only [List.size_toArray, List.length_cons, List.length_nil] at hz ⊢; omega, rfl⟩
      · rw [sOf_pos (by omega)]
        simp (implicitDefEqProofs := false) (disch := omega) only [go_sem, simprocAttr, go_sem, Nat.le_refl, Int.toNat_natCast, Int.toNat_zero, Int.toNat_one, encI_len, ↓ix_enc, Tryd.results59, hb]
        rw [hN]
end Go.Proofs.YtmfaejdnaippkaaDoor

end
section
/-
  An integer's text is a number's text, and says it.
-/
open Go Go.Proofs Go.Pw
namespace Go.Proofs.YtmfaejdnaippkaaDoor
set_option maxRecDepth 4000
set_option linter.unusedVariables false
set_option linter.unusedSimpArgs false
def dS (n : Nat) : ByteArray := ⟨(Lib.decDigits n).toArray⟩
theorem bt_arr (l : List UInt8) (i : Nat) : bt ⟨l.toArray⟩ i = ((l.getD i 0).toNat : Int) := rfl
theorem dD_len (n : Nat) : (Lib.decDigits n).length = Lib.nDigits n := by rw [decD_pad, padD_len]
theorem dS_size (n : Nat) : (dS n).size = Lib.nDigits n := dD_len n
theorem dig_nat {d : Nat} (h : d < 10) : (UInt8.ofNat (48 + d)).toNat = 48 + d := by
  rw [UInt8.toNat_ofNat']
  omega
theorem padD_get : ∀ (k n j : Nat), j < k → ((padD n k).getD j 0).toNat = 48 + n / 10 ^ (k - 1 - j) % 10
  | 0, _, _, h => absurd h (by omega)
  | k + 1, n, j, h => by
    rw [padD_front]
    cases j with
    | zero =>
      rw [List.getD_cons_zero, dig_nat (Nat.mod_lt _ (by decide))]; rfl
    | succ j =>
      rw [List.getD_cons_succ, padD_get k n j (by omega), show k + 1 - 1 - (j + 1) = k - 1 - j by omega]
theorem dS_bt {n j : Nat} (h : j < Lib.nDigits n) : bt (dS n) j = ((48 + n / 10 ^ (Lib.nDigits n - 1 - j) % 10 : Nat) : Int) := by
  unfold dS
  rw [bt_arr, decD_pad, padD_get _ _ _ h]
theorem dS_all (n : Nat) : allD (dS n) 0 := by
  intro j hj _
  rw [dS_size] at hj
  rw [dS_bt hj]
  have := Nat.mod_lt (n / 10 ^ (Lib.nDigits n - 1 - j)) (show 0 < 10 by decide)
  unfold isD
  omega
theorem sOf_size (n : Int) (h : fits n) : (sOf n).size ≤ 21 := by
  show (Lib.itoa n).toArray.size ≤ 21
  rw [List.size_toArray]
  exact Lib.itoa_length_le n h.1 h.2
end Go.Proofs.YtmfaejdnaippkaaDoor

end
section
/-
  glyph.Valid; the points of points' bytes.
-/
open Go Go.Proofs Go.Pw Go.RowKit
namespace Go.Proofs.YtmfaejdnaippkaaDoor
set_option maxRecDepth 4000
set_option linter.unusedVariables false
set_option linter.unusedSimpArgs false
theorem v1_ok (n : Int) : Ok Tryd.prog 63 [vI n] (.tup []) := by
  refine Ok.of_pwp (by kernel_rfl) Tryd.func63 rfl (by kernel_rfl) (by kernel_rfl) ?_
  simp (implicitDefEqProofs := false) (disch := omega) only [go_sem, simprocAttr, go_sem, Nat.le_refl, ↓ix_enc, encI_len, Tryd.results63]
set_option maxHeartbeats 4000000 in
theorem walk0_ok (s : ByteArray) (hs : s.size ≤ 1000000) : Ok Tryd.prog 62 [vS s, .fn 63 []] (vI (scan s 0).2) := by
  refine Ok.of_pwp (by kernel_rfl) Tryd.func62 rfl (by kernel_rfl) (by kernel_rfl) ?_
  generalize hr : (scan s 0).2 = rr
  simp (implicitDefEqProofs := false) (disch := omega) only [go_sem, simprocAttr, go_sem, Nat.le_refl, ↓ix_enc, encI_len, Tryd.results62]
  refine p_loop (ι := { i : Nat // i ≤ s.size ∧ rr = (scan s i).2 })
    (fun p => ⟨[(5, vI p.1), (0, vS s), (1, .fn 63 [])], [], [], 0, 0⟩) (fun p => s.size - p.1) ⟨0, Nat.zero_le _, hr.symm⟩ ?_ ?_
  · refine ⟨?_, ?_, ?_, ?_, ?_, ?_, ?_⟩ <;> simp only [go_sem, simprocAttr, decide_eq_true_eq, Int.natCast_zero] <;> try first | omega | ((repeat' (first | exact And.intro rfl (by omega) | (refine And.intro ?_ ?_))) <;> first | rfl | omega | (congr 3; omega) | (congr 2; omega))
  · rintro ⟨i, h1, h5⟩
    simp only at h1 h5 ⊢
    simp (implicitDefEqProofs := false) (disch := omega) only [go_sem, simprocAttr, go_sem, Nat.le_refl, ↓ix_enc, encI_len, Tryd.results62]
    with_reducible refine ifK_split (fun hlt => ?_) (fun hge => ?_)
    · have hlt' : i < s.size := by omega
      have d := decode_ok0 (s.extract i s.size) (by rw [Lib.tail_size]; omega)
      rw [decF_tail hlt'] at d
      simp (implicitDefEqProofs := false) (disch := omega) only [go_sem, simprocAttr, go_sem, Nat.le_refl, ↓ix_enc, encI_len, Tryd.results62]
      by_cases hb : Utf8.decode s i = (65533, 1)
      · rw [hb] at d
        rw [scan_bad hlt' hb] at h5
        simp only [goodN, if_true] at d
        with_reducible refine CallOk.of d rfl ?_
        simp (implicitDefEqProofs := false) (disch := omega) only [go_sem, simprocAttr, go_sem, Nat.le_refl, ↓ix_enc, encI_len, Tryd.results62]
        rw [h5]
      · rw [goodN, if_neg hb] at d
        have hp := dec_pos s i hlt'
        rw [scan_step hlt' hb] at h5
        generalize Utf8.decode s i = q at *
        with_reducible refine CallOk.of d rfl ?_
        have hd0 : ¬ ((q.2 : Int) = 0) := by omega
        simp (implicitDefEqProofs := false) (disch := omega) only [go_sem, simprocAttr, go_sem, Nat.le_refl, ↓ix_enc, encI_len, Tryd.results62]
        with_reducible refine CallOk.of (v1_ok _) rfl ?_
        simp (implicitDefEqProofs := false) (disch := omega) only [go_sem, simprocAttr, go_sem, Nat.le_refl, ↓ix_enc, encI_len, Tryd.results62]
        refine ⟨⟨i + q.2, by omega, h5⟩, by simp only; omega, ?_⟩
        refine ⟨?_, ?_, ?_, ?_, ?_, ?_, ?_⟩ <;> simp only [go_sem, simprocAttr, decide_eq_true_eq, Int.natCast_add] <;> try first | omega | ((repeat' (first | exact And.intro rfl (by omega) | (refine And.intro ?_ ?_))) <;> first | rfl | omega | (congr 3; omega) | (congr 2; omega))
    · rw [scan_end (by omega)] at h5
      simp (implicitDefEqProofs := false) (disch := omega) only [go_sem, simprocAttr, go_sem, Nat.le_refl, ↓ix_enc, encI_len, Tryd.results62]
      rw [h5]
def validF (s : ByteArray) : PV := if (scan s 0).2 = s.size then .tup [vI 0, vB true] else .tup [vI (scan s 0).2, vB false]
theorem valid_ok (s : ByteArray) (hs : s.size ≤ 1000000) : Ok Tryd.prog 47 [vS s] (validF s) := by
  refine Ok.of_pwp (by kernel_rfl) Tryd.func47 rfl (by kernel_rfl) (by kernel_rfl) ?_
  unfold validF
  have hl := scan_len s 0 (Nat.zero_le _)
  have w0 := walk0_ok s hs
  simp (implicitDefEqProofs := false) (disch := omega) only [go_sem, simprocAttr, go_sem, Nat.le_refl, ↓ix_enc, encI_len, Tryd.results47]
  with_reducible refine CallOk.of w0 rfl ?_
  simp (implicitDefEqProofs := false) (disch := omega) only [go_sem, simprocAttr, go_sem, Nat.le_refl, ↓ix_enc, encI_len, Tryd.results47]
  with_reducible refine ifK_split (fun hlt => ?_) (fun hge => ?_)
  · rw [if_neg (by omega)]
    simp (implicitDefEqProofs := false) (disch := omega) only [go_sem, simprocAttr, go_sem, Nat.le_refl, ↓ix_enc, encI_len, Tryd.results47]
  · rw [if_pos (by omega)]
    simp (implicitDefEqProofs := false) (disch := omega) only [go_sem, simprocAttr, go_sem, Nat.le_refl, ↓ix_enc, encI_len, Tryd.results47]
end Go.Proofs.YtmfaejdnaippkaaDoor

end
section
/-
  Texts: lists of them, their order, slices.BinarySearch over them; value.text.
-/
open Go Go.Proofs Go.Pw Go.RowKit
namespace Go.Proofs.YtmfaejdnaippkaaDoor
set_option maxRecDepth 4000
set_option linter.unusedVariables false
set_option linter.unusedSimpArgs false
def encT (l : List ByteArray) : List (List PV) := l.map fun s => [vS s]
theorem encT_len (l : List ByteArray) : (encT l).length = l.length := by simp [encT]
theorem encT_get (l : List ByteArray) (i : Nat) : (encT l).getD i [] = if i < l.length then [vS (l.getD i ByteArray.empty)] else [] := by
  unfold encT
  by_cases h : i < l.length
  · simp [h, List.getD_eq_getElem?_getD]
  · rw [if_neg h, List.getD_eq_getElem?_getD, List.getElem?_eq_none (by simpa using h)]; rfl
theorem encT_take (l : List ByteArray) (n : Nat) : (encT l).take n = encT (l.take n) := by simp [encT, List.map_take]
theorem encT_drop (l : List ByteArray) (n : Nat) : (encT l).drop n = encT (l.drop n) := by simp [encT, List.map_drop]
theorem encT_nil : encT [] = [] := rfl
theorem ix_T {a : List ByteArray} {i : Int} {K : PV → Prop} (h0 : 0 ≤ i) (h1 : i < (a.length : Int)) : ixP 1 i K (.sl (encT a)) = K (.fp [vS (a.getD i.toNat ByteArray.empty)]) := by
  have h : i.toNat < a.length := by omega
  simp only [ixP, encT_get, if_pos h, encT_len, List.length_singleton, h0, h1, true_and]
theorem ix_Tr {a : List ByteArray} {i : Int} {k : Nat} {K : PV → Prop} (h0 : 0 ≤ i) (h1 : i < (a.length : Int)) : ixP 1 i K (.row k (encT a)) = K (.fp [vS (a.getD i.toNat ByteArray.empty)]) := by
  have h : i.toNat < a.length := by omega
  simp only [ixP, encT_get, if_pos h, encT_len, List.length_singleton, h0, h1, true_and]
theorem encT_all (l : List ByteArray) : (∀ x ∈ encT l, x.length = 1) = True := eq_true (fun x hx => by
  obtain ⟨n, _, rfl⟩ := List.mem_map.1 hx
  rfl)
theorem fz_encT : ∀ (l : List ByteArray), fzLL (encT l) = some (encT l)
  | [] => rfl
  | x :: r => by
    have ih := fz_encT r
    unfold encT at ih ⊢
    rw [List.map_cons, fzLL, ih]
    rfl
attribute [go_sem ↓ 2000] ix_T ix_Tr
attribute [go_sem] encT_len encT_all fz_encT
/-- Ahead, of texts. -/
def ltT (a b : ByteArray) : Bool := Op.bytesLess a.data.toList b.data.toList
theorem ltT_lt (a b : ByteArray) : ltT a b = true ↔ a.data.toList < b.data.toList := by unfold ltT; rw [bytesLess_eq]; simp
theorem byte_ext {a b : ByteArray} (h : a.data.toList = b.data.toList) : a = b := by cases a; cases b; simp at h; rw [h]
theorem ltT_trans {a b c : ByteArray} (h : ltT a b = true) (k : ltT b c = true) : ltT a c = true := (ltT_lt _ _).2 (List.lt_trans ((ltT_lt _ _).1 h) ((ltT_lt _ _).1 k))
theorem ltT_tri (a b : ByteArray) : ltT a b = true ∨ a = b ∨ ltT b a = true := by
  rcases Decidable.em (a.data.toList < b.data.toList) with h | h
  · exact .inl ((ltT_lt _ _).2 h)
  · rcases Decidable.em (b.data.toList < a.data.toList) with k | k
    · exact .inr (.inr ((ltT_lt _ _).2 k))
    · exact .inr (.inl (byte_ext (List.le_antisymm (List.not_lt.1 k) (List.not_lt.1 h))))
theorem isNaNc_ok (s : ByteArray) : Ok Tryd.prog 64 [vS s] (vB false) := by
  refine Ok.of_pwp (by kernel_rfl) Tryd.func64 rfl (by kernel_rfl) (by kernel_rfl) ?_
  simp (implicitDefEqProofs := false) (disch := omega) only [go_sem, simprocAttr, go_sem, Nat.le_refl, Tryd.results64]
theorem isNaNs_ok (s : ByteArray) : Ok Tryd.prog 49 [vS s] (vB false) := by
  refine Ok.of_pwp (by kernel_rfl) Tryd.func49 rfl (by kernel_rfl) (by kernel_rfl) ?_
  simp (implicitDefEqProofs := false) (disch := omega) only [go_sem, simprocAttr, go_sem, Nat.le_refl, Tryd.results49]
theorem lessT_ok (a b : ByteArray) : Ok Tryd.prog 48 [vS a, vS b] (vB (ltT a b)) := by
  refine Ok.of_pwp (by kernel_rfl) Tryd.func48 rfl (by kernel_rfl) (by kernel_rfl) ?_
  unfold ltT
  simp (implicitDefEqProofs := false) (disch := omega) only [go_sem, simprocAttr, go_sem, Nat.le_refl, Tryd.results48]
  with_reducible refine CallOk.of (isNaNc_ok a) rfl ?_
  simp (implicitDefEqProofs := false) (disch := omega) only [go_sem, simprocAttr, go_sem, Nat.le_refl, Tryd.results48]
/-- Where a text stands, or would. -/
def posT (l : List ByteArray) (t : ByteArray) : Nat := (l.takeWhile fun s => ltT s t).length
def foundT (l : List ByteArray) (t : ByteArray) : Bool := decide (posT l t < l.length) && decide (l.getD (posT l t) ByteArray.empty = t)
def SortT (l : List ByteArray) : Prop := l.Pairwise fun a b => ltT a b = true
theorem posT_le (l : List ByteArray) (t : ByteArray) : posT l t ≤ l.length := (List.takeWhile_sublist _).length_le
theorem posT_of {l : List ByteArray} {t : ByteArray} {i : Nat} (hi : i ≤ l.length) (h1 : ∀ k, k < i → ltT (l.getD k ByteArray.empty) t = true) (h2 : i < l.length → ltT (l.getD i ByteArray.empty) t = false) : posT l t = i := by
  unfold posT
  induction l generalizing i with
  | nil => simp at hi ⊢; omega
  | cons x r ih =>
    cases i with
    | zero =>
      have := h2 (by simp)
      simp at this
      rw [List.takeWhile_cons, this]
      rfl
    | succ i =>
      have h0 := h1 0 (by omega)
      simp at h0
      rw [List.takeWhile_cons, h0]
      simp only [if_true, List.length_cons]
      rw [ih (i := i) (by simp at hi; omega) (fun k hk => by have := h1 (k + 1) (by omega); simpa using this) (fun hk => by have := h2 (by simp; omega); simpa using this)]
theorem SortT.get {l : List ByteArray} (h : SortT l) {i j : Nat} (hij : i < j) (hj : j < l.length) : ltT (l.getD i ByteArray.empty) (l.getD j ByteArray.empty) = true := by
  have := List.pairwise_iff_getElem.1 h i j (by omega) hj hij
  rw [List.getD_eq_getElem?_getD, List.getD_eq_getElem?_getD, List.getElem?_eq_getElem (by omega), List.getElem?_eq_getElem hj]
  exact this
set_option maxHeartbeats 4000000 in
theorem bs_ok (l : List ByteArray) (t : ByteArray) (hs : SortT l) (hl : l.length ≤ 1000000000) : Ok Tryd.prog 32 [.sl (encT l), vS t] (.tup [vI (posT l t), vB (foundT l t)]) := by
  refine Ok.of_pwp (by kernel_rfl) Tryd.func32 rfl (by kernel_rfl) (by kernel_rfl) ?_
  simp (implicitDefEqProofs := false) (disch := omega) only [go_sem, simprocAttr, go_sem, Nat.le_refl, Tryd.results32]
  refine p_loop (ι := { p : Nat × Nat // p.1 ≤ p.2 ∧ p.2 ≤ l.length ∧ (∀ k, k < p.1 → ltT (l.getD k ByteArray.empty) t = true) ∧ (∀ k, p.2 ≤ k → k < l.length → ltT (l.getD k ByteArray.empty) t = false) })
    (fun p => ⟨[(7, vI p.1.1), (8, vI p.1.2), (6, vI l.length), (0, .sl (encT l)), (1, vS t)], [], [], 0, 0⟩) (fun p => p.1.2 - p.1.1) ⟨(0, l.length), Nat.zero_le _, Nat.le_refl _, fun k h => absurd h (Nat.not_lt_zero _), fun k h h' => absurd h' (by simp only at h; omega)⟩ ?_ ?_
  · refine ⟨?_, ?_, ?_, ?_, ?_, ?_, ?_⟩ <;> simp only [go_sem, simprocAttr, decide_eq_true_eq, Int.natCast_zero] <;> try first | omega | ((repeat' (first | exact And.intro rfl (by omega) | (refine And.intro ?_ ?_))) <;> first | rfl | omega | (congr 3; omega) | (congr 2; omega))
  · rintro ⟨⟨i, j⟩, h1, h2, h3, h4⟩
    simp only at h1 h2 h3 h4 ⊢
    simp (implicitDefEqProofs := false) (disch := omega) only [go_sem, simprocAttr, go_sem, Nat.le_refl, Tryd.results32]
    with_reducible refine ifK_split (fun hlt => ?_) (fun hge => ?_)
    · have hw1 : IntKind.wrap .u64 ((i : Int) + (j : Int)) = (i : Int) + (j : Int) := by rw [IntKind.wrap_u64]; omega
      have hd : ((i : Int) + (j : Int)).fdiv (2 ^ min 1 64) = (((i + j) / 2 : Nat) : Int) := by
        have : ((2 : Int) ^ min 1 64) = 2 := by decide
        rw [this, Int.fdiv_eq_ediv_of_nonneg _ (by decide)]
        omega
      have hm1 : (i + j) / 2 < j := by omega
      have hm0 : i ≤ (i + j) / 2 := by omega
      simp (implicitDefEqProofs := false) (disch := omega) only [go_sem, simprocAttr, go_sem, Nat.le_refl, hw1, hd, Tryd.results32]
      generalize hq : (i + j) / 2 = m at *
      have hml : m < l.length := by omega
      simp (implicitDefEqProofs := false) (disch := omega) only [go_sem, simprocAttr, go_sem, Nat.le_refl, hw1, hd, Tryd.results32]
      with_reducible refine CallOk.of (lessT_ok (l.getD m ByteArray.empty) t) rfl ?_
      simp (implicitDefEqProofs := false) (disch := omega) only [go_sem, simprocAttr, go_sem, Nat.le_refl, Tryd.results32]
      cases hc : ltT (l.getD m ByteArray.empty) t with
      | true =>
        simp (implicitDefEqProofs := false) (disch := omega) only [go_sem, simprocAttr, go_sem, Nat.le_refl, Tryd.results32]
        refine ⟨⟨(m + 1, j), by simp only; omega, h2, fun k hk => ?_, h4⟩, by simp only; omega, ?_⟩
        · simp only at hk
          rcases Nat.lt_or_eq_of_le (Nat.le_of_lt_succ hk) with h | h
          · exact ltT_trans (hs.get h hml) hc
          · rw [h]; exact hc
        · refine ⟨?_, ?_, ?_, ?_, ?_, ?_, ?_⟩ <;> simp only [go_sem, simprocAttr, decide_eq_true_eq, Int.natCast_add, Int.natCast_one] <;> try first | omega | ((repeat' (first | exact And.intro rfl (by omega) | (refine And.intro ?_ ?_))) <;> first | rfl | omega | (congr 3; omega) | (congr 2; omega))
      | false =>
        simp (implicitDefEqProofs := false) (disch := omega) only [go_sem, simprocAttr, go_sem, Nat.le_refl, Tryd.results32]
        refine ⟨⟨(i, m), by simp only; omega, by simp only; omega, h3, fun k hk hkl => ?_⟩, by simp only; omega, ?_⟩
        · simp only at hk
          rcases Nat.lt_or_eq_of_le hk with h | h
          · cases hx : ltT (l.getD k ByteArray.empty) t with
            | false => rfl
            | true => rw [ltT_trans (hs.get h hkl) hx] at hc; cases hc
          · rw [← h]; exact hc
        · refine ⟨?_, ?_, ?_, ?_, ?_, ?_, ?_⟩ <;> simp only [go_sem, simprocAttr, decide_eq_true_eq, ] <;> try first | omega | ((repeat' (first | exact And.intro rfl (by omega) | (refine And.intro ?_ ?_))) <;> first | rfl | omega | (congr 3; omega) | (congr 2; omega))
    · have hij : i = j := by omega
      subst hij
      have hp : posT l t = i := posT_of h2 h3 (fun h => h4 i (Nat.le_refl _) h)
      unfold foundT
      rw [hp]
      by_cases hi : i < l.length
      · simp (implicitDefEqProofs := false) (disch := omega) only [go_sem, simprocAttr, go_sem, Nat.le_refl, Tryd.results32]
        by_cases he : l.getD i ByteArray.empty = t
        · rw [he, decide_eq_true hi, decide_eq_true rfl, Bool.and_self]
          simp (implicitDefEqProofs := false) (disch := omega) only [go_sem, simprocAttr, go_sem, Nat.le_refl, Tryd.results32]
        · rw [decide_eq_true hi, decide_eq_false he, Bool.and_false]
          simp (implicitDefEqProofs := false) (disch := omega) only [go_sem, simprocAttr, go_sem, Nat.le_refl, Tryd.results32]
          with_reducible refine CallOk.of (isNaNs_ok (l.getD i ByteArray.empty)) rfl ?_
          simp (implicitDefEqProofs := false) (disch := omega) only [go_sem, simprocAttr, go_sem, Nat.le_refl, Tryd.results32]
      · rw [decide_eq_false hi, Bool.false_and]
        simp (implicitDefEqProofs := false) (disch := omega) only [go_sem, simprocAttr, go_sem, Nat.le_refl, Tryd.results32]
end Go.Proofs.YtmfaejdnaippkaaDoor

end
section
/-
  value.text, and whether all of a list of texts are texts.
-/
open Go Go.Proofs Go.Pw Go.RowKit
namespace Go.Proofs.YtmfaejdnaippkaaDoor
set_option maxRecDepth 4000
set_option linter.unusedVariables false
set_option linter.unusedSimpArgs false
/-- Bytes that are a text. -/
def isT (s : ByteArray) : Bool := decide ((scan s 0).2 = s.size)
def fewT (l : List ByteArray) : Prop := ∀ s ∈ l, s.size ≤ 1000000
theorem fewT.get {l : List ByteArray} (h : fewT l) (i : Nat) : (l.getD i ByteArray.empty).size ≤ 1000000 := by
  by_cases hi : i < l.length
  · rw [List.getD_eq_getElem?_getD, List.getElem?_eq_getElem hi]; exact h _ (List.getElem_mem hi)
  · rw [List.getD_eq_getElem?_getD, List.getElem?_eq_none (by omega)]; exact Nat.zero_le _
theorem text_ok (s : ByteArray) (hs : s.size ≤ 1000000) : Ok Tryd.prog 31 [vS s] (vB (isT s)) := by
  refine Ok.of_pwp (by kernel_rfl) Tryd.func31 rfl (by kernel_rfl) (by kernel_rfl) ?_
  have v := valid_ok s hs
  unfold isT
  unfold validF at v
  by_cases h : (scan s 0).2 = s.size
  · rw [if_pos h] at v
    rw [decide_eq_true h]
    simp (implicitDefEqProofs := false) (disch := omega) only [go_sem, simprocAttr, go_sem, Nat.le_refl, Tryd.results31]
    with_reducible refine CallOk.of (v) rfl ?_
    simp (implicitDefEqProofs := false) (disch := omega) only [go_sem, simprocAttr, go_sem, Nat.le_refl, Tryd.results31]
  · rw [if_neg h] at v
    rw [decide_eq_false h]
    simp (implicitDefEqProofs := false) (disch := omega) only [go_sem, simprocAttr, go_sem, Nat.le_refl, Tryd.results31]
    with_reducible refine CallOk.of (v) rfl ?_
    simp (implicitDefEqProofs := false) (disch := omega) only [go_sem, simprocAttr, go_sem, Nat.le_refl, Tryd.results31]
theorem o1_ok (s : ByteArray) (hs : s.size ≤ 1000000) : Ok Tryd.prog 30 [vS s] (vB (!isT s)) := by
  refine Ok.of_pwp (by kernel_rfl) Tryd.func30 rfl (by kernel_rfl) (by kernel_rfl) ?_
  simp (implicitDefEqProofs := false) (disch := omega) only [go_sem, simprocAttr, go_sem, Nat.le_refl, Tryd.results30]
  with_reducible refine CallOk.of (text_ok s hs) rfl ?_
  simp (implicitDefEqProofs := false) (disch := omega) only [go_sem, simprocAttr, go_sem, Nat.le_refl, Tryd.results30]
def idxT (l : List ByteArray) : Int := if l.any (fun s => !isT s) = true then (l.findIdx (fun s => !isT s) : Int) else -1
theorem take_snocG {α : Type} {a : List α} {d : α} {k : Nat} (h : k < a.length) : a.take (k + 1) = a.take k ++ [a.getD k d] := by
  rw [List.take_succ_eq_append_getElem h, List.getD_eq_getElem?_getD, List.getElem?_eq_getElem h]; rfl
set_option maxHeartbeats 4000000 in
theorem idxS_ok (l : List ByteArray) (hf : fewT l) (hl : l.length ≤ 140737488351232) : Ok Tryd.prog 46 [.sl (encT l), .fn 30 []] (vI (idxT l)) := by
  refine Ok.of_pwp (by kernel_rfl) Tryd.func46 rfl (by kernel_rfl) (by kernel_rfl) ?_
  generalize hr : idxT l = rr
  simp (implicitDefEqProofs := false) (disch := omega) only [go_sem, simprocAttr, go_sem, Nat.le_refl, Tryd.results46]
  refine p_loop (ι := { i : Nat // i ≤ l.length ∧ (l.take i).any (fun s => !isT s) = false }) (fun p => ⟨[(8, vI p.1), (7, vI l.length), (0, .sl (encT l)), (1, .fn 30 [])], [], [], 0, 0⟩) (fun p => l.length - p.1) ⟨0, Nat.zero_le _, rfl⟩ ?_ ?_
  · refine ⟨?_, ?_, ?_, ?_, ?_, ?_, ?_⟩ <;> simp only [go_sem, simprocAttr, decide_eq_true_eq, Int.natCast_zero] <;> try first | omega | ((repeat' (first | exact And.intro rfl (by omega) | (refine And.intro ?_ ?_))) <;> first | rfl | omega | (congr 3; omega) | (congr 2; omega))
  · rintro ⟨i, h1, h2⟩
    simp only
    simp (implicitDefEqProofs := false) (disch := omega) only [go_sem, simprocAttr, go_sem, Nat.le_refl, Tryd.results46]
    with_reducible refine ifK_split (fun hlt => ?_) (fun hge => ?_)
    · have hi : i < l.length := by omega
      simp (implicitDefEqProofs := false) (disch := omega) only [go_sem, simprocAttr, go_sem, Nat.le_refl, Tryd.results46]
      with_reducible refine CallOk.of (o1_ok (l.getD i ByteArray.empty) (hf.get i)) rfl ?_
      have eg : l.getD i ByteArray.empty = l[i] := by rw [List.getD_eq_getElem?_getD, List.getElem?_eq_getElem hi]; rfl
      cases hw : (!isT (l.getD i ByteArray.empty)) with
      | true =>
        simp (implicitDefEqProofs := false) (disch := omega) only [go_sem, simprocAttr, go_sem, Nat.le_refl, Tryd.results46]
        rw [← hr, idxT, if_pos (List.any_eq_true.2 ⟨l[i], List.getElem_mem hi, by rw [← eg]; exact hw⟩)]
        have : l.findIdx (fun s => !isT s) = i := by
          rw [List.findIdx_eq hi]
          refine ⟨by rw [← eg]; exact hw, fun j hj => ?_⟩
          have := List.any_eq_false.1 h2 (l[j]) (by rw [List.mem_take_iff_getElem]; exact ⟨j, by omega, rfl⟩)
          simpa using this
        rw [this]
      | false =>
        simp (implicitDefEqProofs := false) (disch := omega) only [go_sem, simprocAttr, go_sem, Nat.le_refl, Tryd.results46]
        refine ⟨⟨i + 1, by omega, by rw [take_snocG (d := ByteArray.empty) hi, List.any_append, h2, List.any_cons, hw]; rfl⟩, by simp only; omega, ?_⟩
        refine ⟨?_, ?_, ?_, ?_, ?_, ?_, ?_⟩ <;> simp only [go_sem, simprocAttr, decide_eq_true_eq, Int.natCast_add, Int.natCast_one] <;> try first | omega | ((repeat' (first | exact And.intro rfl (by omega) | (refine And.intro ?_ ?_))) <;> first | rfl | omega | (congr 3; omega) | (congr 2; omega))
    · rw [List.take_of_length_le (by omega)] at h2
      simp (implicitDefEqProofs := false) (disch := omega) only [go_sem, simprocAttr, go_sem, Nat.le_refl, Tryd.results46]
      rw [← hr, idxT, h2]
      rfl
theorem contS_ok (l : List ByteArray) (hf : fewT l) (hl : l.length ≤ 140737488351232) : Ok Tryd.prog 29 [.sl (encT l), .fn 30 []] (vB (l.any fun s => !isT s)) := by
  refine Ok.of_pwp (by kernel_rfl) Tryd.func29 rfl (by kernel_rfl) (by kernel_rfl) ?_
  simp (implicitDefEqProofs := false) (disch := omega) only [go_sem, simprocAttr, go_sem, Nat.le_refl, Tryd.results29]
  with_reducible refine CallOk.of (idxS_ok l hf hl) rfl ?_
  cases h : l.any (fun s => !isT s) with
  | true =>
    have e : idxT l = (l.findIdx (fun s => !isT s) : Int) := by rw [idxT, h]; rfl
    rw [e]
    simp (implicitDefEqProofs := false) (disch := omega) only [go_sem, simprocAttr, go_sem, Nat.le_refl, Tryd.results29]
    rw [decide_eq_true (by omega)]
  | false =>
    have e : idxT l = -1 := by rw [idxT, h]; rfl
    rw [e]
    simp (implicitDefEqProofs := false) (disch := omega) only [go_sem, simprocAttr, go_sem, Nat.le_refl, Tryd.results29]
end Go.Proofs.YtmfaejdnaippkaaDoor

end
section
/-
  copy of elements of several cells, ags an equation.
-/
open Go Go.Proofs Go.RowKit
namespace Go.Proofs.YtmfaejdnaippkaaDoor
set_option maxRecDepth 4000
set_option linter.unusedVariables false
set_option linter.unusedSimpArgs false
theorem run_copy_cellsN {P : Program} (w : World) (dT sT ty elem : TypeId) (sz b o dLen dCap : Nat) (a : Addr) (sLen sCap : Nat) (cs : List Value)
    (hu : P.underlying dT = some (.slice elem)) (hs : (P.info? elem).map (·.size) = some sz) (hn : cs.length = Nat.min sLen dLen * sz)
    (hsrc : ∀ j v, cs[j]? = some v → w.cell? (a.add j) = some v) (hc : ∀ j, j < cs.length → (w.cell? ⟨b, o + j, none⟩).isSome = true) (hf : ∀ j, j < cs.length → w.frozen? ⟨b, o + j, none⟩ = false) (h1 : ∀ v ∈ cs, v.oneCell' = true) :
    (Builtin.copy_ #[dT, sT] ty #[.slice (some ⟨b, o, none⟩) dLen dCap, .slice (some a) sLen sCap]).run P w = .ok (goInt (Nat.min sLen dLen)) (w.setCells b o cs) := by
  have hl := run_loadCells_list (P := P) w a cs hsrc
  have hst := run_storeCells_cells (P := P) b o cs 0 w (by simpa using hc) (by simpa using hf) h1
  cases hq : P.info? elem with
  | none => simp [hq] at hs
  | some i =>
    have hi : i.size = sz := by simpa [hq] using hs
    simp [Builtin.copy_, run_underlying hu, Builtin.lenOf, Builtin.firstCells, sizeOf, typeInfo, hq, hi, ← hn, hl, hst]
end Go.Proofs.YtmfaejdnaippkaaDoor

end
section
/-
  slices.Insert of elements of 1 cells: its four roads, each said whole (after the kit's own proof for elements of one cell).
-/
open Go Go.Proofs Go.RowKit Go.Lib
namespace Go.Proofs.YtmfaejdnaippkaaDoor
set_option maxRecDepth 4000
set_option linter.unusedVariables false
set_option linter.unusedSimpArgs false
theorem insS_info : ∃ i0, Tryd.prog.info? 9 = some i0 ∧ i0.zero = some (.string ⟨#[]⟩) ∧ i0.size = 1 ∧ i0.bytes = 16 := ⟨_, rfl, rfl, rfl, rfl⟩
set_option maxHeartbeats 4000000 in
set_option maxRecDepth 100000 in
theorem insS_shift (b off n c i vb voff m vc : Nat) (cs vs : List Value) (w : World) (hi : i < n) (hm : 0 < m) (hroom : n + m ≤ c) (hc63 : c ≤ 9223372036854775807) (hvb : vb ≠ b)
    (hcl : cs.length = n) (hvl : vs.length = m)
    (hcs : ∀ j v, cs[j]? = some v → w.cell? ⟨b, off + j, none⟩ = some v) (hsp : ∀ j, j < (n + m) → (w.cell? ⟨b, off + j, none⟩).isSome = true) (hfz : ∀ j, j < (n + m) → w.frozen? ⟨b, off + j, none⟩ = false)
    (hvs : ∀ j v, vs[j]? = some v → w.cell? ⟨vb, voff + j, none⟩ = some v) (h1c : ∀ v ∈ cs, v.oneCell' = true) (h1v : ∀ v ∈ vs, v.oneCell' = true)
    (tA tB : TypeId) (kA kB : Nat) (hsa : w.shape? vb = some (tA, kA)) (hsb : w.shape? b = some (tB, kB)) (hkB : kB ≠ 0) (hfa : w.frozen? ⟨vb, voff, none⟩ = false) (hfe : w.frozen? ⟨vb, kA, none⟩ = false) :
    Calls Tryd.prog 33 #[.slice (some ⟨b, off, none⟩) n c, .int .i64 i, .slice (some ⟨vb, voff, none⟩) m vc] w fun e w' =>
      e = .returned (.slice (some ⟨b, off, none⟩) (n + m) c) ∧ w' = (w.drew.setCells b (off + (i + m)) (cs.drop (i))).setCells b (off + i) vs := by
  have hz1 : ¬ ((m : Int) = 0) := by omega
  have hz2 : ¬ ((i : Int) = (n : Int)) := by omega
  obtain ⟨i0, hi0, hz0, hzs, hzb⟩ := insS_info
  have hsz : (Tryd.prog.info? 9).map (·.size) = some 1 := by rw [hi0]; simp [hzs]
  have hov : ∀ lb cb, (callFunc 50 #[.slice (some ⟨vb, voff, none⟩) m vc, .slice (some ⟨b, off + (i + m), none⟩) lb cb]).run Tryd.prog w = .ok (.value (.bool false)) w := fun lb cb => by
    rw [run_callFunc_extern Tryd.func50 (by kernel_rfl) (by kernel_rfl) (by kernel_rfl) (e := Extern.SlicesOverlaps.overlaps #[27, 27] #[4]) (by kernel_rfl),
      Lib.run_overlaps_apart w 27 4 9 Tryd.underlying27 1 (fun w => by simp [sizeOf, typeInfo, hi0, hzs]) ⟨vb, voff, none⟩ ⟨b, off + (i + m), none⟩ m vc lb cb hvb tA tB kA kB hsa hsb hkB hfa hfe]
    rfl
  have hdl : (cs.drop (i)).length = (n - i) := by have := List.length_drop (i := i) (l := cs); omega
  have mixed : Tryd.prog.follows .mixedOrders = true := by kernel_rfl
  have hw1 : IntKind.i64.wrap ((i : Int) + (m : Int)) = (i : Int) + (m : Int) := by rw [IntKind.wrap_i64]; omega
  have hb1 : (0 : Int) ≤ (i : Int) + (m : Int) := by omega
  have hin : i ≤ n := by omega
  have htn : ((i : Int) + (m : Int)).toNat = i + m := by omega
  have hb2 : ¬ (c = i + m) := by omega
  have hb3 : (i : Int) ≤ (n : Int) + (m : Int) := by omega
  have hb4 : ¬ (c = i) := by omega
  have hcp1 : ∀ ty dc sc, (Builtin.copy_ #[27, 27] ty #[.slice (some ⟨b, off + (i + m), none⟩) (n + m - (i + m)) dc, .slice (some ⟨b, off + i, none⟩) (n + m - i) sc]).run Tryd.prog w.drew = .ok (goInt (Nat.min (n + m - i) (n + m - (i + m)))) (w.drew.setCells b (off + (i + m)) (cs.drop (i))) := fun ty dc sc =>
    run_copy_cellsN w.drew _ _ ty 9 1 b (off + (i + m)) (n + m - (i + m)) dc ⟨b, off + i, none⟩ (n + m - i) sc (cs.drop (i)) Tryd.underlying27 hsz (by rw [hdl]; simp only [Nat.min_def]; split <;> omega)
      (fun j v hj => by rw [Addr.add_lit, Nat.add_assoc]; exact hcs (i + j) v (by rwa [List.getElem?_drop] at hj))
      (fun j hj => by rw [Nat.add_assoc]; exact hsp _ (by omega)) (fun j hj => by rw [Nat.add_assoc]; exact hfz _ (by omega)) (fun v hv => h1c v (List.mem_of_mem_drop hv))
  obtain ⟨W1, hW1⟩ : ∃ W1, W1 = w.drew.setCells b (off + (i + m)) (cs.drop (i)) := ⟨_, rfl⟩
  have hsp1 : ∀ k, k < (n + m) → (W1.cell? ⟨b, off + k, none⟩).isSome = true := fun k hk => by
    rw [hW1]
    exact isSome_setCells b _ _ _ (fun j hj => by rw [Nat.add_assoc]; exact hsp _ (by omega)) _ (hsp k hk)
  have hcp2 : ∀ (W : World), (∀ x, W.cell? x = W1.cell? x) → (∀ x, W.frozen? x = W1.frozen? x) → ∀ ty dc, (Builtin.copy_ #[27, 27] ty #[.slice (some ⟨b, off + i, none⟩) (n + m - i) dc, .slice (some ⟨vb, voff, none⟩) m vc]).run Tryd.prog W = .ok (goInt (Nat.min m (n + m - i))) (W.setCells b (off + i) vs) := fun W hWc hWf ty dc =>
    run_copy_cellsN W _ _ ty 9 1 b (off + i) (n + m - i) dc ⟨vb, voff, none⟩ m vc vs Tryd.underlying27 hsz (by rw [hvl]; simp only [Nat.min_def]; split <;> omega)
      (fun j v hj => by
        rw [Addr.add_lit, hWc, hW1, World.cell?_setCells_out b _ _ _ _ (fun h _ => absurd h hvb)]
        exact hvs j v hj)
      (fun j hj => by rw [hWc, Nat.add_assoc]; exact hsp1 _ (by omega)) (fun j hj => by rw [hWf, hW1, World.frozen?_setCells, Nat.add_assoc]; exact hfz _ (by omega)) h1v
  rw [← hW1] at hcp1
  go_enter Tryd.func33, Tryd.ntmps33
  go_wp2_with (simp only [hov])
  go_region_law_o (refine step_copy_runI rfl _ _ 27 27 rfl _ _ (by simp [Act.eval, Act.put]) (by simp [Act.eval, Act.put]) (hcp1 _ _ _) ?_)
  go_wp2_with (at_builtin; refine wpList_copy_runI _ rfl _ _ 27 27 rfl _ _ rfl rfl (hcp2 _ (fun _ => rfl) (fun _ => rfl) _ _) ?_)
  go_ret
  first | exact ⟨rfl, rfl⟩ | exact ⟨rfl, by rw [hW1]⟩
set_option maxHeartbeats 4000000 in
set_option maxRecDepth 100000 in
theorem insS_end_room (b off n c vb voff m vc : Nat) (vs : List Value) (w : World) (hm : 0 < m) (hroom : n + m ≤ c) (hc63 : c ≤ 9223372036854775807)
    (hvl : vs.length = m) (hsp : ∀ j, j < m → (w.cell? ⟨b, off + n + j, none⟩).isSome = true) (hfz : ∀ j, j < m → w.frozen? ⟨b, off + n + j, none⟩ = false)
    (hvs : ∀ j v, vs[j]? = some v → w.cell? ⟨vb, voff + j, none⟩ = some v) (h1v : ∀ v ∈ vs, v.oneCell' = true) :
    Calls Tryd.prog 33 #[.slice (some ⟨b, off, none⟩) n c, .int .i64 n, .slice (some ⟨vb, voff, none⟩) m vc] w fun e w' =>
      e = .returned (.slice (some ⟨b, off, none⟩) (n + m) c) ∧ w' = w.setCells b (off + n) vs := by
  have mixed : Tryd.prog.follows .mixedOrders = true := by kernel_rfl
  obtain ⟨i0, hi0, hz0, hzs, hzb⟩ := insS_info
  have hz1 : ¬ ((m : Int) = 0) := by omega
  have hsrc : Src Tryd.prog i0.size 27 (.slice (some ⟨vb, voff, none⟩) m vc) m vs w := by
    rw [hzs]
    exact Src.ofSlice w Tryd.underlying27 ⟨vb, voff, none⟩ m vc vs (by omega) (fun j u hj => by rw [Addr.add_lit]; exact hvs j u hj) h1v
  have hrun : ∀ ty, (Builtin.append_ #[27, 27] ty #[.slice (some ⟨b, off, none⟩) n c, .slice (some ⟨vb, voff, none⟩) m vc]).run Tryd.prog w = .ok (.slice (some ⟨b, off, none⟩) (n + m) c) (w.setCells b (off + n) vs) := fun ty => by
    have := run_append_room_src w 27 27 ty 9 i0 Tryd.underlying27 hi0 b off n c _ m vs hsrc hroom (by simp only [hzs, hvl, Nat.mul_one]; exact hsp) (by simp only [hzs, hvl, Nat.mul_one]; exact hfz)
    simp only [hzs, Nat.mul_one] at this
    exact this
  go_enter Tryd.func33, Tryd.ntmps33
  go_wp2_with (at_builtin; refine Lib.wpList_append_run _ rfl _ _ _ _ rfl _ _ rfl rfl _ _ (hrun _) ?_)
  go_ret
  exact ⟨rfl, rfl⟩
set_option maxHeartbeats 4000000 in
set_option maxRecDepth 100000 in
theorem insS_end_grow (base : Option Addr) (n c vb voff m vc : Nat) (cs vs : List Value) (w : World) (hm : 0 < m) (hnc : n ≤ c) (hroom : c < n + m) (hbig : (n + m) * 16 ≤ 140737488355328)
    (hcl : cs.length = n) (hvl : vs.length = m) (hnil : base = none → n = 0)
    (hcs : ∀ a, base = some a → ∀ j v, cs[j]? = some v → w.cell? (a.add j) = some v)
    (hvs : ∀ j v, vs[j]? = some v → w.cell? ⟨vb, voff + j, none⟩ = some v) (h1v : ∀ v ∈ vs, v.oneCell' = true) :
    Calls Tryd.prog 33 #[.slice base n c, .int .i64 n, .slice (some ⟨vb, voff, none⟩) m vc] w fun e w' =>
      e = .returned (.slice (some ⟨w.heap.size, 0, none⟩) (n + m) (grownCap w (n + m) c 9)) ∧
      w' = w.drew.alloc (.cells ((cs ++ vs).toArray ++ Builtin.zeroCells (.string ⟨#[]⟩ : Value).cells (grownCap w (n + m) c 9 - (n + m))) 9) := by
  have mixed : Tryd.prog.follows .mixedOrders = true := by kernel_rfl
  obtain ⟨i0, hi0, hz0, hzs, hzb⟩ := insS_info
  have hz1 : ¬ ((m : Int) = 0) := by omega
  have hsrc : Src Tryd.prog i0.size 27 (.slice (some ⟨vb, voff, none⟩) m vc) m vs w := by
    rw [hzs]
    exact Src.ofSlice w Tryd.underlying27 ⟨vb, voff, none⟩ m vc vs (by omega) (fun j u hj => by rw [Addr.add_lit]; exact hvs j u hj) h1v
  have hold : (Builtin.firstCells i0.size n (.slice base n c)).run Tryd.prog w.drew = .ok cs.toArray w.drew := by
    rw [hzs]
    cases base with
    | none =>
      have h0 := hnil rfl
      subst h0
      have hc0 : cs = [] := List.length_eq_zero_iff.1 (by omega)
      rw [hc0]
      exact run_firstCells_none w.drew 1 0 0 c
    | some a => exact run_firstCells_some w.drew 1 n a n c cs (by omega) (fun j v hj => hcs a rfl j v hj)
  have hrun : ∀ ty, (Builtin.append_ #[27, 27] ty #[.slice base n c, .slice (some ⟨vb, voff, none⟩) m vc]).run Tryd.prog w = _ := fun ty =>
    run_append_grow_src w 27 27 ty 9 i0 _ Tryd.underlying27 hi0 hz0 base n c cs hold _ m vs hsrc hroom (by omega) (by rw [hzb]; exact growslice_fits hroom hbig)
  go_enter Tryd.func33, Tryd.ntmps33
  cases base with
  | none =>
    have h0 := hnil rfl
    subst h0
    go_wp2_with (at_builtin; refine Lib.wpList_append_run _ rfl _ _ _ _ rfl _ _ rfl rfl _ _ (hrun _) ?_)
    go_ret
    exact ⟨rfl, rfl⟩
  | some a =>
    obtain ⟨ab, ao, asp⟩ := a
    go_wp2_with (at_builtin; refine Lib.wpList_append_run _ rfl _ _ _ _ rfl _ _ rfl rfl _ _ (hrun _) ?_)
    all_goals (go_ret; exact ⟨rfl, rfl⟩)
set_option maxHeartbeats 4000000 in
set_option maxRecDepth 100000 in
theorem insS_grow (b off n c i vb voff m vc : Nat) (cs vs : List Value) (w : World) (hi : i < n) (hm : 0 < m) (hnc : n ≤ c) (hroom : c < n + m) (hbig : (n + m) * 16 ≤ 140737488355328)
    (hcl : cs.length = n) (hvl : vs.length = m)
    (hcs : ∀ j v, cs[j]? = some v → w.cell? ⟨b, off + j, none⟩ = some v)
    (hvs : ∀ j v, vs[j]? = some v → w.cell? ⟨vb, voff + j, none⟩ = some v) (h1c : ∀ v ∈ cs, v.oneCell' = true) (h1v : ∀ v ∈ vs, v.oneCell' = true) :
    Calls Tryd.prog 33 #[.slice (some ⟨b, off, none⟩) n c, .int .i64 i, .slice (some ⟨vb, voff, none⟩) m vc] w fun e w' =>
      e = .returned (.slice (some ⟨w.heap.size, 0, none⟩) (n + m) (grownCap w (n + m) c 9)) ∧
      w' = (((w.alloc (.cells ((cs.take (i)).toArray ++ Builtin.zeroCells (.string ⟨#[]⟩ : Value).cells (n + m - i) ++ Builtin.zeroCells (.string ⟨#[]⟩ : Value).cells (grownCap w (n + m) c 9 - (n + m))) 9)).drew.setCells w.heap.size (i) vs).drew).setCells w.heap.size ((i + m)) (cs.drop (i)) := by
  have mixed : Tryd.prog.follows .mixedOrders = true := by kernel_rfl
  obtain ⟨i0, hi0, hz0, hzs, hzb⟩ := insS_info
  have hz1 : ¬ ((m : Int) = 0) := by omega
  have hz2 : ¬ ((i : Int) = (n : Int)) := by omega
  have hz3 : (c : Int) < (n : Int) + (m : Int) := by omega
  have hsz : (Tryd.prog.info? 9).map (·.size) = some 1 := by rw [hi0]; simp [hzs]
  have hbw : b < w.heap.size := block_lt_of_cell (hcs 0 _ (List.getElem?_eq_getElem (by omega)))
  have hvw : vb < w.heap.size := block_lt_of_cell (hvs 0 _ (List.getElem?_eq_getElem (by omega)))
  have hkk : (n : Int) + (m : Int) - (i : Int) = ((n + m - i : Nat) : Int) := by omega
  have hik : i + (n + m - i) = n + m := by omega
  have hold : (Builtin.firstCells i0.size i (.slice (some ⟨b, off, none⟩) i c)).run Tryd.prog w.drew = .ok (cs.take (i)).toArray w.drew := by
    rw [hzs]
    exact run_firstCells_some w.drew 1 i ⟨b, off, none⟩ i c (cs.take (i)) (by rw [List.length_take]; omega) (fun j v hj => by
      rw [Addr.add_lit]
      rw [List.getElem?_take] at hj
      split at hj
      · exact hcs j v hj
      · cases hj)
  have hrz : ∀ ty, (Builtin.append_ #[27, 3] ty #[.slice (some ⟨b, off, none⟩) i c, .int .i64 ((n : Int) + (m : Int) - (i : Int))]).run Tryd.prog w =
      .ok (.slice (some ⟨w.heap.size, 0, none⟩) (n + m) (grownCap w (n + m) c 9)) (w.drew.alloc (.cells ((cs.take (i)).toArray ++ Builtin.zeroCells (.string ⟨#[]⟩ : Value).cells (n + m - i) ++ Builtin.zeroCells (.string ⟨#[]⟩ : Value).cells (grownCap w (n + m) c 9 - (n + m))) 9)) := fun ty => by
    have h := Lib.run_append_grow_zeros w 27 3 ty 9 i0 _ .i64 .i64 Tryd.underlying27 Tryd.underlying3 hi0 hz0 (some ⟨b, off, none⟩) i c (cs.take (i)) hold (n + m - i) (by omega) (by omega) (by omega) (by omega) (by rw [hzb]; omega) (by rw [hzb, hik]; exact growslice_fits hroom hbig)
    rw [hik] at h
    rw [hkk]
    exact h
  obtain ⟨G, hG⟩ : ∃ G, G = grownCap w (n + m) c 9 := ⟨_, rfl⟩
  obtain ⟨ROW, hROW⟩ : ∃ ROW : Array Value, ROW = (cs.take (i)).toArray ++ Builtin.zeroCells (.string ⟨#[]⟩ : Value).cells (n + m - i) ++ Builtin.zeroCells (.string ⟨#[]⟩ : Value).cells (G - (n + m)) := ⟨_, rfl⟩
  rw [← hG] at hrz ⊢
  rw [← hROW] at hrz ⊢
  have hRl : (n + m) ≤ ROW.size := by
    rw [hROW]
    simp [Builtin.zeroCells, Value.cells]
    omega
  obtain ⟨W1, hW1⟩ : ∃ W1, W1 = w.drew.alloc (.cells ROW 9) := ⟨_, rfl⟩
  rw [← hW1] at hrz
  have hN : ∀ j, j < (n + m) → (W1.cell? ⟨w.heap.size, j, none⟩).isSome = true := fun j hj => by
    rw [hW1, World.cell?_alloc_at (w := w.drew) ROW _ w.heap.size j rfl, Array.getElem?_eq_getElem (by omega)]; rfl
  have hNf : ∀ j, W1.frozen? ⟨w.heap.size, j, none⟩ = false := fun j => by rw [hW1]; exact World.frozen?_alloc_at (w := w.drew) ROW _ w.heap.size j rfl
  have hOb : ∀ j v, w.cell? ⟨b, j, none⟩ = some v → W1.cell? ⟨b, j, none⟩ = some v := fun j v h => by rw [hW1, World.cell?_alloc_past (w := w.drew) _ b j hbw]; exact h
  have hOv : ∀ j v, w.cell? ⟨vb, j, none⟩ = some v → W1.cell? ⟨vb, j, none⟩ = some v := fun j v h => by rw [hW1, World.cell?_alloc_past (w := w.drew) _ vb j hvw]; exact h
  have hcpA : ∀ (W : World), (∀ x, W.cell? x = W1.cell? x) → (∀ x, W.frozen? x = W1.frozen? x) → ∀ ty dc, (Builtin.copy_ #[27, 27] ty #[.slice (some ⟨w.heap.size, i, none⟩) (n + m - i) dc, .slice (some ⟨vb, voff, none⟩) m vc]).run Tryd.prog W = .ok (goInt (Nat.min m (n + m - i))) (W.setCells w.heap.size (i) vs) := fun W hWc hWf ty dc =>
    run_copy_cellsN W _ _ ty 9 1 w.heap.size (i) (n + m - i) dc ⟨vb, voff, none⟩ m vc vs Tryd.underlying27 hsz (by rw [hvl]; simp only [Nat.min_def]; split <;> omega)
      (fun j v hj => by rw [Addr.add_lit, hWc]; exact hOv _ v (hvs j v hj))
      (fun j hj => by rw [hWc]; exact hN _ (by omega)) (fun j hj => by rw [hWf]; exact hNf _) h1v
  have hGn : n + m ≤ G := by rw [hG]; exact grownCap_ge w _ _ _
  have hG63 : G ≤ 9223372036854775807 := by
    have := grownCap_le_maxLen w (n + m) c 9 (by unfold maxLen; omega)
    rw [← hG] at this
    unfold maxLen at this
    omega
  have hGi : ¬ (G = i) := by omega
  have hGim : ¬ (G = i + m) := by omega
  have hci : ¬ (c = i) := by omega
  have hbN : b ≠ w.heap.size := by omega
  have hdl : (cs.drop (i)).length = (n - i) := by have := List.length_drop (i := i) (l := cs); omega
  have hcpB : ∀ (W : World), (∀ x, W.cell? x = (W1.setCells w.heap.size (i) vs).cell? x) → (∀ x, W.frozen? x = (W1.setCells w.heap.size (i) vs).frozen? x) → ∀ ty dc sc, (Builtin.copy_ #[27, 27] ty #[.slice (some ⟨w.heap.size, (i + m), none⟩) (n + m - (i + m)) dc, .slice (some ⟨b, off + i, none⟩) (n - i) sc]).run Tryd.prog W = .ok (goInt (Nat.min (n - i) (n + m - (i + m)))) (W.setCells w.heap.size ((i + m)) (cs.drop (i))) := fun W hWc hWf ty dc sc =>
    run_copy_cellsN W _ _ ty 9 1 w.heap.size ((i + m)) (n + m - (i + m)) dc ⟨b, off + i, none⟩ (n - i) sc (cs.drop (i)) Tryd.underlying27 hsz (by rw [hdl]; simp only [Nat.min_def]; split <;> omega)
      (fun j v hj => by
        rw [Addr.add_lit, hWc, World.cell?_setCells_out _ _ _ _ _ (fun h _ => absurd h hbN), Nat.add_assoc]
        exact hOb _ v (hcs (i + j) v (by rwa [List.getElem?_drop] at hj)))
      (fun j hj => by rw [hWc]; exact isSome_setCells _ _ _ _ (fun t ht => hN _ (by omega)) _ (hN _ (by omega)))
      (fun j hj => by rw [hWf, World.frozen?_setCells]; exact hNf _) (fun v hv => h1c v (List.mem_of_mem_drop hv))
  subst hW1
  have hE1 : ∀ x, ((w.alloc (.cells ROW 9)).drew).cell? x = (w.drew.alloc (.cells ROW 9)).cell? x := fun x => rfl
  have hE2 : ∀ x, ((w.alloc (.cells ROW 9)).drew).frozen? x = (w.drew.alloc (.cells ROW 9)).frozen? x := fun x => rfl
  have hF1 : ∀ x, (((w.alloc (.cells ROW 9)).drew.setCells w.heap.size (i) vs).drew).cell? x = ((w.drew.alloc (.cells ROW 9)).setCells w.heap.size (i) vs).cell? x := fun x => rfl
  have hF2 : ∀ x, (((w.alloc (.cells ROW 9)).drew.setCells w.heap.size (i) vs).drew).frozen? x = ((w.drew.alloc (.cells ROW 9)).setCells w.heap.size (i) vs).frozen? x := fun x => rfl
  have hw1 : IntKind.i64.wrap ((i : Int) + (m : Int)) = (i : Int) + (m : Int) := by rw [IntKind.wrap_i64]; omega
  have hb1 : (0 : Int) ≤ (i : Int) + (m : Int) := by omega
  have hin : i ≤ n := by omega
  have htn : ((i : Int) + (m : Int)).toNat = i + m := by omega
  have hb3 : (i : Int) ≤ (n : Int) := by omega
  clear hkk hik hold hROW hG hRl
  go_enter Tryd.func33, Tryd.ntmps33
  go_wp2_with (first
    | (at_builtin; refine Lib.wpList_append_run _ rfl _ _ _ _ rfl _ _ rfl rfl _ _ (hrz _) ?_)
    | (at_builtin; refine wpList_copy_runI _ rfl _ _ 27 27 rfl _ _ rfl rfl (hcpA _ hE1 hE2 _ _) ?_)
    | (at_builtin; refine wpList_copy_runI _ rfl _ _ 27 27 rfl _ _ rfl rfl (hcpB _ (fun _ => rfl) (fun _ => rfl) _ _ _) ?_))
  go_region_law_o (refine step_copy_runI rfl _ _ 27 27 rfl (.slice (some ⟨w.heap.size, (i + m), none⟩) (n + m - (i + m)) (G - (i + m))) (.slice (some ⟨b, off + i, none⟩) (n - i) (c - i)) (by simp [Act.eval, Act.put]) (by simp [Act.eval, Act.put]) (hcpB _ hF1 hF2 3 (G - (i + m)) (c - i)) ?_)
  go_wp2
  go_ret
  exact ⟨rfl, rfl⟩
end Go.Proofs.YtmfaejdnaippkaaDoor

end
section
/-
  slices.Insert of elements of 6 cells: its four roads, each said whole (after the kit's own proof for elements of one cell).
-/
open Go Go.Proofs Go.RowKit Go.Lib
namespace Go.Proofs.YtmfaejdnaippkaaDoor
set_option maxRecDepth 4000
set_option linter.unusedVariables false
set_option linter.unusedSimpArgs false
theorem insV_info : ∃ i0, Tryd.prog.info? 29 = some i0 ∧ i0.zero = some (.agg #[.int .i64 0, .bool false, .int .i64 0, .string ⟨#[]⟩, .slice none 0 0, .slice none 0 0]) ∧ i0.size = 6 ∧ i0.bytes = 88 := ⟨_, rfl, rfl, rfl, rfl⟩
set_option maxHeartbeats 4000000 in
set_option maxRecDepth 100000 in
theorem insV_shift (b off n c i vb voff m vc : Nat) (cs vs : List Value) (w : World) (hi : i < n) (hm : 0 < m) (hroom : n + m ≤ c) (hc63 : c ≤ 9223372036854775807) (hvb : vb ≠ b)
    (hcl : cs.length = n * 6) (hvl : vs.length = m * 6)
    (hcs : ∀ j v, cs[j]? = some v → w.cell? ⟨b, off + j, none⟩ = some v) (hsp : ∀ j, j < (n + m) * 6 → (w.cell? ⟨b, off + j, none⟩).isSome = true) (hfz : ∀ j, j < (n + m) * 6 → w.frozen? ⟨b, off + j, none⟩ = false)
    (hvs : ∀ j v, vs[j]? = some v → w.cell? ⟨vb, voff + j, none⟩ = some v) (h1c : ∀ v ∈ cs, v.oneCell' = true) (h1v : ∀ v ∈ vs, v.oneCell' = true)
    (tA tB : TypeId) (kA kB : Nat) (hsa : w.shape? vb = some (tA, kA)) (hsb : w.shape? b = some (tB, kB)) (hkB : kB ≠ 0) (hfa : w.frozen? ⟨vb, voff, none⟩ = false) (hfe : w.frozen? ⟨vb, kA, none⟩ = false) :
    Calls Tryd.prog 34 #[.slice (some ⟨b, off, none⟩) n c, .int .i64 i, .slice (some ⟨vb, voff, none⟩) m vc] w fun e w' =>
      e = .returned (.slice (some ⟨b, off, none⟩) (n + m) c) ∧ w' = (w.drew.setCells b (off + (i + m) * 6) (cs.drop (i * 6))).setCells b (off + i * 6) vs := by
  have hz1 : ¬ ((m : Int) = 0) := by omega
  have hz2 : ¬ ((i : Int) = (n : Int)) := by omega
  obtain ⟨i0, hi0, hz0, hzs, hzb⟩ := insV_info
  have hsz : (Tryd.prog.info? 29).map (·.size) = some 6 := by rw [hi0]; simp [hzs]
  have hov : ∀ lb cb, (callFunc 52 #[.slice (some ⟨vb, voff, none⟩) m vc, .slice (some ⟨b, off + (i + m) * 6, none⟩) lb cb]).run Tryd.prog w = .ok (.value (.bool false)) w := fun lb cb => by
    rw [run_callFunc_extern Tryd.func52 (by kernel_rfl) (by kernel_rfl) (by kernel_rfl) (e := Extern.SlicesOverlaps.overlaps #[26, 26] #[4]) (by kernel_rfl),
      Lib.run_overlaps_apart w 26 4 29 Tryd.underlying26 6 (fun w => by simp [sizeOf, typeInfo, hi0, hzs]) ⟨vb, voff, none⟩ ⟨b, off + (i + m) * 6, none⟩ m vc lb cb hvb tA tB kA kB hsa hsb hkB hfa hfe]
    rfl
  have hdl : (cs.drop (i * 6)).length = (n - i) * 6 := by have := List.length_drop (i := i * 6) (l := cs); omega
  have mixed : Tryd.prog.follows .mixedOrders = true := by kernel_rfl
  have hw1 : IntKind.i64.wrap ((i : Int) + (m : Int)) = (i : Int) + (m : Int) := by rw [IntKind.wrap_i64]; omega
  have hb1 : (0 : Int) ≤ (i : Int) + (m : Int) := by omega
  have hin : i ≤ n := by omega
  have htn : ((i : Int) + (m : Int)).toNat = i + m := by omega
  have hb2 : ¬ (c = i + m) := by omega
  have hb3 : (i : Int) ≤ (n : Int) + (m : Int) := by omega
  have hb4 : ¬ (c = i) := by omega
  have hcp1 : ∀ ty dc sc, (Builtin.copy_ #[26, 26] ty #[.slice (some ⟨b, off + (i + m) * 6, none⟩) (n + m - (i + m)) dc, .slice (some ⟨b, off + i * 6, none⟩) (n + m - i) sc]).run Tryd.prog w.drew = .ok (goInt (Nat.min (n + m - i) (n + m - (i + m)))) (w.drew.setCells b (off + (i + m) * 6) (cs.drop (i * 6))) := fun ty dc sc =>
    run_copy_cellsN w.drew _ _ ty 29 6 b (off + (i + m) * 6) (n + m - (i + m)) dc ⟨b, off + i * 6, none⟩ (n + m - i) sc (cs.drop (i * 6)) Tryd.underlying26 hsz (by rw [hdl]; simp only [Nat.min_def]; split <;> omega)
      (fun j v hj => by rw [Addr.add_lit, Nat.add_assoc]; exact hcs (i * 6 + j) v (by rwa [List.getElem?_drop] at hj))
      (fun j hj => by rw [Nat.add_assoc]; exact hsp _ (by omega)) (fun j hj => by rw [Nat.add_assoc]; exact hfz _ (by omega)) (fun v hv => h1c v (List.mem_of_mem_drop hv))
  obtain ⟨W1, hW1⟩ : ∃ W1, W1 = w.drew.setCells b (off + (i + m) * 6) (cs.drop (i * 6)) := ⟨_, rfl⟩
  have hsp1 : ∀ k, k < (n + m) * 6 → (W1.cell? ⟨b, off + k, none⟩).isSome = true := fun k hk => by
    rw [hW1]
    exact isSome_setCells b _ _ _ (fun j hj => by rw [Nat.add_assoc]; exact hsp _ (by omega)) _ (hsp k hk)
  have hcp2 : ∀ (W : World), (∀ x, W.cell? x = W1.cell? x) → (∀ x, W.frozen? x = W1.frozen? x) → ∀ ty dc, (Builtin.copy_ #[26, 26] ty #[.slice (some ⟨b, off + i * 6, none⟩) (n + m - i) dc, .slice (some ⟨vb, voff, none⟩) m vc]).run Tryd.prog W = .ok (goInt (Nat.min m (n + m - i))) (W.setCells b (off + i * 6) vs) := fun W hWc hWf ty dc =>
    run_copy_cellsN W _ _ ty 29 6 b (off + i * 6) (n + m - i) dc ⟨vb, voff, none⟩ m vc vs Tryd.underlying26 hsz (by rw [hvl]; simp only [Nat.min_def]; split <;> omega)
      (fun j v hj => by
        rw [Addr.add_lit, hWc, hW1, World.cell?_setCells_out b _ _ _ _ (fun h _ => absurd h hvb)]
        exact hvs j v hj)
      (fun j hj => by rw [hWc, Nat.add_assoc]; exact hsp1 _ (by omega)) (fun j hj => by rw [hWf, hW1, World.frozen?_setCells, Nat.add_assoc]; exact hfz _ (by omega)) h1v
  rw [← hW1] at hcp1
  go_enter Tryd.func34, Tryd.ntmps34
  go_wp2_with (simp only [hov])
  go_region_law_o (refine step_copy_runI rfl _ _ 26 26 rfl _ _ (by simp [Act.eval, Act.put]) (by simp [Act.eval, Act.put]) (hcp1 _ _ _) ?_)
  go_wp2_with (at_builtin; refine wpList_copy_runI _ rfl _ _ 26 26 rfl _ _ rfl rfl (hcp2 _ (fun _ => rfl) (fun _ => rfl) _ _) ?_)
  go_ret
  first | exact ⟨rfl, rfl⟩ | exact ⟨rfl, by rw [hW1]⟩
set_option maxHeartbeats 4000000 in
set_option maxRecDepth 100000 in
theorem insV_end_room (b off n c vb voff m vc : Nat) (vs : List Value) (w : World) (hm : 0 < m) (hroom : n + m ≤ c) (hc63 : c ≤ 9223372036854775807)
    (hvl : vs.length = m * 6) (hsp : ∀ j, j < m * 6 → (w.cell? ⟨b, off + n * 6 + j, none⟩).isSome = true) (hfz : ∀ j, j < m * 6 → w.frozen? ⟨b, off + n * 6 + j, none⟩ = false)
    (hvs : ∀ j v, vs[j]? = some v → w.cell? ⟨vb, voff + j, none⟩ = some v) (h1v : ∀ v ∈ vs, v.oneCell' = true) :
    Calls Tryd.prog 34 #[.slice (some ⟨b, off, none⟩) n c, .int .i64 n, .slice (some ⟨vb, voff, none⟩) m vc] w fun e w' =>
      e = .returned (.slice (some ⟨b, off, none⟩) (n + m) c) ∧ w' = w.setCells b (off + n * 6) vs := by
  have mixed : Tryd.prog.follows .mixedOrders = true := by kernel_rfl
  obtain ⟨i0, hi0, hz0, hzs, hzb⟩ := insV_info
  have hz1 : ¬ ((m : Int) = 0) := by omega
  have hsrc : Src Tryd.prog i0.size 26 (.slice (some ⟨vb, voff, none⟩) m vc) m vs w := by
    rw [hzs]
    exact Src.ofSlice w Tryd.underlying26 ⟨vb, voff, none⟩ m vc vs (by omega) (fun j u hj => by rw [Addr.add_lit]; exact hvs j u hj) h1v
  have hrun : ∀ ty, (Builtin.append_ #[26, 26] ty #[.slice (some ⟨b, off, none⟩) n c, .slice (some ⟨vb, voff, none⟩) m vc]).run Tryd.prog w = .ok (.slice (some ⟨b, off, none⟩) (n + m) c) (w.setCells b (off + n * 6) vs) := fun ty => by
    have := run_append_room_src w 26 26 ty 29 i0 Tryd.underlying26 hi0 b off n c _ m vs hsrc hroom (by simp only [hzs, hvl, Nat.mul_one]; exact hsp) (by simp only [hzs, hvl, Nat.mul_one]; exact hfz)
    simp only [hzs, Nat.mul_one] at this
    exact this
  go_enter Tryd.func34, Tryd.ntmps34
  go_wp2_with (at_builtin; refine Lib.wpList_append_run _ rfl _ _ _ _ rfl _ _ rfl rfl _ _ (hrun _) ?_)
  go_ret
  exact ⟨rfl, rfl⟩
set_option maxHeartbeats 4000000 in
set_option maxRecDepth 100000 in
theorem insV_end_grow (base : Option Addr) (n c vb voff m vc : Nat) (cs vs : List Value) (w : World) (hm : 0 < m) (hnc : n ≤ c) (hroom : c < n + m) (hbig : (n + m) * 88 ≤ 140737488355328)
    (hcl : cs.length = n * 6) (hvl : vs.length = m * 6) (hnil : base = none → n = 0)
    (hcs : ∀ a, base = some a → ∀ j v, cs[j]? = some v → w.cell? (a.add j) = some v)
    (hvs : ∀ j v, vs[j]? = some v → w.cell? ⟨vb, voff + j, none⟩ = some v) (h1v : ∀ v ∈ vs, v.oneCell' = true) :
    Calls Tryd.prog 34 #[.slice base n c, .int .i64 n, .slice (some ⟨vb, voff, none⟩) m vc] w fun e w' =>
      e = .returned (.slice (some ⟨w.heap.size, 0, none⟩) (n + m) (grownCap w (n + m) c 29)) ∧
      w' = w.drew.alloc (.cells ((cs ++ vs).toArray ++ Builtin.zeroCells (.agg #[.int .i64 0, .bool false, .int .i64 0, .string ⟨#[]⟩, .slice none 0 0, .slice none 0 0] : Value).cells (grownCap w (n + m) c 29 - (n + m))) 29) := by
  have mixed : Tryd.prog.follows .mixedOrders = true := by kernel_rfl
  obtain ⟨i0, hi0, hz0, hzs, hzb⟩ := insV_info
  have hz1 : ¬ ((m : Int) = 0) := by omega
  have hsrc : Src Tryd.prog i0.size 26 (.slice (some ⟨vb, voff, none⟩) m vc) m vs w := by
    rw [hzs]
    exact Src.ofSlice w Tryd.underlying26 ⟨vb, voff, none⟩ m vc vs (by omega) (fun j u hj => by rw [Addr.add_lit]; exact hvs j u hj) h1v
  have hold : (Builtin.firstCells i0.size n (.slice base n c)).run Tryd.prog w.drew = .ok cs.toArray w.drew := by
    rw [hzs]
    cases base with
    | none =>
      have h0 := hnil rfl
      subst h0
      have hc0 : cs = [] := List.length_eq_zero_iff.1 (by omega)
      rw [hc0]
      exact run_firstCells_none w.drew 6 0 0 c
    | some a => exact run_firstCells_some w.drew 6 n a n c cs (by omega) (fun j v hj => hcs a rfl j v hj)
  have hrun : ∀ ty, (Builtin.append_ #[26, 26] ty #[.slice base n c, .slice (some ⟨vb, voff, none⟩) m vc]).run Tryd.prog w = _ := fun ty =>
    run_append_grow_src w 26 26 ty 29 i0 _ Tryd.underlying26 hi0 hz0 base n c cs hold _ m vs hsrc hroom (by omega) (by rw [hzb]; exact growslice_fits hroom hbig)
  go_enter Tryd.func34, Tryd.ntmps34
  cases base with
  | none =>
    have h0 := hnil rfl
    subst h0
    go_wp2_with (at_builtin; refine Lib.wpList_append_run _ rfl _ _ _ _ rfl _ _ rfl rfl _ _ (hrun _) ?_)
    go_ret
    exact ⟨rfl, rfl⟩
  | some a =>
    obtain ⟨ab, ao, asp⟩ := a
    go_wp2_with (at_builtin; refine Lib.wpList_append_run _ rfl _ _ _ _ rfl _ _ rfl rfl _ _ (hrun _) ?_)
    all_goals (go_ret; exact ⟨rfl, rfl⟩)
set_option maxHeartbeats 4000000 in
set_option maxRecDepth 100000 in
theorem insV_grow (b off n c i vb voff m vc : Nat) (cs vs : List Value) (w : World) (hi : i < n) (hm : 0 < m) (hnc : n ≤ c) (hroom : c < n + m) (hbig : (n + m) * 88 ≤ 140737488355328)
    (hcl : cs.length = n * 6) (hvl : vs.length = m * 6)
    (hcs : ∀ j v, cs[j]? = some v → w.cell? ⟨b, off + j, none⟩ = some v)
    (hvs : ∀ j v, vs[j]? = some v → w.cell? ⟨vb, voff + j, none⟩ = some v) (h1c : ∀ v ∈ cs, v.oneCell' = true) (h1v : ∀ v ∈ vs, v.oneCell' = true) :
    Calls Tryd.prog 34 #[.slice (some ⟨b, off, none⟩) n c, .int .i64 i, .slice (some ⟨vb, voff, none⟩) m vc] w fun e w' =>
      e = .returned (.slice (some ⟨w.heap.size, 0, none⟩) (n + m) (grownCap w (n + m) c 29)) ∧
      w' = (((w.alloc (.cells ((cs.take (i * 6)).toArray ++ Builtin.zeroCells (.agg #[.int .i64 0, .bool false, .int .i64 0, .string ⟨#[]⟩, .slice none 0 0, .slice none 0 0] : Value).cells (n + m - i) ++ Builtin.zeroCells (.agg #[.int .i64 0, .bool false, .int .i64 0, .string ⟨#[]⟩, .slice none 0 0, .slice none 0 0] : Value).cells (grownCap w (n + m) c 29 - (n + m))) 29)).drew.setCells w.heap.size (i * 6) vs).drew).setCells w.heap.size ((i + m) * 6) (cs.drop (i * 6)) := by
  have mixed : Tryd.prog.follows .mixedOrders = true := by kernel_rfl
  obtain ⟨i0, hi0, hz0, hzs, hzb⟩ := insV_info
  have hz1 : ¬ ((m : Int) = 0) := by omega
  have hz2 : ¬ ((i : Int) = (n : Int)) := by omega
  have hz3 : (c : Int) < (n : Int) + (m : Int) := by omega
  have hsz : (Tryd.prog.info? 29).map (·.size) = some 6 := by rw [hi0]; simp [hzs]
  have hbw : b < w.heap.size := block_lt_of_cell (hcs 0 _ (List.getElem?_eq_getElem (by omega)))
  have hvw : vb < w.heap.size := block_lt_of_cell (hvs 0 _ (List.getElem?_eq_getElem (by omega)))
  have hkk : (n : Int) + (m : Int) - (i : Int) = ((n + m - i : Nat) : Int) := by omega
  have hik : i + (n + m - i) = n + m := by omega
  have hold : (Builtin.firstCells i0.size i (.slice (some ⟨b, off, none⟩) i c)).run Tryd.prog w.drew = .ok (cs.take (i * 6)).toArray w.drew := by
    rw [hzs]
    exact run_firstCells_some w.drew 6 i ⟨b, off, none⟩ i c (cs.take (i * 6)) (by rw [List.length_take]; omega) (fun j v hj => by
      rw [Addr.add_lit]
      rw [List.getElem?_take] at hj
      split at hj
      · exact hcs j v hj
      · cases hj)
  have hrz : ∀ ty, (Builtin.append_ #[26, 3] ty #[.slice (some ⟨b, off, none⟩) i c, .int .i64 ((n : Int) + (m : Int) - (i : Int))]).run Tryd.prog w =
      .ok (.slice (some ⟨w.heap.size, 0, none⟩) (n + m) (grownCap w (n + m) c 29)) (w.drew.alloc (.cells ((cs.take (i * 6)).toArray ++ Builtin.zeroCells (.agg #[.int .i64 0, .bool false, .int .i64 0, .string ⟨#[]⟩, .slice none 0 0, .slice none 0 0] : Value).cells (n + m - i) ++ Builtin.zeroCells (.agg #[.int .i64 0, .bool false, .int .i64 0, .string ⟨#[]⟩, .slice none 0 0, .slice none 0 0] : Value).cells (grownCap w (n + m) c 29 - (n + m))) 29)) := fun ty => by
    have h := Lib.run_append_grow_zeros w 26 3 ty 29 i0 _ .i64 .i64 Tryd.underlying26 Tryd.underlying3 hi0 hz0 (some ⟨b, off, none⟩) i c (cs.take (i * 6)) hold (n + m - i) (by omega) (by omega) (by omega) (by omega) (by rw [hzb]; omega) (by rw [hzb, hik]; exact growslice_fits hroom hbig)
    rw [hik] at h
    rw [hkk]
    exact h
  obtain ⟨G, hG⟩ : ∃ G, G = grownCap w (n + m) c 29 := ⟨_, rfl⟩
  obtain ⟨ROW, hROW⟩ : ∃ ROW : Array Value, ROW = (cs.take (i * 6)).toArray ++ Builtin.zeroCells (.agg #[.int .i64 0, .bool false, .int .i64 0, .string ⟨#[]⟩, .slice none 0 0, .slice none 0 0] : Value).cells (n + m - i) ++ Builtin.zeroCells (.agg #[.int .i64 0, .bool false, .int .i64 0, .string ⟨#[]⟩, .slice none 0 0, .slice none 0 0] : Value).cells (G - (n + m)) := ⟨_, rfl⟩
  rw [← hG] at hrz ⊢
  rw [← hROW] at hrz ⊢
  have hRl : (n + m) * 6 ≤ ROW.size := by
    rw [hROW]
    simp [Builtin.zeroCells, Value.cells]
    omega
  obtain ⟨W1, hW1⟩ : ∃ W1, W1 = w.drew.alloc (.cells ROW 29) := ⟨_, rfl⟩
  rw [← hW1] at hrz
  have hN : ∀ j, j < (n + m) * 6 → (W1.cell? ⟨w.heap.size, j, none⟩).isSome = true := fun j hj => by
    rw [hW1, World.cell?_alloc_at (w := w.drew) ROW _ w.heap.size j rfl, Array.getElem?_eq_getElem (by omega)]; rfl
  have hNf : ∀ j, W1.frozen? ⟨w.heap.size, j, none⟩ = false := fun j => by rw [hW1]; exact World.frozen?_alloc_at (w := w.drew) ROW _ w.heap.size j rfl
  have hOb : ∀ j v, w.cell? ⟨b, j, none⟩ = some v → W1.cell? ⟨b, j, none⟩ = some v := fun j v h => by rw [hW1, World.cell?_alloc_past (w := w.drew) _ b j hbw]; exact h
  have hOv : ∀ j v, w.cell? ⟨vb, j, none⟩ = some v → W1.cell? ⟨vb, j, none⟩ = some v := fun j v h => by rw [hW1, World.cell?_alloc_past (w := w.drew) _ vb j hvw]; exact h
  have hcpA : ∀ (W : World), (∀ x, W.cell? x = W1.cell? x) → (∀ x, W.frozen? x = W1.frozen? x) → ∀ ty dc, (Builtin.copy_ #[26, 26] ty #[.slice (some ⟨w.heap.size, i * 6, none⟩) (n + m - i) dc, .slice (some ⟨vb, voff, none⟩) m vc]).run Tryd.prog W = .ok (goInt (Nat.min m (n + m - i))) (W.setCells w.heap.size (i * 6) vs) := fun W hWc hWf ty dc =>
    run_copy_cellsN W _ _ ty 29 6 w.heap.size (i * 6) (n + m - i) dc ⟨vb, voff, none⟩ m vc vs Tryd.underlying26 hsz (by rw [hvl]; simp only [Nat.min_def]; split <;> omega)
      (fun j v hj => by rw [Addr.add_lit, hWc]; exact hOv _ v (hvs j v hj))
      (fun j hj => by rw [hWc]; exact hN _ (by omega)) (fun j hj => by rw [hWf]; exact hNf _) h1v
  have hGn : n + m ≤ G := by rw [hG]; exact grownCap_ge w _ _ _
  have hG63 : G ≤ 9223372036854775807 := by
    have := grownCap_le_maxLen w (n + m) c 29 (by unfold maxLen; omega)
    rw [← hG] at this
    unfold maxLen at this
    omega
  have hGi : ¬ (G = i) := by omega
  have hGim : ¬ (G = i + m) := by omega
  have hci : ¬ (c = i) := by omega
  have hbN : b ≠ w.heap.size := by omega
  have hdl : (cs.drop (i * 6)).length = (n - i) * 6 := by have := List.length_drop (i := i * 6) (l := cs); omega
  have hcpB : ∀ (W : World), (∀ x, W.cell? x = (W1.setCells w.heap.size (i * 6) vs).cell? x) → (∀ x, W.frozen? x = (W1.setCells w.heap.size (i * 6) vs).frozen? x) → ∀ ty dc sc, (Builtin.copy_ #[26, 26] ty #[.slice (some ⟨w.heap.size, (i + m) * 6, none⟩) (n + m - (i + m)) dc, .slice (some ⟨b, off + i * 6, none⟩) (n - i) sc]).run Tryd.prog W = .ok (goInt (Nat.min (n - i) (n + m - (i + m)))) (W.setCells w.heap.size ((i + m) * 6) (cs.drop (i * 6))) := fun W hWc hWf ty dc sc =>
    run_copy_cellsN W _ _ ty 29 6 w.heap.size ((i + m) * 6) (n + m - (i + m)) dc ⟨b, off + i * 6, none⟩ (n - i) sc (cs.drop (i * 6)) Tryd.underlying26 hsz (by rw [hdl]; simp only [Nat.min_def]; split <;> omega)
      (fun j v hj => by
        rw [Addr.add_lit, hWc, World.cell?_setCells_out _ _ _ _ _ (fun h _ => absurd h hbN), Nat.add_assoc]
        exact hOb _ v (hcs (i * 6 + j) v (by rwa [List.getElem?_drop] at hj)))
      (fun j hj => by rw [hWc]; exact isSome_setCells _ _ _ _ (fun t ht => hN _ (by omega)) _ (hN _ (by omega)))
      (fun j hj => by rw [hWf, World.frozen?_setCells]; exact hNf _) (fun v hv => h1c v (List.mem_of_mem_drop hv))
  subst hW1
  have hE1 : ∀ x, ((w.alloc (.cells ROW 29)).drew).cell? x = (w.drew.alloc (.cells ROW 29)).cell? x := fun x => rfl
  have hE2 : ∀ x, ((w.alloc (.cells ROW 29)).drew).frozen? x = (w.drew.alloc (.cells ROW 29)).frozen? x := fun x => rfl
  have hF1 : ∀ x, (((w.alloc (.cells ROW 29)).drew.setCells w.heap.size (i * 6) vs).drew).cell? x = ((w.drew.alloc (.cells ROW 29)).setCells w.heap.size (i * 6) vs).cell? x := fun x => rfl
  have hF2 : ∀ x, (((w.alloc (.cells ROW 29)).drew.setCells w.heap.size (i * 6) vs).drew).frozen? x = ((w.drew.alloc (.cells ROW 29)).setCells w.heap.size (i * 6) vs).frozen? x := fun x => rfl
  have hw1 : IntKind.i64.wrap ((i : Int) + (m : Int)) = (i : Int) + (m : Int) := by rw [IntKind.wrap_i64]; omega
  have hb1 : (0 : Int) ≤ (i : Int) + (m : Int) := by omega
  have hin : i ≤ n := by omega
  have htn : ((i : Int) + (m : Int)).toNat = i + m := by omega
  have hb3 : (i : Int) ≤ (n : Int) := by omega
  clear hkk hik hold hROW hG hRl
  go_enter Tryd.func34, Tryd.ntmps34
  go_wp2_with (first
    | (at_builtin; refine Lib.wpList_append_run _ rfl _ _ _ _ rfl _ _ rfl rfl _ _ (hrz _) ?_)
    | (at_builtin; refine wpList_copy_runI _ rfl _ _ 26 26 rfl _ _ rfl rfl (hcpA _ hE1 hE2 _ _) ?_)
    | (at_builtin; refine wpList_copy_runI _ rfl _ _ 26 26 rfl _ _ rfl rfl (hcpB _ (fun _ => rfl) (fun _ => rfl) _ _ _) ?_))
  go_region_law_o (refine step_copy_runI rfl _ _ 26 26 rfl (.slice (some ⟨w.heap.size, (i + m) * 6, none⟩) (n + m - (i + m)) (G - (i + m))) (.slice (some ⟨b, off + i * 6, none⟩) (n - i) (c - i)) (by simp [Act.eval, Act.put]) (by simp [Act.eval, Act.put]) (hcpB _ hF1 hF2 3 (G - (i + m)) (c - i)) ?_)
  go_wp2
  go_ret
  exact ⟨rfl, rfl⟩
end Go.Proofs.YtmfaejdnaippkaaDoor

end
section
/-
  slices.Insert of one element, out of its four roads: where the new row lies, what it holds, and that no other block has turned.
-/
open Go Go.Proofs Go.RowKit Go.Lib Go.Pw
namespace Go.Proofs.YtmfaejdnaippkaaDoor
set_option maxRecDepth 4000
set_option linter.unusedVariables false
set_option linter.unusedSimpArgs false
def setL : Nat → List Value → Array Value → Array Value
  | _, [], us => us
  | o, v :: r, us => setL (o + 1) r (us.setIfInBounds o v)
theorem setL_size : ∀ (vs : List Value) (o : Nat) (us : Array Value), (setL o vs us).size = us.size
  | [], _, _ => rfl
  | v :: r, o, us => by rw [setL, setL_size r]; simp
theorem setL_out : ∀ (vs : List Value) (o : Nat) (us : Array Value) (j : Nat), (j < o ∨ o + vs.length ≤ j) → (setL o vs us)[j]? = us[j]?
  | [], _, _, _, _ => rfl
  | v :: r, o, us, j, h => by
    rw [setL, setL_out r (o + 1) _ j (by simp at h; omega), Array.getElem?_setIfInBounds_ne (by simp at h; omega)]
theorem setL_in : ∀ (vs : List Value) (o : Nat) (us : Array Value) (j : Nat), j < vs.length → o + j < us.size → (setL o vs us)[o + j]? = vs[j]?
  | [], _, _, j, h, _ => by simp at h
  | v :: r, o, us, 0, h, h' => by
    rw [setL, setL_out r (o + 1) _ _ (by omega)]
    simp at h' ⊢
    simp [h']
  | v :: r, o, us, j + 1, h, h' => by
    have := setL_in r (o + 1) (us.setIfInBounds o v) j (by simp at h; omega) (by simp; omega)
    rw [setL, show o + (j + 1) = o + 1 + j by omega, this]
    rfl
theorem setL_one {vs : List Value} (hv : ∀ v ∈ vs, v.oneCell' = true) : ∀ (o : Nat) (us : Array Value), (∀ (j : Nat) (u : Value), us[j]? = some u → u.oneCell' = true) → ∀ (j : Nat) (u : Value), (setL o vs us)[j]? = some u → u.oneCell' = true := by
  induction vs with
  | nil => exact fun o us h => h
  | cons v r ih =>
    intro o us h
    rw [setL]
    refine ih (fun x hx => hv x (by simp [hx])) (o + 1) _ (fun j u hu => ?_)
    by_cases e : o = j
    · subst e
      by_cases hl : o < us.size
      · rw [Array.getElem?_setIfInBounds_self_of_lt hl] at hu
        obtain rfl := Option.some.inj hu
        exact hv _ (by simp)
      · rw [Array.getElem?_eq_none (by simpa using hl)] at hu; cases hu
    · rw [Array.getElem?_setIfInBounds_ne e] at hu
      exact h j u hu
theorem heap_setCells {b : Nat} {E : TypeId} {f : Nat × Nat} : ∀ (vs : List Value) (o : Nat) (w : World) (us : Array Value), w.heap[b]? = some (.cells us E f) → (w.setCells b o vs).heap[b]? = some (.cells (setL o vs us) E f)
  | [], _, _, _, h => h
  | v :: r, o, w, us, h => by
    rw [World.setCells, setL]
    refine heap_setCells r (o + 1) _ _ ?_
    unfold World.setCell
    simp [Array.getElem?_modify, h]
theorem size_setCells_ {b : Nat} : ∀ (vs : List Value) (o : Nat) (w : World), (w.setCells b o vs).heap.size = w.heap.size
  | [], _, _ => rfl
  | v :: r, o, w => by rw [World.setCells, size_setCells_ r]; simp [World.setCell]
theorem other_setCells_ {b k : Nat} (h : k ≠ b) : ∀ (vs : List Value) (o : Nat) (w : World), (w.setCells b o vs).heap[k]? = w.heap[k]?
  | [], _, _ => rfl
  | v :: r, o, w => by
    rw [World.setCells, other_setCells_ h r]
    simp [World.setCell, Array.getElem?_modify, Ne.symm h]
theorem rest_setCells_ {b : Nat} : ∀ (vs : List Value) (o : Nat) (w : World), (w.setCells b o vs).os = w.os ∧ (w.setCells b o vs).tape = w.tape ∧ (w.setCells b o vs).output = w.output
  | [], _, _ => ⟨rfl, rfl, rfl⟩
  | v :: r, o, w => rest_setCells_ r (o + 1) (w.setCell ⟨b, o, none⟩ v)

/-- The four roads, at one element. -/
structure Roads (P : Program) (F : FuncId) (E : TypeId) (sz by_ : Nat) (z : Value) : Prop where
  shift : ∀ (b n c i vb vc : Nat) (cs vs : List Value) (w : World), i < n → n + 1 ≤ c → c ≤ 9223372036854775807 → vb ≠ b → cs.length = n * sz → vs.length = sz →
    (∀ j v, cs[j]? = some v → w.cell? ⟨b, 0 + j, none⟩ = some v) → (∀ j, j < (n + 1) * sz → (w.cell? ⟨b, 0 + j, none⟩).isSome = true) → (∀ j, j < (n + 1) * sz → w.frozen? ⟨b, 0 + j, none⟩ = false) →
    (∀ j v, vs[j]? = some v → w.cell? ⟨vb, 0 + j, none⟩ = some v) → (∀ v ∈ cs, v.oneCell' = true) → (∀ v ∈ vs, v.oneCell' = true) →
    ∀ (tA tB : TypeId) (kA kB : Nat), w.shape? vb = some (tA, kA) → w.shape? b = some (tB, kB) → kB ≠ 0 → w.frozen? ⟨vb, 0, none⟩ = false → w.frozen? ⟨vb, kA, none⟩ = false →
    Calls P F #[.slice (some ⟨b, 0, none⟩) n c, .int .i64 i, .slice (some ⟨vb, 0, none⟩) 1 vc] w fun e w' =>
      e = .returned (.slice (some ⟨b, 0, none⟩) (n + 1) c) ∧ w' = (w.drew.setCells b (0 + (i + 1) * sz) (cs.drop (i * sz))).setCells b (0 + i * sz) vs
  end_room : ∀ (b n c vb vc : Nat) (vs : List Value) (w : World), n + 1 ≤ c → c ≤ 9223372036854775807 → vs.length = sz → (∀ j, j < sz → (w.cell? ⟨b, 0 + n * sz + j, none⟩).isSome = true) → (∀ j, j < sz → w.frozen? ⟨b, 0 + n * sz + j, none⟩ = false) →
    (∀ j v, vs[j]? = some v → w.cell? ⟨vb, 0 + j, none⟩ = some v) → (∀ v ∈ vs, v.oneCell' = true) →
    Calls P F #[.slice (some ⟨b, 0, none⟩) n c, .int .i64 n, .slice (some ⟨vb, 0, none⟩) 1 vc] w fun e w' =>
      e = .returned (.slice (some ⟨b, 0, none⟩) (n + 1) c) ∧ w' = w.setCells b (0 + n * sz) vs
  end_grow : ∀ (base : Option Addr) (n c vb vc : Nat) (cs vs : List Value) (w : World), n ≤ c → c < n + 1 → (n + 1) * by_ ≤ 140737488355328 → cs.length = n * sz → vs.length = sz → (base = none → n = 0) →
    (∀ a, base = some a → ∀ j v, cs[j]? = some v → w.cell? (a.add j) = some v) → (∀ j v, vs[j]? = some v → w.cell? ⟨vb, 0 + j, none⟩ = some v) → (∀ v ∈ vs, v.oneCell' = true) →
    Calls P F #[.slice base n c, .int .i64 n, .slice (some ⟨vb, 0, none⟩) 1 vc] w fun e w' =>
      e = .returned (.slice (some ⟨w.heap.size, 0, none⟩) (n + 1) (grownCap w (n + 1) c E)) ∧
      w' = w.drew.alloc (.cells ((cs ++ vs).toArray ++ Builtin.zeroCells z.cells (grownCap w (n + 1) c E - (n + 1))) E)
  grow : ∀ (b n c i vb vc : Nat) (cs vs : List Value) (w : World), i < n → n ≤ c → c < n + 1 → (n + 1) * by_ ≤ 140737488355328 → cs.length = n * sz → vs.length = sz →
    (∀ j v, cs[j]? = some v → w.cell? ⟨b, 0 + j, none⟩ = some v) → (∀ j v, vs[j]? = some v → w.cell? ⟨vb, 0 + j, none⟩ = some v) → (∀ v ∈ cs, v.oneCell' = true) → (∀ v ∈ vs, v.oneCell' = true) →
    Calls P F #[.slice (some ⟨b, 0, none⟩) n c, .int .i64 i, .slice (some ⟨vb, 0, none⟩) 1 vc] w fun e w' =>
      e = .returned (.slice (some ⟨w.heap.size, 0, none⟩) (n + 1) (grownCap w (n + 1) c E)) ∧
      w' = (((w.alloc (.cells ((cs.take (i * sz)).toArray ++ Builtin.zeroCells z.cells (n + 1 - i) ++ Builtin.zeroCells z.cells (grownCap w (n + 1) c E - (n + 1))) E)).drew.setCells w.heap.size (i * sz) vs).drew).setCells w.heap.size ((i + 1) * sz) (cs.drop (i * sz))
theorem insS_roads : Roads Tryd.prog 33 9 1 16 (.string ⟨#[]⟩) := by
  refine ⟨fun b n c i vb vc cs vs w h1 h2 h3 h4 h5 h6 h7 h8 h9 h10 h11 h12 tA tB kA kB h13 h14 h15 h16 h17 => ?_, fun b n c vb vc vs w h1 h2 h3 h4 h5 h6 h7 => ?_, fun base n c vb vc cs vs w h1 h2 h3 h4 h5 h6 h7 h8 h9 => ?_, fun b n c i vb vc cs vs w h1 h2 h3 h4 h5 h6 h7 h8 h9 h10 => ?_⟩ <;> (try simp only [Nat.mul_one] at *)
  · exact insS_shift b 0 n c i vb 0 1 vc cs vs w h1 (by omega) h2 h3 h4 h5 h6 h7 h8 h9 h10 h11 h12 tA tB kA kB h13 h14 h15 h16 h17
  · exact insS_end_room b 0 n c vb 0 1 vc vs w (by omega) h1 h2 h3 h4 h5 h6 h7
  · exact insS_end_grow base n c vb 0 1 vc cs vs w (by omega) h1 h2 (by omega) h4 h5 h6 h7 h8 h9
  · exact insS_grow b 0 n c i vb 0 1 vc cs vs w h1 (by omega) h2 h3 (by omega) h5 h6 h7 h8 h9 h10
theorem insV_roads : Roads Tryd.prog 34 29 6 88 (.agg #[.int .i64 0, .bool false, .int .i64 0, .string ⟨#[]⟩, .slice none 0 0, .slice none 0 0]) := by
  refine ⟨fun b n c i vb vc cs vs w h1 h2 h3 h4 h5 h6 h7 h8 h9 h10 h11 h12 tA tB kA kB h13 h14 h15 h16 h17 => ?_, fun b n c vb vc vs w h1 h2 h3 h4 h5 h6 h7 => ?_, fun base n c vb vc cs vs w h1 h2 h3 h4 h5 h6 h7 h8 h9 => ?_, fun b n c i vb vc cs vs w h1 h2 h3 h4 h5 h6 h7 h8 h9 h10 => ?_⟩
  · exact insV_shift b 0 n c i vb 0 1 vc cs vs w h1 (by omega) h2 h3 h4 h5 (by omega) h7 h8 h9 h10 h11 h12 tA tB kA kB h13 h14 h15 h16 h17
  · exact insV_end_room b 0 n c vb 0 1 vc vs w (by omega) h1 h2 (by omega) h4 h5 h6 h7
  · exact insV_end_grow base n c vb 0 1 vc cs vs w (by omega) h1 h2 (by omega) h4 (by omega) h6 h7 h8 h9
  · exact insV_grow b 0 n c i vb 0 1 vc cs vs w h1 (by omega) h2 h3 (by omega) h5 (by omega) h7 h8 h9 h10

/-- What Insert leaves. -/
structure InsDid (E : TypeId) (sz : Nat) (w : World) (base : Option Nat) (n i : Nat) (us uv : Array Value) (b' c' : Nat) (us' : Array Value) (w' : World) : Prop where
  room : n + 1 ≤ c'
  small : c' ≤ maxLen
  row : w'.heap[b']? = some (.cells us' E (0, 0))
  size : us'.size = c' * sz
  front : ∀ j, j < i * sz → us'[j]? = us[j]?
  mid : ∀ j, j < sz → us'[i * sz + j]? = uv[j]?
  back : ∀ j, i * sz ≤ j → j < n * sz → us'[j + sz]? = us[j]?
  one : ∀ (j : Nat) (u : Value), us'[j]? = some u → u.oneCell' = true
  place : base = some b' ∨ b' = w.heap.size
  os : w'.os = w.os
  tape : w'.tape = w.tape
  output : w'.output = w.output
  grew : w.heap.size ≤ w'.heap.size
  other : ∀ k, k < w.heap.size → base ≠ some k → w'.heap[k]? = w.heap[k]?
theorem zero_one {z : Value} (hz : ∀ u ∈ z.cells.toList, u.oneCell' = true) (n : Nat) : ∀ (j : Nat) (u : Value), (Builtin.zeroCells z.cells n)[j]? = some u → u.oneCell' = true := by
  intro j u h
  have hm : u ∈ (Builtin.zeroCells z.cells n) := Array.mem_of_getElem? h
  unfold Builtin.zeroCells at hm
  obtain ⟨i, hi, rfl⟩ := Array.mem_map.1 hm
  have hi : i < n * z.cells.size := Array.mem_range.1 hi
  have hp : 0 < z.cells.size := by
    rcases Nat.eq_zero_or_pos z.cells.size with h | h
    · rw [h] at hi; simp at hi
    · exact h
  have hl : i % z.cells.size < z.cells.size := Nat.mod_lt _ hp
  rw [getElem!_pos z.cells _ hl]
  exact hz _ (by simp)
theorem zero_size {z : Value} {sz : Nat} (hz : z.cells.size = sz) (n : Nat) : (Builtin.zeroCells z.cells n).size = n * sz := by
  unfold Builtin.zeroCells
  simp [hz]
set_option maxHeartbeats 1000000 in
theorem Roads.ins {P : Program} {F : FuncId} {E : TypeId} {sz by_ : Nat} {z : Value} (R : Roads P F E sz by_ z) (hzs : z.cells.size = sz) (hz1 : ∀ u ∈ z.cells.toList, u.oneCell' = true) (hsz : 0 < sz) (w : World) (base : Option Nat) (n c i vb vc : Nat) (us uv : Array Value)
    (hi : i ≤ n) (hn : n ≤ c) (hc : c ≤ maxLen) (hbig : (n + 1) * by_ ≤ 140737488355328) (hn63 : n + 1 ≤ maxLen) (hus : us.size = c * sz) (hnone : base = none → c = 0) (hb : ∀ b, base = some b → w.heap[b]? = some (.cells us E (0, 0)) ∧ vb ≠ b)
    (h1 : ∀ (j : Nat) (u : Value), us[j]? = some u → u.oneCell' = true) (hv : 1 ≤ vc) (hvb : w.heap[vb]? = some (.cells uv E (0, 0))) (hvs : uv.size = vc * sz) (hv1 : ∀ (j : Nat) (u : Value), j < sz → uv[j]? = some u → u.oneCell' = true) :
    Calls P F #[.slice (base.map fun b => ⟨b, 0, none⟩) n c, .int .i64 i, .slice (some ⟨vb, 0, none⟩) 1 vc] w fun e w' => ∃ b' c' us', e = .returned (.slice (some ⟨b', 0, none⟩) (n + 1) c') ∧ InsDid E sz w base n i us uv b' c' us' w' := by
  have hsv : sz ≤ uv.size := by rw [hvs]; exact Nat.le_mul_of_pos_left sz hv
  have hnz : n * sz ≤ us.size := by rw [hus]; exact Nat.mul_le_mul_right _ hn
  have hiz : i * sz ≤ n * sz := Nat.mul_le_mul_right _ hi
  have hn1 : (n + 1) * sz = n * sz + sz := Nat.succ_mul _ _
  have hi1 : (i + 1) * sz = i * sz + sz := Nat.succ_mul _ _
  have hcl : (us.toList.take (n * sz)).length = n * sz := by rw [List.length_take]; simp; omega
  have hvl : (uv.toList.take sz).length = sz := by rw [List.length_take]; simp; omega
  have hcget : ∀ j v, (us.toList.take (n * sz))[j]? = some v → us[j]? = some v := fun j v h => by
    rw [List.getElem?_take] at h
    split at h
    · simpa using h
    · cases h
  have hvget : ∀ j v, (uv.toList.take sz)[j]? = some v → uv[j]? = some v := fun j v h => by
    rw [List.getElem?_take] at h
    split at h
    · simpa using h
    · cases h
  have hcone : ∀ v ∈ us.toList.take (n * sz), v.oneCell' = true := fun v hv => by
    obtain ⟨j, hj⟩ := List.mem_iff_getElem?.1 hv
    exact h1 j v (hcget j v hj)
  have hvone : ∀ v ∈ uv.toList.take sz, v.oneCell' = true := fun v hv => by
    obtain ⟨j, hj⟩ := List.mem_iff_getElem?.1 hv
    exact hv1 j v (by have := (List.getElem?_eq_some_iff.1 hj).1; rw [hvl] at this; exact this) (hvget j v hj)
  have hvcell : ∀ j v, (uv.toList.take sz)[j]? = some v → w.cell? ⟨vb, 0 + j, none⟩ = some v := fun j v h => by
    rw [Nat.zero_add, Lib.cell_of_heap hvb]; exact hvget j v h
  have hvbl : vb < w.heap.size := (Array.getElem?_eq_some_iff.1 hvb).1
  have hmax : maxLen = 9223372036854775807 := rfl
  have hget : ∀ j, j < sz → (uv.toList.take sz)[j]? = uv[j]? := fun j hj => by rw [List.getElem?_take, if_pos hj]; simp
  cases base with
  | none =>
    have hc0 := hnone rfl
    subst hc0
    have hn0 : n = 0 := by omega
    subst hn0
    have hi0 : i = 0 := by omega
    subst hi0
    refine (R.end_grow none 0 0 vb vc (us.toList.take (0 * sz)) (uv.toList.take sz) w (Nat.le_refl _) (by omega) hbig hcl hvl (fun _ => rfl) (fun a ha => by cases ha) hvcell hvone).mono ?_
    rintro e w' ⟨rfl, rfl⟩
    have hg := grownCap_ge w (0 + 1) 0 E
    have hgm := grownCap_le_maxLen w (0 + 1) 0 E (by omega)
    refine ⟨w.heap.size, _, _, rfl, hg, hgm, heap_alloc_at (w := w.drew) _, ?_, fun j hj => by omega, fun j hj => ?_, fun j _ hj => by omega, fun j u hu => ?_, .inr rfl, rfl, rfl, rfl, (by show w.heap.size ≤ (w.heap.push _).size; simp), fun k hk _ => ?_⟩
    · simp only [Array.size_append, List.size_toArray, List.length_append, hcl, hvl, zero_size hzs]
      rw [← hn1, ← Nat.add_mul]
      congr 1
      omega
    · rw [Array.getElem?_append_left (by simp [hcl, hvl]; omega), ← hget j hj]
      simp
    · rw [Array.getElem?_append] at hu
      split at hu
      · have : u ∈ us.toList.take (0 * sz) ++ uv.toList.take sz := List.mem_of_getElem? (by simpa using hu)
        rcases List.mem_append.1 this with h | h
        · exact hcone u h
        · exact hvone u h
      · exact zero_one hz1 _ _ u hu
    · show (w.heap.push _)[k]? = _
      rw [Array.getElem?_push, if_neg (by omega)]
  | some b =>
    obtain ⟨hbw, hne⟩ := hb b rfl
    have hbl : b < w.heap.size := (Array.getElem?_eq_some_iff.1 hbw).1
    have hccell : ∀ j v, (us.toList.take (n * sz))[j]? = some v → w.cell? ⟨b, 0 + j, none⟩ = some v := fun j v h => by
      rw [Nat.zero_add, Lib.cell_of_heap hbw]; exact hcget j v h
    have hsome : ∀ j, j < us.size → (w.cell? ⟨b, j, none⟩).isSome = true := fun j hj => by
      rw [Lib.cell_of_heap hbw, Array.getElem?_eq_getElem hj]; rfl
    have hfz : ∀ j, w.frozen? ⟨b, j, none⟩ = false := fun j => by simp [World.frozen?, hbw]
    have hfv : ∀ j, w.frozen? ⟨vb, j, none⟩ = false := fun j => by simp [World.frozen?, hvb]
    by_cases hroom : n + 1 ≤ c
    · have hrz : (n + 1) * sz ≤ us.size := by rw [hus]; exact Nat.mul_le_mul_right _ hroom
      by_cases hin : i < n
      · refine (R.shift b n c i vb vc (us.toList.take (n * sz)) (uv.toList.take sz) w hin hroom (by omega) hne hcl hvl hccell (fun j hj => by rw [Nat.zero_add]; exact hsome j (by omega)) (fun j _ => hfz _) hvcell hcone hvone E E uv.size us.size
          (by simp [World.shape?, hvb]) (by simp [World.shape?, hbw]) (by omega) (hfv _) (hfv _)).mono ?_
        rintro e w' ⟨rfl, rfl⟩
        simp only [Nat.zero_add]
        have hdl : ((us.toList.take (n * sz)).drop (i * sz)).length = n * sz - i * sz := by rw [List.length_drop, hcl]
        have hw1 := heap_setCells (b := b) (E := E) (f := (0, 0)) ((us.toList.take (n * sz)).drop (i * sz)) ((i + 1) * sz) w.drew us hbw
        have hw2 := heap_setCells (uv.toList.take sz) (i * sz) _ _ hw1
        have r1 := rest_setCells_ (b := b) (uv.toList.take sz) (i * sz) (w.drew.setCells b ((i + 1) * sz) ((us.toList.take (n * sz)).drop (i * sz)))
        have r2 := rest_setCells_ (b := b) ((us.toList.take (n * sz)).drop (i * sz)) ((i + 1) * sz) w.drew
        refine ⟨b, c, _, rfl, hroom, hc, hw2, by rw [setL_size, setL_size, hus], fun j hj => ?_, fun j hj => ?_, fun j hj hj' => ?_, setL_one hvone _ _ (setL_one (fun v hv => hcone v (List.mem_of_mem_drop hv)) _ _ h1), .inl rfl, r1.1.trans r2.1, r1.2.1.trans r2.2.1, r1.2.2.trans r2.2.2, by rw [size_setCells_, size_setCells_]; exact Nat.le_refl _, fun k hk hkb => ?_⟩
        · rw [setL_out _ _ _ _ (by omega), setL_out _ _ _ _ (by omega)]
        · rw [setL_in _ _ _ _ (by omega) (by rw [setL_size]; omega), hget j hj]
        · rw [setL_out _ _ _ _ (by rw [hvl]; omega), show j + sz = (i + 1) * sz + (j - i * sz) by omega, setL_in _ _ _ _ (by omega) (by omega), List.getElem?_drop, List.getElem?_take, if_pos (by omega), show i * sz + (j - i * sz) = j by omega]
          simp
        · rw [other_setCells_ (fun e => hkb (by rw [e])), other_setCells_ (fun e => hkb (by rw [e]))]; rfl
      · have hin : i = n := by omega
        subst hin
        refine (R.end_room b i c vb vc (uv.toList.take sz) w hroom (by omega) hvl (fun j hj => by rw [Nat.zero_add]; exact hsome _ (by omega)) (fun j _ => hfz _) hvcell hvone).mono ?_
        rintro e w' ⟨rfl, rfl⟩
        simp only [Nat.zero_add]
        have hw1 := heap_setCells (b := b) (E := E) (f := (0, 0)) (uv.toList.take sz) (i * sz) w us hbw
        have r1 := rest_setCells_ (b := b) (uv.toList.take sz) (i * sz) w
        refine ⟨b, c, _, rfl, hroom, hc, hw1, by rw [setL_size, hus], fun j hj => ?_, fun j hj => ?_, fun j hj hj' => by omega, setL_one hvone _ _ h1, .inl rfl, r1.1, r1.2.1, r1.2.2, by rw [size_setCells_]; exact Nat.le_refl _, fun k hk hkb => ?_⟩
        · rw [setL_out _ _ _ _ (by omega)]
        · rw [setL_in _ _ _ _ (by omega) (by omega), hget j hj]
        · rw [other_setCells_ (fun e => hkb (by rw [e]))]
    · have hg := grownCap_ge w (n + 1) c E
      have hgm := grownCap_le_maxLen w (n + 1) c E (by omega)
      by_cases hin : i < n
      · refine (R.grow b n c i vb vc (us.toList.take (n * sz)) (uv.toList.take sz) w hin hn (by omega) hbig hcl hvl hccell hvcell hcone hvone).mono ?_
        rintro e w' ⟨rfl, rfl⟩
        have hdl : ((us.toList.take (n * sz)).drop (i * sz)).length = n * sz - i * sz := by rw [List.length_drop, hcl]
        have htl : ((us.toList.take (n * sz)).take (i * sz)).length = i * sz := by rw [List.length_take, hcl]; omega
        have h0 : ∀ (o : Array Value), (w.alloc (.cells o E)).drew.heap[w.heap.size]? = some (.cells o E (0, 0)) := fun o => heap_alloc_at (w := w) _
        have hw1 := heap_setCells (uv.toList.take sz) (i * sz) _ _ (h0 (((us.toList.take (n * sz)).take (i * sz)).toArray ++ Builtin.zeroCells z.cells (n + 1 - i) ++ Builtin.zeroCells z.cells (grownCap w (n + 1) c E - (n + 1))))
        have hw2 := heap_setCells ((us.toList.take (n * sz)).drop (i * sz)) ((i + 1) * sz) (World.drew _) _ hw1
        have hrs : (((us.toList.take (n * sz)).take (i * sz)).toArray ++ Builtin.zeroCells z.cells (n + 1 - i) ++ Builtin.zeroCells z.cells (grownCap w (n + 1) c E - (n + 1))).size = grownCap w (n + 1) c E * sz := by
          simp only [Array.size_append, List.size_toArray, htl, zero_size hzs]
          rw [← Nat.add_mul, ← Nat.add_mul]
          congr 1
          omega
        have hgz : (n + 1) * sz ≤ grownCap w (n + 1) c E * sz := Nat.mul_le_mul_right _ hg
        have hro : ∀ (j : Nat) (u : Value), (((us.toList.take (n * sz)).take (i * sz)).toArray ++ Builtin.zeroCells z.cells (n + 1 - i) ++ Builtin.zeroCells z.cells (grownCap w (n + 1) c E - (n + 1)))[j]? = some u → u.oneCell' = true := by
          intro j u hu
          rw [Array.getElem?_append] at hu
          split at hu
          · rw [Array.getElem?_append] at hu
            split at hu
            · exact hcone u (List.mem_of_mem_take (List.mem_of_getElem? (by simpa using hu)))
            · exact zero_one hz1 _ _ u hu
          · exact zero_one hz1 _ _ u hu
        have hrg : ∀ j, j < i * sz → (((us.toList.take (n * sz)).take (i * sz)).toArray ++ Builtin.zeroCells z.cells (n + 1 - i) ++ Builtin.zeroCells z.cells (grownCap w (n + 1) c E - (n + 1)))[j]? = us[j]? := by
          intro j hj
          rw [Array.getElem?_append_left (by simp only [Array.size_append, List.size_toArray, htl]; omega), Array.getElem?_append_left (by simp only [List.size_toArray, htl]; exact hj)]
          rw [List.getElem?_toArray, List.getElem?_take, if_pos hj, List.getElem?_take, if_pos (by omega)]
          simp
        generalize (((us.toList.take (n * sz)).take (i * sz)).toArray ++ Builtin.zeroCells z.cells (n + 1 - i) ++ Builtin.zeroCells z.cells (grownCap w (n + 1) c E - (n + 1))) = ROW at *
        have r1 := rest_setCells_ (b := w.heap.size) (uv.toList.take sz) (i * sz) (w.alloc (.cells ROW E)).drew
        have r2 := rest_setCells_ (b := w.heap.size) ((us.toList.take (n * sz)).drop (i * sz)) ((i + 1) * sz) (((w.alloc (.cells ROW E)).drew.setCells w.heap.size (i * sz) (uv.toList.take sz)).drew)
        refine ⟨w.heap.size, _, _, rfl, hg, hgm, hw2, by rw [setL_size, setL_size, hrs], fun j hj => ?_, fun j hj => ?_, fun j hj hj' => ?_, setL_one (fun v hv => hcone v (List.mem_of_mem_drop hv)) _ _ (setL_one hvone _ _ hro), .inr rfl, r2.1.trans r1.1, r2.2.1.trans r1.2.1, r2.2.2.trans r1.2.2, ?_, fun k hk hkb => ?_⟩
        · rw [setL_out _ _ _ _ (by omega), setL_out _ _ _ _ (by omega), hrg j hj]
        · rw [setL_out _ _ _ _ (by omega), setL_in _ _ _ _ (by omega) (by omega), hget j hj]
        · rw [show j + sz = (i + 1) * sz + (j - i * sz) by omega, setL_in _ _ _ _ (by omega) (by rw [setL_size]; omega), List.getElem?_drop, List.getElem?_take, if_pos (by omega), show i * sz + (j - i * sz) = j by omega]
          simp
        · rw [size_setCells_]
          show w.heap.size ≤ (World.setCells _ _ _ _).heap.size
          rw [size_setCells_]
          show w.heap.size ≤ (w.heap.push _).size
          simp
        · rw [other_setCells_ (by omega)]
          show (World.setCells _ _ _ _).heap[k]? = _
          rw [other_setCells_ (by omega)]
          show (w.heap.push _)[k]? = _
          rw [Array.getElem?_push, if_neg (by omega)]
      · have hin : i = n := by omega
        subst hin
        refine (R.end_grow (some ⟨b, 0, none⟩) i c vb vc (us.toList.take (i * sz)) (uv.toList.take sz) w hn (by omega) hbig hcl hvl (fun h => by cases h) (fun a ha j v hj => by
          obtain rfl := Option.some.inj ha
          rw [Addr.add_lit]; exact hccell j v hj) hvcell hvone).mono ?_
        rintro e w' ⟨rfl, rfl⟩
        refine ⟨w.heap.size, _, _, rfl, hg, hgm, heap_alloc_at (w := w.drew) _, ?_, fun j hj => ?_, fun j hj => ?_, fun j _ hj => by omega, fun j u hu => ?_, .inr rfl, rfl, rfl, rfl, (by show w.heap.size ≤ (w.heap.push _).size; simp), fun k hk _ => ?_⟩
        · simp only [Array.size_append, List.size_toArray, List.length_append, hcl, hvl, zero_size hzs]
          rw [← hn1, ← Nat.add_mul]
          congr 1
          omega
        · rw [Array.getElem?_append_left (by simp [hcl, hvl]; omega)]
          rw [List.getElem?_toArray, List.getElem?_append_left (by omega), List.getElem?_take, if_pos (by omega)]
          simp
        · rw [Array.getElem?_append_left (by simp [hcl, hvl]; omega)]
          rw [List.getElem?_toArray, List.getElem?_append_right (by omega), hcl, Nat.add_sub_cancel_left, hget j hj]
        · rw [Array.getElem?_append] at hu
          split at hu
          · have : u ∈ us.toList.take (i * sz) ++ uv.toList.take sz := List.mem_of_getElem? (by simpa using hu)
            rcases List.mem_append.1 this with h | h
            · exact hcone u h
            · exact hvone u h
          · exact zero_one hz1 _ _ u hu
        · show (w.heap.push _)[k]? = _
          rw [Array.getElem?_push, if_neg (by omega)]
end Go.Proofs.YtmfaejdnaippkaaDoor

end
section
/-
  slices.Insert of one element, ags a contract over made slices.
-/
open Go Go.Proofs Go.RowKit Go.Lib Go.Pw
namespace Go.Proofs.YtmfaejdnaippkaaDoor
set_option maxRecDepth 4000
set_option linter.unusedVariables false
set_option linter.unusedSimpArgs false
/-- The first argument: nil, or what was made. -/
def insArg (base : Option Nat) (n c : Nat) : PV :=
  match base with
  | none => vNil
  | some id => .ms id 0 n c
theorem Rel.put_row {own : Nat → Prop} {S0 : Base} {w0 w w' : World} {C : Cx} {st : PS} (R : Rel own S0 w0 C (· < st.nx) (· < st.nt) st w) {E : TypeId} {sz n i b' c' : Nat} {us uv us' : Array Value} (base : Option Nat)
    (hbase : ∀ id, base = some id → ∃ t cs, lkp st.heap id = some (.box t cs)) (D : InsDid E sz w (base.map C.ρ) n i us uv b' c' us' w') (heap' : List (Nat × PObj)) (hh : ∀ j o, lkp heap' j = some o → lkp st.heap j = some o ∧ base ≠ some j)
    (cs : List PV) (hr : RepL C st.toks (· < st.nx) (· < st.nt) us'.toList cs) :
    Rel own S0 w0 (C.at st.nx b') (· < st.nx + 1) (· < st.nt) { st with heap := (st.nx, .box E cs) :: heap', nx := st.nx + 1 } w' := by
  have X := R.ext_at b' st.nx (Nat.lt_irrefl _) (U' := (· < st.nx + 1)) (fun j hj => Nat.lt_succ_of_lt hj)
  have hnew : (C.at st.nx b').ρ st.nx = b' := by simp [Cx.at]
  have hρ : ∀ j o, lkp heap' j = some o → (C.at st.nx b').ρ j = C.ρ j := fun j o h => by
    have := (R.hown j o (hh j o h).1).1
    simp only [Cx.at]
    rw [if_neg (by omega)]
  have hnewb : b' < w'.heap.size := (Array.getElem?_eq_some_iff.1 D.row).1
  -- where the new row lies: no cell that never turns, no other object, no row
  have place : (∃ id t us0, base = some id ∧ lkp st.heap id = some (.box t us0) ∧ b' = C.ρ id) ∨ b' = w.heap.size := by
    rcases D.place with h | h
    · cases hb : base with
      | none => rw [hb] at h; cases h
      | some id =>
        obtain ⟨t, cs, ho⟩ := hbase id hb
        rw [hb] at h
        exact .inl ⟨id, t, cs, rfl, ho, (Option.some.inj h).symm⟩
    · exact .inr h
  have lt : ∀ {b : Nat} {x : Obj}, w.heap[b]? = some x → b < w.heap.size := fun h => (Array.getElem?_eq_some_iff.1 h).1
  have keep : ∀ k, k < w.heap.size → (∀ id, base = some id → k ≠ C.ρ id) → w'.heap[k]? = w.heap[k]? := fun k hk hn => D.other k hk (fun e => by
    cases hb : base with
    | none => rw [hb] at e; cases e
    | some id => rw [hb] at e; exact hn id hb (Option.some.inj e).symm)
  have hfree : ∀ o, C.S b' o = none := fun o => by
    rcases place with ⟨id, t, cs, _, ho, rfl⟩ | rfl
    · exact (R.hown id _ ho).2.2.2 o
    · exact R.fresh o
  refine ⟨⟨D.os.trans R.frame.os, D.tape.trans R.frame.tape, D.output.trans R.frame.output, Nat.le_trans R.frame.size D.grew, fun k hk hn => ?_⟩, fun b o v h => ?_, ?_, ?_, ?_, ?_, ?_, ?_, R.tinj, R.snew, R.sold, R.base.trans X, R.glob⟩
  · rw [keep k (Nat.lt_of_lt_of_le hk R.frame.size) (fun id hb e => ?_)]
    · exact R.frame.block k hk hn
    · obtain ⟨t, cs, ho⟩ := hbase id hb
      rcases (R.hown id _ ho).2.2.1 with h | h
      · rw [← e] at h; exact hn h
      · omega
  · have h1 := R.stable b o v h
    have hlt : b < w.heap.size := by
      rcases Nat.lt_or_ge b w.heap.size with h' | h'
      · exact h'
      · simp [World.cell?, Array.getElem?_eq_none h'] at h1
    have hk := keep b hlt (fun id hb e => by
      obtain ⟨t, cs, ho⟩ := hbase id hb
      have h2 : C.S b o = some v := h
      have := (R.hown id _ ho).2.2.2 o
      rw [← e, h2] at this
      cases this)
    exact (World.cell?_of_block hk).trans h1
  · intro j T cs' h
    simp only [lkp_cons] at h
    split at h
    · rename_i e
      subst e
      obtain ⟨rfl, rfl⟩ := PObj.box.inj (Option.some.inj h)
      refine ⟨us', by rw [hnew]; exact D.row, by simpa using hr.1, fun k v p hv hp => ?_⟩
      have := hr.2 k v p (by simpa using hv) hp
      exact ⟨this.1, this.2.ext X⟩
    · obtain ⟨h0, hne⟩ := hh j _ h
      obtain ⟨vs, h1, h2, h3⟩ := R.box j T cs' h0
      refine ⟨vs, ?_, h2, fun i v p hv hp => ⟨(h3 i v p hv hp).1, (h3 i v p hv hp).2.ext X⟩⟩
      rw [hρ j _ h, keep _ (lt h1) (fun id hb e => ?_)]
      · exact h1
      · obtain ⟨t, cs, ho⟩ := hbase id hb
        exact hne (by rw [hb, R.hinj j id _ _ h0 ho e])
  · intro j s pos h
    simp only [lkp_cons] at h
    split at h
    · cases h
    · obtain ⟨h0, hne⟩ := hh j _ h
      have h1 := R.iter j s pos h0
      rw [hρ j _ h, keep _ (lt h1) (fun id hb e => ?_)]
      · exact h1
      · obtain ⟨t, cs, ho⟩ := hbase id hb
        exact hne (by rw [hb, R.hinj j id _ _ h0 ho e])
  · intro j o h
    simp only [lkp_cons] at h
    split at h
    · rename_i e
      subst e
      rw [hnew]
      refine ⟨Nat.lt_succ_self _, hnewb, ?_, hfree⟩
      rcases place with ⟨id, t, cs, _, ho, rfl⟩ | rfl
      · exact (R.hown id _ ho).2.2.1
      · exact .inr R.frame.size
    · obtain ⟨h0, _⟩ := hh j _ h
      obtain ⟨h1, h2, h3, h4⟩ := R.hown j o h0
      rw [hρ j _ h]
      exact ⟨Nat.lt_succ_of_lt h1, Nat.lt_of_lt_of_le h2 D.grew, h3, h4⟩
  · have apart : ∀ j o, lkp heap' j = some o → C.ρ j ≠ b' := fun j o h e => by
      obtain ⟨h0, hne⟩ := hh j o h
      rcases place with ⟨id, t, cs, hb, ho, rfl⟩ | rfl
      · exact hne (by rw [hb, R.hinj j id _ _ h0 ho e])
      · have := (R.hown j o h0).2.1; omega
    intro j k oj ok h1 h2 he
    simp only [lkp_cons] at h1 h2
    split at h1 <;> split at h2
    · rename_i e1 e2
      rw [e1, e2]
    · rename_i e1 e2
      subst e1
      rw [hnew, hρ k _ h2] at he
      exact absurd he.symm (apart k _ h2)
    · rename_i e1 e2
      subst e2
      rw [hnew, hρ j _ h1] at he
      exact absurd he (apart j _ h1)
    · rw [hρ j _ h1, hρ k _ h2] at he
      exact R.hinj j k oj ok (hh j _ h1).1 (hh k _ h2).1 he
  · intro k t h
    obtain ⟨h1, h2, ⟨vs, h3, h4⟩, h5⟩ := R.tok k t h
    refine ⟨h1, h2, ⟨vs, ?_, h4⟩, h5⟩
    show w'.heap[(C.τ k).1]? = _
    rw [keep _ (lt h3) (fun id hb e => ?_)]
    · exact h3
    · obtain ⟨t', cs, ho⟩ := hbase id hb
      exact R.tbox id _ k t ho h e.symm
  · intro j oj k t h1 h2
    simp only [lkp_cons] at h1
    split at h1
    · rename_i e
      subst e
      rw [hnew]
      rcases place with ⟨id, t', cs, hb, ho, rfl⟩ | rfl
      · exact R.tbox id _ k t ho h2
      · obtain ⟨_, _, ⟨vs, h3, _⟩, _⟩ := R.tok k t h2
        have := lt h3
        show w.heap.size ≠ (C.τ k).1
        omega
    · rw [hρ j _ h1]
      exact R.tbox j oj k t (hh j _ h1).1 h2
theorem ltL_val : ∀ (l : List Value) (a b : Nat), PV.ltL a b (l.map .val) = true
  | [], _, _ => rfl
  | v :: r, a, b => by rw [List.map_cons, PV.ltL, ltL_val r a b]; rfl
theorem OkI.insert {P : Program} {F : FuncId} {E : TypeId} {sz by_ : Nat} {z : Value} (hent : enters P F = true) (RR : Roads P F E sz by_ z) (hzs : z.cells.size = sz) (hz1 : ∀ u ∈ z.cells.toList, u.oneCell' = true) (hsz : 0 < sz)
    {st : PS} {tk : Nat} {x : List PV} (hx : x.length = sz) (ht : lkp st.toks tk = some ⟨E, sz, 1⟩) (base : Option Nat) (n c i : Nat) (cs rest : List PV) (hcs : cs.length = n * sz) (hrest : rest.length = (c - n) * sz) (hi : i ≤ n) (hn : n ≤ c) (hc : c ≤ maxLen) (hn1 : (n + 1) * by_ ≤ 140737488355328) (hn63 : n + 1 ≤ maxLen)
    (h0 : base = none → c = 0) (hb : ∀ id, base = some id → lkp st.heap id = some (.box E (cs ++ rest))) (heap' : List (Nat × PObj)) (hh : ∀ j o, lkp heap' j = some o → lkp st.heap j = some o ∧ base ≠ some j) :
    OkI P F [insArg base n c, vI i, .row tk [x]] st (fun r st' => ∃ c' rest', n + 1 ≤ c' ∧ c' ≤ maxLen ∧ rest'.length = (c' - (n + 1)) * sz ∧ (∀ a b, PV.ltL a b rest' = true) ∧ r = .ms st.nx 0 (n + 1) c' ∧
      st' = { st with heap := (st.nx, .box E (cs.take (i * sz) ++ x ++ cs.drop (i * sz) ++ rest')) :: heap', nx := st.nx + 1 }) := by
  refine ⟨hent, fun own S0 w0 w C vals R hsv hrep => ?_⟩
  obtain ⟨v0, v1, v2, rfl⟩ : ∃ v0 v1 v2, vals = #[v0, v1, v2] := by
    cases vals with
    | mk l => match l, hsv with
      | [a, b, c], _ => exact ⟨a, b, c, rfl⟩
  have r0 := hrep 0 v0 _ rfl rfl
  obtain ⟨rfl, _⟩ := rep_val (hrep 1 v1 _ rfl rfl)
  have r2 := hrep 2 v2 _ rfl rfl
  cases r2 with
  | frz h => cases h
  | row h hk htk =>
  obtain ⟨g1, g2, g3⟩ := htk _ ht
  obtain rfl := g3 rfl
  obtain ⟨t1, t2, ⟨uv, t3, t4⟩, t5, t6, t7⟩ := R.tok tk _ ht
  have hvb : w.heap[(C.τ tk).1]? = some (.cells uv E (0, 0)) := t3
  have hvs : uv.size = (C.τ tk).2 * sz := t4
  have hv1 : 1 ≤ (C.τ tk).2 := t5
  -- the element's cells
  have hcell : ∀ j, j < sz → ∃ u p, uv[j]? = some u ∧ x[j]? = some p ∧ RepF C.S u p := by
    cases h with
    | sl f hn' hc' hsz' hA hr =>
      obtain ⟨b, o, e, hS⟩ := hA (by simp)
      obtain ⟨rfl, rfl⟩ : (C.τ tk).1 = b ∧ 0 = o := by
        have := Option.some.inj e
        exact ⟨congrArg Addr.block this, congrArg Addr.off this⟩
      rename_i sz'
      have hsz2 : sz' = sz := by rw [← hsz' x (by simp), hx]
      subst hsz2
      intro j hj
      have h1 := hS 0 j (by simp) hj
      have h2 := R.stable _ _ _ h1
      have hp : x[j]? = some (x[j]'(by omega)) := List.getElem?_eq_getElem (by omega)
      refine ⟨f 0 j, _, ?_, hp, hr 0 j x _ rfl hp⟩
      rw [Lib.cell_of_heap hvb] at h2
      rw [← h2]
      congr 1
      omega
  have hbase : ∀ id, base = some id → ∃ t cs, lkp st.heap id = some (.box t cs) := fun id h => ⟨_, _, hb id h⟩
  -- the old row
  obtain ⟨us, hus, husz, hus1, husr⟩ : ∃ us : Array Value, us.size = c * sz ∧ (∀ b, base.map C.ρ = some b → w.heap[b]? = some (.cells us E (0, 0)) ∧ (C.τ tk).1 ≠ b) ∧ (∀ (j : Nat) (u : Value), us[j]? = some u → u.oneCell' = true) ∧
      (∀ (j : Nat) (u : Value) (p : PV), us[j]? = some u → (cs ++ rest)[j]? = some p → RepV C st.toks (· < st.nx) (· < st.nt) u p) := by
    cases hbb : base with
    | none =>
      have := h0 hbb
      subst this
      exact ⟨#[], by simp, fun b h => (by cases h), fun j u h => (by simp at h), fun j u p h => (by simp at h)⟩
    | some id =>
      obtain ⟨us, q1, q2, q3⟩ := R.box id E _ (hb id hbb)
      have hlen : us.size = c * sz := by
        rw [q2, List.length_append, hcs, hrest, ← Nat.add_mul]
        congr 1
        omega
      refine ⟨us, hlen, fun b h => ?_, fun j u hu => ?_, fun j u p hu hp => (q3 j u p hu hp).2⟩
      · obtain rfl := Option.some.inj h
        exact ⟨q1, fun e => R.tbox id _ tk _ (hb id hbb) ht e.symm⟩
      · have hj : j < (cs ++ rest).length := by rw [← q2]; exact (Array.getElem?_eq_some_iff.1 hu).1
        exact (q3 j u _ hu (List.getElem?_eq_getElem hj)).1
  have hv0 : v0 = .slice ((base.map C.ρ).map fun b => ⟨b, 0, none⟩) n c := by
    cases hbb : base with
    | none =>
      have hc0 := h0 hbb
      rw [hbb] at r0
      obtain ⟨rfl, _⟩ := rep_val r0
      have hn0 : n = 0 := by omega
      rw [hc0, hn0]
      rfl
    | some id =>
      rw [hbb] at r0
      exact (rep_ms r0).1
  subst hv0
  refine (RR.ins hzs hz1 hsz w (base.map C.ρ) n c i (C.τ tk).1 (C.τ tk).2 us uv hi hn hc hn1 hn63 hus (fun h => h0 (by simpa using h)) husz hus1 hv1 hvb hvs (fun j u hj hu => by
    obtain ⟨u', p, e1, _, e3⟩ := hcell j hj
    rw [e1] at hu
    obtain rfl := Option.some.inj hu
    exact e3.one)).mono ?_
  rintro e w' ⟨b', c', us', rfl, D⟩
  have hiz : i * sz ≤ n * sz := Nat.mul_le_mul_right _ hi
  have hn1z : (n + 1) * sz = n * sz + sz := Nat.succ_mul _ _
  have hcz : (n + 1) * sz ≤ us'.size := by rw [D.size]; exact Nat.mul_le_mul_right _ D.room
  have hlen : (cs.take (i * sz) ++ x ++ cs.drop (i * sz)).length = (n + 1) * sz := by
    simp only [List.length_append, List.length_take, List.length_drop, hcs, hx]
    omega
  have hrep' : RepL C st.toks (· < st.nx) (· < st.nt) us'.toList (cs.take (i * sz) ++ x ++ cs.drop (i * sz) ++ (us'.toList.drop ((n + 1) * sz)).map .val) := by
    refine ⟨by rw [List.length_append, hlen, List.length_map, List.length_drop]; simp; omega, fun j u p hu hp => ?_⟩
    have hu' : us'[j]? = some u := by simpa using hu
    refine ⟨D.one j u hu', ?_⟩
    by_cases h1 : j < (n + 1) * sz
    · rw [List.getElem?_append_left (by omega)] at hp
      by_cases h2 : j < i * sz
      · rw [List.getElem?_append_left (by simp only [List.length_append, List.length_take, hcs, hx]; omega), List.getElem?_append_left (by simp only [List.length_take, hcs]; omega), List.getElem?_take, if_pos h2] at hp
        rw [D.front j h2] at hu'
        exact husr j u p hu' (by rw [List.getElem?_append_left (by omega)]; exact hp)
      · by_cases h3 : j < i * sz + sz
        · rw [List.getElem?_append_left (by simp only [List.length_append, List.length_take, hcs, hx]; omega), List.getElem?_append_right (by simp only [List.length_take, hcs]; omega)] at hp
          simp only [List.length_take, hcs] at hp
          rw [Nat.min_eq_left hiz] at hp
          have h4 := D.mid (j - i * sz) (by omega)
          rw [show i * sz + (j - i * sz) = j by omega, hu'] at h4
          obtain ⟨u', p', e1, e2, e3⟩ := hcell (j - i * sz) (by omega)
          rw [← h4] at e1
          rw [e2] at hp
          obtain rfl := Option.some.inj e1
          obtain rfl := Option.some.inj hp
          exact .frz e3
        · rw [List.getElem?_append_right (by simp only [List.length_append, List.length_take, hcs, hx]; omega)] at hp
          simp only [List.length_append, List.length_take, hcs, hx, List.getElem?_drop] at hp
          rw [Nat.min_eq_left hiz] at hp
          have h4 := D.back (j - sz) (by omega) (by omega)
          rw [show j - sz + sz = j by omega, hu'] at h4
          refine husr (j - sz) u p h4.symm ?_
          rw [List.getElem?_append_left (by omega), ← hp]
          congr 1
          omega
    · rw [List.getElem?_append_right (by omega), hlen, List.getElem?_map, List.getElem?_drop, show (n + 1) * sz + (j - (n + 1) * sz) = j by omega, hu] at hp
      obtain rfl := Option.some.inj hp
      exact .frz (.val (D.one j u hu'))
  have R' := Rel.put_row R base hbase D heap' hh _ hrep'
  refine ⟨_, _, _, C.at st.nx b', ⟨c', _, D.room, D.small, ?_, ltL_val _, rfl, rfl⟩, rfl, R', R.ext_at b' st.nx (Nat.lt_irrefl _) (fun j hj => Nat.lt_succ_of_lt hj), ?_⟩
  · rw [List.length_map, List.length_drop]
    simp only [Array.length_toList]
    rw [D.size, ← Nat.sub_mul]
  · have : RepV (C.at st.nx b') st.toks (· < st.nx + 1) (· < st.nt) (.slice (some ⟨(C.at st.nx b').ρ st.nx, 0, none⟩) (n + 1) c') (.ms st.nx 0 (n + 1) c') := .ms (Nat.lt_succ_self _) D.room
    have hb' : (C.at st.nx b').ρ st.nx = b' := by simp [Cx.at]
    rw [hb'] at this
    exact this
end Go.Proofs.YtmfaejdnaippkaaDoor

end
section
/-
  Values ags data: what they hold, cell by cell; rows that grow; lists of values.
-/
open Go Go.Proofs Go.Pw Go.RowKit
namespace Go.Proofs.YtmfaejdnaippkaaDoor
set_option maxRecDepth 4000
set_option linter.unusedVariables false
set_option linter.unusedSimpArgs false
inductive V where
  | mk (kind : Int) (b : Bool) (n : Int) (s : ByteArray) (items : List V) (keys : List ByteArray)
namespace V
def kind : V → Int | .mk k _ _ _ _ _ => k
def b : V → Bool | .mk _ b _ _ _ _ => b
def n : V → Int | .mk _ _ n _ _ _ => n
def s : V → ByteArray | .mk _ _ _ s _ _ => s
def items : V → List V | .mk _ _ _ _ l _ => l
def keys : V → List ByteArray | .mk _ _ _ _ _ l => l
end V
theorem V.kind_mk (k : Int) (b : Bool) (n : Int) (s : ByteArray) (l : List V) (ks : List ByteArray) : (V.mk k b n s l ks).kind = k := rfl
theorem V.b_mk (k : Int) (b : Bool) (n : Int) (s : ByteArray) (l : List V) (ks : List ByteArray) : (V.mk k b n s l ks).b = b := rfl
theorem V.n_mk (k : Int) (b : Bool) (n : Int) (s : ByteArray) (l : List V) (ks : List ByteArray) : (V.mk k b n s l ks).n = n := rfl
theorem V.s_mk (k : Int) (b : Bool) (n : Int) (s : ByteArray) (l : List V) (ks : List ByteArray) : (V.mk k b n s l ks).s = s := rfl
theorem V.items_mk (k : Int) (b : Bool) (n : Int) (s : ByteArray) (l : List V) (ks : List ByteArray) : (V.mk k b n s l ks).items = l := rfl
theorem V.keys_mk (k : Int) (b : Bool) (n : Int) (s : ByteArray) (l : List V) (ks : List ByteArray) : (V.mk k b n s l ks).keys = ks := rfl
attribute [go_sem] V.kind_mk V.b_mk V.n_mk V.s_mk V.items_mk V.keys_mk
def vZero : V := .mk 0 false 0 ByteArray.empty [] []
instance : Inhabited V := ⟨vZero⟩
mutual
def encC6 : V → List PV
  | .mk k b n s is ks => [vI k, vB b, vI n, vS s, .sl (encV is), .sl (encT ks)]
def encV : List V → List (List PV)
  | [] => []
  | v :: r => encC6 v :: encV r
end
/-- A value's cells. -/
abbrev cellsV (v : V) : List PV := [vI v.kind, vB v.b, vI v.n, vS v.s, .sl (encV v.items), .sl (encT v.keys)]
theorem encC6_eq (v : V) : encC6 v = cellsV v := by cases v; simp [encC6, cellsV, V.kind, V.b, V.n, V.s, V.items, V.keys]
theorem encV_nil : encV [] = [] := by simp [encV]
theorem encV_cons (v : V) (l : List V) : encV (v :: l) = cellsV v :: encV l := by rw [← encC6_eq]; simp [encV]
theorem encV_map : ∀ l, encV l = l.map cellsV
  | [] => encV_nil
  | v :: r => by rw [encV_cons, encV_map r]; rfl
theorem encV_len (l : List V) : (encV l).length = l.length := by rw [encV_map]; simp
theorem encV_get (l : List V) (i : Nat) : (encV l).getD i [] = if i < l.length then cellsV (l.getD i default) else [] := by
  rw [encV_map]
  by_cases h : i < l.length
  · simp [h, List.getD_eq_getElem?_getD]
  · rw [if_neg h, List.getD_eq_getElem?_getD, List.getElem?_eq_none (by simpa using h)]; rfl
theorem encV_take (l : List V) (n : Nat) : (encV l).take n = encV (l.take n) := by simp [encV_map, List.map_take]
theorem encV_drop (l : List V) (n : Nat) : (encV l).drop n = encV (l.drop n) := by simp [encV_map, List.map_drop]
theorem encV_snoc (l : List V) (v : V) : encV l ++ [cellsV v] = encV (l ++ [v]) := by simp [encV_map]
theorem ix_V {a : List V} {i : Int} {K : PV → Prop} (h0 : 0 ≤ i) (h1 : i < (a.length : Int)) : ixP 6 i K (.sl (encV a)) = K (.fp (cellsV (a.getD i.toNat default))) := by
  have h : i.toNat < a.length := by omega
  simp only [ixP, encV_get, if_pos h, encV_len, cellsV, List.length_cons, List.length_nil, h0, h1, true_and]
theorem ix_Vr {a : List V} {i : Int} {k : Nat} {K : PV → Prop} (h0 : 0 ≤ i) (h1 : i < (a.length : Int)) : ixP 6 i K (.row k (encV a)) = K (.fp (cellsV (a.getD i.toNat default))) := by
  have h : i.toNat < a.length := by omega
  simp only [ixP, encV_get, if_pos h, encV_len, cellsV, List.length_cons, List.length_nil, h0, h1, true_and]
theorem encV_all (l : List V) : (∀ x ∈ encV l, x.length = 6) = True := eq_true (fun x hx => by
  rw [encV_map] at hx
  obtain ⟨n, _, rfl⟩ := List.mem_map.1 hx
  rfl)
theorem fz_encV : ∀ (l : List V), fzLL (encV l) = some (encV l)
  | [] => by rw [encV_nil]; rfl
  | x :: r => by
    have ih := fz_encV r
    rw [encV_cons, fzLL, ih]
    rfl
attribute [go_sem ↓ 2000] ix_V ix_Vr
attribute [go_sem] encV_len encV_all fz_encV
/-! Cells, one behind the other. -/
def flatT (l : List ByteArray) : List PV := l.map fun s => vS s
def flatV (l : List V) : List PV := l.flatMap cellsV
theorem ltL_app {a b : Nat} : ∀ (l m : List PV), PV.ltL a b (l ++ m) = (PV.ltL a b l && PV.ltL a b m)
  | [], m => by simp [PV.ltL]
  | p :: r, m => by rw [List.cons_append, PV.ltL, PV.ltL, ltL_app r m, Bool.and_assoc]
theorem ltL_flatT (a b : Nat) : ∀ (l : List ByteArray), PV.ltL a b (flatT l) = true
  | [] => rfl
  | x :: r => by
    have ih := ltL_flatT a b r
    unfold flatT at ih ⊢
    rw [List.map_cons, PV.ltL, ih]; rfl
theorem ltL_flatV (a b : Nat) : ∀ (l : List V), PV.ltL a b (flatV l) = true
  | [] => rfl
  | x :: r => by
    have ih := ltL_flatV a b r
    unfold flatV at ih ⊢
    rw [List.flatMap_cons, ltL_app, ih]; rfl
theorem flatT_len (l : List ByteArray) : (flatT l).length = l.length := by simp [flatT]
theorem flatV_len (l : List V) : (flatV l).length = l.length * 6 := by
  unfold flatV
  induction l with
  | nil => rfl
  | cons v r ih => simp only [List.flatMap_cons, List.length_append, ih, List.length_cons, List.length_nil]; omega
theorem flatT_take (l : List ByteArray) (i : Nat) : (flatT l).take i = flatT (l.take i) := by simp [flatT, List.map_take]
theorem flatT_drop (l : List ByteArray) (i : Nat) : (flatT l).drop i = flatT (l.drop i) := by simp [flatT, List.map_drop]
theorem flatV_cons (v : V) (l : List V) : flatV (v :: l) = cellsV v ++ flatV l := rfl
theorem flatV_app (l m : List V) : flatV (l ++ m) = flatV l ++ flatV m := by simp [flatV]
theorem flatV_take : ∀ (l : List V) (i : Nat), (flatV l).take (i * 6) = flatV (l.take i)
  | l, 0 => by simp [flatV]
  | [], i + 1 => by simp [flatV]
  | v :: r, i + 1 => by
    rw [flatV_cons, List.take_succ_cons, flatV_cons, ← flatV_take r i, List.take_append, List.take_of_length_le (by simp; omega)]
    congr 2
    simp; omega
theorem flatV_drop : ∀ (l : List V) (i : Nat), (flatV l).drop (i * 6) = flatV (l.drop i)
  | l, 0 => by simp
  | [], i + 1 => by simp [flatV]
  | v :: r, i + 1 => by
    rw [flatV_cons, List.drop_succ_cons, ← flatV_drop r i, List.drop_append, List.drop_eq_nil_of_le (by simp; omega)]
    rw [List.nil_append]
    congr 1
    simp; omega
theorem chunksT (l : List ByteArray) (rest : List PV) : chunks 1 l.length (flatT l ++ rest) = encT l := by
  unfold chunks encT
  apply List.ext_getElem?
  intro j
  rw [List.getElem?_map, List.getElem?_map]
  by_cases h : j < l.length
  · rw [List.getElem?_range h, List.getElem?_eq_getElem h]
    simp only [Option.map_some, Nat.mul_one]
    rw [List.drop_append_of_le_length (by rw [flatT_len]; omega), flatT_drop, List.drop_eq_getElem_cons h]
    rfl
  · rw [List.getElem?_eq_none (by simpa using h), List.getElem?_eq_none (by simpa using h)]
    rfl
theorem chunksV (l : List V) (rest : List PV) : chunks 6 l.length (flatV l ++ rest) = encV l := by
  unfold chunks
  rw [encV_map]
  apply List.ext_getElem?
  intro j
  rw [List.getElem?_map, List.getElem?_map]
  by_cases h : j < l.length
  · rw [List.getElem?_range h, List.getElem?_eq_getElem h]
    simp only [Option.map_some]
    rw [List.drop_append_of_le_length (by rw [flatV_len]; omega), flatV_drop, List.drop_eq_getElem_cons h]
    rfl
  · rw [List.getElem?_eq_none (by simpa using h), List.getElem?_eq_none (by simpa using h)]
    rfl
/-! Sizes. -/
def szT : List ByteArray → Nat
  | [] => 0
  | k :: r => 1 + k.size + szT r
theorem szT_len : ∀ l, l.length ≤ szT l
  | [] => Nat.zero_le _
  | k :: r => by have := szT_len r; rw [szT, List.length_cons]; omega
theorem szT_few {l : List ByteArray} : ∀ s ∈ l, s.size ≤ szT l := by
  induction l with
  | nil => intro s h; cases h
  | cons k r ih =>
    intro s h
    rw [szT]
    rcases List.mem_cons.1 h with rfl | h
    · omega
    · have := ih s h; omega
mutual
def szV : V → Nat
  | .mk _ _ _ s is ks => 1 + s.size + szT ks + szVs is
def szVs : List V → Nat
  | [] => 0
  | v :: r => szV v + szVs r
end
theorem szV_eq (v : V) : szV v = 1 + v.s.size + szT v.keys + szVs v.items := by cases v; simp [szV, V.s, V.keys, V.items]
theorem szVs_nil : szVs [] = 0 := by simp [szVs]
theorem szVs_cons (v : V) (l : List V) : szVs (v :: l) = szV v + szVs l := by simp [szVs]
theorem szVs_app : ∀ (l m : List V), szVs (l ++ m) = szVs l + szVs m
  | [], m => by rw [szVs_nil, List.nil_append, Nat.zero_add]
  | v :: r, m => by rw [List.cons_append, szVs_cons, szVs_cons, szVs_app r m]; omega
theorem szV_pos (v : V) : 1 ≤ szV v := by rw [szV_eq]; omega
theorem szVs_len : ∀ (l : List V), l.length ≤ szVs l
  | [] => Nat.zero_le _
  | v :: r => by have := szV_pos v; have := szVs_len r; rw [szVs_cons, List.length_cons]; omega
theorem szVs_mem : ∀ {l : List V} {v : V}, v ∈ l → szV v ≤ szVs l
  | x :: r, v, h => by
    rw [szVs_cons]
    rcases List.mem_cons.1 h with rfl | h
    · omega
    · have := szVs_mem h; omega
/-- Induction over values. -/
theorem V.ind {p : V → Prop} (h : ∀ v, (∀ x ∈ v.items, p x) → p v) : ∀ v, p v := by
  have key : ∀ n, ∀ v, szV v < n → p v := by
    intro n
    induction n with
    | zero => intro v hv; omega
    | succ n ih =>
      intro v hv
      refine h v (fun x hx => ih x ?_)
      have := szVs_mem hx
      rw [szV_eq] at hv
      omega
  exact fun v => key _ v (Nat.lt_succ_self _)
end Go.Proofs.YtmfaejdnaippkaaDoor

end
