/-
  Contracts and plain laws on the way to the statement; each says its own conditions.
-/
import Derived.Test.YtcgmpcbkndpmbaaGreatDoorGW4
import Derived.Lib.ParseIntB
import Derived.Test.YtcgmpcbkndpmbaaGreatDoorGW5
import Derived.Lib.AppendIntMem
import Derived.Lib.AtoiErrMem
import Derived.Lib.DecodeN
import Derived.Laws.RangeAny
import Derived.Lib.RuneCountTail
import Derived.Lib.QuoteLoop
import Derived.Lib.TrimUEq
section
section
/-
 Contracts and plain laws on the way to the statement; each says its own conditions.
-/
open Go Go.Proofs Go.Pw
namespace Go.Proofs.YtcgmpcbkndpmbaaGreatDoor
set_option maxRecDepth 4000
set_option linter.unusedSimpArgs false
set_option linter.unusedVariables false
attribute [local go_sem] Nat.le_refl Tryz.results26 encI_len encI_take tdivE tmodE
end Go.Proofs.YtcgmpcbkndpmbaaGreatDoor
end
section
open Go Go.Proofs Go.Pw
namespace Go.Proofs.YtcgmpcbkndpmbaaGreatDoor
set_option maxRecDepth 4000
set_option linter.unusedSimpArgs false
set_option linter.unusedVariables false
attribute [local go_sem] Nat.le_refl Tryz.results26 encI_len encI_take tdivE tmodE
end Go.Proofs.YtcgmpcbkndpmbaaGreatDoor
end
section
open Go Go.Proofs Go.Pw
namespace Go.Proofs.YtcgmpcbkndpmbaaGreatDoor
set_option maxRecDepth 4000
set_option linter.unusedSimpArgs false
set_option linter.unusedVariables false
attribute [local go_sem] Nat.le_refl Tryz.results26 encI_len encI_take tdivE tmodE
def figs (n : Nat) : List Int := if h : n = 0 then [] else (n % 10000 : Nat) :: figs (n / 10000)
def repN (z : Int) : PV := .agg [vB (decide (z < 0)), .sl (encI (figs z.natAbs))]
theorem figs_len : ∀ (k N : Nat), N < 10000 ^ k -> (figs N).length <= k
 | 0, N, h => by
  have : N = 0 := by simpa using h
  subst this
  unfold figs
  simp
 | k + 1, N, h => by
  unfold figs
  split
  ·simp
  ·have := figs_len k (N / 10000) (by rw [Nat.pow_succ] at h; omega)
   simp only [List.length_cons]
   omega
theorem figs_step (N : Nat) (h : N ≠ 0) : figs N = ((N % 10000 : Nat) : Int) :: figs (N / 10000) := by
 rw [figs, dif_neg h]
def ofS (below : Bool) (m : Int) : List Int -> PS
 | [] => ⟨[(0, vI m), (2, .ptr 0 0), (3, .ptr 4 0)], [(4, .box 62 [vB below, .val (.slice none 0 0)]), (0, .box 62 [vB false, .val (.slice none 0 0)])], [], 5, 6⟩
 | x :: r => ⟨[(0, vI m), (2, .ptr 0 0), (3, .ptr 4 0)], [(4, .box 62 [vB below, .row 18 (encI (x :: r))]), (0, .box 62 [vB false, .val (.slice none 0 0)])], [(18, ⟨3, 1, (x :: r).length⟩)], 5, 19⟩
theorem of_dig (m : Int) (h : -9223372036854775808 <= m) (h' : m <= 9223372036854775807) : (if IntKind.i64.wrap (0 - m.tmod 10000) > m.tmod 10000 then IntKind.i64.wrap (0 - m.tmod 10000) else m.tmod 10000) = ((m.natAbs % 10000 : Nat) : Int) := by
 have : m.tmod 10000 = if 0 <= m then m % 10000 else -((-m) % 10000) := by
  split
  ·exact Int.tmod_eq_emod_of_nonneg (by assumption)
  ·rw [<- Int.tmod_eq_emod_of_nonneg (by omega), Int.neg_tmod]; omega
 rw [this]
 split <;> rw [wrap64 (by omega) (by omega)] <;> omega
theorem of_div (m : Int) : (m.tdiv 10000).natAbs = m.natAbs / 10000 := by
 rw [Int.natAbs_tdiv]; rfl
set_option maxHeartbeats 1000000 in
theorem of_ok (n : Int) (h1 : -9223372036854775808 <= n) (h2 : n <= 9223372036854775807) : Ok Tryz.prog 26 [vI n] (repN n) := by
 refine Ok.of_pwp (by kernel_rfl) Tryz.func26 rfl (by kernel_rfl) (by kernel_rfl) ?_
 have hl : (figs n.natAbs).length <= 5 := figs_len 5 _ (by omega)
 simp (implicitDefEqProofs := false) (disch := omega) only [go_sem, simprocAttr, ↓ix_enc]
 refine p_loop (ι := { p : Int × List Int // -9223372036854775808 <= p.1 /\ p.1 <= 9223372036854775807 /\ figs n.natAbs = p.2 ++ figs p.1.natAbs }) (fun p => ofS (decide (n < 0)) p.1.1 p.1.2) (fun p => p.1.1.natAbs)
   ⟨(n, []), h1, h2, rfl⟩ ?_ ?_
 ·simp only [ofS]
  constructor <;> simp only [go_sem, simprocAttr]
 ·rintro ⟨⟨m, xs⟩, k1, k2, k3⟩
  simp only at k1 k2 k3
  have hlen := congrArg List.length k3
  rw [List.length_append] at hlen
  have hq := of_div m
  have hw : IntKind.i64.wrap (m.tdiv 10000) = m.tdiv 10000 := wrap64 (by omega) (by omega)
  cases xs with
  | nil =>
   simp only [ofS]
   simp (implicitDefEqProofs := false) (disch := omega) only [go_sem, simprocAttr, ↓ix_enc]
   with_reducible refine ifK_nsplit (fun hne => ?_) (fun heq => ?_)
   ·simp (implicitDefEqProofs := false) (disch := omega) only [go_sem, simprocAttr, ↓ix_enc]
    simp only [of_dig m k1 k2, hw, encI_one]
    refine ⟨⟨(m.tdiv 10000, [((m.natAbs % 10000 : Nat) : Int)]), by simp only []; omega, by simp only []; omega, ?_⟩, by simp only []; omega, ?_⟩
    ·rw [k3, figs_step m.natAbs (by omega), hq]; rfl
    ·simp only [List.length_nil, Nat.zero_add]
     constructor <;> simp only [go_sem, simprocAttr]
   ·simp (implicitDefEqProofs := false) (disch := omega) only [go_sem, simprocAttr, ↓ix_enc]
    subst heq
    rw [repN, k3]
    simp [figs, encI]
  | cons x r =>
   simp only [List.length_cons] at hlen
   simp only [ofS]
   simp (implicitDefEqProofs := false) (disch := omega) only [go_sem, simprocAttr, ↓ix_enc]
   with_reducible refine ifK_nsplit (fun hne => ?_) (fun heq => ?_)
   ·simp (implicitDefEqProofs := false) (disch := omega) only [go_sem, simprocAttr, ↓ix_enc]
    simp only [of_dig m k1 k2, hw, encI_one, encI_app, List.cons_append]
    refine ⟨⟨(m.tdiv 10000, (x :: r) ++ [((m.natAbs % 10000 : Nat) : Int)]), by simp only []; omega, by simp only []; omega, ?_⟩, by simp only []; omega, ?_⟩
    ·rw [k3, figs_step m.natAbs (by omega), hq]; simp
    ·simp only [List.cons_append, List.length_append, List.length_singleton]
     constructor <;> simp only [go_sem, simprocAttr]
   ·simp (implicitDefEqProofs := false) (disch := omega) only [go_sem, simprocAttr, ↓ix_enc]
    subst heq
    rw [repN, k3]
    simp [figs]
def fits (z : Int) : Prop := -9223372036854775808 <= z /\ z <= 9223372036854775807
instance (z : Int) : Decidable (fits z) := by unfold fits; infer_instance
abbrev two (n e : Int) : PV := .tup [vI n, vI e]
end Go.Proofs.YtcgmpcbkndpmbaaGreatDoor
end
section
open Go Go.Proofs Go.Pw
namespace Go.Proofs.YtcgmpcbkndpmbaaGreatDoor
set_option maxRecDepth 4000
set_option linter.unusedSimpArgs false
set_option linter.unusedVariables false
attribute [local go_sem] Nat.le_refl Tryz.results26 encI_len encI_take tdivE tmodE
def carry (f : Int) : Int × Int := if 10000 <= f then (f - 10000, 1) else if f < 0 then (f + 10000, -1) else (f, 0)
def bothG (a b : List Int) (s : Int) : Nat -> Nat -> Int -> List Int × Int
 | 0, _, o => ([], o)
 | k + 1, i, o =>
  let c := carry (o + a.getD i 0 + s * b.getD i 0)
  let r := bothG a b s k (i + 1) c.2
  (c.1 :: r.1, r.2)
def Digs (a : List Int) : Prop := ∀ x ∈ a, 0 <= x /\ x <= 9999
theorem Digs.get {a : List Int} (h : Digs a) (i : Nat) : 0 <= a.getD i 0 /\ a.getD i 0 <= 9999 := by
 rw [List.getD_eq_getElem?_getD]
 cases hx : a[i]? with
 | none => simp
 | some x => exact h x (List.mem_of_getElem? hx)
theorem getD_none {a : List Int} {i : Nat} (h : a.length <= i) : a.getD i 0 = 0 := by
 rw [List.getD_eq_getElem?_getD, List.getElem?_eq_none h]; rfl
structure BothI (a b : List Int) (s : Int) (N : Nat) where
 i : Int
 o : Int
 xs : List Int
 k : Nat
 k1 : 0 <= i
 k2 : i <= N
 k3 : -1 <= o
 k4 : o <= 1
 k5 : xs.length = i.toNat
 k6 : bothG a b s N 0 0 = (xs ++ (bothG a b s (N - i.toNat) i.toNat o).1, (bothG a b s (N - i.toNat) i.toNat o).2)
end Go.Proofs.YtcgmpcbkndpmbaaGreatDoor
end
section
open Go Go.Proofs Go.Pw
namespace Go.Proofs.YtcgmpcbkndpmbaaGreatDoor
set_option maxRecDepth 4000
set_option linter.unusedSimpArgs false
set_option linter.unusedVariables false
attribute [local go_sem] Nat.le_refl Tryz.results26 encI_len encI_take tdivE tmodE
end Go.Proofs.YtcgmpcbkndpmbaaGreatDoor
end
section
open Go Go.Proofs Go.Pw
namespace Go.Proofs.YtcgmpcbkndpmbaaGreatDoor
set_option maxRecDepth 4000
set_option linter.unusedSimpArgs false
set_option linter.unusedVariables false
attribute [local go_sem] Nat.le_refl Tryz.results26 encI_len encI_take tdivE tmodE
end Go.Proofs.YtcgmpcbkndpmbaaGreatDoor
end
section
open Go Go.Proofs Go.Pw
namespace Go.Proofs.YtcgmpcbkndpmbaaGreatDoor
set_option maxRecDepth 4000
set_option linter.unusedSimpArgs false
set_option linter.unusedVariables false
attribute [local go_sem] Nat.le_refl Tryz.results26 encI_len encI_take tdivE tmodE
def valF : List Int -> Int
 | [] => 0
 | x :: r => x + 10000 * valF r
theorem figs_zero : figs 0 = [] := by rw [figs]; simp
theorem figs_val (n : Nat) : valF (figs n) = n := by
 induction n using Nat.strongRecOn with
 | _ n ih =>
  by_cases h : n = 0
  ·subst h; rw [figs_zero]; rfl
  ·rw [figs_step n h, valF, ih (n / 10000) (by omega)]
   omega
theorem figs_digs (n : Nat) : Digs (figs n) := by
 induction n using Nat.strongRecOn with
 | _ n ih =>
  by_cases h : n = 0
  ·subst h; rw [figs_zero]; intro x hx; cases hx
  ·rw [figs_step n h]
   intro x hx
   rcases List.mem_cons.1 hx with rfl | hx
   ·omega
   ·exact ih (n / 10000) (by omega) x hx
theorem valF_nonneg : ∀ {l : List Int}, Digs l -> 0 <= valF l
 | [], _ => by decide
 | x :: r, h => by
  have h1 := h x (by simp)
  have h2 := valF_nonneg (l := r) (fun y hy => h y (by simp [hy]))
  rw [valF]
  omega
end Go.Proofs.YtcgmpcbkndpmbaaGreatDoor
end
section
open Go Go.Proofs Go.Pw
namespace Go.Proofs.YtcgmpcbkndpmbaaGreatDoor
set_option maxRecDepth 4000
set_option linter.unusedSimpArgs false
set_option linter.unusedVariables false
attribute [local go_sem] Nat.le_refl Tryz.results26 encI_len encI_take tdivE tmodE
end Go.Proofs.YtcgmpcbkndpmbaaGreatDoor
end
section
open Go Go.Proofs Go.Pw
namespace Go.Proofs.YtcgmpcbkndpmbaaGreatDoor
set_option maxRecDepth 4000
set_option linter.unusedSimpArgs false
set_option linter.unusedVariables false
attribute [local go_sem] Nat.le_refl Tryz.results26 encI_len encI_take tdivE tmodE
theorem pow_pos' (k : Nat) : (0 : Int) < 10000 ^ k := Int.pow_pos (by decide)
theorem valF_lt : ∀ {l : List Int}, Digs l -> valF l < 10000 ^ l.length
 | [], _ => by decide
 | x :: r, h => by
  have h1 := h x (by simp)
  have ih := valF_lt (l := r) (fun y hy => h y (by simp [hy]))
  rw [valF, List.length_cons, Int.pow_succ]
  omega
theorem pow_le' {j k : Nat} (h : j <= k) : (10000 : Int) ^ j <= 10000 ^ k := by
 obtain ⟨d, rfl⟩ := Nat.exists_eq_add_of_le h
 induction d with
 | zero => exact Int.le_refl _
 | succ d ih =>
  have := ih (by omega)
  have := pow_pos' (j + d)
  rw [<- Nat.add_assoc, Int.pow_succ]
  omega
end Go.Proofs.YtcgmpcbkndpmbaaGreatDoor
end
section
open Go Go.Proofs Go.Pw
namespace Go.Proofs.YtcgmpcbkndpmbaaGreatDoor
set_option maxRecDepth 4000
set_option linter.unusedSimpArgs false
set_option linter.unusedVariables false
attribute [local go_sem] Nat.le_refl Tryz.results26 encI_len encI_take tdivE tmodE
theorem Digs.take {a : List Int} (h : Digs a) (k : Nat) : Digs (a.take k) := fun x hx => h x (List.mem_of_mem_take hx)
theorem figs_len_ge (n : Nat) (h : n ≠ 0) : (10000 : Int) ^ ((figs n).length - 1) <= n := by
 induction n using Nat.strongRecOn with
 | _ n ih =>
  rw [figs_step n h, List.length_cons]
  by_cases h' : n / 10000 = 0
  ·rw [h', figs_zero]; simp; omega
  ·have := ih (n / 10000) (by omega) h'
   have hl : (figs (n / 10000)).length ≠ 0 := by rw [figs_step _ h']; simp
   rw [show (figs (n / 10000)).length + 1 - 1 = ((figs (n / 10000)).length - 1) + 1 by omega, Int.pow_succ]
   omega
end Go.Proofs.YtcgmpcbkndpmbaaGreatDoor
end
section
open Go Go.Proofs Go.Pw
namespace Go.Proofs.YtcgmpcbkndpmbaaGreatDoor
set_option maxRecDepth 4000
set_option linter.unusedSimpArgs false
set_option linter.unusedVariables false
attribute [local go_sem] Nat.le_refl Tryz.results26 encI_len encI_take tdivE tmodE
theorem figs_nil (n : Nat) : figs n = [] ↔ n = 0 := by
 constructor
 ·intro h
  apply Decidable.byContradiction
  intro hn
  rw [figs_step n hn] at h
  cases h
 ·intro h; subst h; exact figs_zero
theorem figs_pos (n : Nat) : 0 < (figs n).length ↔ 0 < n := by
 have := figs_nil n
 rw [<- List.length_eq_zero_iff] at this
 omega
def Fg (k : Nat) (z : Int) : Prop := z.natAbs < 10000 ^ k
def Sm (z : Int) : Prop := ∃ k, k <= 9000 /\ Fg k z
theorem Fg.mono {j k : Nat} {z : Int} (h : Fg j z) (hk : j <= k) : Fg k z := Nat.lt_of_lt_of_le h (Nat.pow_le_pow_right (by decide) hk)
theorem Fg.sm {k : Nat} {z : Int} (h : Fg k z) (hk : k <= 9000) : Sm z := ⟨k, hk, h⟩
theorem Sm.len {z : Int} (h : Sm z) : (figs z.natAbs).length <= 9000 := by
 obtain ⟨k, h1, h2⟩ := h
 exact Nat.le_trans (figs_len k _ h2) h1
theorem Fg.of_fits {z : Int} (h : fits z) : Fg 5 z := by
 unfold fits at h
 exact Nat.lt_of_le_of_lt (show z.natAbs <= 9223372036854775808 by omega) (by decide)
theorem Sm.of_fits {z : Int} (h : fits z) : Sm z := (Fg.of_fits h).sm (by decide)
theorem Fg.add {k : Nat} {x y : Int} (h : Fg k x) (g : Fg k y) : Fg (k + 1) (x + y) := by
 unfold Fg at *
 rw [Nat.pow_succ]
 omega
theorem Fg.neg {k : Nat} {x : Int} (h : Fg k x) : Fg k (-x) := by
 unfold Fg at *
 omega
theorem Fg.mul {j k : Nat} {x y : Int} (h : Fg j x) (g : Fg k y) : Fg (j + k) (x * y) := by
 unfold Fg at *
 rw [Int.natAbs_mul, Nat.pow_add]
 exact Nat.mul_lt_mul_of_lt_of_le h (Nat.le_of_lt g) (Nat.pow_pos (by decide))
theorem of_rep (n : Int) (h : fits n) : Ok Tryz.prog 26 [vI n] (repN n) := of_ok n h.1 h.2
theorem Sm.neg {x : Int} (h : Sm x) : Sm (-x) := by
 obtain ⟨k, h1, h2⟩ := h
 exact ⟨k, h1, h2.neg⟩
end Go.Proofs.YtcgmpcbkndpmbaaGreatDoor
end
section
open Go Go.Proofs Go.Pw
namespace Go.Proofs.YtcgmpcbkndpmbaaGreatDoor
set_option maxRecDepth 4000
set_option linter.unusedSimpArgs false
set_option linter.unusedVariables false
attribute [local go_sem] Nat.le_refl Tryz.results26 encI_len encI_take tdivE tmodE
theorem valF_fg {a : List Int} (hA : Digs a) : Fg a.length (valF a) := by
 have h1 := valF_nonneg hA
 have h2 := valF_lt hA
 unfold Fg
 have : ((10000 ^ a.length : Nat) : Int) = (10000 : Int) ^ a.length := by simp
 omega
end Go.Proofs.YtcgmpcbkndpmbaaGreatDoor
end
section
open Go Go.Proofs Go.Pw
namespace Go.Proofs.YtcgmpcbkndpmbaaGreatDoor
set_option maxRecDepth 4000
set_option linter.unusedSimpArgs false
set_option linter.unusedVariables false
attribute [local go_sem] Nat.le_refl Tryz.results26 encI_len encI_take tdivE tmodE
theorem ext_list (s : ByteArray) (a b : Nat) : (s.extract a b).data.toList = (s.data.toList.drop a).take (b - a) := by
 rw [ByteArray.data_extract, Array.toList_extract, List.extract_eq_take_drop]
theorem bt_ext (s : ByteArray) {a b : Nat} {i : Nat} (h : a + i < b) : bt (s.extract a b) i = bt s (a + i : Nat) := by
 unfold bt
 rw [ext_list, Int.toNat_natCast, Int.toNat_natCast, List.getD_eq_getElem?_getD, List.getD_eq_getElem?_getD, List.getElem?_take, if_pos (by omega), List.getElem?_drop]
theorem bt_list {s : ByteArray} {i : Nat} {c : UInt8} (h : s.data.toList[i]? = some c) : bt s i = (c.toNat : Int) := by
 unfold bt
 rw [Int.toNat_natCast, List.getD_eq_getElem?_getD, h]; rfl
theorem bt_rng (s : ByteArray) (i : Int) : 0 <= bt s i /\ bt s i <= 255 := by
 unfold bt
 have := UInt8.toNat_lt (s.data.toList.getD i.toNat 0)
 omega
def isD (b : Int) : Prop := 48 <= b /\ b <= 57
instance (b : Int) : Decidable (isD b) := by unfold isD; infer_instance
def allD (t : ByteArray) (k : Nat) : Prop := ∀ j, j < t.size -> k <= j -> isD (bt t j)
instance (t : ByteArray) (k : Nat) : Decidable (allD t k) := by unfold allD; infer_instance
def numV (t : ByteArray) : Nat -> Int
 | 0 => 0
 | i + 1 => numV t i * 10 + (bt t i - 48)
theorem numV_nn {t : ByteArray} (h : allD t 0) : ∀ {i : Nat}, i <= t.size -> 0 <= numV t i
 | 0, _ => by simp [numV]
 | i + 1, hi => by
  have ih := numV_nn h (i := i) (by omega)
  have d := h i (by omega) (by omega)
  unfold isD at d
  rw [numV]
  omega
theorem numV_mono {t : ByteArray} (h : allD t 0) : ∀ {j i : Nat}, i <= j -> j <= t.size -> numV t i <= numV t j
 | 0, i, hi, _ => by
  have : i = 0 := by omega
  subst this; exact Int.le_refl _
 | j + 1, i, hi, hj => by
  by_cases e : i = j + 1
  ·subst e; exact Int.le_refl _
  ·have ih := numV_mono h (j := j) (i := i) (by omega) (by omega)
   have nn := numV_nn h (i := j) (by omega)
   have d := h j (by omega) (by omega)
   unfold isD at d
   rw [numV]
   omega
theorem parseU {t : ByteArray} (h : allD t 0) : ∀ (m i : Nat), m = t.size - i -> i <= t.size -> numV t i <= 18446744073709551615 ->
  Lib.parseUintM (2 ^ 64 - 1) (numV t i).toNat (t.data.toList.drop i) = if numV t t.size <= 18446744073709551615 then .ok (numV t t.size).toNat else .range
 | 0, i, hm, hi, hv => by
  have : i = t.size := by omega
  subst this
  rw [if_pos hv, List.drop_eq_nil_of_le (by simp)]
  rfl
 | m + 1, i, hm, hi, hv => by
  have hl : i < t.data.toList.length := by simp; omega
  have hn := numV_nn h hi
  have d := h i (by omega) (by omega)
  obtain ⟨c, hc⟩ : ∃ c, t.data.toList[i]? = some c := ⟨_, List.getElem?_eq_getElem hl⟩
  have hb := bt_list hc
  rw [hb] at d
  unfold isD at d
  have e1 : t.data.toList.drop i = c :: t.data.toList.drop (i + 1) := by
   rw [List.drop_eq_getElem_cons hl]
   have : t.data.toList[i] = c := by
    have := List.getElem?_eq_getElem hl
    rw [hc] at this
    exact (Option.some.inj this).symm
   rw [this]
  have e2 : numV t (i + 1) = numV t i * 10 + (c.toNat - 48) := by rw [numV, hb]
  have mono := numV_mono h (show i + 1 <= t.size by omega) (Nat.le_refl _)
  rw [e1, Lib.parseUintM, if_pos (by omega)]
  by_cases h1 : 1844674407370955162 <= (numV t i).toNat
  ·rw [if_pos h1, if_neg (by omega)]
  ·rw [if_neg h1]
   by_cases h2 : 18446744073709551615 < numV t (i + 1)
   ·rw [if_pos (by omega), if_neg (by omega)]
   ·rw [if_neg (by omega)]
    have ih := parseU h m (i + 1) (by omega) (by omega) (by omega)
    rw [<- ih]
    congr 1
    omega
def fromF (s : ByteArray) : Nat := if 0 < s.size /\ bt s 0 = 45 then 1 else 0
def formP (s : ByteArray) : Prop := fromF s < s.size /\ ¬ (bt s (fromF s) = 48 /\ fromF s + 1 < s.size) /\ allD s (fromF s)
instance (s : ByteArray) : Decidable (formP s) := by unfold formP; infer_instance
def digS (s : ByteArray) : ByteArray := if bt s 0 = 45 then s.extract 1 s.size else s
def zOf (s : ByteArray) : Int := if bt s 0 = 45 then -(numV (digS s) (digS s).size) else numV (digS s) (digS s).size
theorem digS_size {s : ByteArray} (h : formP s) : (digS s).size = s.size - fromF s := by
 obtain ⟨h1, _⟩ := h
 unfold digS fromF at *
 split
 ·rename_i e
  rw [if_pos ⟨by omega, e⟩]
  simp
 ·rename_i e
  rw [if_neg (fun k => e k.2)]
  omega
theorem digS_all {s : ByteArray} (h : formP s) : allD (digS s) 0 := by
 have hz := digS_size h
 obtain ⟨h1, _, h3⟩ := h
 intro j hj _
 rw [hz] at hj
 unfold fromF at h1 hz hj
 unfold allD fromF at h3
 unfold digS
 split
 ·rename_i e
  have hs : 0 < s.size := by omega
  rw [if_pos ⟨hs, e⟩] at hj
  rw [if_pos ⟨hs, e⟩] at h3
  have := h3 (1 + j) (by omega) (by omega)
  rw [bt_ext s (by omega)]
  exact this
 ·rename_i e
  rw [if_neg (fun k => e k.2)] at hj h3
  exact h3 j (by omega) (by omega)
theorem digS_list (s : ByteArray) : (digS s).data.toList = if bt s 0 = 45 then s.data.toList.drop 1 else s.data.toList := by
 unfold digS
 split
 ·rw [ext_list, List.take_of_length_le (by simp)]
 ·rfl
theorem parse_law {s : ByteArray} (h : formP s) : Lib.parseIntB 64 s.data.toList = if fits (zOf s) then .ok (zOf s) else .range := by
 have hz := digS_size h
 have hall := digS_all h
 have hd := digS_list s
 have hu := parseU hall _ 0 rfl (Nat.zero_le _) (by simp [numV])
 have hn := numV_nn hall (Nat.le_refl _)
 have h0 : fromF s < s.size := h.1
 rw [List.drop_zero] at hu
 obtain ⟨c, r, hl⟩ : ∃ c r, s.data.toList = c :: r := by
  cases e : s.data.toList with
  | nil =>
   have : s.size = 0 := by
    have := congrArg List.length e
    simpa using this
   omega
  | cons c r => exact ⟨c, r, rfl⟩
 have hb : bt s 0 = (c.toNat : Int) := bt_list (s := s) (i := 0) (by rw [hl]; rfl)
 have hne : (digS s).data.toList ≠ [] := by
  intro e
  have h2 : (digS s).data.toList.length = 0 := by rw [e]; rfl
  rw [Array.length_toList] at h2
  have h3 : (digS s).size = 0 := h2
  omega
 have e43 : c.toNat ≠ 43 := by
  intro e
  have h3 := h.2.2
  rw [e] at hb
  have : fromF s = 0 := by unfold fromF; rw [if_neg (by rw [hb]; rintro ⟨_, h⟩; cases h)]
  have d := h3 0 (by omega) (by omega)
  have hb' : bt s (0 : Nat) = 43 := hb
  rw [hb'] at d
  unfold isD at d
  omega
 have e45 : (c.toNat = 43 ∨ c.toNat = 45) = (bt s 0 = 45) := by
  rw [hb]
  exact propext ⟨fun h => by omega, fun h => by omega⟩
 have key : (if c.toNat = 43 ∨ c.toNat = 45 then r else s.data.toList) = (digS s).data.toList := by
  rw [hd]
  by_cases e : bt s 0 = 45
  ·rw [if_pos e, if_pos (by rw [e45]; exact e), hl]; rfl
  ·rw [if_neg e, if_neg (by rw [e45]; exact e)]
 have hU : Lib.parseUintB 64 (digS s).data.toList = if numV (digS s) (digS s).size <= 18446744073709551615 then .ok (numV (digS s) (digS s).size).toNat else .range := by
  rw [Lib.parseUintB, if_neg hne]
  exact hu
 unfold Lib.parseIntB
 rw [hl]
 simp only
 rw [<- hl, key, hU]
 generalize hV : numV (digS s) (digS s).size = V at *
 have hzo : zOf s = if bt s 0 = 45 then -V else V := by unfold zOf; rw [hV]
 rw [hzo]
 unfold fits
 by_cases hs : bt s 0 = 45
 ·have hc : c.toNat = 45 := by omega
  simp only [hs, hc, if_true, not_true_eq_false, false_and, if_false, true_and]
  by_cases k1 : V <= 18446744073709551615
  ·simp only [k1, if_true]
   by_cases k2 : V <= 9223372036854775808
   ·rw [if_neg (by omega), if_pos (by omega)]
    congr 1
    omega
   ·rw [if_pos (by omega), if_neg (by omega)]
  ·simp only [k1, if_false]
   rw [if_neg (by omega)]
 ·have hc : c.toNat ≠ 45 := by omega
  simp only [hs, hc, if_false, not_false_eq_true, true_and, false_and]
  by_cases k1 : V <= 18446744073709551615
  ·simp only [k1, if_true]
   by_cases k2 : V <= 9223372036854775807
   ·rw [if_neg (by omega), if_pos (by omega)]
    congr 1
    omega
   ·rw [if_pos (by omega), if_neg (by omega)]
  ·simp only [k1, if_false]
   rw [if_neg (by omega)]
end Go.Proofs.YtcgmpcbkndpmbaaGreatDoor
end

end
section
open Go Go.Proofs Go.Pw Go.RowKit
namespace Go.Proofs.YtcgmpcbkndpmbaaGreatDoor
set_option maxRecDepth 4000
set_option linter.unusedVariables false
set_option linter.unusedSimpArgs false
theorem stable_below {S : Cells} {w w' : World} (hS : Stable S w) (hb : Below w.heap.size w w') : Stable S w' := fun b o u hu => by
 have h1 := hS b o u hu
 have hlt : b < w.heap.size := by
  rcases Nat.lt_or_ge b w.heap.size with h' | h'
  ·exact h'
  ·simp [World.cell?, Array.getElem?_eq_none h'] at h1
 rw [World.cell?_of_block (hb.block b hlt)]
 exact h1
theorem Ok.of_plain {P : Program} {f : FuncId} {l : List Value} {r : PV} (hent : enters P f = true) (h : ∀ w, Known w -> Calls P f l.toArray w fun e w' => ∃ v, e = .returned v /\ (∀ S, RepA S v r) /\ Below w.heap.size w w') : Ok P f (l.map .val) r := by
 refine ⟨hent, fun S w vals hk hS hn hr => ?_⟩
 have e : vals = l.toArray := by
  apply Array.ext (by simpa using hn)
  intro i h1 h2
  have hl : i < l.length := by simpa using h2
  have := (rep_val (hr i vals[i] (.val l[i]) (Array.getElem?_eq_getElem h1) (by simp [hl]))).1
  simpa using this
 subst e
 refine (h w hk).mono ?_
 rintro e w' ⟨v, rfl, hv, hb⟩
 exact ⟨v, S, rfl, SLe.refl _, stable_below hS hb, fun b o u hu => .inl hu, hv S, hb⟩
theorem rep_pair {C : Cx} {T : List (Nat × Tok)} {U V : Nat -> Prop} {a b : Value} {p q : PV} (h1 : RepV C T U V a p) (h2 : RepV C T U V b q) : RepV C T U V (.tuple #[a, b]) (.tup [p, q]) :=
 .tup rfl (fun i v x hv hx => by
  match i with
  | 0 => simp at hv hx; subst hv hx; exact h1
  | 1 => simp at hv hx; subst hv hx; exact h2
  | i + 2 => simp at hv)
theorem rep_ptr0 {C : Cx} {T : List (Nat × Tok)} {U V : Nat -> Prop} (N : Nat) : RepV C T U V (.pointer (some ⟨N, 0, none⟩)) (.fp []) := .fp (fun i p h => by simp at h)
theorem parseInt_yes (s : ByteArray) (hs : s.size <= 1000000) (h : formP s) (hf : fits (zOf s)) : Ok Tryz.prog 110 [vS s, vI 10, vI 64] (.tup [vI (zOf s), .val .nilIface]) :=
 Ok.of_plain (l := [.string s, .int .i64 10, .int .i64 64]) (by kernel_rfl) fun w hk => (Tryz.strconv_ParseInt_10_at64_ok s (by omega) (zOf s) (by rw [parse_law h, if_pos hf]) w).mono (by
  rintro e w' ⟨rfl, rfl | ⟨t, rfl⟩⟩
  ·exact ⟨_, rfl, fun S => rep_pair (.frz (.val rfl)) (.frz (.val rfl)), Below.refl _ _⟩
  ·exact ⟨_, rfl, fun S => rep_pair (.frz (.val rfl)) (.frz (.val rfl)), Lib.bytesWorld_below _ _ _⟩)
theorem parseInt_no (s : ByteArray) (hs : s.size <= 1000000) (h : formP s) (hf : ¬ fits (zOf s)) : Ok Tryz.prog 110 [vS s, vI 10, vI 64] (.tup [vI (Lib.intSat 64 s.data.toList), .iface 171 (.fp [])]) :=
 Ok.of_plain (l := [.string s, .int .i64 10, .int .i64 64]) (by kernel_rfl) fun w hk => by
  obtain ⟨te, pe, hc⟩ := hasW_ErrRange hk.2
  refine (Tryz.strconv_ParseInt_10_at64_range s (by omega) (by rw [parse_law h, if_neg hf]) _ w hc (.inr ⟨te, pe, rfl⟩)).mono ?_
  rintro e w' ⟨N, rfl, _, _, hb⟩
  exact ⟨_, rfl, fun S => rep_pair (.frz (.val rfl)) (.iface (rep_ptr0 N)), hb⟩
theorem trimP_ok (s p : ByteArray) : Ok Tryz.prog 121 [vS s, vS p] (vS ⟨(Lib.trimPrefix s.data.toList p.data.toList).toArray⟩) :=
 Ok.of_plain (l := [.string s, .string p]) (by kernel_rfl) fun w hk => (Tryz.strings_TrimPrefix s p w).mono (by
  rintro e w' ⟨rfl, rfl⟩
  exact ⟨_, rfl, fun S => .frz (.val rfl), Below.refl _ _⟩)
theorem trim_dig (s : ByteArray) : (⟨(Lib.trimPrefix s.data.toList [45]).toArray⟩ : ByteArray) = digS s := by
  apply ByteArray.ext
  apply Array.ext'
  rw [digS_list]
  unfold Lib.trimPrefix Lib.hasPrefix
  cases e : s.data.toList with
  | nil =>
    have : ¬ bt s 0 = 45 := by unfold bt; rw [e]; decide
    rw [if_neg this]; rfl
  | cons c r =>
    have hb : bt s 0 = (c.toNat : Int) := bt_list (s := s) (i := 0) (by rw [e]; rfl)
    have e45 : (bt s 0 = 45) = (c = 45) := by
      rw [hb]
      refine propext ⟨fun h => UInt8.toNat_inj.1 (by have : c.toNat = 45 := by omega
                                                     rw [this]; rfl), fun h => by subst h; rfl⟩
    by_cases h : c = 45
    · have h1 : (List.isPrefixOf [45] (c :: r)) = true := by subst h; simp
      have h2 : bt s 0 = 45 := by rw [e45]; exact h
      rw [if_pos h1, if_pos h2]
      rfl
    · have h1 : ¬ (List.isPrefixOf [45] (c :: r)) = true := by
        simp [List.isPrefixOf]
        exact fun k => h k.symm
      have h2 : ¬ bt s 0 = 45 := by rw [e45]; exact h
      rw [if_neg h1, if_neg h2]
end Go.Proofs.YtcgmpcbkndpmbaaGreatDoor

end
section
open Go Go.Proofs Go.Pw Go.RowKit
namespace Go.Proofs.YtcgmpcbkndpmbaaGreatDoor
set_option maxRecDepth 4000
set_option linter.unusedVariables false
set_option linter.unusedSimpArgs false
theorem indexByte_ok (s : ByteArray) (c : Int) : Ok Tryz.prog 87 [vS s, vC c] (vI (Lib.indexByte s.data.toList c.toNat.toUInt8)) :=
 Ok.of_plain (l := [.string s, .int .u8 c]) (by kernel_rfl) fun w hk => (Tryz.strings_IndexByte s c w).mono (by
  rintro e w' ⟨rfl, rfl⟩
  exact ⟨_, rfl, fun S => .frz (.val rfl), Below.refl _ _⟩)
theorem lkp_tokS {k : Nat} {e : TypeId} {s : ByteArray} (h : s.size ≠ 0) : lkp (tokS k e s) k = some ⟨e, 1, s.size⟩ := by
 unfold tokS
 rw [if_neg h]
 simp [lkp]
theorem dropK_tokS (k : Nat) (e : TypeId) (s : ByteArray) : dropK [k] (tokS k e s) = [] := by
 unfold tokS
 split
 ·rfl
 ·simp [dropK, inL]
theorem tokS_weak (k nt : Nat) (t : TypeId) (s : ByteArray) (hk : k < nt) : ∀ e ∈ tokS k t s, lkp (tokS k t s) e.1 = some e.2 /\ e.1 < nt := by
 unfold tokS
 split
 ·intro e he; cases he
 ·intro e he
  simp only [List.mem_singleton] at he
  subst he
  exact ⟨by simp [lkp], hk⟩
theorem rowS_0 (k : Nat) : rowS k ByteArray.empty = .val (.slice none 0 0) := by unfold rowS; rfl
theorem tokS_0 (k : Nat) (e : TypeId) : tokS k e ByteArray.empty = [] := by unfold tokS; rfl
end Go.Proofs.YtcgmpcbkndpmbaaGreatDoor

end
section
open Go Go.Proofs Go.Pw
namespace Go.Proofs.YtcgmpcbkndpmbaaGreatDoor
set_option maxRecDepth 4000
set_option linter.unusedVariables false
set_option linter.unusedSimpArgs false
attribute [local go_sem] Nat.le_refl Tryz.results53 Tryz.results54 Tryz.results77 encI_len encI_take
def isF (n : Int) : Bool := decide (0 <= n /\ n < 55296 ∨ 57344 <= n /\ n <= 1114111)
theorem ris_ok (n : Int) : Ok Tryz.prog 77 [vI n] (vB (isF n)) := by
 refine Ok.of_pwp (by kernel_rfl) Tryz.func77 rfl (by kernel_rfl) (by kernel_rfl) ?_
 simp (implicitDefEqProofs := false) (disch := omega) only [go_sem, simprocAttr, ↓ix_enc]
 repeat' ((first
  | with_reducible refine ifK_split (fun _ => ?_) (fun _ => ?_)) <;> try simp (implicitDefEqProofs := false) (disch := omega) only [go_sem, simprocAttr, ↓ix_enc])
 all_goals (congr 2; simp only [isF]; first | (rw [eq_comm, decide_eq_false_iff_not]; omega) | (rw [eq_comm, decide_eq_true_eq]; omega) | (congr 1; apply propext; constructor <;> intro <;> omega))
def bytesF (n : Int) : List Int :=
 if n < 128 then [n] else if n < 2048 then [192 + n / 64, 128 + n % 64] else if n < 65536 then [224 + n / 4096, 128 + n / 64 % 64, 128 + n % 64]
 else [240 + n / 262144, 128 + n / 4096 % 64, 128 + n / 64 % 64, 128 + n % 64]
theorem bytes_ok (n : Int) (h0 : 0 <= n) (h1 : n <= 1114111) : Ok Tryz.prog 54 [vI n] (.sl (encI (bytesF n))) := by
 refine Ok.of_pwp (by kernel_rfl) Tryz.func54 rfl (by kernel_rfl) (by kernel_rfl) ?_
 unfold bytesF
 simp (implicitDefEqProofs := false) (disch := omega) only [go_sem, simprocAttr, ↓ix_enc, tdivE, tmodE]
 repeat' ((first
  | with_reducible refine ifK_split (fun _ => ?_) (fun _ => ?_)) <;> try simp (implicitDefEqProofs := false) (disch := omega) only [go_sem, simprocAttr, ↓ix_enc, tdivE, tmodE])
 ·rw [if_pos (by omega)]; rfl
 ·rw [if_neg (by omega), if_pos (by omega)]; rfl
 ·rw [if_neg (by omega), if_neg (by omega), if_pos (by omega)]; rfl
 ·rw [if_neg (by omega), if_neg (by omega), if_neg (by omega)]; rfl
theorem bt_range (s : ByteArray) (i : Int) : 0 <= bt s i /\ bt s i <= 255 := by
 unfold bt
 have := UInt8.toNat_lt (s.data.toList.getD i.toNat 0)
 omega
def headF : Nat -> Int
 | 2 => 192
 | 3 => 224
 | 4 => 240
 | _ => 0
def accF (s : ByteArray) (a : Int) (m : Nat) : Nat -> Int
 | 0 => bt s a - headF m
 | j + 1 => accF s a m j * 64 + bt s (a + (j + 1)) - 128
def sameF (b : List Int) (s : ByteArray) (a : Int) (m : Nat) : Nat -> Bool
 | 0 => decide ((b.length : Int) = (m : Int))
 | j + 1 => sameF b s a m j && decide (b.getD j 0 = bt s (a + j))
def firstF (s : ByteArray) (a : Int) : Nat -> Nat -> Int × Int
 | 0, _ => (-1, 0)
 | f + 1, m => if (s.size : Int) < a + m then (-1, 0) else if isF (accF s a m (m - 1)) && sameF (bytesF (accF s a m (m - 1))) s a m m then (accF s a m (m - 1), m) else firstF s a f (m + 1)
theorem accF_step (s : ByteArray) (a : Int) (m j : Nat) (B : Int) (h : -B <= accF s a m j /\ accF s a m j <= B) : -(B * 64 + 400) <= accF s a m (j + 1) /\ accF s a m (j + 1) <= B * 64 + 400 := by
 have := bt_range s (a + (j + 1))
 simp only [accF]
 omega
theorem accF_range (s : ByteArray) (a : Int) (m : Nat) (j : Nat) (hj : j <= 3) : -1000000000 <= accF s a m j /\ accF s a m j <= 1000000000 := by
 have b0 := bt_range s a
 have hh : 0 <= headF m /\ headF m <= 240 := by unfold headF; split <;> decide
 have h0 : -300 <= accF s a m 0 /\ accF s a m 0 <= 300 := by simp only [accF]; omega
 have h1 := accF_step s a m 0 _ h0
 have h2 := accF_step s a m 1 _ h1
 have h3 := accF_step s a m 2 _ h2
 have : j = 0 ∨ j = 1 ∨ j = 2 ∨ j = 3 := by omega
 rcases this with rfl | rfl | rfl | rfl
 ·omega
 ·simp only [Nat.zero_add] at h1; omega
 ·simp only [Nat.reduceAdd] at h2; omega
 ·simp only [Nat.reduceAdd] at h3; omega
theorem sameF_false {b : List Int} {s : ByteArray} {a : Int} {m j : Nat} (h : sameF b s a m j = false) : ∀ k, sameF b s a m (j + k) = false
 | 0 => h
 | k + 1 => by rw [<- Nat.add_assoc, sameF, sameF_false h k, Bool.false_and]
theorem sameF_len {b : List Int} {s : ByteArray} {a : Int} {m : Nat} : ∀ {j : Nat}, sameF b s a m j = true -> b.length = m
 | 0, h => by simp only [sameF, decide_eq_true_eq] at h; omega
 | j + 1, h => by
  simp only [sameF, Bool.and_eq_true] at h
  exact sameF_len h.1
abbrev twoP (n e : Int) : PV := .tup [vI n, vI e]
set_option maxHeartbeats 8000000 in
theorem first_ok (s : ByteArray) (a : Int) (h0 : 0 <= a) (h1 : a <= s.size) (hs : s.size <= 140737488351232) : Ok Tryz.prog 53 [vS s, vI a] (twoP (firstF s a 4 1).1 (firstF s a 4 1).2) := by
 refine Ok.of_pwp (by kernel_rfl) Tryz.func53 rfl (by kernel_rfl) (by kernel_rfl) ?_
 generalize hr : firstF s a 4 1 = r
 simp (implicitDefEqProofs := false) (disch := omega) only [go_sem, simprocAttr, ↓ix_enc]
 refine p_loop (ι := { m : Nat // 1 <= m /\ m <= 5 /\ r = firstF s a (5 - m) m }) (fun m => ⟨[(6, vI m.1), (0, vS s), (1, vI a)], [], [], 0, 0⟩) (fun m => 5 - m.1) ⟨1, by decide, by decide, hr.symm⟩ ?_ ?_
 ·constructor <;> simp only [go_sem, simprocAttr, decide_eq_true_eq, Int.natCast_one] <;> try ((repeat' apply And.intro) <;> first | rfl | omega | (congr 3; omega) | (congr 2; omega))
 ·rintro ⟨m, g1, g2, g3⟩
  have hm : m = 1 ∨ m = 2 ∨ m = 3 ∨ m = 4 ∨ m = 5 := by omega
  simp only
  rcases hm with rfl | rfl | rfl | rfl | rfl
  ·simp only [Int.natCast_one]
   simp (implicitDefEqProofs := false) (disch := omega) only [go_sem, simprocAttr, ↓ix_enc]
   with_reducible refine ifK_split (fun hge => ?_) (fun hlt => ?_)
   ·simp (implicitDefEqProofs := false) (disch := omega) only [go_sem, simprocAttr, ↓ix_enc]
    rw [g3]
    simp only [firstF]
    rw [if_pos (by omega)]
   ·have hb := bt_range s a
    simp (implicitDefEqProofs := false) (disch := omega) only [go_sem, simprocAttr, ↓ix_enc]
    refine p_loop (ι := { i : Nat // i < 1 }) (fun i => ⟨[(9, vI (i.1 + 1 : Nat)), (8, vI (accF s a 1 i.1)), (6, vI 1), (0, vS s), (1, vI a)], [], [], 9, 9⟩) (fun i => 1 - i.1) ⟨0, by omega⟩ ?_ ?_
    ·simp only [accF, headF]
     constructor <;> simp only [go_sem, simprocAttr, decide_eq_true_eq, Int.natCast_one, Nat.zero_add] <;> try ((repeat' apply And.intro) <;> first | rfl | omega | (congr 3; omega) | (congr 2; omega))
    ·rintro ⟨i, hi⟩
     simp only
     have hacc := accF_range s a 1 i (by omega)
     simp (implicitDefEqProofs := false) (disch := omega) only [go_sem, simprocAttr, ↓ix_enc]
     ·have hi2 : i = 1 - 1 := by omega
      subst hi2
      simp only [Nat.reduceSub] at hacc ⊢
      simp (implicitDefEqProofs := false) (disch := omega) only [go_sem, simprocAttr, ↓ix_enc]
      with_reducible refine CallOk.of (ris_ok _) rfl ?_
      simp (implicitDefEqProofs := false) (disch := omega) only [go_sem, simprocAttr, ↓ix_enc]
      with_reducible refine ifK_bsplit (fun hn => ?_) (fun hn => ?_)
      ·have hn' : isF (accF s a 1 (1 - 1)) = false := by simpa using hn
       simp (implicitDefEqProofs := false) (disch := omega) only [go_sem, simprocAttr, ↓ix_enc]
       refine ⟨⟨2, by omega, by omega, ?_⟩, by simp only; omega, ?_⟩
       ·rw [g3]
        simp only [firstF]
        rw [if_neg (by omega), hn', Bool.false_and]
        rfl
       ·constructor <;> simp only [go_sem, simprocAttr, decide_eq_true_eq, Int.cast_ofNat_Int] <;> try ((repeat' apply And.intro) <;> first | rfl | omega | (congr 3; omega) | (congr 2; omega))
      ·have hn' : isF (accF s a 1 (1 - 1)) = true := by simpa using hn
       have hp : 0 <= accF s a 1 (1 - 1) /\ accF s a 1 (1 - 1) <= 1114111 := by
        unfold isF at hn'
        simp only [decide_eq_true_eq] at hn'
        omega
       simp only [Nat.reduceSub] at hp
       simp (implicitDefEqProofs := false) (disch := omega) only [go_sem, simprocAttr, ↓ix_enc]
       with_reducible refine CallOk.of (bytes_ok _ hp.1 hp.2) rfl ?_
       simp (implicitDefEqProofs := false) (disch := omega) only [go_sem, simprocAttr, ↓ix_enc]
       refine p_loop (ι := { j : Nat // j <= 1 }) (fun j => ⟨[(12, vI j.1), (11, vB (sameF (bytesF (accF s a 1 (1 - 1))) s a 1 j.1)), (10, .sl (encI (bytesF (accF s a 1 (1 - 1))))), (8, vI (accF s a 1 (1 - 1))), (6, vI 1), (0, vS s), (1, vI a)], [], [], 9, 9⟩) (fun j => 1 - j.1) ⟨0, by omega⟩ ?_ ?_
       ·simp only [sameF, Int.cast_ofNat_Int, Int.natCast_one]
        constructor <;> simp only [go_sem, simprocAttr, decide_eq_true_eq, Int.natCast_zero] <;> try ((repeat' apply And.intro) <;> first | rfl | omega | (congr 3; omega) | (congr 2; omega))
       ·rintro ⟨j, hj⟩
        simp only
        generalize hbs : bytesF (accF s a 1 (1 - 1)) = B at *
        have hbj := bt_range s (a + j)
        simp (implicitDefEqProofs := false) (disch := omega) only [go_sem, simprocAttr, ↓ix_enc]
        with_reducible refine ifK_bsplit (fun hs1 => ?_) (fun hs1 => ?_)
        ·have hlen := sameF_len hs1
         simp (implicitDefEqProofs := false) (disch := omega) only [go_sem, simprocAttr, ↓ix_enc, hs1]
         with_reducible refine ifK_split (fun hj1 => ?_) (fun hj1 => ?_)
         ·simp (implicitDefEqProofs := false) (disch := omega) only [go_sem, simprocAttr, ↓ix_enc, hs1]
          have e3 : sameF B s a 1 (j + 1) = decide (B.getD j 0 = bt s (a + j)) := by simp only [sameF, hs1, Bool.true_and]
          refine ⟨⟨j + 1, by omega⟩, by simp only; omega, ?_⟩
          simp only [e3]
          constructor <;> simp only [go_sem, simprocAttr, decide_eq_true_eq, Int.natCast_add, Int.natCast_one] <;> try ((repeat' apply And.intro) <;> first | rfl | omega | (congr 3; omega) | (congr 2; omega))
         ·have hj2 : j = 1 := by omega
          subst hj2
          simp (implicitDefEqProofs := false) (disch := omega) only [go_sem, simprocAttr, ↓ix_enc, hs1]
          rw [g3]
          simp only [firstF]
          rw [if_neg (by omega), hn', hbs, hs1]
          rfl
        ·have hs2 := sameF_false hs1 (1 - j)
         rw [show j + (1 - j) = 1 by omega] at hs2
         simp (implicitDefEqProofs := false) (disch := omega) only [go_sem, simprocAttr, ↓ix_enc, hs1]
         refine ⟨⟨2, by omega, by omega, ?_⟩, by simp only; omega, ?_⟩
         ·rw [g3]
          simp only [firstF]
          rw [if_neg (by omega), hn', hbs, hs2]
          rfl
         ·constructor <;> simp only [go_sem, simprocAttr, decide_eq_true_eq, Int.cast_ofNat_Int] <;> try ((repeat' apply And.intro) <;> first | rfl | omega | (congr 3; omega) | (congr 2; omega))
  ·simp only [Int.cast_ofNat_Int]
   simp (implicitDefEqProofs := false) (disch := omega) only [go_sem, simprocAttr, ↓ix_enc]
   with_reducible refine ifK_split (fun hge => ?_) (fun hlt => ?_)
   ·simp (implicitDefEqProofs := false) (disch := omega) only [go_sem, simprocAttr, ↓ix_enc]
    rw [g3]
    simp only [firstF]
    rw [if_pos (by omega)]
   ·have hb := bt_range s a
    simp (implicitDefEqProofs := false) (disch := omega) only [go_sem, simprocAttr, ↓ix_enc]
    refine p_loop (ι := { i : Nat // i < 2 }) (fun i => ⟨[(9, vI (i.1 + 1 : Nat)), (8, vI (accF s a 2 i.1)), (6, vI 2), (0, vS s), (1, vI a)], [], [], 9, 9⟩) (fun i => 2 - i.1) ⟨0, by omega⟩ ?_ ?_
    ·simp only [accF, headF]
     constructor <;> simp only [go_sem, simprocAttr, decide_eq_true_eq, Int.natCast_one, Nat.zero_add] <;> try ((repeat' apply And.intro) <;> first | rfl | omega | (congr 3; omega) | (congr 2; omega))
    ·rintro ⟨i, hi⟩
     simp only
     have hacc := accF_range s a 2 i (by omega)
     simp (implicitDefEqProofs := false) (disch := omega) only [go_sem, simprocAttr, ↓ix_enc]
     with_reducible refine ifK_split (fun hlt2 => ?_) (fun hge2 => ?_)
     ·have hacc2 := accF_range s a 2 (i + 1) (by omega)
      have hb2 := bt_range s (a + (i + 1 : Nat))
      have e2 : accF s a 2 (i + 1) = accF s a 2 i * 64 + bt s (a + (i + 1 : Nat)) - 128 := by simp only [accF]; rfl
      simp (implicitDefEqProofs := false) (disch := omega) only [go_sem, simprocAttr, ↓ix_enc]
      refine ⟨⟨i + 1, by omega⟩, by simp only; omega, ?_⟩
      simp only [e2]
      constructor <;> simp only [go_sem, simprocAttr, decide_eq_true_eq, Int.natCast_add, Int.natCast_one] <;> try ((repeat' apply And.intro) <;> first | rfl | omega | (congr 3; omega) | (congr 2; omega))
     ·have hi2 : i = 2 - 1 := by omega
      subst hi2
      simp only [Nat.reduceSub] at hacc ⊢
      simp (implicitDefEqProofs := false) (disch := omega) only [go_sem, simprocAttr, ↓ix_enc]
      with_reducible refine CallOk.of (ris_ok _) rfl ?_
      simp (implicitDefEqProofs := false) (disch := omega) only [go_sem, simprocAttr, ↓ix_enc]
      with_reducible refine ifK_bsplit (fun hn => ?_) (fun hn => ?_)
      ·have hn' : isF (accF s a 2 (2 - 1)) = false := by simpa using hn
       simp (implicitDefEqProofs := false) (disch := omega) only [go_sem, simprocAttr, ↓ix_enc]
       refine ⟨⟨3, by omega, by omega, ?_⟩, by simp only; omega, ?_⟩
       ·rw [g3]
        simp only [firstF]
        rw [if_neg (by omega), hn', Bool.false_and]
        rfl
       ·constructor <;> simp only [go_sem, simprocAttr, decide_eq_true_eq, Int.cast_ofNat_Int] <;> try ((repeat' apply And.intro) <;> first | rfl | omega | (congr 3; omega) | (congr 2; omega))
      ·have hn' : isF (accF s a 2 (2 - 1)) = true := by simpa using hn
       have hp : 0 <= accF s a 2 (2 - 1) /\ accF s a 2 (2 - 1) <= 1114111 := by
        unfold isF at hn'
        simp only [decide_eq_true_eq] at hn'
        omega
       simp only [Nat.reduceSub] at hp
       simp (implicitDefEqProofs := false) (disch := omega) only [go_sem, simprocAttr, ↓ix_enc]
       with_reducible refine CallOk.of (bytes_ok _ hp.1 hp.2) rfl ?_
       simp (implicitDefEqProofs := false) (disch := omega) only [go_sem, simprocAttr, ↓ix_enc]
       refine p_loop (ι := { j : Nat // j <= 2 }) (fun j => ⟨[(12, vI j.1), (11, vB (sameF (bytesF (accF s a 2 (2 - 1))) s a 2 j.1)), (10, .sl (encI (bytesF (accF s a 2 (2 - 1))))), (8, vI (accF s a 2 (2 - 1))), (6, vI 2), (0, vS s), (1, vI a)], [], [], 9, 9⟩) (fun j => 2 - j.1) ⟨0, by omega⟩ ?_ ?_
       ·simp only [sameF, Int.cast_ofNat_Int, Int.natCast_one]
        constructor <;> simp only [go_sem, simprocAttr, decide_eq_true_eq, Int.natCast_zero] <;> try ((repeat' apply And.intro) <;> first | rfl | omega | (congr 3; omega) | (congr 2; omega))
       ·rintro ⟨j, hj⟩
        simp only
        generalize hbs : bytesF (accF s a 2 (2 - 1)) = B at *
        have hbj := bt_range s (a + j)
        simp (implicitDefEqProofs := false) (disch := omega) only [go_sem, simprocAttr, ↓ix_enc]
        with_reducible refine ifK_bsplit (fun hs1 => ?_) (fun hs1 => ?_)
        ·have hlen := sameF_len hs1
         simp (implicitDefEqProofs := false) (disch := omega) only [go_sem, simprocAttr, ↓ix_enc, hs1]
         with_reducible refine ifK_split (fun hj1 => ?_) (fun hj1 => ?_)
         ·simp (implicitDefEqProofs := false) (disch := omega) only [go_sem, simprocAttr, ↓ix_enc, hs1]
          have e3 : sameF B s a 2 (j + 1) = decide (B.getD j 0 = bt s (a + j)) := by simp only [sameF, hs1, Bool.true_and]
          refine ⟨⟨j + 1, by omega⟩, by simp only; omega, ?_⟩
          simp only [e3]
          constructor <;> simp only [go_sem, simprocAttr, decide_eq_true_eq, Int.natCast_add, Int.natCast_one] <;> try ((repeat' apply And.intro) <;> first | rfl | omega | (congr 3; omega) | (congr 2; omega))
         ·have hj2 : j = 2 := by omega
          subst hj2
          simp (implicitDefEqProofs := false) (disch := omega) only [go_sem, simprocAttr, ↓ix_enc, hs1]
          rw [g3]
          simp only [firstF]
          rw [if_neg (by omega), hn', hbs, hs1]
          rfl
        ·have hs2 := sameF_false hs1 (2 - j)
         rw [show j + (2 - j) = 2 by omega] at hs2
         simp (implicitDefEqProofs := false) (disch := omega) only [go_sem, simprocAttr, ↓ix_enc, hs1]
         refine ⟨⟨3, by omega, by omega, ?_⟩, by simp only; omega, ?_⟩
         ·rw [g3]
          simp only [firstF]
          rw [if_neg (by omega), hn', hbs, hs2]
          rfl
         ·constructor <;> simp only [go_sem, simprocAttr, decide_eq_true_eq, Int.cast_ofNat_Int] <;> try ((repeat' apply And.intro) <;> first | rfl | omega | (congr 3; omega) | (congr 2; omega))
  ·simp only [Int.cast_ofNat_Int]
   simp (implicitDefEqProofs := false) (disch := omega) only [go_sem, simprocAttr, ↓ix_enc]
   with_reducible refine ifK_split (fun hge => ?_) (fun hlt => ?_)
   ·simp (implicitDefEqProofs := false) (disch := omega) only [go_sem, simprocAttr, ↓ix_enc]
    rw [g3]
    simp only [firstF]
    rw [if_pos (by omega)]
   ·have hb := bt_range s a
    simp (implicitDefEqProofs := false) (disch := omega) only [go_sem, simprocAttr, ↓ix_enc]
    refine p_loop (ι := { i : Nat // i < 3 }) (fun i => ⟨[(9, vI (i.1 + 1 : Nat)), (8, vI (accF s a 3 i.1)), (6, vI 3), (0, vS s), (1, vI a)], [], [], 9, 9⟩) (fun i => 3 - i.1) ⟨0, by omega⟩ ?_ ?_
    ·simp only [accF, headF]
     constructor <;> simp only [go_sem, simprocAttr, decide_eq_true_eq, Int.natCast_one, Nat.zero_add] <;> try ((repeat' apply And.intro) <;> first | rfl | omega | (congr 3; omega) | (congr 2; omega))
    ·rintro ⟨i, hi⟩
     simp only
     have hacc := accF_range s a 3 i (by omega)
     simp (implicitDefEqProofs := false) (disch := omega) only [go_sem, simprocAttr, ↓ix_enc]
     with_reducible refine ifK_split (fun hlt2 => ?_) (fun hge2 => ?_)
     ·have hacc2 := accF_range s a 3 (i + 1) (by omega)
      have hb2 := bt_range s (a + (i + 1 : Nat))
      have e2 : accF s a 3 (i + 1) = accF s a 3 i * 64 + bt s (a + (i + 1 : Nat)) - 128 := by simp only [accF]; rfl
      simp (implicitDefEqProofs := false) (disch := omega) only [go_sem, simprocAttr, ↓ix_enc]
      refine ⟨⟨i + 1, by omega⟩, by simp only; omega, ?_⟩
      simp only [e2]
      constructor <;> simp only [go_sem, simprocAttr, decide_eq_true_eq, Int.natCast_add, Int.natCast_one] <;> try ((repeat' apply And.intro) <;> first | rfl | omega | (congr 3; omega) | (congr 2; omega))
     ·have hi2 : i = 3 - 1 := by omega
      subst hi2
      simp only [Nat.reduceSub] at hacc ⊢
      simp (implicitDefEqProofs := false) (disch := omega) only [go_sem, simprocAttr, ↓ix_enc]
      with_reducible refine CallOk.of (ris_ok _) rfl ?_
      simp (implicitDefEqProofs := false) (disch := omega) only [go_sem, simprocAttr, ↓ix_enc]
      with_reducible refine ifK_bsplit (fun hn => ?_) (fun hn => ?_)
      ·have hn' : isF (accF s a 3 (3 - 1)) = false := by simpa using hn
       simp (implicitDefEqProofs := false) (disch := omega) only [go_sem, simprocAttr, ↓ix_enc]
       refine ⟨⟨4, by omega, by omega, ?_⟩, by simp only; omega, ?_⟩
       ·rw [g3]
        simp only [firstF]
        rw [if_neg (by omega), hn', Bool.false_and]
        rfl
       ·constructor <;> simp only [go_sem, simprocAttr, decide_eq_true_eq, Int.cast_ofNat_Int] <;> try ((repeat' apply And.intro) <;> first | rfl | omega | (congr 3; omega) | (congr 2; omega))
      ·have hn' : isF (accF s a 3 (3 - 1)) = true := by simpa using hn
       have hp : 0 <= accF s a 3 (3 - 1) /\ accF s a 3 (3 - 1) <= 1114111 := by
        unfold isF at hn'
        simp only [decide_eq_true_eq] at hn'
        omega
       simp only [Nat.reduceSub] at hp
       simp (implicitDefEqProofs := false) (disch := omega) only [go_sem, simprocAttr, ↓ix_enc]
       with_reducible refine CallOk.of (bytes_ok _ hp.1 hp.2) rfl ?_
       simp (implicitDefEqProofs := false) (disch := omega) only [go_sem, simprocAttr, ↓ix_enc]
       refine p_loop (ι := { j : Nat // j <= 3 }) (fun j => ⟨[(12, vI j.1), (11, vB (sameF (bytesF (accF s a 3 (3 - 1))) s a 3 j.1)), (10, .sl (encI (bytesF (accF s a 3 (3 - 1))))), (8, vI (accF s a 3 (3 - 1))), (6, vI 3), (0, vS s), (1, vI a)], [], [], 9, 9⟩) (fun j => 3 - j.1) ⟨0, by omega⟩ ?_ ?_
       ·simp only [sameF, Int.cast_ofNat_Int, Int.natCast_one]
        constructor <;> simp only [go_sem, simprocAttr, decide_eq_true_eq, Int.natCast_zero] <;> try ((repeat' apply And.intro) <;> first | rfl | omega | (congr 3; omega) | (congr 2; omega))
       ·rintro ⟨j, hj⟩
        simp only
        generalize hbs : bytesF (accF s a 3 (3 - 1)) = B at *
        have hbj := bt_range s (a + j)
        simp (implicitDefEqProofs := false) (disch := omega) only [go_sem, simprocAttr, ↓ix_enc]
        with_reducible refine ifK_bsplit (fun hs1 => ?_) (fun hs1 => ?_)
        ·have hlen := sameF_len hs1
         simp (implicitDefEqProofs := false) (disch := omega) only [go_sem, simprocAttr, ↓ix_enc, hs1]
         with_reducible refine ifK_split (fun hj1 => ?_) (fun hj1 => ?_)
         ·simp (implicitDefEqProofs := false) (disch := omega) only [go_sem, simprocAttr, ↓ix_enc, hs1]
          have e3 : sameF B s a 3 (j + 1) = decide (B.getD j 0 = bt s (a + j)) := by simp only [sameF, hs1, Bool.true_and]
          refine ⟨⟨j + 1, by omega⟩, by simp only; omega, ?_⟩
          simp only [e3]
          constructor <;> simp only [go_sem, simprocAttr, decide_eq_true_eq, Int.natCast_add, Int.natCast_one] <;> try ((repeat' apply And.intro) <;> first | rfl | omega | (congr 3; omega) | (congr 2; omega))
         ·have hj2 : j = 3 := by omega
          subst hj2
          simp (implicitDefEqProofs := false) (disch := omega) only [go_sem, simprocAttr, ↓ix_enc, hs1]
          rw [g3]
          simp only [firstF]
          rw [if_neg (by omega), hn', hbs, hs1]
          rfl
        ·have hs2 := sameF_false hs1 (3 - j)
         rw [show j + (3 - j) = 3 by omega] at hs2
         simp (implicitDefEqProofs := false) (disch := omega) only [go_sem, simprocAttr, ↓ix_enc, hs1]
         refine ⟨⟨4, by omega, by omega, ?_⟩, by simp only; omega, ?_⟩
         ·rw [g3]
          simp only [firstF]
          rw [if_neg (by omega), hn', hbs, hs2]
          rfl
         ·constructor <;> simp only [go_sem, simprocAttr, decide_eq_true_eq, Int.cast_ofNat_Int] <;> try ((repeat' apply And.intro) <;> first | rfl | omega | (congr 3; omega) | (congr 2; omega))
  ·simp only [Int.cast_ofNat_Int]
   simp (implicitDefEqProofs := false) (disch := omega) only [go_sem, simprocAttr, ↓ix_enc]
   with_reducible refine ifK_split (fun hge => ?_) (fun hlt => ?_)
   ·simp (implicitDefEqProofs := false) (disch := omega) only [go_sem, simprocAttr, ↓ix_enc]
    rw [g3]
    simp only [firstF]
    rw [if_pos (by omega)]
   ·have hb := bt_range s a
    simp (implicitDefEqProofs := false) (disch := omega) only [go_sem, simprocAttr, ↓ix_enc]
    refine p_loop (ι := { i : Nat // i < 4 }) (fun i => ⟨[(9, vI (i.1 + 1 : Nat)), (8, vI (accF s a 4 i.1)), (6, vI 4), (0, vS s), (1, vI a)], [], [], 9, 9⟩) (fun i => 4 - i.1) ⟨0, by omega⟩ ?_ ?_
    ·simp only [accF, headF]
     constructor <;> simp only [go_sem, simprocAttr, decide_eq_true_eq, Int.natCast_one, Nat.zero_add] <;> try ((repeat' apply And.intro) <;> first | rfl | omega | (congr 3; omega) | (congr 2; omega))
    ·rintro ⟨i, hi⟩
     simp only
     have hacc := accF_range s a 4 i (by omega)
     simp (implicitDefEqProofs := false) (disch := omega) only [go_sem, simprocAttr, ↓ix_enc]
     with_reducible refine ifK_split (fun hlt2 => ?_) (fun hge2 => ?_)
     ·have hacc2 := accF_range s a 4 (i + 1) (by omega)
      have hb2 := bt_range s (a + (i + 1 : Nat))
      have e2 : accF s a 4 (i + 1) = accF s a 4 i * 64 + bt s (a + (i + 1 : Nat)) - 128 := by simp only [accF]; rfl
      simp (implicitDefEqProofs := false) (disch := omega) only [go_sem, simprocAttr, ↓ix_enc]
      refine ⟨⟨i + 1, by omega⟩, by simp only; omega, ?_⟩
      simp only [e2]
      constructor <;> simp only [go_sem, simprocAttr, decide_eq_true_eq, Int.natCast_add, Int.natCast_one] <;> try ((repeat' apply And.intro) <;> first | rfl | omega | (congr 3; omega) | (congr 2; omega))
     ·have hi2 : i = 4 - 1 := by omega
      subst hi2
      simp only [Nat.reduceSub] at hacc ⊢
      simp (implicitDefEqProofs := false) (disch := omega) only [go_sem, simprocAttr, ↓ix_enc]
      with_reducible refine CallOk.of (ris_ok _) rfl ?_
      simp (implicitDefEqProofs := false) (disch := omega) only [go_sem, simprocAttr, ↓ix_enc]
      with_reducible refine ifK_bsplit (fun hn => ?_) (fun hn => ?_)
      ·have hn' : isF (accF s a 4 (4 - 1)) = false := by simpa using hn
       simp (implicitDefEqProofs := false) (disch := omega) only [go_sem, simprocAttr, ↓ix_enc]
       refine ⟨⟨5, by omega, by omega, ?_⟩, by simp only; omega, ?_⟩
       ·rw [g3]
        simp only [firstF]
        rw [if_neg (by omega), hn', Bool.false_and]
        rfl
       ·constructor <;> simp only [go_sem, simprocAttr, decide_eq_true_eq, Int.cast_ofNat_Int] <;> try ((repeat' apply And.intro) <;> first | rfl | omega | (congr 3; omega) | (congr 2; omega))
      ·have hn' : isF (accF s a 4 (4 - 1)) = true := by simpa using hn
       have hp : 0 <= accF s a 4 (4 - 1) /\ accF s a 4 (4 - 1) <= 1114111 := by
        unfold isF at hn'
        simp only [decide_eq_true_eq] at hn'
        omega
       simp only [Nat.reduceSub] at hp
       simp (implicitDefEqProofs := false) (disch := omega) only [go_sem, simprocAttr, ↓ix_enc]
       with_reducible refine CallOk.of (bytes_ok _ hp.1 hp.2) rfl ?_
       simp (implicitDefEqProofs := false) (disch := omega) only [go_sem, simprocAttr, ↓ix_enc]
       refine p_loop (ι := { j : Nat // j <= 4 }) (fun j => ⟨[(12, vI j.1), (11, vB (sameF (bytesF (accF s a 4 (4 - 1))) s a 4 j.1)), (10, .sl (encI (bytesF (accF s a 4 (4 - 1))))), (8, vI (accF s a 4 (4 - 1))), (6, vI 4), (0, vS s), (1, vI a)], [], [], 9, 9⟩) (fun j => 4 - j.1) ⟨0, by omega⟩ ?_ ?_
       ·simp only [sameF, Int.cast_ofNat_Int, Int.natCast_one]
        constructor <;> simp only [go_sem, simprocAttr, decide_eq_true_eq, Int.natCast_zero] <;> try ((repeat' apply And.intro) <;> first | rfl | omega | (congr 3; omega) | (congr 2; omega))
       ·rintro ⟨j, hj⟩
        simp only
        generalize hbs : bytesF (accF s a 4 (4 - 1)) = B at *
        have hbj := bt_range s (a + j)
        simp (implicitDefEqProofs := false) (disch := omega) only [go_sem, simprocAttr, ↓ix_enc]
        with_reducible refine ifK_bsplit (fun hs1 => ?_) (fun hs1 => ?_)
        ·have hlen := sameF_len hs1
         simp (implicitDefEqProofs := false) (disch := omega) only [go_sem, simprocAttr, ↓ix_enc, hs1]
         with_reducible refine ifK_split (fun hj1 => ?_) (fun hj1 => ?_)
         ·simp (implicitDefEqProofs := false) (disch := omega) only [go_sem, simprocAttr, ↓ix_enc, hs1]
          have e3 : sameF B s a 4 (j + 1) = decide (B.getD j 0 = bt s (a + j)) := by simp only [sameF, hs1, Bool.true_and]
          refine ⟨⟨j + 1, by omega⟩, by simp only; omega, ?_⟩
          simp only [e3]
          constructor <;> simp only [go_sem, simprocAttr, decide_eq_true_eq, Int.natCast_add, Int.natCast_one] <;> try ((repeat' apply And.intro) <;> first | rfl | omega | (congr 3; omega) | (congr 2; omega))
         ·have hj2 : j = 4 := by omega
          subst hj2
          simp (implicitDefEqProofs := false) (disch := omega) only [go_sem, simprocAttr, ↓ix_enc, hs1]
          rw [g3]
          simp only [firstF]
          rw [if_neg (by omega), hn', hbs, hs1]
          rfl
        ·have hs2 := sameF_false hs1 (4 - j)
         rw [show j + (4 - j) = 4 by omega] at hs2
         simp (implicitDefEqProofs := false) (disch := omega) only [go_sem, simprocAttr, ↓ix_enc, hs1]
         refine ⟨⟨5, by omega, by omega, ?_⟩, by simp only; omega, ?_⟩
         ·rw [g3]
          simp only [firstF]
          rw [if_neg (by omega), hn', hbs, hs2]
          rfl
         ·constructor <;> simp only [go_sem, simprocAttr, decide_eq_true_eq, Int.cast_ofNat_Int] <;> try ((repeat' apply And.intro) <;> first | rfl | omega | (congr 3; omega) | (congr 2; omega))
  ·simp only [Int.cast_ofNat_Int]
   simp (implicitDefEqProofs := false) (disch := omega) only [go_sem, simprocAttr, ↓ix_enc]
   rw [g3]
   rfl
end Go.Proofs.YtcgmpcbkndpmbaaGreatDoor

end
section
open Go Go.Proofs Go.Pw
namespace Go.Proofs.YtcgmpcbkndpmbaaGreatDoor
set_option maxRecDepth 4000
set_option linter.unusedVariables false
set_option linter.unusedSimpArgs false
def byteN (s : ByteArray) (i : Nat) : Nat := (s.data.toList.getD i 0).toNat
theorem byteN_lt (s : ByteArray) (i : Nat) : byteN s i < 256 := UInt8.toNat_lt _
theorem bt_byteN (s : ByteArray) (i : Nat) : bt s i = byteN s i := rfl
theorem get!_byteN (s : ByteArray) (i : Nat) : (s.get! i).toNat = byteN s i := by
 unfold byteN
 cases s with
 | mk a =>
  show (a[i]!).toNat = _
  rw [getElem!_def, List.getD_eq_getElem?_getD]
  simp only [Array.getElem?_toList]
  cases a[i]? <;> rfl
def goodN (r : Nat × Nat) : Int × Int := if r = (65533, 1) then (-1, 0) else (r.1, r.2)
theorem try1 (s : ByteArray) (i : Nat) : (isF (accF s i 1 0) && sameF (bytesF (accF s i 1 0)) s i 1 1) = decide (byteN s i < 128) := by
 have hb := byteN_lt s i
 have e : accF s i 1 0 = byteN s i := by simp [accF, headF, bt_byteN]
 rw [e]
 simp only [sameF, isF, Int.natCast_zero, Int.add_zero, bt_byteN]
 unfold bytesF
 rw [Bool.eq_iff_iff]
 simp only [Bool.and_eq_true, decide_eq_true_eq]
 split
 ·simp; omega
 ·rw [if_pos (by omega)]
  simp
  omega
theorem try2 (s : ByteArray) (i : Nat) : (isF (accF s i 2 1) && sameF (bytesF (accF s i 2 1)) s i 2 2) = decide (194 <= byteN s i /\ byteN s i < 224 /\ 128 <= byteN s (i + 1) /\ byteN s (i + 1) < 192) := by
 have hb := byteN_lt s i
 have hb1 := byteN_lt s (i + 1)
 have e : accF s i 2 1 = ((byteN s i : Int) - 192) * 64 + byteN s (i + 1) - 128 := by
  have : ((i : Int) + (((0 : Nat) : Int) + 1)) = ((i + 1 : Nat) : Int) := by omega
  simp only [accF, headF, bt_byteN, this]
 rw [e]
 have e1 : ((i : Int) + ((1 : Nat) : Int)) = ((i + 1 : Nat) : Int) := by omega
 simp only [sameF, isF, Int.natCast_zero, Int.add_zero, bt_byteN, e1]
 generalize byteN s i = x at *
 generalize byteN s (i + 1) = y at *
 unfold bytesF
 rw [Bool.eq_iff_iff]
 simp only [Bool.and_eq_true, decide_eq_true_eq]
 repeat' split
 all_goals simp
 all_goals omega
theorem try3 (s : ByteArray) (i : Nat) : (isF (accF s i 3 2) && sameF (bytesF (accF s i 3 2)) s i 3 3) = decide (224 <= byteN s i /\ byteN s i < 240 /\ 128 <= byteN s (i + 1) /\ byteN s (i + 1) < 192 /\ 128 <= byteN s (i + 2) /\ byteN s (i + 2) < 192 /\
  2048 <= (byteN s i - 224) * 4096 + (byteN s (i + 1) - 128) * 64 + (byteN s (i + 2) - 128) /\ ((byteN s i - 224) * 4096 + (byteN s (i + 1) - 128) * 64 + (byteN s (i + 2) - 128) < 55296 ∨ 57344 <= (byteN s i - 224) * 4096 + (byteN s (i + 1) - 128) * 64 + (byteN s (i + 2) - 128))) := by
 have hb := byteN_lt s i
 have hb1 := byteN_lt s (i + 1)
 have hb2 := byteN_lt s (i + 2)
 have e : accF s i 3 2 = (((byteN s i : Int) - 224) * 64 + byteN s (i + 1) - 128) * 64 + byteN s (i + 2) - 128 := by
  have h1 : ((i : Int) + (((0 : Nat) : Int) + 1)) = ((i + 1 : Nat) : Int) := by omega
  have h2 : ((i : Int) + (((1 : Nat) : Int) + 1)) = ((i + 2 : Nat) : Int) := by omega
  simp only [accF, headF, bt_byteN, h1, h2]
 rw [e]
 have e1 : ((i : Int) + ((1 : Nat) : Int)) = ((i + 1 : Nat) : Int) := by omega
 have e2 : ((i : Int) + ((2 : Nat) : Int)) = ((i + 2 : Nat) : Int) := by omega
 simp only [sameF, isF, Int.natCast_zero, Int.add_zero, bt_byteN, e1, e2]
 generalize byteN s i = x at *
 generalize byteN s (i + 1) = y at *
 generalize byteN s (i + 2) = z at *
 unfold bytesF
 rw [Bool.eq_iff_iff]
 simp only [Bool.and_eq_true, decide_eq_true_eq]
 repeat' split
 all_goals simp
 all_goals omega
theorem try4 (s : ByteArray) (i : Nat) : (isF (accF s i 4 3) && sameF (bytesF (accF s i 4 3)) s i 4 4) = decide (240 <= byteN s i /\ byteN s i < 248 /\ 128 <= byteN s (i + 1) /\ byteN s (i + 1) < 192 /\ 128 <= byteN s (i + 2) /\ byteN s (i + 2) < 192 /\ 128 <= byteN s (i + 3) /\ byteN s (i + 3) < 192 /\
  65536 <= (byteN s i - 240) * 262144 + (byteN s (i + 1) - 128) * 4096 + (byteN s (i + 2) - 128) * 64 + (byteN s (i + 3) - 128) /\ (byteN s i - 240) * 262144 + (byteN s (i + 1) - 128) * 4096 + (byteN s (i + 2) - 128) * 64 + (byteN s (i + 3) - 128) <= 1114111) := by
 have hb := byteN_lt s i
 have hb1 := byteN_lt s (i + 1)
 have hb2 := byteN_lt s (i + 2)
 have hb3 := byteN_lt s (i + 3)
 have e : accF s i 4 3 = ((((byteN s i : Int) - 240) * 64 + byteN s (i + 1) - 128) * 64 + byteN s (i + 2) - 128) * 64 + byteN s (i + 3) - 128 := by
  have h1 : ((i : Int) + (((0 : Nat) : Int) + 1)) = ((i + 1 : Nat) : Int) := by omega
  have h2 : ((i : Int) + (((1 : Nat) : Int) + 1)) = ((i + 2 : Nat) : Int) := by omega
  have h3 : ((i : Int) + (((2 : Nat) : Int) + 1)) = ((i + 3 : Nat) : Int) := by omega
  simp only [accF, headF, bt_byteN, h1, h2, h3]
 rw [e]
 have e1 : ((i : Int) + ((1 : Nat) : Int)) = ((i + 1 : Nat) : Int) := by omega
 have e2 : ((i : Int) + ((2 : Nat) : Int)) = ((i + 2 : Nat) : Int) := by omega
 have e3 : ((i : Int) + ((3 : Nat) : Int)) = ((i + 3 : Nat) : Int) := by omega
 simp only [sameF, isF, Int.natCast_zero, Int.add_zero, bt_byteN, e1, e2, e3]
 generalize byteN s i = x at *
 generalize byteN s (i + 1) = y at *
 generalize byteN s (i + 2) = z at *
 generalize byteN s (i + 3) = t at *
 unfold bytesF
 rw [Bool.eq_iff_iff]
 simp only [Bool.and_eq_true, decide_eq_true_eq]
 repeat' split
 all_goals simp
 all_goals omega
theorem acc1 (s : ByteArray) (i : Nat) : accF s i 1 0 = byteN s i := by simp [accF, headF, bt_byteN]
theorem acc2 (s : ByteArray) (i : Nat) : accF s i 2 1 = ((byteN s i : Int) - 192) * 64 + byteN s (i + 1) - 128 := by
 have : ((i : Int) + (((0 : Nat) : Int) + 1)) = ((i + 1 : Nat) : Int) := by omega
 simp only [accF, headF, bt_byteN, this]
theorem acc3 (s : ByteArray) (i : Nat) : accF s i 3 2 = (((byteN s i : Int) - 224) * 64 + byteN s (i + 1) - 128) * 64 + byteN s (i + 2) - 128 := by
 have h1 : ((i : Int) + (((0 : Nat) : Int) + 1)) = ((i + 1 : Nat) : Int) := by omega
 have h2 : ((i : Int) + (((1 : Nat) : Int) + 1)) = ((i + 2 : Nat) : Int) := by omega
 simp only [accF, headF, bt_byteN, h1, h2]
theorem acc4 (s : ByteArray) (i : Nat) : accF s i 4 3 = ((((byteN s i : Int) - 240) * 64 + byteN s (i + 1) - 128) * 64 + byteN s (i + 2) - 128) * 64 + byteN s (i + 3) - 128 := by
 have h1 : ((i : Int) + (((0 : Nat) : Int) + 1)) = ((i + 1 : Nat) : Int) := by omega
 have h2 : ((i : Int) + (((1 : Nat) : Int) + 1)) = ((i + 2 : Nat) : Int) := by omega
 have h3 : ((i : Int) + (((2 : Nat) : Int) + 1)) = ((i + 3 : Nat) : Int) := by omega
 simp only [accF, headF, bt_byteN, h1, h2, h3]
set_option maxHeartbeats 4000000 in
theorem first_decode (s : ByteArray) (i : Nat) (h : i < s.size) : firstF s i 4 1 = goodN (Utf8.decode s i) := by
 rw [Lib.decode_at]
 simp only [get!_byteN]
 have hb := byteN_lt s i
 have hb1 := byteN_lt s (i + 1)
 have hb2 := byteN_lt s (i + 2)
 have hb3 := byteN_lt s (i + 3)
 simp only [firstF, Nat.reduceSub, Nat.reduceAdd, try1, try2, try3, try4]
 simp only [acc1, acc2, acc3, acc4, decide_eq_true_eq]
 unfold Lib.decodeN
 generalize byteN s i = x at *
 generalize byteN s (i + 1) = y at *
 generalize byteN s (i + 2) = z at *
 generalize byteN s (i + 3) = t at *
 rw [if_neg (by omega)]
 unfold goodN
 repeat' split
 all_goals first
  | rfl
  |(exfalso; omega)
  | exact absurd rfl (by assumption)
  | exact Prod.ext (by simp only; omega) rfl
  |(simp only [Prod.mk.injEq] at *; omega)
end Go.Proofs.YtcgmpcbkndpmbaaGreatDoor

end
section
open Go Go.Proofs Go.Pw
namespace Go.Proofs.YtcgmpcbkndpmbaaGreatDoor
set_option maxRecDepth 4000
set_option linter.unusedVariables false
set_option linter.unusedSimpArgs false
attribute [local go_sem] Nat.le_refl Tryz.results107 Tryz.results108 Tryz.results120 Tryz.results91 encI_len encI_take
abbrev vR (n : Int) : PV := .val (.int .i32 n)
def runeLenF (n : Int) : Int := if n < 0 then -1 else if n <= 127 then 1 else if n <= 2047 then 2 else if 55296 <= n /\ n <= 57343 then -1 else if n <= 65535 then 3 else if n <= 1114111 then 4 else -1
theorem runeLen_ok (n : Int) : Ok Tryz.prog 107 [vR n] (vI (runeLenF n)) := by
 refine Ok.of_pwp (by kernel_rfl) Tryz.func107 rfl (by kernel_rfl) (by kernel_rfl) ?_
 unfold runeLenF
 simp (implicitDefEqProofs := false) (disch := omega) only [go_sem, simprocAttr, ↓ix_enc]
 repeat' ((first
  | with_reducible refine ifK_split (fun _ => ?_) (fun _ => ?_)) <;> try simp (implicitDefEqProofs := false) (disch := omega) only [go_sem, simprocAttr, ↓ix_enc])
 all_goals (congr 2; repeat' split)
 all_goals first | rfl | (exfalso; omega)
def hasPF (s p : ByteArray) : Bool := decide (p.size <= s.size) && decide (s.extract 0 p.size = p)
theorem hasP2_ok (s p : ByteArray) : Ok Tryz.prog 120 [vS s, vS p] (vB (hasPF s p)) := by
 refine Ok.of_pwp (by kernel_rfl) Tryz.func120 rfl (by kernel_rfl) (by kernel_rfl) ?_
 simp (implicitDefEqProofs := false) (disch := omega) only [go_sem, simprocAttr, ↓ix_enc]
 with_reducible refine ifK_split (fun h => ?_) (fun h => ?_)
 ·simp (implicitDefEqProofs := false) (disch := omega) only [go_sem, simprocAttr, ↓ix_enc]
  unfold hasPF
  rw [decide_eq_true (by omega : p.size <= s.size), Bool.true_and]
 ·simp (implicitDefEqProofs := false) (disch := omega) only [go_sem, simprocAttr, ↓ix_enc]
  unfold hasPF
  rw [decide_eq_false (by omega : ¬ p.size <= s.size), Bool.false_and]
theorem hasP_ok (s p : ByteArray) : Ok Tryz.prog 108 [vS s, vS p] (vB (hasPF s p)) := by
 refine Ok.of_pwp (by kernel_rfl) Tryz.func108 rfl (by kernel_rfl) (by kernel_rfl) ?_
 simp (implicitDefEqProofs := false) (disch := omega) only [go_sem, simprocAttr, ↓ix_enc]
 with_reducible refine CallOk.of (hasP2_ok _ _) rfl ?_
 simp (implicitDefEqProofs := false) (disch := omega) only [go_sem, simprocAttr, ↓ix_enc]
def decF (s : ByteArray) : Int × Int := if s.size = 0 then (-1, 0) else if ((Utf8.decode s 0).1 : Int) = 65533 /\ hasPF s ⟨#[239, 191, 189]⟩ = false then (-1, 0) else ((Utf8.decode s 0).1, runeLenF (Utf8.decode s 0).1)
set_option maxHeartbeats 1000000 in
theorem decode_ok0 (s : ByteArray) (hs : s.size <= 140737488351232) : Ok Tryz.prog 91 [vS s] (twoP (decF s).1 (decF s).2) := by
 refine Ok.of_pwp (by kernel_rfl) Tryz.func91 rfl (by kernel_rfl) (by kernel_rfl) ?_
 have hle := decode_le s 0
 generalize hr : decF s = r
 unfold decF at hr
 simp (implicitDefEqProofs := false) (disch := omega) only [go_sem, simprocAttr, ↓ix_enc]
 refine p_loop (ι := Unit) (fun _ => ⟨[(8, .ptr 3 0), (0, vS s)], [(3, .iter s 0)], [], 4, 4⟩) (fun _ => 0) () ?_ ?_
 ·constructor <;> simp only [go_sem, simprocAttr, decide_eq_true_eq, Nat.le_refl] <;> try ((repeat' apply And.intro) <;> first | rfl | omega | (congr 3; omega) | (congr 2; omega))
 ·intro _
  simp (implicitDefEqProofs := false) (disch := omega) only [go_sem, simprocAttr, ↓ix_enc]
  with_reducible refine ifK_split (fun h => ?_) (fun h => ?_)
  ·rw [if_neg (by omega)] at hr
   simp (implicitDefEqProofs := false) (disch := omega) only [go_sem, simprocAttr, ↓ix_enc]
   with_reducible refine CallOk.of (runeLen_ok _) rfl ?_
   simp (implicitDefEqProofs := false) (disch := omega) only [go_sem, simprocAttr, ↓ix_enc]
   with_reducible refine ifK_split (fun h2 => ?_) (fun h2 => ?_)
   ·simp (implicitDefEqProofs := false) (disch := omega) only [go_sem, simprocAttr, ↓ix_enc]
    with_reducible refine CallOk.of (hasP_ok _ _) rfl ?_
    simp (implicitDefEqProofs := false) (disch := omega) only [go_sem, simprocAttr, ↓ix_enc]
    with_reducible refine ifK_bsplit (fun h3 => ?_) (fun h3 => ?_)
    ·simp (implicitDefEqProofs := false) (disch := omega) only [go_sem, simprocAttr, ↓ix_enc]
     rw [if_pos ⟨by omega, by simpa using h3⟩] at hr
     rw [<- hr]
    ·simp (implicitDefEqProofs := false) (disch := omega) only [go_sem, simprocAttr, ↓ix_enc]
     rw [if_neg (by rintro ⟨_, h4⟩; rw [h4] at h3; cases h3)] at hr
     rw [<- hr]
   ·simp (implicitDefEqProofs := false) (disch := omega) only [go_sem, simprocAttr, ↓ix_enc]
    rw [if_neg (by rintro ⟨h4, _⟩; exact h2 h4)] at hr
    rw [<- hr]
  ·simp (implicitDefEqProofs := false) (disch := omega) only [go_sem, simprocAttr, ↓ix_enc]
   rw [if_pos (by omega)] at hr
   rw [<- hr]
end Go.Proofs.YtcgmpcbkndpmbaaGreatDoor

end
section
open Go Go.Proofs Go.Pw
namespace Go.Proofs.YtcgmpcbkndpmbaaGreatDoor
set_option maxRecDepth 4000
set_option linter.unusedVariables false
set_option linter.unusedSimpArgs false
theorem hasPF_eq (s : ByteArray) : hasPF s ⟨#[239, 191, 189]⟩ = decide (3 <= s.size /\ byteN s 0 = 239 /\ byteN s 1 = 191 /\ byteN s 2 = 189) := by
 have e : ∀ (p : ByteArray), (s.extract 0 p.size = p) = ((s.data.toList.take p.size) = p.data.toList) := fun p => by
  rw [<- str_eq]
  simp
 unfold hasPF byteN
 rw [Bool.eq_iff_iff]
 simp only [Bool.and_eq_true, decide_eq_true_eq]
 rw [e]
 rw [show (⟨#[239, 191, 189]⟩ : ByteArray).size = 3 from rfl, show (⟨#[239, 191, 189]⟩ : ByteArray).data.toList = [239, 191, 189] from rfl]
 have hsz : s.size = s.data.toList.length := (Array.length_toList).symm
 rw [hsz]
 generalize s.data.toList = l
 have k0 : ∀ x : UInt8, (x.toNat = 239) = (x = 239) := fun x => propext ⟨fun h => UInt8.toNat_inj.1 h, fun h => by rw [h]; rfl⟩
 have k1 : ∀ x : UInt8, (x.toNat = 191) = (x = 191) := fun x => propext ⟨fun h => UInt8.toNat_inj.1 h, fun h => by rw [h]; rfl⟩
 have k2 : ∀ x : UInt8, (x.toNat = 189) = (x = 189) := fun x => propext ⟨fun h => UInt8.toNat_inj.1 h, fun h => by rw [h]; rfl⟩
 match l with
 | [] => simp
 | [a] => simp
 | [a, b] => simp
 | a :: b :: c :: r => simp [k0, k1, k2]
set_option maxHeartbeats 4000000 in
theorem decN_shape (n x y z t : Nat) (hn : 0 < n) (hb : x < 256) (hb1 : y < 256) (hb2 : z < 256) (hb3 : t < 256) :
  (Lib.decodeN n x y z t = (65533, 1) /\ ¬ (3 <= n /\ x = 239 /\ y = 191 /\ z = 189)) ∨
  (Lib.decodeN n x y z t ≠ (65533, 1) /\ runeLenF (Lib.decodeN n x y z t).1 = (Lib.decodeN n x y z t).2 /\ ((Lib.decodeN n x y z t).1 = 65533 -> (3 <= n /\ x = 239 /\ y = 191 /\ z = 189))) := by
 have nope : ∀ a b : Nat, (a ≠ 65533 ∨ b ≠ 1) -> (a, b) ≠ (65533, 1) := fun a b h e => by
  rw [Prod.mk.injEq] at e
  omega
 unfold Lib.decodeN
 repeat' split
 all_goals first
  | exact .inl ⟨rfl, by omega⟩
  |(refine .inr ⟨nope _ _ (by omega), ?_, fun h => by simp only at h; omega⟩
    unfold runeLenF
    simp only
    repeat' split
    all_goals omega)
theorem decF_good (s : ByteArray) (h : 0 < s.size) : decF s = goodN (Utf8.decode s 0) := by
 unfold decF
 rw [if_neg (by omega), hasPF_eq, Lib.decode_at]
 simp only [get!_byteN, decide_eq_false_iff_not, Nat.zero_add]
 have sh := decN_shape (s.size - 0) (byteN s 0) (byteN s 1) (byteN s 2) (byteN s 3) (by omega) (byteN_lt s 0) (byteN_lt s 1) (byteN_lt s 2) (byteN_lt s 3)
 generalize Lib.decodeN (s.size - 0) (byteN s 0) (byteN s 1) (byteN s 2) (byteN s 3) = r at *
 unfold goodN
 rcases sh with ⟨rfl, h2⟩ | ⟨h1, h2, h3⟩
 ·rw [if_pos rfl, if_pos ⟨rfl, by omega⟩]
 ·rw [if_neg h1, if_neg (by rintro ⟨h4, h5⟩; exact h5 (by have := h3 (by omega); omega)), h2]
end Go.Proofs.YtcgmpcbkndpmbaaGreatDoor

end
section
open Go Go.Proofs Go.Pw
namespace Go.Proofs.YtcgmpcbkndpmbaaGreatDoor
set_option maxRecDepth 4000
set_option linter.unusedVariables false
set_option linter.unusedSimpArgs false
attribute [local go_sem] Nat.le_refl Tryz.results15 Tryz.results31 encI_len encI_take
theorem dec_pos (s : ByteArray) (i : Nat) (h : i < s.size) : 1 <= (Utf8.decode s i).2 /\ i + (Utf8.decode s i).2 <= s.size := by
 refine ⟨Lib.decode_width_pos s i h, ?_⟩
 rw [Lib.decode_at]
 have := Lib.decodeN_width_le (s.size - i) (s.get! i).toNat (s.get! (i + 1)).toNat (s.get! (i + 2)).toNat (s.get! (i + 3)).toNat (by omega)
 omega
def scan (s : ByteArray) (i : Nat) : List Int × Nat :=
 if h : i < s.size then
  if Utf8.decode s i = (65533, 1) then ([], i) else (((Utf8.decode s i).1 : Int) :: (scan s (i + (Utf8.decode s i).2)).1, (scan s (i + (Utf8.decode s i).2)).2)
 else ([], i)
termination_by s.size - i
decreasing_by all_goals (have := dec_pos s i h; omega)
theorem scan_end {s : ByteArray} {i : Nat} (h : ¬ i < s.size) : scan s i = ([], i) := by rw [scan, dif_neg h]
theorem scan_bad {s : ByteArray} {i : Nat} (h : i < s.size) (hb : Utf8.decode s i = (65533, 1)) : scan s i = ([], i) := by rw [scan, dif_pos h, if_pos hb]
theorem scan_step {s : ByteArray} {i : Nat} (h : i < s.size) (hb : ¬ Utf8.decode s i = (65533, 1)) : scan s i = (((Utf8.decode s i).1 : Int) :: (scan s (i + (Utf8.decode s i).2)).1, (scan s (i + (Utf8.decode s i).2)).2) := by rw [scan, dif_pos h, if_neg hb]
theorem scan_len (s : ByteArray) (i : Nat) (hi : i <= s.size) : i <= (scan s i).2 /\ (scan s i).2 <= s.size /\ (scan s i).1.length <= s.size - i := by
 by_cases h : i < s.size
 ·by_cases hb : Utf8.decode s i = (65533, 1)
  ·rw [scan_bad h hb]; exact ⟨by simp, by simpa using hi, by simp⟩
  ·have hp := dec_pos s i h
   have ih := scan_len s (i + (Utf8.decode s i).2) hp.2
   rw [scan_step h hb]
   simp only [List.length_cons]
   omega
 ·rw [scan_end h]; exact ⟨by simp, by simpa using hi, by simp⟩
termination_by s.size - i
theorem first_good {s : ByteArray} {i : Nat} (h : i < s.size) (hb : ¬ Utf8.decode s i = (65533, 1)) : firstF s i 4 1 = (((Utf8.decode s i).1 : Int), ((Utf8.decode s i).2 : Int)) := by rw [first_decode s i h, goodN, if_neg hb]
theorem first_bad {s : ByteArray} {i : Nat} (h : i < s.size) (hb : Utf8.decode s i = (65533, 1)) : firstF s i 4 1 = (-1, 0) := by rw [first_decode s i h, goodN, if_pos hb]
theorem decF_tail {s : ByteArray} {i : Nat} (h : i < s.size) : decF (s.extract i s.size) = goodN (Utf8.decode s i) := by
 rw [decF_good _ (by rw [Lib.tail_size]; omega), Lib.tail_decode, Nat.add_zero]
def rptsS (s : ByteArray) (i k : Nat) (xs : List Int) : PS :=
 ⟨[(4, rowI k xs), (5, vI i), (0, vS s)], [], tokI k 3 xs, 0, k + 1⟩
set_option maxHeartbeats 4000000 in
theorem rpoints_ok (s : ByteArray) (hs : s.size <= 1000000) : Ok Tryz.prog 31 [vS s] (.tup [.sl (encI (scan s 0).1), vI (scan s 0).2]) := by
 refine Ok.of_pwp (by kernel_rfl) Tryz.func31 rfl (by kernel_rfl) (by kernel_rfl) ?_
 generalize hr : scan s 0 = r
 simp (implicitDefEqProofs := false) (disch := omega) only [go_sem, simprocAttr, ↓ix_enc]
 refine p_loop (ι := { p : Nat × Nat × List Int // p.1 <= s.size /\ p.2.2.length <= p.1 /\ r = (p.2.2 ++ (scan s p.1).1, (scan s p.1).2) }) (fun p => rptsS s p.1.1 p.1.2.1 p.1.2.2) (fun p => s.size - p.1.1) ⟨(0, 0, []), Nat.zero_le _, Nat.zero_le _, by simp [hr]⟩ ?_ ?_
 ·simp only [rptsS, rowI, tokI]
  constructor <;> simp only [go_sem, simprocAttr, decide_eq_true_eq, Int.natCast_zero] <;> try ((repeat' apply And.intro) <;> first | rfl | omega | (congr 3; omega) | (congr 2; omega))
 ·rintro ⟨⟨i, k, xs⟩, h1, h2, h3⟩
  simp only at h1 h2 h3
  simp only [rptsS]
  simp (implicitDefEqProofs := false) (disch := omega) only [go_sem, simprocAttr, ↓ix_enc]
  with_reducible refine ifK_split (fun hlt => ?_) (fun hge => ?_)
  ·have hlt' : i < s.size := by omega
   have f := first_ok s i (by omega) (by omega) (by omega)
   by_cases hb : Utf8.decode s i = (65533, 1)
   ·rw [first_bad hlt' hb] at f
    rw [scan_bad hlt' hb] at h3
    simp (implicitDefEqProofs := false) (disch := omega) only [go_sem, simprocAttr, ↓ix_enc]
    with_reducible refine CallOk.of f rfl ?_
    simp (implicitDefEqProofs := false) (disch := omega) only [go_sem, simprocAttr, ↓ix_enc]
    simp only [List.append_nil] at h3
    cases xs with
    | nil =>
     simp only [rowI]
     simp (implicitDefEqProofs := false) (disch := omega) only [go_sem, simprocAttr, ↓ix_enc]
     rw [h3]; rfl
    | cons x q =>
     simp only [rowI]
     simp (implicitDefEqProofs := false) (disch := omega) only [go_sem, simprocAttr, ↓ix_enc]
     rw [h3]
   ·rw [first_good hlt' hb] at f
    have hp := dec_pos s i hlt'
    rw [scan_step hlt' hb] at h3
    generalize Utf8.decode s i = d at *
    simp (implicitDefEqProofs := false) (disch := omega) only [go_sem, simprocAttr, ↓ix_enc]
    with_reducible refine CallOk.of f rfl ?_
    have hd0 : ¬ ((d.2 : Int) = 0) := by omega
    cases xs with
    | nil =>
     simp only [rowI, tokI]
     simp (implicitDefEqProofs := false) (disch := omega) only [go_sem, simprocAttr, ↓ix_enc]
     refine ⟨⟨(i + d.2, k + 1 + 4 + 8 + 2 + 3, [(d.1 : Int)]), by simp only; omega, by simp only [List.length_singleton]; omega, by simpa using h3⟩, by simp only; omega, ?_⟩
     simp only [rptsS, rowI, tokI, <- encI_one]
     constructor <;> simp only [go_sem, simprocAttr, decide_eq_true_eq, Int.natCast_add, List.length_singleton, ite_self] <;> try ((repeat' apply And.intro) <;> first | rfl | omega | (congr 3; omega) | (congr 2; omega))
    | cons x q =>
     simp only [List.length_cons] at h2
     have hq : q.length <= 1000000 := by omega
     simp only [rowI, tokI]
     simp (implicitDefEqProofs := false) (disch := omega) only [go_sem, simprocAttr, ↓ix_enc]
     refine ⟨⟨(i + d.2, k, x :: (q ++ [(d.1 : Int)])), by simp only; omega, by simp only [List.length_cons, List.length_append, List.length_nil]; omega, by simpa using h3⟩, by simp only; omega, ?_⟩
     simp only [rptsS, rowI, tokI]
     constructor <;> simp only [go_sem, simprocAttr, decide_eq_true_eq, Int.natCast_add, encI_snoc, List.cons_append, List.length_cons, List.length_append, List.length_singleton] <;> try ((repeat' apply And.intro) <;> first | rfl | omega | (congr 3; omega) | (congr 2; omega))
  ·rw [scan_end (by omega)] at h3
   simp only [List.append_nil] at h3
   cases xs with
   | nil =>
    simp only [rowI]
    simp (implicitDefEqProofs := false) (disch := omega) only [go_sem, simprocAttr, ↓ix_enc]
    rw [h3]; rfl
   | cons x q =>
    simp only [rowI]
    simp (implicitDefEqProofs := false) (disch := omega) only [go_sem, simprocAttr, ↓ix_enc]
    rw [h3]
theorem rvalid_ok (s : ByteArray) (hs : s.size <= 1000000) : Ok Tryz.prog 15 [vS s] (vB (decide ((scan s 0).2 = s.size))) := by
 have e : decide (((scan s 0).2 : Int) = (s.size : Int)) = decide ((scan s 0).2 = s.size) := decide_eq_decide.2 (by omega)
 rw [<- e]
 refine Ok.of_pwp (by kernel_rfl) Tryz.func15 rfl (by kernel_rfl) (by kernel_rfl) ?_
 simp (implicitDefEqProofs := false) (disch := omega) only [go_sem, simprocAttr, ↓ix_enc]
 with_reducible refine CallOk.of (rpoints_ok s hs) rfl ?_
 simp (implicitDefEqProofs := false) (disch := omega) only [go_sem, simprocAttr, ↓ix_enc]
end Go.Proofs.YtcgmpcbkndpmbaaGreatDoor

end
section
open Go Go.Proofs Go.Pw Go.RowKit
namespace Go.Proofs.YtcgmpcbkndpmbaaGreatDoor
set_option maxRecDepth 4000
set_option linter.unusedVariables false
set_option linter.unusedSimpArgs false
attribute [local go_sem] Nat.le_refl Tryz.results103 Tryz.results67 Tryz.results69 Tryz.results86
def ixB (some : ByteArray) (c : Int) : Int := Lib.indexByte some.data.toList c.toNat.toUInt8
def hasF (s some : ByteArray) (i : Nat) : Bool := decide (i < s.size) && decide (0 <= ixB some (bt s i))
def LexQ (s : ByteArray) (j : Nat) (R r : PV) (st : PS) : Prop := r = R /\ st.heap = [(0, .box 94 [vS s, vI j])] /\ st.toks = [] /\ st.nx = 1
def Lexes (g : FuncId) (ags : List PV) (s : ByteArray) (i j : Nat) (R : PV) : Prop := OkI Tryz.prog g (.ptr 0 0 :: ags) ⟨[], [(0, .box 94 [vS s, vI i])], [], 1, 0⟩ (LexQ s j R)
theorem Lexes.at {g : FuncId} {ags : List PV} {s : ByteArray} {i j : Nat} {R : PV} (h : Lexes g ags s i j R) (k : Nat) {st : PS} (hag : PV.ltL 0 0 ags = true) (hR : R.lt 0 0 = true) (hk : k < st.nx) (ho : lkp st.heap k = some (.box 94 [vS s, vI i])) :
  OkI Tryz.prog g (.ptr k 0 :: ags) st (fun r st' => r = R /\ ∃ nt', st.nt <= nt' /\ st' = ⟨st.env, (k, .box 94 [vS s, vI j]) :: dropH [k] st.heap, st.toks, st.nx, nt'⟩) :=
 OkI.on1 k h hk rfl rfl hag hR ho
set_option maxHeartbeats 4000000 in
theorem has_ok (s some : ByteArray) (i : Nat) (hi : i <= s.size) (hs : s.size <= 1000000) : Lexes 69 [vS some] s i i (vB (hasF s some i)) := by
 refine OkI.of_pwp (by kernel_rfl) Tryz.func69 rfl (by kernel_rfl) (by kernel_rfl) ?_
 by_cases h : i < s.size
 ·have c := indexByte_ok some (bt s i)
  have hh : hasF s some i = decide (0 <= ixB some (bt s i)) := by unfold hasF; rw [decide_eq_true h]; rfl
  rw [hh]
  simp (implicitDefEqProofs := false) (disch := omega) only [go_sem, simprocAttr]
  with_reducible refine CallOk.of c rfl ?_
  simp (implicitDefEqProofs := false) (disch := omega) only [go_sem, simprocAttr]
  refine ⟨⟨[], [(0, .box 94 [vS s, vI i])], [], 1, 0⟩, ⟨rfl, rfl, rfl, rfl⟩, ?_⟩
  constructor <;> simp only [go_sem, simprocAttr, decide_eq_true_eq] <;> try ((repeat' apply And.intro) <;> first | rfl | omega | (congr 3; omega) | (congr 2; omega))
 ·have hh : hasF s some i = false := by unfold hasF; rw [decide_eq_false h]; rfl
  rw [hh]
  simp (implicitDefEqProofs := false) (disch := omega) only [go_sem, simprocAttr]
  refine ⟨⟨[], [(0, .box 94 [vS s, vI i])], [], 1, 0⟩, ⟨rfl, rfl, rfl, rfl⟩, ?_⟩
  constructor <;> simp only [go_sem, simprocAttr, decide_eq_true_eq] <;> try ((repeat' apply And.intro) <;> first | rfl | omega | (congr 3; omega) | (congr 2; omega))
theorem hasF_lt {s some : ByteArray} {i : Nat} (h : hasF s some i = true) : i < s.size := by unfold hasF at h; simp at h; exact h.1
set_option maxHeartbeats 4000000 in
theorem one_ok (s some : ByteArray) (i : Nat) (hi : i <= s.size) (hs : s.size <= 1000000) : Lexes 86 [vS some] s i (if hasF s some i = true then i + 1 else i) (vB (hasF s some i)) := by
 refine OkI.of_pwp (by kernel_rfl) Tryz.func86 rfl (by kernel_rfl) (by kernel_rfl) ?_
 have c := has_ok s some i hi hs
 simp (implicitDefEqProofs := false) (disch := omega) only [go_sem, simprocAttr, dropH, inL]
 refine CallOk.ofI (c.at (st := ⟨[], _, _, _, _⟩) 0 rfl rfl (by simp) (by rfl)) rfl rfl rfl rfl ?_
 rintro r st' ⟨rfl, nt1, q1, rfl⟩
 cases hh : hasF s some i with
 | false =>
  simp (implicitDefEqProofs := false) (disch := omega) only [go_sem, simprocAttr, dropH, inL, hh]
  refine ⟨⟨[], [(0, .box 94 [vS s, vI i])], [], 1, 0⟩, ⟨rfl, rfl, rfl, rfl⟩, ?_⟩
  constructor <;> simp only [go_sem, simprocAttr, decide_eq_true_eq] <;> try ((repeat' apply And.intro) <;> first | rfl | omega | (congr 3; omega) | (congr 2; omega))
 | true =>
  have := hasF_lt hh
  simp (implicitDefEqProofs := false) (disch := omega) only [go_sem, simprocAttr, dropH, inL, hh]
  refine ⟨⟨[], [(0, .box 94 [vS s, vI (i + 1 : Nat)])], [], 1, 0⟩, ⟨rfl, rfl, rfl, rfl⟩, ?_⟩
  constructor <;> simp only [go_sem, simprocAttr, decide_eq_true_eq, Int.natCast_add, Int.natCast_one] <;> try ((repeat' apply And.intro) <;> first | rfl | omega | (congr 3; omega) | (congr 2; omega))
def passF (s some : ByteArray) (i : Nat) : Nat := if h : hasF s some i = true then passF s some (i + 1) else i
termination_by s.size - i
decreasing_by have := hasF_lt h; omega
theorem passF_t {s some : ByteArray} {i : Nat} (h : hasF s some i = true) : passF s some i = passF s some (i + 1) := by rw [passF, dif_pos h]
theorem passF_f {s some : ByteArray} {i : Nat} (h : hasF s some i = false) : passF s some i = i := by rw [passF, dif_neg (by rw [h]; decide)]
theorem passF_le (s some : ByteArray) (i : Nat) (hi : i <= s.size) : i <= passF s some i /\ passF s some i <= s.size := by
 cases h : hasF s some i with
 | true =>
  have := hasF_lt h
  have := passF_le s some (i + 1) (by omega)
  rw [passF_t h]; omega
 | false => rw [passF_f h]; omega
termination_by s.size - i
set_option maxHeartbeats 4000000 in
theorem pass_ok (s some : ByteArray) (i : Nat) (hi : i <= s.size) (hs : s.size <= 1000000) : Lexes 67 [vS some] s i (passF s some i) (vI ((passF s some i : Int) - i)) := by
 refine OkI.of_pwp (by kernel_rfl) Tryz.func67 rfl (by kernel_rfl) (by kernel_rfl) ?_
 simp (implicitDefEqProofs := false) (disch := omega) only [go_sem, simprocAttr, dropH, inL]
 refine p_loop (ι := { p : Nat × Nat // i <= p.1 /\ p.1 <= s.size /\ passF s some p.1 = passF s some i }) (fun p => ⟨[(5, vI i), (0, .ptr 0 0), (1, vS some)], [(0, .box 94 [vS s, vI p.1.1])], [], 1, p.1.2⟩) (fun p => s.size - p.1.1) ⟨(i, 0), Nat.le_refl _, hi, rfl⟩ ?_ ?_
 ·constructor <;> simp only [go_sem, simprocAttr, decide_eq_true_eq] <;> try ((repeat' apply And.intro) <;> first | rfl | omega | (congr 3; omega) | (congr 2; omega))
 ·rintro ⟨⟨j, nt⟩, h1, h2, h3⟩
  simp only at h1 h2 h3 ⊢
  have c := has_ok s some j h2 hs
  simp (implicitDefEqProofs := false) (disch := omega) only [go_sem, simprocAttr, dropH, inL]
  refine CallOk.ofI (c.at (st := ⟨[], _, _, _, _⟩) 0 rfl rfl (by simp) (by rfl)) rfl rfl rfl rfl ?_
  rintro r st' ⟨rfl, nt1, q1, rfl⟩
  simp only at q1
  cases hh : hasF s some j with
  | false =>
   rw [passF_f hh] at h3
   simp (implicitDefEqProofs := false) (disch := omega) only [go_sem, simprocAttr, dropH, inL, hh]
   rw [<- h3]
   refine ⟨⟨[], [(0, .box 94 [vS s, vI j])], [], 1, 0⟩, ⟨rfl, rfl, rfl, rfl⟩, ?_⟩
   constructor <;> simp only [go_sem, simprocAttr, decide_eq_true_eq] <;> try ((repeat' apply And.intro) <;> first | rfl | omega | (congr 3; omega) | (congr 2; omega))
  | true =>
   have := hasF_lt hh
   simp (implicitDefEqProofs := false) (disch := omega) only [go_sem, simprocAttr, dropH, inL, hh]
   refine ⟨⟨(j + 1, nt), by simp only; omega, by simp only; omega, by rw [<- h3, passF_t hh]⟩, by simp only; omega, ?_⟩
   constructor <;> simp only [go_sem, simprocAttr, decide_eq_true_eq, Int.natCast_add, Int.natCast_one] <;> try ((repeat' apply And.intro) <;> first | rfl | omega | (congr 3; omega) | (congr 2; omega))
abbrev hxS : ByteArray := ⟨#[48, 49, 50, 51, 52, 53, 54, 55, 56, 57, 97, 98, 99, 100, 101, 102, 48, 49, 50, 51, 52, 53, 54, 55, 56, 57, 65, 66, 67, 68, 69, 70]⟩
def hexF (s : ByteArray) : Nat -> Nat -> Int -> Int × Bool × Nat
 | 0, i, n => (n, true, i)
 | k + 1, i, n => if hasF s hxS i = true then hexF s k (i + 1) (n * 16 + (ixB hxS (bt s i)).tmod 16) else (0, false, i)
theorem ixB_facts : ∀ c : Fin 256, -1 <= Lib.indexByte hxS.data.toList c.1.toUInt8 /\ Lib.indexByte hxS.data.toList c.1.toUInt8 < 32 := by decide +kernel
set_option maxHeartbeats 4000000 in
theorem hex_ok (s : ByteArray) (i : Nat) (hi : i <= s.size) (hs : s.size <= 1000000) : Lexes 103 [] s i (hexF s 4 i 0).2.2 (.tup [vI (hexF s 4 i 0).1, vB (hexF s 4 i 0).2.1]) := by
 refine OkI.of_pwp (by kernel_rfl) Tryz.func103 rfl (by kernel_rfl) (by kernel_rfl) ?_
 simp (implicitDefEqProofs := false) (disch := omega) only [go_sem, simprocAttr, dropH, inL]
 refine p_loop (ι := { p : Nat × Nat × Int × Nat // p.1 <= 4 /\ p.2.1 <= s.size /\ 0 <= p.2.2.1 /\ p.2.2.1 < 16 ^ p.1 /\ hexF s (4 - p.1) p.2.1 p.2.2.1 = hexF s 4 i 0 }) (fun p => ⟨[(5, vI p.1.1), (4, vI p.1.2.2.1), (0, .ptr 0 0)], [(0, .box 94 [vS s, vI p.1.2.1])], [], 1, p.1.2.2.2⟩) (fun p => 4 - p.1.1) ⟨(0, i, 0, 0), Nat.zero_le _, hi, Int.le_refl _, by simp, rfl⟩ ?_ ?_
 ·constructor <;> simp only [go_sem, simprocAttr, decide_eq_true_eq, Int.natCast_zero] <;> try ((repeat' apply And.intro) <;> first | rfl | omega | (congr 3; omega) | (congr 2; omega))
 ·rintro ⟨⟨k, j, n, nt⟩, h1, h2, h3, h4, h5⟩
  simp only at h1 h2 h3 h4 h5 ⊢
  have h6 : (16 : Int) ^ k <= 65536 := by
   have : k = 0 ∨ k = 1 ∨ k = 2 ∨ k = 3 ∨ k = 4 := by omega
   rcases this with rfl | rfl | rfl | rfl | rfl <;> decide
  by_cases hk : k < 4
  ·have c := has_ok s hxS j h2 hs
   simp (implicitDefEqProofs := false) (disch := omega) only [go_sem, simprocAttr, dropH, inL]
   refine CallOk.ofI (c.at (st := ⟨[], _, _, _, _⟩) 0 rfl rfl (by simp) (by rfl)) rfl rfl rfl rfl ?_
   rintro r st' ⟨rfl, nt1, q1, rfl⟩
   simp only at q1
   have e4 : 4 - k = (4 - (k + 1)) + 1 := by omega
   rw [e4, hexF] at h5
   cases hh : hasF s hxS j with
   | false =>
    rw [if_neg (by rw [hh]; decide)] at h5
    rw [<- h5]
    simp (implicitDefEqProofs := false) (disch := omega) only [go_sem, simprocAttr, dropH, inL, hh]
    refine ⟨⟨[], [(0, .box 94 [vS s, vI j])], [], 1, 0⟩, ⟨rfl, rfl, rfl, rfl⟩, ?_⟩
    constructor <;> simp only [go_sem, simprocAttr, decide_eq_true_eq] <;> try ((repeat' apply And.intro) <;> first | rfl | omega | (congr 3; omega) | (congr 2; omega))
   | true =>
    rw [if_pos hh] at h5
    have := hasF_lt hh
    have hb := bt_range s j
    have ci := indexByte_ok hxS (bt s j)
    have hf := ixB_facts ⟨(bt s j).toNat, by omega⟩
    simp only at hf
    unfold ixB at h5
    unfold hasF ixB at hh
    have hz0 : 0 <= Lib.indexByte hxS.data.toList (bt s j).toNat.toUInt8 := by simp at hh; exact hh.2
    have hh : hasF s hxS j = true := by unfold hasF ixB; exact hh
    generalize hgz : Lib.indexByte hxS.data.toList (bt s j).toNat.toUInt8 = z at *
    simp (implicitDefEqProofs := false) (disch := omega) only [go_sem, simprocAttr, dropH, inL, hh]
    with_reducible refine CallOk.of ci rfl ?_
    have hm : 0 <= z.tmod 16 /\ z.tmod 16 < 16 := by rw [Int.tmod_eq_emod_of_nonneg hz0]; omega
    have h7 : (16 : Int) ^ (k + 1) = 16 ^ k * 16 := Int.pow_succ 16 k
    have h8 : (16 : Int) ^ k <= 4096 := by
     have : k = 0 ∨ k = 1 ∨ k = 2 ∨ k = 3 := by omega
     rcases this with rfl | rfl | rfl | rfl <;> decide
    have h9 : IntKind.wrap .i64 (n * 16 + z.tmod 16) = n * 16 + z.tmod 16 := by rw [IntKind.wrap_i64]; omega
    simp (implicitDefEqProofs := false) (disch := omega) only [go_sem, simprocAttr, dropH, inL, h9]
    refine ⟨⟨(k + 1, j + 1, n * 16 + z.tmod 16, nt), by simp only; omega, by simp only; omega, by simp only; omega, by simp only; omega, h5⟩, by simp only; omega, ?_⟩
    constructor <;> simp only [go_sem, simprocAttr, decide_eq_true_eq, Int.natCast_add, Int.natCast_one] <;> try ((repeat' apply And.intro) <;> first | rfl | omega | (congr 3; omega) | (congr 2; omega))
  ·have hk4 : k = 4 := by omega
   subst hk4
   rw [show 4 - 4 = 0 from rfl, hexF] at h5
   rw [<- h5]
   simp (implicitDefEqProofs := false) (disch := omega) only [go_sem, simprocAttr, dropH, inL]
   refine ⟨⟨[], [(0, .box 94 [vS s, vI j])], [], 1, 0⟩, ⟨rfl, rfl, rfl, rfl⟩, ?_⟩
   constructor <;> simp only [go_sem, simprocAttr, decide_eq_true_eq] <;> try ((repeat' apply And.intro) <;> first | rfl | omega | (congr 3; omega) | (congr 2; omega))
end Go.Proofs.YtcgmpcbkndpmbaaGreatDoor

end
section
open Go Go.Proofs Go.Pw Go.RowKit
namespace Go.Proofs.YtcgmpcbkndpmbaaGreatDoor
set_option maxRecDepth 4000
set_option linter.unusedVariables false
set_option linter.unusedSimpArgs false
attribute [local go_sem] Nat.le_refl Tryz.results104 Tryz.results105 Tryz.results88 Tryz.results90
theorem gis_ok (n : Int) : Ok Tryz.prog 104 [vI n] (vB (isF n)) := by
 refine Ok.of_pwp (by kernel_rfl) Tryz.func104 rfl (by kernel_rfl) (by kernel_rfl) ?_
 simp (implicitDefEqProofs := false) (disch := omega) only [go_sem, simprocAttr]
 repeat' ((first
  | with_reducible refine ifK_split (fun _ => ?_) (fun _ => ?_)) <;> try simp (implicitDefEqProofs := false) (disch := omega) only [go_sem, simprocAttr])
 all_goals (congr 2; simp only [isF]; first | (rw [eq_comm, decide_eq_false_iff_not]; omega) | (rw [eq_comm, decide_eq_true_eq]; omega) | (congr 1; apply propext; constructor <;> intro <;> omega))
def encF (n : Int) : ByteArray := if isF n then Utf8.encode n else ⟨#[]⟩
theorem encode_ok (n : Int) : Ok Tryz.prog 90 [vI n] (vS (encF n)) := by
 refine Ok.of_pwp (by kernel_rfl) Tryz.func90 rfl (by kernel_rfl) (by kernel_rfl) ?_
 unfold encF
 simp (implicitDefEqProofs := false) (disch := omega) only [go_sem, simprocAttr]
 with_reducible refine CallOk.of (gis_ok _) rfl ?_
 simp (implicitDefEqProofs := false) (disch := omega) only [go_sem, simprocAttr]
 with_reducible refine ifK_bsplit (fun h => ?_) (fun h => ?_)
 ·have h' : isF n = false := by simpa using h
  simp (implicitDefEqProofs := false) (disch := omega) only [go_sem, simprocAttr]
  rw [h']
  rfl
 ·have h' : isF n = true := by simpa using h
  rw [if_pos h']
  simp only [isF, decide_eq_true_eq] at h'
  have w : IntKind.i32.wrap n = n := wrap32 (by omega) (by omega)
  simp (implicitDefEqProofs := false) (disch := omega) only [go_sem, simprocAttr, w]
def pairF (n m : Int) : Int := if 55296 <= n /\ n < 56320 /\ 56320 <= m /\ m < 57344 then 65536 + (n - 55296) * 1024 + m - 56320 else -1
theorem pair_ok (n m : Int) (hn : 0 <= n /\ n <= 65536) (hm : 0 <= m /\ m <= 65536) : Ok Tryz.prog 105 [vI n, vI m] (vI (pairF n m)) := by
 refine Ok.of_pwp (by kernel_rfl) Tryz.func105 rfl (by kernel_rfl) (by kernel_rfl) ?_
 by_cases h : 55296 <= n /\ n < 56320 /\ 56320 <= m /\ m < 57344
 ·rw [pairF, if_pos h]
  simp (implicitDefEqProofs := false) (disch := omega) only [go_sem, simprocAttr]
 ·rw [pairF, if_neg h]
  by_cases h1 : n < 55296
  ·simp (implicitDefEqProofs := false) (disch := omega) only [go_sem, simprocAttr]
  by_cases h2 : 56320 <= n
  ·simp (implicitDefEqProofs := false) (disch := omega) only [go_sem, simprocAttr]
  by_cases h3 : m < 56320
  ·simp (implicitDefEqProofs := false) (disch := omega) only [go_sem, simprocAttr]
  ·simp (implicitDefEqProofs := false) (disch := omega) only [go_sem, simprocAttr]
abbrev ltS : ByteArray := ⟨#[34, 92, 47, 98, 102, 110, 114, 116]⟩
abbrev ptS : ByteArray := ⟨#[34, 92, 47, 8, 12, 10, 13, 9]⟩
abbrev uS : ByteArray := ⟨#[117]⟩
abbrev bsS : ByteArray := ⟨#[92]⟩
def esc2 (s : ByteArray) (i : Nat) (n : Int) (e : Nat) : Int × Int × Nat :=
 if isF n = true then (n, 0, e) else
 if hasF s bsS e = true /\ hasF s uS (e + 1) = true /\ (hexF s 4 (e + 2) 0).2.1 = true /\ 0 <= pairF n (hexF s 4 (e + 2) 0).1 then (pairF n (hexF s 4 (e + 2) 0).1, 0, (hexF s 4 (e + 2) 0).2.2) else (0, 3, i)
def escP (s : ByteArray) (i : Nat) : Int × Int × Nat :=
 if hasF s ltS (i + 1) = true then (bt ptS (ixB ltS (bt s (i + 1 : Nat))), 0, i + 2) else
 if hasF s uS (i + 1) = true then (if (hexF s 4 (i + 2) 0).2.1 = true then esc2 s i (hexF s 4 (i + 2) 0).1 (hexF s 4 (i + 2) 0).2.2 else (0, 1, (hexF s 4 (i + 2) 0).2.2)) else (0, 1, i + 1)
theorem hexF_range (s : ByteArray) : ∀ k i n, 0 <= n -> i <= s.size -> 0 <= (hexF s k i n).1 /\ (hexF s k i n).1 < (n + 1) * 16 ^ k /\ i <= (hexF s k i n).2.2 /\ (hexF s k i n).2.2 <= s.size
 | 0, i, n, h, hi => by rw [hexF]; simp only [Int.pow_zero]; omega
 | k + 1, i, n, h, hi => by
  have hp : (1 : Int) <= 16 ^ k := Int.pow_pos (by decide : (0 : Int) < 16)
  have hp2 : (16 : Int) ^ (k + 1) = 16 ^ k * 16 := Int.pow_succ 16 k
  rw [hexF]
  split
  ·rename_i hh
   have hlt := hasF_lt hh
   have hm : 0 <= (ixB hxS (bt s i)).tmod 16 /\ (ixB hxS (bt s i)).tmod 16 < 16 := by
    have h0 : 0 <= ixB hxS (bt s i) := by unfold hasF at hh; simp at hh; exact hh.2
    rw [Int.tmod_eq_emod_of_nonneg h0]; omega
   have ih := hexF_range s k (i + 1) (n * 16 + (ixB hxS (bt s i)).tmod 16) (by omega) (by omega)
   have h3 : (n * 16 + (ixB hxS (bt s i)).tmod 16 + 1) * 16 ^ k <= (n + 1) * 16 ^ (k + 1) := by
    rw [hp2, show (n + 1) * (16 ^ k * 16) = ((n + 1) * 16) * 16 ^ k by rw [Int.mul_assoc, Int.mul_comm 16 (16 ^ k)]]
    exact Int.mul_le_mul_of_nonneg_right (by omega) (by omega)
   refine ⟨ih.1, by omega, by omega, ih.2.2.2⟩
  ·have : 0 < (n + 1) * 16 ^ (k + 1) := Int.mul_pos (by omega) (by omega)
   simp only
   omega
theorem hex4_range (s : ByteArray) (i : Nat) (hi : i <= s.size) : 0 <= (hexF s 4 i 0).1 /\ (hexF s 4 i 0).1 < 65536 /\ i <= (hexF s 4 i 0).2.2 /\ (hexF s 4 i 0).2.2 <= s.size := by
 have := hexF_range s 4 i 0 (Int.le_refl _) hi
 have h : (0 + 1 : Int) * 16 ^ 4 = 65536 := by decide
 omega
theorem ltS_facts : ∀ c : Fin 256, -1 <= Lib.indexByte ltS.data.toList c.1.toUInt8 /\ Lib.indexByte ltS.data.toList c.1.toUInt8 < 8 := by decide +kernel
theorem hasF_ix {s some : ByteArray} {i : Nat} (h : hasF s some i = true) : 0 <= ixB some (bt s i) := by unfold hasF at h; simp at h; exact h.2
set_option maxHeartbeats 8000000 in
theorem escape_ok (s : ByteArray) (i : Nat) (hi : i < s.size) (hs : s.size <= 1000000) : Lexes 88 [] s i (escP s i).2.2 (.tup [vI (escP s i).1, vI (escP s i).2.1]) := by
 have c1 := has_ok s ltS (i + 1) (by omega) hs
 have c2 := one_ok s uS (i + 1) (by omega) hs
 refine OkI.of_pwp (by kernel_rfl) Tryz.func88 rfl (by kernel_rfl) (by kernel_rfl) ?_
 simp (implicitDefEqProofs := false) (disch := omega) only [go_sem, simprocAttr, dropH, inL]
 refine CallOk.ofI (c1.at (st := ⟨[], _, _, _, _⟩) 0 rfl rfl (by simp) (by rfl)) rfl rfl rfl rfl ?_
 rintro r st' ⟨rfl, nt1, q1, rfl⟩
 cases h1 : hasF s ltS (i + 1) with
 | true =>
  have hE : escP s i = (bt ptS (ixB ltS (bt s (i + 1 : Nat))), 0, i + 2) := by unfold escP; rw [if_pos h1]
  rw [hE]
  have hl := hasF_lt h1
  have h0 := hasF_ix h1
  have hb := bt_range s (i + 1 : Nat)
  have ci := indexByte_ok ltS (bt s (i + 1 : Nat))
  have hf := ltS_facts ⟨(bt s (i + 1 : Nat)).toNat, by omega⟩
  have hp := bt_range ptS (ixB ltS (bt s (i + 1 : Nat)))
  unfold ixB at h0 hp ⊢
  simp only at hf
  rw [Int.natCast_add, Int.natCast_one] at ci hf h0 hp ⊢
  generalize hz : Lib.indexByte ltS.data.toList (bt s ((i : Int) + 1)).toNat.toUInt8 = z at *
  simp (implicitDefEqProofs := false) (disch := omega) only [go_sem, simprocAttr, dropH, inL, h1]
  with_reducible refine CallOk.of ci rfl ?_
  have hw : IntKind.wrap .i64 (bt ⟨#[34, 92, 47, 8, 12, 10, 13, 9]⟩ z) = bt ptS z := by
   show IntKind.wrap .i64 (bt ptS z) = _
   rw [IntKind.wrap_i64]; omega
  simp (implicitDefEqProofs := false) (disch := omega) only [go_sem, simprocAttr, dropH, inL, hw]
  refine ⟨by show z < 8; omega, ?_⟩
  refine ⟨⟨[], [(0, .box 94 [vS s, vI (i + 2 : Nat)])], [], 1, 0⟩, ⟨rfl, rfl, rfl, rfl⟩, ?_⟩
  have e2 : (((i + 2 : Nat) : Int)) = (i : Int) + 1 + 1 := by omega
  rw [e2]
  constructor <;> simp only [go_sem, simprocAttr, decide_eq_true_eq, Int.natCast_add, Int.natCast_one] <;> try ((repeat' apply And.intro) <;> first | rfl | omega | (congr 3; omega) | (congr 2; omega))
 | false =>
  simp (implicitDefEqProofs := false) (disch := omega) only [go_sem, simprocAttr, dropH, inL, h1]
  refine CallOk.ofI (c2.at (st := ⟨[], _, _, _, _⟩) 0 rfl rfl (by simp) (by rfl)) rfl rfl rfl rfl ?_
  rintro r st' ⟨rfl, nt1, q1, rfl⟩
  cases h2 : hasF s uS (i + 1) with
  | false =>
   have hE : escP s i = (0, 1, i + 1) := by unfold escP; rw [if_neg (by rw [h1]; decide), if_neg (by rw [h2]; decide)]
   rw [hE]
   simp (implicitDefEqProofs := false) (disch := omega) only [go_sem, simprocAttr, dropH, inL, h2]
   refine ⟨⟨[], [(0, .box 94 [vS s, vI (i + 1 : Nat)])], [], 1, 0⟩, ⟨rfl, rfl, rfl, rfl⟩, ?_⟩
   constructor <;> simp only [go_sem, simprocAttr, decide_eq_true_eq, Int.natCast_add, Int.natCast_one] <;> try ((repeat' apply And.intro) <;> first | rfl | omega | (congr 3; omega) | (congr 2; omega))
  | true =>
   have hl := hasF_lt h2
   have c3 := hex_ok s (i + 2) (by omega) hs
   have hr := hex4_range s (i + 2) (by omega)
   have hE : escP s i = (if (hexF s 4 (i + 2) 0).2.1 = true then esc2 s i (hexF s 4 (i + 2) 0).1 (hexF s 4 (i + 2) 0).2.2 else (0, 1, (hexF s 4 (i + 2) 0).2.2)) := by unfold escP; rw [if_neg (by rw [h1]; decide), if_pos h2]
   rw [hE]
   generalize hexF s 4 (i + 2) 0 = X at *
   obtain ⟨n, b, e⟩ := X
   simp only at hr c3 ⊢
   simp (implicitDefEqProofs := false) (disch := omega) only [go_sem, simprocAttr, dropH, inL, h2]
   refine CallOk.ofI (c3.at (st := ⟨[], _, _, _, _⟩) 0 rfl rfl (by simp) (by rfl)) rfl rfl rfl rfl ?_
   rintro r st' ⟨rfl, nt1, q1, rfl⟩
   cases b with
   | false =>
    simp (implicitDefEqProofs := false) (disch := omega) only [go_sem, simprocAttr, dropH, inL]
    refine ⟨⟨[], [(0, .box 94 [vS s, vI e])], [], 1, 0⟩, ⟨rfl, rfl, rfl, rfl⟩, ?_⟩
    constructor <;> simp only [go_sem, simprocAttr, decide_eq_true_eq, Int.natCast_add, Int.natCast_one] <;> try ((repeat' apply And.intro) <;> first | rfl | omega | (congr 3; omega) | (congr 2; omega))
   | true =>
    rw [if_pos rfl]
    unfold esc2
    simp (implicitDefEqProofs := false) (disch := omega) only [go_sem, simprocAttr, dropH, inL]
    with_reducible refine CallOk.of (gis_ok n) rfl ?_
    cases h3 : isF n with
    | true =>
     rw [if_pos rfl]
     simp (implicitDefEqProofs := false) (disch := omega) only [go_sem, simprocAttr, dropH, inL]
     refine ⟨⟨[], [(0, .box 94 [vS s, vI e])], [], 1, 0⟩, ⟨rfl, rfl, rfl, rfl⟩, ?_⟩
     constructor <;> simp only [go_sem, simprocAttr, decide_eq_true_eq, Int.natCast_add, Int.natCast_one] <;> try ((repeat' apply And.intro) <;> first | rfl | omega | (congr 3; omega) | (congr 2; omega))
    | false =>
     rw [if_neg (by decide)]
     have c4 := one_ok s bsS e (by omega) hs
     simp (implicitDefEqProofs := false) (disch := omega) only [go_sem, simprocAttr, dropH, inL]
     refine CallOk.ofI (c4.at (st := ⟨[], _, _, _, _⟩) 0 rfl rfl (by simp) (by rfl)) rfl rfl rfl rfl ?_
     rintro r st' ⟨rfl, nt1, q1, rfl⟩
     cases h4 : hasF s bsS e with
     | false =>
      rw [if_neg (by simp)]
      simp (implicitDefEqProofs := false) (disch := omega) only [go_sem, simprocAttr, dropH, inL, h4]
      refine ⟨⟨[], [(0, .box 94 [vS s, vI i])], [], 1, 0⟩, ⟨rfl, rfl, rfl, rfl⟩, ?_⟩
      constructor <;> simp only [go_sem, simprocAttr, decide_eq_true_eq, Int.natCast_add, Int.natCast_one] <;> try ((repeat' apply And.intro) <;> first | rfl | omega | (congr 3; omega) | (congr 2; omega))
     | true =>
      have hl4 := hasF_lt h4
      have c5 := one_ok s uS (e + 1) (by omega) hs
      simp (implicitDefEqProofs := false) (disch := omega) only [go_sem, simprocAttr, dropH, inL, h4]
      refine CallOk.ofI (c5.at (st := ⟨[], _, _, _, _⟩) 0 rfl rfl (by simp) (by rfl)) rfl rfl rfl rfl ?_
      rintro r st' ⟨rfl, nt1, q1, rfl⟩
      cases h5 : hasF s uS (e + 1) with
      | false =>
       rw [if_neg (by simp)]
       simp (implicitDefEqProofs := false) (disch := omega) only [go_sem, simprocAttr, dropH, inL, h5]
       refine ⟨⟨[], [(0, .box 94 [vS s, vI i])], [], 1, 0⟩, ⟨rfl, rfl, rfl, rfl⟩, ?_⟩
       constructor <;> simp only [go_sem, simprocAttr, decide_eq_true_eq, Int.natCast_add, Int.natCast_one] <;> try ((repeat' apply And.intro) <;> first | rfl | omega | (congr 3; omega) | (congr 2; omega))
      | true =>
       have hl5 := hasF_lt h5
       have c6 := hex_ok s (e + 2) (by omega) hs
       have hr6 := hex4_range s (e + 2) (by omega)
       generalize hexF s 4 (e + 2) 0 = Y at *
       obtain ⟨m, b2, e3⟩ := Y
       simp only at hr6 c6 ⊢
       simp (implicitDefEqProofs := false) (disch := omega) only [go_sem, simprocAttr, dropH, inL, h5]
       refine CallOk.ofI (c6.at (st := ⟨[], _, _, _, _⟩) 0 rfl rfl (by simp) (by rfl)) rfl rfl rfl rfl ?_
       rintro r st' ⟨rfl, nt1, q1, rfl⟩
       cases b2 with
       | false =>
        rw [if_neg (by simp)]
        simp (implicitDefEqProofs := false) (disch := omega) only [go_sem, simprocAttr, dropH, inL]
        refine ⟨⟨[], [(0, .box 94 [vS s, vI i])], [], 1, 0⟩, ⟨rfl, rfl, rfl, rfl⟩, ?_⟩
        constructor <;> simp only [go_sem, simprocAttr, decide_eq_true_eq, Int.natCast_add, Int.natCast_one] <;> try ((repeat' apply And.intro) <;> first | rfl | omega | (congr 3; omega) | (congr 2; omega))
       | true =>
        have cp := pair_ok n m (by omega) (by omega)
        simp (implicitDefEqProofs := false) (disch := omega) only [go_sem, simprocAttr, dropH, inL]
        with_reducible refine CallOk.of cp rfl ?_
        by_cases h7 : 0 <= pairF n m
        ·rw [if_pos (by simp [h7])]
         simp (implicitDefEqProofs := false) (disch := omega) only [go_sem, simprocAttr, dropH, inL, decide_eq_true h7]
         with_reducible refine CallOk.of cp rfl ?_
         simp (implicitDefEqProofs := false) (disch := omega) only [go_sem, simprocAttr, dropH, inL]
         refine ⟨⟨[], [(0, .box 94 [vS s, vI e3])], [], 1, 0⟩, ⟨rfl, rfl, rfl, rfl⟩, ?_⟩
         constructor <;> simp only [go_sem, simprocAttr, decide_eq_true_eq, Int.natCast_add, Int.natCast_one] <;> try ((repeat' apply And.intro) <;> first | rfl | omega | (congr 3; omega) | (congr 2; omega))
        ·rw [if_neg (by simp [h7])]
         simp (implicitDefEqProofs := false) (disch := omega) only [go_sem, simprocAttr, dropH, inL, decide_eq_false h7]
         refine ⟨⟨[], [(0, .box 94 [vS s, vI i])], [], 1, 0⟩, ⟨rfl, rfl, rfl, rfl⟩, ?_⟩
         constructor <;> simp only [go_sem, simprocAttr, decide_eq_true_eq, Int.natCast_add, Int.natCast_one] <;> try ((repeat' apply And.intro) <;> first | rfl | omega | (congr 3; omega) | (congr 2; omega))
end Go.Proofs.YtcgmpcbkndpmbaaGreatDoor

end
section
open Go Go.Proofs Go.Pw Go.RowKit
namespace Go.Proofs.YtcgmpcbkndpmbaaGreatDoor
set_option maxRecDepth 4000
set_option linter.unusedVariables false
set_option linter.unusedSimpArgs false
attribute [local go_sem] Nat.le_refl Tryz.results68 Tryz.results70
abbrev tkC (k : Int) (t : ByteArray) (n : Int) (a e : Nat) : List PV := [vI k, vS t, vI n, vI a, vI e]
def ReadQ (s : ByteArray) (j : Nat) (cs : List PV) (R : Int) (r : PV) (st : PS) : Prop := r = vI R /\ st.heap = [(0, .box 94 [vS s, vI j]), (1, .box 67 cs)] /\ st.toks = [] /\ st.nx = 2
def Reads (g : FuncId) (s : ByteArray) (i j : Nat) (cs cs' : List PV) (R : Int) : Prop := OkI Tryz.prog g [.ptr 0 0, .ptr 1 0] ⟨[], [(0, .box 94 [vS s, vI i]), (1, .box 67 cs)], [], 2, 0⟩ (ReadQ s j cs' R)
theorem Reads.at {g : FuncId} {s : ByteArray} {i j : Nat} {cs cs' : List PV} {R : Int} (h : Reads g s i j cs cs' R) (k m : Nat) {st : PS} (hkm : k ≠ m) (hk : k < st.nx) (hm : m < st.nx) (hcs : PV.ltL 0 0 cs = true) (hcs' : PV.ltL 0 0 cs' = true) (ho : lkp st.heap k = some (.box 94 [vS s, vI i])) (hp : lkp st.heap m = some (.box 67 cs)) :
  OkI Tryz.prog g [.ptr k 0, .ptr m 0] st (fun r st' => r = vI R /\ ∃ nt', st.nt <= nt' /\ st' = ⟨st.env, (k, .box 94 [vS s, vI j]) :: (m, .box 67 cs') :: dropH [k, m] st.heap, st.toks, st.nx, nt'⟩) :=
 OkI.on2 k m h hkm hk hm rfl rfl hcs hcs' rfl rfl ho hp
set_option maxHeartbeats 4000000 in
theorem mark_ok (s : ByteArray) (i : Nat) (hi : i < s.size) (hs : s.size <= 1000000) (a : Nat) : Reads 70 s i (i + 1) (tkC 0 ByteArray.empty 0 a 0) (tkC 1 (s.extract i (i + 1)) 0 a 0) 0 := by
 refine OkI.of_pwp (by kernel_rfl) Tryz.func70 rfl (by kernel_rfl) (by kernel_rfl) ?_
 have hx : ((i : Int) + 1).toNat = i + 1 := by omega
 simp (implicitDefEqProofs := false) (disch := omega) only [go_sem, simprocAttr, dropH, inL, hx]
 refine ⟨⟨[], [(0, .box 94 [vS s, vI (i + 1 : Nat)]), (1, .box 67 (tkC 1 (s.extract i (i + 1)) 0 a 0))], [], 2, 0⟩, ⟨rfl, rfl, rfl, rfl⟩, ?_⟩
 constructor <;> simp only [go_sem, simprocAttr, decide_eq_true_eq, Int.natCast_add, Int.natCast_one] <;> try ((repeat' apply And.intro) <;> first | rfl | omega | (congr 3; omega) | (congr 2; omega))
def litF (s w : ByteArray) : Nat -> Nat -> Nat -> Bool × Nat
 | 0, k, i => (true, i)
 | f + 1, k, i => if hasF s (w.extract k (k + 1)) i = true then litF s w f (k + 1) (i + 1) else (false, i)
abbrev wd1 : ByteArray := ⟨#[116, 114, 117, 101]⟩
abbrev wd2 : ByteArray := ⟨#[102, 97, 108, 115, 101]⟩
abbrev wd3 : ByteArray := ⟨#[110, 117, 108, 108]⟩
def wordF (s : ByteArray) (i : Nat) : Int × Int × Nat :=
 if hasF s ⟨#[116]⟩ i = true then (if (litF s wd1 4 0 i).1 = true then (0, 4, (litF s wd1 4 0 i).2) else (1, 0, (litF s wd1 4 0 i).2)) else
 if hasF s ⟨#[102]⟩ i = true then (if (litF s wd2 5 0 i).1 = true then (0, 5, (litF s wd2 5 0 i).2) else (1, 0, (litF s wd2 5 0 i).2)) else
 if hasF s ⟨#[110]⟩ i = true then (if (litF s wd3 4 0 i).1 = true then (0, 6, (litF s wd3 4 0 i).2) else (1, 0, (litF s wd3 4 0 i).2)) else (1, 0, i)
theorem x1 : wd1.extract 0 1 = ⟨#[116]⟩ := by decide +kernel
theorem x2 : wd2.extract 0 1 = ⟨#[102]⟩ := by decide +kernel
theorem x3 : wd3.extract 0 1 = ⟨#[110]⟩ := by decide +kernel
theorem szw1 : (((#[116, 114, 117, 101] : Array UInt8).size : Nat) : Int) = 4 := rfl
theorem szw2 : (((#[102, 97, 108, 115, 101] : Array UInt8).size : Nat) : Int) = 5 := rfl
theorem szw3 : (((#[110, 117, 108, 108] : Array UInt8).size : Nat) : Int) = 4 := rfl
set_option maxHeartbeats 8000000 in
theorem word_ok (s : ByteArray) (i : Nat) (hi : i <= s.size) (hs : s.size <= 1000000) (a : Nat) : Reads 68 s i (wordF s i).2.2 (tkC 0 ByteArray.empty 0 a 0) (tkC (wordF s i).2.1 ByteArray.empty 0 a 0) (wordF s i).1 := by
 refine OkI.of_pwp (by kernel_rfl) Tryz.func68 rfl (by kernel_rfl) (by kernel_rfl) ?_
 simp (implicitDefEqProofs := false) (disch := omega) only [go_sem, simprocAttr, dropH, inL, List.getD_cons_zero, List.getD_cons_succ, List.length_singleton, x1, x2, x3, szw1, szw2, szw3]
 refine p_loop (ι := { p : Nat × Nat // p.1 <= 3 /\ (1 <= p.1 -> hasF s ⟨#[116]⟩ i = false) /\ (2 <= p.1 -> hasF s ⟨#[102]⟩ i = false) /\ (3 <= p.1 -> hasF s ⟨#[110]⟩ i = false) }) (fun p => ⟨[(10, vI p.1.1), (9, vI 3), (8, .sl [[vS wd1], [vS wd2], [vS wd3]]), (0, .ptr 0 0), (1, .ptr 1 0)], [(0, .box 94 [vS s, vI i]), (1, .box 67 (tkC 0 ByteArray.empty 0 a 0))], [], 2, p.1.2⟩) (fun p => 3 - p.1.1) ⟨(0, 0), Nat.zero_le _, fun h => by simp at h, fun h => by simp at h, fun h => by simp at h⟩ ?_ ?_
 ·constructor <;> simp only [go_sem, simprocAttr, decide_eq_true_eq, Int.natCast_zero] <;> try ((repeat' apply And.intro) <;> first | rfl | omega | (congr 3; omega) | (congr 2; omega))
 ·rintro ⟨⟨m, nt⟩, h0, h1, h2, h3⟩
  simp only at h0 h1 h2 h3 ⊢
  have hm : m = 0 ∨ m = 1 ∨ m = 2 ∨ m = 3 := by omega
  rcases hm with rfl | rfl | rfl | rfl
  ·have c := has_ok s ⟨#[116]⟩ i hi hs
   simp (implicitDefEqProofs := false) (disch := omega) only [go_sem, simprocAttr, dropH, inL, List.getD_cons_zero, List.getD_cons_succ, List.length_singleton, x1, x2, x3, szw1, szw2, szw3]
   refine CallOk.ofI (c.at (st := ⟨[], _, _, _, _⟩) 0 rfl rfl (by simp) (by rfl)) rfl rfl rfl rfl ?_
   rintro r st' ⟨rfl, nt1, q1, rfl⟩
   simp only at q1
   cases hh : hasF s ⟨#[116]⟩ i with
   | false =>
    simp (implicitDefEqProofs := false) (disch := omega) only [go_sem, simprocAttr, dropH, inL, List.getD_cons_zero, List.getD_cons_succ, List.length_singleton, x1, x2, x3, szw1, szw2, szw3, hh]
    refine ⟨⟨(1, nt), by simp, fun _ => rfl, fun h => by simp at h, fun h => by simp at h⟩, by simp, ?_⟩
    constructor <;> simp only [go_sem, simprocAttr, decide_eq_true_eq] <;> try ((repeat' apply And.intro) <;> first | rfl | omega | (congr 3; omega) | (congr 2; omega))
   | true =>
    have hE : wordF s i = (if (litF s wd1 4 0 i).1 = true then (0, 4, (litF s wd1 4 0 i).2) else (1, 0, (litF s wd1 4 0 i).2)) := by unfold wordF; rw [if_pos hh]
    rw [hE]
    simp (implicitDefEqProofs := false) (disch := omega) only [go_sem, simprocAttr, dropH, inL, List.getD_cons_zero, List.getD_cons_succ, List.length_singleton, x1, x2, x3, szw1, szw2, szw3, hh]
    refine p_loop (ι := { p : Nat × Nat × Nat // p.1 <= 4 /\ p.2.1 <= s.size /\ litF s wd1 (4 - p.1) p.1 p.2.1 = litF s wd1 4 0 i }) (fun p => ⟨[(22, vI p.1.1), (21, vI 4), (6, vS wd1), (5, vI 0), (0, .ptr 0 0), (1, .ptr 1 0)], [(0, .box 94 [vS s, vI p.1.2.1]), (1, .box 67 (tkC 0 ByteArray.empty 0 a 0))], [], 2, p.1.2.2⟩) (fun p => 4 - p.1.1) ⟨(0, i, nt), Nat.zero_le _, hi, rfl⟩ ?_ ?_
    ·constructor <;> simp only [go_sem, simprocAttr, decide_eq_true_eq, Int.natCast_zero] <;> try ((repeat' apply And.intro) <;> first | rfl | omega | (congr 3; omega) | (congr 2; omega))
    ·rintro ⟨⟨k, j, nt⟩, g1, g2, g3⟩
     simp only at g1 g2 g3 ⊢
     by_cases hk : k < 4
     ·have c2 := one_ok s (wd1.extract k (k + 1)) j g2 hs
      have hkx : ((k : Int) + 1).toNat = k + 1 := by omega
      rw [show 4 - k = (4 - (k + 1)) + 1 by omega, litF] at g3
      simp (implicitDefEqProofs := false) (disch := omega) only [go_sem, simprocAttr, dropH, inL, List.getD_cons_zero, List.getD_cons_succ, List.length_singleton, x1, x2, x3, szw1, szw2, szw3, hkx]
      refine CallOk.ofI (c2.at (st := ⟨[], _, _, _, _⟩) 0 rfl rfl (by simp) (by rfl)) rfl rfl rfl rfl ?_
      rintro r st' ⟨rfl, nt1, q1, rfl⟩
      simp only at q1
      cases hh2 : hasF s (wd1.extract k (k + 1)) j with
      | true =>
       have hl2 := hasF_lt hh2
       rw [if_pos hh2] at g3
       simp (implicitDefEqProofs := false) (disch := omega) only [go_sem, simprocAttr, dropH, inL, List.getD_cons_zero, List.getD_cons_succ, List.length_singleton, x1, x2, x3, szw1, szw2, szw3, hh2]
       refine ⟨⟨(k + 1, j + 1, nt), hk, hl2, g3⟩, by simp only; omega, ?_⟩
       constructor <;> simp only [go_sem, simprocAttr, decide_eq_true_eq, Int.natCast_add, Int.natCast_one] <;> try ((repeat' apply And.intro) <;> first | rfl | omega | (congr 3; omega) | (congr 2; omega))
      | false =>
       rw [if_neg (by rw [hh2]; decide)] at g3
       rw [<- g3]
       simp (implicitDefEqProofs := false) (disch := omega) only [go_sem, simprocAttr, dropH, inL, List.getD_cons_zero, List.getD_cons_succ, List.length_singleton, x1, x2, x3, szw1, szw2, szw3, hh2]
       refine ⟨⟨[], [(0, .box 94 [vS s, vI j]), (1, .box 67 (tkC 0 ByteArray.empty 0 a 0))], [], 2, 0⟩, ⟨rfl, rfl, rfl, rfl⟩, ?_⟩
       constructor <;> simp only [go_sem, simprocAttr, decide_eq_true_eq, Int.natCast_add, Int.natCast_one] <;> try ((repeat' apply And.intro) <;> first | rfl | omega | (congr 3; omega) | (congr 2; omega))
     ·have hk4 : k = 4 := by omega
      subst hk4
      rw [show 4 - 4 = 0 from rfl, litF] at g3
      rw [<- g3]
      simp (implicitDefEqProofs := false) (disch := omega) only [go_sem, simprocAttr, dropH, inL, List.getD_cons_zero, List.getD_cons_succ, List.length_singleton, x1, x2, x3, szw1, szw2, szw3]
      refine ⟨⟨[], [(0, .box 94 [vS s, vI j]), (1, .box 67 (tkC 4 ByteArray.empty 0 a 0))], [], 2, 0⟩, ⟨rfl, rfl, rfl, rfl⟩, ?_⟩
      constructor <;> simp only [go_sem, simprocAttr, decide_eq_true_eq, Int.natCast_add, Int.natCast_one] <;> try ((repeat' apply And.intro) <;> first | rfl | omega | (congr 3; omega) | (congr 2; omega))
  ·have c := has_ok s ⟨#[102]⟩ i hi hs
   simp (implicitDefEqProofs := false) (disch := omega) only [go_sem, simprocAttr, dropH, inL, List.getD_cons_zero, List.getD_cons_succ, List.length_singleton, x1, x2, x3, szw1, szw2, szw3]
   refine CallOk.ofI (c.at (st := ⟨[], _, _, _, _⟩) 0 rfl rfl (by simp) (by rfl)) rfl rfl rfl rfl ?_
   rintro r st' ⟨rfl, nt1, q1, rfl⟩
   simp only at q1
   cases hh : hasF s ⟨#[102]⟩ i with
   | false =>
    simp (implicitDefEqProofs := false) (disch := omega) only [go_sem, simprocAttr, dropH, inL, List.getD_cons_zero, List.getD_cons_succ, List.length_singleton, x1, x2, x3, szw1, szw2, szw3, hh]
    refine ⟨⟨(2, nt), by simp, fun _ => h1 (by decide), fun _ => rfl, fun h => by simp at h⟩, by simp, ?_⟩
    constructor <;> simp only [go_sem, simprocAttr, decide_eq_true_eq] <;> try ((repeat' apply And.intro) <;> first | rfl | omega | (congr 3; omega) | (congr 2; omega))
   | true =>
    have hE : wordF s i = (if (litF s wd2 5 0 i).1 = true then (0, 5, (litF s wd2 5 0 i).2) else (1, 0, (litF s wd2 5 0 i).2)) := by unfold wordF; rw [if_neg (by rw [h1 (by decide)]; decide), if_pos hh]
    rw [hE]
    simp (implicitDefEqProofs := false) (disch := omega) only [go_sem, simprocAttr, dropH, inL, List.getD_cons_zero, List.getD_cons_succ, List.length_singleton, x1, x2, x3, szw1, szw2, szw3, hh]
    refine p_loop (ι := { p : Nat × Nat × Nat // p.1 <= 5 /\ p.2.1 <= s.size /\ litF s wd2 (5 - p.1) p.1 p.2.1 = litF s wd2 5 0 i }) (fun p => ⟨[(22, vI p.1.1), (21, vI 5), (6, vS wd2), (5, vI 1), (0, .ptr 0 0), (1, .ptr 1 0)], [(0, .box 94 [vS s, vI p.1.2.1]), (1, .box 67 (tkC 0 ByteArray.empty 0 a 0))], [], 2, p.1.2.2⟩) (fun p => 5 - p.1.1) ⟨(0, i, nt), Nat.zero_le _, hi, rfl⟩ ?_ ?_
    ·constructor <;> simp only [go_sem, simprocAttr, decide_eq_true_eq, Int.natCast_zero] <;> try ((repeat' apply And.intro) <;> first | rfl | omega | (congr 3; omega) | (congr 2; omega))
    ·rintro ⟨⟨k, j, nt⟩, g1, g2, g3⟩
     simp only at g1 g2 g3 ⊢
     by_cases hk : k < 5
     ·have c2 := one_ok s (wd2.extract k (k + 1)) j g2 hs
      have hkx : ((k : Int) + 1).toNat = k + 1 := by omega
      rw [show 5 - k = (5 - (k + 1)) + 1 by omega, litF] at g3
      simp (implicitDefEqProofs := false) (disch := omega) only [go_sem, simprocAttr, dropH, inL, List.getD_cons_zero, List.getD_cons_succ, List.length_singleton, x1, x2, x3, szw1, szw2, szw3, hkx]
      refine CallOk.ofI (c2.at (st := ⟨[], _, _, _, _⟩) 0 rfl rfl (by simp) (by rfl)) rfl rfl rfl rfl ?_
      rintro r st' ⟨rfl, nt1, q1, rfl⟩
      simp only at q1
      cases hh2 : hasF s (wd2.extract k (k + 1)) j with
      | true =>
       have hl2 := hasF_lt hh2
       rw [if_pos hh2] at g3
       simp (implicitDefEqProofs := false) (disch := omega) only [go_sem, simprocAttr, dropH, inL, List.getD_cons_zero, List.getD_cons_succ, List.length_singleton, x1, x2, x3, szw1, szw2, szw3, hh2]
       refine ⟨⟨(k + 1, j + 1, nt), hk, hl2, g3⟩, by simp only; omega, ?_⟩
       constructor <;> simp only [go_sem, simprocAttr, decide_eq_true_eq, Int.natCast_add, Int.natCast_one] <;> try ((repeat' apply And.intro) <;> first | rfl | omega | (congr 3; omega) | (congr 2; omega))
      | false =>
       rw [if_neg (by rw [hh2]; decide)] at g3
       rw [<- g3]
       simp (implicitDefEqProofs := false) (disch := omega) only [go_sem, simprocAttr, dropH, inL, List.getD_cons_zero, List.getD_cons_succ, List.length_singleton, x1, x2, x3, szw1, szw2, szw3, hh2]
       refine ⟨⟨[], [(0, .box 94 [vS s, vI j]), (1, .box 67 (tkC 0 ByteArray.empty 0 a 0))], [], 2, 0⟩, ⟨rfl, rfl, rfl, rfl⟩, ?_⟩
       constructor <;> simp only [go_sem, simprocAttr, decide_eq_true_eq, Int.natCast_add, Int.natCast_one] <;> try ((repeat' apply And.intro) <;> first | rfl | omega | (congr 3; omega) | (congr 2; omega))
     ·have hk4 : k = 5 := by omega
      subst hk4
      rw [show 5 - 5 = 0 from rfl, litF] at g3
      rw [<- g3]
      simp (implicitDefEqProofs := false) (disch := omega) only [go_sem, simprocAttr, dropH, inL, List.getD_cons_zero, List.getD_cons_succ, List.length_singleton, x1, x2, x3, szw1, szw2, szw3]
      refine ⟨⟨[], [(0, .box 94 [vS s, vI j]), (1, .box 67 (tkC 5 ByteArray.empty 0 a 0))], [], 2, 0⟩, ⟨rfl, rfl, rfl, rfl⟩, ?_⟩
      constructor <;> simp only [go_sem, simprocAttr, decide_eq_true_eq, Int.natCast_add, Int.natCast_one] <;> try ((repeat' apply And.intro) <;> first | rfl | omega | (congr 3; omega) | (congr 2; omega))
  ·have c := has_ok s ⟨#[110]⟩ i hi hs
   simp (implicitDefEqProofs := false) (disch := omega) only [go_sem, simprocAttr, dropH, inL, List.getD_cons_zero, List.getD_cons_succ, List.length_singleton, x1, x2, x3, szw1, szw2, szw3]
   refine CallOk.ofI (c.at (st := ⟨[], _, _, _, _⟩) 0 rfl rfl (by simp) (by rfl)) rfl rfl rfl rfl ?_
   rintro r st' ⟨rfl, nt1, q1, rfl⟩
   simp only at q1
   cases hh : hasF s ⟨#[110]⟩ i with
   | false =>
    simp (implicitDefEqProofs := false) (disch := omega) only [go_sem, simprocAttr, dropH, inL, List.getD_cons_zero, List.getD_cons_succ, List.length_singleton, x1, x2, x3, szw1, szw2, szw3, hh]
    refine ⟨⟨(3, nt), by simp, fun _ => h1 (by decide), fun _ => h2 (by decide), fun _ => rfl⟩, by simp, ?_⟩
    constructor <;> simp only [go_sem, simprocAttr, decide_eq_true_eq] <;> try ((repeat' apply And.intro) <;> first | rfl | omega | (congr 3; omega) | (congr 2; omega))
   | true =>
    have hE : wordF s i = (if (litF s wd3 4 0 i).1 = true then (0, 6, (litF s wd3 4 0 i).2) else (1, 0, (litF s wd3 4 0 i).2)) := by unfold wordF; rw [if_neg (by rw [h1 (by decide)]; decide), if_neg (by rw [h2 (by decide)]; decide), if_pos hh]
    rw [hE]
    simp (implicitDefEqProofs := false) (disch := omega) only [go_sem, simprocAttr, dropH, inL, List.getD_cons_zero, List.getD_cons_succ, List.length_singleton, x1, x2, x3, szw1, szw2, szw3, hh]
    refine p_loop (ι := { p : Nat × Nat × Nat // p.1 <= 4 /\ p.2.1 <= s.size /\ litF s wd3 (4 - p.1) p.1 p.2.1 = litF s wd3 4 0 i }) (fun p => ⟨[(22, vI p.1.1), (21, vI 4), (6, vS wd3), (5, vI 2), (0, .ptr 0 0), (1, .ptr 1 0)], [(0, .box 94 [vS s, vI p.1.2.1]), (1, .box 67 (tkC 0 ByteArray.empty 0 a 0))], [], 2, p.1.2.2⟩) (fun p => 4 - p.1.1) ⟨(0, i, nt), Nat.zero_le _, hi, rfl⟩ ?_ ?_
    ·constructor <;> simp only [go_sem, simprocAttr, decide_eq_true_eq, Int.natCast_zero] <;> try ((repeat' apply And.intro) <;> first | rfl | omega | (congr 3; omega) | (congr 2; omega))
    ·rintro ⟨⟨k, j, nt⟩, g1, g2, g3⟩
     simp only at g1 g2 g3 ⊢
     by_cases hk : k < 4
     ·have c2 := one_ok s (wd3.extract k (k + 1)) j g2 hs
      have hkx : ((k : Int) + 1).toNat = k + 1 := by omega
      rw [show 4 - k = (4 - (k + 1)) + 1 by omega, litF] at g3
      simp (implicitDefEqProofs := false) (disch := omega) only [go_sem, simprocAttr, dropH, inL, List.getD_cons_zero, List.getD_cons_succ, List.length_singleton, x1, x2, x3, szw1, szw2, szw3, hkx]
      refine CallOk.ofI (c2.at (st := ⟨[], _, _, _, _⟩) 0 rfl rfl (by simp) (by rfl)) rfl rfl rfl rfl ?_
      rintro r st' ⟨rfl, nt1, q1, rfl⟩
      simp only at q1
      cases hh2 : hasF s (wd3.extract k (k + 1)) j with
      | true =>
       have hl2 := hasF_lt hh2
       rw [if_pos hh2] at g3
       simp (implicitDefEqProofs := false) (disch := omega) only [go_sem, simprocAttr, dropH, inL, List.getD_cons_zero, List.getD_cons_succ, List.length_singleton, x1, x2, x3, szw1, szw2, szw3, hh2]
       refine ⟨⟨(k + 1, j + 1, nt), hk, hl2, g3⟩, by simp only; omega, ?_⟩
       constructor <;> simp only [go_sem, simprocAttr, decide_eq_true_eq, Int.natCast_add, Int.natCast_one] <;> try ((repeat' apply And.intro) <;> first | rfl | omega | (congr 3; omega) | (congr 2; omega))
      | false =>
       rw [if_neg (by rw [hh2]; decide)] at g3
       rw [<- g3]
       simp (implicitDefEqProofs := false) (disch := omega) only [go_sem, simprocAttr, dropH, inL, List.getD_cons_zero, List.getD_cons_succ, List.length_singleton, x1, x2, x3, szw1, szw2, szw3, hh2]
       refine ⟨⟨[], [(0, .box 94 [vS s, vI j]), (1, .box 67 (tkC 0 ByteArray.empty 0 a 0))], [], 2, 0⟩, ⟨rfl, rfl, rfl, rfl⟩, ?_⟩
       constructor <;> simp only [go_sem, simprocAttr, decide_eq_true_eq, Int.natCast_add, Int.natCast_one] <;> try ((repeat' apply And.intro) <;> first | rfl | omega | (congr 3; omega) | (congr 2; omega))
     ·have hk4 : k = 4 := by omega
      subst hk4
      rw [show 4 - 4 = 0 from rfl, litF] at g3
      rw [<- g3]
      simp (implicitDefEqProofs := false) (disch := omega) only [go_sem, simprocAttr, dropH, inL, List.getD_cons_zero, List.getD_cons_succ, List.length_singleton, x1, x2, x3, szw1, szw2, szw3]
      refine ⟨⟨[], [(0, .box 94 [vS s, vI j]), (1, .box 67 (tkC 6 ByteArray.empty 0 a 0))], [], 2, 0⟩, ⟨rfl, rfl, rfl, rfl⟩, ?_⟩
      constructor <;> simp only [go_sem, simprocAttr, decide_eq_true_eq, Int.natCast_add, Int.natCast_one] <;> try ((repeat' apply And.intro) <;> first | rfl | omega | (congr 3; omega) | (congr 2; omega))
  ·have hE : wordF s i = (1, 0, i) := by unfold wordF; rw [if_neg (by rw [h1 (by decide)]; decide), if_neg (by rw [h2 (by decide)]; decide), if_neg (by rw [h3 (by decide)]; decide)]
   rw [hE]
   simp (implicitDefEqProofs := false) (disch := omega) only [go_sem, simprocAttr, dropH, inL, List.getD_cons_zero, List.getD_cons_succ, List.length_singleton, x1, x2, x3, szw1, szw2, szw3]
   refine ⟨⟨[], [(0, .box 94 [vS s, vI i]), (1, .box 67 (tkC 0 ByteArray.empty 0 a 0))], [], 2, 0⟩, ⟨rfl, rfl, rfl, rfl⟩, ?_⟩
   constructor <;> simp only [go_sem, simprocAttr, decide_eq_true_eq] <;> try ((repeat' apply And.intro) <;> first | rfl | omega | (congr 3; omega) | (congr 2; omega))
end Go.Proofs.YtcgmpcbkndpmbaaGreatDoor

end
section
open Go Go.Proofs Go.Pw
namespace Go.Proofs.YtcgmpcbkndpmbaaGreatDoor
set_option maxRecDepth 4000
set_option linter.unusedVariables false
set_option linter.unusedSimpArgs false
theorem allD_step {t : ByteArray} {k i : Nat} : (∀ j, j < i -> k <= j -> isD (bt t j)) -> isD (bt t i) -> ∀ j, j < i + 1 -> k <= j -> isD (bt t j) := fun h d j hj hk => by
 by_cases e : j = i
 ·subst e; exact d
 ·exact h j (by omega) hk
end Go.Proofs.YtcgmpcbkndpmbaaGreatDoor

end
section
open Go Go.Proofs Go.Pw
namespace Go.Proofs.YtcgmpcbkndpmbaaGreatDoor
set_option maxRecDepth 4000
set_option linter.unusedVariables false
set_option linter.unusedSimpArgs false
def pC (s : ByteArray) : Int := if formP s then (if fits (zOf s) then 0 else 4) else 1
def pV (s : ByteArray) : Int := if pC s = 0 then zOf s else 0
theorem pC_0 {s : ByteArray} (h : formP s) (k : fits (zOf s)) : pC s = 0 := by rw [pC, if_pos h, if_pos k]
theorem pC_4 {s : ByteArray} (h : formP s) (k : ¬ fits (zOf s)) : pC s = 4 := by rw [pC, if_pos h, if_neg k]
theorem pC_1 {s : ByteArray} (h : ¬ formP s) : pC s = 1 := by rw [pC, if_neg h]
theorem pV_0 {s : ByteArray} (h : pC s = 0) : pV s = zOf s := by rw [pV, if_pos h]
theorem pV_n {s : ByteArray} (h : pC s ≠ 0) : pV s = 0 := by rw [pV, if_neg h]
end Go.Proofs.YtcgmpcbkndpmbaaGreatDoor

end
section
open Go Go.Proofs Go.Pw
namespace Go.Proofs.YtcgmpcbkndpmbaaGreatDoor
set_option maxRecDepth 4000
set_option linter.unusedVariables false
set_option linter.unusedSimpArgs false
attribute [local go_sem] Int.toNat_natCast Int.toNat_one Int.toNat_zero Nat.le_refl Tryz.results109 Tryz.results93 str_eq
theorem trimDig_ok (s : ByteArray) : Ok Tryz.prog 121 [vS s, vS ⟨#[45]⟩] (vS (digS s)) := by
 have h := trimP_ok s ⟨#[45]⟩
 have e := trim_dig s
 rw [<- e]
 exact h
theorem form_dig (s : ByteArray) : formP s ↔ 0 < (digS s).size /\ ¬ (bt (digS s) 0 = 48 /\ 1 < (digS s).size) /\ allD (digS s) 0 := by
 unfold formP digS fromF
 by_cases h0 : s.size = 0
 ·rw [if_neg (by omega)]
  constructor
  ·intro h; have := h.1; omega
  ·intro h
   have := h.1
   split at this
   ·simp at this; omega
   ·omega
 ·by_cases hb : bt s 0 = 45
  ·rw [if_pos ⟨by omega, hb⟩, if_pos hb]
   have hz : (s.extract 1 s.size).size = s.size - 1 := by simp
   rw [hz]
   by_cases h1 : s.size = 1
   ·constructor
    ·intro h; have := h.1; omega
    ·intro h; have := h.1; omega
   ·have e1 : bt (s.extract 1 s.size) 0 = bt s (1 : Nat) := bt_ext s (a := 1) (b := s.size) (i := 0) (by omega)
    rw [e1]
    refine ⟨fun ⟨h1, h2, h3⟩ => ⟨by omega, fun k => h2 ⟨k.1, by omega⟩, fun j hj _ => ?_⟩, fun ⟨h1, h2, h3⟩ => ⟨by omega, fun k => h2 ⟨k.1, by omega⟩, fun j hj hk => ?_⟩⟩
    ·rw [bt_ext s (by omega)]; exact h3 (1 + j) (by omega) (by omega)
    ·have := h3 (j - 1) (by omega) (by omega)
     rw [bt_ext s (by omega), show 1 + (j - 1) = j by omega] at this
     exact this
  ·rw [if_neg (fun k => hb k.2), if_neg hb]
   exact ⟨fun ⟨h1, h2, h3⟩ => ⟨h1, fun k => h2 ⟨k.1, by omega⟩, h3⟩, fun ⟨h1, h2, h3⟩ => ⟨h1, fun k => h2 ⟨k.1, by omega⟩, h3⟩⟩
def dgB (d : ByteArray) : Bool := decide (0 < d.size /\ ¬ (bt d 0 = 48 /\ 1 < d.size) /\ allD d 0)
theorem form_dgB (s : ByteArray) : decide (formP s) = dgB (digS s) := decide_eq_decide.2 (form_dig s)
theorem digS_le (s : ByteArray) : (digS s).size <= s.size := by
 unfold digS
 split
 ·rw [ByteArray.size_extract]; omega
 ·exact Nat.le_refl _
theorem dec_lo {s : ByteArray} {i : Nat} (h : i < s.size) (hb : bt s i < 128) : Utf8.decode s i = ((bt s i).toNat, 1) := by
 have e : bt s i = ((s[i]'h).toNat : Int) := bt_list (by rw [Array.getElem?_toList]; exact Array.getElem?_eq_getElem h)
 rw [decode_ascii s i h (by omega), e]; rfl
theorem dec_hi {s : ByteArray} {i : Nat} (hb : 128 <= bt s i) : 128 <= (Utf8.decode s i).1 := by
 unfold bt at hb
 rw [Int.toNat_natCast] at hb
 rw [Lib.decode_N]
 generalize (s.data.toList.getD i 0).toNat = x at *
 unfold Lib.decodeN
 rw [if_neg (by omega)]
 repeat' split
 all_goals first | omega | (simp only; omega)
theorem form_ok (s : ByteArray) (hs : s.size <= 1000000) : Ok Tryz.prog 109 [vS s] (vB (decide (formP s))) := by
 have c0 := trimDig_ok s
 have hz : (digS s).size <= 1000000 := Nat.le_trans (digS_le s) hs
 rw [form_dgB]
 generalize digS s = d at *
 refine Ok.of_pwp (by kernel_rfl) Tryz.func109 rfl (by kernel_rfl) (by kernel_rfl) ?_
 by_cases h0 : d.size = 0
 ·have he : decide (d.data.toList = []) = true := decide_eq_true (List.eq_nil_of_length_eq_zero (by rw [Array.length_toList]; exact h0))
  have e : dgB d = false := decide_eq_false (fun h => by have := h.1; omega)
  rw [e]
  simp (implicitDefEqProofs := false) (disch := omega) only [go_sem, simprocAttr, he]
  with_reducible refine CallOk.of c0 rfl ?_
  simp (implicitDefEqProofs := false) (disch := omega) only [go_sem, simprocAttr, he]
 have he : decide (d.data.toList = []) = false := decide_eq_false (fun h => h0 (by have := congrArg List.length h; rw [Array.length_toList] at this; exact this))
 have b0 := bt_rng d 0
 by_cases hz1 : bt d 0 = 48 /\ 1 < d.size
 ·have hd0 := hz1.1
  have he2 : decide (d.data.toList = [48]) = false := decide_eq_false (fun h => by
   have := congrArg List.length h
   rw [Array.length_toList] at this
   have h1 : d.size = 1 := this
   omega)
  have e : dgB d = false := decide_eq_false (fun h => h.2.1 hz1)
  rw [e]
  simp (implicitDefEqProofs := false) (disch := omega) only [go_sem, simprocAttr, he, he2, hd0]
  with_reducible refine CallOk.of c0 rfl ?_
  simp (implicitDefEqProofs := false) (disch := omega) only [go_sem, simprocAttr, he, he2, hd0]
 by_cases hd0 : bt d 0 = 48
 ·have h1 : d.size = 1 := by omega
  have he2 : decide (d.data.toList = [48]) = true := decide_eq_true (by
   obtain ⟨c, hc⟩ : ∃ c, d.data.toList = [c] := List.length_eq_one_iff.1 (by rw [Array.length_toList]; exact h1)
   have := bt_list (s := d) (i := 0) (c := c) (by rw [hc]; rfl)
   rw [hc]
   congr 1
   apply UInt8.toNat_inj.1
   have h2 : bt d (0 : Nat) = 48 := hd0
   rw [h2] at this
   show c.toNat = 48
   omega)
  simp (implicitDefEqProofs := false) (disch := omega) only [go_sem, simprocAttr, he, he2, hd0]
  with_reducible refine CallOk.of c0 rfl ?_
  simp (implicitDefEqProofs := false) (disch := omega) only [go_sem, simprocAttr, he, he2, hd0]
  refine p_loop (ι := { i : Nat // i <= d.size /\ ∀ j, j < i -> 0 <= j -> isD (bt d j) }) (fun i => ⟨[(20, .ptr 16 0)], [(16, .iter d i.1)], [], 17, 0⟩) (fun i => d.size - i.1) ⟨0, Nat.zero_le _, fun j h1 h2 => by omega⟩ ?_ ?_
  ·constructor <;> simp only [go_sem, simprocAttr, decide_eq_true_eq] <;> try ((repeat' apply And.intro) <;> first | rfl | omega | (congr 3; omega) | (congr 2; omega))
  ·rintro ⟨i, g1, g2⟩
   simp only
   by_cases hi : i < d.size
   ·have hbr := bt_rng d i
    by_cases hd : isD (bt d i)
    ·have hd' := hd
     unfold isD at hd'
     have ed := dec_lo hi (by omega)
     simp (implicitDefEqProofs := false) (disch := omega) only [go_sem, simprocAttr, ed]
     refine ⟨⟨i + 1, hi, allD_step g2 hd⟩, by simp only; omega, ?_⟩
     constructor <;> simp only [go_sem, simprocAttr, decide_eq_true_eq] <;> try ((repeat' apply And.intro) <;> first | rfl | omega | (congr 3; omega) | (congr 2; omega))
    ·have e : dgB d = false := decide_eq_false (fun k => hd (k.2.2 i hi (Nat.zero_le _)))
     rw [e]
     unfold isD at hd
     by_cases hlo : bt d i < 128
     ·have ed := dec_lo hi hlo
      by_cases hl : bt d i < 48
      ·simp (implicitDefEqProofs := false) (disch := omega) only [go_sem, simprocAttr, ed]
      ·simp (implicitDefEqProofs := false) (disch := omega) only [go_sem, simprocAttr, ed]
     ·have ed := dec_hi (s := d) (i := i) (by omega)
      simp (implicitDefEqProofs := false) (disch := omega) only [go_sem, simprocAttr]
   ·have hi' : i = d.size := by omega
    subst hi'
    have e : dgB d = true := decide_eq_true ⟨by omega, hz1, fun j h1 h2 => g2 j h1 h2⟩
    rw [e]
    simp (implicitDefEqProofs := false) (disch := omega) only [go_sem, simprocAttr]
 ·simp (implicitDefEqProofs := false) (disch := omega) only [go_sem, simprocAttr, he]
  with_reducible refine CallOk.of c0 rfl ?_
  simp (implicitDefEqProofs := false) (disch := omega) only [go_sem, simprocAttr, he]
  refine p_loop (ι := { i : Nat // i <= d.size /\ ∀ j, j < i -> 0 <= j -> isD (bt d j) }) (fun i => ⟨[(20, .ptr 16 0)], [(16, .iter d i.1)], [], 17, 0⟩) (fun i => d.size - i.1) ⟨0, Nat.zero_le _, fun j h1 h2 => by omega⟩ ?_ ?_
  ·constructor <;> simp only [go_sem, simprocAttr, decide_eq_true_eq] <;> try ((repeat' apply And.intro) <;> first | rfl | omega | (congr 3; omega) | (congr 2; omega))
  ·rintro ⟨i, g1, g2⟩
   simp only
   by_cases hi : i < d.size
   ·have hbr := bt_rng d i
    by_cases hd : isD (bt d i)
    ·have hd' := hd
     unfold isD at hd'
     have ed := dec_lo hi (by omega)
     simp (implicitDefEqProofs := false) (disch := omega) only [go_sem, simprocAttr, ed]
     refine ⟨⟨i + 1, hi, allD_step g2 hd⟩, by simp only; omega, ?_⟩
     constructor <;> simp only [go_sem, simprocAttr, decide_eq_true_eq] <;> try ((repeat' apply And.intro) <;> first | rfl | omega | (congr 3; omega) | (congr 2; omega))
    ·have e : dgB d = false := decide_eq_false (fun k => hd (k.2.2 i hi (Nat.zero_le _)))
     rw [e]
     unfold isD at hd
     by_cases hlo : bt d i < 128
     ·have ed := dec_lo hi hlo
      by_cases hl : bt d i < 48
      ·simp (implicitDefEqProofs := false) (disch := omega) only [go_sem, simprocAttr, ed]
      ·simp (implicitDefEqProofs := false) (disch := omega) only [go_sem, simprocAttr, ed]
     ·have ed := dec_hi (s := d) (i := i) (by omega)
      simp (implicitDefEqProofs := false) (disch := omega) only [go_sem, simprocAttr]
   ·have hi' : i = d.size := by omega
    subst hi'
    have e : dgB d = true := decide_eq_true ⟨by omega, hz1, fun j h1 h2 => g2 j h1 h2⟩
    rw [e]
    simp (implicitDefEqProofs := false) (disch := omega) only [go_sem, simprocAttr]
theorem parse_ok (s : ByteArray) (hs : s.size <= 1000000) : Ok Tryz.prog 93 [vS s] (two (pV s) (pC s)) := by
 have c0 := form_ok s hs
 refine Ok.of_pwp (by kernel_rfl) Tryz.func93 rfl (by kernel_rfl) (by kernel_rfl) ?_
 by_cases hf : formP s
 ·rw [decide_eq_true hf] at c0
  simp (implicitDefEqProofs := false) (disch := omega) only [go_sem, simprocAttr]
  with_reducible refine CallOk.of c0 rfl ?_
  by_cases hk : fits (zOf s)
  ·have c1 := parseInt_yes s hs hf hk
   rw [pV_0 (pC_0 hf hk), pC_0 hf hk]
   simp (implicitDefEqProofs := false) (disch := omega) only [go_sem, simprocAttr]
   with_reducible refine CallOk.of c1 rfl ?_
   simp (implicitDefEqProofs := false) (disch := omega) only [go_sem, simprocAttr]
  ·have c1 := parseInt_no s hs hf hk
   rw [pV_n (by rw [pC_4 hf hk]; decide), pC_4 hf hk]
   simp (implicitDefEqProofs := false) (disch := omega) only [go_sem, simprocAttr]
   with_reducible refine CallOk.of c1 rfl ?_
   simp (implicitDefEqProofs := false) (disch := omega) only [go_sem, simprocAttr]
 ·rw [decide_eq_false hf] at c0
  rw [pV_n (by rw [pC_1 hf]; decide), pC_1 hf]
  simp (implicitDefEqProofs := false) (disch := omega) only [go_sem, simprocAttr]
  with_reducible refine CallOk.of c0 rfl ?_
  simp (implicitDefEqProofs := false) (disch := omega) only [go_sem, simprocAttr]
def sOf (n : Int) : ByteArray := ⟨(Lib.itoa n).toArray⟩
end Go.Proofs.YtcgmpcbkndpmbaaGreatDoor

end
section
open Go Go.Proofs Go.Pw Go.RowKit
namespace Go.Proofs.YtcgmpcbkndpmbaaGreatDoor
set_option maxRecDepth 4000
set_option linter.unusedVariables false
set_option linter.unusedSimpArgs false
attribute [local go_sem] Nat.le_refl Tryz.results72
abbrev dgS : ByteArray := ⟨#[48, 49, 50, 51, 52, 53, 54, 55, 56, 57]⟩
abbrev mnS : ByteArray := ⟨#[45]⟩
abbrev zrS : ByteArray := ⟨#[48]⟩
abbrev dtS : ByteArray := ⟨#[46]⟩
abbrev eeS : ByteArray := ⟨#[101, 69]⟩
abbrev pmS : ByteArray := ⟨#[43, 45]⟩
def oneP (s some : ByteArray) (i : Nat) : Nat := if hasF s some i = true then i + 1 else i
theorem oneP_le {s some : ByteArray} {i : Nat} (hi : i <= s.size) : i <= oneP s some i /\ oneP s some i <= s.size := by
 unfold oneP
 split
 ·rename_i h; have := hasF_lt h; omega
 ·omega
def numI (s : ByteArray) (a : Nat) : Bool × Nat := if hasF s zrS a = true then (true, a + 1) else (!decide (passF s dgS a = a), passF s dgS a)
def numD (s : ByteArray) (b : Nat) : Bool × Nat := if hasF s dtS b = true then (!decide (passF s dgS (b + 1) = b + 1), passF s dgS (b + 1)) else (true, b)
def numE (s : ByteArray) (b : Nat) : Bool × Nat := if hasF s eeS b = true then (!decide (passF s dgS (oneP s pmS (b + 1)) = oneP s pmS (b + 1)), passF s dgS (oneP s pmS (b + 1))) else (true, b)
def numT (s : ByteArray) (i b q : Nat) : Int × Int × Nat := if pC (s.extract i b) = 0 /\ b = q then (0, pV (s.extract i b), q) else (4, 0, i)
def numX (s : ByteArray) (i b : Nat) (c : Bool × Nat) : Int × Int × Nat := if c.1 = true then (if (numE s c.2).1 = true then numT s i b (numE s c.2).2 else (1, 0, (numE s c.2).2)) else (1, 0, c.2)
def numY (s : ByteArray) (i : Nat) (b : Bool × Nat) : Int × Int × Nat := if b.1 = true then numX s i b.2 (numD s b.2) else (1, 0, b.2)
def numF (s : ByteArray) (i : Nat) : Int × Int × Nat := numY s i (numI s (oneP s mnS i))
set_option maxHeartbeats 16000000 in
theorem number_ok5 (s : ByteArray) (i : Nat) (hi : i <= s.size) (hs : s.size <= 1000000) : Reads 72 s i (numF s i).2.2 (tkC 0 ByteArray.empty 0 i 0) (tkC 3 ByteArray.empty (numF s i).2.1 i 0) (numF s i).1 := by
 unfold numF
 have ha := oneP_le (some := mnS) hi
 have c1 := one_ok s mnS i hi hs
 change Lexes _ _ _ _ (oneP s mnS i) _ at c1
 refine OkI.of_pwp (by kernel_rfl) Tryz.func72 rfl (by kernel_rfl) (by kernel_rfl) ?_
 simp (implicitDefEqProofs := false) (disch := omega) only [go_sem, simprocAttr, dropH, inL]
 refine CallOk.ofI (c1.at (st := ⟨[], _, _, _, _⟩) 0 rfl rfl (by simp) (by rfl)) rfl rfl rfl rfl ?_
 rintro r st' ⟨rfl, nt1, q1, rfl⟩
 generalize oneP s mnS i = a at *
 have c2 := one_ok s zrS a (by omega) hs
 simp (implicitDefEqProofs := false) (disch := omega) only [go_sem, simprocAttr, dropH, inL]
 refine CallOk.ofI (c2.at (st := ⟨[], _, _, _, _⟩) 0 rfl rfl (by simp) (by rfl)) rfl rfl rfl rfl ?_
 rintro r st' ⟨rfl, nt1, q1, rfl⟩
 generalize hF : numY s i (numI s a) = F
 cases h2 : hasF s zrS a with
 | true =>
  have hl2 := hasF_lt h2
  simp (implicitDefEqProofs := false) (disch := omega) only [go_sem, simprocAttr, dropH, inL, h2]
  have hT0 : ((a : Int) + 1) = ((a + 1 : Nat) : Int) := rfl
  generalize hb0 : a + 1 = b at *
  have c5 := one_ok s dtS b (by omega) hs
  simp (implicitDefEqProofs := false) (disch := omega) only [go_sem, simprocAttr, dropH, inL]
  refine CallOk.ofI (c5.at (st := ⟨[], _, _, _, _⟩) 0 rfl rfl (by simp) (by rfl)) rfl rfl rfl rfl ?_
  rintro r st' ⟨rfl, nt1, q1, rfl⟩
  cases h5 : hasF s dtS b with
  | false =>
   simp (implicitDefEqProofs := false) (disch := omega) only [go_sem, simprocAttr, dropH, inL, h5]
   have c7 := one_ok s eeS b (by omega) hs
   simp (implicitDefEqProofs := false) (disch := omega) only [go_sem, simprocAttr, dropH, inL]
   refine CallOk.ofI (c7.at (st := ⟨[], _, _, _, _⟩) 0 rfl rfl (by simp) (by rfl)) rfl rfl rfl rfl ?_
   rintro r st' ⟨rfl, nt1, q1, rfl⟩
   cases h7 : hasF s eeS b with
   | false =>
    simp (implicitDefEqProofs := false) (disch := omega) only [go_sem, simprocAttr, dropH, inL, h7]
    have cp := parse_ok (s.extract i b) (by rw [ByteArray.size_extract]; omega)
    simp (implicitDefEqProofs := false) (disch := omega) only [go_sem, simprocAttr, dropH, inL]
    with_reducible refine CallOk.of cp rfl ?_
    by_cases hz : pC (s.extract i b) = 0
    ·simp (implicitDefEqProofs := false) (disch := omega) only [go_sem, simprocAttr, dropH, inL, hz]
     have hv : F = (0, pV (s.extract i b), b) := by rw [<- hF]; simp [numY, numI, numX, numD, numE, numT, h2, hb0, h5, h7, hz]
     rw [hv]
     refine ⟨⟨[], [(0, .box 94 [vS s, vI b]), (1, .box 67 (tkC 3 ByteArray.empty (pV (s.extract i b)) i 0))], [], 2, 0⟩, ⟨rfl, rfl, rfl, rfl⟩, ?_⟩
     constructor <;> simp only [go_sem, simprocAttr, decide_eq_true_eq, Int.natCast_add, Int.natCast_one] <;> try ((repeat' apply And.intro) <;> first | rfl | omega | (congr 3; omega) | (congr 2; omega))
    ·simp (implicitDefEqProofs := false) (disch := omega) only [go_sem, simprocAttr, dropH, inL, decide_eq_false hz]
     have hv : F = (4, 0, i) := by rw [<- hF]; simp [numY, numI, numX, numD, numE, numT, h2, hb0, h5, h7, hz]
     rw [hv]
     refine ⟨⟨[], [(0, .box 94 [vS s, vI i]), (1, .box 67 (tkC 3 ByteArray.empty (0) i 0))], [], 2, 0⟩, ⟨rfl, rfl, rfl, rfl⟩, ?_⟩
     constructor <;> simp only [go_sem, simprocAttr, decide_eq_true_eq, Int.natCast_add, Int.natCast_one] <;> try ((repeat' apply And.intro) <;> first | rfl | omega | (congr 3; omega) | (congr 2; omega))
   | true =>
    have hl7 := hasF_lt h7
    have hp := oneP_le (s := s) (some := pmS) (i := b + 1) (by omega)
    have c8 := one_ok s pmS (b + 1) (by omega) hs
    change Lexes _ _ _ _ (oneP s pmS (b + 1)) _ at c8
    simp (implicitDefEqProofs := false) (disch := omega) only [go_sem, simprocAttr, dropH, inL, h7]
    refine CallOk.ofI (c8.at (st := ⟨[], _, _, _, _⟩) 0 rfl rfl (by simp) (by rfl)) rfl rfl rfl rfl ?_
    rintro r st' ⟨rfl, nt1, q1, rfl⟩
    generalize he : oneP s pmS (b + 1) = e at *
    have c9 := pass_ok s dgS e (by omega) hs
    have hq9 := passF_le s dgS e (by omega)
    simp (implicitDefEqProofs := false) (disch := omega) only [go_sem, simprocAttr, dropH, inL]
    refine CallOk.ofI (c9.at (st := ⟨[], _, _, _, _⟩) 0 rfl rfl (by simp) (by rfl)) rfl rfl rfl rfl ?_
    rintro r st' ⟨rfl, nt1, q1, rfl⟩
    generalize hq0 : passF s dgS e = q at *
    by_cases h9 : q = e
    ·simp (implicitDefEqProofs := false) (disch := omega) only [go_sem, simprocAttr, dropH, inL, decide_eq_true (show (q : Int) - (e : Int) = 0 by omega)]
     have hv : F = (1, 0, q) := by rw [<- hF]; simp [numY, numI, numX, numD, numE, numT, h2, hb0, h5, h7, he, hq0, eq_true h9]
     rw [hv]
     refine ⟨⟨[], [(0, .box 94 [vS s, vI q]), (1, .box 67 (tkC 3 ByteArray.empty (0) i 0))], [], 2, 0⟩, ⟨rfl, rfl, rfl, rfl⟩, ?_⟩
     constructor <;> simp only [go_sem, simprocAttr, decide_eq_true_eq, Int.natCast_add, Int.natCast_one] <;> try ((repeat' apply And.intro) <;> first | rfl | omega | (congr 3; omega) | (congr 2; omega))
    ·simp (implicitDefEqProofs := false) (disch := omega) only [go_sem, simprocAttr, dropH, inL, decide_eq_false (show ¬ (q : Int) - (e : Int) = 0 by omega)]
     have cp := parse_ok (s.extract i b) (by rw [ByteArray.size_extract]; omega)
     simp (implicitDefEqProofs := false) (disch := omega) only [go_sem, simprocAttr, dropH, inL]
     with_reducible refine CallOk.of cp rfl ?_
     by_cases hz : pC (s.extract i b) = 0
     ·have hq : ¬ b = q := by omega
      simp (implicitDefEqProofs := false) (disch := omega) only [go_sem, simprocAttr, dropH, inL, hz, decide_eq_false (show ¬ (b : Int) = (q : Int) by omega)]
      have hv : F = (4, 0, i) := by rw [<- hF]; simp [numY, numI, numX, numD, numE, numT, h2, hb0, h5, h7, he, hq0, h9, hz, hq]
      rw [hv]
      refine ⟨⟨[], [(0, .box 94 [vS s, vI i]), (1, .box 67 (tkC 3 ByteArray.empty (0) i 0))], [], 2, 0⟩, ⟨rfl, rfl, rfl, rfl⟩, ?_⟩
      constructor <;> simp only [go_sem, simprocAttr, decide_eq_true_eq, Int.natCast_add, Int.natCast_one] <;> try ((repeat' apply And.intro) <;> first | rfl | omega | (congr 3; omega) | (congr 2; omega))
     ·simp (implicitDefEqProofs := false) (disch := omega) only [go_sem, simprocAttr, dropH, inL, decide_eq_false hz]
      have hv : F = (4, 0, i) := by rw [<- hF]; simp [numY, numI, numX, numD, numE, numT, h2, hb0, h5, h7, he, hq0, h9, hz]
      rw [hv]
      refine ⟨⟨[], [(0, .box 94 [vS s, vI i]), (1, .box 67 (tkC 3 ByteArray.empty (0) i 0))], [], 2, 0⟩, ⟨rfl, rfl, rfl, rfl⟩, ?_⟩
      constructor <;> simp only [go_sem, simprocAttr, decide_eq_true_eq, Int.natCast_add, Int.natCast_one] <;> try ((repeat' apply And.intro) <;> first | rfl | omega | (congr 3; omega) | (congr 2; omega))
  | true =>
   have hl5 := hasF_lt h5
   have c6 := pass_ok s dgS (b + 1) (by omega) hs
   have hq6 := passF_le s dgS (b + 1) (by omega)
   simp (implicitDefEqProofs := false) (disch := omega) only [go_sem, simprocAttr, dropH, inL, h5]
   refine CallOk.ofI (c6.at (st := ⟨[], _, _, _, _⟩) 0 rfl rfl (by simp) (by rfl)) rfl rfl rfl rfl ?_
   rintro r st' ⟨rfl, nt1, q1, rfl⟩
   generalize hc0 : passF s dgS (b + 1) = c at *
   by_cases h6 : c = b + 1
   ·simp (implicitDefEqProofs := false) (disch := omega) only [go_sem, simprocAttr, dropH, inL, decide_eq_true (show (c : Int) - ((b : Int) + 1) = 0 by omega)]
    have hv : F = (1, 0, c) := by rw [<- hF]; simp [numY, numI, numX, numD, numE, numT, h2, hb0, h5, hc0, eq_true h6]
    rw [hv]
    refine ⟨⟨[], [(0, .box 94 [vS s, vI c]), (1, .box 67 (tkC 3 ByteArray.empty (0) i 0))], [], 2, 0⟩, ⟨rfl, rfl, rfl, rfl⟩, ?_⟩
    constructor <;> simp only [go_sem, simprocAttr, decide_eq_true_eq, Int.natCast_add, Int.natCast_one] <;> try ((repeat' apply And.intro) <;> first | rfl | omega | (congr 3; omega) | (congr 2; omega))
   ·simp (implicitDefEqProofs := false) (disch := omega) only [go_sem, simprocAttr, dropH, inL, decide_eq_false (show ¬ (c : Int) - ((b : Int) + 1) = 0 by omega)]
    have c7 := one_ok s eeS c (by omega) hs
    simp (implicitDefEqProofs := false) (disch := omega) only [go_sem, simprocAttr, dropH, inL]
    refine CallOk.ofI (c7.at (st := ⟨[], _, _, _, _⟩) 0 rfl rfl (by simp) (by rfl)) rfl rfl rfl rfl ?_
    rintro r st' ⟨rfl, nt1, q1, rfl⟩
    cases h7 : hasF s eeS c with
    | false =>
     simp (implicitDefEqProofs := false) (disch := omega) only [go_sem, simprocAttr, dropH, inL, h7]
     have cp := parse_ok (s.extract i b) (by rw [ByteArray.size_extract]; omega)
     simp (implicitDefEqProofs := false) (disch := omega) only [go_sem, simprocAttr, dropH, inL]
     with_reducible refine CallOk.of cp rfl ?_
     by_cases hz : pC (s.extract i b) = 0
     ·have hq : ¬ b = c := by omega
      simp (implicitDefEqProofs := false) (disch := omega) only [go_sem, simprocAttr, dropH, inL, hz, decide_eq_false (show ¬ (b : Int) = (c : Int) by omega)]
      have hv : F = (4, 0, i) := by rw [<- hF]; simp [numY, numI, numX, numD, numE, numT, h2, hb0, h5, hc0, h6, h7, hz, hq]
      rw [hv]
      refine ⟨⟨[], [(0, .box 94 [vS s, vI i]), (1, .box 67 (tkC 3 ByteArray.empty (0) i 0))], [], 2, 0⟩, ⟨rfl, rfl, rfl, rfl⟩, ?_⟩
      constructor <;> simp only [go_sem, simprocAttr, decide_eq_true_eq, Int.natCast_add, Int.natCast_one] <;> try ((repeat' apply And.intro) <;> first | rfl | omega | (congr 3; omega) | (congr 2; omega))
     ·simp (implicitDefEqProofs := false) (disch := omega) only [go_sem, simprocAttr, dropH, inL, decide_eq_false hz]
      have hv : F = (4, 0, i) := by rw [<- hF]; simp [numY, numI, numX, numD, numE, numT, h2, hb0, h5, hc0, h6, h7, hz]
      rw [hv]
      refine ⟨⟨[], [(0, .box 94 [vS s, vI i]), (1, .box 67 (tkC 3 ByteArray.empty (0) i 0))], [], 2, 0⟩, ⟨rfl, rfl, rfl, rfl⟩, ?_⟩
      constructor <;> simp only [go_sem, simprocAttr, decide_eq_true_eq, Int.natCast_add, Int.natCast_one] <;> try ((repeat' apply And.intro) <;> first | rfl | omega | (congr 3; omega) | (congr 2; omega))
    | true =>
     have hl7 := hasF_lt h7
     have hp := oneP_le (s := s) (some := pmS) (i := c + 1) (by omega)
     have c8 := one_ok s pmS (c + 1) (by omega) hs
     change Lexes _ _ _ _ (oneP s pmS (c + 1)) _ at c8
     simp (implicitDefEqProofs := false) (disch := omega) only [go_sem, simprocAttr, dropH, inL, h7]
     refine CallOk.ofI (c8.at (st := ⟨[], _, _, _, _⟩) 0 rfl rfl (by simp) (by rfl)) rfl rfl rfl rfl ?_
     rintro r st' ⟨rfl, nt1, q1, rfl⟩
     generalize he : oneP s pmS (c + 1) = e at *
     have c9 := pass_ok s dgS e (by omega) hs
     have hq9 := passF_le s dgS e (by omega)
     simp (implicitDefEqProofs := false) (disch := omega) only [go_sem, simprocAttr, dropH, inL]
     refine CallOk.ofI (c9.at (st := ⟨[], _, _, _, _⟩) 0 rfl rfl (by simp) (by rfl)) rfl rfl rfl rfl ?_
     rintro r st' ⟨rfl, nt1, q1, rfl⟩
     generalize hq0 : passF s dgS e = q at *
     by_cases h9 : q = e
     ·simp (implicitDefEqProofs := false) (disch := omega) only [go_sem, simprocAttr, dropH, inL, decide_eq_true (show (q : Int) - (e : Int) = 0 by omega)]
      have hv : F = (1, 0, q) := by rw [<- hF]; simp [numY, numI, numX, numD, numE, numT, h2, hb0, h5, hc0, h6, h7, he, hq0, eq_true h9]
      rw [hv]
      refine ⟨⟨[], [(0, .box 94 [vS s, vI q]), (1, .box 67 (tkC 3 ByteArray.empty (0) i 0))], [], 2, 0⟩, ⟨rfl, rfl, rfl, rfl⟩, ?_⟩
      constructor <;> simp only [go_sem, simprocAttr, decide_eq_true_eq, Int.natCast_add, Int.natCast_one] <;> try ((repeat' apply And.intro) <;> first | rfl | omega | (congr 3; omega) | (congr 2; omega))
     ·simp (implicitDefEqProofs := false) (disch := omega) only [go_sem, simprocAttr, dropH, inL, decide_eq_false (show ¬ (q : Int) - (e : Int) = 0 by omega)]
      have cp := parse_ok (s.extract i b) (by rw [ByteArray.size_extract]; omega)
      simp (implicitDefEqProofs := false) (disch := omega) only [go_sem, simprocAttr, dropH, inL]
      with_reducible refine CallOk.of cp rfl ?_
      by_cases hz : pC (s.extract i b) = 0
      ·have hq : ¬ b = q := by omega
       simp (implicitDefEqProofs := false) (disch := omega) only [go_sem, simprocAttr, dropH, inL, hz, decide_eq_false (show ¬ (b : Int) = (q : Int) by omega)]
       have hv : F = (4, 0, i) := by rw [<- hF]; simp [numY, numI, numX, numD, numE, numT, h2, hb0, h5, hc0, h6, h7, he, hq0, h9, hz, hq]
       rw [hv]
       refine ⟨⟨[], [(0, .box 94 [vS s, vI i]), (1, .box 67 (tkC 3 ByteArray.empty (0) i 0))], [], 2, 0⟩, ⟨rfl, rfl, rfl, rfl⟩, ?_⟩
       constructor <;> simp only [go_sem, simprocAttr, decide_eq_true_eq, Int.natCast_add, Int.natCast_one] <;> try ((repeat' apply And.intro) <;> first | rfl | omega | (congr 3; omega) | (congr 2; omega))
      ·simp (implicitDefEqProofs := false) (disch := omega) only [go_sem, simprocAttr, dropH, inL, decide_eq_false hz]
       have hv : F = (4, 0, i) := by rw [<- hF]; simp [numY, numI, numX, numD, numE, numT, h2, hb0, h5, hc0, h6, h7, he, hq0, h9, hz]
       rw [hv]
       refine ⟨⟨[], [(0, .box 94 [vS s, vI i]), (1, .box 67 (tkC 3 ByteArray.empty (0) i 0))], [], 2, 0⟩, ⟨rfl, rfl, rfl, rfl⟩, ?_⟩
       constructor <;> simp only [go_sem, simprocAttr, decide_eq_true_eq, Int.natCast_add, Int.natCast_one] <;> try ((repeat' apply And.intro) <;> first | rfl | omega | (congr 3; omega) | (congr 2; omega))
 | false =>
  have c4 := pass_ok s dgS a (by omega) hs
  have hq4 := passF_le s dgS a (by omega)
  simp (implicitDefEqProofs := false) (disch := omega) only [go_sem, simprocAttr, dropH, inL, h2]
  refine CallOk.ofI (c4.at (st := ⟨[], _, _, _, _⟩) 0 rfl rfl (by simp) (by rfl)) rfl rfl rfl rfl ?_
  rintro r st' ⟨rfl, nt1, q1, rfl⟩
  generalize hb0 : passF s dgS a = b at *
  by_cases h4 : b = a
  ·simp (implicitDefEqProofs := false) (disch := omega) only [go_sem, simprocAttr, dropH, inL, decide_eq_true (show (b : Int) - (a : Int) = 0 by omega)]
   have hv : F = (1, 0, b) := by rw [<- hF]; simp [numY, numI, numX, numD, numE, numT, h2, hb0, eq_true h4]
   rw [hv]
   refine ⟨⟨[], [(0, .box 94 [vS s, vI b]), (1, .box 67 (tkC 3 ByteArray.empty (0) i 0))], [], 2, 0⟩, ⟨rfl, rfl, rfl, rfl⟩, ?_⟩
   constructor <;> simp only [go_sem, simprocAttr, decide_eq_true_eq, Int.natCast_add, Int.natCast_one] <;> try ((repeat' apply And.intro) <;> first | rfl | omega | (congr 3; omega) | (congr 2; omega))
  ·simp (implicitDefEqProofs := false) (disch := omega) only [go_sem, simprocAttr, dropH, inL, decide_eq_false (show ¬ (b : Int) - (a : Int) = 0 by omega)]
   have c5 := one_ok s dtS b (by omega) hs
   simp (implicitDefEqProofs := false) (disch := omega) only [go_sem, simprocAttr, dropH, inL]
   refine CallOk.ofI (c5.at (st := ⟨[], _, _, _, _⟩) 0 rfl rfl (by simp) (by rfl)) rfl rfl rfl rfl ?_
   rintro r st' ⟨rfl, nt1, q1, rfl⟩
   cases h5 : hasF s dtS b with
   | false =>
    simp (implicitDefEqProofs := false) (disch := omega) only [go_sem, simprocAttr, dropH, inL, h5]
    have c7 := one_ok s eeS b (by omega) hs
    simp (implicitDefEqProofs := false) (disch := omega) only [go_sem, simprocAttr, dropH, inL]
    refine CallOk.ofI (c7.at (st := ⟨[], _, _, _, _⟩) 0 rfl rfl (by simp) (by rfl)) rfl rfl rfl rfl ?_
    rintro r st' ⟨rfl, nt1, q1, rfl⟩
    cases h7 : hasF s eeS b with
    | false =>
     simp (implicitDefEqProofs := false) (disch := omega) only [go_sem, simprocAttr, dropH, inL, h7]
     have cp := parse_ok (s.extract i b) (by rw [ByteArray.size_extract]; omega)
     simp (implicitDefEqProofs := false) (disch := omega) only [go_sem, simprocAttr, dropH, inL]
     with_reducible refine CallOk.of cp rfl ?_
     by_cases hz : pC (s.extract i b) = 0
     ·simp (implicitDefEqProofs := false) (disch := omega) only [go_sem, simprocAttr, dropH, inL, hz]
      have hv : F = (0, pV (s.extract i b), b) := by rw [<- hF]; simp [numY, numI, numX, numD, numE, numT, h2, hb0, h4, h5, h7, hz]
      rw [hv]
      refine ⟨⟨[], [(0, .box 94 [vS s, vI b]), (1, .box 67 (tkC 3 ByteArray.empty (pV (s.extract i b)) i 0))], [], 2, 0⟩, ⟨rfl, rfl, rfl, rfl⟩, ?_⟩
      constructor <;> simp only [go_sem, simprocAttr, decide_eq_true_eq, Int.natCast_add, Int.natCast_one] <;> try ((repeat' apply And.intro) <;> first | rfl | omega | (congr 3; omega) | (congr 2; omega))
     ·simp (implicitDefEqProofs := false) (disch := omega) only [go_sem, simprocAttr, dropH, inL, decide_eq_false hz]
      have hv : F = (4, 0, i) := by rw [<- hF]; simp [numY, numI, numX, numD, numE, numT, h2, hb0, h4, h5, h7, hz]
      rw [hv]
      refine ⟨⟨[], [(0, .box 94 [vS s, vI i]), (1, .box 67 (tkC 3 ByteArray.empty (0) i 0))], [], 2, 0⟩, ⟨rfl, rfl, rfl, rfl⟩, ?_⟩
      constructor <;> simp only [go_sem, simprocAttr, decide_eq_true_eq, Int.natCast_add, Int.natCast_one] <;> try ((repeat' apply And.intro) <;> first | rfl | omega | (congr 3; omega) | (congr 2; omega))
    | true =>
     have hl7 := hasF_lt h7
     have hp := oneP_le (s := s) (some := pmS) (i := b + 1) (by omega)
     have c8 := one_ok s pmS (b + 1) (by omega) hs
     change Lexes _ _ _ _ (oneP s pmS (b + 1)) _ at c8
     simp (implicitDefEqProofs := false) (disch := omega) only [go_sem, simprocAttr, dropH, inL, h7]
     refine CallOk.ofI (c8.at (st := ⟨[], _, _, _, _⟩) 0 rfl rfl (by simp) (by rfl)) rfl rfl rfl rfl ?_
     rintro r st' ⟨rfl, nt1, q1, rfl⟩
     generalize he : oneP s pmS (b + 1) = e at *
     have c9 := pass_ok s dgS e (by omega) hs
     have hq9 := passF_le s dgS e (by omega)
     simp (implicitDefEqProofs := false) (disch := omega) only [go_sem, simprocAttr, dropH, inL]
     refine CallOk.ofI (c9.at (st := ⟨[], _, _, _, _⟩) 0 rfl rfl (by simp) (by rfl)) rfl rfl rfl rfl ?_
     rintro r st' ⟨rfl, nt1, q1, rfl⟩
     generalize hq0 : passF s dgS e = q at *
     by_cases h9 : q = e
     ·simp (implicitDefEqProofs := false) (disch := omega) only [go_sem, simprocAttr, dropH, inL, decide_eq_true (show (q : Int) - (e : Int) = 0 by omega)]
      have hv : F = (1, 0, q) := by rw [<- hF]; simp [numY, numI, numX, numD, numE, numT, h2, hb0, h4, h5, h7, he, hq0, eq_true h9]
      rw [hv]
      refine ⟨⟨[], [(0, .box 94 [vS s, vI q]), (1, .box 67 (tkC 3 ByteArray.empty (0) i 0))], [], 2, 0⟩, ⟨rfl, rfl, rfl, rfl⟩, ?_⟩
      constructor <;> simp only [go_sem, simprocAttr, decide_eq_true_eq, Int.natCast_add, Int.natCast_one] <;> try ((repeat' apply And.intro) <;> first | rfl | omega | (congr 3; omega) | (congr 2; omega))
     ·simp (implicitDefEqProofs := false) (disch := omega) only [go_sem, simprocAttr, dropH, inL, decide_eq_false (show ¬ (q : Int) - (e : Int) = 0 by omega)]
      have cp := parse_ok (s.extract i b) (by rw [ByteArray.size_extract]; omega)
      simp (implicitDefEqProofs := false) (disch := omega) only [go_sem, simprocAttr, dropH, inL]
      with_reducible refine CallOk.of cp rfl ?_
      by_cases hz : pC (s.extract i b) = 0
      ·have hq : ¬ b = q := by omega
       simp (implicitDefEqProofs := false) (disch := omega) only [go_sem, simprocAttr, dropH, inL, hz, decide_eq_false (show ¬ (b : Int) = (q : Int) by omega)]
       have hv : F = (4, 0, i) := by rw [<- hF]; simp [numY, numI, numX, numD, numE, numT, h2, hb0, h4, h5, h7, he, hq0, h9, hz, hq]
       rw [hv]
       refine ⟨⟨[], [(0, .box 94 [vS s, vI i]), (1, .box 67 (tkC 3 ByteArray.empty (0) i 0))], [], 2, 0⟩, ⟨rfl, rfl, rfl, rfl⟩, ?_⟩
       constructor <;> simp only [go_sem, simprocAttr, decide_eq_true_eq, Int.natCast_add, Int.natCast_one] <;> try ((repeat' apply And.intro) <;> first | rfl | omega | (congr 3; omega) | (congr 2; omega))
      ·simp (implicitDefEqProofs := false) (disch := omega) only [go_sem, simprocAttr, dropH, inL, decide_eq_false hz]
       have hv : F = (4, 0, i) := by rw [<- hF]; simp [numY, numI, numX, numD, numE, numT, h2, hb0, h4, h5, h7, he, hq0, h9, hz]
       rw [hv]
       refine ⟨⟨[], [(0, .box 94 [vS s, vI i]), (1, .box 67 (tkC 3 ByteArray.empty (0) i 0))], [], 2, 0⟩, ⟨rfl, rfl, rfl, rfl⟩, ?_⟩
       constructor <;> simp only [go_sem, simprocAttr, decide_eq_true_eq, Int.natCast_add, Int.natCast_one] <;> try ((repeat' apply And.intro) <;> first | rfl | omega | (congr 3; omega) | (congr 2; omega))
   | true =>
    have hl5 := hasF_lt h5
    have c6 := pass_ok s dgS (b + 1) (by omega) hs
    have hq6 := passF_le s dgS (b + 1) (by omega)
    simp (implicitDefEqProofs := false) (disch := omega) only [go_sem, simprocAttr, dropH, inL, h5]
    refine CallOk.ofI (c6.at (st := ⟨[], _, _, _, _⟩) 0 rfl rfl (by simp) (by rfl)) rfl rfl rfl rfl ?_
    rintro r st' ⟨rfl, nt1, q1, rfl⟩
    generalize hc0 : passF s dgS (b + 1) = c at *
    by_cases h6 : c = b + 1
    ·simp (implicitDefEqProofs := false) (disch := omega) only [go_sem, simprocAttr, dropH, inL, decide_eq_true (show (c : Int) - ((b : Int) + 1) = 0 by omega)]
     have hv : F = (1, 0, c) := by rw [<- hF]; simp [numY, numI, numX, numD, numE, numT, h2, hb0, h4, h5, hc0, eq_true h6]
     rw [hv]
     refine ⟨⟨[], [(0, .box 94 [vS s, vI c]), (1, .box 67 (tkC 3 ByteArray.empty (0) i 0))], [], 2, 0⟩, ⟨rfl, rfl, rfl, rfl⟩, ?_⟩
     constructor <;> simp only [go_sem, simprocAttr, decide_eq_true_eq, Int.natCast_add, Int.natCast_one] <;> try ((repeat' apply And.intro) <;> first | rfl | omega | (congr 3; omega) | (congr 2; omega))
    ·simp (implicitDefEqProofs := false) (disch := omega) only [go_sem, simprocAttr, dropH, inL, decide_eq_false (show ¬ (c : Int) - ((b : Int) + 1) = 0 by omega)]
     have c7 := one_ok s eeS c (by omega) hs
     simp (implicitDefEqProofs := false) (disch := omega) only [go_sem, simprocAttr, dropH, inL]
     refine CallOk.ofI (c7.at (st := ⟨[], _, _, _, _⟩) 0 rfl rfl (by simp) (by rfl)) rfl rfl rfl rfl ?_
     rintro r st' ⟨rfl, nt1, q1, rfl⟩
     cases h7 : hasF s eeS c with
     | false =>
      simp (implicitDefEqProofs := false) (disch := omega) only [go_sem, simprocAttr, dropH, inL, h7]
      have cp := parse_ok (s.extract i b) (by rw [ByteArray.size_extract]; omega)
      simp (implicitDefEqProofs := false) (disch := omega) only [go_sem, simprocAttr, dropH, inL]
      with_reducible refine CallOk.of cp rfl ?_
      by_cases hz : pC (s.extract i b) = 0
      ·have hq : ¬ b = c := by omega
       simp (implicitDefEqProofs := false) (disch := omega) only [go_sem, simprocAttr, dropH, inL, hz, decide_eq_false (show ¬ (b : Int) = (c : Int) by omega)]
       have hv : F = (4, 0, i) := by rw [<- hF]; simp [numY, numI, numX, numD, numE, numT, h2, hb0, h4, h5, hc0, h6, h7, hz, hq]
       rw [hv]
       refine ⟨⟨[], [(0, .box 94 [vS s, vI i]), (1, .box 67 (tkC 3 ByteArray.empty (0) i 0))], [], 2, 0⟩, ⟨rfl, rfl, rfl, rfl⟩, ?_⟩
       constructor <;> simp only [go_sem, simprocAttr, decide_eq_true_eq, Int.natCast_add, Int.natCast_one] <;> try ((repeat' apply And.intro) <;> first | rfl | omega | (congr 3; omega) | (congr 2; omega))
      ·simp (implicitDefEqProofs := false) (disch := omega) only [go_sem, simprocAttr, dropH, inL, decide_eq_false hz]
       have hv : F = (4, 0, i) := by rw [<- hF]; simp [numY, numI, numX, numD, numE, numT, h2, hb0, h4, h5, hc0, h6, h7, hz]
       rw [hv]
       refine ⟨⟨[], [(0, .box 94 [vS s, vI i]), (1, .box 67 (tkC 3 ByteArray.empty (0) i 0))], [], 2, 0⟩, ⟨rfl, rfl, rfl, rfl⟩, ?_⟩
       constructor <;> simp only [go_sem, simprocAttr, decide_eq_true_eq, Int.natCast_add, Int.natCast_one] <;> try ((repeat' apply And.intro) <;> first | rfl | omega | (congr 3; omega) | (congr 2; omega))
     | true =>
      have hl7 := hasF_lt h7
      have hp := oneP_le (s := s) (some := pmS) (i := c + 1) (by omega)
      have c8 := one_ok s pmS (c + 1) (by omega) hs
      change Lexes _ _ _ _ (oneP s pmS (c + 1)) _ at c8
      simp (implicitDefEqProofs := false) (disch := omega) only [go_sem, simprocAttr, dropH, inL, h7]
      refine CallOk.ofI (c8.at (st := ⟨[], _, _, _, _⟩) 0 rfl rfl (by simp) (by rfl)) rfl rfl rfl rfl ?_
      rintro r st' ⟨rfl, nt1, q1, rfl⟩
      generalize he : oneP s pmS (c + 1) = e at *
      have c9 := pass_ok s dgS e (by omega) hs
      have hq9 := passF_le s dgS e (by omega)
      simp (implicitDefEqProofs := false) (disch := omega) only [go_sem, simprocAttr, dropH, inL]
      refine CallOk.ofI (c9.at (st := ⟨[], _, _, _, _⟩) 0 rfl rfl (by simp) (by rfl)) rfl rfl rfl rfl ?_
      rintro r st' ⟨rfl, nt1, q1, rfl⟩
      generalize hq0 : passF s dgS e = q at *
      by_cases h9 : q = e
      ·simp (implicitDefEqProofs := false) (disch := omega) only [go_sem, simprocAttr, dropH, inL, decide_eq_true (show (q : Int) - (e : Int) = 0 by omega)]
       have hv : F = (1, 0, q) := by rw [<- hF]; simp [numY, numI, numX, numD, numE, numT, h2, hb0, h4, h5, hc0, h6, h7, he, hq0, eq_true h9]
       rw [hv]
       refine ⟨⟨[], [(0, .box 94 [vS s, vI q]), (1, .box 67 (tkC 3 ByteArray.empty (0) i 0))], [], 2, 0⟩, ⟨rfl, rfl, rfl, rfl⟩, ?_⟩
       constructor <;> simp only [go_sem, simprocAttr, decide_eq_true_eq, Int.natCast_add, Int.natCast_one] <;> try ((repeat' apply And.intro) <;> first | rfl | omega | (congr 3; omega) | (congr 2; omega))
      ·simp (implicitDefEqProofs := false) (disch := omega) only [go_sem, simprocAttr, dropH, inL, decide_eq_false (show ¬ (q : Int) - (e : Int) = 0 by omega)]
       have cp := parse_ok (s.extract i b) (by rw [ByteArray.size_extract]; omega)
       simp (implicitDefEqProofs := false) (disch := omega) only [go_sem, simprocAttr, dropH, inL]
       with_reducible refine CallOk.of cp rfl ?_
       by_cases hz : pC (s.extract i b) = 0
       ·have hq : ¬ b = q := by omega
        simp (implicitDefEqProofs := false) (disch := omega) only [go_sem, simprocAttr, dropH, inL, hz, decide_eq_false (show ¬ (b : Int) = (q : Int) by omega)]
        have hv : F = (4, 0, i) := by rw [<- hF]; simp [numY, numI, numX, numD, numE, numT, h2, hb0, h4, h5, hc0, h6, h7, he, hq0, h9, hz, hq]
        rw [hv]
        refine ⟨⟨[], [(0, .box 94 [vS s, vI i]), (1, .box 67 (tkC 3 ByteArray.empty (0) i 0))], [], 2, 0⟩, ⟨rfl, rfl, rfl, rfl⟩, ?_⟩
        constructor <;> simp only [go_sem, simprocAttr, decide_eq_true_eq, Int.natCast_add, Int.natCast_one] <;> try ((repeat' apply And.intro) <;> first | rfl | omega | (congr 3; omega) | (congr 2; omega))
       ·simp (implicitDefEqProofs := false) (disch := omega) only [go_sem, simprocAttr, dropH, inL, decide_eq_false hz]
        have hv : F = (4, 0, i) := by rw [<- hF]; simp [numY, numI, numX, numD, numE, numT, h2, hb0, h4, h5, hc0, h6, h7, he, hq0, h9, hz]
        rw [hv]
        refine ⟨⟨[], [(0, .box 94 [vS s, vI i]), (1, .box 67 (tkC 3 ByteArray.empty (0) i 0))], [], 2, 0⟩, ⟨rfl, rfl, rfl, rfl⟩, ?_⟩
        constructor <;> simp only [go_sem, simprocAttr, decide_eq_true_eq, Int.natCast_add, Int.natCast_one] <;> try ((repeat' apply And.intro) <;> first | rfl | omega | (congr 3; omega) | (congr 2; omega))
end Go.Proofs.YtcgmpcbkndpmbaaGreatDoor

end
