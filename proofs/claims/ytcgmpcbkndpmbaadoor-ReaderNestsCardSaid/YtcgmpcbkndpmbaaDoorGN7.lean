/-
  Contracts and plain laws on the way to the statement; each says its own conditions.
-/
import Derived.Test.YtcgmpcbkndpmbaaDoorProg
import Derived.Test.YtcgmpcbkndpmbaaDoorGN6
import Derived.Test.YtcgmpcbkndpmbaaDoorGN4
import Derived.Lib.Builder
import Derived.Test.YtcgmpcbkndpmbaaDoorGN3
import Derived.Lib.AppendZeros
import Derived.WalkKit
import Derived.Lib.Walk
import Derived.Lib.SliceRun
import Derived.ChangeSlices
import Derived.ChangeArms
import Derived.OpenShut
section
open Go Go.Proofs Go.RowKit Go.Lib
namespace Go.Proofs.YtcgmpcbkndpmbaaDoor
set_option maxRecDepth 4000
set_option linter.unusedVariables false
set_option linter.unusedSimpArgs false
theorem insS_info : ∃ i0, Tryd.prog.info? 9 = some i0 /\ i0.zero = some (.string ⟨#[]⟩) /\ i0.size = 1 /\ i0.bytes = 16 := ⟨_, rfl, rfl, rfl, rfl⟩
set_option maxHeartbeats 4000000 in
set_option maxRecDepth 100000 in
theorem insS_shift (b off n c i vb voff m vc : Nat) (cs vs : List Value) (w : World) (hi : i < n) (hm : 0 < m) (hroom : n + m <= c) (hc63 : c <= 9223372036854775807) (hvb : vb ≠ b)
  (hcl : cs.length = n) (hvl : vs.length = m)
  (hcs : ∀ j v, cs[j]? = some v -> w.cell? ⟨b, off + j, none⟩ = some v) (hsp : ∀ j, j < (n + m) -> (w.cell? ⟨b, off + j, none⟩).isSome = true) (hfz : ∀ j, j < (n + m) -> w.frozen? ⟨b, off + j, none⟩ = false)
  (hvs : ∀ j v, vs[j]? = some v -> w.cell? ⟨vb, voff + j, none⟩ = some v) (h1c : ∀ v ∈ cs, v.oneCell' = true) (h1v : ∀ v ∈ vs, v.oneCell' = true)
  (tA tB : TypeId) (kA kB : Nat) (hsa : w.shape? vb = some (tA, kA)) (hsb : w.shape? b = some (tB, kB)) (hkB : kB ≠ 0) (hfa : w.frozen? ⟨vb, voff, none⟩ = false) (hfe : w.frozen? ⟨vb, kA, none⟩ = false) :
  Calls Tryd.prog 40 #[.slice (some ⟨b, off, none⟩) n c, .int .i64 i, .slice (some ⟨vb, voff, none⟩) m vc] w fun e w' =>
   e = .returned (.slice (some ⟨b, off, none⟩) (n + m) c) /\ w' = (w.drew.setCells b (off + (i + m)) (cs.drop (i))).setCells b (off + i) vs := by
 have hz1 : ¬ ((m : Int) = 0) := by omega
 have hz2 : ¬ ((i : Int) = (n : Int)) := by omega
 obtain ⟨i0, hi0, hz0, hzs, hzb⟩ := insS_info
 have hsz : (Tryd.prog.info? 9).map (·.size) = some 1 := by rw [hi0]; simp [hzs]
 have hov : ∀ lb cb, (callFunc 55 #[.slice (some ⟨vb, voff, none⟩) m vc, .slice (some ⟨b, off + (i + m), none⟩) lb cb]).run Tryd.prog w = .ok (.value (.bool false)) w := fun lb cb => by
  rw [run_callFunc_extern Tryd.func55 (by kernel_rfl) (by kernel_rfl) (by kernel_rfl) (e := Extern.SlicesOverlaps.overlaps #[24, 24] #[4]) (by kernel_rfl),
   Lib.run_overlaps_apart w 24 4 9 Tryd.underlying24 1 (fun w => by simp [sizeOf, typeInfo, hi0, hzs]) ⟨vb, voff, none⟩ ⟨b, off + (i + m), none⟩ m vc lb cb hvb tA tB kA kB hsa hsb hkB hfa hfe]
  rfl
 have hdl : (cs.drop (i)).length = (n - i) := by have := List.length_drop (i := i) (l := cs); omega
 have mixed : Tryd.prog.follows .mixedOrders = true := by kernel_rfl
 have hw1 : IntKind.i64.wrap ((i : Int) + (m : Int)) = (i : Int) + (m : Int) := by rw [IntKind.wrap_i64]; omega
 have hb1 : (0 : Int) <= (i : Int) + (m : Int) := by omega
 have hin : i <= n := by omega
 have htn : ((i : Int) + (m : Int)).toNat = i + m := by omega
 have hb2 : ¬ (c = i + m) := by omega
 have hb3 : (i : Int) <= (n : Int) + (m : Int) := by omega
 have hb4 : ¬ (c = i) := by omega
 have hcp1 : ∀ ty dc sc, (Builtin.copy_ #[24, 24] ty #[.slice (some ⟨b, off + (i + m), none⟩) (n + m - (i + m)) dc, .slice (some ⟨b, off + i, none⟩) (n + m - i) sc]).run Tryd.prog w.drew = .ok (goInt (Nat.min (n + m - i) (n + m - (i + m)))) (w.drew.setCells b (off + (i + m)) (cs.drop (i))) := fun ty dc sc =>
  run_copy_cellsN w.drew _ _ ty 9 1 b (off + (i + m)) (n + m - (i + m)) dc ⟨b, off + i, none⟩ (n + m - i) sc (cs.drop (i)) Tryd.underlying24 hsz (by rw [hdl]; simp only [Nat.min_def]; split <;> omega)
   (fun j v hj => by rw [Addr.add_lit, Nat.add_assoc]; exact hcs (i + j) v (by rwa [List.getElem?_drop] at hj))
   (fun j hj => by rw [Nat.add_assoc]; exact hsp _ (by omega)) (fun j hj => by rw [Nat.add_assoc]; exact hfz _ (by omega)) (fun v hv => h1c v (List.mem_of_mem_drop hv))
 obtain ⟨W1, hW1⟩ : ∃ W1, W1 = w.drew.setCells b (off + (i + m)) (cs.drop (i)) := ⟨_, rfl⟩
 have hsp1 : ∀ k, k < (n + m) -> (W1.cell? ⟨b, off + k, none⟩).isSome = true := fun k hk => by
  rw [hW1]
  exact isSome_setCells b _ _ _ (fun j hj => by rw [Nat.add_assoc]; exact hsp _ (by omega)) _ (hsp k hk)
 have hcp2 : ∀ (W : World), (∀ x, W.cell? x = W1.cell? x) -> (∀ x, W.frozen? x = W1.frozen? x) -> ∀ ty dc, (Builtin.copy_ #[24, 24] ty #[.slice (some ⟨b, off + i, none⟩) (n + m - i) dc, .slice (some ⟨vb, voff, none⟩) m vc]).run Tryd.prog W = .ok (goInt (Nat.min m (n + m - i))) (W.setCells b (off + i) vs) := fun W hWc hWf ty dc =>
  run_copy_cellsN W _ _ ty 9 1 b (off + i) (n + m - i) dc ⟨vb, voff, none⟩ m vc vs Tryd.underlying24 hsz (by rw [hvl]; simp only [Nat.min_def]; split <;> omega)
   (fun j v hj => by
    rw [Addr.add_lit, hWc, hW1, World.cell?_setCells_out b _ _ _ _ (fun h _ => absurd h hvb)]
    exact hvs j v hj)
   (fun j hj => by rw [hWc, Nat.add_assoc]; exact hsp1 _ (by omega)) (fun j hj => by rw [hWf, hW1, World.frozen?_setCells, Nat.add_assoc]; exact hfz _ (by omega)) h1v
 rw [<- hW1] at hcp1
 go_enter Tryd.func40, Tryd.ntmps40
 go_wp2_with (simp only [hov])
 go_region_law_o (refine step_copy_runI rfl _ _ 24 24 rfl _ _ (by simp [Act.eval, Act.put]) (by simp [Act.eval, Act.put]) (hcp1 _ _ _) ?_)
 go_wp2_with (at_builtin; refine wpList_copy_runI _ rfl _ _ 24 24 rfl _ _ rfl rfl (hcp2 _ (fun _ => rfl) (fun _ => rfl) _ _) ?_)
 go_ret
 first | exact ⟨rfl, rfl⟩ | exact ⟨rfl, by rw [hW1]⟩
set_option maxHeartbeats 4000000 in
set_option maxRecDepth 100000 in
theorem insS_end_room (b off n c vb voff m vc : Nat) (vs : List Value) (w : World) (hm : 0 < m) (hroom : n + m <= c) (hc63 : c <= 9223372036854775807)
  (hvl : vs.length = m) (hsp : ∀ j, j < m -> (w.cell? ⟨b, off + n + j, none⟩).isSome = true) (hfz : ∀ j, j < m -> w.frozen? ⟨b, off + n + j, none⟩ = false)
  (hvs : ∀ j v, vs[j]? = some v -> w.cell? ⟨vb, voff + j, none⟩ = some v) (h1v : ∀ v ∈ vs, v.oneCell' = true) :
  Calls Tryd.prog 40 #[.slice (some ⟨b, off, none⟩) n c, .int .i64 n, .slice (some ⟨vb, voff, none⟩) m vc] w fun e w' =>
   e = .returned (.slice (some ⟨b, off, none⟩) (n + m) c) /\ w' = w.setCells b (off + n) vs := by
 have mixed : Tryd.prog.follows .mixedOrders = true := by kernel_rfl
 obtain ⟨i0, hi0, hz0, hzs, hzb⟩ := insS_info
 have hz1 : ¬ ((m : Int) = 0) := by omega
 have hsrc : Src Tryd.prog i0.size 24 (.slice (some ⟨vb, voff, none⟩) m vc) m vs w := by
  rw [hzs]
  exact Src.ofSlice w Tryd.underlying24 ⟨vb, voff, none⟩ m vc vs (by omega) (fun j u hj => by rw [Addr.add_lit]; exact hvs j u hj) h1v
 have hrun : ∀ ty, (Builtin.append_ #[24, 24] ty #[.slice (some ⟨b, off, none⟩) n c, .slice (some ⟨vb, voff, none⟩) m vc]).run Tryd.prog w = .ok (.slice (some ⟨b, off, none⟩) (n + m) c) (w.setCells b (off + n) vs) := fun ty => by
  have := run_append_room_src w 24 24 ty 9 i0 Tryd.underlying24 hi0 b off n c _ m vs hsrc hroom (by simp only [hzs, hvl, Nat.mul_one]; exact hsp) (by simp only [hzs, hvl, Nat.mul_one]; exact hfz)
  simp only [hzs, Nat.mul_one] at this
  exact this
 go_enter Tryd.func40, Tryd.ntmps40
 go_wp2_with (at_builtin; refine Lib.wpList_append_run _ rfl _ _ _ _ rfl _ _ rfl rfl _ _ (hrun _) ?_)
 go_ret
 exact ⟨rfl, rfl⟩
set_option maxHeartbeats 4000000 in
set_option maxRecDepth 100000 in
theorem insS_end_grow (base : Option Addr) (n c vb voff m vc : Nat) (cs vs : List Value) (w : World) (hm : 0 < m) (hnc : n <= c) (hroom : c < n + m) (hbig : (n + m) * 16 <= 140737488355328)
  (hcl : cs.length = n) (hvl : vs.length = m) (hnil : base = none -> n = 0)
  (hcs : ∀ a, base = some a -> ∀ j v, cs[j]? = some v -> w.cell? (a.add j) = some v)
  (hvs : ∀ j v, vs[j]? = some v -> w.cell? ⟨vb, voff + j, none⟩ = some v) (h1v : ∀ v ∈ vs, v.oneCell' = true) :
  Calls Tryd.prog 40 #[.slice base n c, .int .i64 n, .slice (some ⟨vb, voff, none⟩) m vc] w fun e w' =>
   e = .returned (.slice (some ⟨w.heap.size, 0, none⟩) (n + m) (grownCap w (n + m) c 9)) /\
   w' = w.drew.alloc (.cells ((cs ++ vs).toArray ++ Builtin.zeroCells (.string ⟨#[]⟩ : Value).cells (grownCap w (n + m) c 9 - (n + m))) 9) := by
 have mixed : Tryd.prog.follows .mixedOrders = true := by kernel_rfl
 obtain ⟨i0, hi0, hz0, hzs, hzb⟩ := insS_info
 have hz1 : ¬ ((m : Int) = 0) := by omega
 have hsrc : Src Tryd.prog i0.size 24 (.slice (some ⟨vb, voff, none⟩) m vc) m vs w := by
  rw [hzs]
  exact Src.ofSlice w Tryd.underlying24 ⟨vb, voff, none⟩ m vc vs (by omega) (fun j u hj => by rw [Addr.add_lit]; exact hvs j u hj) h1v
 have hold : (Builtin.firstCells i0.size n (.slice base n c)).run Tryd.prog w.drew = .ok cs.toArray w.drew := by
  rw [hzs]
  cases base with
  | none =>
   have h0 := hnil rfl
   subst h0
   have hc0 : cs = [] := List.length_eq_zero_iff.1 (by omega)
   rw [hc0]
   exact run_firstCells_none w.drew 1 0 0 c
  | some a => exact run_firstCells_some w.drew 1 n a n c cs (by omega) (fun j v hj => hcs a rfl j v hj)
 have hrun : ∀ ty, (Builtin.append_ #[24, 24] ty #[.slice base n c, .slice (some ⟨vb, voff, none⟩) m vc]).run Tryd.prog w = _ := fun ty =>
  run_append_grow_src w 24 24 ty 9 i0 _ Tryd.underlying24 hi0 hz0 base n c cs hold _ m vs hsrc hroom (by omega) (by rw [hzb]; exact growslice_fits hroom hbig)
 go_enter Tryd.func40, Tryd.ntmps40
 cases base with
 | none =>
  have h0 := hnil rfl
  subst h0
  go_wp2_with (at_builtin; refine Lib.wpList_append_run _ rfl _ _ _ _ rfl _ _ rfl rfl _ _ (hrun _) ?_)
  go_ret
  exact ⟨rfl, rfl⟩
 | some a =>
  obtain ⟨ab, ao, asp⟩ := a
  go_wp2_with (at_builtin; refine Lib.wpList_append_run _ rfl _ _ _ _ rfl _ _ rfl rfl _ _ (hrun _) ?_)
  all_goals (go_ret; exact ⟨rfl, rfl⟩)
set_option maxHeartbeats 4000000 in
set_option maxRecDepth 100000 in
theorem insS_grow (b off n c i vb voff m vc : Nat) (cs vs : List Value) (w : World) (hi : i < n) (hm : 0 < m) (hnc : n <= c) (hroom : c < n + m) (hbig : (n + m) * 16 <= 140737488355328)
  (hcl : cs.length = n) (hvl : vs.length = m)
  (hcs : ∀ j v, cs[j]? = some v -> w.cell? ⟨b, off + j, none⟩ = some v)
  (hvs : ∀ j v, vs[j]? = some v -> w.cell? ⟨vb, voff + j, none⟩ = some v) (h1c : ∀ v ∈ cs, v.oneCell' = true) (h1v : ∀ v ∈ vs, v.oneCell' = true) :
  Calls Tryd.prog 40 #[.slice (some ⟨b, off, none⟩) n c, .int .i64 i, .slice (some ⟨vb, voff, none⟩) m vc] w fun e w' =>
   e = .returned (.slice (some ⟨w.heap.size, 0, none⟩) (n + m) (grownCap w (n + m) c 9)) /\
   w' = (((w.alloc (.cells ((cs.take (i)).toArray ++ Builtin.zeroCells (.string ⟨#[]⟩ : Value).cells (n + m - i) ++ Builtin.zeroCells (.string ⟨#[]⟩ : Value).cells (grownCap w (n + m) c 9 - (n + m))) 9)).drew.setCells w.heap.size (i) vs).drew).setCells w.heap.size ((i + m)) (cs.drop (i)) := by
 have mixed : Tryd.prog.follows .mixedOrders = true := by kernel_rfl
 obtain ⟨i0, hi0, hz0, hzs, hzb⟩ := insS_info
 have hz1 : ¬ ((m : Int) = 0) := by omega
 have hz2 : ¬ ((i : Int) = (n : Int)) := by omega
 have hz3 : (c : Int) < (n : Int) + (m : Int) := by omega
 have hsz : (Tryd.prog.info? 9).map (·.size) = some 1 := by rw [hi0]; simp [hzs]
 have hbw : b < w.heap.size := block_lt_of_cell (hcs 0 _ (List.getElem?_eq_getElem (by omega)))
 have hvw : vb < w.heap.size := block_lt_of_cell (hvs 0 _ (List.getElem?_eq_getElem (by omega)))
 have hkk : (n : Int) + (m : Int) - (i : Int) = ((n + m - i : Nat) : Int) := by omega
 have hik : i + (n + m - i) = n + m := by omega
 have hold : (Builtin.firstCells i0.size i (.slice (some ⟨b, off, none⟩) i c)).run Tryd.prog w.drew = .ok (cs.take (i)).toArray w.drew := by
  rw [hzs]
  exact run_firstCells_some w.drew 1 i ⟨b, off, none⟩ i c (cs.take (i)) (by rw [List.length_take]; omega) (fun j v hj => by
   rw [Addr.add_lit]
   rw [List.getElem?_take] at hj
   split at hj
   ·exact hcs j v hj
   ·cases hj)
 have hrz : ∀ ty, (Builtin.append_ #[24, 3] ty #[.slice (some ⟨b, off, none⟩) i c, .int .i64 ((n : Int) + (m : Int) - (i : Int))]).run Tryd.prog w =
   .ok (.slice (some ⟨w.heap.size, 0, none⟩) (n + m) (grownCap w (n + m) c 9)) (w.drew.alloc (.cells ((cs.take (i)).toArray ++ Builtin.zeroCells (.string ⟨#[]⟩ : Value).cells (n + m - i) ++ Builtin.zeroCells (.string ⟨#[]⟩ : Value).cells (grownCap w (n + m) c 9 - (n + m))) 9)) := fun ty => by
  have h := Lib.run_append_grow_zeros w 24 3 ty 9 i0 _ .i64 .i64 Tryd.underlying24 Tryd.underlying3 hi0 hz0 (some ⟨b, off, none⟩) i c (cs.take (i)) hold (n + m - i) (by omega) (by omega) (by omega) (by omega) (by rw [hzb]; omega) (by rw [hzb, hik]; exact growslice_fits hroom hbig)
  rw [hik] at h
  rw [hkk]
  exact h
 obtain ⟨G, hG⟩ : ∃ G, G = grownCap w (n + m) c 9 := ⟨_, rfl⟩
 obtain ⟨ROW, hROW⟩ : ∃ ROW : Array Value, ROW = (cs.take (i)).toArray ++ Builtin.zeroCells (.string ⟨#[]⟩ : Value).cells (n + m - i) ++ Builtin.zeroCells (.string ⟨#[]⟩ : Value).cells (G - (n + m)) := ⟨_, rfl⟩
 rw [<- hG] at hrz ⊢
 rw [<- hROW] at hrz ⊢
 have hRl : (n + m) <= ROW.size := by
  rw [hROW]
  simp [Builtin.zeroCells, Value.cells]
  omega
 obtain ⟨W1, hW1⟩ : ∃ W1, W1 = w.drew.alloc (.cells ROW 9) := ⟨_, rfl⟩
 rw [<- hW1] at hrz
 have hN : ∀ j, j < (n + m) -> (W1.cell? ⟨w.heap.size, j, none⟩).isSome = true := fun j hj => by
  rw [hW1, World.cell?_alloc_at (w := w.drew) ROW _ w.heap.size j rfl, Array.getElem?_eq_getElem (by omega)]; rfl
 have hNf : ∀ j, W1.frozen? ⟨w.heap.size, j, none⟩ = false := fun j => by rw [hW1]; exact World.frozen?_alloc_at (w := w.drew) ROW _ w.heap.size j rfl
 have hOb : ∀ j v, w.cell? ⟨b, j, none⟩ = some v -> W1.cell? ⟨b, j, none⟩ = some v := fun j v h => by rw [hW1, World.cell?_alloc_past (w := w.drew) _ b j hbw]; exact h
 have hOv : ∀ j v, w.cell? ⟨vb, j, none⟩ = some v -> W1.cell? ⟨vb, j, none⟩ = some v := fun j v h => by rw [hW1, World.cell?_alloc_past (w := w.drew) _ vb j hvw]; exact h
 have hcpA : ∀ (W : World), (∀ x, W.cell? x = W1.cell? x) -> (∀ x, W.frozen? x = W1.frozen? x) -> ∀ ty dc, (Builtin.copy_ #[24, 24] ty #[.slice (some ⟨w.heap.size, i, none⟩) (n + m - i) dc, .slice (some ⟨vb, voff, none⟩) m vc]).run Tryd.prog W = .ok (goInt (Nat.min m (n + m - i))) (W.setCells w.heap.size (i) vs) := fun W hWc hWf ty dc =>
  run_copy_cellsN W _ _ ty 9 1 w.heap.size (i) (n + m - i) dc ⟨vb, voff, none⟩ m vc vs Tryd.underlying24 hsz (by rw [hvl]; simp only [Nat.min_def]; split <;> omega)
   (fun j v hj => by rw [Addr.add_lit, hWc]; exact hOv _ v (hvs j v hj))
   (fun j hj => by rw [hWc]; exact hN _ (by omega)) (fun j hj => by rw [hWf]; exact hNf _) h1v
 have hGn : n + m <= G := by rw [hG]; exact grownCap_ge w _ _ _
 have hG63 : G <= 9223372036854775807 := by
  have := grownCap_le_maxLen w (n + m) c 9 (by unfold maxLen; omega)
  rw [<- hG] at this
  unfold maxLen at this
  omega
 have hGi : ¬ (G = i) := by omega
 have hGim : ¬ (G = i + m) := by omega
 have hci : ¬ (c = i) := by omega
 have hbN : b ≠ w.heap.size := by omega
 have hdl : (cs.drop (i)).length = (n - i) := by have := List.length_drop (i := i) (l := cs); omega
 have hcpB : ∀ (W : World), (∀ x, W.cell? x = (W1.setCells w.heap.size (i) vs).cell? x) -> (∀ x, W.frozen? x = (W1.setCells w.heap.size (i) vs).frozen? x) -> ∀ ty dc sc, (Builtin.copy_ #[24, 24] ty #[.slice (some ⟨w.heap.size, (i + m), none⟩) (n + m - (i + m)) dc, .slice (some ⟨b, off + i, none⟩) (n - i) sc]).run Tryd.prog W = .ok (goInt (Nat.min (n - i) (n + m - (i + m)))) (W.setCells w.heap.size ((i + m)) (cs.drop (i))) := fun W hWc hWf ty dc sc =>
  run_copy_cellsN W _ _ ty 9 1 w.heap.size ((i + m)) (n + m - (i + m)) dc ⟨b, off + i, none⟩ (n - i) sc (cs.drop (i)) Tryd.underlying24 hsz (by rw [hdl]; simp only [Nat.min_def]; split <;> omega)
   (fun j v hj => by
    rw [Addr.add_lit, hWc, World.cell?_setCells_out _ _ _ _ _ (fun h _ => absurd h hbN), Nat.add_assoc]
    exact hOb _ v (hcs (i + j) v (by rwa [List.getElem?_drop] at hj)))
   (fun j hj => by rw [hWc]; exact isSome_setCells _ _ _ _ (fun t ht => hN _ (by omega)) _ (hN _ (by omega)))
   (fun j hj => by rw [hWf, World.frozen?_setCells]; exact hNf _) (fun v hv => h1c v (List.mem_of_mem_drop hv))
 subst hW1
 have hE1 : ∀ x, ((w.alloc (.cells ROW 9)).drew).cell? x = (w.drew.alloc (.cells ROW 9)).cell? x := fun x => rfl
 have hE2 : ∀ x, ((w.alloc (.cells ROW 9)).drew).frozen? x = (w.drew.alloc (.cells ROW 9)).frozen? x := fun x => rfl
 have hF1 : ∀ x, (((w.alloc (.cells ROW 9)).drew.setCells w.heap.size (i) vs).drew).cell? x = ((w.drew.alloc (.cells ROW 9)).setCells w.heap.size (i) vs).cell? x := fun x => rfl
 have hF2 : ∀ x, (((w.alloc (.cells ROW 9)).drew.setCells w.heap.size (i) vs).drew).frozen? x = ((w.drew.alloc (.cells ROW 9)).setCells w.heap.size (i) vs).frozen? x := fun x => rfl
 have hw1 : IntKind.i64.wrap ((i : Int) + (m : Int)) = (i : Int) + (m : Int) := by rw [IntKind.wrap_i64]; omega
 have hb1 : (0 : Int) <= (i : Int) + (m : Int) := by omega
 have hin : i <= n := by omega
 have htn : ((i : Int) + (m : Int)).toNat = i + m := by omega
 have hb3 : (i : Int) <= (n : Int) := by omega
 clear hkk hik hold hROW hG hRl
 go_enter Tryd.func40, Tryd.ntmps40
 go_wp2_with (first
  |(at_builtin; refine Lib.wpList_append_run _ rfl _ _ _ _ rfl _ _ rfl rfl _ _ (hrz _) ?_)
  |(at_builtin; refine wpList_copy_runI _ rfl _ _ 24 24 rfl _ _ rfl rfl (hcpA _ hE1 hE2 _ _) ?_)
  |(at_builtin; refine wpList_copy_runI _ rfl _ _ 24 24 rfl _ _ rfl rfl (hcpB _ (fun _ => rfl) (fun _ => rfl) _ _ _) ?_))
 go_region_law_o (refine step_copy_runI rfl _ _ 24 24 rfl (.slice (some ⟨w.heap.size, (i + m), none⟩) (n + m - (i + m)) (G - (i + m))) (.slice (some ⟨b, off + i, none⟩) (n - i) (c - i)) (by simp [Act.eval, Act.put]) (by simp [Act.eval, Act.put]) (hcpB _ hF1 hF2 3 (G - (i + m)) (c - i)) ?_)
 go_wp2
 go_ret
 exact ⟨rfl, rfl⟩
end Go.Proofs.YtcgmpcbkndpmbaaDoor

end
section
open Go Go.Proofs Go.RowKit Go.Lib
namespace Go.Proofs.YtcgmpcbkndpmbaaDoor
set_option maxRecDepth 4000
set_option linter.unusedVariables false
set_option linter.unusedSimpArgs false
theorem insV_info : ∃ i0, Tryd.prog.info? 26 = some i0 /\ i0.zero = some (.agg #[.int .i64 0, .bool false, .int .i64 0, .string ⟨#[]⟩, .slice none 0 0, .slice none 0 0]) /\ i0.size = 6 /\ i0.bytes = 88 := ⟨_, rfl, rfl, rfl, rfl⟩
set_option maxHeartbeats 4000000 in
set_option maxRecDepth 100000 in
theorem insV_shift (b off n c i vb voff m vc : Nat) (cs vs : List Value) (w : World) (hi : i < n) (hm : 0 < m) (hroom : n + m <= c) (hc63 : c <= 9223372036854775807) (hvb : vb ≠ b)
  (hcl : cs.length = n * 6) (hvl : vs.length = m * 6)
  (hcs : ∀ j v, cs[j]? = some v -> w.cell? ⟨b, off + j, none⟩ = some v) (hsp : ∀ j, j < (n + m) * 6 -> (w.cell? ⟨b, off + j, none⟩).isSome = true) (hfz : ∀ j, j < (n + m) * 6 -> w.frozen? ⟨b, off + j, none⟩ = false)
  (hvs : ∀ j v, vs[j]? = some v -> w.cell? ⟨vb, voff + j, none⟩ = some v) (h1c : ∀ v ∈ cs, v.oneCell' = true) (h1v : ∀ v ∈ vs, v.oneCell' = true)
  (tA tB : TypeId) (kA kB : Nat) (hsa : w.shape? vb = some (tA, kA)) (hsb : w.shape? b = some (tB, kB)) (hkB : kB ≠ 0) (hfa : w.frozen? ⟨vb, voff, none⟩ = false) (hfe : w.frozen? ⟨vb, kA, none⟩ = false) :
  Calls Tryd.prog 41 #[.slice (some ⟨b, off, none⟩) n c, .int .i64 i, .slice (some ⟨vb, voff, none⟩) m vc] w fun e w' =>
   e = .returned (.slice (some ⟨b, off, none⟩) (n + m) c) /\ w' = (w.drew.setCells b (off + (i + m) * 6) (cs.drop (i * 6))).setCells b (off + i * 6) vs := by
 have hz1 : ¬ ((m : Int) = 0) := by omega
 have hz2 : ¬ ((i : Int) = (n : Int)) := by omega
 obtain ⟨i0, hi0, hz0, hzs, hzb⟩ := insV_info
 have hsz : (Tryd.prog.info? 26).map (·.size) = some 6 := by rw [hi0]; simp [hzs]
 have hov : ∀ lb cb, (callFunc 57 #[.slice (some ⟨vb, voff, none⟩) m vc, .slice (some ⟨b, off + (i + m) * 6, none⟩) lb cb]).run Tryd.prog w = .ok (.value (.bool false)) w := fun lb cb => by
  rw [run_callFunc_extern Tryd.func57 (by kernel_rfl) (by kernel_rfl) (by kernel_rfl) (e := Extern.SlicesOverlaps.overlaps #[23, 23] #[4]) (by kernel_rfl),
   Lib.run_overlaps_apart w 23 4 26 Tryd.underlying23 6 (fun w => by simp [sizeOf, typeInfo, hi0, hzs]) ⟨vb, voff, none⟩ ⟨b, off + (i + m) * 6, none⟩ m vc lb cb hvb tA tB kA kB hsa hsb hkB hfa hfe]
  rfl
 have hdl : (cs.drop (i * 6)).length = (n - i) * 6 := by have := List.length_drop (i := i * 6) (l := cs); omega
 have mixed : Tryd.prog.follows .mixedOrders = true := by kernel_rfl
 have hw1 : IntKind.i64.wrap ((i : Int) + (m : Int)) = (i : Int) + (m : Int) := by rw [IntKind.wrap_i64]; omega
 have hb1 : (0 : Int) <= (i : Int) + (m : Int) := by omega
 have hin : i <= n := by omega
 have htn : ((i : Int) + (m : Int)).toNat = i + m := by omega
 have hb2 : ¬ (c = i + m) := by omega
 have hb3 : (i : Int) <= (n : Int) + (m : Int) := by omega
 have hb4 : ¬ (c = i) := by omega
 have hcp1 : ∀ ty dc sc, (Builtin.copy_ #[23, 23] ty #[.slice (some ⟨b, off + (i + m) * 6, none⟩) (n + m - (i + m)) dc, .slice (some ⟨b, off + i * 6, none⟩) (n + m - i) sc]).run Tryd.prog w.drew = .ok (goInt (Nat.min (n + m - i) (n + m - (i + m)))) (w.drew.setCells b (off + (i + m) * 6) (cs.drop (i * 6))) := fun ty dc sc =>
  run_copy_cellsN w.drew _ _ ty 26 6 b (off + (i + m) * 6) (n + m - (i + m)) dc ⟨b, off + i * 6, none⟩ (n + m - i) sc (cs.drop (i * 6)) Tryd.underlying23 hsz (by rw [hdl]; simp only [Nat.min_def]; split <;> omega)
   (fun j v hj => by rw [Addr.add_lit, Nat.add_assoc]; exact hcs (i * 6 + j) v (by rwa [List.getElem?_drop] at hj))
   (fun j hj => by rw [Nat.add_assoc]; exact hsp _ (by omega)) (fun j hj => by rw [Nat.add_assoc]; exact hfz _ (by omega)) (fun v hv => h1c v (List.mem_of_mem_drop hv))
 obtain ⟨W1, hW1⟩ : ∃ W1, W1 = w.drew.setCells b (off + (i + m) * 6) (cs.drop (i * 6)) := ⟨_, rfl⟩
 have hsp1 : ∀ k, k < (n + m) * 6 -> (W1.cell? ⟨b, off + k, none⟩).isSome = true := fun k hk => by
  rw [hW1]
  exact isSome_setCells b _ _ _ (fun j hj => by rw [Nat.add_assoc]; exact hsp _ (by omega)) _ (hsp k hk)
 have hcp2 : ∀ (W : World), (∀ x, W.cell? x = W1.cell? x) -> (∀ x, W.frozen? x = W1.frozen? x) -> ∀ ty dc, (Builtin.copy_ #[23, 23] ty #[.slice (some ⟨b, off + i * 6, none⟩) (n + m - i) dc, .slice (some ⟨vb, voff, none⟩) m vc]).run Tryd.prog W = .ok (goInt (Nat.min m (n + m - i))) (W.setCells b (off + i * 6) vs) := fun W hWc hWf ty dc =>
  run_copy_cellsN W _ _ ty 26 6 b (off + i * 6) (n + m - i) dc ⟨vb, voff, none⟩ m vc vs Tryd.underlying23 hsz (by rw [hvl]; simp only [Nat.min_def]; split <;> omega)
   (fun j v hj => by
    rw [Addr.add_lit, hWc, hW1, World.cell?_setCells_out b _ _ _ _ (fun h _ => absurd h hvb)]
    exact hvs j v hj)
   (fun j hj => by rw [hWc, Nat.add_assoc]; exact hsp1 _ (by omega)) (fun j hj => by rw [hWf, hW1, World.frozen?_setCells, Nat.add_assoc]; exact hfz _ (by omega)) h1v
 rw [<- hW1] at hcp1
 go_enter Tryd.func41, Tryd.ntmps41
 go_wp2_with (simp only [hov])
 go_region_law_o (refine step_copy_runI rfl _ _ 23 23 rfl _ _ (by simp [Act.eval, Act.put]) (by simp [Act.eval, Act.put]) (hcp1 _ _ _) ?_)
 go_wp2_with (at_builtin; refine wpList_copy_runI _ rfl _ _ 23 23 rfl _ _ rfl rfl (hcp2 _ (fun _ => rfl) (fun _ => rfl) _ _) ?_)
 go_ret
 first | exact ⟨rfl, rfl⟩ | exact ⟨rfl, by rw [hW1]⟩
set_option maxHeartbeats 4000000 in
set_option maxRecDepth 100000 in
theorem insV_end_room (b off n c vb voff m vc : Nat) (vs : List Value) (w : World) (hm : 0 < m) (hroom : n + m <= c) (hc63 : c <= 9223372036854775807)
  (hvl : vs.length = m * 6) (hsp : ∀ j, j < m * 6 -> (w.cell? ⟨b, off + n * 6 + j, none⟩).isSome = true) (hfz : ∀ j, j < m * 6 -> w.frozen? ⟨b, off + n * 6 + j, none⟩ = false)
  (hvs : ∀ j v, vs[j]? = some v -> w.cell? ⟨vb, voff + j, none⟩ = some v) (h1v : ∀ v ∈ vs, v.oneCell' = true) :
  Calls Tryd.prog 41 #[.slice (some ⟨b, off, none⟩) n c, .int .i64 n, .slice (some ⟨vb, voff, none⟩) m vc] w fun e w' =>
   e = .returned (.slice (some ⟨b, off, none⟩) (n + m) c) /\ w' = w.setCells b (off + n * 6) vs := by
 have mixed : Tryd.prog.follows .mixedOrders = true := by kernel_rfl
 obtain ⟨i0, hi0, hz0, hzs, hzb⟩ := insV_info
 have hz1 : ¬ ((m : Int) = 0) := by omega
 have hsrc : Src Tryd.prog i0.size 23 (.slice (some ⟨vb, voff, none⟩) m vc) m vs w := by
  rw [hzs]
  exact Src.ofSlice w Tryd.underlying23 ⟨vb, voff, none⟩ m vc vs (by omega) (fun j u hj => by rw [Addr.add_lit]; exact hvs j u hj) h1v
 have hrun : ∀ ty, (Builtin.append_ #[23, 23] ty #[.slice (some ⟨b, off, none⟩) n c, .slice (some ⟨vb, voff, none⟩) m vc]).run Tryd.prog w = .ok (.slice (some ⟨b, off, none⟩) (n + m) c) (w.setCells b (off + n * 6) vs) := fun ty => by
  have := run_append_room_src w 23 23 ty 26 i0 Tryd.underlying23 hi0 b off n c _ m vs hsrc hroom (by simp only [hzs, hvl, Nat.mul_one]; exact hsp) (by simp only [hzs, hvl, Nat.mul_one]; exact hfz)
  simp only [hzs, Nat.mul_one] at this
  exact this
 go_enter Tryd.func41, Tryd.ntmps41
 go_wp2_with (at_builtin; refine Lib.wpList_append_run _ rfl _ _ _ _ rfl _ _ rfl rfl _ _ (hrun _) ?_)
 go_ret
 exact ⟨rfl, rfl⟩
set_option maxHeartbeats 4000000 in
set_option maxRecDepth 100000 in
theorem insV_end_grow (base : Option Addr) (n c vb voff m vc : Nat) (cs vs : List Value) (w : World) (hm : 0 < m) (hnc : n <= c) (hroom : c < n + m) (hbig : (n + m) * 88 <= 140737488355328)
  (hcl : cs.length = n * 6) (hvl : vs.length = m * 6) (hnil : base = none -> n = 0)
  (hcs : ∀ a, base = some a -> ∀ j v, cs[j]? = some v -> w.cell? (a.add j) = some v)
  (hvs : ∀ j v, vs[j]? = some v -> w.cell? ⟨vb, voff + j, none⟩ = some v) (h1v : ∀ v ∈ vs, v.oneCell' = true) :
  Calls Tryd.prog 41 #[.slice base n c, .int .i64 n, .slice (some ⟨vb, voff, none⟩) m vc] w fun e w' =>
   e = .returned (.slice (some ⟨w.heap.size, 0, none⟩) (n + m) (grownCap w (n + m) c 26)) /\
   w' = w.drew.alloc (.cells ((cs ++ vs).toArray ++ Builtin.zeroCells (.agg #[.int .i64 0, .bool false, .int .i64 0, .string ⟨#[]⟩, .slice none 0 0, .slice none 0 0] : Value).cells (grownCap w (n + m) c 26 - (n + m))) 26) := by
 have mixed : Tryd.prog.follows .mixedOrders = true := by kernel_rfl
 obtain ⟨i0, hi0, hz0, hzs, hzb⟩ := insV_info
 have hz1 : ¬ ((m : Int) = 0) := by omega
 have hsrc : Src Tryd.prog i0.size 23 (.slice (some ⟨vb, voff, none⟩) m vc) m vs w := by
  rw [hzs]
  exact Src.ofSlice w Tryd.underlying23 ⟨vb, voff, none⟩ m vc vs (by omega) (fun j u hj => by rw [Addr.add_lit]; exact hvs j u hj) h1v
 have hold : (Builtin.firstCells i0.size n (.slice base n c)).run Tryd.prog w.drew = .ok cs.toArray w.drew := by
  rw [hzs]
  cases base with
  | none =>
   have h0 := hnil rfl
   subst h0
   have hc0 : cs = [] := List.length_eq_zero_iff.1 (by omega)
   rw [hc0]
   exact run_firstCells_none w.drew 6 0 0 c
  | some a => exact run_firstCells_some w.drew 6 n a n c cs (by omega) (fun j v hj => hcs a rfl j v hj)
 have hrun : ∀ ty, (Builtin.append_ #[23, 23] ty #[.slice base n c, .slice (some ⟨vb, voff, none⟩) m vc]).run Tryd.prog w = _ := fun ty =>
  run_append_grow_src w 23 23 ty 26 i0 _ Tryd.underlying23 hi0 hz0 base n c cs hold _ m vs hsrc hroom (by omega) (by rw [hzb]; exact growslice_fits hroom hbig)
 go_enter Tryd.func41, Tryd.ntmps41
 cases base with
 | none =>
  have h0 := hnil rfl
  subst h0
  go_wp2_with (at_builtin; refine Lib.wpList_append_run _ rfl _ _ _ _ rfl _ _ rfl rfl _ _ (hrun _) ?_)
  go_ret
  exact ⟨rfl, rfl⟩
 | some a =>
  obtain ⟨ab, ao, asp⟩ := a
  go_wp2_with (at_builtin; refine Lib.wpList_append_run _ rfl _ _ _ _ rfl _ _ rfl rfl _ _ (hrun _) ?_)
  all_goals (go_ret; exact ⟨rfl, rfl⟩)
set_option maxHeartbeats 4000000 in
set_option maxRecDepth 100000 in
theorem insV_grow (b off n c i vb voff m vc : Nat) (cs vs : List Value) (w : World) (hi : i < n) (hm : 0 < m) (hnc : n <= c) (hroom : c < n + m) (hbig : (n + m) * 88 <= 140737488355328)
  (hcl : cs.length = n * 6) (hvl : vs.length = m * 6)
  (hcs : ∀ j v, cs[j]? = some v -> w.cell? ⟨b, off + j, none⟩ = some v)
  (hvs : ∀ j v, vs[j]? = some v -> w.cell? ⟨vb, voff + j, none⟩ = some v) (h1c : ∀ v ∈ cs, v.oneCell' = true) (h1v : ∀ v ∈ vs, v.oneCell' = true) :
  Calls Tryd.prog 41 #[.slice (some ⟨b, off, none⟩) n c, .int .i64 i, .slice (some ⟨vb, voff, none⟩) m vc] w fun e w' =>
   e = .returned (.slice (some ⟨w.heap.size, 0, none⟩) (n + m) (grownCap w (n + m) c 26)) /\
   w' = (((w.alloc (.cells ((cs.take (i * 6)).toArray ++ Builtin.zeroCells (.agg #[.int .i64 0, .bool false, .int .i64 0, .string ⟨#[]⟩, .slice none 0 0, .slice none 0 0] : Value).cells (n + m - i) ++ Builtin.zeroCells (.agg #[.int .i64 0, .bool false, .int .i64 0, .string ⟨#[]⟩, .slice none 0 0, .slice none 0 0] : Value).cells (grownCap w (n + m) c 26 - (n + m))) 26)).drew.setCells w.heap.size (i * 6) vs).drew).setCells w.heap.size ((i + m) * 6) (cs.drop (i * 6)) := by
 have mixed : Tryd.prog.follows .mixedOrders = true := by kernel_rfl
 obtain ⟨i0, hi0, hz0, hzs, hzb⟩ := insV_info
 have hz1 : ¬ ((m : Int) = 0) := by omega
 have hz2 : ¬ ((i : Int) = (n : Int)) := by omega
 have hz3 : (c : Int) < (n : Int) + (m : Int) := by omega
 have hsz : (Tryd.prog.info? 26).map (·.size) = some 6 := by rw [hi0]; simp [hzs]
 have hbw : b < w.heap.size := block_lt_of_cell (hcs 0 _ (List.getElem?_eq_getElem (by omega)))
 have hvw : vb < w.heap.size := block_lt_of_cell (hvs 0 _ (List.getElem?_eq_getElem (by omega)))
 have hkk : (n : Int) + (m : Int) - (i : Int) = ((n + m - i : Nat) : Int) := by omega
 have hik : i + (n + m - i) = n + m := by omega
 have hold : (Builtin.firstCells i0.size i (.slice (some ⟨b, off, none⟩) i c)).run Tryd.prog w.drew = .ok (cs.take (i * 6)).toArray w.drew := by
  rw [hzs]
  exact run_firstCells_some w.drew 6 i ⟨b, off, none⟩ i c (cs.take (i * 6)) (by rw [List.length_take]; omega) (fun j v hj => by
   rw [Addr.add_lit]
   rw [List.getElem?_take] at hj
   split at hj
   ·exact hcs j v hj
   ·cases hj)
 have hrz : ∀ ty, (Builtin.append_ #[23, 3] ty #[.slice (some ⟨b, off, none⟩) i c, .int .i64 ((n : Int) + (m : Int) - (i : Int))]).run Tryd.prog w =
   .ok (.slice (some ⟨w.heap.size, 0, none⟩) (n + m) (grownCap w (n + m) c 26)) (w.drew.alloc (.cells ((cs.take (i * 6)).toArray ++ Builtin.zeroCells (.agg #[.int .i64 0, .bool false, .int .i64 0, .string ⟨#[]⟩, .slice none 0 0, .slice none 0 0] : Value).cells (n + m - i) ++ Builtin.zeroCells (.agg #[.int .i64 0, .bool false, .int .i64 0, .string ⟨#[]⟩, .slice none 0 0, .slice none 0 0] : Value).cells (grownCap w (n + m) c 26 - (n + m))) 26)) := fun ty => by
  have h := Lib.run_append_grow_zeros w 23 3 ty 26 i0 _ .i64 .i64 Tryd.underlying23 Tryd.underlying3 hi0 hz0 (some ⟨b, off, none⟩) i c (cs.take (i * 6)) hold (n + m - i) (by omega) (by omega) (by omega) (by omega) (by rw [hzb]; omega) (by rw [hzb, hik]; exact growslice_fits hroom hbig)
  rw [hik] at h
  rw [hkk]
  exact h
 obtain ⟨G, hG⟩ : ∃ G, G = grownCap w (n + m) c 26 := ⟨_, rfl⟩
 obtain ⟨ROW, hROW⟩ : ∃ ROW : Array Value, ROW = (cs.take (i * 6)).toArray ++ Builtin.zeroCells (.agg #[.int .i64 0, .bool false, .int .i64 0, .string ⟨#[]⟩, .slice none 0 0, .slice none 0 0] : Value).cells (n + m - i) ++ Builtin.zeroCells (.agg #[.int .i64 0, .bool false, .int .i64 0, .string ⟨#[]⟩, .slice none 0 0, .slice none 0 0] : Value).cells (G - (n + m)) := ⟨_, rfl⟩
 rw [<- hG] at hrz ⊢
 rw [<- hROW] at hrz ⊢
 have hRl : (n + m) * 6 <= ROW.size := by
  rw [hROW]
  simp [Builtin.zeroCells, Value.cells]
  omega
 obtain ⟨W1, hW1⟩ : ∃ W1, W1 = w.drew.alloc (.cells ROW 26) := ⟨_, rfl⟩
 rw [<- hW1] at hrz
 have hN : ∀ j, j < (n + m) * 6 -> (W1.cell? ⟨w.heap.size, j, none⟩).isSome = true := fun j hj => by
  rw [hW1, World.cell?_alloc_at (w := w.drew) ROW _ w.heap.size j rfl, Array.getElem?_eq_getElem (by omega)]; rfl
 have hNf : ∀ j, W1.frozen? ⟨w.heap.size, j, none⟩ = false := fun j => by rw [hW1]; exact World.frozen?_alloc_at (w := w.drew) ROW _ w.heap.size j rfl
 have hOb : ∀ j v, w.cell? ⟨b, j, none⟩ = some v -> W1.cell? ⟨b, j, none⟩ = some v := fun j v h => by rw [hW1, World.cell?_alloc_past (w := w.drew) _ b j hbw]; exact h
 have hOv : ∀ j v, w.cell? ⟨vb, j, none⟩ = some v -> W1.cell? ⟨vb, j, none⟩ = some v := fun j v h => by rw [hW1, World.cell?_alloc_past (w := w.drew) _ vb j hvw]; exact h
 have hcpA : ∀ (W : World), (∀ x, W.cell? x = W1.cell? x) -> (∀ x, W.frozen? x = W1.frozen? x) -> ∀ ty dc, (Builtin.copy_ #[23, 23] ty #[.slice (some ⟨w.heap.size, i * 6, none⟩) (n + m - i) dc, .slice (some ⟨vb, voff, none⟩) m vc]).run Tryd.prog W = .ok (goInt (Nat.min m (n + m - i))) (W.setCells w.heap.size (i * 6) vs) := fun W hWc hWf ty dc =>
  run_copy_cellsN W _ _ ty 26 6 w.heap.size (i * 6) (n + m - i) dc ⟨vb, voff, none⟩ m vc vs Tryd.underlying23 hsz (by rw [hvl]; simp only [Nat.min_def]; split <;> omega)
   (fun j v hj => by rw [Addr.add_lit, hWc]; exact hOv _ v (hvs j v hj))
   (fun j hj => by rw [hWc]; exact hN _ (by omega)) (fun j hj => by rw [hWf]; exact hNf _) h1v
 have hGn : n + m <= G := by rw [hG]; exact grownCap_ge w _ _ _
 have hG63 : G <= 9223372036854775807 := by
  have := grownCap_le_maxLen w (n + m) c 26 (by unfold maxLen; omega)
  rw [<- hG] at this
  unfold maxLen at this
  omega
 have hGi : ¬ (G = i) := by omega
 have hGim : ¬ (G = i + m) := by omega
 have hci : ¬ (c = i) := by omega
 have hbN : b ≠ w.heap.size := by omega
 have hdl : (cs.drop (i * 6)).length = (n - i) * 6 := by have := List.length_drop (i := i * 6) (l := cs); omega
 have hcpB : ∀ (W : World), (∀ x, W.cell? x = (W1.setCells w.heap.size (i * 6) vs).cell? x) -> (∀ x, W.frozen? x = (W1.setCells w.heap.size (i * 6) vs).frozen? x) -> ∀ ty dc sc, (Builtin.copy_ #[23, 23] ty #[.slice (some ⟨w.heap.size, (i + m) * 6, none⟩) (n + m - (i + m)) dc, .slice (some ⟨b, off + i * 6, none⟩) (n - i) sc]).run Tryd.prog W = .ok (goInt (Nat.min (n - i) (n + m - (i + m)))) (W.setCells w.heap.size ((i + m) * 6) (cs.drop (i * 6))) := fun W hWc hWf ty dc sc =>
  run_copy_cellsN W _ _ ty 26 6 w.heap.size ((i + m) * 6) (n + m - (i + m)) dc ⟨b, off + i * 6, none⟩ (n - i) sc (cs.drop (i * 6)) Tryd.underlying23 hsz (by rw [hdl]; simp only [Nat.min_def]; split <;> omega)
   (fun j v hj => by
    rw [Addr.add_lit, hWc, World.cell?_setCells_out _ _ _ _ _ (fun h _ => absurd h hbN), Nat.add_assoc]
    exact hOb _ v (hcs (i * 6 + j) v (by rwa [List.getElem?_drop] at hj)))
   (fun j hj => by rw [hWc]; exact isSome_setCells _ _ _ _ (fun t ht => hN _ (by omega)) _ (hN _ (by omega)))
   (fun j hj => by rw [hWf, World.frozen?_setCells]; exact hNf _) (fun v hv => h1c v (List.mem_of_mem_drop hv))
 subst hW1
 have hE1 : ∀ x, ((w.alloc (.cells ROW 26)).drew).cell? x = (w.drew.alloc (.cells ROW 26)).cell? x := fun x => rfl
 have hE2 : ∀ x, ((w.alloc (.cells ROW 26)).drew).frozen? x = (w.drew.alloc (.cells ROW 26)).frozen? x := fun x => rfl
 have hF1 : ∀ x, (((w.alloc (.cells ROW 26)).drew.setCells w.heap.size (i * 6) vs).drew).cell? x = ((w.drew.alloc (.cells ROW 26)).setCells w.heap.size (i * 6) vs).cell? x := fun x => rfl
 have hF2 : ∀ x, (((w.alloc (.cells ROW 26)).drew.setCells w.heap.size (i * 6) vs).drew).frozen? x = ((w.drew.alloc (.cells ROW 26)).setCells w.heap.size (i * 6) vs).frozen? x := fun x => rfl
 have hw1 : IntKind.i64.wrap ((i : Int) + (m : Int)) = (i : Int) + (m : Int) := by rw [IntKind.wrap_i64]; omega
 have hb1 : (0 : Int) <= (i : Int) + (m : Int) := by omega
 have hin : i <= n := by omega
 have htn : ((i : Int) + (m : Int)).toNat = i + m := by omega
 have hb3 : (i : Int) <= (n : Int) := by omega
 clear hkk hik hold hROW hG hRl
 go_enter Tryd.func41, Tryd.ntmps41
 go_wp2_with (first
  |(at_builtin; refine Lib.wpList_append_run _ rfl _ _ _ _ rfl _ _ rfl rfl _ _ (hrz _) ?_)
  |(at_builtin; refine wpList_copy_runI _ rfl _ _ 23 23 rfl _ _ rfl rfl (hcpA _ hE1 hE2 _ _) ?_)
  |(at_builtin; refine wpList_copy_runI _ rfl _ _ 23 23 rfl _ _ rfl rfl (hcpB _ (fun _ => rfl) (fun _ => rfl) _ _ _) ?_))
 go_region_law_o (refine step_copy_runI rfl _ _ 23 23 rfl (.slice (some ⟨w.heap.size, (i + m) * 6, none⟩) (n + m - (i + m)) (G - (i + m))) (.slice (some ⟨b, off + i * 6, none⟩) (n - i) (c - i)) (by simp [Act.eval, Act.put]) (by simp [Act.eval, Act.put]) (hcpB _ hF1 hF2 3 (G - (i + m)) (c - i)) ?_)
 go_wp2
 go_ret
 exact ⟨rfl, rfl⟩
end Go.Proofs.YtcgmpcbkndpmbaaDoor

end
section
open Go Go.Proofs Go.RowKit Go.Lib Go.Pw
namespace Go.Proofs.YtcgmpcbkndpmbaaDoor
set_option maxRecDepth 4000
set_option linter.unusedVariables false
set_option linter.unusedSimpArgs false
def setL : Nat -> List Value -> Array Value -> Array Value
 | _, [], us => us
 | o, v :: r, us => setL (o + 1) r (us.setIfInBounds o v)
theorem setL_size : ∀ (vs : List Value) (o : Nat) (us : Array Value), (setL o vs us).size = us.size
 | [], _, _ => rfl
 | v :: r, o, us => by rw [setL, setL_size r]; simp
theorem setL_out : ∀ (vs : List Value) (o : Nat) (us : Array Value) (j : Nat), (j < o ∨ o + vs.length <= j) -> (setL o vs us)[j]? = us[j]?
 | [], _, _, _, _ => rfl
 | v :: r, o, us, j, h => by
  rw [setL, setL_out r (o + 1) _ j (by simp at h; omega), Array.getElem?_setIfInBounds_ne (by simp at h; omega)]
theorem setL_in : ∀ (vs : List Value) (o : Nat) (us : Array Value) (j : Nat), j < vs.length -> o + j < us.size -> (setL o vs us)[o + j]? = vs[j]?
 | [], _, _, j, h, _ => by simp at h
 | v :: r, o, us, 0, h, h' => by
  rw [setL, setL_out r (o + 1) _ _ (by omega)]
  simp at h' ⊢
  simp [h']
 | v :: r, o, us, j + 1, h, h' => by
  have := setL_in r (o + 1) (us.setIfInBounds o v) j (by simp at h; omega) (by simp; omega)
  rw [setL, show o + (j + 1) = o + 1 + j by omega, this]
  rfl
theorem setL_one {vs : List Value} (hv : ∀ v ∈ vs, v.oneCell' = true) : ∀ (o : Nat) (us : Array Value), (∀ (j : Nat) (u : Value), us[j]? = some u -> u.oneCell' = true) -> ∀ (j : Nat) (u : Value), (setL o vs us)[j]? = some u -> u.oneCell' = true := by
 induction vs with
 | nil => exact fun o us h => h
 | cons v r ih =>
  intro o us h
  rw [setL]
  refine ih (fun x hx => hv x (by simp [hx])) (o + 1) _ (fun j u hu => ?_)
  by_cases e : o = j
  ·subst e
   by_cases hl : o < us.size
   ·rw [Array.getElem?_setIfInBounds_self_of_lt hl] at hu
    obtain rfl := Option.some.inj hu
    exact hv _ (by simp)
   ·rw [Array.getElem?_eq_none (by simpa using hl)] at hu; cases hu
  ·rw [Array.getElem?_setIfInBounds_ne e] at hu
   exact h j u hu
theorem heap_setCells {b : Nat} {E : TypeId} {f : Nat × Nat} : ∀ (vs : List Value) (o : Nat) (w : World) (us : Array Value), w.heap[b]? = some (.cells us E f) -> (w.setCells b o vs).heap[b]? = some (.cells (setL o vs us) E f)
 | [], _, _, _, h => h
 | v :: r, o, w, us, h => by
  rw [World.setCells, setL]
  refine heap_setCells r (o + 1) _ _ ?_
  unfold World.setCell
  simp [Array.getElem?_modify, h]
theorem size_setCells_ {b : Nat} : ∀ (vs : List Value) (o : Nat) (w : World), (w.setCells b o vs).heap.size = w.heap.size
 | [], _, _ => rfl
 | v :: r, o, w => by rw [World.setCells, size_setCells_ r]; simp [World.setCell]
theorem other_setCells_ {b k : Nat} (h : k ≠ b) : ∀ (vs : List Value) (o : Nat) (w : World), (w.setCells b o vs).heap[k]? = w.heap[k]?
 | [], _, _ => rfl
 | v :: r, o, w => by
  rw [World.setCells, other_setCells_ h r]
  simp [World.setCell, Array.getElem?_modify, Ne.symm h]
theorem rest_setCells_ {b : Nat} : ∀ (vs : List Value) (o : Nat) (w : World), (w.setCells b o vs).os = w.os /\ (w.setCells b o vs).tape = w.tape /\ (w.setCells b o vs).output = w.output
 | [], _, _ => ⟨rfl, rfl, rfl⟩
 | v :: r, o, w => rest_setCells_ r (o + 1) (w.setCell ⟨b, o, none⟩ v)
structure Roads (P : Program) (F : FuncId) (E : TypeId) (sz by_ : Nat) (z : Value) : Prop where
 shift : ∀ (b n c i vb vc : Nat) (cs vs : List Value) (w : World), i < n -> n + 1 <= c -> c <= 9223372036854775807 -> vb ≠ b -> cs.length = n * sz -> vs.length = sz ->
  (∀ j v, cs[j]? = some v -> w.cell? ⟨b, 0 + j, none⟩ = some v) -> (∀ j, j < (n + 1) * sz -> (w.cell? ⟨b, 0 + j, none⟩).isSome = true) -> (∀ j, j < (n + 1) * sz -> w.frozen? ⟨b, 0 + j, none⟩ = false) ->
  (∀ j v, vs[j]? = some v -> w.cell? ⟨vb, 0 + j, none⟩ = some v) -> (∀ v ∈ cs, v.oneCell' = true) -> (∀ v ∈ vs, v.oneCell' = true) ->
  ∀ (tA tB : TypeId) (kA kB : Nat), w.shape? vb = some (tA, kA) -> w.shape? b = some (tB, kB) -> kB ≠ 0 -> w.frozen? ⟨vb, 0, none⟩ = false -> w.frozen? ⟨vb, kA, none⟩ = false ->
  Calls P F #[.slice (some ⟨b, 0, none⟩) n c, .int .i64 i, .slice (some ⟨vb, 0, none⟩) 1 vc] w fun e w' =>
   e = .returned (.slice (some ⟨b, 0, none⟩) (n + 1) c) /\ w' = (w.drew.setCells b (0 + (i + 1) * sz) (cs.drop (i * sz))).setCells b (0 + i * sz) vs
 end_room : ∀ (b n c vb vc : Nat) (vs : List Value) (w : World), n + 1 <= c -> c <= 9223372036854775807 -> vs.length = sz -> (∀ j, j < sz -> (w.cell? ⟨b, 0 + n * sz + j, none⟩).isSome = true) -> (∀ j, j < sz -> w.frozen? ⟨b, 0 + n * sz + j, none⟩ = false) ->
  (∀ j v, vs[j]? = some v -> w.cell? ⟨vb, 0 + j, none⟩ = some v) -> (∀ v ∈ vs, v.oneCell' = true) ->
  Calls P F #[.slice (some ⟨b, 0, none⟩) n c, .int .i64 n, .slice (some ⟨vb, 0, none⟩) 1 vc] w fun e w' =>
   e = .returned (.slice (some ⟨b, 0, none⟩) (n + 1) c) /\ w' = w.setCells b (0 + n * sz) vs
 end_grow : ∀ (base : Option Addr) (n c vb vc : Nat) (cs vs : List Value) (w : World), n <= c -> c < n + 1 -> (n + 1) * by_ <= 140737488355328 -> cs.length = n * sz -> vs.length = sz -> (base = none -> n = 0) ->
  (∀ a, base = some a -> ∀ j v, cs[j]? = some v -> w.cell? (a.add j) = some v) -> (∀ j v, vs[j]? = some v -> w.cell? ⟨vb, 0 + j, none⟩ = some v) -> (∀ v ∈ vs, v.oneCell' = true) ->
  Calls P F #[.slice base n c, .int .i64 n, .slice (some ⟨vb, 0, none⟩) 1 vc] w fun e w' =>
   e = .returned (.slice (some ⟨w.heap.size, 0, none⟩) (n + 1) (grownCap w (n + 1) c E)) /\
   w' = w.drew.alloc (.cells ((cs ++ vs).toArray ++ Builtin.zeroCells z.cells (grownCap w (n + 1) c E - (n + 1))) E)
 grow : ∀ (b n c i vb vc : Nat) (cs vs : List Value) (w : World), i < n -> n <= c -> c < n + 1 -> (n + 1) * by_ <= 140737488355328 -> cs.length = n * sz -> vs.length = sz ->
  (∀ j v, cs[j]? = some v -> w.cell? ⟨b, 0 + j, none⟩ = some v) -> (∀ j v, vs[j]? = some v -> w.cell? ⟨vb, 0 + j, none⟩ = some v) -> (∀ v ∈ cs, v.oneCell' = true) -> (∀ v ∈ vs, v.oneCell' = true) ->
  Calls P F #[.slice (some ⟨b, 0, none⟩) n c, .int .i64 i, .slice (some ⟨vb, 0, none⟩) 1 vc] w fun e w' =>
   e = .returned (.slice (some ⟨w.heap.size, 0, none⟩) (n + 1) (grownCap w (n + 1) c E)) /\
   w' = (((w.alloc (.cells ((cs.take (i * sz)).toArray ++ Builtin.zeroCells z.cells (n + 1 - i) ++ Builtin.zeroCells z.cells (grownCap w (n + 1) c E - (n + 1))) E)).drew.setCells w.heap.size (i * sz) vs).drew).setCells w.heap.size ((i + 1) * sz) (cs.drop (i * sz))
theorem insS_roads : Roads Tryd.prog 40 9 1 16 (.string ⟨#[]⟩) := by
 refine ⟨fun b n c i vb vc cs vs w h1 h2 h3 h4 h5 h6 h7 h8 h9 h10 h11 h12 tA tB kA kB h13 h14 h15 h16 h17 => ?_, fun b n c vb vc vs w h1 h2 h3 h4 h5 h6 h7 => ?_, fun base n c vb vc cs vs w h1 h2 h3 h4 h5 h6 h7 h8 h9 => ?_, fun b n c i vb vc cs vs w h1 h2 h3 h4 h5 h6 h7 h8 h9 h10 => ?_⟩ <;> (try simp only [Nat.mul_one] at *)
 ·exact insS_shift b 0 n c i vb 0 1 vc cs vs w h1 (by omega) h2 h3 h4 h5 h6 h7 h8 h9 h10 h11 h12 tA tB kA kB h13 h14 h15 h16 h17
 ·exact insS_end_room b 0 n c vb 0 1 vc vs w (by omega) h1 h2 h3 h4 h5 h6 h7
 ·exact insS_end_grow base n c vb 0 1 vc cs vs w (by omega) h1 h2 (by omega) h4 h5 h6 h7 h8 h9
 ·exact insS_grow b 0 n c i vb 0 1 vc cs vs w h1 (by omega) h2 h3 (by omega) h5 h6 h7 h8 h9 h10
theorem insV_roads : Roads Tryd.prog 41 26 6 88 (.agg #[.int .i64 0, .bool false, .int .i64 0, .string ⟨#[]⟩, .slice none 0 0, .slice none 0 0]) := by
 refine ⟨fun b n c i vb vc cs vs w h1 h2 h3 h4 h5 h6 h7 h8 h9 h10 h11 h12 tA tB kA kB h13 h14 h15 h16 h17 => ?_, fun b n c vb vc vs w h1 h2 h3 h4 h5 h6 h7 => ?_, fun base n c vb vc cs vs w h1 h2 h3 h4 h5 h6 h7 h8 h9 => ?_, fun b n c i vb vc cs vs w h1 h2 h3 h4 h5 h6 h7 h8 h9 h10 => ?_⟩
 ·exact insV_shift b 0 n c i vb 0 1 vc cs vs w h1 (by omega) h2 h3 h4 h5 (by omega) h7 h8 h9 h10 h11 h12 tA tB kA kB h13 h14 h15 h16 h17
 ·exact insV_end_room b 0 n c vb 0 1 vc vs w (by omega) h1 h2 (by omega) h4 h5 h6 h7
 ·exact insV_end_grow base n c vb 0 1 vc cs vs w (by omega) h1 h2 (by omega) h4 (by omega) h6 h7 h8 h9
 ·exact insV_grow b 0 n c i vb 0 1 vc cs vs w h1 (by omega) h2 h3 (by omega) h5 (by omega) h7 h8 h9 h10
structure InsDid (E : TypeId) (sz : Nat) (w : World) (base : Option Nat) (n i : Nat) (us uv : Array Value) (b' c' : Nat) (us' : Array Value) (w' : World) : Prop where
 room : n + 1 <= c'
 small : c' <= maxLen
 row : w'.heap[b']? = some (.cells us' E (0, 0))
 size : us'.size = c' * sz
 front : ∀ j, j < i * sz -> us'[j]? = us[j]?
 mid : ∀ j, j < sz -> us'[i * sz + j]? = uv[j]?
 back : ∀ j, i * sz <= j -> j < n * sz -> us'[j + sz]? = us[j]?
 one : ∀ (j : Nat) (u : Value), us'[j]? = some u -> u.oneCell' = true
 place : base = some b' ∨ b' = w.heap.size
 os : w'.os = w.os
 tape : w'.tape = w.tape
 output : w'.output = w.output
 grew : w.heap.size <= w'.heap.size
 other : ∀ k, k < w.heap.size -> base ≠ some k -> w'.heap[k]? = w.heap[k]?
theorem zero_one {z : Value} (hz : ∀ u ∈ z.cells.toList, u.oneCell' = true) (n : Nat) : ∀ (j : Nat) (u : Value), (Builtin.zeroCells z.cells n)[j]? = some u -> u.oneCell' = true := by
 intro j u h
 have hm : u ∈ (Builtin.zeroCells z.cells n) := Array.mem_of_getElem? h
 unfold Builtin.zeroCells at hm
 obtain ⟨i, hi, rfl⟩ := Array.mem_map.1 hm
 have hi : i < n * z.cells.size := Array.mem_range.1 hi
 have hp : 0 < z.cells.size := by
  rcases Nat.eq_zero_or_pos z.cells.size with h | h
  ·rw [h] at hi; simp at hi
  ·exact h
 have hl : i % z.cells.size < z.cells.size := Nat.mod_lt _ hp
 rw [getElem!_pos z.cells _ hl]
 exact hz _ (by simp)
theorem zero_size {z : Value} {sz : Nat} (hz : z.cells.size = sz) (n : Nat) : (Builtin.zeroCells z.cells n).size = n * sz := by
 unfold Builtin.zeroCells
 simp [hz]
set_option maxHeartbeats 1000000 in
theorem Roads.ins {P : Program} {F : FuncId} {E : TypeId} {sz by_ : Nat} {z : Value} (R : Roads P F E sz by_ z) (hzs : z.cells.size = sz) (hz1 : ∀ u ∈ z.cells.toList, u.oneCell' = true) (hsz : 0 < sz) (w : World) (base : Option Nat) (n c i vb vc : Nat) (us uv : Array Value)
  (hi : i <= n) (hn : n <= c) (hc : c <= maxLen) (hbig : (n + 1) * by_ <= 140737488355328) (hn63 : n + 1 <= maxLen) (hus : us.size = c * sz) (hnone : base = none -> c = 0) (hb : ∀ b, base = some b -> w.heap[b]? = some (.cells us E (0, 0)) /\ vb ≠ b)
  (h1 : ∀ (j : Nat) (u : Value), us[j]? = some u -> u.oneCell' = true) (hv : 1 <= vc) (hvb : w.heap[vb]? = some (.cells uv E (0, 0))) (hvs : uv.size = vc * sz) (hv1 : ∀ (j : Nat) (u : Value), j < sz -> uv[j]? = some u -> u.oneCell' = true) :
  Calls P F #[.slice (base.map fun b => ⟨b, 0, none⟩) n c, .int .i64 i, .slice (some ⟨vb, 0, none⟩) 1 vc] w fun e w' => ∃ b' c' us', e = .returned (.slice (some ⟨b', 0, none⟩) (n + 1) c') /\ InsDid E sz w base n i us uv b' c' us' w' := by
 have hsv : sz <= uv.size := by rw [hvs]; exact Nat.le_mul_of_pos_left sz hv
 have hnz : n * sz <= us.size := by rw [hus]; exact Nat.mul_le_mul_right _ hn
 have hiz : i * sz <= n * sz := Nat.mul_le_mul_right _ hi
 have hn1 : (n + 1) * sz = n * sz + sz := Nat.succ_mul _ _
 have hi1 : (i + 1) * sz = i * sz + sz := Nat.succ_mul _ _
 have hcl : (us.toList.take (n * sz)).length = n * sz := by rw [List.length_take]; simp; omega
 have hvl : (uv.toList.take sz).length = sz := by rw [List.length_take]; simp; omega
 have hcget : ∀ j v, (us.toList.take (n * sz))[j]? = some v -> us[j]? = some v := fun j v h => by
  rw [List.getElem?_take] at h
  split at h
  ·simpa using h
  ·cases h
 have hvget : ∀ j v, (uv.toList.take sz)[j]? = some v -> uv[j]? = some v := fun j v h => by
  rw [List.getElem?_take] at h
  split at h
  ·simpa using h
  ·cases h
 have hcone : ∀ v ∈ us.toList.take (n * sz), v.oneCell' = true := fun v hv => by
  obtain ⟨j, hj⟩ := List.mem_iff_getElem?.1 hv
  exact h1 j v (hcget j v hj)
 have hvone : ∀ v ∈ uv.toList.take sz, v.oneCell' = true := fun v hv => by
  obtain ⟨j, hj⟩ := List.mem_iff_getElem?.1 hv
  exact hv1 j v (by have := (List.getElem?_eq_some_iff.1 hj).1; rw [hvl] at this; exact this) (hvget j v hj)
 have hvcell : ∀ j v, (uv.toList.take sz)[j]? = some v -> w.cell? ⟨vb, 0 + j, none⟩ = some v := fun j v h => by
  rw [Nat.zero_add, Lib.cell_of_heap hvb]; exact hvget j v h
 have hvbl : vb < w.heap.size := (Array.getElem?_eq_some_iff.1 hvb).1
 have hmax : maxLen = 9223372036854775807 := rfl
 have hget : ∀ j, j < sz -> (uv.toList.take sz)[j]? = uv[j]? := fun j hj => by rw [List.getElem?_take, if_pos hj]; simp
 cases base with
 | none =>
  have hc0 := hnone rfl
  subst hc0
  have hn0 : n = 0 := by omega
  subst hn0
  have hi0 : i = 0 := by omega
  subst hi0
  refine (R.end_grow none 0 0 vb vc (us.toList.take (0 * sz)) (uv.toList.take sz) w (Nat.le_refl _) (by omega) hbig hcl hvl (fun _ => rfl) (fun a ha => by cases ha) hvcell hvone).mono ?_
  rintro e w' ⟨rfl, rfl⟩
  have hg := grownCap_ge w (0 + 1) 0 E
  have hgm := grownCap_le_maxLen w (0 + 1) 0 E (by omega)
  refine ⟨w.heap.size, _, _, rfl, hg, hgm, heap_alloc_at (w := w.drew) _, ?_, fun j hj => by omega, fun j hj => ?_, fun j _ hj => by omega, fun j u hu => ?_, .inr rfl, rfl, rfl, rfl, (by show w.heap.size <= (w.heap.push _).size; simp), fun k hk _ => ?_⟩
  ·simp only [Array.size_append, List.size_toArray, List.length_append, hcl, hvl, zero_size hzs]
   rw [<- hn1, <- Nat.add_mul]
   congr 1
   omega
  ·rw [Array.getElem?_append_left (by simp [hcl, hvl]; omega), <- hget j hj]
   simp
  ·rw [Array.getElem?_append] at hu
   split at hu
   ·have : u ∈ us.toList.take (0 * sz) ++ uv.toList.take sz := List.mem_of_getElem? (by simpa using hu)
    rcases List.mem_append.1 this with h | h
    ·exact hcone u h
    ·exact hvone u h
   ·exact zero_one hz1 _ _ u hu
  ·show (w.heap.push _)[k]? = _
   rw [Array.getElem?_push, if_neg (by omega)]
 | some b =>
  obtain ⟨hbw, hne⟩ := hb b rfl
  have hbl : b < w.heap.size := (Array.getElem?_eq_some_iff.1 hbw).1
  have hccell : ∀ j v, (us.toList.take (n * sz))[j]? = some v -> w.cell? ⟨b, 0 + j, none⟩ = some v := fun j v h => by
   rw [Nat.zero_add, Lib.cell_of_heap hbw]; exact hcget j v h
  have hsome : ∀ j, j < us.size -> (w.cell? ⟨b, j, none⟩).isSome = true := fun j hj => by
   rw [Lib.cell_of_heap hbw, Array.getElem?_eq_getElem hj]; rfl
  have hfz : ∀ j, w.frozen? ⟨b, j, none⟩ = false := fun j => by simp [World.frozen?, hbw]
  have hfv : ∀ j, w.frozen? ⟨vb, j, none⟩ = false := fun j => by simp [World.frozen?, hvb]
  by_cases hroom : n + 1 <= c
  ·have hrz : (n + 1) * sz <= us.size := by rw [hus]; exact Nat.mul_le_mul_right _ hroom
   by_cases hin : i < n
   ·refine (R.shift b n c i vb vc (us.toList.take (n * sz)) (uv.toList.take sz) w hin hroom (by omega) hne hcl hvl hccell (fun j hj => by rw [Nat.zero_add]; exact hsome j (by omega)) (fun j _ => hfz _) hvcell hcone hvone E E uv.size us.size
     (by simp [World.shape?, hvb]) (by simp [World.shape?, hbw]) (by omega) (hfv _) (hfv _)).mono ?_
    rintro e w' ⟨rfl, rfl⟩
    simp only [Nat.zero_add]
    have hdl : ((us.toList.take (n * sz)).drop (i * sz)).length = n * sz - i * sz := by rw [List.length_drop, hcl]
    have hw1 := heap_setCells (b := b) (E := E) (f := (0, 0)) ((us.toList.take (n * sz)).drop (i * sz)) ((i + 1) * sz) w.drew us hbw
    have hw2 := heap_setCells (uv.toList.take sz) (i * sz) _ _ hw1
    have r1 := rest_setCells_ (b := b) (uv.toList.take sz) (i * sz) (w.drew.setCells b ((i + 1) * sz) ((us.toList.take (n * sz)).drop (i * sz)))
    have r2 := rest_setCells_ (b := b) ((us.toList.take (n * sz)).drop (i * sz)) ((i + 1) * sz) w.drew
    refine ⟨b, c, _, rfl, hroom, hc, hw2, by rw [setL_size, setL_size, hus], fun j hj => ?_, fun j hj => ?_, fun j hj hj' => ?_, setL_one hvone _ _ (setL_one (fun v hv => hcone v (List.mem_of_mem_drop hv)) _ _ h1), .inl rfl, r1.1.trans r2.1, r1.2.1.trans r2.2.1, r1.2.2.trans r2.2.2, by rw [size_setCells_, size_setCells_]; exact Nat.le_refl _, fun k hk hkb => ?_⟩
    ·rw [setL_out _ _ _ _ (by omega), setL_out _ _ _ _ (by omega)]
    ·rw [setL_in _ _ _ _ (by omega) (by rw [setL_size]; omega), hget j hj]
    ·rw [setL_out _ _ _ _ (by rw [hvl]; omega), show j + sz = (i + 1) * sz + (j - i * sz) by omega, setL_in _ _ _ _ (by omega) (by omega), List.getElem?_drop, List.getElem?_take, if_pos (by omega), show i * sz + (j - i * sz) = j by omega]
     simp
    ·rw [other_setCells_ (fun e => hkb (by rw [e])), other_setCells_ (fun e => hkb (by rw [e]))]; rfl
   ·have hin : i = n := by omega
    subst hin
    refine (R.end_room b i c vb vc (uv.toList.take sz) w hroom (by omega) hvl (fun j hj => by rw [Nat.zero_add]; exact hsome _ (by omega)) (fun j _ => hfz _) hvcell hvone).mono ?_
    rintro e w' ⟨rfl, rfl⟩
    simp only [Nat.zero_add]
    have hw1 := heap_setCells (b := b) (E := E) (f := (0, 0)) (uv.toList.take sz) (i * sz) w us hbw
    have r1 := rest_setCells_ (b := b) (uv.toList.take sz) (i * sz) w
    refine ⟨b, c, _, rfl, hroom, hc, hw1, by rw [setL_size, hus], fun j hj => ?_, fun j hj => ?_, fun j hj hj' => by omega, setL_one hvone _ _ h1, .inl rfl, r1.1, r1.2.1, r1.2.2, by rw [size_setCells_]; exact Nat.le_refl _, fun k hk hkb => ?_⟩
    ·rw [setL_out _ _ _ _ (by omega)]
    ·rw [setL_in _ _ _ _ (by omega) (by omega), hget j hj]
    ·rw [other_setCells_ (fun e => hkb (by rw [e]))]
  ·have hg := grownCap_ge w (n + 1) c E
   have hgm := grownCap_le_maxLen w (n + 1) c E (by omega)
   by_cases hin : i < n
   ·refine (R.grow b n c i vb vc (us.toList.take (n * sz)) (uv.toList.take sz) w hin hn (by omega) hbig hcl hvl hccell hvcell hcone hvone).mono ?_
    rintro e w' ⟨rfl, rfl⟩
    have hdl : ((us.toList.take (n * sz)).drop (i * sz)).length = n * sz - i * sz := by rw [List.length_drop, hcl]
    have htl : ((us.toList.take (n * sz)).take (i * sz)).length = i * sz := by rw [List.length_take, hcl]; omega
    have h0 : ∀ (o : Array Value), (w.alloc (.cells o E)).drew.heap[w.heap.size]? = some (.cells o E (0, 0)) := fun o => heap_alloc_at (w := w) _
    have hw1 := heap_setCells (uv.toList.take sz) (i * sz) _ _ (h0 (((us.toList.take (n * sz)).take (i * sz)).toArray ++ Builtin.zeroCells z.cells (n + 1 - i) ++ Builtin.zeroCells z.cells (grownCap w (n + 1) c E - (n + 1))))
    have hw2 := heap_setCells ((us.toList.take (n * sz)).drop (i * sz)) ((i + 1) * sz) (World.drew _) _ hw1
    have hrs : (((us.toList.take (n * sz)).take (i * sz)).toArray ++ Builtin.zeroCells z.cells (n + 1 - i) ++ Builtin.zeroCells z.cells (grownCap w (n + 1) c E - (n + 1))).size = grownCap w (n + 1) c E * sz := by
     simp only [Array.size_append, List.size_toArray, htl, zero_size hzs]
     rw [<- Nat.add_mul, <- Nat.add_mul]
     congr 1
     omega
    have hgz : (n + 1) * sz <= grownCap w (n + 1) c E * sz := Nat.mul_le_mul_right _ hg
    have hro : ∀ (j : Nat) (u : Value), (((us.toList.take (n * sz)).take (i * sz)).toArray ++ Builtin.zeroCells z.cells (n + 1 - i) ++ Builtin.zeroCells z.cells (grownCap w (n + 1) c E - (n + 1)))[j]? = some u -> u.oneCell' = true := by
     intro j u hu
     rw [Array.getElem?_append] at hu
     split at hu
     ·rw [Array.getElem?_append] at hu
      split at hu
      ·exact hcone u (List.mem_of_mem_take (List.mem_of_getElem? (by simpa using hu)))
      ·exact zero_one hz1 _ _ u hu
     ·exact zero_one hz1 _ _ u hu
    have hrg : ∀ j, j < i * sz -> (((us.toList.take (n * sz)).take (i * sz)).toArray ++ Builtin.zeroCells z.cells (n + 1 - i) ++ Builtin.zeroCells z.cells (grownCap w (n + 1) c E - (n + 1)))[j]? = us[j]? := by
     intro j hj
     rw [Array.getElem?_append_left (by simp only [Array.size_append, List.size_toArray, htl]; omega), Array.getElem?_append_left (by simp only [List.size_toArray, htl]; exact hj)]
     rw [List.getElem?_toArray, List.getElem?_take, if_pos hj, List.getElem?_take, if_pos (by omega)]
     simp
    generalize (((us.toList.take (n * sz)).take (i * sz)).toArray ++ Builtin.zeroCells z.cells (n + 1 - i) ++ Builtin.zeroCells z.cells (grownCap w (n + 1) c E - (n + 1))) = ROW at *
    have r1 := rest_setCells_ (b := w.heap.size) (uv.toList.take sz) (i * sz) (w.alloc (.cells ROW E)).drew
    have r2 := rest_setCells_ (b := w.heap.size) ((us.toList.take (n * sz)).drop (i * sz)) ((i + 1) * sz) (((w.alloc (.cells ROW E)).drew.setCells w.heap.size (i * sz) (uv.toList.take sz)).drew)
    refine ⟨w.heap.size, _, _, rfl, hg, hgm, hw2, by rw [setL_size, setL_size, hrs], fun j hj => ?_, fun j hj => ?_, fun j hj hj' => ?_, setL_one (fun v hv => hcone v (List.mem_of_mem_drop hv)) _ _ (setL_one hvone _ _ hro), .inr rfl, r2.1.trans r1.1, r2.2.1.trans r1.2.1, r2.2.2.trans r1.2.2, ?_, fun k hk hkb => ?_⟩
    ·rw [setL_out _ _ _ _ (by omega), setL_out _ _ _ _ (by omega), hrg j hj]
    ·rw [setL_out _ _ _ _ (by omega), setL_in _ _ _ _ (by omega) (by omega), hget j hj]
    ·rw [show j + sz = (i + 1) * sz + (j - i * sz) by omega, setL_in _ _ _ _ (by omega) (by rw [setL_size]; omega), List.getElem?_drop, List.getElem?_take, if_pos (by omega), show i * sz + (j - i * sz) = j by omega]
     simp
    ·rw [size_setCells_]
     show w.heap.size <= (World.setCells _ _ _ _).heap.size
     rw [size_setCells_]
     show w.heap.size <= (w.heap.push _).size
     simp
    ·rw [other_setCells_ (by omega)]
     show (World.setCells _ _ _ _).heap[k]? = _
     rw [other_setCells_ (by omega)]
     show (w.heap.push _)[k]? = _
     rw [Array.getElem?_push, if_neg (by omega)]
   ·have hin : i = n := by omega
    subst hin
    refine (R.end_grow (some ⟨b, 0, none⟩) i c vb vc (us.toList.take (i * sz)) (uv.toList.take sz) w hn (by omega) hbig hcl hvl (fun h => by cases h) (fun a ha j v hj => by
     obtain rfl := Option.some.inj ha
     rw [Addr.add_lit]; exact hccell j v hj) hvcell hvone).mono ?_
    rintro e w' ⟨rfl, rfl⟩
    refine ⟨w.heap.size, _, _, rfl, hg, hgm, heap_alloc_at (w := w.drew) _, ?_, fun j hj => ?_, fun j hj => ?_, fun j _ hj => by omega, fun j u hu => ?_, .inr rfl, rfl, rfl, rfl, (by show w.heap.size <= (w.heap.push _).size; simp), fun k hk _ => ?_⟩
    ·simp only [Array.size_append, List.size_toArray, List.length_append, hcl, hvl, zero_size hzs]
     rw [<- hn1, <- Nat.add_mul]
     congr 1
     omega
    ·rw [Array.getElem?_append_left (by simp [hcl, hvl]; omega)]
     rw [List.getElem?_toArray, List.getElem?_append_left (by omega), List.getElem?_take, if_pos (by omega)]
     simp
    ·rw [Array.getElem?_append_left (by simp [hcl, hvl]; omega)]
     rw [List.getElem?_toArray, List.getElem?_append_right (by omega), hcl, Nat.add_sub_cancel_left, hget j hj]
    ·rw [Array.getElem?_append] at hu
     split at hu
     ·have : u ∈ us.toList.take (i * sz) ++ uv.toList.take sz := List.mem_of_getElem? (by simpa using hu)
      rcases List.mem_append.1 this with h | h
      ·exact hcone u h
      ·exact hvone u h
     ·exact zero_one hz1 _ _ u hu
    ·show (w.heap.push _)[k]? = _
     rw [Array.getElem?_push, if_neg (by omega)]
end Go.Proofs.YtcgmpcbkndpmbaaDoor

end
section
open Go Go.Proofs Go.RowKit Go.Lib Go.Pw
namespace Go.Proofs.YtcgmpcbkndpmbaaDoor
set_option maxRecDepth 4000
set_option linter.unusedVariables false
set_option linter.unusedSimpArgs false
def insArg (base : Option Nat) (n c : Nat) : PV :=
 match base with
 | none => vNil
 | some id => .ms id 0 n c
theorem Rel.put_row {own : Nat -> Prop} {S0 : Base} {w0 w w' : World} {C : Cx} {st : PS} (R : Rel own S0 w0 C (· < st.nx) (· < st.nt) st w) {E : TypeId} {sz n i b' c' : Nat} {us uv us' : Array Value} (base : Option Nat)
  (hbase : ∀ id, base = some id -> ∃ t cs, lkp st.heap id = some (.box t cs)) (D : InsDid E sz w (base.map C.ρ) n i us uv b' c' us' w') (heap' : List (Nat × PObj)) (hh : ∀ j o, lkp heap' j = some o -> lkp st.heap j = some o /\ base ≠ some j)
  (cs : List PV) (hr : RepL C st.toks (· < st.nx) (· < st.nt) us'.toList cs) :
  Rel own S0 w0 (C.at st.nx b') (· < st.nx + 1) (· < st.nt) { st with heap := (st.nx, .box E cs) :: heap', nx := st.nx + 1 } w' := by
 have X := R.ext_at b' st.nx (Nat.lt_irrefl _) (U' := (· < st.nx + 1)) (fun j hj => Nat.lt_succ_of_lt hj)
 have hnew : (C.at st.nx b').ρ st.nx = b' := by simp [Cx.at]
 have hρ : ∀ j o, lkp heap' j = some o -> (C.at st.nx b').ρ j = C.ρ j := fun j o h => by
  have := (R.hown j o (hh j o h).1).1
  simp only [Cx.at]
  rw [if_neg (by omega)]
 have hnewb : b' < w'.heap.size := (Array.getElem?_eq_some_iff.1 D.row).1
 have place : (∃ id t us0, base = some id /\ lkp st.heap id = some (.box t us0) /\ b' = C.ρ id) ∨ b' = w.heap.size := by
  rcases D.place with h | h
  ·cases hb : base with
   | none => rw [hb] at h; cases h
   | some id =>
    obtain ⟨t, cs, ho⟩ := hbase id hb
    rw [hb] at h
    exact .inl ⟨id, t, cs, rfl, ho, (Option.some.inj h).symm⟩
  ·exact .inr h
 have lt : ∀ {b : Nat} {x : Obj}, w.heap[b]? = some x -> b < w.heap.size := fun h => (Array.getElem?_eq_some_iff.1 h).1
 have keep : ∀ k, k < w.heap.size -> (∀ id, base = some id -> k ≠ C.ρ id) -> w'.heap[k]? = w.heap[k]? := fun k hk hn => D.other k hk (fun e => by
  cases hb : base with
  | none => rw [hb] at e; cases e
  | some id => rw [hb] at e; exact hn id hb (Option.some.inj e).symm)
 have hfree : ∀ o, C.S b' o = none := fun o => by
  rcases place with ⟨id, t, cs, _, ho, rfl⟩ | rfl
  ·exact (R.hown id _ ho).2.2.2 o
  ·exact R.fresh o
 refine ⟨⟨D.os.trans R.frame.os, D.tape.trans R.frame.tape, D.output.trans R.frame.output, Nat.le_trans R.frame.size D.grew, fun k hk hn => ?_⟩, fun b o v h => ?_, ?_, ?_, ?_, ?_, ?_, ?_, R.tinj, R.snew, R.sold, R.base.trans X, R.glob⟩
 ·rw [keep k (Nat.lt_of_lt_of_le hk R.frame.size) (fun id hb e => ?_)]
  ·exact R.frame.block k hk hn
  ·obtain ⟨t, cs, ho⟩ := hbase id hb
   rcases (R.hown id _ ho).2.2.1 with h | h
   ·rw [<- e] at h; exact hn h
   ·omega
 ·have h1 := R.stable b o v h
  have hlt : b < w.heap.size := by
   rcases Nat.lt_or_ge b w.heap.size with h' | h'
   ·exact h'
   ·simp [World.cell?, Array.getElem?_eq_none h'] at h1
  have hk := keep b hlt (fun id hb e => by
   obtain ⟨t, cs, ho⟩ := hbase id hb
   have h2 : C.S b o = some v := h
   have := (R.hown id _ ho).2.2.2 o
   rw [<- e, h2] at this
   cases this)
  exact (World.cell?_of_block hk).trans h1
 ·intro j T cs' h
  simp only [lkp_cons] at h
  split at h
  ·rename_i e
   subst e
   obtain ⟨rfl, rfl⟩ := PObj.box.inj (Option.some.inj h)
   refine ⟨us', by rw [hnew]; exact D.row, by simpa using hr.1, fun k v p hv hp => ?_⟩
   have := hr.2 k v p (by simpa using hv) hp
   exact ⟨this.1, this.2.ext X⟩
  ·obtain ⟨h0, hne⟩ := hh j _ h
   obtain ⟨vs, h1, h2, h3⟩ := R.box j T cs' h0
   refine ⟨vs, ?_, h2, fun i v p hv hp => ⟨(h3 i v p hv hp).1, (h3 i v p hv hp).2.ext X⟩⟩
   rw [hρ j _ h, keep _ (lt h1) (fun id hb e => ?_)]
   ·exact h1
   ·obtain ⟨t, cs, ho⟩ := hbase id hb
    exact hne (by rw [hb, R.hinj j id _ _ h0 ho e])
 ·intro j s pos h
  simp only [lkp_cons] at h
  split at h
  ·cases h
  ·obtain ⟨h0, hne⟩ := hh j _ h
   have h1 := R.iter j s pos h0
   rw [hρ j _ h, keep _ (lt h1) (fun id hb e => ?_)]
   ·exact h1
   ·obtain ⟨t, cs, ho⟩ := hbase id hb
    exact hne (by rw [hb, R.hinj j id _ _ h0 ho e])
 ·intro j o h
  simp only [lkp_cons] at h
  split at h
  ·rename_i e
   subst e
   rw [hnew]
   refine ⟨Nat.lt_succ_self _, hnewb, ?_, hfree⟩
   rcases place with ⟨id, t, cs, _, ho, rfl⟩ | rfl
   ·exact (R.hown id _ ho).2.2.1
   ·exact .inr R.frame.size
  ·obtain ⟨h0, _⟩ := hh j _ h
   obtain ⟨h1, h2, h3, h4⟩ := R.hown j o h0
   rw [hρ j _ h]
   exact ⟨Nat.lt_succ_of_lt h1, Nat.lt_of_lt_of_le h2 D.grew, h3, h4⟩
 ·have apart : ∀ j o, lkp heap' j = some o -> C.ρ j ≠ b' := fun j o h e => by
   obtain ⟨h0, hne⟩ := hh j o h
   rcases place with ⟨id, t, cs, hb, ho, rfl⟩ | rfl
   ·exact hne (by rw [hb, R.hinj j id _ _ h0 ho e])
   ·have := (R.hown j o h0).2.1; omega
  intro j k oj ok h1 h2 he
  simp only [lkp_cons] at h1 h2
  split at h1 <;> split at h2
  ·rename_i e1 e2
   rw [e1, e2]
  ·rename_i e1 e2
   subst e1
   rw [hnew, hρ k _ h2] at he
   exact absurd he.symm (apart k _ h2)
  ·rename_i e1 e2
   subst e2
   rw [hnew, hρ j _ h1] at he
   exact absurd he (apart j _ h1)
  ·rw [hρ j _ h1, hρ k _ h2] at he
   exact R.hinj j k oj ok (hh j _ h1).1 (hh k _ h2).1 he
 ·intro k t h
  obtain ⟨h1, h2, ⟨vs, h3, h4⟩, h5⟩ := R.tok k t h
  refine ⟨h1, h2, ⟨vs, ?_, h4⟩, h5⟩
  show w'.heap[(C.τ k).1]? = _
  rw [keep _ (lt h3) (fun id hb e => ?_)]
  ·exact h3
  ·obtain ⟨t', cs, ho⟩ := hbase id hb
   exact R.tbox id _ k t ho h e.symm
 ·intro j oj k t h1 h2
  simp only [lkp_cons] at h1
  split at h1
  ·rename_i e
   subst e
   rw [hnew]
   rcases place with ⟨id, t', cs, hb, ho, rfl⟩ | rfl
   ·exact R.tbox id _ k t ho h2
   ·obtain ⟨_, _, ⟨vs, h3, _⟩, _⟩ := R.tok k t h2
    have := lt h3
    show w.heap.size ≠ (C.τ k).1
    omega
  ·rw [hρ j _ h1]
   exact R.tbox j oj k t (hh j _ h1).1 h2
theorem ltL_val : ∀ (l : List Value) (a b : Nat), PV.ltL a b (l.map .val) = true
 | [], _, _ => rfl
 | v :: r, a, b => by rw [List.map_cons, PV.ltL, ltL_val r a b]; rfl
theorem OkI.insert {P : Program} {F : FuncId} {E : TypeId} {sz by_ : Nat} {z : Value} (hent : enters P F = true) (RR : Roads P F E sz by_ z) (hzs : z.cells.size = sz) (hz1 : ∀ u ∈ z.cells.toList, u.oneCell' = true) (hsz : 0 < sz)
  {st : PS} {tk : Nat} {x : List PV} (hx : x.length = sz) (ht : lkp st.toks tk = some ⟨E, sz, 1⟩) (base : Option Nat) (n c i : Nat) (cs rest : List PV) (hcs : cs.length = n * sz) (hrest : rest.length = (c - n) * sz) (hi : i <= n) (hn : n <= c) (hc : c <= maxLen) (hn1 : (n + 1) * by_ <= 140737488355328) (hn63 : n + 1 <= maxLen)
  (h0 : base = none -> c = 0) (hb : ∀ id, base = some id -> lkp st.heap id = some (.box E (cs ++ rest))) (heap' : List (Nat × PObj)) (hh : ∀ j o, lkp heap' j = some o -> lkp st.heap j = some o /\ base ≠ some j) :
  OkI P F [insArg base n c, vI i, .row tk [x]] st (fun r st' => ∃ c' rest', n + 1 <= c' /\ c' <= maxLen /\ rest'.length = (c' - (n + 1)) * sz /\ (∀ a b, PV.ltL a b rest' = true) /\ r = .ms st.nx 0 (n + 1) c' /\
   st' = { st with heap := (st.nx, .box E (cs.take (i * sz) ++ x ++ cs.drop (i * sz) ++ rest')) :: heap', nx := st.nx + 1 }) := by
 refine ⟨hent, fun own S0 w0 w C vals R hsv hrep => ?_⟩
 obtain ⟨v0, v1, v2, rfl⟩ : ∃ v0 v1 v2, vals = #[v0, v1, v2] := by
  cases vals with
  | mk l => match l, hsv with
   | [a, b, c], _ => exact ⟨a, b, c, rfl⟩
 have r0 := hrep 0 v0 _ rfl rfl
 obtain ⟨rfl, _⟩ := rep_val (hrep 1 v1 _ rfl rfl)
 have r2 := hrep 2 v2 _ rfl rfl
 cases r2 with
 | frz h => cases h
 | row h hk htk =>
 obtain ⟨g1, g2, g3⟩ := htk _ ht
 obtain rfl := g3 rfl
 obtain ⟨t1, t2, ⟨uv, t3, t4⟩, t5, t6, t7⟩ := R.tok tk _ ht
 have hvb : w.heap[(C.τ tk).1]? = some (.cells uv E (0, 0)) := t3
 have hvs : uv.size = (C.τ tk).2 * sz := t4
 have hv1 : 1 <= (C.τ tk).2 := t5
 have hcell : ∀ j, j < sz -> ∃ u p, uv[j]? = some u /\ x[j]? = some p /\ RepF C.S u p := by
  cases h with
  | sl f hn' hc' hsz' hA hr =>
   obtain ⟨b, o, e, hS⟩ := hA (by simp)
   obtain ⟨rfl, rfl⟩ : (C.τ tk).1 = b /\ 0 = o := by
    have := Option.some.inj e
    exact ⟨congrArg Addr.block this, congrArg Addr.off this⟩
   rename_i sz'
   have hsz2 : sz' = sz := by rw [<- hsz' x (by simp), hx]
   subst hsz2
   intro j hj
   have h1 := hS 0 j (by simp) hj
   have h2 := R.stable _ _ _ h1
   have hp : x[j]? = some (x[j]'(by omega)) := List.getElem?_eq_getElem (by omega)
   refine ⟨f 0 j, _, ?_, hp, hr 0 j x _ rfl hp⟩
   rw [Lib.cell_of_heap hvb] at h2
   rw [<- h2]
   congr 1
   omega
 have hbase : ∀ id, base = some id -> ∃ t cs, lkp st.heap id = some (.box t cs) := fun id h => ⟨_, _, hb id h⟩
 obtain ⟨us, hus, husz, hus1, husr⟩ : ∃ us : Array Value, us.size = c * sz /\ (∀ b, base.map C.ρ = some b -> w.heap[b]? = some (.cells us E (0, 0)) /\ (C.τ tk).1 ≠ b) /\ (∀ (j : Nat) (u : Value), us[j]? = some u -> u.oneCell' = true) /\
   (∀ (j : Nat) (u : Value) (p : PV), us[j]? = some u -> (cs ++ rest)[j]? = some p -> RepV C st.toks (· < st.nx) (· < st.nt) u p) := by
  cases hbb : base with
  | none =>
   have := h0 hbb
   subst this
   exact ⟨#[], by simp, fun b h => (by cases h), fun j u h => (by simp at h), fun j u p h => (by simp at h)⟩
  | some id =>
   obtain ⟨us, q1, q2, q3⟩ := R.box id E _ (hb id hbb)
   have hlen : us.size = c * sz := by
    rw [q2, List.length_append, hcs, hrest, <- Nat.add_mul]
    congr 1
    omega
   refine ⟨us, hlen, fun b h => ?_, fun j u hu => ?_, fun j u p hu hp => (q3 j u p hu hp).2⟩
   ·obtain rfl := Option.some.inj h
    exact ⟨q1, fun e => R.tbox id _ tk _ (hb id hbb) ht e.symm⟩
   ·have hj : j < (cs ++ rest).length := by rw [<- q2]; exact (Array.getElem?_eq_some_iff.1 hu).1
    exact (q3 j u _ hu (List.getElem?_eq_getElem hj)).1
 have hv0 : v0 = .slice ((base.map C.ρ).map fun b => ⟨b, 0, none⟩) n c := by
  cases hbb : base with
  | none =>
   have hc0 := h0 hbb
   rw [hbb] at r0
   obtain ⟨rfl, _⟩ := rep_val r0
   have hn0 : n = 0 := by omega
   rw [hc0, hn0]
   rfl
  | some id =>
   rw [hbb] at r0
   exact (rep_ms r0).1
 subst hv0
 refine (RR.ins hzs hz1 hsz w (base.map C.ρ) n c i (C.τ tk).1 (C.τ tk).2 us uv hi hn hc hn1 hn63 hus (fun h => h0 (by simpa using h)) husz hus1 hv1 hvb hvs (fun j u hj hu => by
  obtain ⟨u', p, e1, _, e3⟩ := hcell j hj
  rw [e1] at hu
  obtain rfl := Option.some.inj hu
  exact e3.one)).mono ?_
 rintro e w' ⟨b', c', us', rfl, D⟩
 have hiz : i * sz <= n * sz := Nat.mul_le_mul_right _ hi
 have hn1z : (n + 1) * sz = n * sz + sz := Nat.succ_mul _ _
 have hcz : (n + 1) * sz <= us'.size := by rw [D.size]; exact Nat.mul_le_mul_right _ D.room
 have hlen : (cs.take (i * sz) ++ x ++ cs.drop (i * sz)).length = (n + 1) * sz := by
  simp only [List.length_append, List.length_take, List.length_drop, hcs, hx]
  omega
 have hrep' : RepL C st.toks (· < st.nx) (· < st.nt) us'.toList (cs.take (i * sz) ++ x ++ cs.drop (i * sz) ++ (us'.toList.drop ((n + 1) * sz)).map .val) := by
  refine ⟨by rw [List.length_append, hlen, List.length_map, List.length_drop]; simp; omega, fun j u p hu hp => ?_⟩
  have hu' : us'[j]? = some u := by simpa using hu
  refine ⟨D.one j u hu', ?_⟩
  by_cases h1 : j < (n + 1) * sz
  ·rw [List.getElem?_append_left (by omega)] at hp
   by_cases h2 : j < i * sz
   ·rw [List.getElem?_append_left (by simp only [List.length_append, List.length_take, hcs, hx]; omega), List.getElem?_append_left (by simp only [List.length_take, hcs]; omega), List.getElem?_take, if_pos h2] at hp
    rw [D.front j h2] at hu'
    exact husr j u p hu' (by rw [List.getElem?_append_left (by omega)]; exact hp)
   ·by_cases h3 : j < i * sz + sz
    ·rw [List.getElem?_append_left (by simp only [List.length_append, List.length_take, hcs, hx]; omega), List.getElem?_append_right (by simp only [List.length_take, hcs]; omega)] at hp
     simp only [List.length_take, hcs] at hp
     rw [Nat.min_eq_left hiz] at hp
     have h4 := D.mid (j - i * sz) (by omega)
     rw [show i * sz + (j - i * sz) = j by omega, hu'] at h4
     obtain ⟨u', p', e1, e2, e3⟩ := hcell (j - i * sz) (by omega)
     rw [<- h4] at e1
     rw [e2] at hp
     obtain rfl := Option.some.inj e1
     obtain rfl := Option.some.inj hp
     exact .frz e3
    ·rw [List.getElem?_append_right (by simp only [List.length_append, List.length_take, hcs, hx]; omega)] at hp
     simp only [List.length_append, List.length_take, hcs, hx, List.getElem?_drop] at hp
     rw [Nat.min_eq_left hiz] at hp
     have h4 := D.back (j - sz) (by omega) (by omega)
     rw [show j - sz + sz = j by omega, hu'] at h4
     refine husr (j - sz) u p h4.symm ?_
     rw [List.getElem?_append_left (by omega), <- hp]
     congr 1
     omega
  ·rw [List.getElem?_append_right (by omega), hlen, List.getElem?_map, List.getElem?_drop, show (n + 1) * sz + (j - (n + 1) * sz) = j by omega, hu] at hp
   obtain rfl := Option.some.inj hp
   exact .frz (.val (D.one j u hu'))
 have R' := Rel.put_row R base hbase D heap' hh _ hrep'
 refine ⟨_, _, _, C.at st.nx b', ⟨c', _, D.room, D.small, ?_, ltL_val _, rfl, rfl⟩, rfl, R', R.ext_at b' st.nx (Nat.lt_irrefl _) (fun j hj => Nat.lt_succ_of_lt hj), ?_⟩
 ·rw [List.length_map, List.length_drop]
  simp only [Array.length_toList]
  rw [D.size, <- Nat.sub_mul]
 ·have : RepV (C.at st.nx b') st.toks (· < st.nx + 1) (· < st.nt) (.slice (some ⟨(C.at st.nx b').ρ st.nx, 0, none⟩) (n + 1) c') (.ms st.nx 0 (n + 1) c') := .ms (Nat.lt_succ_self _) D.room
  have hb' : (C.at st.nx b').ρ st.nx = b' := by simp [Cx.at]
  rw [hb'] at this
  exact this
end Go.Proofs.YtcgmpcbkndpmbaaDoor

end
section
open Go Go.Proofs Go.Pw Go.RowKit
namespace Go.Proofs.YtcgmpcbkndpmbaaDoor
set_option maxRecDepth 4000
set_option linter.unusedVariables false
set_option linter.unusedSimpArgs false
inductive V where
 | mk (kind : Int) (b : Bool) (n : Int) (s : ByteArray) (items : List V) (keys : List ByteArray)
namespace V
def kind : V -> Int | .mk k _ _ _ _ _ => k
def b : V -> Bool | .mk _ b _ _ _ _ => b
def n : V -> Int | .mk _ _ n _ _ _ => n
def s : V -> ByteArray | .mk _ _ _ s _ _ => s
def items : V -> List V | .mk _ _ _ _ l _ => l
def keys : V -> List ByteArray | .mk _ _ _ _ _ l => l
end V
theorem V.kind_mk (k : Int) (b : Bool) (n : Int) (s : ByteArray) (l : List V) (ks : List ByteArray) : (V.mk k b n s l ks).kind = k := rfl
theorem V.b_mk (k : Int) (b : Bool) (n : Int) (s : ByteArray) (l : List V) (ks : List ByteArray) : (V.mk k b n s l ks).b = b := rfl
theorem V.n_mk (k : Int) (b : Bool) (n : Int) (s : ByteArray) (l : List V) (ks : List ByteArray) : (V.mk k b n s l ks).n = n := rfl
theorem V.s_mk (k : Int) (b : Bool) (n : Int) (s : ByteArray) (l : List V) (ks : List ByteArray) : (V.mk k b n s l ks).s = s := rfl
theorem V.items_mk (k : Int) (b : Bool) (n : Int) (s : ByteArray) (l : List V) (ks : List ByteArray) : (V.mk k b n s l ks).items = l := rfl
theorem V.keys_mk (k : Int) (b : Bool) (n : Int) (s : ByteArray) (l : List V) (ks : List ByteArray) : (V.mk k b n s l ks).keys = ks := rfl
attribute [go_sem] V.kind_mk V.b_mk V.n_mk V.s_mk V.items_mk V.keys_mk
def vZero : V := .mk 0 false 0 ByteArray.empty [] []
instance : Inhabited V := ⟨vZero⟩
mutual
def encC6 : V -> List PV
 | .mk k b n s is ks => [vI k, vB b, vI n, vS s, .sl (encV is), .sl (encT ks)]
def encV : List V -> List (List PV)
 | [] => []
 | v :: r => encC6 v :: encV r
end
abbrev cellsV (v : V) : List PV := [vI v.kind, vB v.b, vI v.n, vS v.s, .sl (encV v.items), .sl (encT v.keys)]
theorem encC6_eq (v : V) : encC6 v = cellsV v := by cases v; simp [encC6, cellsV, V.kind, V.b, V.n, V.s, V.items, V.keys]
theorem encV_nil : encV [] = [] := by simp [encV]
theorem encV_cons (v : V) (l : List V) : encV (v :: l) = cellsV v :: encV l := by rw [<- encC6_eq]; simp [encV]
theorem encV_map : ∀ l, encV l = l.map cellsV
 | [] => encV_nil
 | v :: r => by rw [encV_cons, encV_map r]; rfl
theorem encV_len (l : List V) : (encV l).length = l.length := by rw [encV_map]; simp
theorem encV_get (l : List V) (i : Nat) : (encV l).getD i [] = if i < l.length then cellsV (l.getD i default) else [] := by
 rw [encV_map]
 by_cases h : i < l.length
 ·simp [h, List.getD_eq_getElem?_getD]
 ·rw [if_neg h, List.getD_eq_getElem?_getD, List.getElem?_eq_none (by simpa using h)]; rfl
theorem encV_snoc (l : List V) (v : V) : encV l ++ [cellsV v] = encV (l ++ [v]) := by simp [encV_map]
theorem ix_V {a : List V} {i : Int} {K : PV -> Prop} (h0 : 0 <= i) (h1 : i < (a.length : Int)) : ixP 6 i K (.sl (encV a)) = K (.fp (cellsV (a.getD i.toNat default))) := by
 have h : i.toNat < a.length := by omega
 simp only [ixP, encV_get, if_pos h, encV_len, cellsV, List.length_cons, List.length_nil, h0, h1, true_and]
theorem ix_Vr {a : List V} {i : Int} {k : Nat} {K : PV -> Prop} (h0 : 0 <= i) (h1 : i < (a.length : Int)) : ixP 6 i K (.row k (encV a)) = K (.fp (cellsV (a.getD i.toNat default))) := by
 have h : i.toNat < a.length := by omega
 simp only [ixP, encV_get, if_pos h, encV_len, cellsV, List.length_cons, List.length_nil, h0, h1, true_and]
theorem encV_all (l : List V) : (∀ x ∈ encV l, x.length = 6) = True := eq_true (fun x hx => by
 rw [encV_map] at hx
 obtain ⟨n, _, rfl⟩ := List.mem_map.1 hx
 rfl)
theorem fz_encV : ∀ (l : List V), fzLL (encV l) = some (encV l)
 | [] => by rw [encV_nil]; rfl
 | x :: r => by
  have ih := fz_encV r
  rw [encV_cons, fzLL, ih]
  rfl
attribute [go_sem ↓ 2000] ix_V ix_Vr
attribute [go_sem] encV_len encV_all fz_encV
def flatT (l : List ByteArray) : List PV := l.map fun s => vS s
def flatV (l : List V) : List PV := l.flatMap cellsV
theorem ltL_app {a b : Nat} : ∀ (l m : List PV), PV.ltL a b (l ++ m) = (PV.ltL a b l && PV.ltL a b m)
 | [], m => by simp [PV.ltL]
 | p :: r, m => by rw [List.cons_append, PV.ltL, PV.ltL, ltL_app r m, Bool.and_assoc]
theorem ltL_flatT (a b : Nat) : ∀ (l : List ByteArray), PV.ltL a b (flatT l) = true
 | [] => rfl
 | x :: r => by
  have ih := ltL_flatT a b r
  unfold flatT at ih ⊢
  rw [List.map_cons, PV.ltL, ih]; rfl
theorem ltL_flatV (a b : Nat) : ∀ (l : List V), PV.ltL a b (flatV l) = true
 | [] => rfl
 | x :: r => by
  have ih := ltL_flatV a b r
  unfold flatV at ih ⊢
  rw [List.flatMap_cons, ltL_app, ih]; rfl
theorem flatT_len (l : List ByteArray) : (flatT l).length = l.length := by simp [flatT]
theorem flatV_len (l : List V) : (flatV l).length = l.length * 6 := by
 unfold flatV
 induction l with
 | nil => rfl
 | cons v r ih => simp only [List.flatMap_cons, List.length_append, ih, List.length_cons, List.length_nil]; omega
theorem flatT_take (l : List ByteArray) (i : Nat) : (flatT l).take i = flatT (l.take i) := by simp [flatT, List.map_take]
theorem flatT_drop (l : List ByteArray) (i : Nat) : (flatT l).drop i = flatT (l.drop i) := by simp [flatT, List.map_drop]
theorem flatV_cons (v : V) (l : List V) : flatV (v :: l) = cellsV v ++ flatV l := rfl
theorem flatV_app (l m : List V) : flatV (l ++ m) = flatV l ++ flatV m := by simp [flatV]
theorem flatV_take : ∀ (l : List V) (i : Nat), (flatV l).take (i * 6) = flatV (l.take i)
 | l, 0 => by simp [flatV]
 | [], i + 1 => by simp [flatV]
 | v :: r, i + 1 => by
  rw [flatV_cons, List.take_succ_cons, flatV_cons, <- flatV_take r i, List.take_append, List.take_of_length_le (by simp; omega)]
  congr 2
  simp; omega
theorem flatV_drop : ∀ (l : List V) (i : Nat), (flatV l).drop (i * 6) = flatV (l.drop i)
 | l, 0 => by simp
 | [], i + 1 => by simp [flatV]
 | v :: r, i + 1 => by
  rw [flatV_cons, List.drop_succ_cons, <- flatV_drop r i, List.drop_append, List.drop_eq_nil_of_le (by simp; omega)]
  rw [List.nil_append]
  congr 1
  simp; omega
theorem chunksT (l : List ByteArray) (rest : List PV) : chunks 1 l.length (flatT l ++ rest) = encT l := by
 unfold chunks encT
 apply List.ext_getElem?
 intro j
 rw [List.getElem?_map, List.getElem?_map]
 by_cases h : j < l.length
 ·rw [List.getElem?_range h, List.getElem?_eq_getElem h]
  simp only [Option.map_some, Nat.mul_one]
  rw [List.drop_append_of_le_length (by rw [flatT_len]; omega), flatT_drop, List.drop_eq_getElem_cons h]
  rfl
 ·rw [List.getElem?_eq_none (by simpa using h), List.getElem?_eq_none (by simpa using h)]
  rfl
theorem chunksV (l : List V) (rest : List PV) : chunks 6 l.length (flatV l ++ rest) = encV l := by
 unfold chunks
 rw [encV_map]
 apply List.ext_getElem?
 intro j
 rw [List.getElem?_map, List.getElem?_map]
 by_cases h : j < l.length
 ·rw [List.getElem?_range h, List.getElem?_eq_getElem h]
  simp only [Option.map_some]
  rw [List.drop_append_of_le_length (by rw [flatV_len]; omega), flatV_drop, List.drop_eq_getElem_cons h]
  rfl
 ·rw [List.getElem?_eq_none (by simpa using h), List.getElem?_eq_none (by simpa using h)]
  rfl
def szT : List ByteArray -> Nat
 | [] => 0
 | k :: r => 1 + k.size + szT r
theorem szT_len : ∀ l, l.length <= szT l
 | [] => Nat.zero_le _
 | k :: r => by have := szT_len r; rw [szT, List.length_cons]; omega
theorem szT_few {l : List ByteArray} : ∀ s ∈ l, s.size <= szT l := by
 induction l with
 | nil => intro s h; cases h
 | cons k r ih =>
  intro s h
  rw [szT]
  rcases List.mem_cons.1 h with rfl | h
  ·omega
  ·have := ih s h; omega
mutual
def szV : V -> Nat
 | .mk _ _ _ s is ks => 1 + s.size + szT ks + szVs is
def szVs : List V -> Nat
 | [] => 0
 | v :: r => szV v + szVs r
end
theorem szV_eq (v : V) : szV v = 1 + v.s.size + szT v.keys + szVs v.items := by cases v; simp [szV, V.s, V.keys, V.items]
theorem szVs_nil : szVs [] = 0 := by simp [szVs]
theorem szVs_cons (v : V) (l : List V) : szVs (v :: l) = szV v + szVs l := by simp [szVs]
theorem szVs_app : ∀ (l m : List V), szVs (l ++ m) = szVs l + szVs m
 | [], m => by rw [szVs_nil, List.nil_append, Nat.zero_add]
 | v :: r, m => by rw [List.cons_append, szVs_cons, szVs_cons, szVs_app r m]; omega
theorem szV_pos (v : V) : 1 <= szV v := by rw [szV_eq]; omega
theorem szVs_len : ∀ (l : List V), l.length <= szVs l
 | [] => Nat.zero_le _
 | v :: r => by have := szV_pos v; have := szVs_len r; rw [szVs_cons, List.length_cons]; omega
theorem szVs_mem : ∀ {l : List V} {v : V}, v ∈ l -> szV v <= szVs l
 | x :: r, v, h => by
  rw [szVs_cons]
  rcases List.mem_cons.1 h with rfl | h
  ·omega
  ·have := szVs_mem h; omega
theorem V.ind {p : V -> Prop} (h : ∀ v, (∀ x ∈ v.items, p x) -> p v) : ∀ v, p v := by
 have key : ∀ n, ∀ v, szV v < n -> p v := by
  intro n
  induction n with
  | zero => intro v hv; omega
  | succ n ih =>
   intro v hv
   refine h v (fun x hx => ih x ?_)
   have := szVs_mem hx
   rw [szV_eq] at hv
   omega
 exact fun v => key _ v (Nat.lt_succ_self _)
end Go.Proofs.YtcgmpcbkndpmbaaDoor

end
section
open Go Go.Proofs Go.Pw Go.RowKit
namespace Go.Proofs.YtcgmpcbkndpmbaaDoor
set_option maxRecDepth 4000
set_option linter.unusedVariables false
set_option linter.unusedSimpArgs false
attribute [local go_sem] Nat.le_refl Tryd.results27
def insAt {α : Type} (l : List α) (i : Nat) (x : α) : List α := l.take i ++ [x] ++ l.drop i
theorem insAt_len {α : Type} {l : List α} {i : Nat} (h : i <= l.length) (x : α) : (insAt l i x).length = l.length + 1 := by
 unfold insAt; simp; omega
def putAll (ks : List ByteArray) (is : List V) : List ByteArray -> List V -> Option (List ByteArray × List V)
 | k :: r, v :: vs => if foundT ks k = true then none else putAll (insAt ks (posT ks k) k) (insAt is (posT ks k) v) r vs
 | _, _ => some (ks, is)
def objR : Option (List ByteArray × List V) -> PV
 | some (ks, is) => .tup [.agg (cellsV (.mk 5 false 0 ByteArray.empty is ks)), vI 0]
 | none => .tup [.agg (cellsV vZero), vI 5]
def objF (keys : List ByteArray) (items : List V) : PV :=
 if keys.length ≠ items.length then .tup [.agg (cellsV vZero), vI 1]
 else if (keys.any fun s => !isT s) = true then .tup [.agg (cellsV vZero), vI 2]
 else objR (putAll [] [] keys items)
def heapM (base : Option Nat) (E : TypeId) (cs : List PV) : List (Nat × PObj) :=
 match base with
 | none => []
 | some id => [(id, .box E cs)]
theorem heapM_some (id : Nat) (E : TypeId) (cs : List PV) : heapM (some id) E cs = [(id, .box E cs)] := rfl
theorem heapM_none (E : TypeId) (cs : List PV) : heapM none E cs = [] := rfl
theorem insArg_some (id n c : Nat) : insArg (some id) n c = .ms id 0 n c := rfl
theorem insArg_none (n c : Nat) : insArg none n c = vNil := rfl
structure ObjI where
 i : Nat
 ks : List ByteArray
 is : List V
 bK : Option Nat
 cK : Nat
 rK : List PV
 bI : Option Nat
 cI : Nat
 rI : List PV
 nx : Nat
 nt : Nat
structure ObjOk (keys : List ByteArray) (items : List V) (rr : PV) (p : ObjI) : Prop where
 hi : p.i <= keys.length
 lk : p.ks.length = p.i
 li : p.is.length = p.i
 sort : SortT p.ks
 res : objR (putAll p.ks p.is (keys.drop p.i) (items.drop p.i)) = rr
 nK : p.bK = none -> p.cK = 0
 nI : p.bI = none -> p.cI = 0
 cK : p.i <= p.cK
 cI : p.i <= p.cI
 mK : p.cK <= maxLen
 mI : p.cI <= maxLen
 rK : p.rK.length = (p.cK - p.i) * 1
 rI : p.rI.length = (p.cI - p.i) * 6
 idK : ∀ id, p.bK = some id -> 12 < id /\ id < p.nx
 idI : ∀ id, p.bI = some id -> 12 < id /\ id < p.nx
 ne : ∀ j k, p.bK = some j -> p.bI = some k -> j ≠ k
 nx : 12 < p.nx
def objH (p : ObjI) : List (Nat × PObj) := heapM p.bK 9 (flatT p.ks ++ p.rK) ++ heapM p.bI 26 (flatV p.is ++ p.rI)
def objS (keys : List ByteArray) (items : List V) (p : ObjI) : PS :=
 ⟨[(25, vI p.i), (24, vI keys.length), (23, .sl (encT keys)), (0, .sl (encT keys)), (1, .sl (encV items)), (4, .ptr 0 0), (5, vI 0), (6, .ptr 12 0)],
  (12, .box 26 [vI 5, vB false, vI 0, vS ByteArray.empty, insArg p.bI p.i p.cI, insArg p.bK p.i p.cK]) :: (0, .box 26 [vI 0, vB false, vI 0, vS ByteArray.empty, vNil, vNil]) :: objH p, [], p.nx, p.nt⟩
theorem lkp_app {α : Type} (l m : List (Nat × α)) (i : Nat) : lkp (l ++ m) i = (lkp l i).or (lkp m i) := by
 induction l with
 | nil => rfl
 | cons x r ih =>
  obtain ⟨k, v⟩ := x
  rw [List.cons_append, lkp_cons, lkp_cons]
  split
  ·rfl
  ·exact ih
theorem heapM_lkp {base : Option Nat} {E : TypeId} {cs : List PV} {j : Nat} {o : PObj} (h : lkp (heapM base E cs) j = some o) : base = some j /\ o = .box E cs := by
 cases base with
 | none => cases h
 | some id =>
  rw [heapM_some, lkp_cons] at h
  split at h
  ·rename_i e
   subst e
   exact ⟨rfl, (Option.some.inj h).symm⟩
  ·cases h
theorem heapM_own (id : Nat) (E : TypeId) (cs : List PV) : lkp (heapM (some id) E cs) id = some (.box E cs) := by simp [heapM, lkp]
section
set_option linter.unusedSectionVars false
variable {keys : List ByteArray} {items : List V} {rr : PV} {p : ObjI} (h : ObjOk keys items rr p)
include h
theorem ObjOk.hK {id : Nat} (e : p.bK = some id) : lkp (objH p) id = some (.box 9 (flatT p.ks ++ p.rK)) := by
 unfold objH
 rw [lkp_app, e, heapM_own]
 rfl
theorem ObjOk.hI {id : Nat} (e : p.bI = some id) : lkp (objH p) id = some (.box 26 (flatV p.is ++ p.rI)) := by
 unfold objH
 rw [lkp_app]
 cases hk : lkp (heapM p.bK 9 (flatT p.ks ++ p.rK)) id with
 | none => rw [e, heapM_own]; rfl
 | some o =>
  obtain ⟨e1, _⟩ := heapM_lkp hk
  exact absurd rfl (h.ne id id e1 e)
theorem ObjOk.fzK {a b : PObj} : fzH Tryd.prog ((12, a) :: (0, b) :: objH p) (insArg p.bK p.i p.cK) = some (.sl (encT p.ks)) := by
 cases e : p.bK with
 | none =>
  have h0 := h.nK e
  have := h.cK
  have hks : p.ks = [] := List.length_eq_zero_iff.1 (by rw [h.lk]; omega)
  rw [hks]
  rfl
 | some id =>
  have hl : lkp ((12, a) :: (0, b) :: objH p) id = some (.box 9 (flatT p.ks ++ p.rK)) := by
   have := h.idK id e
   rw [lkp_cons, if_neg (by omega), lkp_cons, if_neg (by omega)]
   exact h.hK e
  rw [insArg_some]
  simp only [fzH, hl, sz9]
  have h1 : 0 < 1 /\ 0 + p.i * 1 <= (flatT p.ks ++ p.rK).length := ⟨by decide, by rw [List.length_append, flatT_len, h.lk]; omega⟩
  rw [if_pos h1, List.drop_zero, <- h.lk, chunksT, fz_encT]
  rfl
theorem ObjOk.fzI {a b : PObj} : fzH Tryd.prog ((12, a) :: (0, b) :: objH p) (insArg p.bI p.i p.cI) = some (.sl (encV p.is)) := by
 cases e : p.bI with
 | none =>
  have h0 := h.nI e
  have := h.cI
  have hks : p.is = [] := List.length_eq_zero_iff.1 (by rw [h.li]; omega)
  rw [hks, encV_nil]
  rfl
 | some id =>
  have hl : lkp ((12, a) :: (0, b) :: objH p) id = some (.box 26 (flatV p.is ++ p.rI)) := by
   have := h.idI id e
   rw [lkp_cons, if_neg (by omega), lkp_cons, if_neg (by omega)]
   exact h.hI e
  rw [insArg_some]
  simp only [fzH, hl, sz26]
  have h1 : 0 < 6 /\ 0 + p.i * 6 <= (flatV p.is ++ p.rI).length := ⟨by decide, by rw [List.length_append, flatV_len, h.li]; omega⟩
  rw [if_pos h1, List.drop_zero, <- h.li, chunksV, fz_encV]
  rfl
end
theorem fzHA_ins {P : Program} {h : List (Nat × PObj)} (base : Option Nat) (n c : Nat) : fzHA P h (insArg base n c) = fzH P h (insArg base n c) := by cases base <;> rfl
theorem fzH_val {P : Program} {h : List (Nat × PObj)} (v : Value) : fzH P h (.val v) = fz (.val v) := rfl
theorem drop_consG {α : Type} {a : List α} {d : α} {k : Nat} (h : k < a.length) : a.drop k = a.getD k d :: a.drop (k + 1) := by
 rw [List.drop_eq_getElem_cons h, List.getD_eq_getElem?_getD, List.getElem?_eq_getElem h]; rfl
theorem ins_sort {k : ByteArray} : ∀ {l : List ByteArray}, SortT l -> foundT l k = false -> SortT (insAt l (posT l k) k)
 | [], _, _ => by simp [insAt, SortT]
 | x :: r, h, hf => by
  have h' := List.pairwise_cons.1 h
  cases hx : ltT x k with
  | true =>
   have hp : posT (x :: r) k = posT r k + 1 := by unfold posT; rw [List.takeWhile_cons, hx]; rfl
   have hf' : foundT r k = false := by
    unfold foundT at hf ⊢
    rw [hp] at hf
    simpa using hf
   rw [hp]
   have ih := ins_sort h'.2 hf'
   have e : insAt (x :: r) (posT r k + 1) k = x :: insAt r (posT r k) k := rfl
   rw [e]
   refine List.pairwise_cons.2 ⟨fun y hy => ?_, ih⟩
   unfold insAt at hy
   rcases List.mem_append.1 hy with hy | hy
   ·rcases List.mem_append.1 hy with hy | hy
    ·exact h'.1 y (List.mem_of_mem_take hy)
    ·rw [List.mem_singleton.1 hy]; exact hx
   ·exact h'.1 y (List.mem_of_mem_drop hy)
  | false =>
   have hp : posT (x :: r) k = 0 := by unfold posT; rw [List.takeWhile_cons, hx]; rfl
   rw [hp]
   unfold foundT at hf
   rw [hp] at hf
   have hne : ¬ x = k := by simpa using hf
   have hlt : ltT k x = true := by
    rcases ltT_tri x k with h | h | h
    ·rw [hx] at h; cases h
    ·exact absurd h hne
    ·exact h
   have e : insAt (x :: r) 0 k = k :: x :: r := rfl
   rw [e]
   refine List.pairwise_cons.2 ⟨fun y hy => ?_, h⟩
   rcases List.mem_cons.1 hy with rfl | hy
   ·exact hlt
   ·exact ltT_trans hlt (h'.1 y hy)
set_option maxHeartbeats 8000000 in
theorem object_ok (keys : List ByteArray) (items : List V) (hf : fewT keys) (hl : keys.length <= 1000000) (hi : items.length <= 1000000) : Ok Tryd.prog 27 [.sl (encT keys), .sl (encV items)] (objF keys items) := by
 refine Ok.of_pwpH (bar := oneBar 13 8) (by kernel_rfl) Tryd.func27 rfl (by kernel_rfl) (by kernel_rfl) ?_
 unfold objF
 by_cases h1 : keys.length = items.length
 ·rw [if_neg (by simpa using h1)]
  have hd : decide ((keys.length : Int) = (items.length : Int)) = true := decide_eq_true (by omega)
  simp (implicitDefEqProofs := false) (disch := omega) only [go_sem, simprocAttr, hd]
  with_reducible refine CallOk.of (contS_ok keys hf (by omega)) rfl ?_
  cases hc : keys.any (fun s => !isT s) with
  | true =>
   rw [if_pos rfl]
   simp (implicitDefEqProofs := false) (disch := omega) only [go_sem, simprocAttr, encV_nil, encT_nil, vZero, outH, fzHAs, fzHA, fzHL, fzH, cellsV]
  | false =>
   rw [if_neg (by decide)]
   generalize hr : objR (putAll [] [] keys items) = rr
   simp (implicitDefEqProofs := false) (disch := omega) only [go_sem, simprocAttr, encV_nil, encT_nil, vZero]
   refine p_loop (ι := { p : ObjI // ObjOk keys items rr p }) (fun p => objS keys items p.1) (fun p => keys.length - p.1.i)
    ⟨⟨0, [], [], none, 0, [], none, 0, [], 15, 15⟩, ⟨Nat.zero_le _, rfl, rfl, List.Pairwise.nil, hr, fun _ => rfl, fun _ => rfl, Nat.le_refl _, Nat.le_refl _, Nat.zero_le _, Nat.zero_le _, rfl, rfl, fun _ h => (by cases h), fun _ h => (by cases h), fun _ _ h => (by cases h), by decide⟩⟩ ?_ ?_
   ·simp only [objS, objH, heapM_none, insArg_none, List.nil_append]
    constructor <;> simp only [go_sem, simprocAttr, decide_eq_true_eq, Int.natCast_zero] <;> try ((repeat' apply And.intro) <;> first | rfl | omega | (congr 3; omega) | (congr 2; omega))
   ·rintro ⟨p, hp⟩
    simp only [objS]
    simp (implicitDefEqProofs := false) (disch := omega) only [go_sem, simprocAttr, encV_nil, encT_nil, vZero]
    with_reducible refine ifK_split (fun hlt => ?_) (fun hge => ?_)
    ·have hpi := hp.hi
     have hpnx := hp.nx
     have hlt' : p.i < keys.length := by omega
     simp (implicitDefEqProofs := false) (disch := omega) only [go_sem, simprocAttr, encV_nil, encT_nil, vZero]
     refine CallOk.ofI (OkI.frozen (st := ⟨[], _, _, _, _⟩) (bs_ok p.ks (keys.getD p.i ByteArray.empty) hp.sort (by rw [hp.lk]; omega)) ?_ rfl) rfl rfl rfl rfl ?_
     ·simp only [fzHAs, fzHA_ins, hp.fzK]
      rfl
     ·rintro r st1 ⟨rfl, rfl⟩
      have ek := drop_consG (d := ByteArray.empty) hlt'
      have ei := drop_consG (a := items) (d := default) (k := p.i) (by omega)
      have hres := hp.res
      rw [ek, ei, putAll] at hres
      simp (implicitDefEqProofs := false) (disch := omega) only [go_sem, simprocAttr, encV_nil, encT_nil, vZero]
      with_reducible refine ifK_bsplit (fun hfd => ?_) (fun hnf => ?_)
      ·rw [if_pos hfd] at hres
       rw [<- hres, objR]
       simp (implicitDefEqProofs := false) (disch := omega) only [go_sem, simprocAttr, encV_nil, encT_nil, vZero, outH, fzHAs, fzHA, fzHL, fzH, cellsV]
      ·rw [if_neg (by rw [hnf]; decide)] at hres
       generalize hk : keys.getD p.i ByteArray.empty = k at *
       have hple := posT_le p.ks k
       rw [hp.lk] at hple
       simp (implicitDefEqProofs := false) (disch := omega) only [go_sem, simprocAttr, encV_nil, encT_nil, vZero]
       refine CallOk.ofI (OkI.insert (st := ⟨[], _, _, _, _⟩) (tk := _) (by kernel_rfl) insS_roads rfl (by intro u hu; simp [Value.cells] at hu; subst hu; rfl) (by decide) (x := [vS k]) rfl ?_ p.bK p.i p.cK (posT p.ks k) (flatT p.ks) p.rK ?_ hp.rK hple hp.cK hp.mK (by omega) (by unfold maxLen; omega) hp.nK ?_ ((12, .box 26 [vI 5, vB false, vI 0, vS ByteArray.empty, insArg p.bI p.i p.cI, insArg p.bK p.i p.cK]) :: (0, .box 26 [vI 0, vB false, vI 0, vS ByteArray.empty, vNil, vNil]) :: heapM p.bI 26 (flatV p.is ++ p.rI)) ?_) rfl rfl rfl rfl ?_
       ·simp only [upd, lkp, if_true]
       ·rw [flatT_len, hp.lk, Nat.mul_one]
       ·intro id e
        have := hp.idK id e
        show lkp ((12, _) :: (0, _) :: objH p) id = _
        rw [lkp_cons, if_neg (by omega), lkp_cons, if_neg (by omega)]
        exact hp.hK e
       ·intro j o h
        show lkp ((12, _) :: (0, _) :: objH p) j = some o /\ _
        rw [lkp_cons, lkp_cons] at h ⊢
        split at h
        ·rename_i e
         rw [if_pos e]
         exact ⟨h, fun e' => by have := hp.idK _ e'; omega⟩
        ·rename_i e
         rw [if_neg e]
         split at h
         ·rename_i e0
          rw [if_pos e0]
          exact ⟨h, fun e' => by have := hp.idK _ e'; omega⟩
         ·rename_i e0
          rw [if_neg e0]
          obtain ⟨e1, rfl⟩ := heapM_lkp h
          exact ⟨hp.hI e1, fun e' => hp.ne _ _ e' e1 rfl⟩
       ·rintro r st1 ⟨cK', rK', q1, q2, q3, q4, rfl, rfl⟩
        simp (implicitDefEqProofs := false) (disch := omega) only [go_sem, simprocAttr, encV_nil, encT_nil, vZero]
        refine p_bar (by kernel_rfl) ?_
        have hli := hp.li
        simp (implicitDefEqProofs := false) (disch := omega) only [go_sem, simprocAttr, encV_nil, encT_nil, vZero]
        refine CallOk.ofI (OkI.insert (st := ⟨[], _, _, _, _⟩) (tk := _) (by kernel_rfl) insV_roads rfl (by intro u hu; simp [Value.cells] at hu; rcases hu with rfl | rfl | rfl | rfl | rfl | rfl <;> rfl) (by decide) (x := cellsV (items.getD p.i default)) rfl ?_ p.bI p.i p.cI (posT p.ks k) (flatV p.is) p.rI ?_ hp.rI hple hp.cI hp.mI (by omega) (by unfold maxLen; omega) hp.nI ?_ ((p.nx + 1 + 5 + 3 + 9 + 1 + 5, .box 9 ((flatT p.ks).take (posT p.ks k * 1) ++ [vS k] ++ (flatT p.ks).drop (posT p.ks k * 1) ++ rK')) :: (12, .box 26 [vI 5, vB false, vI 0, vS ByteArray.empty, insArg p.bI p.i p.cI, .ms (p.nx + 1 + 5 + 3 + 9 + 1 + 5) 0 (p.i + 1) cK']) :: (0, .box 26 [vI 0, vB false, vI 0, vS ByteArray.empty, vNil, vNil]) :: []) ?_) rfl rfl rfl rfl ?_
        ·simp (disch := omega) only [upd, lkp, if_true, tok_T, tok_F, toks_T, toks_F]
        ·rw [flatV_len, hp.li]
        ·intro id e
         have := hp.idI id e
         show lkp ((p.nx + 1 + 5 + 3 + 9 + 1 + 5, _) :: (12, _) :: (0, _) :: heapM p.bI 26 (flatV p.is ++ p.rI)) id = _
         rw [lkp_cons, if_neg (by omega), lkp_cons, if_neg (by omega), lkp_cons, if_neg (by omega), e, heapM_own]
        ·intro j o h
         show lkp ((p.nx + 1 + 5 + 3 + 9 + 1 + 5, _) :: (12, _) :: (0, _) :: heapM p.bI 26 (flatV p.is ++ p.rI)) j = some o /\ _
         rw [lkp_cons, lkp_cons, lkp_cons] at h ⊢
         split at h
         ·rename_i e
          rw [if_pos e]
          exact ⟨h, fun e' => by have := hp.idI _ e'; omega⟩
         ·rename_i e
          rw [if_neg e]
          split at h
          ·rename_i e0
           rw [if_pos e0]
           exact ⟨h, fun e' => by have := hp.idI _ e'; omega⟩
          ·rename_i e0
           rw [if_neg e0]
           split at h
           ·rename_i e1
            rw [if_pos e1]
            exact ⟨h, fun e' => by have := hp.idI _ e'; omega⟩
           ·cases h
        ·rintro r st1 ⟨cI', rI', w1, w2, w3, w4, rfl, rfl⟩
         simp (implicitDefEqProofs := false) (disch := omega) only [go_sem, simprocAttr, encV_nil, encT_nil, vZero]
         refine ⟨⟨⟨p.i + 1, insAt p.ks (posT p.ks k) k, insAt p.is (posT p.ks k) (items.getD p.i default), some (p.nx + 1 + 5 + 3 + 9 + 1 + 5), cK', rK', some (p.nx + 1 + 5 + 3 + 9 + 1 + 5 + 1 + 8 + 8 + 0), cI', rI', p.nx + 1 + 5 + 3 + 9 + 1 + 5 + 1 + 8 + 8 + 0 + 1 + 1 + 11 + 2, p.nt + 1 + 5 + 3 + 9 + 1 + 5 + 8 + 8 + 0 + 1 + 11 + 2⟩, ?_⟩, by simp only; omega, ?_⟩
         rotate_left
         ·simp only [objS, objH, heapM_some, insArg_some, List.cons_append, List.nil_append]
          have eT : (flatT p.ks).take (posT p.ks k * 1) ++ [vS k] ++ (flatT p.ks).drop (posT p.ks k * 1) = flatT (insAt p.ks (posT p.ks k) k) := by
           rw [Nat.mul_one, flatT_take, flatT_drop]; simp [insAt, flatT]
          have eV : (flatV p.is).take (posT p.ks k * 6) ++ cellsV (items.getD p.i default) ++ (flatV p.is).drop (posT p.ks k * 6) = flatV (insAt p.is (posT p.ks k) (items.getD p.i default)) := by
           rw [flatV_take, flatV_drop]
           unfold insAt
           rw [flatV_app, flatV_app]
           rfl
          rw [eT, eV]
          refine ⟨?_, by simp (disch := omega) only [tok_T, tok_F, toks_T, toks_F, ob_T, ob_F, obs_T, obs_F, Bool.true_and, Bool.and_eq_true, go_sem, simprocAttr, decide_eq_true_eq, Int.natCast_add, Int.natCast_one, ltL_app, ltL_flatT, ltL_flatV, q4, w4] <;> try ((repeat' apply And.intro) <;> first | rfl | omega | (congr 3; omega) | (congr 2; omega)), ?_, ?_, ?_, ?_, ?_⟩ <;> simp only [go_sem, simprocAttr, decide_eq_true_eq, Int.natCast_add, Int.natCast_one, ltL_app, ltL_flatT, ltL_flatV, q4, w4] <;> try ((repeat' apply And.intro) <;> first | rfl | omega | (congr 3; omega) | (congr 2; omega))
         ·have hli2 : (insAt p.is (posT p.ks k) (items.getD p.i default)).length = p.i + 1 := by rw [insAt_len (by omega), hp.li]
          refine ⟨by simp only; omega, by simp only; rw [insAt_len (by rw [hp.lk]; exact hple), hp.lk], hli2, ?_, hres, fun h => (by cases h), fun h => (by cases h), q1, w1, q2, w2, q3, w3, fun id h => ?_, fun id h => ?_, fun j l h1 h2 => ?_, by simp only; omega⟩
          ·exact ins_sort hp.sort hnf
          ·obtain rfl := Option.some.inj h
           exact ⟨by omega, by simp only; omega⟩
          ·obtain rfl := Option.some.inj h
           exact ⟨by omega, by simp only; omega⟩
          ·obtain rfl := Option.some.inj h1
           obtain rfl := Option.some.inj h2
           omega
    ·have hpi := hp.hi
     have hie : p.i = keys.length := by omega
     have hres := hp.res
     rw [List.drop_eq_nil_of_le (by omega), putAll.eq_2 _ _ _ _ (fun _ _ _ _ h => by cases h), objR] at hres
     rw [<- hres]
     simp (implicitDefEqProofs := false) (disch := omega) only [go_sem, simprocAttr, encV_nil, encT_nil, outH, fzHAs, fzHA, fzHL, fzH_val, hp.fzK, hp.fzI, cellsV]
 ·rw [if_pos (by simpa using h1)]
  have hd : decide ((keys.length : Int) = (items.length : Int)) = false := decide_eq_false (by omega)
  simp (implicitDefEqProofs := false) (disch := omega) only [go_sem, simprocAttr, hd]
  simp (implicitDefEqProofs := false) (disch := omega) only [go_sem, simprocAttr, encV_nil, encT_nil, vZero, outH, fzHAs, fzHA, fzHL, fzH, cellsV]
end Go.Proofs.YtcgmpcbkndpmbaaDoor

end
section
open Go Go.Proofs Go.Pw Go.RowKit
namespace Go.Proofs.YtcgmpcbkndpmbaaDoor
set_option maxRecDepth 4000
set_option linter.unusedVariables false
set_option linter.unusedSimpArgs false
attribute [local go_sem] Nat.le_refl Tryd.results16 Tryd.results6
mutual
def nV : V -> Nat
 | .mk _ _ _ _ is _ => 1 + nVs is
def nVs : List V -> Nat
 | [] => 0
 | v :: r => nV v + nVs r
end
theorem nV_eq (v : V) : nV v = 1 + nVs v.items := by cases v; simp [nV, V.items]
theorem nVs_nil : nVs [] = 0 := by simp [nVs]
theorem nVs_cons (v : V) (l : List V) : nVs (v :: l) = nV v + nVs l := by simp [nVs]
theorem getD_mem {α : Type} {l : List α} {i : Nat} {d : α} (h : i < l.length) : l.getD i d ∈ l := by
 rw [List.getD_eq_getElem?_getD, List.getElem?_eq_getElem h]; exact List.getElem_mem h
theorem V.small {v : V} {B : Nat} (h : szV v <= B) : v.items.length <= B /\ v.keys.length <= B /\ (∀ x ∈ v.items, szV x <= B) /\ szVs v.items <= B := by
 have h1 := szVs_len v.items
 have h2 := szV_eq v
 have h3 := szT_len v.keys
 exact ⟨by omega, by omega, fun x hx => by have := szVs_mem hx; omega, by omega⟩
theorem V.few {v : V} {B : Nat} (h : szV v <= B) : v.s.size <= B /\ ∀ s ∈ v.keys, s.size <= B := by
 have h2 := szV_eq v
 exact ⟨by omega, fun s hs => by have := szT_few s hs; omega⟩
theorem num_ok (n : Int) : Ok Tryd.prog 16 [vI n] (.agg (cellsV (.mk 2 false n ByteArray.empty [] []))) := by
 refine Ok.of_pwp (by kernel_rfl) Tryd.func16 rfl (by kernel_rfl) (by kernel_rfl) ?_
 simp (implicitDefEqProofs := false) (disch := omega) only [go_sem, simprocAttr, cellsV, encV_nil, encT_nil]
mutual
def dV : V -> Nat
 | .mk k _ _ _ is _ => if k < 4 then 0 else dVs is + 1
def dVs : List V -> Nat
 | [] => 0
 | v :: r => max (dV v) (dVs r)
end
theorem dV_eq (v : V) : dV v = if v.kind < 4 then 0 else dVs v.items + 1 := by cases v; rw [dV]; rfl
theorem dVs_nil : dVs [] = 0 := by simp [dVs]
theorem dVs_cons (v : V) (l : List V) : dVs (v :: l) = max (dV v) (dVs l) := by simp [dVs]
theorem dVs_app : ∀ (l m : List V), dVs (l ++ m) = max (dVs l) (dVs m)
 | [], m => by rw [dVs_nil, List.nil_append, Nat.zero_max]
 | v :: r, m => by rw [List.cons_append, dVs_cons, dVs_cons, dVs_app r m, Nat.max_assoc]
theorem dV_le : ∀ v, dV v <= szV v := by
 refine V.ind fun v ih => ?_
 rw [dV_eq, szV_eq]
 have : ∀ l : List V, (∀ x ∈ l, dV x <= szV x) -> dVs l <= szVs l := by
  intro l
  induction l with
  | nil => intro _; rw [dVs_nil]; omega
  | cons x r ihr =>
   intro h
   have h1 := h x (by simp)
   have h2 := ihr (fun y hy => h y (by simp [hy]))
   rw [dVs_cons, szVs_cons]; omega
 have := this v.items ih
 split <;> omega
set_option maxHeartbeats 4000000 in
theorem rdepth_ok : ∀ v, szV v <= 1000000 -> Ok Tryd.prog 6 [.agg (cellsV v)] (vI (dV v)) := by
 refine V.ind fun v ih hv => ?_
 obtain ⟨hl, _, hx, hs⟩ := V.small hv
 have hit : ∀ i, i < v.items.length -> Ok Tryd.prog 6 [.agg (cellsV (v.items.getD i default))] (vI (dV (v.items.getD i default))) := fun i hi => ih _ (getD_mem hi) (hx _ (getD_mem hi))
 refine Ok.of_pwp (by kernel_rfl) Tryd.func6 rfl (by kernel_rfl) (by kernel_rfl) ?_
 have hr := dV_eq v
 by_cases hk : v.kind < 4
 ·rw [hr, if_pos hk]
  simp (implicitDefEqProofs := false) (disch := omega) only [go_sem, simprocAttr, cellsV]
  try rfl
 rw [if_neg hk] at hr
 generalize hr' : dV v = rr at *
 simp (implicitDefEqProofs := false) (disch := omega) only [go_sem, simprocAttr, cellsV]
 refine p_loop (ι := { i : Nat // i <= v.items.length }) (fun p => ⟨[(11, vI p.1), (10, vI v.items.length), (3, vI (dVs (v.items.take p.1) + 1 : Nat)), (1, .ptr 0 0)], [(0, .box 33 (cellsV v))], [], 1, 0⟩) (fun p => v.items.length - p.1) ⟨0, Nat.zero_le _⟩ ?_ ?_
 ·constructor <;> simp only [go_sem, simprocAttr, decide_eq_true_eq, Int.natCast_zero, List.take_zero, dVs_nil] <;> try ((repeat' apply And.intro) <;> first | rfl | omega | (congr 3; omega) | (congr 2; omega))
 ·rintro ⟨i, h1⟩
  simp only
  simp (implicitDefEqProofs := false) (disch := omega) only [go_sem, simprocAttr, cellsV]
  with_reducible refine ifK_split (fun hlt => ?_) (fun hge => ?_)
  ·have hi : i < v.items.length := by omega
   have e1 := take_snocG (a := v.items) (d := default) hi
   have e2 := dVs_app (v.items.take i) [v.items.getD i default]
   rw [<- e1, dVs_cons, dVs_nil] at e2
   have e3 := dV_le (v.items.getD i default)
   have e4 := hx _ (getD_mem (d := default) hi)
   simp (implicitDefEqProofs := false) (disch := omega) only [go_sem, simprocAttr, cellsV]
   with_reducible refine CallOk.of (hit i hi) rfl ?_
   simp (implicitDefEqProofs := false) (disch := omega) only [go_sem, simprocAttr, cellsV]
   refine ⟨⟨i + 1, hi⟩, by simp only; omega, ?_⟩
   constructor <;> simp only [go_sem, simprocAttr, decide_eq_true_eq, Int.natCast_add, Int.natCast_one] <;> try ((repeat' apply And.intro) <;> first | rfl | omega | (congr 3; omega) | (congr 2; omega))
  ·have e1 : v.items.take i = v.items := List.take_of_length_le (by omega)
   rw [hr]
   rw [e1]
   simp (implicitDefEqProofs := false) (disch := omega) only [go_sem, simprocAttr, cellsV]
end Go.Proofs.YtcgmpcbkndpmbaaDoor

end
section
open Go Go.Proofs Go.Pw Go.RowKit
namespace Go.Proofs.YtcgmpcbkndpmbaaDoor
set_option maxRecDepth 4000
set_option linter.unusedVariables false
set_option linter.unusedSimpArgs false
attribute [local go_sem] Nat.le_refl Tryd.results7
def appZ (e : TypeId) (sz by_ : Nat) (st : PS) (tk0 : Nat) (K : Delta -> Prop) (d : PV) (ys : List (List PV)) : Prop := appT e sz by_ st tk0 K d ys
theorem app_stopT {e : TypeId} {sz b tk k : Nat} {st : PS} {xs : List (List PV)} {K : Delta -> Prop} {l : List ByteArray} : appT e sz b st tk K (.row k xs) (encT l) = appZ e sz b st tk K (.row k xs) (encT l) := propext Iff.rfl
theorem app_stopV {e : TypeId} {sz b tk k : Nat} {st : PS} {xs : List (List PV)} {K : Delta -> Prop} {l : List V} : appT e sz b st tk K (.row k xs) (encV l) = appZ e sz b st tk K (.row k xs) (encV l) := propext Iff.rfl
attribute [go_sem ↓ 2000] app_stopT app_stopV
@[congr] theorem appZ_congr {e : TypeId} {sz b tk : Nat} {st st' : PS} {K : Delta -> Prop} {d : PV} {ys : List (List PV)} (h : hold st = st') : appZ e sz b st tk K d ys = appZ e sz b st' tk K d ys := by rw [<- h]; rfl
def rowV (k : Nat) : List V -> PV
 | [] => vNil
 | x :: r => .row k (encV (x :: r))
def tokV (k : Nat) (e : TypeId) : List V -> List (Nat × Tok)
 | [] => []
 | x :: r => [(k, ⟨e, 6, (x :: r).length⟩)]
theorem fz_rowV (k : Nat) (l : List V) : fz (rowV k l) = some (.sl (encV l)) := by
 cases l with
 | nil => rw [encV_nil]; rfl
 | cons x r => rfl
attribute [go_sem ↓ 2000] fz_rowV
theorem encV_snoc' (l : List V) (v : V) : encV (l ++ [v]) = encV l ++ [cellsV v] := (encV_snoc l v).symm
set_option maxHeartbeats 4000000 in
theorem ref_ok : ∀ v, szV v <= 1000000 -> Ok Tryd.prog 7 [.agg (cellsV v)] (.agg (cellsV v)) := by
 refine V.ind fun v ih hv => ?_
 obtain ⟨hl, hl2, hx, hs⟩ := V.small hv
 have hit : ∀ i, i < v.items.length -> Ok Tryd.prog 7 [.agg (cellsV (v.items.getD i default))] (.agg (cellsV (v.items.getD i default))) := fun i hi => ih _ (getD_mem hi) (hx _ (getD_mem hi))
 suffices key : ∀ rr, rr = PV.agg (cellsV v) -> Ok Tryd.prog 7 [.agg (cellsV v)] rr from key _ rfl
 intro rr hr
 refine Ok.of_pwp (by kernel_rfl) Tryd.func7 rfl (by kernel_rfl) (by kernel_rfl) ?_
 simp (implicitDefEqProofs := false) (disch := omega) only [go_sem, simprocAttr, cellsV]
 refine p_loop (ι := { p : Nat × Nat × List V // p.1 <= v.items.length /\ p.2.2 = v.items.take p.1 })
  (fun p => ⟨[(20, vI p.1.1), (19, vI v.items.length), (18, .sl (encV v.items)), (3, .ptr 13 0), (2, .ptr 1 0)], [(13, .box 33 [vI v.kind, vB v.b, vI v.n, vS v.s, rowV p.1.2.1 p.1.2.2, .sl (encT v.keys)]), (1, .box 33 [vI 0, vB false, vI 0, vS ByteArray.empty, vNil, vNil])], tokV p.1.2.1 33 p.1.2.2, 14, p.1.2.1 + 1⟩) (fun p => v.items.length - p.1.1) ⟨(0, 0, []), Nat.zero_le _, rfl⟩ ?_ ?_
 ·simp only [rowV, tokV]
  constructor <;> simp only [go_sem, simprocAttr, decide_eq_true_eq, Int.natCast_zero] <;> try ((repeat' apply And.intro) <;> first | rfl | omega | (congr 3; omega) | (congr 2; omega))
 ·rintro ⟨⟨i, k, xs⟩, h1, h2⟩
  simp only at h1 h2 ⊢
  simp (implicitDefEqProofs := false) (disch := omega) only [go_sem, simprocAttr, cellsV]
  with_reducible refine ifK_split (fun hlt => ?_) (fun hge => ?_)
  ·have hi : i < v.items.length := by omega
   have e1 := take_snocG (a := v.items) (d := default) hi
   rw [<- h2] at e1
   have hxl : xs.length <= 1000000 := by rw [h2, List.length_take]; omega
   simp (implicitDefEqProofs := false) (disch := omega) only [go_sem, simprocAttr, cellsV]
   with_reducible refine CallOk.of (hit i hi) rfl ?_
   cases xs with
   | nil =>
    simp only [rowV, tokV]
    simp (implicitDefEqProofs := false) (disch := omega) only [go_sem, simprocAttr, cellsV]
    refine ⟨⟨(i + 1, k + 1 + 1 + 4 + 5, [v.items.getD i default]), hi, by simp only; rw [e1]; rfl⟩, by simp only; omega, ?_⟩
    simp only [rowV, tokV]
    constructor <;> simp only [go_sem, simprocAttr, decide_eq_true_eq, Int.natCast_add, Int.natCast_one, List.length_singleton, List.length_nil, Nat.zero_add, ite_self, encV_cons, encV_nil, cellsV] <;> try ((repeat' apply And.intro) <;> first | rfl | omega | (congr 3; omega) | (congr 2; omega))
   | cons x q =>
    simp only [List.length_cons] at hxl
    have hq : q.length <= 1000000 := by omega
    simp only [rowV, tokV]
    simp (implicitDefEqProofs := false) (disch := omega) only [go_sem, simprocAttr, cellsV]
    refine ⟨⟨(i + 1, k, x :: (q ++ [v.items.getD i default])), hi, by simp only; rw [e1]; rfl⟩, by simp only; omega, ?_⟩
    simp only [rowV, tokV]
    constructor <;> simp only [go_sem, simprocAttr, decide_eq_true_eq, Int.natCast_add, Int.natCast_one, List.length_cons, List.length_append, List.length_singleton, encV_cons, encV_snoc', encV_nil, List.cons_append, cellsV] <;> try ((repeat' apply And.intro) <;> first | rfl | omega | (congr 3; omega) | (congr 2; omega))
  ·rw [List.take_of_length_le (by omega)] at h2
   simp (implicitDefEqProofs := false) (disch := omega) only [go_sem, simprocAttr, cellsV]
   rw [h2, hr]
end Go.Proofs.YtcgmpcbkndpmbaaDoor

end
section
open Go Go.Proofs Go.Pw Go.RowKit
namespace Go.Proofs.YtcgmpcbkndpmbaaDoor
set_option maxRecDepth 4000
set_option linter.unusedVariables false
set_option linter.unusedSimpArgs false
def bareB (k : Int) (b : Bool) (n : Int) (s : ByteArray) (il kl : Nat) : Bool :=
 (decide (k = 1) || !b) && (decide (k = 2) || decide (n = 0)) && (decide (k = 3) || decide (s = ByteArray.empty)) && (decide (4 <= k) || decide (il = 0)) && (decide (k = 5) || decide (kl = 0))
def sortB : List ByteArray -> Bool
 | x :: y :: r => ltT x y && sortB (y :: r)
 | _ => true
def keyedB (k : Int) (il : Nat) (ks : List ByteArray) : Bool := ks.all isT && sortB ks && (decide (k ≠ 5) || decide (ks.length = il))
mutual
def goodB : V -> Bool
 | .mk k b n s is ks => decide (0 <= k /\ k <= 5) && bareB k b n s is.length ks.length && keyedB k is.length ks && isT s && goodBs is
def goodBs : List V -> Bool
 | [] => true
 | v :: r => goodB v && goodBs r
end
theorem goodBs_eq : ∀ l, goodBs l = l.all goodB
 | [] => by simp [goodBs]
 | v :: r => by simp [goodBs, goodBs_eq r]
theorem goodB_eq (v : V) : goodB v = (decide (0 <= v.kind /\ v.kind <= 5) && bareB v.kind v.b v.n v.s v.items.length v.keys.length && keyedB v.kind v.items.length v.keys && isT v.s && v.items.all goodB) := by
 cases v; rw [goodB, goodBs_eq]; rfl
theorem sortB_iff : ∀ l, sortB l = true ↔ SortT l
 | [] => by simp [sortB, SortT]
 | [x] => by simp [sortB, SortT]
 | x :: y :: r => by
  have ih := sortB_iff (y :: r)
  rw [sortB, Bool.and_eq_true, ih]
  constructor
  ·rintro ⟨h1, h2⟩
   refine List.pairwise_cons.2 ⟨fun z hz => ?_, h2⟩
   rcases List.mem_cons.1 hz with rfl | hz
   ·exact h1
   ·exact ltT_trans h1 ((List.pairwise_cons.1 h2).1 z hz)
  ·intro h
   exact ⟨(List.pairwise_cons.1 h).1 y (by simp), (List.pairwise_cons.1 h).2⟩
theorem isT_empty : isT ByteArray.empty = true := by
 unfold isT
 rw [scan_end (by decide)]
 rfl
mutual
def str60 : V -> Bool
 | .mk _ _ _ s is ks => decide (s.size <= 60) && ks.all (fun k => decide (k.size <= 60)) && str60s is
def str60s : List V -> Bool
 | [] => true
 | v :: r => str60 v && str60s r
end
theorem str60s_eq : ∀ l, str60s l = l.all str60
 | [] => by simp [str60s]
 | v :: r => by simp [str60s, str60s_eq r]
theorem str60_eq (v : V) : str60 v = (decide (v.s.size <= 60) && v.keys.all (fun k => decide (k.size <= 60)) && v.items.all str60) := by
 cases v; rw [str60, str60s_eq]; rfl
mutual
def fitV : V -> Bool
 | .mk _ _ n _ is _ => decide (-9223372036854775808 <= n /\ n <= 9223372036854775807) && fitVs is
def fitVs : List V -> Bool
 | [] => true
 | v :: r => fitV v && fitVs r
end
theorem fitVs_eq : ∀ l, fitVs l = l.all fitV
 | [] => by simp [fitVs]
 | v :: r => by simp [fitVs, fitVs_eq r]
theorem fitV_eq (v : V) : fitV v = (decide (-9223372036854775808 <= v.n /\ v.n <= 9223372036854775807) && v.items.all fitV) := by
 cases v; rw [fitV, fitVs_eq]; rfl
structure TreeOk (v : V) : Prop where
 good : goodB v = true
 str : str60 v = true
 size : nV v <= 40
 fit : fitV v = true
theorem szT_60 : ∀ l : List ByteArray, (l.all fun k => decide (k.size <= 60)) = true -> szT l <= 61 * l.length
 | [], _ => Nat.zero_le _
 | k :: r, h => by
  simp only [List.all_cons, Bool.and_eq_true, decide_eq_true_eq] at h
  have := szT_60 r h.2
  rw [szT, List.length_cons]; omega
theorem sz_of_good : ∀ v, goodB v = true -> str60 v = true -> szV v + 61 <= 122 * nV v := by
 refine V.ind fun v ih hg hs => ?_
 rw [goodB_eq] at hg
 rw [str60_eq] at hs
 simp only [Bool.and_eq_true, decide_eq_true_eq] at hg hs
 obtain ⟨⟨⟨⟨_, hbare⟩, hkey⟩, _⟩, hgi⟩ := hg
 obtain ⟨⟨hs1, hs2⟩, hsi⟩ := hs
 have hk := szT_60 _ hs2
 have hlen : v.keys.length <= v.items.length := by
  unfold bareB at hbare
  unfold keyedB at hkey
  simp only [Bool.and_eq_true, Bool.or_eq_true, decide_eq_true_eq] at hbare hkey
  rcases hbare.2 with h | h
  ·rcases hkey.2 with h' | h'
   ·exact absurd h h'
   ·omega
  ·omega
 have hsum : ∀ l : List V, (∀ x ∈ l, szV x + 61 <= 122 * nV x) -> szVs l + 61 * l.length <= 122 * nVs l := by
  intro l
  induction l with
  | nil => intro _; rw [szVs_nil, nVs_nil]; simp
  | cons x r ihr =>
   intro h
   have h1 := h x (by simp)
   have h2 := ihr (fun y hy => h y (by simp [hy]))
   rw [szVs_cons, nVs_cons, List.length_cons]; omega
 have := hsum v.items (fun x hx => ih x hx (List.all_eq_true.1 hgi x hx) (List.all_eq_true.1 hsi x hx))
 rw [szV_eq, nV_eq]
 omega
theorem TreeOk.sz {v : V} (h : TreeOk v) : szV v <= 5000 := by
 have := sz_of_good v h.good h.str
 have := h.size
 omega
theorem TreeOk.sort {v : V} (h : TreeOk v) : SortT v.keys := by
 have hg := h.good
 rw [goodB_eq] at hg
 simp only [Bool.and_eq_true] at hg
 have hk := hg.1.1.2
 unfold keyedB at hk
 simp only [Bool.and_eq_true] at hk
 exact (sortB_iff _).1 hk.1.2
structure Nd where
 kind : Int
 n : Int
 s : ByteArray
 items : List Int
 keys : List ByteArray
instance : Inhabited Nd := ⟨⟨0, 0, ByteArray.empty, [], []⟩⟩
abbrev cellsN (x : Nd) : List PV := [.val (.int .u8 x.kind), vI x.n, vS x.s, .sl (encC x.items), .sl (encT x.keys)]
def encN (l : List Nd) : List (List PV) := l.map cellsN
theorem encN_len (l : List Nd) : (encN l).length = l.length := by simp [encN]
theorem encN_get (l : List Nd) (i : Nat) : (encN l).getD i [] = if i < l.length then cellsN (l.getD i default) else [] := by
 unfold encN
 by_cases h : i < l.length
 ·simp [h, List.getD_eq_getElem?_getD]
 ·rw [if_neg h, List.getD_eq_getElem?_getD, List.getElem?_eq_none (by simpa using h)]; rfl
theorem ix_N {a : List Nd} {i : Int} {K : PV -> Prop} (h0 : 0 <= i) (h1 : i < (a.length : Int)) : ixP 5 i K (.sl (encN a)) = K (.fp (cellsN (a.getD i.toNat default))) := by
 have h : i.toNat < a.length := by omega
 simp only [ixP, encN_get, if_pos h, encN_len, cellsN, List.length_cons, List.length_nil, h0, h1, true_and]
theorem encC_get (l : List Int) (i : Nat) : (encC l).getD i [] = if i < l.length then [vC (l.getD i 0)] else [] := by
 unfold encC
 by_cases h : i < l.length
 ·simp [h, List.getD_eq_getElem?_getD]
 ·rw [if_neg h, List.getD_eq_getElem?_getD, List.getElem?_eq_none (by simpa using h)]; rfl
theorem ix_C {a : List Int} {i : Int} {K : PV -> Prop} (h0 : 0 <= i) (h1 : i < (a.length : Int)) : ixP 1 i K (.sl (encC a)) = K (.fp [vC (a.getD i.toNat 0)]) := by
 have h : i.toNat < a.length := by omega
 simp only [ixP, encC_get, if_pos h, encC_len, List.length_singleton, h0, h1, true_and]
attribute [go_sem ↓ 2000] ix_N ix_C
attribute [go_sem] encN_len
structure NdOk (x : Nd) : Prop where
 kind : 0 <= x.kind /\ x.kind <= 255
 num : -9223372036854775808 <= x.n /\ x.n <= 9223372036854775807
 items : ∀ d ∈ x.items, 0 <= d /\ d <= 255
 il : x.items.length <= 9223372036854775807
 kl : x.keys.length <= 9223372036854775807
end Go.Proofs.YtcgmpcbkndpmbaaDoor

end
section
open Go Go.Proofs Go.Pw Go.RowKit
namespace Go.Proofs.YtcgmpcbkndpmbaaDoor
set_option maxRecDepth 4000
set_option linter.unusedVariables false
set_option linter.unusedSimpArgs false
abbrev nE (s : ByteArray) (i : Nat) : Int := (nextF s i).1
abbrev nP (s : ByteArray) (i : Nat) : Nat := (nextF s i).2.1
abbrev nT (s : ByteArray) (i : Nat) : Tk := (nextF s i).2.2.1
abbrev nQ (s : ByteArray) (i : Nat) : Nat := (nextF s i).2.2.2
structure An where
 code : Int
 place : Nat
 v : V
 at_ : Nat
def An.bad (e : Int) (p : Nat) : An := ⟨e, p, vZero, 0⟩
def An.good (v : V) (q : Nat) : An := ⟨0, 0, v, q⟩
def Tk.sign (t : Tk) (c : UInt8) : Bool := decide (t.kind = 1) && decide (t.text = ⟨#[c]⟩)
def rItems (s : ByteArray) (f : Nat -> An) : Nat -> Nat -> List V -> An
 | 0, i, l => .bad 1 i
 | n + 1, i, l =>
  if (f i).code ≠ 0 then .bad (f i).code (f i).place else
  if nE s (f i).at_ ≠ 0 then .bad (nE s (f i).at_) (nP s (f i).at_) else
  if (nT s (f i).at_).sign 93 = true then .good (.mk 4 false 0 ByteArray.empty (l ++ [(f i).v]) []) (nQ s (f i).at_) else
  if (nT s (f i).at_).sign 44 = true then rItems s f n (nQ s (f i).at_) (l ++ [(f i).v]) else .bad 1 (nT s (f i).at_).at_
def objV (ks : List ByteArray) (is : List V) : V := match putAll [] [] ks is with
 | some (k, l) => .mk 5 false 0 ByteArray.empty l k
 | none => vZero
def rMems (s : ByteArray) (f : Nat -> An) : Nat -> Nat -> List ByteArray -> List V -> An
 | 0, i, ks, l => .bad 1 i
 | n + 1, i, ks, l =>
  if nE s i ≠ 0 then .bad (nE s i) (nP s i) else
  if (nT s i).kind ≠ 2 then .bad 1 (nT s i).at_ else
  if (ks.any fun k => decide (k = (nT s i).text)) = true then .bad 5 (nT s i).at_ else
  if nE s (nQ s i) ≠ 0 then .bad (nE s (nQ s i)) (nP s (nQ s i)) else
  if (nT s (nQ s i)).sign 58 = false then .bad 1 (nT s (nQ s i)).at_ else
  if (f (nQ s (nQ s i))).code ≠ 0 then .bad (f (nQ s (nQ s i))).code (f (nQ s (nQ s i))).place else
  if nE s (f (nQ s (nQ s i))).at_ ≠ 0 then .bad (nE s (f (nQ s (nQ s i))).at_) (nP s (f (nQ s (nQ s i))).at_) else
  if (nT s (f (nQ s (nQ s i))).at_).sign 125 = true then .good (objV (ks ++ [(nT s i).text]) (l ++ [(f (nQ s (nQ s i))).v])) (nQ s (f (nQ s (nQ s i))).at_) else
  if (nT s (f (nQ s (nQ s i))).at_).sign 44 = true then rMems s f n (nQ s (f (nQ s (nQ s i))).at_) (ks ++ [(nT s i).text]) (l ++ [(f (nQ s (nQ s i))).v]) else .bad 1 (nT s (f (nQ s (nQ s i))).at_).at_
def rArr (s : ByteArray) (f : Nat -> An) (i : Nat) : An :=
 if nE s i ≠ 0 then .bad (nE s i) (nP s i) else
 if (nT s i).sign 93 = true then .good (.mk 4 false 0 ByteArray.empty [] []) (nQ s i) else rItems s f (s.size + 1) i []
def rObj (s : ByteArray) (f : Nat -> An) (i : Nat) : An :=
 if nE s i ≠ 0 then .bad (nE s i) (nP s i) else
 if (nT s i).sign 125 = true then .good (.mk 5 false 0 ByteArray.empty [] []) (nQ s i) else rMems s f (s.size + 1) i [] []
def rLeaf (t : Tk) : Option V :=
 if t.kind = 2 then some (.mk 3 false 0 t.text [] []) else
 if t.kind = 3 then some (.mk 2 false t.int ByteArray.empty [] []) else
 if t.kind = 4 ∨ t.kind = 5 then some (.mk 1 (decide (t.kind = 4)) 0 ByteArray.empty [] []) else
 if t.kind = 6 then some vZero else none
def rVh (s : ByteArray) (i : Nat) (g : An) : An :=
 if nE s i ≠ 0 then .bad (nE s i) (nP s i) else
 match rLeaf (nT s i) with
 | some v => .good v (nQ s i)
 | none => if (nT s i).sign 91 = false /\ (nT s i).sign 123 = false then .bad 1 (nT s i).at_ else g
def rV (s : ByteArray) : Nat -> Nat -> An
 | 0, i => rVh s i (.bad 6 (nT s i).at_)
 | k + 1, i => rVh s i (if (nT s i).sign 91 = true then rArr s (rV s k) (nQ s i) else rObj s (rV s k) (nQ s i))
theorem litF_ge (s w : ByteArray) : ∀ f k i, i <= (litF s w f k i).2 /\ (i <= s.size -> (litF s w f k i).2 <= s.size) /\ ((litF s w f k i).1 = true -> i + f <= (litF s w f k i).2)
 | 0, k, i => by simp [litF]
 | f + 1, k, i => by
  rw [litF]
  split
  ·rename_i h
   have h1 := hasF_lt h
   obtain ⟨h2, h3, h4⟩ := litF_ge s w f (k + 1) (i + 1)
   exact ⟨by omega, fun _ => h3 (by omega), fun h5 => by have := h4 h5; omega⟩
  ·simp
theorem wordF_pos (s : ByteArray) (i : Nat) (hi : i <= s.size) : i <= (wordF s i).2.2 /\ (wordF s i).2.2 <= s.size /\ ((wordF s i).1 = 0 -> i < (wordF s i).2.2 /\ 4 <= (wordF s i).2.1 /\ (wordF s i).2.1 <= 6) := by
 unfold wordF
 have h1 := litF_ge s wd1 4 0 i
 have h2 := litF_ge s wd2 5 0 i
 have h3 := litF_ge s wd3 4 0 i
 repeat' split
 all_goals simp only
 all_goals (refine ⟨by omega, by omega, fun h => ?_⟩)
 all_goals first
  |(exact absurd h (by decide))
  |(rename_i q _; have q' := h1.2.2 q; refine ⟨by omega, by omega, by omega⟩)
  |(rename_i q; have q' := h1.2.2 q; refine ⟨by omega, by omega, by omega⟩)
  |(rename_i q; have q' := h2.2.2 q; refine ⟨by omega, by omega, by omega⟩)
  |(rename_i q; have q' := h3.2.2 q; refine ⟨by omega, by omega, by omega⟩)
theorem numF_pos (s : ByteArray) (i : Nat) (hi : i <= s.size) : (numF s i).1 = 0 -> i < (numF s i).2.2 /\ (numF s i).2.2 <= s.size := by
 have ha := oneP_le (s := s) (some := mnS) hi
 unfold numF
 generalize oneP s mnS i = a at *
 intro h
 have hI : (numI s a).1 = true -> a < (numI s a).2 /\ (numI s a).2 <= s.size := by
  unfold numI
  split
  ·rename_i h; have := hasF_lt h; intro _; simp only; omega
  ·have := passF_le s dgS a ha.2
   intro h
   simp only [Bool.not_eq_true', decide_eq_false_iff_not] at h
   simp only
   omega
 unfold numY at h ⊢
 by_cases h1 : (numI s a).1 = true
 ·rw [if_pos h1] at h ⊢
  obtain ⟨b1, b2⟩ := hI h1
  generalize (numI s a).2 = b at *
  have hD : b <= (numD s b).2 /\ (numD s b).2 <= s.size := by
   unfold numD
   split
   ·rename_i h; have := hasF_lt h; have := passF_le s dgS (b + 1) (by omega); simp only; omega
   ·simp only; omega
  generalize numD s b = c at *
  unfold numX at h ⊢
  by_cases h2 : c.1 = true
  ·rw [if_pos h2] at h ⊢
   have hE : c.2 <= (numE s c.2).2 /\ (numE s c.2).2 <= s.size := by
    unfold numE
    split
    ·rename_i h
     have := hasF_lt h
     have := oneP_le (s := s) (some := pmS) (i := c.2 + 1) (by omega)
     have := passF_le s dgS (oneP s pmS (c.2 + 1)) (by omega)
     simp only; omega
    ·simp only; omega
   by_cases h3 : (numE s c.2).1 = true
   ·rw [if_pos h3] at h ⊢
    unfold numT at h ⊢
    split
    ·simp only; omega
    ·rename_i hn; rw [if_neg hn] at h; exact absurd h (show ¬ (4 : Int) = 0 by decide)
   ·rw [if_neg h3] at h; exact absurd h (show ¬ (1 : Int) = 0 by decide)
  ·rw [if_neg h2] at h; exact absurd h (show ¬ (1 : Int) = 0 by decide)
 ·rw [if_neg h1] at h; exact absurd h (show ¬ (1 : Int) = 0 by decide)
theorem numF_le (s : ByteArray) (i : Nat) (hi : i <= s.size) : (numF s i).2.2 <= s.size := by
 have ha := oneP_le (s := s) (some := mnS) hi
 unfold numF
 generalize oneP s mnS i = a at *
 have hI : a <= (numI s a).2 /\ (numI s a).2 <= s.size := by
  unfold numI
  split
  ·rename_i h; have := hasF_lt h; simp only; omega
  ·have := passF_le s dgS a ha.2
   simp only
   omega
 unfold numY
 split
 ·obtain ⟨b1, b2⟩ := hI
  generalize (numI s a).2 = b at *
  have hD : b <= (numD s b).2 /\ (numD s b).2 <= s.size := by
   unfold numD
   split
   ·rename_i h; have := hasF_lt h; have := passF_le s dgS (b + 1) (by omega); simp only; omega
   ·simp only; omega
  generalize numD s b = c at *
  unfold numX
  split
  ·have hE : c.2 <= (numE s c.2).2 /\ (numE s c.2).2 <= s.size := by
    unfold numE
    split
    ·rename_i h
     have := hasF_lt h
     have := oneP_le (s := s) (some := pmS) (i := c.2 + 1) (by omega)
     have := passF_le s dgS (oneP s pmS (c.2 + 1)) (by omega)
     simp only; omega
    ·simp only; omega
   split
   ·unfold numT
    split <;> (simp only; omega)
   ·simp only; omega
  ·simp only; omega
 ·simp only; omega
theorem txtF_pos (s : ByteArray) : ∀ f i out, i <= s.size -> i <= (txtF s f i out).2.2 /\ (txtF s f i out).2.2 <= s.size /\ ((txtF s f i out).1 = 0 -> i < (txtF s f i out).2.2) /\ (txtF s f i out).2.1.size + 4 * i <= out.size + 4 * (txtF s f i out).2.2
 | 0, i, out, hi => by simp [txtF]; exact hi
 | f + 1, i, out, hi => by
  rw [txtF]
  split
  ·rename_i h; have := hasF_lt h; simp only; omega
  ·split
   ·simp only; omega
   ·rename_i hq he
    have hlt : i < s.size := by omega
    split
    ·have he := escP_range s i hlt
     split
     ·rename_i h0
      have hr := he.2.2 h0
      have ih := txtF_pos s f (escP s i).2.2 (out ++ encF (escP s i).1) he.2.1
      have := encF_size (escP s i).1
      rw [ByteArray.size_append] at ih
      omega
     ·simp only; rename_i h0; refine ⟨he.1, he.2.1, fun h => absurd h h0, by omega⟩
    ·split
     ·simp only; omega
     ·rename_i hd
      have hw : 1 <= (decF (s.extract i s.size)).2.toNat /\ i + (decF (s.extract i s.size)).2.toNat <= s.size := by
       rw [decF_tail hlt] at hd ⊢
       unfold goodN at hd ⊢
       split
       ·rename_i hb; rw [if_pos hb] at hd; exact absurd rfl hd
       ·have := dec_pos s i hlt
        simp only [Int.toNat_natCast]
        exact this
      have ih := txtF_pos s f (i + (decF (s.extract i s.size)).2.toNat) (out ++ encF (decF (s.extract i s.size)).1) hw.2
      have := encF_size (decF (s.extract i s.size)).1
      rw [ByteArray.size_append] at ih
      omega
theorem txtT_pos (s : ByteArray) (i : Nat) (hi : i < s.size) : (txtT s i).2.2 <= s.size /\ i < (txtT s i).2.2 /\ (txtT s i).2.1.size <= 4 * ((txtT s i).2.2 - i) := by
 have := txtF_pos s (s.size - i) (i + 1) ByteArray.empty (by omega)
 unfold txtT
 rw [ByteArray.size_empty] at this
 omega
structure TkOk (s : ByteArray) (i : Nat) : Prop where
 le : nQ s i <= s.size
 ge : i <= nQ s i
 lt : nE s i = 0 -> (nT s i).kind ≠ 0 -> i < nQ s i
 stop : nE s i = 0 -> (nT s i).stop = nQ s i
 at_ : nE s i = 0 -> i <= (nT s i).at_ /\ (nT s i).at_ <= nQ s i
 size : (nT s i).text.size <= 4 * (nQ s i - i)
 kind : nE s i = 0 -> 0 <= (nT s i).kind /\ (nT s i).kind <= 6
 place : nP s i <= s.size
theorem nextE_ok {s : ByteArray} {i b q : Nat} {e : Int} {t : Tk} (hb : i <= b) (hi : i <= s.size) (hq : q <= s.size) (hk : e = 0 -> b < q /\ 0 <= t.kind /\ t.kind <= 6 /\ t.text.size <= 4 * (q - b)) (h : nextF s i = nextE i b e t q) : TkOk s i := by
 by_cases he : e = 0
 ·have hx : nextF s i = (0, 0, { t with at_ := b, stop := q }, q) := by rw [h, nextE, if_pos he]
  obtain ⟨h1, h2, h3, h4⟩ := hk he
  refine ⟨?_, ?_, ?_, ?_, ?_, ?_, ?_, ?_⟩ <;> simp only [nE, nP, nT, nQ, hx] <;> (try intro _) <;> first | omega | exact fun _ => by omega | trivial | exact Nat.zero_le _
 ·have hx : nextF s i = (e, q, tk0, i) := by rw [h, nextE, if_neg he]
  refine ⟨?_, ?_, ?_, ?_, ?_, ?_, ?_, ?_⟩ <;> simp only [nE, nP, nT, nQ, hx] <;> first | omega | exact fun h => absurd h he | (show ByteArray.empty.size <= _; simp)
theorem tk_ok (s : ByteArray) (i : Nat) (hi : i <= s.size) : TkOk s i := by
 have hb := passF_le s blS i hi
 by_cases h1 : passF s blS i = s.size
 ·have hx : nextF s i = (0, 0, ⟨0, ByteArray.empty, 0, passF s blS i, passF s blS i⟩, passF s blS i) := by unfold nextF; rw [if_pos h1]
  refine ⟨?_, ?_, ?_, ?_, ?_, ?_, ?_, ?_⟩ <;> simp only [nE, nP, nT, nQ, hx] <;> first | omega | exact fun _ => by omega | exact fun _ h => absurd rfl h | exact fun _ => rfl | (simp; done)
 ·cases h2 : hasF s mkS (passF s blS i) with
  | true =>
   have hx : nextF s i = nextE i (passF s blS i) 0 ⟨1, s.extract (passF s blS i) (passF s blS i + 1), 0, 0, 0⟩ (passF s blS i + 1) := by unfold nextF; rw [if_neg h1, if_pos h2]
   have := hasF_lt h2
   refine nextE_ok hb.1 hi (by omega) (fun _ => ⟨by omega, by simp only; omega, by simp only; omega, ?_⟩) hx
   simp only [ByteArray.size_extract]; omega
  | false =>
   cases h3 : hasF s qtS (passF s blS i) with
   | true =>
    have hx : nextF s i = nextE i (passF s blS i) (txtT s (passF s blS i)).1 ⟨2, (txtT s (passF s blS i)).2.1, 0, 0, 0⟩ (txtT s (passF s blS i)).2.2 := by unfold nextF; rw [if_neg h1, if_neg (by rw [h2]; decide), if_pos h3]
    have hl := hasF_lt h3
    have ht := txtT_pos s _ hl
    exact nextE_ok hb.1 hi ht.1 (fun _ => ⟨ht.2.1, by simp only; omega, by simp only; omega, ht.2.2⟩) hx
   | false =>
    cases h4 : hasF s nuS (passF s blS i) with
    | true =>
     have hx : nextF s i = nextE i (passF s blS i) (numF s (passF s blS i)).1 ⟨3, ByteArray.empty, (numF s (passF s blS i)).2.1, 0, 0⟩ (numF s (passF s blS i)).2.2 := by unfold nextF; rw [if_neg h1, if_neg (by rw [h2]; decide), if_neg (by rw [h3]; decide), if_pos h4]
     have hn := numF_pos s _ hb.2
     have hn2 := numF_le s _ hb.2
     exact nextE_ok hb.1 hi hn2 (fun h => ⟨(hn h).1, by simp only; omega, by simp only; omega, by simp⟩) hx
    | false =>
     have hx : nextF s i = nextE i (passF s blS i) (wordF s (passF s blS i)).1 ⟨(wordF s (passF s blS i)).2.1, ByteArray.empty, 0, 0, 0⟩ (wordF s (passF s blS i)).2.2 := by unfold nextF; rw [if_neg h1, if_neg (by rw [h2]; decide), if_neg (by rw [h3]; decide), if_neg (by rw [h4]; decide)]
     have hw := wordF_pos s _ hb.2
     exact nextE_ok hb.1 hi hw.2.1 (fun h => ⟨(hw.2.2 h).1, by simp only; have := (hw.2.2 h).2; omega, by simp only; have := (hw.2.2 h).2; omega, by simp⟩) hx
def AnOk (s : ByteArray) (i : Nat) (A : An) : Prop := A.code = 0 -> i < A.at_ /\ A.at_ <= s.size /\ szV A.v <= 5 * (A.at_ - i)
theorem AnOk.bad {s : ByteArray} {i : Nat} {e : Int} {p : Nat} (h : e ≠ 0) : AnOk s i (.bad e p) := fun h' => absurd h' h
theorem sign_kind {t : Tk} {c : UInt8} (h : t.sign c = true) : t.kind = 1 := by
 unfold Tk.sign at h
 simp only [Bool.and_eq_true, decide_eq_true_eq] at h
 exact h.1
theorem sign_text {t : Tk} {c : UInt8} (h : t.sign c = true) : t.text = ⟨#[c]⟩ := by
 unfold Tk.sign at h
 simp only [Bool.and_eq_true, decide_eq_true_eq] at h
 exact h.2
theorem szVs_insA (l : List V) (i : Nat) (y : V) : szVs (insAt l i y) = szVs l + szV y := by
 unfold insAt
 rw [szVs_app, szVs_app, szVs_cons, szVs_nil]
 have := szVs_app (l.take i) (l.drop i)
 rw [List.take_append_drop] at this
 omega
theorem szT_appA : ∀ (l m : List ByteArray), szT (l ++ m) = szT l + szT m
 | [], m => by simp [szT]
 | k :: r, m => by rw [List.cons_append, szT, szT, szT_appA r m]; omega
theorem szT_insA (l : List ByteArray) (i : Nat) (y : ByteArray) : szT (insAt l i y) = szT l + (1 + y.size) := by
 unfold insAt
 rw [szT_appA, szT_appA, szT, szT]
 have := szT_appA (l.take i) (l.drop i)
 rw [List.take_append_drop] at this
 omega
theorem putAll_sz : ∀ (r : List ByteArray) (vs : List V) (ks : List ByteArray) (is : List V) K I, putAll ks is r vs = some (K, I) -> szT K <= szT ks + szT r /\ szVs I <= szVs is + szVs vs
 | [], vs, ks, is, K, I, h => by
  rw [putAll] at h
  ·simp only [Option.some.injEq, Prod.mk.injEq] at h
   obtain ⟨rfl, rfl⟩ := h
   omega
  ·intro k r v vs h; cases h
 | k :: r, [], ks, is, K, I, h => by
  rw [putAll] at h
  ·simp only [Option.some.injEq, Prod.mk.injEq] at h
   obtain ⟨rfl, rfl⟩ := h
   omega
  ·intro k r v vs _ h; cases h
 | k :: r, v :: vs, ks, is, K, I, h => by
  rw [putAll] at h
  split at h
  ·cases h
  ·have := putAll_sz r vs _ _ K I h
   rw [szT_insA, szVs_insA] at this
   rw [szT, szVs_cons]
   omega
theorem objV_sz (ks : List ByteArray) (is : List V) : szV (objV ks is) <= 1 + szT ks + szVs is := by
 unfold objV
 split
 ·rename_i k l h
  have := putAll_sz _ _ _ _ _ _ h
  rw [szV_eq]
  simp only [V.s_mk, V.keys_mk, V.items_mk, szT, szVs_nil, ByteArray.size_empty] at this ⊢
  omega
 ·rw [szV_eq]
  simp [vZero, V.s, V.keys, V.items, szT, szVs_nil]
  omega
theorem rItems_ok {s : ByteArray} {f : Nat -> An} (hf : ∀ i, i <= s.size -> AnOk s i (f i)) (b : Nat) : ∀ n i l, b < i -> i <= s.size -> 1 + szVs l <= 5 * (i - b) -> AnOk s b (rItems s f n i l)
 | 0, i, l, h0, hi, hl => .bad (by decide)
 | n + 1, i, l, h0, hi, hl => by
  rw [rItems]
  split
  ·exact .bad (by assumption)
  ·rename_i h1
   have a := hf i hi (by omega)
   have t := tk_ok s (f i).at_ a.2.1
   split
   ·exact .bad (by assumption)
   ·rename_i h2
    have h2' : nE s (f i).at_ = 0 := by omega
    have hl2 : szVs (l ++ [(f i).v]) = szVs l + szV (f i).v := by rw [szVs_app, szVs_cons, szVs_nil]; omega
    split
    ·rename_i h3
     have t1 := t.lt h2' (by rw [sign_kind h3]; decide)
     have t2 := t.le
     intro _
     refine ⟨?_, ?_, ?_⟩
     ·show b < nQ _ _; omega
     ·exact t2
     ·show szV (.mk 4 false 0 ByteArray.empty (l ++ [(f i).v]) []) <= 5 * (nQ s (f i).at_ - b)
      rw [szV_eq]
      simp only [V.s_mk, V.keys_mk, V.items_mk, szT, ByteArray.size_empty]
      omega
    ·split
     ·rename_i h4
      have t1 := t.lt h2' (by rw [sign_kind h4]; decide)
      exact rItems_ok hf b n _ _ (by omega) t.le (by rw [hl2]; omega)
     ·exact .bad (by decide)
theorem rMems_ok {s : ByteArray} {f : Nat -> An} (hf : ∀ i, i <= s.size -> AnOk s i (f i)) (b : Nat) : ∀ n i ks l, b < i -> i <= s.size -> 1 + szT ks + szVs l <= 5 * (i - b) -> AnOk s b (rMems s f n i ks l)
 | 0, i, ks, l, h0, hi, hl => .bad (by decide)
 | n + 1, i, ks, l, h0, hi, hl => by
  rw [rMems]
  have t1 := tk_ok s i hi
  split
  ·exact .bad (by assumption)
  rename_i e1
  split
  ·exact .bad (by decide)
  rename_i k1
  split
  ·exact .bad (by decide)
  have t2 := tk_ok s (nQ s i) t1.le
  split
  ·exact .bad (by assumption)
  rename_i e2
  split
  ·exact .bad (by decide)
  rename_i k2
  have a0 := hf (nQ s (nQ s i)) t2.le
  split
  ·exact .bad (by assumption)
  rename_i e3
  have a := a0 (by omega)
  have t3 := tk_ok s _ a.2.1
  split
  ·exact .bad (by assumption)
  rename_i e4
  have p1 := t1.lt (by omega) (by omega)
  have p2 := t2.lt (by omega) (by rw [sign_kind (c := 58) (by simpa using k2)]; decide)
  have z1 := t1.size
  have hl2 : szVs (l ++ [(f (nQ s (nQ s i))).v]) = szVs l + szV (f (nQ s (nQ s i))).v := by rw [szVs_app, szVs_cons, szVs_nil]; omega
  have hk2 : szT (ks ++ [(nT s i).text]) = szT ks + (1 + (nT s i).text.size) := by rw [szT_appA, szT, szT]; rfl
  split
  ·rename_i h3
   have p3 := t3.lt (by omega) (by rw [sign_kind h3]; decide)
   intro _
   refine ⟨?_, ?_, ?_⟩
   ·show b < nQ _ _; omega
   ·exact t3.le
   ·show szV (objV _ _) <= 5 * (nQ _ _ - b)
    have := objV_sz (ks ++ [(nT s i).text]) (l ++ [(f (nQ s (nQ s i))).v])
    omega
  ·split
   ·rename_i h4
    have p3 := t3.lt (by omega) (by rw [sign_kind h4]; decide)
    exact rMems_ok hf b n _ _ _ (by omega) t3.le (by rw [hl2, hk2]; omega)
   ·exact .bad (by decide)
theorem rLeaf_ok {s : ByteArray} {i : Nat} (hi : i <= s.size) (h : nE s i = 0) {v : V} (hv : rLeaf (nT s i) = some v) : i < nQ s i /\ nQ s i <= s.size /\ szV v <= 5 * (nQ s i - i) := by
 have t := tk_ok s i hi
 have hk : (nT s i).kind ≠ 0 := fun e => by unfold rLeaf at hv; rw [e] at hv; simp at hv
 have := t.lt h hk
 have z := t.size
 refine ⟨this, t.le, ?_⟩
 unfold rLeaf at hv
 repeat' split at hv
 all_goals first | (cases hv; done) | (obtain rfl := Option.some.inj hv; rw [szV_eq]; simp only [vZero, V.s_mk, V.keys_mk, V.items_mk, szT, szVs_nil, ByteArray.size_empty]; omega)
theorem rVh_ok {s : ByteArray} {i : Nat} (hi : i <= s.size) {g : An} (hg : nE s i = 0 -> (nT s i).kind = 1 -> AnOk s i g) : AnOk s i (rVh s i g) := by
 unfold rVh
 split
 ·exact .bad (by assumption)
 rename_i e1
 have e1' : nE s i = 0 := by omega
 split
 ·rename_i v hv
  intro _
  exact rLeaf_ok hi e1' hv
 ·split
  ·exact .bad (by decide)
  ·rename_i hs
   refine hg e1' ?_
   cases h : (nT s i).sign 91 with
   | true => exact sign_kind h
   | false =>
    cases h' : (nT s i).sign 123 with
    | true => exact sign_kind h'
    | false => exact absurd ⟨h, h'⟩ hs
theorem rArr_ok {s : ByteArray} {f : Nat -> An} (ih : ∀ i, i <= s.size -> AnOk s i (f i)) {i : Nat} (hi : i <= s.size) (h1 : nE s i = 0) (hk : (nT s i).kind = 1) : AnOk s i (rArr s f (nQ s i)) := by
 have t := tk_ok s i hi
 have p := t.lt h1 (by omega)
 have t2 := tk_ok s (nQ s i) t.le
 unfold rArr
 split
 ·exact .bad (by assumption)
 rename_i e2
 split
 ·rename_i h3
  have p3 := t2.lt (by omega) (by rw [sign_kind h3]; decide)
  intro _
  refine ⟨?_, t2.le, ?_⟩
  ·show i < nQ _ _; omega
  ·show szV (.mk 4 false 0 ByteArray.empty [] []) <= 5 * (nQ _ _ - i)
   rw [szV_eq]
   simp only [V.s_mk, V.keys_mk, V.items_mk, szT, szVs_nil, ByteArray.size_empty]
   omega
 ·exact rItems_ok ih i _ _ _ (by omega) t.le (by rw [szVs_nil]; omega)
theorem rObj_ok {s : ByteArray} {f : Nat -> An} (ih : ∀ i, i <= s.size -> AnOk s i (f i)) {i : Nat} (hi : i <= s.size) (h1 : nE s i = 0) (hk : (nT s i).kind = 1) : AnOk s i (rObj s f (nQ s i)) := by
 have t := tk_ok s i hi
 have p := t.lt h1 (by omega)
 have t2 := tk_ok s (nQ s i) t.le
 unfold rObj
 split
 ·exact .bad (by assumption)
 rename_i e2
 split
 ·rename_i h3
  have p3 := t2.lt (by omega) (by rw [sign_kind h3]; decide)
  intro _
  refine ⟨?_, t2.le, ?_⟩
  ·show i < nQ _ _; omega
  ·show szV (.mk 5 false 0 ByteArray.empty [] []) <= 5 * (nQ _ _ - i)
   rw [szV_eq]
   simp only [V.s_mk, V.keys_mk, V.items_mk, szT, szVs_nil, ByteArray.size_empty]
   omega
 ·exact rMems_ok ih i _ _ _ _ (by omega) t.le (by rw [szT, szVs_nil]; omega)
theorem rV_ok (s : ByteArray) : ∀ k i, i <= s.size -> AnOk s i (rV s k i)
 | 0, i, hi => by
  rw [rV]
  exact rVh_ok hi (fun _ _ => .bad (by decide))
 | k + 1, i, hi => by
  rw [rV]
  refine rVh_ok hi (fun h1 hk => ?_)
  split
  ·exact rArr_ok (rV_ok s k) hi h1 hk
  ·exact rObj_ok (rV_ok s k) hi h1 hk
end Go.Proofs.YtcgmpcbkndpmbaaDoor

end
section
namespace Go.Pw
open Go Go.RowKit
set_option linter.unusedVariables false
set_option linter.unusedSimpArgs false
section
variable {P : Program} {own : Nat -> Prop} {S0 : Base} {w0 w : World} {C : Cx} {U V : Nat -> Prop} {st : PS}
theorem Rel.freezeBoxK (R : Rel own S0 w0 C U V st w) {i : Nat} {T : TypeId} {cs ds : List PV} (k : Nat) (ho : lkp st.heap i = some (.box T cs)) (hf : fzL (cs.take k) = some ds) :
  ∃ S1, Rel own S0 w0 { C with S := S1 } U V { st with heap := dropH [i] st.heap } w /\ Ext C { C with S := S1 } st.toks st.toks U V U V /\
   ∀ (off : Nat) (j : Nat) (p : PV), (ds.drop off)[j]? = some p -> ∃ u, S1 (C.ρ i) (off + j) = some u /\ RepF S1 u p := by
 let S1 : Cells := fun b o => if b = C.ρ i then w.cell? ⟨b, o, none⟩ else C.S b o
 obtain ⟨vs, hb, hs, hv⟩ := R.box i T cs ho
 obtain ⟨k1, k2, k3, k4⟩ := R.hown i _ ho
 have le : SLe C.S S1 := fun b o v h => by
  show (if _ then _ else _) = _
  by_cases e : b = C.ρ i
  ·rw [if_pos e]; exact R.stable b o v h
  ·rw [if_neg e]; exact h
 have out : ∀ b o, b ≠ C.ρ i -> S1 b o = C.S b o := fun b o h => if_neg h
 have X : Ext C { C with S := S1 } st.toks st.toks U V U V := ⟨le, fun _ _ => rfl, fun k t _ h => ⟨t, h, Nat.le_refl _, rfl, fun _ => rfl⟩, fun _ h => h, fun _ h => h⟩
 have hd : ∀ j o, lkp (dropH [i] st.heap) j = some o -> j ≠ i /\ lkp st.heap j = some o := fun j o h => by
  rw [dropH_lkp] at h
  split at h
  ·cases h
  ·rename_i hn; exact ⟨by simpa using hn, h⟩
 have apart : ∀ j o, lkp (dropH [i] st.heap) j = some o -> C.ρ j ≠ C.ρ i := fun j o h e => (hd j o h).1 (R.hinj j i o _ (hd j o h).2 ho e)
 refine ⟨S1, ⟨R.frame, fun b o v h => ?_, fun j T' cs' h => ?_, fun j s pos h => R.iter j s pos (hd j _ h).2, fun j o h => ?_, fun a b oa ob h1 h2 => R.hinj a b oa ob (hd _ _ h1).2 (hd _ _ h2).2, fun k t h => ?_, fun j oj k t h1 h2 => R.tbox j oj k t (hd _ _ h1).2 h2, R.tinj, fun b o v h => ?_, fun b o v h => le _ _ _ (R.sold b o v h), R.base.trans X, R.glob⟩, X, fun off j p hp => ?_⟩
 ·replace h : (if b = C.ρ i then w.cell? ⟨b, o, none⟩ else C.S b o) = some v := h
  split at h
  ·exact h
  ·exact R.stable b o v h
 ·obtain ⟨us, h1, h2, h3⟩ := R.box j T' cs' (hd j _ h).2
  exact ⟨us, h1, h2, fun a v p hv hp => ⟨(h3 a v p hv hp).1, (h3 a v p hv hp).2.ext X⟩⟩
 ·obtain ⟨h1, h2, h3, h4⟩ := R.hown j o (hd j o h).2
  exact ⟨h1, h2, h3, fun o' => (out _ _ (apart j o h)).trans (h4 o')⟩
 ·obtain ⟨h1, h2, h3, h4, h5, h6⟩ := R.tok k t h
  exact ⟨h1, h2, h3, h4, h5, fun o ho' => (out _ _ (fun e => R.tbox i _ k t ho h e.symm)).trans (h6 o ho')⟩
 ·replace h : (if b = C.ρ i then w.cell? ⟨b, o, none⟩ else C.S b o) = some v := h
  split at h
  ·rename_i e; rw [e]; exact .inr k3
  ·exact R.snew b o v h
 ·rw [List.getElem?_drop] at hp
  obtain ⟨e1, e2⟩ := fzL_get hf
  have hi0 : off + j < (cs.take k).length := by rw [e1]; exact (List.getElem?_eq_some_iff.1 hp).1
  rw [List.length_take] at hi0
  have hi : off + j < cs.length := by omega
  have hc := List.getElem?_eq_getElem hi
  have hc0 : (cs.take k)[off + j]? = some cs[off + j] := by rw [List.getElem?_take_of_lt (by omega)]; exact hc
  have hvi : vs[off + j]? = some (vs[off + j]'(by omega)) := Array.getElem?_eq_getElem (by omega)
  refine ⟨_, ?_, (fz_rep (C := C) (e2 _ _ p hc0 hp) (hv _ _ _ hvi hc).2).mono le⟩
  show (if _ then _ else _) = _
  rw [if_pos rfl, cell_of_row w (C.ρ i) (off + j) vs T (0, 0) hb]
  exact hvi
mutual
def PV.mf (i sz : Nat) (ds : List PV) : PV -> PV
 | .val v => .val v
 | .sl xs => .sl xs
 | .row k xs => .row k xs
 | .ptr j o => .ptr j o
 | .ms j lo n c => if j = i /\ lo + n * sz <= ds.length then .sl (chunks sz n (ds.drop lo)) else .ms j lo n c
 | .fp cs => .fp cs
 | .agg cs => .agg (PV.mfL i sz ds cs)
 | .tup cs => .tup (PV.mfL i sz ds cs)
 | .fn h cs => .fn h (PV.mfL i sz ds cs)
 | .bm h cs => .bm h (PV.mfL i sz ds cs)
 | .iface t p => .iface t (PV.mf i sz ds p)
def PV.mfL (i sz : Nat) (ds : List PV) : List PV -> List PV
 | [] => []
 | p :: r => PV.mf i sz ds p :: PV.mfL i sz ds r
end
theorem mfL_get {i sz : Nat} {ds : List PV} : ∀ {cs : List PV} (j : Nat), (PV.mfL i sz ds cs)[j]? = (cs[j]?).map (PV.mf i sz ds)
 | [], j => by simp [PV.mfL]
 | p :: r, 0 => by simp [PV.mfL]
 | p :: r, j + 1 => by simp [PV.mfL, mfL_get j]
theorem mfL_len {i sz : Nat} {ds : List PV} : ∀ {cs : List PV}, (PV.mfL i sz ds cs).length = cs.length
 | [] => rfl
 | p :: r => by rw [PV.mfL, List.length_cons, mfL_len, List.length_cons]
theorem RepV.mf {T : List (Nat × Tok)} {i sz : Nat} {ds : List PV} (h : ∀ (off : Nat) (j : Nat) (p : PV), (ds.drop off)[j]? = some p -> ∃ u, C.S (C.ρ i) (off + j) = some u /\ RepF C.S u p) {v : Value} {p : PV} (r : RepV C T U V v p) : RepV C T U V v (p.mf i sz ds) := by
 induction r with
 | @frz v p h' =>
  cases h' with
  | val h1 => exact .frz (.val h1)
  | sl f a b c d e => exact .frz (.sl f a b c d e)
 | row h hk ht => exact .row h hk ht
 | ptr hU => exact .ptr hU
 | @ms id lo n cap hU hc =>
  simp only [PV.mf]
  split
  ·rename_i e
   obtain ⟨rfl, e⟩ := e
   have cell : ∀ j k, j < n -> k < sz -> ∃ u p, C.S (C.ρ id) (lo + (j * sz + k)) = some u /\ ds[lo + (j * sz + k)]? = some p /\ RepF C.S u p := fun j k hj hk => by
    have h1 : (j + 1) * sz <= n * sz := Nat.mul_le_mul_right sz hj
    rw [Nat.add_mul, Nat.one_mul] at h1
    have hlt : lo + (j * sz + k) < ds.length := by omega
    obtain ⟨u, h2, h3⟩ := h lo (j * sz + k) ds[lo + (j * sz + k)] (by rw [List.getElem?_drop]; exact List.getElem?_eq_getElem hlt)
    exact ⟨u, _, h2, List.getElem?_eq_getElem hlt, h3⟩
   refine .frz (.sl (sz := sz) (fun j k => (C.S (C.ρ id) (lo + (j * sz + k))).getD (.bool false)) (chunks_len _ _ _) hc (fun x hx => ?_) (fun h0 => ⟨_, _, rfl, fun j k hj hk => ?_⟩) (fun j k x p hx hp => ?_))
   ·obtain ⟨j, hj, rfl⟩ := List.mem_iff_getElem.1 hx
    rw [chunks_len] at hj
    have hj2 := chunks_get (sz := sz) (cs := ds.drop lo) hj
    rw [List.getElem?_eq_getElem (by rw [chunks_len]; exact hj)] at hj2
    obtain hj3 := Option.some.inj hj2
    rw [hj3, List.length_take, List.length_drop, List.length_drop]
    have h1 : (j + 1) * sz <= n * sz := Nat.mul_le_mul_right sz hj
    rw [Nat.add_mul, Nat.one_mul] at h1
    omega
   ·obtain ⟨u, p, h1, _, _⟩ := cell j k hj hk
    rw [h1]; rfl
   ·have hj : j < n := by
     have := (List.getElem?_eq_some_iff.1 hx).1
     rwa [chunks_len] at this
    rw [chunks_get hj] at hx
    obtain rfl := Option.some.inj hx
    have hk : k < sz := by
     have := (List.getElem?_eq_some_iff.1 hp).1
     rw [List.length_take] at this
     omega
    obtain ⟨u, q, h1, h2, h3⟩ := cell j k hj hk
    rw [List.getElem?_take_of_lt hk, List.getElem?_drop, List.getElem?_drop] at hp
    rw [h2] at hp
    obtain rfl := Option.some.inj hp
    rw [h1]
    exact h3
  ·exact .ms hU hc
 | fp h => exact .fp h
 | agg hs h h1 ih =>
  refine .agg (by rw [mfL_len]; exact hs) (fun i v p hv hp => ?_) h1
  rw [mfL_get] at hp
  obtain ⟨q, hq, rfl⟩ := Option.map_eq_some_iff.1 hp
  exact ih i v q hv hq
 | tup hs h ih =>
  refine .tup (by rw [mfL_len]; exact hs) (fun i v p hv hp => ?_)
  rw [mfL_get] at hp
  obtain ⟨q, hq, rfl⟩ := Option.map_eq_some_iff.1 hp
  exact ih i v q hv hq
 | fn hs h ih =>
  refine .fn (by rw [mfL_len]; exact hs) (fun i v p hv hp => ?_)
  rw [mfL_get] at hp
  obtain ⟨q, hq, rfl⟩ := Option.map_eq_some_iff.1 hp
  exact ih i v q hv hq
 | bm hs h ih =>
  refine .bm (by rw [mfL_len]; exact hs) (fun i v p hv hp => ?_)
  rw [mfL_get] at hp
  obtain ⟨q, hq, rfl⟩ := Option.map_eq_some_iff.1 hp
  exact ih i v q hv hq
 | iface h ih => exact .iface ih
def endG (P : Program) (L : Nat × Nat) (Q : PV -> PS -> Prop) (l : List PV) (st : PS) : Prop :=
 (∃ st', Q (packR (l.map frR)) st' /\ Weak L { st with env := [(0, packR (l.map frR))] } { st' with env := [(0, packR (l.map frR))] }) ∨
 ∃ (i : Nat) (T : TypeId) (cs ds : List PV) (sz k : Nat), lkp st.heap i = some (.box T cs) /\ fzL (cs.take k) = some ds /\
  ∃ st', Q (packR ((l.map (PV.mf i sz ds)).map frR)) st' /\ Weak L { st with heap := dropH [i] st.heap, env := [(0, packR ((l.map (PV.mf i sz ds)).map frR))] } { st' with env := [(0, packR ((l.map (PV.mf i sz ds)).map frR))] }
def outG (P : Program) (fn : Func) (L : Nat × Nat) (Q : PV -> PS -> Prop) : Exit -> PS -> Prop
 | .normal, st => bindO (resAll P st fn.results.toList) fun l => endG P L Q l st
 | .ret, st => bindO (resAll P st fn.results.toList) fun l => endG P L Q l st
 | _, _ => False
theorem OkI.of_pwpG (hm : P.follows .mixedOrders = true) {f : FuncId} {fn : Func} {c : Code} {args : List PV} {st : PS} {Q : PV -> PS -> Prop} (hf : P.funcs[f]? = some fn) (hb : fn.body = some c) (hent : enters P f = true)
  {bar : Nat -> Option Nat} (hfit : fitsC bar (args.length + (fn.ntmps - args.length)) c = true) (h : pwp P ⟨(st.nx, st.nt), bar⟩ c { st with env := enterEnv 0 args } (outG P fn (st.nx, st.nt) Q)) : OkI P f args st Q := by
 refine ⟨hent, fun own S0 w0 w C vals R hsz hrep => ?_⟩
 refine calls_of_wp hf hb ?_
 have hst : Stt own ⟨S0.S, C, st.toks, (· < st.nx), (· < st.nt)⟩ w0 (args.length + (fn.ntmps - args.length)) { st with env := enterEnv 0 args } { tmps := vals ++ Array.replicate (fn.ntmps - vals.size) undef, defers := [] } w := by
  refine ⟨rfl, by simp [hsz], C, ⟨R.frame, R.stable, R.box, R.iter, R.hown, R.hinj, R.tok, R.tbox, R.tinj, R.snew, R.sold, Ext.refl _ _ _ _, R.glob⟩, ?_⟩
  intro t p h
  obtain ⟨_, h2⟩ := enterEnv_lkp args 0 t p h
  rw [Nat.sub_zero] at h2
  have ht : t < vals.size := by rw [hsz]; exact (List.getElem?_eq_some_iff.1 h2).1
  have hv : vals[t]? = some vals[t] := Array.getElem?_eq_getElem ht
  refine ⟨vals[t], ?_, hrep t _ p hv h2⟩
  show (vals ++ Array.replicate _ undef)[t]? = _
  rw [Array.getElem?_append_left ht]
  exact hv
 refine wp_mono (pwp_sound hm ⟨fun _ h => h, fun _ h => h⟩ c _ _ _ w hfit h hst) ?_
 have core : ∀ (s : PS) (w' : World) (C1 : Cx) (v : Value) (r : PV) (st' : PS), Rel own ⟨S0.S, C, st.toks, (· < st.nx), (· < st.nt)⟩ w0 C1 (· < s.nx) (· < s.nt) s w' -> RepV C1 s.toks (· < s.nx) (· < s.nt) v r -> Weak (st.nx, st.nt) { s with env := [(0, r)] } { st' with env := [(0, r)] } ->
   ∃ C2, Rel own S0 w0 C2 (· < st'.nx) (· < st'.nt) st' w' /\ Ext C C2 st.toks st'.toks (· < st.nx) (· < st.nt) (· < st'.nx) (· < st'.nt) /\ RepV C2 st'.toks (· < st'.nx) (· < st'.nt) v r := by
  intro s w' C1 v r st' R1 hrep hw
  have hs1 : Stt own ⟨S0.S, C, st.toks, (· < st.nx), (· < st.nt)⟩ w0 1 { s with env := [(0, r)] } { tmps := #[v], defers := [] } w' := by
   refine ⟨rfl, rfl, C1, R1.env_ _, ?_⟩
   intro t p h
   simp only [lkp] at h
   split at h
   ·rename_i e
    subst e
    obtain rfl := Option.some.inj h
    exact ⟨v, rfl, hrep⟩
   ·cases h
  obtain ⟨_, _, C2, R2, E2⟩ := hs1.weak ⟨fun _ h => h, fun _ h => h⟩ hw
  obtain ⟨u, hu, hr⟩ := E2 0 r (by simp [lkp])
  have hu' : u = v := by simpa using hu.symm
  subst hu'
  have R3 := R2.env_ st'.env
  exact ⟨C2, ⟨R3.frame, R3.stable, R3.box, R3.iter, R3.hown, R3.hinj, R3.tok, R3.tbox, R3.tinj, R3.snew, R3.sold, R.base.trans R2.base, R.glob⟩, R2.base, hr⟩
 have fin : ∀ (s : PS) (a' : Act) (w' : World), Stt own ⟨S0.S, C, st.toks, (· < st.nx), (· < st.nt)⟩ w0 (args.length + (fn.ntmps - args.length)) s a' w' ->
   (bindO (resAll P s fn.results.toList) fun l => endG P (st.nx, st.nt) Q l s) ->
   a'.defers = [] /\ ∃ v, (results fn a'.tmps).run P w' = .ok v w' /\ ∃ r st' v' C', Q r st' /\ Ending.returned v = Ending.returned v' /\ Rel own S0 w0 C' (· < st'.nx) (· < st'.nt) st' w' /\
    Ext C C' st.toks st'.toks (· < st.nx) (· < st.nt) (· < st'.nx) (· < st'.nt) /\ RepV C' st'.toks (· < st'.nx) (· < st'.nt) v' r := by
  intro s a' w' ⟨h1, h2, C1, R1, E1⟩ hk
  replace hk := bindO_elim hk
  obtain ⟨l, hl, hk⟩ := hk
  obtain ⟨vs, g1, g2, g3⟩ := resAll_sound (P := P) R1 E1 _ _ hl
  have hrun : (results fn a'.tmps).run P w' = .ok (if h : vs.toArray.size = 1 then vs.toArray[0] else .tuple vs.toArray) w' := by
   rw [results_eq, Array.mapM_eq_mapM_toList, Sem.run_bind, Sem.run_map, g1]
   rfl
  rcases hk with ⟨st', hQ, hw⟩ | ⟨i, T, cs, ds, sz, k, ho, hfz, st', hQ, hw⟩
  ·have hrep := packR_rep (vs := vs) (l := l.map frR) (by rw [List.length_map]; exact g2) (fun i v p hv hp => by
    rw [List.getElem?_map] at hp
    obtain ⟨q, hq, rfl⟩ := Option.map_eq_some_iff.1 hp
    exact frR_rep (g3 i v q hv hq))
   generalize (if h : vs.toArray.size = 1 then vs.toArray[0] else .tuple vs.toArray) = v at hrun hrep
   obtain ⟨C2, c1, c2, c3⟩ := core s w' C1 v _ st' R1 hrep hw
   exact ⟨h1, v, hrun, _, st', v, C2, hQ, rfl, c1, c2, c3⟩
  ·obtain ⟨S1, R2, X, hc⟩ := R1.freezeBoxK k ho hfz
   have hrep := packR_rep (vs := vs) (l := (l.map (PV.mf i sz ds)).map frR) (C := { C1 with S := S1 }) (T := s.toks) (U := (· < s.nx)) (V := (· < s.nt)) (by rw [List.length_map, List.length_map]; exact g2) (fun k v p hv hp => by
    rw [List.getElem?_map, List.getElem?_map] at hp
    obtain ⟨q, hq, rfl⟩ := Option.map_eq_some_iff.1 hp
    obtain ⟨q', hq', rfl⟩ := Option.map_eq_some_iff.1 hq
    exact frR_rep (RepV.mf (C := { C1 with S := S1 }) hc ((g3 k v q' hv hq').ext X)))
   generalize (if h : vs.toArray.size = 1 then vs.toArray[0] else .tuple vs.toArray) = v at hrun hrep
   obtain ⟨C2, c1, c2, c3⟩ := core { s with heap := dropH [i] s.heap } w' { C1 with S := S1 } v _ st' R2 hrep hw
   exact ⟨h1, v, hrun, _, st', v, C2, hQ, rfl, c1, c2, c3⟩
 rintro e a' w' ⟨s, hq, hs⟩
 cases e with
 | normal => exact fin s a' w' hs hq
 | ret => exact fin s a' w' hs hq
 | _ => exact hq.elim
end
theorem p_join {P : Program} {L : Lim} {a b : Code} {st : PS} {Q : Exit -> PS -> Prop} {D : Type} (I : D -> PS) (hb : ∀ d st, Weak L.l st (I d) -> pwp P L b st Q) (h : ∀ K : PS -> Prop, (∀ d st, Weak L.l st (I d) -> K st) -> pwp P L a st (fun x st' => match x with | .normal => K st' | x => Q x st')) : pwp P L (.seq a b) st Q := h _ hb
theorem p_weak {P : Program} {l0 : Nat × Nat} {st : PS} {Q : Exit -> PS -> Prop} {bar : Nat -> Option Nat} {r : Nat} {l : List Oper} {st' : PS} (hw : Weak l0 st st') (h : pwp P ⟨l0, noBar⟩ (.region r l.toArray false) st' Q) (hb : bar r = some 1000 := by rfl) : pwp P ⟨l0, bar⟩ (.region r l.toArray false) st Q := by
 simp only [pwp, hb, if_true] at h ⊢
 exact ⟨st', hw, h⟩
attribute [go_sem] PV.mf PV.mfL outG
end Go.Pw

end
section
open Go Go.Proofs Go.Pw Go.RowKit
namespace Go.Proofs.YtcgmpcbkndpmbaaDoor
set_option maxRecDepth 4000
set_option linter.unusedVariables false
set_option linter.unusedSimpArgs false
attribute [local go_sem] Nat.le_refl Tk.cells Tryd.results11 Tryd.results13 Tryd.results26 Tryd.results9 str_eq
structure RS where
 tk : Tk
 i : Nat
 place : Int
 code : Int
abbrev rdC (D : Int) (r : RS) : List PV := [vI r.tk.kind, vS r.tk.text, vI r.tk.int, vI r.tk.at_, vI r.tk.stop, vI D, vI r.place, vI r.code]
abbrev rdH (s : ByteArray) (D : Int) (r : RS) : List (Nat × PObj) := [(0, .box 42 (.ptr 1 0 :: rdC D r)), (1, .box 47 [vS s, vI r.i])]
def RdQ {X : Type} (s : ByteArray) (D : Int) (P : X -> Prop) (R : X -> PV) (rs : X -> RS) (r : PV) (st : PS) : Prop := ∃ x, P x /\ r = R x /\ st.heap = rdH s D (rs x) /\ st.toks = [] /\ st.nx = 2
def RdOk {X : Type} (g : FuncId) (ags : List PV) (s : ByteArray) (D : Int) (r : RS) (P : X -> Prop) (R : X -> PV) (rs : X -> RS) : Prop := OkI Tryd.prog g (.ptr 0 0 :: ags) ⟨[], rdH s D r, [], 2, 0⟩ (RdQ s D P R rs)
theorem RdOk.at {X : Type} {g : FuncId} {ags : List PV} {s : ByteArray} {D : Int} {r0 : RS} {P : X -> Prop} {R : X -> PV} {rs : X -> RS} (h : RdOk g ags s D r0 P R rs) (i j : Nat) {st : PS} (hij : i ≠ j) (hi : i < st.nx) (hj : j < st.nx) (hag : PV.ltL 0 0 ags = true) (hR : ∀ x, P x -> (R x).lt 0 0 = true)
  (ho : lkp st.heap i = some (.box 42 (.ptr j 0 :: rdC D r0))) (hp : lkp st.heap j = some (.box 47 [vS s, vI r0.i])) :
  OkI Tryd.prog g (.ptr i 0 :: ags) st (fun r st' => ∃ x, P x /\ r = R x /\ ∃ nt', st.nt <= nt' /\ st' = ⟨st.env, (i, .box 42 (.ptr j 0 :: rdC D (rs x))) :: (j, .box 47 [vS s, vI (rs x).i]) :: dropH [i, j] st.heap, st.toks, st.nx, nt'⟩) := by
 have hf0 : rnF [i, j] st.nx 0 = i := rfl
 have hf1 : rnF [i, j] st.nx 1 = j := rfl
 refine OkI.mono' (OkI.frameT [i, j] [] h (by simp [hij]) (fun k hk => by simp at hk; rcases hk with rfl | rfl <;> assumption) (by simp) (fun j hj => by cases hj) (fun e he => ?_) (fun e he => by cases he) ?_ ?_) ?_
 ·simp only [rdH, List.mem_cons, List.not_mem_nil, or_false] at he
  rcases he with rfl | rfl
  ·refine ⟨Nat.zero_lt_succ _, ?_, ?_⟩
   ·show PV.ltL 2 0 (.ptr 1 0 :: rdC D r0) = true
    rfl
   ·show lkp st.heap i = _
    rw [ho]; rfl
  ·refine ⟨Nat.lt_succ_self _, rfl, ?_⟩
   show lkp st.heap j = _
   rw [hp]; rfl
 ·simp only [PV.ltL, PV.lt, List.length_cons, List.length_nil, Nat.zero_add]
  have := ltL_low (Nat.zero_le 2) (Nat.zero_le 0) ags hag
  rw [this]
  rfl
 ·rw [PV.rmL, rmL_frz ags hag]; rfl
 ·rintro r st' ⟨r1, s0, ⟨x, h0, rfl, h3, h4, h5⟩, rfl, rfl⟩
  refine ⟨x, h0, rm_frz _ (hR x h0), s0.nt - 0 + st.nt, by omega, ?_⟩
  rw [h3, h4, h5]
  simp only [rmH, rmK, PObj.rm, PV.rmL, PV.rm, hf0, hf1, List.length_cons, List.length_nil, List.cons_append, List.nil_append, dropK_nil]
  have h2 : 2 - (0 + 1 + 1) + st.nx = st.nx := by omega
  rw [h2]
def nxtB (s : ByteArray) (r : RS) : Bool := decide (nE s r.i = 0)
def nxtR (s : ByteArray) (r : RS) : RS := if nE s r.i = 0 then ⟨nT s r.i, nQ s r.i, r.place, r.code⟩ else ⟨r.tk, nQ s r.i, nP s r.i, nE s r.i⟩
theorem str_one (t : ByteArray) (c : UInt8) : (t.data.toList = [c]) = (t = ⟨#[c]⟩) := str_eq t ⟨#[c]⟩
set_option maxHeartbeats 8000000 in
theorem rd_fail (s : ByteArray) (D : Int) (r : RS) (p e : Int) : RdOk 11 [vI p, vI e] s D r (fun _ : Unit => True) (fun _ => vB false) (fun _ => ⟨r.tk, r.i, p, e⟩) := by
 refine OkI.of_pwp (by kernel_rfl) Tryd.func11 rfl (by kernel_rfl) (by kernel_rfl) ?_
 simp (implicitDefEqProofs := false) (disch := omega) only [go_sem, simprocAttr, dropH, inL, str_one]
 refine ⟨⟨[], rdH s D ⟨r.tk, r.i, p, e⟩, [], 2, 0⟩, ⟨(), trivial, rfl, rfl, rfl, rfl⟩, ?_⟩
 constructor <;> simp only [go_sem, simprocAttr, decide_eq_true_eq, Int.natCast_add, Int.natCast_one] <;> try ((repeat' apply And.intro) <;> first | rfl | omega | (congr 3; omega) | (congr 2; omega))
set_option maxHeartbeats 8000000 in
theorem rd_is (s : ByteArray) (D : Int) (r : RS) (c : UInt8) : RdOk 13 [vS ⟨#[c]⟩] s D r (fun _ : Unit => True) (fun _ => vB (r.tk.sign c)) (fun _ => r) := by
 refine OkI.of_pwp (by kernel_rfl) Tryd.func13 rfl (by kernel_rfl) (by kernel_rfl) ?_
 unfold Tk.sign
 by_cases h1 : r.tk.kind = 1
 ·rw [decide_eq_true h1, Bool.true_and]
  simp (implicitDefEqProofs := false) (disch := omega) only [go_sem, simprocAttr, dropH, inL, str_one, h1]
  refine ⟨⟨[], rdH s D r, [], 2, 0⟩, ⟨(), trivial, rfl, rfl, rfl, rfl⟩, ?_⟩
  constructor <;> simp only [go_sem, simprocAttr, decide_eq_true_eq, h1] <;> try ((repeat' apply And.intro) <;> first | rfl | omega | (congr 3; omega) | (congr 2; omega))
 ·rw [decide_eq_false h1, Bool.false_and]
  simp (implicitDefEqProofs := false) (disch := omega) only [go_sem, simprocAttr, dropH, inL, str_one, decide_eq_false h1]
  refine ⟨⟨[], rdH s D r, [], 2, 0⟩, ⟨(), trivial, rfl, rfl, rfl, rfl⟩, ?_⟩
  constructor <;> simp only [go_sem, simprocAttr, decide_eq_true_eq, Int.natCast_add, Int.natCast_one] <;> try ((repeat' apply And.intro) <;> first | rfl | omega | (congr 3; omega) | (congr 2; omega))
set_option maxHeartbeats 8000000 in
theorem rd_next (s : ByteArray) (D : Int) (r : RS) (hi : r.i <= s.size) (hs : s.size <= 100000) : RdOk 9 [] s D r (fun _ : Unit => True) (fun _ => vB (nxtB s r)) (fun _ => nxtR s r) := by
 refine OkI.of_pwp (by kernel_rfl) Tryd.func9 rfl (by kernel_rfl) (by kernel_rfl) ?_
 have c1 := next_ok s r.i hi hs
 have cf := rd_fail s D ⟨r.tk, nQ s r.i, r.place, r.code⟩ (nP s r.i) (nE s r.i)
 unfold nxtB nxtR
 simp (implicitDefEqProofs := false) (disch := omega) only [go_sem, simprocAttr, dropH, inL, str_one]
 refine CallOk.ofI (c1.at (st := ⟨[], _, _, _, _⟩) 1 rfl rfl (by simp) (by rfl)) rfl rfl rfl rfl ?_
 rintro r1 st' ⟨rfl, nt1, q1, rfl⟩
 by_cases h : nE s r.i = 0
 ·rw [if_pos h, decide_eq_true h]
  simp (implicitDefEqProofs := false) (disch := omega) only [go_sem, simprocAttr, dropH, inL, str_one, h]
  refine ⟨⟨[], rdH s D ⟨nT s r.i, nQ s r.i, r.place, r.code⟩, [], 2, 0⟩, ⟨(), trivial, rfl, rfl, rfl, rfl⟩, ?_⟩
  constructor <;> simp only [go_sem, simprocAttr, decide_eq_true_eq, Int.natCast_add, Int.natCast_one] <;> try ((repeat' apply And.intro) <;> first | rfl | omega | (congr 3; omega) | (congr 2; omega))
 ·rw [if_neg h, decide_eq_false h]
  simp (implicitDefEqProofs := false) (disch := omega) only [go_sem, simprocAttr, dropH, inL, str_one, decide_eq_false h]
  refine CallOk.ofI (cf.at (st := ⟨[], _, _, _, _⟩) 0 1 (by decide) (by simp) (by simp) rfl (fun _ _ => rfl) (by rfl) (by rfl)) rfl rfl rfl rfl ?_
  rintro r1 st' ⟨_, _, rfl, nt2, q2, rfl⟩
  simp (implicitDefEqProofs := false) (disch := omega) only [go_sem, simprocAttr, dropH, inL, str_one]
  refine ⟨⟨[], rdH s D ⟨r.tk, nQ s r.i, nP s r.i, nE s r.i⟩, [], 2, 0⟩, ⟨(), trivial, rfl, rfl, rfl, rfl⟩, ?_⟩
  constructor <;> simp only [go_sem, simprocAttr, decide_eq_true_eq, Int.natCast_add, Int.natCast_one] <;> try ((repeat' apply And.intro) <;> first | rfl | omega | (congr 3; omega) | (congr 2; omega))
def needR (c : UInt8) (r : RS) : RS := if r.tk.sign c = true then r else ⟨r.tk, r.i, r.tk.at_, 1⟩
set_option maxHeartbeats 8000000 in
theorem rd_need (s : ByteArray) (D : Int) (r : RS) (c : UInt8) : RdOk 26 [vS ⟨#[c]⟩] s D r (fun _ : Unit => True) (fun _ => vB (r.tk.sign c)) (fun _ => needR c r) := by
 refine OkI.of_pwp (by kernel_rfl) Tryd.func26 rfl (by kernel_rfl) (by kernel_rfl) ?_
 have c1 := rd_is s D r c
 have cf := rd_fail s D r r.tk.at_ 1
 unfold needR
 simp (implicitDefEqProofs := false) (disch := omega) only [go_sem, simprocAttr, dropH, inL, str_one]
 refine CallOk.ofI (c1.at (st := ⟨[], _, _, _, _⟩) 0 1 (by decide) (by simp) (by simp) rfl (fun _ _ => rfl) (by rfl) (by rfl)) rfl rfl rfl rfl ?_
 rintro r1 st' ⟨_, _, rfl, nt1, q1, rfl⟩
 cases h : r.tk.sign c with
 | true =>
  rw [if_pos rfl]
  simp (implicitDefEqProofs := false) (disch := omega) only [go_sem, simprocAttr, dropH, inL, str_one, h]
  refine ⟨⟨[], rdH s D r, [], 2, 0⟩, ⟨(), trivial, rfl, rfl, rfl, rfl⟩, ?_⟩
  constructor <;> simp only [go_sem, simprocAttr, decide_eq_true_eq, Int.natCast_add, Int.natCast_one] <;> try ((repeat' apply And.intro) <;> first | rfl | omega | (congr 3; omega) | (congr 2; omega))
 | false =>
  rw [if_neg (by decide)]
  simp (implicitDefEqProofs := false) (disch := omega) only [go_sem, simprocAttr, dropH, inL, str_one, h]
  refine CallOk.ofI (cf.at (st := ⟨[], _, _, _, _⟩) 0 1 (by decide) (by simp) (by simp) rfl (fun _ _ => rfl) (by rfl) (by rfl)) rfl rfl rfl rfl ?_
  rintro r1 st' ⟨_, _, rfl, nt2, q2, rfl⟩
  simp (implicitDefEqProofs := false) (disch := omega) only [go_sem, simprocAttr, dropH, inL, str_one]
  refine ⟨⟨[], rdH s D ⟨r.tk, r.i, r.tk.at_, 1⟩, [], 2, 0⟩, ⟨(), trivial, rfl, rfl, rfl, rfl⟩, ?_⟩
  constructor <;> simp only [go_sem, simprocAttr, decide_eq_true_eq, Int.natCast_add, Int.natCast_one] <;> try ((repeat' apply And.intro) <;> first | rfl | omega | (congr 3; omega) | (congr 2; omega))
end Go.Proofs.YtcgmpcbkndpmbaaDoor

end
section
open Go Go.Proofs Go.RowKit Go.Lib Go.Pw
namespace Go.Proofs.YtcgmpcbkndpmbaaDoor
set_option maxRecDepth 4000
set_option linter.unusedVariables false
set_option linter.unusedSimpArgs false
theorem run_append_empty {P : Program} {t e ty : TypeId} {i : TypeInfo} (ht : P.underlying t = some (.slice e)) (hi : P.info? e = some i) (b : Nat) (a : Addr) (cd c : Nat) (w : World) :
  (Builtin.append_ #[t, t] ty #[.slice (some ⟨b, 0, none⟩) 0 cd, .slice (some a) 0 c]).run P w = .ok (.slice (some ⟨b, 0, none⟩) 0 cd) w := by
 have hs : Src P i.size t (.slice (some a) 0 c) 0 [] w := Src.ofSlice w ht a 0 c [] (by simp) (fun j u hj => by simp at hj) (fun v hv => by cases hv)
 have := run_append_room_src (P := P) (w := w) t t ty e i ht hi b 0 0 cd (.slice (some a) 0 c) 0 [] hs (Nat.zero_le _) (fun j hj => by simp at hj) (fun j hj => by simp at hj)
 simpa [World.setCells] using this
end Go.Proofs.YtcgmpcbkndpmbaaDoor

end
section
namespace Go.Pw
open Go Go.RowKit
set_option linter.unusedVariables false
set_option linter.unusedSimpArgs false
def CellsRep (w : World) (cs : List Value) (ps : List PV) : Prop := cs.length = ps.length /\ ∀ (i : Nat) (c : Value) (p : PV), cs[i]? = some c -> ps[i]? = some p -> RepF (memCells w) c p
section
variable {H : Type} {en : TypeId × Value -> H} {P : Program} {w : World} {base : Nat} {spare : Nat -> Bool} {held : Bool}
def Rd {H : Type} (en : TypeId × Value -> H) (P : Program) (w : World) (base : Nat) (spare : Nat -> Bool) (held : Bool) (t : TypeId) {α : Type} (e : α -> List PV) (ok : α -> Prop) : Prop :=
 ∀ (fuel : Nat) (cs : List Value) (x : DataW H × List MemPlace), DataW.trod en P w base spare held fuel t cs = some x -> ∃ a, ok a /\ CellsRep w cs (e a)
theorem CellsRep.one {c : Value} {p : PV} (h : RepF (memCells w) c p) : CellsRep w [c] [p] :=
 ⟨rfl, fun i c' p' h1 h2 => by
  cases i with
  | zero => simp at h1 h2; subst h1 h2; exact h
  | succ i => simp at h1⟩
theorem Rd.int {t : TypeId} {k : IntKind} (ht : P.underlying t = some (.int k)) : Rd en P w base spare held t (fun n : Int => [.val (.int k n)]) (fun n => (Lit.int k n).wf = true) := fun fuel cs x h => by
 obtain ⟨n, rfl, _, hw⟩ := DataW.trod_int ht h
 exact ⟨n, hw, .one (.val rfl)⟩
theorem Rd.string {t : TypeId} (ht : P.underlying t = some .string) : Rd en P w base spare held t (fun s : ByteArray => [vS s]) (fun s => s.size <= maxLen) := fun fuel cs x h => by
 obtain ⟨n, rfl, _, hw⟩ := DataW.trod_string ht h
 exact ⟨n, hw, .one (.val rfl)⟩
theorem Rd.map {t : TypeId} {α β : Type} {e : α -> List PV} {ok : α -> Prop} {e' : β -> List PV} {ok' : β -> Prop} (h : Rd en P w base spare held t e ok) (g : α -> β) (he : ∀ a, e a = e' (g a)) (hk : ∀ a, ok a -> ok' (g a)) : Rd en P w base spare held t e' ok' := fun fuel cs x hx => by
 obtain ⟨a, h1, h2⟩ := h fuel cs x hx
 exact ⟨g a, hk a h1, by rw [<- he]; exact h2⟩
theorem Rd.bool {t : TypeId} (ht : P.underlying t = some .bool) : Rd en P w base spare held t (fun b : Bool => [vB b]) (fun _ => True) := fun fuel cs x h => by
 obtain ⟨b, rfl, _⟩ := DataW.trod_bool ht h
 exact ⟨b, trivial, .one (.val rfl)⟩
end
end Go.Pw

end
