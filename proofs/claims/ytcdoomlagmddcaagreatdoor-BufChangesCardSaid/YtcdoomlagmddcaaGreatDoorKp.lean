/- Texts of this seat, joined: VecPc VecInsPc VecIns2Pc VecIns3Pc VecDelPc VecOPc VecPPc. -/
import Derived.Test.YtcdoomlagmddcaaGreatDoorChecked
import Derived.Test.YtcdoomlagmddcaaGreatDoorKit
import Derived.Test.YtcdoomlagmddcaaGreatDoorKa
import Derived.WalkSpells
import Derived.RegionTactic
import Derived.Deep.RegionLaw
import Derived.OwnWalkIn
import Derived.TacticsInMore
import Derived.LoopNIn
import Derived.LoopIn
/-! The vectors of foolscap/piece.piece: what each of their functions, and of package slices what they call, leaves in memory. -/
namespace Go.Proofs.YtcdoomlagmddcaaGreatDoor
open Go Go.RowKit Go.Fol
attribute [local go_sem ↓] run_min2 run_max2
set_option linter.unusedVariables false
set_option linter.unusedSimpArgs false

theorem info_pc : (Tryz.prog.info? 87).map (fun i => (i.zero, i.size, i.bytes)) = some (some (.agg #[.bool false, .int .i64 0, .int .i64 0]), 3, 24) := by kernel_rfl

theorem clone_pc (v : Value) (n : Nat) (xs : List Value) (w : World) (hs : SrcV w 3 v n xs) (h1 : ∀ u ∈ xs, u.oneCell' = true) (hb : n * 24 ≤ 140737488355328) :
    Calls Tryz.prog 69 #[v] w (Cloned w 87 3 n xs) := by
  obtain ⟨i0, hi, hz0, hz1, hz2⟩ := info_parts info_pc
  rcases hs with ⟨rfl, rfl, rfl⟩ | ⟨a, c, rfl, h2, h3, h4, h5⟩
  · have hnil := fun (w : World) => Lib.run_eql_slice_nil (P := Tryz.prog) w 108 87 none 0 0 0 0 Tryz.underlying108
    go_enter Tryz.func69, Tryz.ntmps69
    go_wp2_with fail
    go_ret
    exact ⟨_, rfl, World.ownsRow_nil _ _ _ _, Chg.refl _ _, fun b hb => by cases hb⟩
  · have hm : n ≤ maxLen := Nat.le_trans h2 h3
    unfold maxLen at h3
    have hnil := fun (w : World) => Lib.run_eql_slice_nil (P := Tryz.prog) w 108 87 (some a) n c 0 0 Tryz.underlying108
    go_enter Tryz.func69, Tryz.ntmps69
    go_wp2_with (at_builtin; refine wpList_append_own _ rfl _ _ 108 rfl w.heap.size 87 i0 (.agg #[.bool false, .int .i64 0, .int .i64 0]) 3 24 Tryz.underlying108 hi hz0 hz1 hz2 rfl (by decide) _ 0 [] rfl (World.ownsRow_made w #[] 0 (Nat.le_refl _) (Nat.zero_le _) rfl) a n c xs rfl h4 ?c1 h1 ?c2 ?c3 ?c4 ?_)
    case c1 => exact fun j u hj => (Chg.cell ((Chg.refl [] w).alloc _) (h5 j u hj) (by simp))
    case c2 => simpa using hm
    case c3 => simpa using hb
    case c4 => simp
    intro v' w1 hown hgrow _
    go_wp2_with fail
    go_ret
    obtain ⟨hr, hnew⟩ := row_base hown
    refine ⟨_, rfl, by simpa using hr, ((Chg.refl [] w).alloc _).grown hgrow (fun k hk h => ?_), hnew⟩
    cases hk
    exact absurd h (Nat.lt_irrefl _)

theorem new_pc (v : Value) (n : Nat) (xs : List Value) (w : World) (hs : SrcV w 3 v n xs) (h1 : ∀ u ∈ xs, u.oneCell' = true) (hb : n * 24 ≤ 140737488355328) :
    Calls Tryz.prog 48 #[v] w (NewVec w 111 87 3 n xs) := by
  obtain ⟨a, c, rfl⟩ := hs.form
  go_enter Tryz.func48, Tryz.ntmps48
  go_wp2_with (go_at_call 69; refine (clone_pc _ _ xs _ hs h1 hb).mono ?_; rintro e w' ⟨v', rfl, hrow, hchg, hnew⟩; obtain ⟨g, c', rfl⟩ := row_slice hrow)
  go_ret
  refine ⟨w'.heap.size, _, rfl, ⟨heap_alloc_new _ _, row_keep hrow ((Chg.refl [] w').alloc _) (fun _ _ h => by cases h), ?_⟩, hchg.alloc _, ?_⟩
  · intro e
    exact Nat.lt_irrefl _ (row_lt hrow e)
  · intro b hb
    simp only [vfoot, List.mem_cons, Option.mem_toList] at hb
    rcases hb with rfl | hb
    · exact hchg.size
    · exact hnew b hb

theorem len_pc (p : Nat) (sv : Value) (n : Nat) (xs : List Value) (w : World) (h : VecAt w 111 87 3 p sv n xs) :
    Calls Tryz.prog 64 #[.pointer (some ⟨p, 0, none⟩)] w fun e w' => e = .returned (.int .i64 n) ∧ w = w' := by
  have hc := h.cell
  obtain ⟨a, c, rfl⟩ := row_slice h.row
  go_enter Tryz.func64, Tryz.ntmps64
  go_wp2_with fail
  go_ret
  exact ⟨rfl, rfl⟩

theorem has_pc (p : Nat) (i : Int) (sv : Value) (n : Nat) (xs : List Value) (w : World) (h : VecAt w 111 87 3 p sv n xs) :
    Calls Tryz.prog 93 #[.pointer (some ⟨p, 0, none⟩), .int .i64 i] w fun e w' => e = .returned (.bool (decide (0 ≤ i ∧ i < n))) ∧ w = w' := by
  have hc := h.cell
  obtain ⟨a, c, rfl⟩ := row_slice h.row
  clear h
  by_cases h0 : 0 ≤ i
  · by_cases h1 : i < n
    all_goals
      go_enter Tryz.func93, Tryz.ntmps93
      go_wp2_with fail
      go_ret
      exact ⟨by simp [h0, h1], rfl⟩
  · go_enter Tryz.func93, Tryz.ntmps93
    go_wp2_with fail
    go_ret
    exact ⟨by simp; omega, rfl⟩

end Go.Proofs.YtcdoomlagmddcaaGreatDoor

/-! The vectors of foolscap/piece.piece: slices.Insert, roads one and two (nothing to insert; at the end). -/
namespace Go.Proofs.YtcdoomlagmddcaaGreatDoor
open Go Go.RowKit Go.Fol
attribute [local go_sem ↓] run_min2 run_max2
set_option linter.unusedVariables false
set_option linter.unusedSimpArgs false
set_option maxRecDepth 100000

/-- slices.Insert of nothing. -/
theorem sinsert_none_pc (s : Value) (n : Nat) (i : Int) (xs vs : List Value) (v : Value) (w : World) (hs : w.ownsRow 0 87 3 s n xs) (h0 : 0 ≤ i) (hin : i ≤ n) (hv : SrcV w 3 v 0 vs) :
    Calls Tryz.prog 70 #[s, .int .i64 i, v] w fun e w' => e = .returned s ∧ w = w' := by
  obtain ⟨j, rfl⟩ := Int.eq_ofNat_of_zero_le h0
  obtain ⟨va, vc, rfl⟩ := hv.form
  rcases row_form hs with ⟨rfl, rfl, _⟩ | ⟨g, cap, cur, rfl, hg, hnc, hm, _⟩
  · obtain rfl : j = 0 := by omega
    go_enter Tryz.func70, Tryz.ntmps70
    go_wp2_with fail
    go_ret
    exact ⟨rfl, rfl⟩
  · unfold maxLen at hm
    by_cases hc : cap = j
    all_goals
      go_enter Tryz.func70, Tryz.ntmps70
      go_wp2_with fail
      go_ret
      exact ⟨rfl, rfl⟩

/-- slices.Insert at the end. -/
theorem sinsert_end_pc (s : Value) (n m : Nat) (xs vs : List Value) (va : Addr) (vc : Nat) (w : World) (hs : w.ownsRow 0 87 3 s n xs) (hm0 : 0 < m)
    (hvl : vs.length = m * 3) (hv : ∀ j u, vs[j]? = some u → w.cell? (va.add j) = some u) (h1 : ∀ u ∈ vs, u.oneCell' = true) (hb : (n + m) * 24 ≤ 140737488355328) (hmx : n + m ≤ maxLen) :
    Calls Tryz.prog 70 #[s, .int .i64 n, .slice (some va) m vc] w (RowBack w 87 3 (n + m) (xs ++ vs) s) := by
  obtain ⟨i0, hi, hz0, hz1, hz2⟩ := info_parts info_pc
  have hz : ¬ ((m : Int) = 0) := by omega
  have hrow := hs
  have hmx' := hmx
  unfold maxLen at hmx'
  rcases row_form hs with ⟨rfl, rfl, rfl⟩ | ⟨g, cap, cur, rfl, hg, hnc, hm, _⟩
  · clear hs
    go_enter Tryz.func70, Tryz.ntmps70
    go_wp2_with (at_builtin; refine wpList_append_row rfl _ _ 108 rfl 87 i0 (.agg #[.bool false, .int .i64 0, .int .i64 0]) 3 24 Tryz.underlying108 hi hz0 hz1 hz2 rfl (by decide) _ 0 [] rfl hrow va m vc vs rfl hvl hv h1 ?c1 ?c2 ?_)
    case c1 => exact hmx
    case c2 => exact hb
    intro v' w1 hown hchg hnew
    go_wp2_with fail
    go_ret
    exact ⟨v', rfl, by simpa using hown, hchg, hnew⟩
  · clear hs hg
    unfold maxLen at hm
    by_cases hc : cap = n
    all_goals
      go_enter Tryz.func70, Tryz.ntmps70
      go_wp2_with (at_builtin; refine wpList_append_row rfl _ _ 108 rfl 87 i0 (.agg #[.bool false, .int .i64 0, .int .i64 0]) 3 24 Tryz.underlying108 hi hz0 hz1 hz2 rfl (by decide) _ _ xs rfl hrow va m vc vs rfl hvl hv h1 hmx hb ?_)
      intro v' w1 hown hchg hnew
      go_wp2_with fail
      go_ret
      exact ⟨_, rfl, hown, hchg, hnew⟩
end Go.Proofs.YtcdoomlagmddcaaGreatDoor

/-! The vectors of foolscap/piece.piece: slices.Insert, road three (there is room: in place). -/
namespace Go.Proofs.YtcdoomlagmddcaaGreatDoor
open Go Go.RowKit Go.Fol
attribute [local go_sem ↓] run_min2 run_max2
set_option linter.unusedVariables false
set_option linter.unusedSimpArgs false

theorem sizeOf_pc : ∀ w, (Go.sizeOf 87).run Tryz.prog w = .ok 3 w := fun _ => by kernel_rfl

set_option maxHeartbeats 4000000 in
set_option maxRecDepth 100000 in
theorem sinsert_shift_pc (g n m cap j : Nat) (cur : Array Value) (xs vs : List Value) (va : Addr) (vc : Nat) (w : World) (hg : w.heap[g]? = some (.cells cur 87 (0, 0))) (hnc : n ≤ cap) (hcm : cap ≤ maxLen) (hcs : cur.size = cap * 3) (htk : cur.toList.take (n * 3) = xs) (hxl : xs.length = n * 3)
    (hj : j < n) (hm0 : 0 < m) (hroom : n + m ≤ cap) (hva : va.block ≠ g)
    (hvl : vs.length = m * 3) (hv : ∀ j u, vs[j]? = some u → w.cell? (va.add j) = some u) (h1x : ∀ u ∈ xs, u.oneCell' = true) (h1 : ∀ u ∈ vs, u.oneCell' = true) :
    Calls Tryz.prog 70 #[.slice (some ⟨g, 0, none⟩) n cap, .int .i64 j, .slice (some va) m vc] w (RowBack w 87 3 (n + m) (xs.take (j * 3) ++ vs ++ xs.drop (j * 3)) (.slice (some ⟨g, 0, none⟩) n cap)) := by
  have hsz : (Tryz.prog.info? 87).map (·.size) = some 3 := by kernel_rfl
  obtain ⟨u0, hu0⟩ : ∃ u, vs[0]? = some u := ⟨vs[0]'(by omega), List.getElem?_eq_getElem _⟩
  obtain ⟨cA, tA, fA, hA, hAs⟩ : ∃ cA tA fA, w.heap[va.block]? = some (.cells cA tA fA) ∧ cA.size ≠ 0 := by
    have := hv 0 u0 hu0
    have hadd : va.add 0 = va := by simp [Addr.add]
    rw [hadd] at this
    unfold World.cell? at this
    split at this
    · rename_i c e f hc
      refine ⟨c, e, f, hc, fun h0 => ?_⟩
      split at this
      · cases this
      · have := (Array.getElem?_eq_some_iff.1 this).1; omega
    · cases this
  have hov : ∀ lb cb, (callFunc 88 #[.slice (some va) m vc, .slice (some ⟨g, (j + m) * 3, none⟩) lb cb]).run Tryz.prog w = .ok (.value (.bool false)) w := fun lb cb => by
    rw [run_callFunc_extern Tryz.func88 (by kernel_rfl) (by kernel_rfl) (by kernel_rfl) (e := Extern.SlicesOverlaps.overlaps #[108, 108] #[4]) (by kernel_rfl),
      run_overlaps_row w 108 4 87 Tryz.underlying108 3 sizeOf_pc va ⟨g, (j + m) * 3, none⟩ m vc lb cb hva cA cur tA 87 fA hA hg hAs]
    rfl
  have hcl : cur.toList.length = cap * 3 := by simpa using hcs
  have hmul1 : j * 3 ≤ n * 3 := Nat.mul_le_mul_right _ (by omega)
  have hmul2 : (n + m) * 3 ≤ cap * 3 := Nat.mul_le_mul_right _ hroom
  have hmul3 : (n + m) * 3 = n * 3 + m * 3 := Nat.add_mul _ _ _
  have hmul4 : (j + m) * 3 = j * 3 + m * 3 := Nat.add_mul _ _ _
  have hmul5 : (n - j) * 3 = n * 3 - j * 3 := Nat.sub_mul _ _ _
  obtain ⟨L1, hL1⟩ : ∃ L1, L1 = splice cur.toList ((j + m) * 3) (xs.drop (j * 3)) := ⟨_, rfl⟩
  have hL1l : L1.length = cap * 3 := by rw [hL1, length_splice _ _ _ (by simp; omega), hcl]
  have hcp1 : ∀ (W : World), W.heap = w.heap → ∀ ty dc sc, (Builtin.copy_ #[108, 108] ty #[.slice (some ⟨g, (j + m) * 3, none⟩) (n + m - (j + m)) dc, .slice (some ⟨g, j * 3, none⟩) (n + m - j) sc]).run Tryz.prog W = .ok (goInt (Nat.min (n + m - j) (n + m - (j + m)))) (W.setRow g L1.toArray) := fun W hW ty dc sc => by
    rw [hL1]
    have hc : ∀ x, W.cell? x = w.cell? x := fun x => by simp only [World.cell?, hW]
    refine run_copy_k W _ _ ty 87 3 g ((j + m) * 3) (n + m - (j + m)) dc ⟨g, j * 3, none⟩ (n + m - j) sc cur 87 (xs.drop (j * 3)) Tryz.underlying108 hsz (by rw [hW]; exact hg) ?_ ?_ ?_ (fun u hu => h1x u (List.mem_of_mem_drop hu))
    · have : Nat.min (n + m - j) (n + m - (j + m)) = n - j := by simp only [Nat.min_def]; split <;> omega
      rw [this, List.length_drop, hxl, hmul5]
    · intro q u hq
      rw [Addr.add_lit, hc]
      have hq' : cur[j * 3 + q]? = some u := by
        rw [List.getElem?_drop, ← htk, List.getElem?_take] at hq
        split at hq
        · simpa using hq
        · cases hq
      exact cell_of_heap hg hq'
    · simp only [List.length_drop]; omega
  obtain ⟨L2, hL2⟩ : ∃ L2, L2 = splice L1 (j * 3) vs := ⟨_, rfl⟩
  have hL2l : L2.length = cap * 3 := by rw [hL2, length_splice _ _ _ (by omega), hL1l]
  have hcp2 : ∀ (W : World), W.heap = (w.setRow g L1.toArray).heap → ∀ ty dc, (Builtin.copy_ #[108, 108] ty #[.slice (some ⟨g, j * 3, none⟩) (n + m - j) dc, .slice (some va) m vc]).run Tryz.prog W = .ok (goInt (Nat.min m (n + m - j))) (W.setRow g L2.toArray) := fun W hW ty dc => by
    rw [hL2]
    have hc : ∀ x, W.cell? x = (w.setRow g L1.toArray).cell? x := fun x => by simp only [World.cell?, hW]
    refine run_copy_k W _ _ ty 87 3 g (j * 3) (n + m - j) dc va m vc L1.toArray 87 vs Tryz.underlying108 hsz (by rw [hW]; exact setRow_heap w g _ _ _ _ hg) ?_ ?_ ?_ h1
    · have : Nat.min m (n + m - j) = m := by simp only [Nat.min_def]; split <;> omega
      rw [this, hvl]
    · intro q u hq
      rw [hc]
      have := hv q u hq
      have hb : (va.add q).block = va.block := by unfold Addr.add; split <;> rfl
      rw [World.cell?_of_block (w := w) (setRow_other w g _ _ (by rw [hb]; exact hva))]
      exact this
    · simp; omega
  have Hend : RowBack w 87 3 (n + m) (xs.take (j * 3) ++ vs ++ xs.drop (j * 3)) (.slice (some ⟨g, 0, none⟩) n cap) (.returned (.slice (some ⟨g, 0, none⟩) (n + m) cap)) ((w.setRow g L1.toArray).drew.setRow g L2.toArray) := by
    refine ⟨_, rfl, ?_, ((Chg.refl _ w).setRow (fun _ => by simp [Value.ownBlock]) _).drew.setRow (fun _ => by simp [Value.ownBlock]) _, fun b hb => .inl hb⟩
    refine row_setRow (c0 := L1.toArray) (setRow_heap w g _ _ _ _ hg) hroom hcm hL2l ?_
    rw [hL2, hL1, hmul3, ← hxl, hmul4]
    exact insert_cells cur.toList xs vs (j * 3) (m * 3) (by rw [hxl]; exact htk) hvl.symm (by omega) (by omega)
  have hz1 : ¬ ((m : Int) = 0) := by omega
  have hin : j ≤ n := by omega
  have hz2 : ¬ ((j : Int) = (n : Int)) := by omega
  have hw1 : IntKind.i64.wrap ((j : Int) + (m : Int)) = (j : Int) + (m : Int) := by unfold maxLen at hcm; rw [IntKind.wrap_i64]; omega
  have hb1 : (0 : Int) ≤ (j : Int) + (m : Int) := by omega
  have htn : ((j : Int) + (m : Int)).toNat = j + m := by omega
  have hb2 : ¬ (cap = j + m) := by omega
  have hb3 : (j : Int) ≤ (n : Int) + (m : Int) := by omega
  have hb4 : ¬ (cap = j) := by omega
  have hmixed : Tryz.prog.follows .mixedOrders = true := by kernel_rfl
  unfold maxLen at hcm
  clear hmul1 hmul2 hmul3 hmul4 hmul5 hL1 hL2 hL1l hL2l hcl htk hxl hu0 hA hAs hsz
  have hcpA := hcp1 w.drew rfl
  have hcpB := hcp2 (w.drew.setRow g L1.toArray) rfl
  clear hcp1 hcp2
  try simp only [Nat.mul_one] at hov hcpA hcpB Hend ⊢
  go_enter Tryz.func70, Tryz.ntmps70
  go_wp2_with (simp only [hov])
  go_region
  go_wp2
  go_ret
  exact Hend
end Go.Proofs.YtcdoomlagmddcaaGreatDoor

/-! The vectors of foolscap/piece.piece: slices.Insert, road four (no room: a new row); all roads together; Insert. -/
namespace Go.Proofs.YtcdoomlagmddcaaGreatDoor
open Go Go.RowKit Go.Fol
attribute [local go_sem ↓] run_min2 run_max2
set_option linter.unusedVariables false
set_option linter.unusedSimpArgs false

set_option maxHeartbeats 4000000 in
set_option maxRecDepth 100000 in
theorem sinsert_grow_pc (g n m cap j : Nat) (cur : Array Value) (xs vs : List Value) (va : Addr) (vc : Nat) (w : World) (hg : w.heap[g]? = some (.cells cur 87 (0, 0))) (hnc : n ≤ cap) (hcm : cap ≤ maxLen) (hcs : cur.size = cap * 3) (htk : cur.toList.take (n * 3) = xs) (hxl : xs.length = n * 3)
    (hj : j < n) (hm0 : 0 < m) (hroom : cap < n + m) (hb : (n + m) * 24 ≤ 140737488355328)
    (hvl : vs.length = m * 3) (hv : ∀ j u, vs[j]? = some u → w.cell? (va.add j) = some u) (h1x : ∀ u ∈ xs, u.oneCell' = true) (h1 : ∀ u ∈ vs, u.oneCell' = true) :
    Calls Tryz.prog 70 #[.slice (some ⟨g, 0, none⟩) n cap, .int .i64 j, .slice (some va) m vc] w (RowBack w 87 3 (n + m) (xs.take (j * 3) ++ vs ++ xs.drop (j * 3)) (.slice (some ⟨g, 0, none⟩) n cap)) := by
  have hsz : (Tryz.prog.info? 87).map (·.size) = some 3 := by kernel_rfl
  obtain ⟨i0, hi, hz0, hz1, hz2⟩ := info_parts info_pc
  have hgl : g < w.heap.size := heap_lt hg
  have hmul1 : j * 3 ≤ n * 3 := Nat.mul_le_mul_right _ (by omega)
  have hmul3 : (n + m) * 3 = n * 3 + m * 3 := Nat.add_mul _ _ _
  have hmul4 : (j + m) * 3 = j * 3 + m * 3 := Nat.add_mul _ _ _
  have hmul5 : (n - j) * 3 = n * 3 - j * 3 := Nat.sub_mul _ _ _
  have hnm : n + m ≤ 140737488355328 := by omega
  have hold : (Builtin.firstCells i0.size j (.slice (some ⟨g, 0, none⟩) j cap)).run Tryz.prog w.drew = .ok (xs.take (j * 3)).toArray w.drew := by
    rw [hz1]
    refine run_firstCells_some w.drew 3 j ⟨g, 0, none⟩ j cap (xs.take (j * 3)) (by rw [List.length_take]; omega) (fun q u hq => ?_)
    rw [Addr.add_lit, Nat.zero_add]
    have hq' : cur[q]? = some u := by
      rw [← htk, List.take_take, List.getElem?_take] at hq
      split at hq
      · simpa using hq
      · cases hq
    exact cell_of_heap (w := w.drew) hg hq'
  obtain ⟨G, ROW, W1, hrz, hG, hGm, hRl, hRt, hg1, hchg1⟩ : ∃ (G : Nat) (ROW : List Value) (W1 : World), (∀ ty, (Builtin.append_ #[108, 3] ty #[.slice (some ⟨g, 0, none⟩) j cap, .int .i64 ((n : Int) + (m : Int) - (j : Int))]).run Tryz.prog w = .ok (.slice (some ⟨w.heap.size, 0, none⟩) (n + m) G) W1) ∧
      n + m ≤ G ∧ G ≤ maxLen ∧ ROW.length = G * 3 ∧ ROW.take (j * 3) = xs.take (j * 3) ∧ W1.heap[w.heap.size]? = some (.cells ROW.toArray 87 (0, 0)) ∧ Chg [] w W1 := by
    have h := fun ty => Lib.run_append_grow_zeros w 108 3 ty 87 i0 _ .i64 .i64 Tryz.underlying108 Tryz.underlying3 hi hz0 (some ⟨g, 0, none⟩) j cap (xs.take (j * 3)) hold (n + m - j) (by omega) (by omega) (by omega) (by omega) (by rw [hz2]; omega) (by rw [hz2, show j + (n + m - j) = n + m by omega]; exact growslice_fits hroom hb)
    rw [show j + (n + m - j) = n + m by omega, show ((n + m - j : Nat) : Int) = (n : Int) + (m : Int) - (j : Int) by omega] at h
    refine ⟨_, (xs.take (j * 3) ++ ((Builtin.zeroCells (Value.cells (.agg #[.bool false, .int .i64 0, .int .i64 0])) (n + m - j)).toList ++ (Builtin.zeroCells (Value.cells (.agg #[.bool false, .int .i64 0, .int .i64 0])) (grownCap w (n + m) cap 87 - (n + m))).toList)), _, h, grownCap_ge w _ _ _, grownCap_le_maxLen w _ _ _ (by unfold maxLen; omega), ?_, ?_, ?_, ?_⟩
    · have hge := grownCap_ge w (n + m) cap 87
      have hzc : (Value.cells (.agg #[.bool false, .int .i64 0, .int .i64 0])).size = 3 := rfl
      simp only [List.length_append, List.length_take, Array.length_toList, size_zeroCells, hzc, Nat.min_eq_left (by omega : j * 3 ≤ xs.length)]
      rw [← Nat.add_mul, ← Nat.add_mul]
      congr 1
      omega
    · rw [List.take_append_of_le_length (by rw [List.length_take]; omega), List.take_take, Nat.min_self]
    · rw [show w.heap.size = w.drew.heap.size from rfl, heap_alloc_new]
      simp
    · exact ((Chg.refl [] w).drew).alloc _
  clear hold
  obtain ⟨L1, hL1⟩ : ∃ L1, L1 = splice ROW (j * 3) vs := ⟨_, rfl⟩
  have hL1l : L1.length = G * 3 := by rw [hL1, length_splice _ _ _ (by have : (n + m) * 3 ≤ G * 3 := Nat.mul_le_mul_right _ hG; omega), hRl]
  have hGk : (n + m) * 3 ≤ G * 3 := Nat.mul_le_mul_right _ hG
  have hgne : w.heap.size ≠ g := by omega
  have hcpA : ∀ ty dc, (Builtin.copy_ #[108, 108] ty #[.slice (some ⟨w.heap.size, j * 3, none⟩) (n + m - j) dc, .slice (some va) m vc]).run Tryz.prog W1 = .ok (goInt (Nat.min m (n + m - j))) (W1.setRow w.heap.size L1.toArray) := fun ty dc => by
    rw [hL1]
    refine run_copy_k W1 _ _ ty 87 3 w.heap.size (j * 3) (n + m - j) dc va m vc ROW.toArray 87 vs Tryz.underlying108 hsz hg1 ?_ (fun q u hq => hchg1.cell (hv q u hq) (by simp)) ?_ h1
    · have : Nat.min m (n + m - j) = m := by simp only [Nat.min_def]; split <;> omega
      rw [this, hvl]
    · simp; omega
  obtain ⟨L2, hL2⟩ : ∃ L2, L2 = splice L1 ((j + m) * 3) (xs.drop (j * 3)) := ⟨_, rfl⟩
  have hL2l : L2.length = G * 3 := by rw [hL2, length_splice _ _ _ (by simp; omega), hL1l]
  have hcpB : ∀ ty dc sc, (Builtin.copy_ #[108, 108] ty #[.slice (some ⟨w.heap.size, (j + m) * 3, none⟩) (n + m - (j + m)) dc, .slice (some ⟨g, j * 3, none⟩) (n - j) sc]).run Tryz.prog (W1.setRow w.heap.size L1.toArray).drew = .ok (goInt (Nat.min (n - j) (n + m - (j + m)))) ((W1.setRow w.heap.size L1.toArray).drew.setRow w.heap.size L2.toArray) := fun ty dc sc => by
    rw [hL2]
    refine run_copy_k (W1.setRow w.heap.size L1.toArray).drew _ _ ty 87 3 w.heap.size ((j + m) * 3) (n + m - (j + m)) dc ⟨g, j * 3, none⟩ (n - j) sc L1.toArray 87 (xs.drop (j * 3)) Tryz.underlying108 hsz (setRow_heap W1 _ _ _ _ _ hg1) ?_ ?_ ?_ (fun u hu => h1x u (List.mem_of_mem_drop hu))
    · have : Nat.min (n - j) (n + m - (j + m)) = n - j := by simp only [Nat.min_def]; split <;> omega
      rw [this, List.length_drop, hxl, hmul5]
    · intro q u hq
      rw [Addr.add_lit]
      have hq' : cur[j * 3 + q]? = some u := by
        rw [List.getElem?_drop, ← htk, List.getElem?_take] at hq
        split at hq
        · simpa using hq
        · cases hq
      have hc : W1.cell? ⟨g, j * 3 + q, none⟩ = some u := hchg1.cell (cell_of_heap hg hq') (by simp)
      exact (World.cell?_of_block (w := W1) (a := ⟨g, j * 3 + q, none⟩) (setRow_other W1 w.heap.size g _ (fun e => hgne e.symm))).trans hc
    · simp; omega
  have Hend : RowBack w 87 3 (n + m) (xs.take (j * 3) ++ vs ++ xs.drop (j * 3)) (.slice (some ⟨g, 0, none⟩) n cap) (.returned (.slice (some ⟨w.heap.size, 0, none⟩) (n + m) G)) ((W1.setRow w.heap.size L1.toArray).drew.setRow w.heap.size L2.toArray) := by
    refine ⟨_, rfl, ?_, (((hchg1.mono (fun k h _ => by cases h)).setRow (fun h => absurd h (Nat.lt_irrefl _)) _).drew.setRow (fun h => absurd h (Nat.lt_irrefl _)) _), fun b hb => .inr (by cases hb; exact Nat.le_refl _)⟩
    refine row_setRow (c0 := L1.toArray) (setRow_heap W1 _ _ _ _ _ hg1) hG hGm hL2l ?_
    rw [hL2, hL1, hmul3, ← hxl, hmul4]
    exact insert_cells_new ROW xs vs (j * 3) (m * 3) hRt hvl.symm (by omega) (by omega)
  have hz1' : ¬ ((m : Int) = 0) := by omega
  have hz2' : ¬ ((j : Int) = (n : Int)) := by omega
  have hz3 : (cap : Int) < (n : Int) + (m : Int) := by omega
  have hin : j ≤ n := by omega
  have hw1 : IntKind.i64.wrap ((j : Int) + (m : Int)) = (j : Int) + (m : Int) := by rw [IntKind.wrap_i64]; omega
  have hb1 : (0 : Int) ≤ (j : Int) + (m : Int) := by omega
  have htn : ((j : Int) + (m : Int)).toNat = j + m := by omega
  have hci : ¬ (cap = j) := by omega
  have hGi : ¬ (G = j) := by omega
  have hGim : ¬ (G = j + m) := by omega
  have hb3 : (j : Int) ≤ (n : Int) := by omega
  have hmixed : Tryz.prog.follows .mixedOrders = true := by kernel_rfl
  unfold maxLen at hcm hGm
  try simp only [Nat.mul_one] at hcpA hcpB Hend ⊢
  clear hmul1 hmul3 hmul4 hmul5 hL1 hL2 hL1l hL2l htk hxl hsz hgl hRl hRt hGk hgne hi hz0 hz1 hz2 hchg1 hg1 hv hvl
  go_enter Tryz.func70, Tryz.ntmps70
  go_wp2_with (at_builtin; refine Lib.wpList_append_run _ rfl _ _ _ _ rfl _ _ rfl rfl _ _ (hrz _) ?_)
  go_region
  go_wp2
  go_ret
  exact Hend

/-- slices.Insert, all roads. -/
theorem sinsert_pc (s v : Value) (n m : Nat) (i : Int) (xs vs : List Value) (w : World) (hs : w.ownsRow 0 87 3 s n xs) (hv : SrcV w 3 v m vs) (hd : 0 < m → ∀ b, v.ownBlock = some b → s.ownBlock ≠ some b)
    (h1x : ∀ u ∈ xs, u.oneCell' = true) (h1 : ∀ u ∈ vs, u.oneCell' = true) (h0 : 0 ≤ i) (hin : i ≤ n) (hb : (n + m) * 24 ≤ 140737488355328) :
    Calls Tryz.prog 70 #[s, .int .i64 i, v] w (RowBack w 87 3 (n + m) (xs.take (i.toNat * 3) ++ vs ++ xs.drop (i.toNat * 3)) s) := by
  by_cases hm0 : m = 0
  · subst hm0
    refine (sinsert_none_pc s n i xs vs v w hs h0 hin hv).mono ?_
    rintro e w' ⟨rfl, rfl⟩
    have hvs : vs = [] := by
      rcases hv with ⟨_, _, h⟩ | ⟨a, c, _, _, _, h, _⟩
      · exact h
      · exact List.eq_nil_of_length_eq_zero (by simpa using h)
    subst hvs
    exact ⟨s, rfl, by simpa using hs, Chg.refl _ _, fun b hb => .inl hb⟩
  · rcases hv with ⟨_, h, _⟩ | ⟨va, vc, rfl, h2, h3, hvl, hvc⟩
    · exact absurd h hm0
    obtain ⟨j, rfl⟩ := Int.eq_ofNat_of_zero_le h0
    simp only [Int.toNat_natCast]
    by_cases hjn : j = n
    · subst hjn
      have hxl := hs.1
      rw [List.take_of_length_le (by omega), List.drop_eq_nil_of_le (by omega), List.append_nil]
      exact sinsert_end_pc s j m xs vs va vc w hs (by omega) hvl hvc h1 hb (by unfold maxLen; omega)
    · rcases row_form hs with ⟨_, rfl, _⟩ | ⟨g, cap, cur, rfl, hg, hnc, hcm, hcs, htk, hxl⟩
      · omega
      have hva : va.block ≠ g := fun e => hd (by omega) va.block rfl (by rw [e]; rfl)
      by_cases hroom : n + m ≤ cap
      · exact sinsert_shift_pc g n m cap j cur xs vs va vc w hg hnc hcm hcs htk hxl (by omega) (by omega) hroom hva hvl hvc h1x h1
      · exact sinsert_grow_pc g n m cap j cur xs vs va vc w hg hnc hcm hcs htk hxl (by omega) (by omega) (by omega) hb hvl hvc h1x h1

theorem insert_out_pc (p : Nat) (i : Int) (v : Value) (sv : Value) (n m : Nat) (xs vs : List Value) (w : World) (h : VecAt w 111 87 3 p sv n xs) (hv : SrcV w 3 v m vs) (h0 : i < 0 ∨ n < i) :
    Calls Tryz.prog 49 #[.pointer (some ⟨p, 0, none⟩), .int .i64 i, v] w fun e w' => e = .returned (.bool false) ∧ w = w' := by
  have hc := h.cell
  obtain ⟨a, c, rfl⟩ := row_slice h.row
  obtain ⟨va, vc, rfl⟩ := hv.form
  clear h hv
  rcases h0 with h0 | h0
  · go_enter Tryz.func49, Tryz.ntmps49
    go_wp2_with fail
    go_ret
    exact ⟨rfl, rfl⟩
  · have h1 : ¬ (i < 0) := by omega
    go_enter Tryz.func49, Tryz.ntmps49
    go_wp2_with fail
    go_ret
    exact ⟨rfl, rfl⟩

/-- What a store of the row's new value into the vector's field leaves. -/
theorem back_pc {w w1 : World} {p n n' : Nat} {sv v' : Value} {xs xs' : List Value} (h : VecAt w 111 87 3 p sv n xs) (hr : w1.ownsRow 0 87 3 v' n' xs') (hc : Chg sv.ownBlock.toList w w1) (hn : ∀ b, v'.ownBlock = some b → sv.ownBlock = some b ∨ w.heap.size ≤ b) :
    VecAt (w1.setCell ⟨p, 0, none⟩ v') 111 87 3 p v' n' xs' ∧ Moved w (w1.setCell ⟨p, 0, none⟩ v') p sv v' := by
  have hp : p ∉ sv.ownBlock.toList := by simpa using h.ne
  have hne : v'.ownBlock ≠ some p := fun e => by
    rcases hn p e with h1 | h1
    · exact h.ne h1
    · exact Nat.lt_irrefl _ (Nat.lt_of_lt_of_le h.lt h1)
  refine ⟨⟨heap_set_same (hc.heap h.obj hp) v', row_keep hr ((Chg.refl [p] w1).setCell (fun _ => by simp) v') (fun b hb hm => hne (by simp at hm; rw [hb, hm])), hne⟩, ⟨?_, hn⟩⟩
  exact (hc.mono (fun k hk _ => List.mem_cons_of_mem _ hk)).setCell (fun _ => by simp [vfoot]) v'

theorem insert_in_pc (p : Nat) (i : Int) (v : Value) (sv : Value) (n m : Nat) (xs vs : List Value) (w : World) (h : VecAt w 111 87 3 p sv n xs) (hv : SrcV w 3 v m vs) (hd : 0 < m → ∀ b, v.ownBlock = some b → sv.ownBlock ≠ some b)
    (h1x : ∀ u ∈ xs, u.oneCell' = true) (h1 : ∀ u ∈ vs, u.oneCell' = true) (h0 : 0 ≤ i) (hin : i ≤ n) (hb : (n + m) * 24 ≤ 140737488355328) :
    Calls Tryz.prog 49 #[.pointer (some ⟨p, 0, none⟩), .int .i64 i, v] w (VecBack w 111 87 3 p (n + m) (xs.take (i.toNat * 3) ++ vs ++ xs.drop (i.toNat * 3)) sv (.bool true)) := by
  have hc := h.cell
  have hs := sinsert_pc sv v n m i xs vs w h.row hv hd h1x h1 h0 hin hb
  obtain ⟨a, c, rfl⟩ := row_slice h.row
  obtain ⟨va, vc, rfl⟩ := hv.form
  have hp : p ∉ (Value.slice a n c).ownBlock.toList := by simpa using h.ne
  clear hv hd h1x h1 hb
  go_enter Tryz.func49, Tryz.ntmps49
  go_wp2_with fail
  refine hs.mono ?_
  rintro e w1 ⟨v', rfl, hr, hchg, hnew⟩
  have Hb := Lib.hid (back_pc h hr hchg hnew)
  obtain ⟨a', c', rfl⟩ := row_slice hr
  have hc1 : w1.cell? ⟨p, 0, none⟩ = some (.slice a n c) := hchg.cell hc hp
  have hf1 : w1.frozen? ⟨p, 0, none⟩ = false := frozen_of_heap (hchg.heap h.obj hp) 0
  clear hs hr hnew hchg h
  go_wp2_with fail
  go_ret
  exact ⟨_, rfl, Hb.out⟩
end Go.Proofs.YtcdoomlagmddcaaGreatDoor

/-! The vectors of foolscap/piece.piece: slices.Delete and Delete. -/
namespace Go.Proofs.YtcdoomlagmddcaaGreatDoor
open Go Go.RowKit Go.Fol
attribute [local go_sem ↓] run_min2 run_max2
set_option linter.unusedVariables false
set_option linter.unusedSimpArgs false

theorem zeroV_pc : ∀ w, (zeroValue 87).run Tryz.prog w = .ok (.agg #[.bool false, .int .i64 0, .int .i64 0]) w := fun _ => by kernel_rfl

set_option maxHeartbeats 4000000 in
set_option maxRecDepth 100000 in
theorem sdelete_pc (g n cap i j : Nat) (cur : Array Value) (xs : List Value) (w : World) (hg : w.heap[g]? = some (.cells cur 87 (0, 0))) (hnc : n ≤ cap) (hcm : cap ≤ maxLen) (hcs : cur.size = cap * 3) (htk : cur.toList.take (n * 3) = xs) (hxl : xs.length = n * 3)
    (hij : i < j) (hjn : j ≤ n) (h1x : ∀ u ∈ xs, u.oneCell' = true) :
    Calls Tryz.prog 94 #[.slice (some ⟨g, 0, none⟩) n cap, .int .i64 i, .int .i64 j] w (RowBack w 87 3 (i + (n - j)) (xs.take (i * 3) ++ xs.drop (j * 3)) (.slice (some ⟨g, 0, none⟩) n cap)) := by
  have hsz : (Tryz.prog.info? 87).map (·.size) = some 3 := by kernel_rfl
  obtain ⟨i0, hi, hz0, hz1, hz2⟩ := info_parts info_pc
  have hcl : cur.toList.length = cap * 3 := by simpa using hcs
  have hmul1 : i * 3 ≤ j * 3 := Nat.mul_le_mul_right _ (by omega)
  have hmul2 : j * 3 ≤ n * 3 := Nat.mul_le_mul_right _ hjn
  have hmul3 : n * 3 ≤ cap * 3 := Nat.mul_le_mul_right _ hnc
  have hmul4 : (n - j) * 3 = n * 3 - j * 3 := Nat.sub_mul _ _ _
  have hmul5 : (i + (n - j)) * 3 = i * 3 + (n - j) * 3 := Nat.add_mul _ _ _
  have hmul6 : (n - (i + (n - j))) * 3 = n * 3 - (i + (n - j)) * 3 := Nat.sub_mul _ _ _
  obtain ⟨L1, hL1⟩ : ∃ L1, L1 = splice cur.toList (i * 3) (xs.drop (j * 3)) := ⟨_, rfl⟩
  have hL1l : L1.length = cap * 3 := by rw [hL1, length_splice _ _ _ (by simp; omega), hcl]
  have happ : ∀ ad, (j < cap → ad = ⟨g, j * 3, none⟩) → ∀ ty sc, (Builtin.append_ #[108, 108] ty #[.slice (some ⟨g, 0, none⟩) i cap, .slice (some ad) (n - j) sc]).run Tryz.prog w.drew = .ok (.slice (some ⟨g, 0, none⟩) (i + (n - j)) cap) (w.drew.setRow g L1.toArray) := fun ad had ty sc => by
    have hr := run_append_room (P := Tryz.prog) w.drew 108 ty 87 i0 Tryz.underlying108 hi g i cap cur hg ad (n - j) sc (xs.drop (j * 3)) (by rw [List.length_drop, hxl, hz1, hmul4]) (fun q u hq => ?_) (fun u hu => h1x u (List.mem_of_mem_drop hu)) (by omega) (by rw [hz1, List.length_drop]; omega)
    · rw [hr, hL1, hz1]
      simp only [splice, List.append_assoc]
    · have hjc : j < cap := by
        have := (List.getElem?_eq_some_iff.1 hq).1
        rw [List.length_drop, hxl] at this
        by_cases h : j < cap
        · exact h
        · have : cap * 3 ≤ j * 3 := Nat.mul_le_mul_right _ (by omega)
          omega
      rw [had hjc, Addr.add_lit]
      have hq' : cur[j * 3 + q]? = some u := by
        rw [List.getElem?_drop, ← htk, List.getElem?_take] at hq
        split at hq
        · simpa using hq
        · cases hq
      exact cell_of_heap (w := w.drew) hg hq'
  obtain ⟨L2, hL2⟩ : ∃ L2, L2 = splice L1 ((i + (n - j)) * 3) (Builtin.zeroCells (Value.cells (.agg #[.bool false, .int .i64 0, .int .i64 0])) (n - (i + (n - j)))).toList := ⟨_, rfl⟩
  have hzl : (Builtin.zeroCells (Value.cells (.agg #[.bool false, .int .i64 0, .int .i64 0])) (n - (i + (n - j)))).toList.length = (n - (i + (n - j))) * 3 := by simp only [Array.length_toList, size_zeroCells]; rfl
  have hL2l : L2.length = cap * 3 := by rw [hL2, length_splice _ _ _ (by rw [hzl, hL1l]; omega), hL1l]
  have hclr : ∀ ty c, (Builtin.clear_ #[108] ty #[.slice (some ⟨g, (i + (n - j)) * 3, none⟩) (n - (i + (n - j))) c]).run Tryz.prog (w.drew.setRow g L1.toArray) = .ok (.tuple #[]) ((w.drew.setRow g L1.toArray).setRow g L2.toArray) := fun ty c => by
    rw [hL2]
    exact run_clear_k _ 108 ty 87 3 g _ _ c (.agg #[.bool false, .int .i64 0, .int .i64 0]) L1.toArray 87 Tryz.underlying108 zeroV_pc rfl (by intro u hu; revert u; decide) (setRow_heap w.drew g _ _ _ _ hg) (by simp [hL1l]; omega) (by omega)
  have Hend : RowBack w 87 3 (i + (n - j)) (xs.take (i * 3) ++ xs.drop (j * 3)) (.slice (some ⟨g, 0, none⟩) n cap) (.returned (.slice (some ⟨g, 0, none⟩) (i + (n - j)) cap)) ((w.drew.setRow g L1.toArray).setRow g L2.toArray) := by
    refine ⟨_, rfl, ?_, (((Chg.refl _ w).drew.setRow (fun _ => by simp [Value.ownBlock]) _).setRow (fun _ => by simp [Value.ownBlock]) _), fun b hb => .inl hb⟩
    refine row_setRow (c0 := L1.toArray) (setRow_heap w.drew g _ _ _ _ hg) (by omega) hcm hL2l ?_
    rw [hL2, hL1]
    exact delete_cells cur.toList xs _ (i * 3) (j * 3) _ (by rw [hxl]; exact htk) hmul1 (by rw [hxl]; exact hmul2) (by rw [hxl, hmul5, hmul4]) (by rw [hzl, hcl]; omega)
  have hne : ¬ ((i : Int) = (j : Int)) := by omega
  have hne2 : ¬ (cap = i) := by omega
  have hne3 : ¬ (cap = i + (n - j)) := by omega
  have hle : i + (n - j) ≤ n := by omega
  have hle2 : i ≤ cap := by omega
  have hle3 : i ≤ n := by omega
  have hle4 : i ≤ j := by omega
  have hmixed : Tryz.prog.follows .mixedOrders = true := by kernel_rfl
  unfold maxLen at hcm
  try simp only [Nat.mul_one] at happ hclr Hend ⊢
  clear hmul1 hmul2 hmul3 hmul4 hmul5 hmul6 hL1 hL2 hL1l hL2l hcl htk hxl hsz hzl hi hz0 hz1 hz2
  by_cases hjc : j < cap
  · have happ' := happ _ (fun _ => rfl)
    have hjc' : ¬ (cap = j) := by omega
    clear happ
    go_enter Tryz.func94, Tryz.ntmps94
    go_wp2
    go_region_law (refine step_append_known rfl _ _ 108 108 rfl _ _ (by simp [Act.eval, Act.put]) (by simp [Act.eval, Act.put]) (happ' 108 (cap - j)) ?_)
    go_wp2
    go_ret
    exact Hend
  · obtain rfl : j = cap := by omega
    obtain rfl : n = j := by omega
    have happ' := happ ⟨g, 0, none⟩ (fun h => absurd h (Nat.lt_irrefl _))
    simp only [Nat.sub_self, Nat.add_zero] at happ' hclr Hend ⊢
    clear happ
    go_enter Tryz.func94, Tryz.ntmps94
    go_wp2
    go_region_law (refine step_append_known rfl _ _ 108 108 rfl _ _ (by simp [Act.eval, Act.put]) (by simp [Act.eval, Act.put]) (happ' 108 0) ?_)
    go_wp2
    go_ret
    exact Hend

/-- Delete, where there is nothing to take. -/
theorem delete_out_pc (p : Nat) (i m : Int) (sv : Value) (n : Nat) (xs : List Value) (w : World) (h : VecAt w 111 87 3 p sv n xs) (h0 : ¬ (0 ≤ i ∧ i < n) ∨ m < 1) :
    Calls Tryz.prog 77 #[.pointer (some ⟨p, 0, none⟩), .int .i64 i, .int .i64 m] w fun e w' => e = .returned (.slice none 0 0) ∧ w = w' := by
  have hhas := has_pc p i sv n xs w h
  clear h
  by_cases hi : 0 ≤ i ∧ i < n
  · have hn : decide (0 ≤ i ∧ i < n) = true := by simpa using hi
    rw [hn] at hhas
    have hm : m < 1 := by rcases h0 with h | h; exact absurd hi h; exact h
    clear hn h0 hi
    go_enter Tryz.func77, Tryz.ntmps77
    go_wp2_with (go_at_call 93; refine hhas.mono ?_; rintro e w' ⟨rfl, rfl⟩)
    go_ret
    exact ⟨rfl, rfl⟩
  · have hn : decide (0 ≤ i ∧ i < n) = false := by simpa using hi
    rw [hn] at hhas
    clear hn h0 hi
    go_enter Tryz.func77, Tryz.ntmps77
    go_wp2_with (go_at_call 93; refine hhas.mono ?_; rintro e w' ⟨rfl, rfl⟩)
    go_ret
    exact ⟨rfl, rfl⟩

/-- What Delete leaves: the vector without them; a row of its own with those that were taken. -/
def Deleted_pc (w : World) (vt e : TypeId) (k p n r : Nat) (xs ys : List Value) (sv : Value) (en : Ending) (w' : World) : Prop :=
  ∃ sv' d, en = .returned d ∧ VecAt w' vt e k p sv' n xs ∧ w'.ownsRow 0 e k d r ys ∧ Moved w w' p sv sv' ∧ (∀ b, d.ownBlock = some b → w.heap.size ≤ b ∧ b ≠ p ∧ sv'.ownBlock ≠ some b)

set_option maxHeartbeats 1000000 in
theorem delete_in_pc (p : Nat) (i m : Int) (sv : Value) (n r : Nat) (xs : List Value) (w : World) (h : VecAt w 111 87 3 p sv n xs) (h1x : ∀ u ∈ xs, u.oneCell' = true) (h0 : 0 ≤ i) (hin : i < n) (hm : 1 ≤ m) (hr : min m (n - i) = r) (hmx : m ≤ 9223372036854775807) (hb : n * 24 ≤ 140737488355328) :
    Calls Tryz.prog 77 #[.pointer (some ⟨p, 0, none⟩), .int .i64 i, .int .i64 m] w (Deleted_pc w 111 87 3 p (n - r) r (xs.take (i.toNat * 3) ++ xs.drop ((i.toNat + r) * 3)) ((xs.drop (i.toNat * 3)).take (r * 3)) sv) := by
  obtain ⟨j, rfl⟩ := Int.eq_ofNat_of_zero_le h0
  simp only [Int.toNat_natCast]
  have hn : decide (0 ≤ (j : Int) ∧ (j : Int) < n) = true := by simp; omega
  have hhas := has_pc p j sv n xs w h
  rw [hn] at hhas
  have hc := h.cell
  have hxl := h.row.1
  rcases row_form h.row with ⟨_, rfl, _⟩ | ⟨g, cap, cur, rfl, hg, hnc, hcm, hcs, htk, _⟩
  · omega
  have hmul1 : (j + r) * 3 ≤ n * 3 := Nat.mul_le_mul_right _ (by omega)
  have hmul2 : (j + r) * 3 = j * 3 + r * 3 := Nat.add_mul _ _ _
  -- what is taken, cloned
  have hsrc : SrcV w 3 (.slice (some ⟨g, j * 3, none⟩) r (cap - j)) r ((xs.drop (j * 3)).take (r * 3)) := by
    refine .inr ⟨_, _, rfl, by omega, by omega, by rw [List.length_take, List.length_drop]; omega, fun q u hq => ?_⟩
    rw [Addr.add_lit]
    have hq' : cur[j * 3 + q]? = some u := by
      rw [List.getElem?_take] at hq
      split at hq
      · rw [List.getElem?_drop, ← htk, List.getElem?_take] at hq
        split at hq
        · simpa using hq
        · cases hq
      · cases hq
    exact cell_of_heap hg hq'
  have hcl := clone_pc _ r _ w hsrc (fun u hu => h1x u (List.mem_of_mem_drop (List.mem_of_mem_take hu))) (by omega)
  have hpg : p ≠ g := fun e => h.ne (by rw [e]; rfl)
  have hne1 : ¬ (cap = j) := by omega
  have hne2 : (j : Int) + (r : Int) ≤ cap := by omega
  have hadd : IntKind.i64.wrap ((j : Int) + (r : Int)) = (j : Int) + (r : Int) := by unfold maxLen at hcm; rw [IntKind.wrap_i64]; omega
  have hsub : IntKind.i64.wrap ((n : Int) - (j : Int)) = (n : Int) - (j : Int) := by unfold maxLen at hcm; rw [IntKind.wrap_i64]; omega
  have htn : ((j : Int) + (r : Int)).toNat = j + r := by omega
  have hjr : j + r - j = r := by omega
  have hpos : (0 : Int) ≤ (j : Int) + (r : Int) := by omega
  have hm' : ¬ (m < 1) := by omega
  have hcm' := hcm
  unfold maxLen at hcm'
  have hgk : w.heap[g]? = some (.cells cur 87 (0, 0)) := hg
  try simp only [Nat.mul_one] at hcl hsrc
  clear hsrc hmul1 hmul2 h0 hn
  go_enter Tryz.func77, Tryz.ntmps77
  go_wp2_with (go_at_call 93; refine hhas.mono ?_; rintro e w' ⟨rfl, rfl⟩)
  refine hcl.mono ?_
  rintro e w1 ⟨d, rfl, hd, hchg, hnew⟩
  have hv1 := h.keep hchg (fun h => by cases h) (fun _ _ h => by cases h)
  have hc1 := hv1.cell
  have hdl := sdelete_pc g n cap j (j + r) cur xs w1 (hchg.heap hgk (by simp)) hnc hcm hcs htk hxl (by omega) (by omega) h1x
  rw [Int.natCast_add] at hdl
  rw [show j + (n - (j + r)) = n - r by omega] at hdl
  have hlt : ∀ b, d.ownBlock = some b → b < w1.heap.size := fun b hb => row_lt hd hb
  obtain ⟨a', c', rfl⟩ := row_slice hd
  try simp only [Nat.mul_one] at hdl
  have Hv1 := Lib.hid hv1
  have H := Lib.hid h
  have Hnew := Lib.hid hnew
  have Hlt := Lib.hid hlt
  clear hcl hv1 h hc hnew hlt hhas hxl hcs htk hg hgk
  go_wp2_with fail
  refine hdl.mono ?_
  rintro e w2 ⟨v', rfl, hrow, hchg2, hnew2⟩
  have Hb := Lib.hid (back_pc Hv1.out hrow hchg2 hnew2)
  obtain ⟨a2, c2, rfl⟩ := row_slice hrow
  have hc2 : w2.cell? ⟨p, 0, none⟩ = some (.slice (some ⟨g, 0, none⟩) n cap) := hchg2.cell hc1 (by simpa [Value.ownBlock] using hpg)
  have hf2 : w2.frozen? ⟨p, 0, none⟩ = false := frozen_of_heap (hchg2.heap Hv1.out.obj (by simpa [Value.ownBlock] using hpg)) 0
  have Hrow := Lib.hid hrow
  have Hnew2 := Lib.hid hnew2
  clear hdl hc1 hrow hnew2
  go_wp2_with fail
  go_ret
  obtain ⟨hvec, hmov⟩ := Hb.out
  have hsz := hchg.size
  have hpl := H.out.lt
  have hgl := H.out.row_lt (b := g) rfl
  try simp only [Nat.mul_one]
  refine ⟨_, _, rfl, hvec, ?_, ⟨(hchg.mono (fun k hk _ => by cases hk)).trans' hmov.chg, fun b hb => ?_⟩, fun b hb => ⟨Hnew.out b hb, ?_, ?_⟩⟩
  · refine row_keep hd hmov.chg (fun b hb hm => ?_)
    have h1 := Hnew.out b hb
    simp [vfoot, Value.ownBlock] at hm
    omega
  · rcases hmov.new b hb with h1 | h1
    · exact .inl h1
    · exact .inr (by omega)
  · have h1 := Hnew.out b hb; omega
  · intro hb2
    have h1 := Hnew.out b hb
    have h2 := Hlt.out b hb
    rcases hmov.new b hb2 with h3 | h3
    · simp [Value.ownBlock] at h3; omega
    · omega
end Go.Proofs.YtcdoomlagmddcaaGreatDoor

/-! The vectors of foolscap/piece.piece: the contracts in words of what stands side by side. -/
namespace Go.Proofs.YtcdoomlagmddcaaGreatDoor
open Go Go.RowKit Go.Fol
set_option linter.unusedVariables false
set_option linter.unusedSimpArgs false
section
variable {w0 w : World} {R : List Asrt}
/-- a vector of foolscap/piece.piece. -/
abbrev vec_pc (p n : Nat) (xs : List Value) : Asrt := Asrt.vec 111 87 3 p n xs
abbrev row_pc (v : Value) (n : Nat) (xs : List Value) : Asrt := Asrt.row 87 3 v n xs
theorem o_new_pc (v : Value) (n : Nat) (xs : List Value) (H : Owns w0 w R) (hs : Reads w0 R 3 v n xs) (h1 : ∀ u ∈ xs, u.oneCell' = true) (hb : n * 24 ≤ 140737488355328) :
    Calls Tryz.prog 48 #[v] w (RetX (fun p : Nat => .pointer (some ⟨p, 0, none⟩)) w0 (fun p => vec_pc p n xs :: R)) :=
  (new_pc v n xs w (hs w H) h1 hb).mono fun e w' h => H.newVec h
theorem o_clone_pc (v : Value) (n : Nat) (xs : List Value) (H : Owns w0 w R) (hs : Reads w0 R 3 v n xs) (h1 : ∀ u ∈ xs, u.oneCell' = true) (hb : n * 24 ≤ 140737488355328) :
    Calls Tryz.prog 69 #[v] w (RetX (fun v : Value => v) w0 (fun v => row_pc v n xs :: R)) :=
  (clone_pc v n xs w (hs w H) h1 hb).mono fun e w' h => H.cloned h
theorem o_len_pc {p n : Nat} {xs : List Value} (H : Owns w0 w (vec_pc p n xs :: R)) :
    Calls Tryz.prog 64 #[.pointer (some ⟨p, 0, none⟩)] w fun e w' => e = .returned (.int .i64 n) ∧ w = w' := by
  obtain ⟨sv, hv, _⟩ := H.vec
  exact len_pc p sv n xs w hv
theorem o_insert_pc {p n m : Nat} {xs : List Value} (i : Nat) (v : Value) (vs : List Value) (H : Owns w0 w (vec_pc p n xs :: R)) (hs : Reads w0 R 3 v m vs)
    (h1x : ∀ u ∈ xs, u.oneCell' = true) (h1 : ∀ u ∈ vs, u.oneCell' = true) (hin : i ≤ n) (hb : (n + m) * 24 ≤ 140737488355328) :
    Calls Tryz.prog 49 #[.pointer (some ⟨p, 0, none⟩), .int .i64 i, v] w (Ret (.bool true) w0 (vec_pc p (n + m) (xs.take (i * 3) ++ vs ++ xs.drop (i * 3)) :: R)) := by
  obtain ⟨sv, hv, _⟩ := H.vec
  have h := (insert_in_pc p i v sv n m xs vs w hv (hs w H.drop) (H.vecOff hv hs (by decide)) h1x h1 (by omega) (by omega) hb).mono fun e w' h => H.vecBack hv h
  simpa only [Int.toNat_natCast] using h
theorem o_insert_out_pc {p n m : Nat} {xs : List Value} (i : Int) (v : Value) (vs : List Value) (H : Owns w0 w (vec_pc p n xs :: R)) (hs : Reads w0 R 3 v m vs) (hi : ¬ (0 ≤ i ∧ i ≤ n)) :
    Calls Tryz.prog 49 #[.pointer (some ⟨p, 0, none⟩), .int .i64 i, v] w fun e w' => e = .returned (.bool false) ∧ w = w' := by
  obtain ⟨sv, hv, _⟩ := H.vec
  exact insert_out_pc p i v sv n m xs vs w hv (hs w H.drop) (by omega)
theorem o_delete_out_pc {p n : Nat} {xs : List Value} (i m : Int) (H : Owns w0 w (vec_pc p n xs :: R)) (h0 : ¬ (0 ≤ i ∧ i < n) ∨ m < 1) :
    Calls Tryz.prog 77 #[.pointer (some ⟨p, 0, none⟩), .int .i64 i, .int .i64 m] w fun e w' => e = .returned (.slice none 0 0) ∧ w = w' := by
  obtain ⟨sv, hv, _⟩ := H.vec
  exact delete_out_pc p i m sv n xs w hv h0
theorem o_delete_pc {p n : Nat} {xs : List Value} (i r : Nat) (m : Int) (H : Owns w0 w (vec_pc p n xs :: R)) (h1x : ∀ u ∈ xs, u.oneCell' = true) (hin : i < n) (hm : 1 ≤ m) (hr : min m ((n : Int) - i) = r) (hmx : m ≤ 9223372036854775807) (hb : n * 24 ≤ 140737488355328) :
    Calls Tryz.prog 77 #[.pointer (some ⟨p, 0, none⟩), .int .i64 i, .int .i64 m] w
      (RetX (fun d : Value => d) w0 (fun d => vec_pc p (n - r) (xs.take (i * 3) ++ xs.drop ((i + r) * 3)) :: row_pc d r ((xs.drop (i * 3)).take (r * 3)) :: R)) := by
  obtain ⟨sv, hv, hu⟩ := H.vec
  refine (delete_in_pc p i m sv n r xs w hv h1x (by omega) (by omega) hm hr hmx hb).mono ?_
  rintro e w' ⟨sv', d, rfl, hv', hd, hm', hn⟩
  refine ⟨d, rfl, Owns.step (Bs := [_, _]) H (fun F hF _ => ?_)⟩
  obtain rfl := hu F hF
  simp only [Int.toNat_natCast] at hv' hd
  refine ⟨hm'.chg, vfoot p sv', ⟨sv', rfl, hv'⟩, fun b hb => ?_, d.ownBlock.toList, ⟨rfl, hd⟩, fun b hb => ?_, trivial⟩
  · simp only [vfoot, List.mem_cons, Option.mem_toList] at hb ⊢
    rcases hb with rfl | hb
    · exact .inl (.inl rfl)
    · exact (hm'.new b hb).elim (fun h => .inl (.inr h)) .inr
  · have h := hn b (by simpa using hb)
    refine ⟨.inr h.1, fun hm => ?_⟩
    simp only [vfoot, List.mem_cons, Option.mem_toList] at hm
    exact hm.elim h.2.1 h.2.2
theorem app_pc {s x : Value} {n m : Nat} {xs vs : List Value} (H : Owns w0 w (row_pc s n xs :: R)) (hv : Reads w0 R 3 x m vs) (h1 : ∀ u ∈ vs, u.oneCell' = true) (h63 : n + m ≤ maxLen) (hb : (n + m) * 24 ≤ 140737488355328) :
    ∃ v' w', (∀ ty, (Builtin.append_ #[108, 108] ty #[s, x]).run Tryz.prog w = .ok v' w') ∧ Owns w0 w' (row_pc v' (n + m) (xs ++ vs) :: R) := by
  obtain ⟨i0, hi, hz0, hz1, hz2⟩ := info_parts info_pc
  exact Owns.app (ty := 0) Tryz.underlying108 hi hz0 hz1 hz2 rfl (by decide) H hv h1 h63 hb
theorem app0_pc {x : Value} {m : Nat} {vs : List Value} (H : Owns w0 w R) (hv : Reads w0 R 3 x m vs) (h1 : ∀ u ∈ vs, u.oneCell' = true) (h63 : m ≤ maxLen) (hb : m * 24 ≤ 140737488355328) :
    ∃ v' w', (∀ ty, (Builtin.append_ #[108, 108] ty #[.slice none 0 0, x]).run Tryz.prog w = .ok v' w') ∧ Owns w0 w' (row_pc v' m vs :: R) := by
  obtain ⟨v', w', h2, h3⟩ := app_pc (H.rowNil 87 3) hv h1 (by omega) (by simpa using hb)
  exact ⟨v', w', h2, by simpa using h3⟩
end
end Go.Proofs.YtcdoomlagmddcaaGreatDoor

/-! The vectors of foolscap/piece.piece: At, Set, All, Back in words of what stands side by side. -/
namespace Go.Proofs.YtcdoomlagmddcaaGreatDoor
open Go Go.RowKit Go.Fol
attribute [local go_sem ↓] run_min2 run_max2
attribute [local go_sem] Oper.semAt_some
set_option linter.unusedVariables false
set_option linter.unusedSimpArgs false
section
variable {w0 w : World} {R : List Asrt}
/-- the i-th of them. -/
def at_pc (xs : List Value) (i : Nat) (c0 : Bool) (c1 : Int) (c2 : Int) : Prop := xs[i * 3]? = some (.bool c0) ∧ xs[i * 3 + 1]? = some (.int .i64 c1) ∧ xs[i * 3 + 2]? = some (.int .i64 c2)
/-- the cells of all are read as such. -/
def are_pc (xs : List Value) (n : Nat) : Prop := ∀ i, i < n → ∃ c0 c1 c2, at_pc xs i c0 c1 c2
theorem o_at_pc {p n : Nat} {xs : List Value} (i : Nat) (c0 : Bool) (c1 : Int) (c2 : Int) (H : Owns w0 w (vec_pc p n xs :: R)) (hi : i < n) (hx : at_pc xs i c0 c1 c2) :
    Calls Tryz.prog 79 #[.pointer (some ⟨p, 0, none⟩), .int .i64 i] w (Ret (.tuple #[.agg #[.bool c0, .int .i64 c1, .int .i64 c2], .bool true]) w0 (vec_pc p n xs :: R)) := by
  obtain ⟨hx0, hx1, hx2⟩ := hx
  obtain ⟨sv, h, _⟩ := H.vec
  have hn : decide (0 ≤ (i : Int) ∧ (i : Int) < n) = true := by simp; omega
  have h2 := h.alloc (.cells #[.bool false, .int .i64 0, .int .i64 0] 87)
  have hhas := has_pc p i sv n xs _ h2
  rw [hn] at hhas
  have hc := h2.cell
  rcases row_form h.row with ⟨_, rfl, _⟩ | ⟨g, cap, cur, rfl, hg, hnc, hm, _⟩
  · omega
  have e0 := h2.row.cells (g := g) rfl _ _ hx0
  have e1 := h2.row.cells (g := g) rfl _ _ hx1
  have e2 := h2.row.cells (g := g) rfl _ _ hx2
  rw [Addr.add_lit, Nat.zero_add] at e0 e1 e2
  have H2 := Lib.hid H
  unfold maxLen at hm
  clear h h2 hg hn hx0 hx1 hx2 H
  go_enter Tryz.func79, Tryz.ntmps79
  go_wp2_with (go_at_call 93; refine hhas.mono ?_; rintro e w' ⟨rfl, rfl⟩)
  exact bodyPost_ret (v := .tuple #[.agg #[.bool c0, .int .i64 c1, .int .i64 c2], .bool true]) (by simp [results, Tryz.results79, go_sem]) rfl ⟨rfl, H2.out.alloc0 _⟩
theorem o_at_out_pc {p n : Nat} {xs : List Value} (i : Int) (H : Owns w0 w (vec_pc p n xs :: R)) (h0 : ¬ (0 ≤ i ∧ i < n)) :
    Calls Tryz.prog 79 #[.pointer (some ⟨p, 0, none⟩), .int .i64 i] w (Ret (.tuple #[.agg #[.bool false, .int .i64 0, .int .i64 0], .bool false]) w0 (vec_pc p n xs :: R)) := by
  obtain ⟨sv, h, _⟩ := H.vec
  have hn : decide (0 ≤ i ∧ i < n) = false := by simpa using h0
  have h2 := h.alloc (.cells #[.bool false, .int .i64 0, .int .i64 0] 87)
  have hhas := has_pc p i sv n xs _ h2
  rw [hn] at hhas
  have H2 := Lib.hid H
  clear h h2 hn h0 H
  go_enter Tryz.func79, Tryz.ntmps79
  go_wp2_with (go_at_call 93; refine hhas.mono ?_; rintro e w' ⟨rfl, rfl⟩)
  exact bodyPost_ret (v := .tuple #[.agg #[.bool false, .int .i64 0, .int .i64 0], .bool false]) (by simp [results, Tryz.results79, go_sem]) rfl ⟨rfl, (H2.out.alloc0 _).alloc0 _⟩
theorem o_set_pc {p n : Nat} {xs : List Value} (i : Nat) (c0 : Bool) (c1 : Int) (c2 : Int) (H : Owns w0 w (vec_pc p n xs :: R)) (hi : i < n) :
    Calls Tryz.prog 80 #[.pointer (some ⟨p, 0, none⟩), .int .i64 i, .agg #[.bool c0, .int .i64 c1, .int .i64 c2]] w (Ret (.bool true) w0 (vec_pc p n ((((xs).set (i * 3) (.bool c0)).set (i * 3 + 1) (.int .i64 c1)).set (i * 3 + 2) (.int .i64 c2)) :: R)) := by
  obtain ⟨sv, h, hu⟩ := H.vec
  have hn : decide (0 ≤ (i : Int) ∧ (i : Int) < n) = true := by simp; omega
  have h2 := h.alloc (.cells #[.bool c0, .int .i64 c1, .int .i64 c2] 87)
  have hhas := has_pc p i sv n xs _ h2
  rw [hn] at hhas
  rcases row_form h.row with ⟨_, rfl, _⟩ | ⟨g, cap, cur, rfl, hg, hnc, hm, hcs, htk, hxl⟩
  · omega
  have S0 := H.alloc0 (.cells #[.bool c0, .int .i64 c1, .int .i64 c2] 87)
  have hc := h2.cell
  have hi2 : (i + 1) * 3 ≤ n * 3 := Nat.mul_le_mul_right _ hi
  have hi4 : (i + 1) * 3 = i * 3 + 3 := by rw [Nat.add_mul, Nat.one_mul]
  obtain ⟨S1, v1, ⟨y0, cy0⟩, fz0⟩ := S0.vecSet h2 (q := i * 3) (by omega) (.bool c0)
  obtain ⟨S2, v2, ⟨y1, cy1⟩, fz1⟩ := S1.vecSet v1 (q := i * 3 + 1) (by omega) (.int .i64 c1)
  obtain ⟨S3, v3, ⟨y2, cy2⟩, fz2⟩ := S2.vecSet v2 (q := i * 3 + 2) (by omega) (.int .i64 c2)
  have Hend := Lib.hid S3
  unfold maxLen at hm
  have hmixed : Tryz.prog.follows .mixedOrders = true := by kernel_rfl
  clear h h2 hg hn hi2 hi4 hcs htk hxl H hu S0 S1 S2 S3 v1 v2 v3
  go_enter Tryz.func80, Tryz.ntmps80
  go_wp2_with (go_at_call 93; refine hhas.mono ?_; rintro e w' ⟨rfl, rfl⟩)
  go_region
  all_goals
    go_wp2
    go_ret
    exact ⟨rfl, Hend.out.drew⟩
theorem o_set_out_pc {p n : Nat} {xs : List Value} (i : Int) (c0 : Bool) (c1 : Int) (c2 : Int) (H : Owns w0 w (vec_pc p n xs :: R)) (h0 : ¬ (0 ≤ i ∧ i < n)) :
    Calls Tryz.prog 80 #[.pointer (some ⟨p, 0, none⟩), .int .i64 i, .agg #[.bool c0, .int .i64 c1, .int .i64 c2]] w (Ret (.bool false) w0 (vec_pc p n xs :: R)) := by
  obtain ⟨sv, h, hu⟩ := H.vec
  have hn : decide (0 ≤ i ∧ i < n) = false := by simpa using h0
  have h2 := h.alloc (.cells #[.bool c0, .int .i64 c1, .int .i64 c2] 87)
  have hhas := has_pc p i sv n xs _ h2
  rw [hn] at hhas
  have H2 := Lib.hid H
  clear h h2 hn h0 H
  go_enter Tryz.func80, Tryz.ntmps80
  go_wp2_with (go_at_call 93; refine hhas.mono ?_; rintro e w' ⟨rfl, rfl⟩)
  go_ret
  exact ⟨rfl, H2.out.alloc0 _⟩

theorem o_all_pc {p n : Nat} {xs : List Value} (H : Owns w0 w (vec_pc p n xs :: R)) (h1x : ∀ u ∈ xs, u.oneCell' = true) (hb : n * 24 ≤ 140737488355328) :
    Calls Tryz.prog 61 #[.pointer (some ⟨p, 0, none⟩)] w (RetX (fun b : Nat => .func (.func 99) #[] #[.pointer (some ⟨b, 0, none⟩)]) w0 (fun b => Asrt.vec 108 87 3 b n xs :: vec_pc p n xs :: R)) := by
  obtain ⟨sv, h, _⟩ := H.vec
  have hc := h.cell
  have hcl := clone_pc sv n xs w (SrcV.of_row h.row) h1x hb
  obtain ⟨a, c, rfl⟩ := row_slice h.row
  have HH := Lib.hid H
  clear h hb H
  go_enter Tryz.func61, Tryz.ntmps61
  go_wp2_with (first | (go_at_call 69; refine hcl.mono ?_; rintro e w1 ⟨d, rfl, hd, hchg, hnew⟩; obtain ⟨a', c', rfl⟩ := row_slice hd) | go_in)
  go_ret
  refine HH.out.ranged ⟨w1.heap.size, _, rfl, ⟨heap_alloc_new _ _, row_keep hd ((Chg.refl [] w1).alloc _) (fun _ _ h => by cases h), fun e => Nat.lt_irrefl _ (row_lt hd e)⟩, hchg.alloc _, ?_⟩
  intro b hb
  simp only [vfoot, List.mem_cons, Option.mem_toList] at hb
  rcases hb with rfl | hb
  · exact hchg.size
  · exact hnew b hb
set_option maxRecDepth 100000 in
set_option maxHeartbeats 2000000 in
theorem seq_all_pc (b : Nat) (sv : Value) (n : Nat) (xs : List Value) (w : World) (h : VecAt w 108 87 3 b sv n xs) (hat : are_pc xs n) :
    SeqList Tryz.prog 99 #[.pointer (some ⟨b, 0, none⟩)] (fun k => #[.int .i64 k, .agg #[xs[k * 3]?.getD undef, xs[k * 3 + 1]?.getD undef, xs[k * 3 + 2]?.getD undef]]) (vfoot b sv) n w := by
  intro l J Jx W hk0 hsz hJ hJx hY h0
  have hW : VecAt W 108 87 3 b sv n xs := keepB_vec h hk0 (fun c hc => hc)
  have hbox := hW.cell
  have hn63 := row_n63 hW.row
  obtain ⟨a, c, rfl⟩ := row_slice hW.row
  refine callsIn_of_wp Tryz.func99 rfl trivial ?_ rfl
  simp only [Tryz.ntmps99, List.size_toArray, List.length_cons, List.length_nil, Nat.reduceAdd, Nat.reduceSub, Array.replicate_succ, Array.replicate_zero, List.push_toArray, List.append_toArray, List.nil_append, List.cons_append]
  have HL := Lib.hid hW.foot_lt
  have HW := Lib.hid hW.row
  have HJ := Lib.hid hJ
  have HJx := Lib.hid hJx
  have HY := Lib.hid hY
  have Hat := Lib.hid hat
  clear h hk0 hW hJ hJx hY hat
  gi_wp2
  gi_loopw [7] (fun i wr => ∃ k : Nat, k ≤ n ∧ i = .int .i64 k ∧ J k wr ∧ KeepB (vfoot b (.slice a n c)) W wr) (fun i _ => n - (intOf i).toNat)
  case atStart => exact ⟨0, Nat.zero_le _, rfl, h0, fun _ _ => rfl⟩
  case round =>
    obtain ⟨k, hk, rfl, hJs, hkp⟩ := hrel
    by_cases hlt : k < n
    · have hrow := keepB_row HW.out hkp (fun b' hb' => by simp [vfoot, hb'])
      obtain ⟨c0, c1, c2, ⟨hx0, hx1, hx2⟩⟩ := Hat.out k hlt
      rcases row_form hrow with ⟨_, rfl, _⟩ | ⟨g, cap, cur, hsl, _, hnc, _⟩
      · omega
      cases hsl
      have e0 := hrow.cells (g := g) rfl _ _ hx0
      have e1 := hrow.cells (g := g) rfl _ _ hx1
      have e2 := hrow.cells (g := g) rfl _ _ hx2
      rw [Addr.add_lit, Nat.zero_add] at e0 e1 e2
      have g0 : xs[k * 3]?.getD undef = .bool c0 := by rw [hx0]; rfl
      have g1 : xs[k * 3 + 1]?.getD undef = .int .i64 c1 := by rw [hx1]; rfl
      have g2 : xs[k * 3 + 2]?.getD undef = .int .i64 c2 := by rw [hx2]; rfl
      have hJs' := HJ.out k _ _ hJs ((Chg.refl [] wr).alloc (.cells #[.bool c0, .int .i64 c1, .int .i64 c2] 87))
      obtain ⟨fn, tmps, assign, body, hy, hR⟩ := HY.out k _ hlt hJs'
      simp only [g0, g1, g2] at hy
      have Hkp := Lib.hid (show KeepB (vfoot b (.slice (some ⟨g, 0, none⟩) n c)) W (wr.alloc (.cells #[.bool c0, .int .i64 c1, .int .i64 c2] 87)) from keepB_t hkp (((Chg.refl [] wr).alloc _).keepB (fun q hq => ⟨keepB_lt hkp hq (HL.out q hq), by simp⟩)))
      clear hkp hrow hJs hJs' hx0 hx1 hx2 g0 g1 g2
      gi_wp2
      refine hR.mono ?_
      rintro e W3 (⟨rfl, hJ3, hk3⟩ | ⟨rfl, hJx3⟩)
      · gi_wp2
        go_roundw
        case rel => exact ⟨k + 1, by omega, by simp, hJ3, keepB_t Hkp.out hk3⟩
        case measure => simp [intOf]; omega
      · gi_wp2
        refine bodyPost_ret (results_none rfl _ _ _) rfl ?_
        exact ⟨⟨_, rfl⟩, .inr hJx3⟩
    · obtain rfl : k = n := by omega
      gi_wp2
      go_end0
      exact ⟨⟨_, rfl⟩, .inl hJs⟩
/-- what a range over All goes through. -/
theorem o_seq_all_pc {b n : Nat} {xs : List Value} (H : Owns w0 w (Asrt.vec 108 87 3 b n xs :: R)) (hat : are_pc xs n) : ∃ S, SeqList Tryz.prog 99 #[.pointer (some ⟨b, 0, none⟩)] (fun k => #[.int .i64 k, .agg #[xs[k * 3]?.getD undef, xs[k * 3 + 1]?.getD undef, xs[k * 3 + 2]?.getD undef]]) S n w ∧ Owns w0 w (Asrt.same w S :: R) := by
  obtain ⟨sv, hv, hu⟩ := H.vec
  exact ⟨_, seq_all_pc b sv n xs w hv hat, H.toSame hu⟩
end
end Go.Proofs.YtcdoomlagmddcaaGreatDoor
