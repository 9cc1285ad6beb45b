/- The vectors of foolscap/undo.group: slices.Insert, road three (there is room: in place). -/
import Derived.Test.YtchgkdhhfbppbaaVecInsGrp
import Derived.RegionTactic
import Derived.Deep.RegionLaw
namespace Go.Proofs.Ytchgkdhhfbppbaa
open Go Go.RowKit Go.Fol
attribute [local go_sem ↓] run_min2 run_max2
set_option linter.unusedVariables false
set_option linter.unusedSimpArgs false

theorem sizeOf_grp : ∀ w, (Go.sizeOf 56).run Try.prog w = .ok 5 w := fun _ => by kernel_rfl

set_option maxHeartbeats 4000000 in
set_option maxRecDepth 100000 in
theorem sinsert_shift_grp (g n m cap j : Nat) (cur : Array Value) (xs vs : List Value) (va : Addr) (vc : Nat) (w : World) (hg : w.heap[g]? = some (.cells cur 56 (0, 0))) (hnc : n ≤ cap) (hcm : cap ≤ maxLen) (hcs : cur.size = cap * 5) (htk : cur.toList.take (n * 5) = xs) (hxl : xs.length = n * 5)
    (hj : j < n) (hm0 : 0 < m) (hroom : n + m ≤ cap) (hva : va.block ≠ g)
    (hvl : vs.length = m * 5) (hv : ∀ j u, vs[j]? = some u → w.cell? (va.add j) = some u) (h1x : ∀ u ∈ xs, u.oneCell' = true) (h1 : ∀ u ∈ vs, u.oneCell' = true) :
    Calls Try.prog 33 #[.slice (some ⟨g, 0, none⟩) n cap, .int .i64 j, .slice (some va) m vc] w (RowBack w 56 5 (n + m) (xs.take (j * 5) ++ vs ++ xs.drop (j * 5)) (.slice (some ⟨g, 0, none⟩) n cap)) := by
  have hsz : (Try.prog.info? 56).map (·.size) = some 5 := by kernel_rfl
  obtain ⟨u0, hu0⟩ : ∃ u, vs[0]? = some u := ⟨vs[0]'(by omega), List.getElem?_eq_getElem _⟩
  obtain ⟨cA, tA, fA, hA, hAs⟩ : ∃ cA tA fA, w.heap[va.block]? = some (.cells cA tA fA) ∧ cA.size ≠ 0 := by
    have := hv 0 u0 hu0
    have hadd : va.add 0 = va := by simp [Addr.add]
    rw [hadd] at this
    unfold World.cell? at this
    split at this
    · rename_i c e f hc
      refine ⟨c, e, f, hc, fun h0 => ?_⟩
      split at this
      · cases this
      · have := (Array.getElem?_eq_some_iff.1 this).1; omega
    · cases this
  have hov : ∀ lb cb, (callFunc 36 #[.slice (some va) m vc, .slice (some ⟨g, (j + m) * 5, none⟩) lb cb]).run Try.prog w = .ok (.value (.bool false)) w := fun lb cb => by
    rw [run_callFunc_extern Try.func36 (by kernel_rfl) (by kernel_rfl) (by kernel_rfl) (e := Extern.SlicesOverlaps.overlaps #[60, 60] #[4]) (by kernel_rfl),
      run_overlaps_row w 60 4 56 Try.underlying60 5 sizeOf_grp va ⟨g, (j + m) * 5, none⟩ m vc lb cb hva cA cur tA 56 fA hA hg hAs]
    rfl
  have hcl : cur.toList.length = cap * 5 := by simpa using hcs
  have hmul1 : j * 5 ≤ n * 5 := Nat.mul_le_mul_right _ (by omega)
  have hmul2 : (n + m) * 5 ≤ cap * 5 := Nat.mul_le_mul_right _ hroom
  have hmul3 : (n + m) * 5 = n * 5 + m * 5 := Nat.add_mul _ _ _
  have hmul4 : (j + m) * 5 = j * 5 + m * 5 := Nat.add_mul _ _ _
  have hmul5 : (n - j) * 5 = n * 5 - j * 5 := Nat.sub_mul _ _ _
  obtain ⟨L1, hL1⟩ : ∃ L1, L1 = splice cur.toList ((j + m) * 5) (xs.drop (j * 5)) := ⟨_, rfl⟩
  have hL1l : L1.length = cap * 5 := by rw [hL1, length_splice _ _ _ (by simp; omega), hcl]
  have hcp1 : ∀ (W : World), W.heap = w.heap → ∀ ty dc sc, (Builtin.copy_ #[60, 60] ty #[.slice (some ⟨g, (j + m) * 5, none⟩) (n + m - (j + m)) dc, .slice (some ⟨g, j * 5, none⟩) (n + m - j) sc]).run Try.prog W = .ok (goInt (Nat.min (n + m - j) (n + m - (j + m)))) (W.setRow g L1.toArray) := fun W hW ty dc sc => by
    rw [hL1]
    have hc : ∀ x, W.cell? x = w.cell? x := fun x => by simp only [World.cell?, hW]
    refine run_copy_k W _ _ ty 56 5 g ((j + m) * 5) (n + m - (j + m)) dc ⟨g, j * 5, none⟩ (n + m - j) sc cur 56 (xs.drop (j * 5)) Try.underlying60 hsz (by rw [hW]; exact hg) ?_ ?_ ?_ (fun u hu => h1x u (List.mem_of_mem_drop hu))
    · have : Nat.min (n + m - j) (n + m - (j + m)) = n - j := by simp only [Nat.min_def]; split <;> omega
      rw [this, List.length_drop, hxl, hmul5]
    · intro q u hq
      rw [Addr.add_lit, hc]
      have hq' : cur[j * 5 + q]? = some u := by
        rw [List.getElem?_drop, ← htk, List.getElem?_take] at hq
        split at hq
        · simpa using hq
        · cases hq
      exact cell_of_heap hg hq'
    · simp only [List.length_drop]; omega
  obtain ⟨L2, hL2⟩ : ∃ L2, L2 = splice L1 (j * 5) vs := ⟨_, rfl⟩
  have hL2l : L2.length = cap * 5 := by rw [hL2, length_splice _ _ _ (by omega), hL1l]
  have hcp2 : ∀ (W : World), W.heap = (w.setRow g L1.toArray).heap → ∀ ty dc, (Builtin.copy_ #[60, 60] ty #[.slice (some ⟨g, j * 5, none⟩) (n + m - j) dc, .slice (some va) m vc]).run Try.prog W = .ok (goInt (Nat.min m (n + m - j))) (W.setRow g L2.toArray) := fun W hW ty dc => by
    rw [hL2]
    have hc : ∀ x, W.cell? x = (w.setRow g L1.toArray).cell? x := fun x => by simp only [World.cell?, hW]
    refine run_copy_k W _ _ ty 56 5 g (j * 5) (n + m - j) dc va m vc L1.toArray 56 vs Try.underlying60 hsz (by rw [hW]; exact setRow_heap w g _ _ _ _ hg) ?_ ?_ ?_ h1
    · have : Nat.min m (n + m - j) = m := by simp only [Nat.min_def]; split <;> omega
      rw [this, hvl]
    · intro q u hq
      rw [hc]
      have := hv q u hq
      have hb : (va.add q).block = va.block := by unfold Addr.add; split <;> rfl
      rw [World.cell?_of_block (w := w) (setRow_other w g _ _ (by rw [hb]; exact hva))]
      exact this
    · simp; omega
  have Hend : RowBack w 56 5 (n + m) (xs.take (j * 5) ++ vs ++ xs.drop (j * 5)) (.slice (some ⟨g, 0, none⟩) n cap) (.returned (.slice (some ⟨g, 0, none⟩) (n + m) cap)) ((w.setRow g L1.toArray).drew.setRow g L2.toArray) := by
    refine ⟨_, rfl, ?_, ((Chg.refl _ w).setRow (fun _ => by simp [Value.ownBlock]) _).drew.setRow (fun _ => by simp [Value.ownBlock]) _, fun b hb => .inl hb⟩
    refine row_setRow (c0 := L1.toArray) (setRow_heap w g _ _ _ _ hg) hroom hcm hL2l ?_
    rw [hL2, hL1, hmul3, ← hxl, hmul4]
    exact insert_cells cur.toList xs vs (j * 5) (m * 5) (by rw [hxl]; exact htk) hvl.symm (by omega) (by omega)
  have hz1 : ¬ ((m : Int) = 0) := by omega
  have hin : j ≤ n := by omega
  have hz2 : ¬ ((j : Int) = (n : Int)) := by omega
  have hw1 : IntKind.i64.wrap ((j : Int) + (m : Int)) = (j : Int) + (m : Int) := by unfold maxLen at hcm; rw [IntKind.wrap_i64]; omega
  have hb1 : (0 : Int) ≤ (j : Int) + (m : Int) := by omega
  have htn : ((j : Int) + (m : Int)).toNat = j + m := by omega
  have hb2 : ¬ (cap = j + m) := by omega
  have hb3 : (j : Int) ≤ (n : Int) + (m : Int) := by omega
  have hb4 : ¬ (cap = j) := by omega
  have hmixed : Try.prog.follows .mixedOrders = true := by kernel_rfl
  unfold maxLen at hcm
  clear hmul1 hmul2 hmul3 hmul4 hmul5 hL1 hL2 hL1l hL2l hcl htk hxl hu0 hA hAs hsz
  have hcpA := hcp1 w.drew rfl
  have hcpB := hcp2 (w.drew.setRow g L1.toArray) rfl
  clear hcp1 hcp2
  try simp only [Nat.mul_one] at hov hcpA hcpB Hend ⊢
  go_enter Try.func33, Try.ntmps33
  go_wp2_with (simp only [hov])
  go_region
  go_wp2
  go_ret
  exact Hend
end Go.Proofs.Ytchgkdhhfbppbaa
