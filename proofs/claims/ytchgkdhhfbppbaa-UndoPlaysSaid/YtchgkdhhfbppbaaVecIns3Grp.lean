/- The vectors of foolscap/undo.group: slices.Insert, road four (no room: a new row); all roads together; Insert. -/
import Derived.Test.YtchgkdhhfbppbaaVecIns2Grp
namespace Go.Proofs.Ytchgkdhhfbppbaa
open Go Go.RowKit Go.Fol
attribute [local go_sem ↓] run_min2 run_max2
set_option linter.unusedVariables false
set_option linter.unusedSimpArgs false

set_option maxHeartbeats 4000000 in
set_option maxRecDepth 100000 in
theorem sinsert_grow_grp (g n m cap j : Nat) (cur : Array Value) (xs vs : List Value) (va : Addr) (vc : Nat) (w : World) (hg : w.heap[g]? = some (.cells cur 56 (0, 0))) (hnc : n ≤ cap) (hcm : cap ≤ maxLen) (hcs : cur.size = cap * 5) (htk : cur.toList.take (n * 5) = xs) (hxl : xs.length = n * 5)
    (hj : j < n) (hm0 : 0 < m) (hroom : cap < n + m) (hb : (n + m) * 56 ≤ 140737488355328)
    (hvl : vs.length = m * 5) (hv : ∀ j u, vs[j]? = some u → w.cell? (va.add j) = some u) (h1x : ∀ u ∈ xs, u.oneCell' = true) (h1 : ∀ u ∈ vs, u.oneCell' = true) :
    Calls Try.prog 33 #[.slice (some ⟨g, 0, none⟩) n cap, .int .i64 j, .slice (some va) m vc] w (RowBack w 56 5 (n + m) (xs.take (j * 5) ++ vs ++ xs.drop (j * 5)) (.slice (some ⟨g, 0, none⟩) n cap)) := by
  have hsz : (Try.prog.info? 56).map (·.size) = some 5 := by kernel_rfl
  obtain ⟨i0, hi, hz0, hz1, hz2⟩ := info_parts info_grp
  have hgl : g < w.heap.size := heap_lt hg
  have hmul1 : j * 5 ≤ n * 5 := Nat.mul_le_mul_right _ (by omega)
  have hmul3 : (n + m) * 5 = n * 5 + m * 5 := Nat.add_mul _ _ _
  have hmul4 : (j + m) * 5 = j * 5 + m * 5 := Nat.add_mul _ _ _
  have hmul5 : (n - j) * 5 = n * 5 - j * 5 := Nat.sub_mul _ _ _
  have hnm : n + m ≤ 140737488355328 := by omega
  have hold : (Builtin.firstCells i0.size j (.slice (some ⟨g, 0, none⟩) j cap)).run Try.prog w.drew = .ok (xs.take (j * 5)).toArray w.drew := by
    rw [hz1]
    refine run_firstCells_some w.drew 5 j ⟨g, 0, none⟩ j cap (xs.take (j * 5)) (by rw [List.length_take]; omega) (fun q u hq => ?_)
    rw [Addr.add_lit, Nat.zero_add]
    have hq' : cur[q]? = some u := by
      rw [← htk, List.take_take, List.getElem?_take] at hq
      split at hq
      · simpa using hq
      · cases hq
    exact cell_of_heap (w := w.drew) hg hq'
  obtain ⟨G, ROW, W1, hrz, hG, hGm, hRl, hRt, hg1, hchg1⟩ : ∃ (G : Nat) (ROW : List Value) (W1 : World), (∀ ty, (Builtin.append_ #[60, 3] ty #[.slice (some ⟨g, 0, none⟩) j cap, .int .i64 ((n : Int) + (m : Int) - (j : Int))]).run Try.prog w = .ok (.slice (some ⟨w.heap.size, 0, none⟩) (n + m) G) W1) ∧
      n + m ≤ G ∧ G ≤ maxLen ∧ ROW.length = G * 5 ∧ ROW.take (j * 5) = xs.take (j * 5) ∧ W1.heap[w.heap.size]? = some (.cells ROW.toArray 56 (0, 0)) ∧ Chg [] w W1 := by
    have h := fun ty => Lib.run_append_grow_zeros w 60 3 ty 56 i0 _ .i64 .i64 Try.underlying60 Try.underlying3 hi hz0 (some ⟨g, 0, none⟩) j cap (xs.take (j * 5)) hold (n + m - j) (by omega) (by omega) (by omega) (by omega) (by rw [hz2]; omega) (by rw [hz2, show j + (n + m - j) = n + m by omega]; exact growslice_fits hroom hb)
    rw [show j + (n + m - j) = n + m by omega, show ((n + m - j : Nat) : Int) = (n : Int) + (m : Int) - (j : Int) by omega] at h
    refine ⟨_, (xs.take (j * 5) ++ ((Builtin.zeroCells (Value.cells (.agg #[.int .i64 0, .int .i64 0, .int .i64 0, .int .i64 0, .slice none 0 0])) (n + m - j)).toList ++ (Builtin.zeroCells (Value.cells (.agg #[.int .i64 0, .int .i64 0, .int .i64 0, .int .i64 0, .slice none 0 0])) (grownCap w (n + m) cap 56 - (n + m))).toList)), _, h, grownCap_ge w _ _ _, grownCap_le_maxLen w _ _ _ (by unfold maxLen; omega), ?_, ?_, ?_, ?_⟩
    · have hge := grownCap_ge w (n + m) cap 56
      have hzc : (Value.cells (.agg #[.int .i64 0, .int .i64 0, .int .i64 0, .int .i64 0, .slice none 0 0])).size = 5 := rfl
      simp only [List.length_append, List.length_take, Array.length_toList, size_zeroCells, hzc, Nat.min_eq_left (by omega : j * 5 ≤ xs.length)]
      rw [← Nat.add_mul, ← Nat.add_mul]
      congr 1
      omega
    · rw [List.take_append_of_le_length (by rw [List.length_take]; omega), List.take_take, Nat.min_self]
    · rw [show w.heap.size = w.drew.heap.size from rfl, heap_alloc_new]
      simp
    · exact ((Chg.refl [] w).drew).alloc _
  clear hold
  obtain ⟨L1, hL1⟩ : ∃ L1, L1 = splice ROW (j * 5) vs := ⟨_, rfl⟩
  have hL1l : L1.length = G * 5 := by rw [hL1, length_splice _ _ _ (by have : (n + m) * 5 ≤ G * 5 := Nat.mul_le_mul_right _ hG; omega), hRl]
  have hGk : (n + m) * 5 ≤ G * 5 := Nat.mul_le_mul_right _ hG
  have hgne : w.heap.size ≠ g := by omega
  have hcpA : ∀ ty dc, (Builtin.copy_ #[60, 60] ty #[.slice (some ⟨w.heap.size, j * 5, none⟩) (n + m - j) dc, .slice (some va) m vc]).run Try.prog W1 = .ok (goInt (Nat.min m (n + m - j))) (W1.setRow w.heap.size L1.toArray) := fun ty dc => by
    rw [hL1]
    refine run_copy_k W1 _ _ ty 56 5 w.heap.size (j * 5) (n + m - j) dc va m vc ROW.toArray 56 vs Try.underlying60 hsz hg1 ?_ (fun q u hq => hchg1.cell (hv q u hq) (by simp)) ?_ h1
    · have : Nat.min m (n + m - j) = m := by simp only [Nat.min_def]; split <;> omega
      rw [this, hvl]
    · simp; omega
  obtain ⟨L2, hL2⟩ : ∃ L2, L2 = splice L1 ((j + m) * 5) (xs.drop (j * 5)) := ⟨_, rfl⟩
  have hL2l : L2.length = G * 5 := by rw [hL2, length_splice _ _ _ (by simp; omega), hL1l]
  have hcpB : ∀ ty dc sc, (Builtin.copy_ #[60, 60] ty #[.slice (some ⟨w.heap.size, (j + m) * 5, none⟩) (n + m - (j + m)) dc, .slice (some ⟨g, j * 5, none⟩) (n - j) sc]).run Try.prog (W1.setRow w.heap.size L1.toArray).drew = .ok (goInt (Nat.min (n - j) (n + m - (j + m)))) ((W1.setRow w.heap.size L1.toArray).drew.setRow w.heap.size L2.toArray) := fun ty dc sc => by
    rw [hL2]
    refine run_copy_k (W1.setRow w.heap.size L1.toArray).drew _ _ ty 56 5 w.heap.size ((j + m) * 5) (n + m - (j + m)) dc ⟨g, j * 5, none⟩ (n - j) sc L1.toArray 56 (xs.drop (j * 5)) Try.underlying60 hsz (setRow_heap W1 _ _ _ _ _ hg1) ?_ ?_ ?_ (fun u hu => h1x u (List.mem_of_mem_drop hu))
    · have : Nat.min (n - j) (n + m - (j + m)) = n - j := by simp only [Nat.min_def]; split <;> omega
      rw [this, List.length_drop, hxl, hmul5]
    · intro q u hq
      rw [Addr.add_lit]
      have hq' : cur[j * 5 + q]? = some u := by
        rw [List.getElem?_drop, ← htk, List.getElem?_take] at hq
        split at hq
        · simpa using hq
        · cases hq
      have hc : W1.cell? ⟨g, j * 5 + q, none⟩ = some u := hchg1.cell (cell_of_heap hg hq') (by simp)
      exact (World.cell?_of_block (w := W1) (a := ⟨g, j * 5 + q, none⟩) (setRow_other W1 w.heap.size g _ (fun e => hgne e.symm))).trans hc
    · simp; omega
  have Hend : RowBack w 56 5 (n + m) (xs.take (j * 5) ++ vs ++ xs.drop (j * 5)) (.slice (some ⟨g, 0, none⟩) n cap) (.returned (.slice (some ⟨w.heap.size, 0, none⟩) (n + m) G)) ((W1.setRow w.heap.size L1.toArray).drew.setRow w.heap.size L2.toArray) := by
    refine ⟨_, rfl, ?_, (((hchg1.mono (fun k h _ => by cases h)).setRow (fun h => absurd h (Nat.lt_irrefl _)) _).drew.setRow (fun h => absurd h (Nat.lt_irrefl _)) _), fun b hb => .inr (by cases hb; exact Nat.le_refl _)⟩
    refine row_setRow (c0 := L1.toArray) (setRow_heap W1 _ _ _ _ _ hg1) hG hGm hL2l ?_
    rw [hL2, hL1, hmul3, ← hxl, hmul4]
    exact insert_cells_new ROW xs vs (j * 5) (m * 5) hRt hvl.symm (by omega) (by omega)
  have hz1' : ¬ ((m : Int) = 0) := by omega
  have hz2' : ¬ ((j : Int) = (n : Int)) := by omega
  have hz3 : (cap : Int) < (n : Int) + (m : Int) := by omega
  have hin : j ≤ n := by omega
  have hw1 : IntKind.i64.wrap ((j : Int) + (m : Int)) = (j : Int) + (m : Int) := by rw [IntKind.wrap_i64]; omega
  have hb1 : (0 : Int) ≤ (j : Int) + (m : Int) := by omega
  have htn : ((j : Int) + (m : Int)).toNat = j + m := by omega
  have hci : ¬ (cap = j) := by omega
  have hGi : ¬ (G = j) := by omega
  have hGim : ¬ (G = j + m) := by omega
  have hb3 : (j : Int) ≤ (n : Int) := by omega
  have hmixed : Try.prog.follows .mixedOrders = true := by kernel_rfl
  unfold maxLen at hcm hGm
  try simp only [Nat.mul_one] at hcpA hcpB Hend ⊢
  clear hmul1 hmul3 hmul4 hmul5 hL1 hL2 hL1l hL2l htk hxl hsz hgl hRl hRt hGk hgne hi hz0 hz1 hz2 hchg1 hg1 hv hvl
  go_enter Try.func33, Try.ntmps33
  go_wp2_with (at_builtin; refine Lib.wpList_append_run _ rfl _ _ _ _ rfl _ _ rfl rfl _ _ (hrz _) ?_)
  go_region
  go_wp2
  go_ret
  exact Hend

/-- slices.Insert, all roads. -/
theorem sinsert_grp (s v : Value) (n m : Nat) (i : Int) (xs vs : List Value) (w : World) (hs : w.ownsRow 0 56 5 s n xs) (hv : SrcV w 5 v m vs) (hd : 0 < m → ∀ b, v.ownBlock = some b → s.ownBlock ≠ some b)
    (h1x : ∀ u ∈ xs, u.oneCell' = true) (h1 : ∀ u ∈ vs, u.oneCell' = true) (h0 : 0 ≤ i) (hin : i ≤ n) (hb : (n + m) * 56 ≤ 140737488355328) :
    Calls Try.prog 33 #[s, .int .i64 i, v] w (RowBack w 56 5 (n + m) (xs.take (i.toNat * 5) ++ vs ++ xs.drop (i.toNat * 5)) s) := by
  by_cases hm0 : m = 0
  · subst hm0
    refine (sinsert_none_grp s n i xs vs v w hs h0 hin hv).mono ?_
    rintro e w' ⟨rfl, rfl⟩
    have hvs : vs = [] := by
      rcases hv with ⟨_, _, h⟩ | ⟨a, c, _, _, _, h, _⟩
      · exact h
      · exact List.eq_nil_of_length_eq_zero (by simpa using h)
    subst hvs
    exact ⟨s, rfl, by simpa using hs, Chg.refl _ _, fun b hb => .inl hb⟩
  · rcases hv with ⟨_, h, _⟩ | ⟨va, vc, rfl, h2, h3, hvl, hvc⟩
    · exact absurd h hm0
    obtain ⟨j, rfl⟩ := Int.eq_ofNat_of_zero_le h0
    simp only [Int.toNat_natCast]
    by_cases hjn : j = n
    · subst hjn
      have hxl := hs.1
      rw [List.take_of_length_le (by omega), List.drop_eq_nil_of_le (by omega), List.append_nil]
      exact sinsert_end_grp s j m xs vs va vc w hs (by omega) hvl hvc h1 hb (by unfold maxLen; omega)
    · rcases row_form hs with ⟨_, rfl, _⟩ | ⟨g, cap, cur, rfl, hg, hnc, hcm, hcs, htk, hxl⟩
      · omega
      have hva : va.block ≠ g := fun e => hd (by omega) va.block rfl (by rw [e]; rfl)
      by_cases hroom : n + m ≤ cap
      · exact sinsert_shift_grp g n m cap j cur xs vs va vc w hg hnc hcm hcs htk hxl (by omega) (by omega) hroom hva hvl hvc h1x h1
      · exact sinsert_grow_grp g n m cap j cur xs vs va vc w hg hnc hcm hcs htk hxl (by omega) (by omega) (by omega) hb hvl hvc h1x h1

theorem insert_out_grp (p : Nat) (i : Int) (v : Value) (sv : Value) (n m : Nat) (xs vs : List Value) (w : World) (h : VecAt w 70 56 5 p sv n xs) (hv : SrcV w 5 v m vs) (h0 : i < 0 ∨ n < i) :
    Calls Try.prog 25 #[.pointer (some ⟨p, 0, none⟩), .int .i64 i, v] w fun e w' => e = .returned (.bool false) ∧ w = w' := by
  have hc := h.cell
  obtain ⟨a, c, rfl⟩ := row_slice h.row
  obtain ⟨va, vc, rfl⟩ := hv.form
  clear h hv
  rcases h0 with h0 | h0
  · go_enter Try.func25, Try.ntmps25
    go_wp2_with fail
    go_ret
    exact ⟨rfl, rfl⟩
  · have h1 : ¬ (i < 0) := by omega
    go_enter Try.func25, Try.ntmps25
    go_wp2_with fail
    go_ret
    exact ⟨rfl, rfl⟩

/-- What a store of the row's new value into the vector's field leaves. -/
theorem back_grp {w w1 : World} {p n n' : Nat} {sv v' : Value} {xs xs' : List Value} (h : VecAt w 70 56 5 p sv n xs) (hr : w1.ownsRow 0 56 5 v' n' xs') (hc : Chg sv.ownBlock.toList w w1) (hn : ∀ b, v'.ownBlock = some b → sv.ownBlock = some b ∨ w.heap.size ≤ b) :
    VecAt (w1.setCell ⟨p, 0, none⟩ v') 70 56 5 p v' n' xs' ∧ Moved w (w1.setCell ⟨p, 0, none⟩ v') p sv v' := by
  have hp : p ∉ sv.ownBlock.toList := by simpa using h.ne
  have hne : v'.ownBlock ≠ some p := fun e => by
    rcases hn p e with h1 | h1
    · exact h.ne h1
    · exact Nat.lt_irrefl _ (Nat.lt_of_lt_of_le h.lt h1)
  refine ⟨⟨heap_set_same (hc.heap h.obj hp) v', row_keep hr ((Chg.refl [p] w1).setCell (fun _ => by simp) v') (fun b hb hm => hne (by simp at hm; rw [hb, hm])), hne⟩, ⟨?_, hn⟩⟩
  exact (hc.mono (fun k hk _ => List.mem_cons_of_mem _ hk)).setCell (fun _ => by simp [vfoot]) v'

theorem insert_in_grp (p : Nat) (i : Int) (v : Value) (sv : Value) (n m : Nat) (xs vs : List Value) (w : World) (h : VecAt w 70 56 5 p sv n xs) (hv : SrcV w 5 v m vs) (hd : 0 < m → ∀ b, v.ownBlock = some b → sv.ownBlock ≠ some b)
    (h1x : ∀ u ∈ xs, u.oneCell' = true) (h1 : ∀ u ∈ vs, u.oneCell' = true) (h0 : 0 ≤ i) (hin : i ≤ n) (hb : (n + m) * 56 ≤ 140737488355328) :
    Calls Try.prog 25 #[.pointer (some ⟨p, 0, none⟩), .int .i64 i, v] w (VecBack w 70 56 5 p (n + m) (xs.take (i.toNat * 5) ++ vs ++ xs.drop (i.toNat * 5)) sv (.bool true)) := by
  have hc := h.cell
  have hs := sinsert_grp sv v n m i xs vs w h.row hv hd h1x h1 h0 hin hb
  obtain ⟨a, c, rfl⟩ := row_slice h.row
  obtain ⟨va, vc, rfl⟩ := hv.form
  have hp : p ∉ (Value.slice a n c).ownBlock.toList := by simpa using h.ne
  clear hv hd h1x h1 hb
  go_enter Try.func25, Try.ntmps25
  go_wp2_with fail
  refine hs.mono ?_
  rintro e w1 ⟨v', rfl, hr, hchg, hnew⟩
  have Hb := Lib.hid (back_grp h hr hchg hnew)
  obtain ⟨a', c', rfl⟩ := row_slice hr
  have hc1 : w1.cell? ⟨p, 0, none⟩ = some (.slice a n c) := hchg.cell hc hp
  have hf1 : w1.frozen? ⟨p, 0, none⟩ = false := frozen_of_heap (hchg.heap h.obj hp) 0
  clear hs hr hnew hchg h
  go_wp2_with fail
  go_ret
  exact ⟨_, rfl, Hb.out⟩
end Go.Proofs.Ytchgkdhhfbppbaa
