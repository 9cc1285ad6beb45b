/- The vectors of foolscap/undo.group: slices.Delete and Delete. -/
import Derived.Test.YtchgkdhhfbppbaaVecIns3Grp
namespace Go.Proofs.Ytchgkdhhfbppbaa
open Go Go.RowKit Go.Fol
attribute [local go_sem ↓] run_min2 run_max2
set_option linter.unusedVariables false
set_option linter.unusedSimpArgs false

theorem zeroV_grp : ∀ w, (zeroValue 56).run Try.prog w = .ok (.agg #[.int .i64 0, .int .i64 0, .int .i64 0, .int .i64 0, .slice none 0 0]) w := fun _ => by kernel_rfl

set_option maxHeartbeats 4000000 in
set_option maxRecDepth 100000 in
theorem sdelete_grp (g n cap i j : Nat) (cur : Array Value) (xs : List Value) (w : World) (hg : w.heap[g]? = some (.cells cur 56 (0, 0))) (hnc : n ≤ cap) (hcm : cap ≤ maxLen) (hcs : cur.size = cap * 5) (htk : cur.toList.take (n * 5) = xs) (hxl : xs.length = n * 5)
    (hij : i < j) (hjn : j ≤ n) (h1x : ∀ u ∈ xs, u.oneCell' = true) :
    Calls Try.prog 32 #[.slice (some ⟨g, 0, none⟩) n cap, .int .i64 i, .int .i64 j] w (RowBack w 56 5 (i + (n - j)) (xs.take (i * 5) ++ xs.drop (j * 5)) (.slice (some ⟨g, 0, none⟩) n cap)) := by
  have hsz : (Try.prog.info? 56).map (·.size) = some 5 := by kernel_rfl
  obtain ⟨i0, hi, hz0, hz1, hz2⟩ := info_parts info_grp
  have hcl : cur.toList.length = cap * 5 := by simpa using hcs
  have hmul1 : i * 5 ≤ j * 5 := Nat.mul_le_mul_right _ (by omega)
  have hmul2 : j * 5 ≤ n * 5 := Nat.mul_le_mul_right _ hjn
  have hmul3 : n * 5 ≤ cap * 5 := Nat.mul_le_mul_right _ hnc
  have hmul4 : (n - j) * 5 = n * 5 - j * 5 := Nat.sub_mul _ _ _
  have hmul5 : (i + (n - j)) * 5 = i * 5 + (n - j) * 5 := Nat.add_mul _ _ _
  have hmul6 : (n - (i + (n - j))) * 5 = n * 5 - (i + (n - j)) * 5 := Nat.sub_mul _ _ _
  obtain ⟨L1, hL1⟩ : ∃ L1, L1 = splice cur.toList (i * 5) (xs.drop (j * 5)) := ⟨_, rfl⟩
  have hL1l : L1.length = cap * 5 := by rw [hL1, length_splice _ _ _ (by simp; omega), hcl]
  have happ : ∀ ad, (j < cap → ad = ⟨g, j * 5, none⟩) → ∀ ty sc, (Builtin.append_ #[60, 60] ty #[.slice (some ⟨g, 0, none⟩) i cap, .slice (some ad) (n - j) sc]).run Try.prog w.drew = .ok (.slice (some ⟨g, 0, none⟩) (i + (n - j)) cap) (w.drew.setRow g L1.toArray) := fun ad had ty sc => by
    have hr := run_append_room (P := Try.prog) w.drew 60 ty 56 i0 Try.underlying60 hi g i cap cur hg ad (n - j) sc (xs.drop (j * 5)) (by rw [List.length_drop, hxl, hz1, hmul4]) (fun q u hq => ?_) (fun u hu => h1x u (List.mem_of_mem_drop hu)) (by omega) (by rw [hz1, List.length_drop]; omega)
    · rw [hr, hL1, hz1]
      simp only [splice, List.append_assoc]
    · have hjc : j < cap := by
        have := (List.getElem?_eq_some_iff.1 hq).1
        rw [List.length_drop, hxl] at this
        by_cases h : j < cap
        · exact h
        · have : cap * 5 ≤ j * 5 := Nat.mul_le_mul_right _ (by omega)
          omega
      rw [had hjc, Addr.add_lit]
      have hq' : cur[j * 5 + q]? = some u := by
        rw [List.getElem?_drop, ← htk, List.getElem?_take] at hq
        split at hq
        · simpa using hq
        · cases hq
      exact cell_of_heap (w := w.drew) hg hq'
  obtain ⟨L2, hL2⟩ : ∃ L2, L2 = splice L1 ((i + (n - j)) * 5) (Builtin.zeroCells (Value.cells (.agg #[.int .i64 0, .int .i64 0, .int .i64 0, .int .i64 0, .slice none 0 0])) (n - (i + (n - j)))).toList := ⟨_, rfl⟩
  have hzl : (Builtin.zeroCells (Value.cells (.agg #[.int .i64 0, .int .i64 0, .int .i64 0, .int .i64 0, .slice none 0 0])) (n - (i + (n - j)))).toList.length = (n - (i + (n - j))) * 5 := by simp only [Array.length_toList, size_zeroCells]; rfl
  have hL2l : L2.length = cap * 5 := by rw [hL2, length_splice _ _ _ (by rw [hzl, hL1l]; omega), hL1l]
  have hclr : ∀ ty c, (Builtin.clear_ #[60] ty #[.slice (some ⟨g, (i + (n - j)) * 5, none⟩) (n - (i + (n - j))) c]).run Try.prog (w.drew.setRow g L1.toArray) = .ok (.tuple #[]) ((w.drew.setRow g L1.toArray).setRow g L2.toArray) := fun ty c => by
    rw [hL2]
    exact run_clear_k _ 60 ty 56 5 g _ _ c (.agg #[.int .i64 0, .int .i64 0, .int .i64 0, .int .i64 0, .slice none 0 0]) L1.toArray 56 Try.underlying60 zeroV_grp rfl (by intro u hu; revert u; decide) (setRow_heap w.drew g _ _ _ _ hg) (by simp [hL1l]; omega) (by omega)
  have Hend : RowBack w 56 5 (i + (n - j)) (xs.take (i * 5) ++ xs.drop (j * 5)) (.slice (some ⟨g, 0, none⟩) n cap) (.returned (.slice (some ⟨g, 0, none⟩) (i + (n - j)) cap)) ((w.drew.setRow g L1.toArray).setRow g L2.toArray) := by
    refine ⟨_, rfl, ?_, (((Chg.refl _ w).drew.setRow (fun _ => by simp [Value.ownBlock]) _).setRow (fun _ => by simp [Value.ownBlock]) _), fun b hb => .inl hb⟩
    refine row_setRow (c0 := L1.toArray) (setRow_heap w.drew g _ _ _ _ hg) (by omega) hcm hL2l ?_
    rw [hL2, hL1]
    exact delete_cells cur.toList xs _ (i * 5) (j * 5) _ (by rw [hxl]; exact htk) hmul1 (by rw [hxl]; exact hmul2) (by rw [hxl, hmul5, hmul4]) (by rw [hzl, hcl]; omega)
  have hne : ¬ ((i : Int) = (j : Int)) := by omega
  have hne2 : ¬ (cap = i) := by omega
  have hne3 : ¬ (cap = i + (n - j)) := by omega
  have hle : i + (n - j) ≤ n := by omega
  have hle2 : i ≤ cap := by omega
  have hle3 : i ≤ n := by omega
  have hle4 : i ≤ j := by omega
  have hmixed : Try.prog.follows .mixedOrders = true := by kernel_rfl
  unfold maxLen at hcm
  try simp only [Nat.mul_one] at happ hclr Hend ⊢
  clear hmul1 hmul2 hmul3 hmul4 hmul5 hmul6 hL1 hL2 hL1l hL2l hcl htk hxl hsz hzl hi hz0 hz1 hz2
  by_cases hjc : j < cap
  · have happ' := happ _ (fun _ => rfl)
    have hjc' : ¬ (cap = j) := by omega
    clear happ
    go_enter Try.func32, Try.ntmps32
    go_wp2
    go_region_law (refine step_append_known rfl _ _ 60 60 rfl _ _ (by simp [Act.eval, Act.put]) (by simp [Act.eval, Act.put]) (happ' 60 (cap - j)) ?_)
    go_wp2
    go_ret
    exact Hend
  · obtain rfl : j = cap := by omega
    obtain rfl : n = j := by omega
    have happ' := happ ⟨g, 0, none⟩ (fun h => absurd h (Nat.lt_irrefl _))
    simp only [Nat.sub_self, Nat.add_zero] at happ' hclr Hend ⊢
    clear happ
    go_enter Try.func32, Try.ntmps32
    go_wp2
    go_region_law (refine step_append_known rfl _ _ 60 60 rfl _ _ (by simp [Act.eval, Act.put]) (by simp [Act.eval, Act.put]) (happ' 60 0) ?_)
    go_wp2
    go_ret
    exact Hend

/-- Delete, where there is nothing to take. -/
theorem delete_out_grp (p : Nat) (i m : Int) (sv : Value) (n : Nat) (xs : List Value) (w : World) (h : VecAt w 70 56 5 p sv n xs) (h0 : ¬ (0 ≤ i ∧ i < n) ∨ m < 1) :
    Calls Try.prog 23 #[.pointer (some ⟨p, 0, none⟩), .int .i64 i, .int .i64 m] w fun e w' => e = .returned (.slice none 0 0) ∧ w = w' := by
  have hhas := has_grp p i sv n xs w h
  clear h
  by_cases hi : 0 ≤ i ∧ i < n
  · have hn : decide (0 ≤ i ∧ i < n) = true := by simpa using hi
    rw [hn] at hhas
    have hm : m < 1 := by rcases h0 with h | h; exact absurd hi h; exact h
    clear hn h0 hi
    go_enter Try.func23, Try.ntmps23
    go_wp2_with (go_at_call 31; refine hhas.mono ?_; rintro e w' ⟨rfl, rfl⟩)
    go_ret
    exact ⟨rfl, rfl⟩
  · have hn : decide (0 ≤ i ∧ i < n) = false := by simpa using hi
    rw [hn] at hhas
    clear hn h0 hi
    go_enter Try.func23, Try.ntmps23
    go_wp2_with (go_at_call 31; refine hhas.mono ?_; rintro e w' ⟨rfl, rfl⟩)
    go_ret
    exact ⟨rfl, rfl⟩

/-- What Delete leaves: the vector without them; a row of its own with those that were taken. -/
def Deleted (w : World) (vt e : TypeId) (k p n r : Nat) (xs ys : List Value) (sv : Value) (en : Ending) (w' : World) : Prop :=
  ∃ sv' d, en = .returned d ∧ VecAt w' vt e k p sv' n xs ∧ w'.ownsRow 0 e k d r ys ∧ Moved w w' p sv sv' ∧ (∀ b, d.ownBlock = some b → w.heap.size ≤ b ∧ b ≠ p ∧ sv'.ownBlock ≠ some b)

set_option maxHeartbeats 1000000 in
theorem delete_in_grp (p : Nat) (i m : Int) (sv : Value) (n r : Nat) (xs : List Value) (w : World) (h : VecAt w 70 56 5 p sv n xs) (h1x : ∀ u ∈ xs, u.oneCell' = true) (h0 : 0 ≤ i) (hin : i < n) (hm : 1 ≤ m) (hr : min m (n - i) = r) (hmx : m ≤ 9223372036854775807) (hb : n * 56 ≤ 140737488355328) :
    Calls Try.prog 23 #[.pointer (some ⟨p, 0, none⟩), .int .i64 i, .int .i64 m] w (Deleted w 70 56 5 p (n - r) r (xs.take (i.toNat * 5) ++ xs.drop ((i.toNat + r) * 5)) ((xs.drop (i.toNat * 5)).take (r * 5)) sv) := by
  obtain ⟨j, rfl⟩ := Int.eq_ofNat_of_zero_le h0
  simp only [Int.toNat_natCast]
  have hn : decide (0 ≤ (j : Int) ∧ (j : Int) < n) = true := by simp; omega
  have hhas := has_grp p j sv n xs w h
  rw [hn] at hhas
  have hc := h.cell
  have hxl := h.row.1
  rcases row_form h.row with ⟨_, rfl, _⟩ | ⟨g, cap, cur, rfl, hg, hnc, hcm, hcs, htk, _⟩
  · omega
  have hmul1 : (j + r) * 5 ≤ n * 5 := Nat.mul_le_mul_right _ (by omega)
  have hmul2 : (j + r) * 5 = j * 5 + r * 5 := Nat.add_mul _ _ _
  -- what is taken, cloned
  have hsrc : SrcV w 5 (.slice (some ⟨g, j * 5, none⟩) r (cap - j)) r ((xs.drop (j * 5)).take (r * 5)) := by
    refine .inr ⟨_, _, rfl, by omega, by omega, by rw [List.length_take, List.length_drop]; omega, fun q u hq => ?_⟩
    rw [Addr.add_lit]
    have hq' : cur[j * 5 + q]? = some u := by
      rw [List.getElem?_take] at hq
      split at hq
      · rw [List.getElem?_drop, ← htk, List.getElem?_take] at hq
        split at hq
        · simpa using hq
        · cases hq
      · cases hq
    exact cell_of_heap hg hq'
  have hcl := clone_grp _ r _ w hsrc (fun u hu => h1x u (List.mem_of_mem_drop (List.mem_of_mem_take hu))) (by omega)
  have hpg : p ≠ g := fun e => h.ne (by rw [e]; rfl)
  have hne1 : ¬ (cap = j) := by omega
  have hne2 : (j : Int) + (r : Int) ≤ cap := by omega
  have hadd : IntKind.i64.wrap ((j : Int) + (r : Int)) = (j : Int) + (r : Int) := by unfold maxLen at hcm; rw [IntKind.wrap_i64]; omega
  have hsub : IntKind.i64.wrap ((n : Int) - (j : Int)) = (n : Int) - (j : Int) := by unfold maxLen at hcm; rw [IntKind.wrap_i64]; omega
  have htn : ((j : Int) + (r : Int)).toNat = j + r := by omega
  have hjr : j + r - j = r := by omega
  have hpos : (0 : Int) ≤ (j : Int) + (r : Int) := by omega
  have hm' : ¬ (m < 1) := by omega
  have hcm' := hcm
  unfold maxLen at hcm'
  have hgk : w.heap[g]? = some (.cells cur 56 (0, 0)) := hg
  try simp only [Nat.mul_one] at hcl hsrc
  clear hsrc hmul1 hmul2 h0 hn
  go_enter Try.func23, Try.ntmps23
  go_wp2_with (go_at_call 31; refine hhas.mono ?_; rintro e w' ⟨rfl, rfl⟩)
  refine hcl.mono ?_
  rintro e w1 ⟨d, rfl, hd, hchg, hnew⟩
  have hv1 := h.keep hchg (fun h => by cases h) (fun _ _ h => by cases h)
  have hc1 := hv1.cell
  have hdl := sdelete_grp g n cap j (j + r) cur xs w1 (hchg.heap hgk (by simp)) hnc hcm hcs htk hxl (by omega) (by omega) h1x
  rw [Int.natCast_add] at hdl
  rw [show j + (n - (j + r)) = n - r by omega] at hdl
  have hlt : ∀ b, d.ownBlock = some b → b < w1.heap.size := fun b hb => row_lt hd hb
  obtain ⟨a', c', rfl⟩ := row_slice hd
  try simp only [Nat.mul_one] at hdl
  have Hv1 := Lib.hid hv1
  have H := Lib.hid h
  have Hnew := Lib.hid hnew
  have Hlt := Lib.hid hlt
  clear hcl hv1 h hc hnew hlt hhas hxl hcs htk hg hgk
  go_wp2_with fail
  refine hdl.mono ?_
  rintro e w2 ⟨v', rfl, hrow, hchg2, hnew2⟩
  have Hb := Lib.hid (back_grp Hv1.out hrow hchg2 hnew2)
  obtain ⟨a2, c2, rfl⟩ := row_slice hrow
  have hc2 : w2.cell? ⟨p, 0, none⟩ = some (.slice (some ⟨g, 0, none⟩) n cap) := hchg2.cell hc1 (by simpa [Value.ownBlock] using hpg)
  have hf2 : w2.frozen? ⟨p, 0, none⟩ = false := frozen_of_heap (hchg2.heap Hv1.out.obj (by simpa [Value.ownBlock] using hpg)) 0
  have Hrow := Lib.hid hrow
  have Hnew2 := Lib.hid hnew2
  clear hdl hc1 hrow hnew2
  go_wp2_with fail
  go_ret
  obtain ⟨hvec, hmov⟩ := Hb.out
  have hsz := hchg.size
  have hpl := H.out.lt
  have hgl := H.out.row_lt (b := g) rfl
  try simp only [Nat.mul_one]
  refine ⟨_, _, rfl, hvec, ?_, ⟨(hchg.mono (fun k hk _ => by cases hk)).trans' hmov.chg, fun b hb => ?_⟩, fun b hb => ⟨Hnew.out b hb, ?_, ?_⟩⟩
  · refine row_keep hd hmov.chg (fun b hb hm => ?_)
    have h1 := Hnew.out b hb
    simp [vfoot, Value.ownBlock] at hm
    omega
  · rcases hmov.new b hb with h1 | h1
    · exact .inl h1
    · exact .inr (by omega)
  · have h1 := Hnew.out b hb; omega
  · intro hb2
    have h1 := Hnew.out b hb
    have h2 := Hlt.out b hb
    rcases hmov.new b hb2 with h3 | h3
    · simp [Value.ownBlock] at h3; omega
    · omega
end Go.Proofs.Ytchgkdhhfbppbaa
