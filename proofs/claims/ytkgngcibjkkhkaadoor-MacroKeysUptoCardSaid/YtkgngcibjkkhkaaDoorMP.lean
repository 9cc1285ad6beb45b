/- Push of both stacks. -/
import Derived.Test.YtkgngcibjkkhkaaDoorMS
namespace Go.Proofs.YtkgngcibjkkhkaaDoor
open Go Go.RowKit Go.Fol
attribute [local go_sem ↓] Go.wp_at_zero Go.wp_at_succ
set_option linter.unusedVariables false
set_option linter.unusedSimpArgs false
section
variable {w0 w : World} {R : List Asrt}
set_option maxHeartbeats 2000000 in
theorem mpush {p : Nat} {s : St} {ka : Option Addr} {kc : Nat} {K : List Int} {n : Int} (H : Owns w0 w (stkA p s :: R)) (hs : s.ok) (hk : Reads w0 R 1 (.slice ka K.length kc) K.length (kints .u8 K)) (hK : K.length ≤ 1000)
    {b : Bool} {s' : St} (hF : pushF s K n = (b, s')) :
    Calls Tryd.prog 10 #[.pointer (some ⟨p, 0, none⟩), .slice ka K.length kc, .int .i64 n] w (Ret (.bool b) w0 (stkA p s' :: R)) := by
  obtain ⟨kl, hkl⟩ : ∃ kl, kl = K.length := ⟨_, rfl⟩
  rw [← hkl] at hk hK ⊢
  obtain ⟨a, c, M, hM, h⟩ := stkE H
  obtain ⟨ln, hln⟩ : ∃ ln, ln = M.length := ⟨_, rfl⟩
  rw [← hln] at h
  have hlL : (ln : Int) = s.L.length := by rw [hln, ← hM, List.length_map]
  have hll := hs.len
  have hd := hs.depth
  have HH := Lib.hid H
  have H1 := Lib.hid h
  have Hk := Lib.hid hk
  have Hkl := Lib.hid hkl
  have HF := Lib.hid hF
  have HM := Lib.hid hM
  have Hln := Lib.hid hln
  clear H h hk hkl hF hM hln
  by_cases hn : n < 1
  · obtain ⟨rfl, rfl⟩ : b = true ∧ s' = s := by have h := HF.out; rw [pushF, if_pos (.inl hn)] at h; cases h; exact ⟨rfl, rfl⟩
    go_enter Tryd.func10, Tryd.ntmps10
    go_wp2_with fail
    go_ret
    exact ⟨rfl, HH.out⟩
  by_cases hk0 : kl = 0
  · obtain ⟨rfl, rfl⟩ : b = true ∧ s' = s := by
      have h := HF.out
      rw [pushF, if_pos (.inr (List.eq_nil_of_length_eq_zero (by rw [← Hkl.out]; exact hk0)))] at h
      cases h
      exact ⟨rfl, rfl⟩
    subst hk0
    go_enter Tryd.func10, Tryd.ntmps10
    go_wp2_with fail
    go_ret
    exact ⟨rfl, HH.out⟩
  have hkz : ((kl : Int) == 0) = false := beq_eq_false_iff_ne.2 (by omega)
  have hnn : ¬ (n < 1 ∨ K = []) := fun h => h.elim hn (fun h => hk0 (by rw [Hkl.out, h]; rfl))
  obtain ⟨dp, hdp⟩ : ∃ dp, dp = s.depth := ⟨_, rfl⟩
  have k0 : w.cell? ⟨p, 0, none⟩ = some (.slice a ln c) := H1.out.cell (j := 0) rfl
  have k3 : w.cell? ⟨p, 3, none⟩ = some (.int .i64 dp) := by rw [hdp]; exact H1.out.cell (j := 3) rfl
  rw [← hdp] at hd
  by_cases hdl : dp ≤ (ln : Int)
  · obtain ⟨rfl, rfl⟩ : b = false ∧ s' = s := by
      have h := HF.out
      rw [pushF, if_neg hnn, if_pos (by rw [← hdp, ← hlL]; exact hdl)] at h
      cases h
      exact ⟨rfl, rfl⟩
    have Hnn := Lib.hid hnn
    have Hdp := Lib.hid hdp
    have hkp : 0 < kl := by omega
    clear hnn hdp hlL hk0
    go_enter Tryd.func10, Tryd.ntmps10
    go_wp2_with fail
    go_quiet (fail)
    go_wp2_with fail
    go_ret
    exact ⟨rfl, HH.out.drewN _⟩
  obtain ⟨rfl, rfl⟩ : b = true ∧ s' = { s with L := s.L ++ [⟨K, n, 0⟩] } := by
    have h := HF.out
    rw [pushF, if_neg hnn, if_neg (by rw [← hdp, ← hlL]; exact hdl)] at h
    cases h
    exact ⟨rfl, rfl⟩
  have Hnn := Lib.hid hnn
  have Hdp := Lib.hid hdp
  have hkp : 0 < kl := by omega
  have hll2 : ln ≤ 1000 := by omega
  clear hnn hdp hlL hk0
  go_enter Tryd.func10, Tryd.ntmps10
  go_wp2_with fail
  go_quiet (fail)
  go_wp2_with fail

  refine wp_region_T (fun w' => w'.cell? ⟨p, 0, none⟩ = some (.slice a ln c)) 13 (by kernel_rfl) (((H1.out.drewN _).drew.cell (j := 0) rfl)) (fun hS0 => ?_)
  refine wpAnyT_take (i := 0) (oi := _) (v := .pointer (some ⟨p, 0, none⟩)) [13] rfl (by kernel_rfl) (fun _ _ _ h => h) (Or.inl ⟨by rfl, fun w hSw => ?_⟩) hS0 ?_
  · have x0 := hSw; go_simp
  try simp only [Act.put, List.setIfInBounds_toArray, List.set_cons_zero, List.set_cons_succ, List.getElem_toArray, List.getElem_cons_zero, List.getElem_cons_succ]
  refine wpAnyT_take (i := 1) (oi := _) (v := .pointer (some ⟨p, 0, none⟩)) [13] rfl (by kernel_rfl) (fun _ _ _ h => h) (Or.inl ⟨by rfl, fun w hSw => ?_⟩) hS0 ?_
  · have x0 := hSw; go_simp
  try simp only [Act.put, List.setIfInBounds_toArray, List.set_cons_zero, List.set_cons_succ, List.getElem_toArray, List.getElem_cons_zero, List.getElem_cons_succ]
  refine wpAnyT_take (i := 2) (oi := _) (v := .pointer (some ⟨p, 0, none⟩)) [13] rfl (by kernel_rfl) (fun _ _ _ h => h) (Or.inl ⟨by rfl, fun w hSw => ?_⟩) hS0 ?_
  · have x0 := hSw; go_simp
  try simp only [Act.put, List.setIfInBounds_toArray, List.set_cons_zero, List.set_cons_succ, List.getElem_toArray, List.getElem_cons_zero, List.getElem_cons_succ]
  refine wpAnyT_take (i := 3) (oi := _) (v := .pointer (some ⟨p, 0, none⟩)) [13] rfl (by kernel_rfl) (fun _ _ _ h => h) (Or.inl ⟨by rfl, fun w hSw => ?_⟩) hS0 ?_
  · have x0 := hSw; go_simp
  try simp only [Act.put, List.setIfInBounds_toArray, List.set_cons_zero, List.set_cons_succ, List.getElem_toArray, List.getElem_cons_zero, List.getElem_cons_succ]
  refine wpAnyT_take (i := 4) (oi := _) (v := .slice a ln c) [13] rfl (by kernel_rfl) (fun _ _ _ h => h) (Or.inl ⟨by rfl, fun w hSw => ?_⟩) hS0 ?_
  · have x0 := hSw; go_simp
  try simp only [Act.put, List.setIfInBounds_toArray, List.set_cons_zero, List.set_cons_succ, List.getElem_toArray, List.getElem_cons_zero, List.getElem_cons_succ]
  refine wpAnyT_take (i := 5) (oi := _) (v := .slice ka kl kc) [13] rfl (by kernel_rfl) (fun _ _ _ h => h) (Or.inl ⟨by rfl, fun w hSw => ?_⟩) hS0 ?_
  · have x0 := hSw; go_simp
  try simp only [Act.put, List.setIfInBounds_toArray, List.set_cons_zero, List.set_cons_succ, List.getElem_toArray, List.getElem_cons_zero, List.getElem_cons_succ]
  refine wpAnyT_take (i := 7) (oi := _) (v := .int .i64 n) [13] rfl (by kernel_rfl) (fun _ _ _ h => h) (Or.inl ⟨by rfl, fun w hSw => ?_⟩) hS0 ?_
  · have x0 := hSw; go_simp
  try simp only [Act.put, List.setIfInBounds_toArray, List.set_cons_zero, List.set_cons_succ, List.getElem_toArray, List.getElem_cons_zero, List.getElem_cons_succ]
  refine wpAnyT_step (i := 6) (o := _) rfl (by kernel_rfl) (fun K' hK => ?_)
  simp only [List.getElem_toArray, List.getElem_cons_zero, List.getElem_cons_succ]
  rw [if_pos (by rfl)]
  go_simp
  refine (o_clone_byte (.slice ka kl kc) kl (kints .u8 K) (H1.out.drewN _) (Hk.out.cons.cons.cons) (kints_one .u8 K) (by omega)).mono ?_
  rintro e w1 ⟨v1, rfl, h4⟩
  obtain ⟨va, vc, rfl⟩ := row_slice h4.row
  refine hK.out _ _ (h4.p1.cell (j := 0) rfl) (fun hS1 => ?_)
  clear hK K' hS0
  have h5 := h4.alloc #[.slice va kl vc, .int .i64 n, .int .i64 0] 56
  obtain ⟨s', w5, hrn, h6⟩ := app_frm (x := .slice (some ⟨w1.heap.size, 0, none⟩) 1 1) (m := 1) (vs := [.slice va kl vc, .int .i64 n, .int .i64 0]) (h5.ord [3]) (Reads.obj (b := w1.heap.size) (k := 3) (n := 1) (t := 56) (f := (0, 0)) (cs := #[.slice va kl vc, .int .i64 n, .int .i64 0]) (by simp [ordL, takeAt]) (by decide) (by decide) (by simp)) (by simp [Value.oneCell']) (by unfold maxLen; omega) (by omega)
  obtain ⟨sa, sc, rfl⟩ := row_slice h6.row
  have k5 : w5.cell? ⟨p, 0, none⟩ = some (.slice a ln c) := (h6.ord [3]).cell (j := 0) rfl
  have f5 := (h6.ord [3]).frozen 0
  have H5 := Lib.hid h5
  have H6 := Lib.hid h6
  clear h4 h5 h6
  try simp only [Act.put, List.setIfInBounds_toArray, List.set_cons_zero, List.set_cons_succ, List.getElem_toArray, List.getElem_cons_zero, List.getElem_cons_succ]
  refine wpAnyT_take (i := 8) (oi := _) (v := .agg #[.slice va kl vc, .int .i64 n, .int .i64 0]) [13] rfl (by kernel_rfl) (fun _ _ _ h => h) (Or.inl ⟨by rfl, fun w hSw => ?_⟩) hS1 ?_
  · have x0 := hSw; go_simp
  try simp only [Act.put, List.setIfInBounds_toArray, List.set_cons_zero, List.set_cons_succ, List.getElem_toArray, List.getElem_cons_zero, List.getElem_cons_succ]
  refine wpAnyT_step (i := 9) (o := _) rfl (by kernel_rfl) (fun K' hK => ?_)
  simp only [List.getElem_toArray, List.getElem_cons_zero, List.getElem_cons_succ]
  rw [if_pos (by rfl)]
  go_simp
  refine hK.out _ _ ((H5.out.ord [2]).cell (j := 0) rfl) (fun hS2 => ?_)
  clear hK K' hS1
  try simp only [Act.put, List.setIfInBounds_toArray, List.set_cons_zero, List.set_cons_succ, List.getElem_toArray, List.getElem_cons_zero, List.getElem_cons_succ]
  refine wpAnyT_step (i := 10) (o := _) rfl (by kernel_rfl) (fun K' hK => ?_)
  simp only [List.getElem_toArray, List.getElem_cons_zero, List.getElem_cons_succ]
  rw [if_pos (by rfl)]
  refine wp_append_run (.tmp 28) (.tmp 33) 51 51 (.slice a ln c) (.slice (some ⟨w1.heap.size, 0, none⟩) 1 1) (hrn 51) rfl rfl rfl ?_
  refine hK.out _ _ (k5) (fun hS3 => ?_)
  clear hK K' hS2
  clear hrn H5
  try simp only [Act.put, List.setIfInBounds_toArray, List.set_cons_zero, List.set_cons_succ, List.getElem_toArray, List.getElem_cons_zero, List.getElem_cons_succ]
  refine wpAnyT_take (i := 11) (oi := _) (v := .pointer (some ⟨p, 0, none⟩)) [12, 13] rfl (by kernel_rfl) (fun _ _ _ h => h) (Or.inl ⟨by rfl, fun w hSw => ?_⟩) hS3 ?_
  · have x0 := hSw; go_simp
  try simp only [Act.put, List.setIfInBounds_toArray, List.set_cons_zero, List.set_cons_succ, List.getElem_toArray, List.getElem_cons_zero, List.getElem_cons_succ]
  refine wpAnyT_take (i := 12) (oi := _) (v := .pointer (some ⟨p, 0, none⟩)) [13] rfl (by kernel_rfl) (fun _ _ _ h => h) (Or.inl ⟨by rfl, fun w hSw => ?_⟩) hS3 ?_
  · have x0 := hSw; go_simp
  try simp only [Act.put, List.setIfInBounds_toArray, List.set_cons_zero, List.set_cons_succ, List.getElem_toArray, List.getElem_cons_zero, List.getElem_cons_succ]
  refine wpAnyT_last (i := 13) (o := _) rfl (by kernel_rfl) (by kernel_rfl) (fun K' hK => ?_)
  simp only [List.getElem_toArray, List.getElem_cons_zero, List.getElem_cons_succ]
  rw [if_pos (by rfl)]
  go_simp
  refine hK.out _ _ (wpAnyT_done (by kernel_rfl) ?_ _)
  dsimp only [Whole]
  obtain ⟨m, hm⟩ : ∃ m : Ml, m = ⟨⟨K, n, 0⟩, va, vc⟩ := ⟨_, rfl⟩
  have h7 := (((H6.out.ord [3]).set 0 (.slice sa (ln + 1) sc)).ord [3, 3, 0, 0])
  have h8 : Owns w0 (w5.setCell ⟨p, 0, none⟩ (.slice sa (ln + 1) sc)) (Asrt.all ([m].map mlA) :: Asrt.all (M.map mlA) :: _) := allOne mlA (x := m) (by rw [hm]; have := h7.srcOfRow (by decide); rw [Hkl.out] at this; exact this)
  have h9 := ((allJoin mlA (h8.ord [1])).ord [3]).drop.ord [1, 1]
  have hfl : flat frmf M ++ [Value.slice va K.length vc, .int .i64 n, .int .i64 0] = flat frmf (M ++ [m]) := by rw [flat_append, flat_one, hm]; rfl
  rw [hfl] at h9
  have H9 := Lib.hid (stkI (s := { s with L := s.L ++ [⟨K, n, 0⟩] }) (v := .slice sa (ln + 1) sc) (M := M ++ [m]) (by rw [List.map_append, HM.out, hm]; rfl) (by rw [List.length_append, ← Hln.out]; exact h9))
  clear h7 h8 h9 hfl hm k5 f5
  go_wp2_with fail
  go_ret
  exact ⟨rfl, H9.out⟩
set_option maxHeartbeats 2000000 in
theorem wpush {p : Nat} {s : St} {ka : Option Addr} {kc : Nat} {K : List Int} {n : Int} (H : Owns w0 w (wstA p s :: R)) (hs : s.ok) (hk : Reads w0 R 1 (.slice ka K.length kc) K.length (kints .u8 K)) (hK : K.length ≤ 1000)
    {b : Bool} {s' : St} (hF : pushF s K n = (b, s')) :
    Calls Tryd.prog 22 #[.pointer (some ⟨p, 0, none⟩), .slice ka K.length kc, .int .i64 n] w (Ret (.bool b) w0 (wstA p s' :: R)) := by
  obtain ⟨kl, hkl⟩ : ∃ kl, kl = K.length := ⟨_, rfl⟩
  rw [← hkl] at hk hK ⊢
  obtain ⟨a, c, M, hM, h⟩ := wstE H
  obtain ⟨ln, hln⟩ : ∃ ln, ln = M.length := ⟨_, rfl⟩
  rw [← hln] at h
  have hlc : (ln : Int) ≤ (c : Int) := by have := SrcV.capLe (SrcV.of_row h.p1.row); omega
  have hlL : (ln : Int) = s.L.length := by rw [hln, ← hM, List.length_map]
  have hll := hs.len
  have hd := hs.depth
  have HH := Lib.hid H
  have H1 := Lib.hid h
  have Hk := Lib.hid hk
  have Hkl := Lib.hid hkl
  have HF := Lib.hid hF
  have HM := Lib.hid hM
  have Hln := Lib.hid hln
  clear H h hk hkl hF hM hln
  by_cases hn : n < 1
  · obtain ⟨rfl, rfl⟩ : b = true ∧ s' = s := by have h := HF.out; rw [pushF, if_pos (.inl hn)] at h; cases h; exact ⟨rfl, rfl⟩
    go_enter Tryd.func22, Tryd.ntmps22
    go_wp2_with fail
    go_ret
    exact ⟨rfl, HH.out⟩
  by_cases hk0 : kl = 0
  · obtain ⟨rfl, rfl⟩ : b = true ∧ s' = s := by
      have h := HF.out
      rw [pushF, if_pos (.inr (List.eq_nil_of_length_eq_zero (by rw [← Hkl.out]; exact hk0)))] at h
      cases h
      exact ⟨rfl, rfl⟩
    subst hk0
    go_enter Tryd.func22, Tryd.ntmps22
    go_wp2_with fail
    go_ret
    exact ⟨rfl, HH.out⟩
  have hkz : ((kl : Int) == 0) = false := beq_eq_false_iff_ne.2 (by omega)
  have hnn : ¬ (n < 1 ∨ K = []) := fun h => h.elim hn (fun h => hk0 (by rw [Hkl.out, h]; rfl))
  obtain ⟨dp, hdp⟩ : ∃ dp, dp = s.depth := ⟨_, rfl⟩
  have k0 : w.cell? ⟨p, 0, none⟩ = some (.slice a ln c) := H1.out.cell (j := 0) rfl
  have k2 : w.cell? ⟨p, 2, none⟩ = some (.int .i64 dp) := by rw [hdp]; exact H1.out.cell (j := 2) rfl
  rw [← hdp] at hd
  by_cases hdl : dp ≤ (ln : Int)
  · obtain ⟨rfl, rfl⟩ : b = false ∧ s' = s := by
      have h := HF.out
      rw [pushF, if_neg hnn, if_pos (by rw [← hdp, ← hlL]; exact hdl)] at h
      cases h
      exact ⟨rfl, rfl⟩
    have Hnn := Lib.hid hnn
    have Hdp := Lib.hid hdp
    have hkp : 0 < kl := by omega
    clear hnn hdp hlL hk0
    go_enter Tryd.func22, Tryd.ntmps22
    go_wp2_with fail
    go_quiet (fail)
    go_wp2_with fail
    go_ret
    exact ⟨rfl, HH.out.drewN _⟩
  obtain ⟨rfl, rfl⟩ : b = true ∧ s' = { s with L := s.L ++ [⟨K, n, 0⟩] } := by
    have h := HF.out
    rw [pushF, if_neg hnn, if_neg (by rw [← hdp, ← hlL]; exact hdl)] at h
    cases h
    exact ⟨rfl, rfl⟩
  have Hnn := Lib.hid hnn
  have Hdp := Lib.hid hdp
  have hkp : 0 < kl := by omega
  have hll2 : ln ≤ 1000 := by omega
  clear hnn hdp hlL hk0
  go_enter Tryd.func22, Tryd.ntmps22
  go_wp2_with fail
  go_quiet (fail)
  go_wp2_with fail

  refine wp_region_T (fun w' => w'.cell? ⟨p, 0, none⟩ = some (.slice a ln c)) 24 (by kernel_rfl) (((H1.out.drewN _).drew.cell (j := 0) rfl)) (fun hS0 => ?_)
  refine wpAnyT_take (i := 0) (oi := _) (v := .pointer (some ⟨p, 0, none⟩)) [24] rfl (by kernel_rfl) (fun _ _ _ h => h) (Or.inl ⟨by rfl, fun w hSw => ?_⟩) hS0 ?_
  · have x0 := hSw; go_simp
  try simp only [Act.put, List.setIfInBounds_toArray, List.set_cons_zero, List.set_cons_succ, List.getElem_toArray, List.getElem_cons_zero, List.getElem_cons_succ]
  refine wpAnyT_take (i := 1) (oi := _) (v := .pointer (some ⟨p, 0, none⟩)) [24] rfl (by kernel_rfl) (fun _ _ _ h => h) (Or.inl ⟨by rfl, fun w hSw => ?_⟩) hS0 ?_
  · have x0 := hSw; go_simp
  try simp only [Act.put, List.setIfInBounds_toArray, List.set_cons_zero, List.set_cons_succ, List.getElem_toArray, List.getElem_cons_zero, List.getElem_cons_succ]
  refine wpAnyT_take (i := 2) (oi := _) (v := .pointer (some ⟨p, 0, none⟩)) [24] rfl (by kernel_rfl) (fun _ _ _ h => h) (Or.inl ⟨by rfl, fun w hSw => ?_⟩) hS0 ?_
  · have x0 := hSw; go_simp
  try simp only [Act.put, List.setIfInBounds_toArray, List.set_cons_zero, List.set_cons_succ, List.getElem_toArray, List.getElem_cons_zero, List.getElem_cons_succ]
  refine wpAnyT_take (i := 3) (oi := _) (v := .pointer (some ⟨p, 0, none⟩)) [24] rfl (by kernel_rfl) (fun _ _ _ h => h) (Or.inl ⟨by rfl, fun w hSw => ?_⟩) hS0 ?_
  · have x0 := hSw; go_simp
  try simp only [Act.put, List.setIfInBounds_toArray, List.set_cons_zero, List.set_cons_succ, List.getElem_toArray, List.getElem_cons_zero, List.getElem_cons_succ]
  refine wpAnyT_take (i := 4) (oi := _) (v := .slice a ln c) [24] rfl (by kernel_rfl) (fun _ _ _ h => h) (Or.inl ⟨by rfl, fun w hSw => ?_⟩) hS0 ?_
  · have x0 := hSw; go_simp
  try simp only [Act.put, List.setIfInBounds_toArray, List.set_cons_zero, List.set_cons_succ, List.getElem_toArray, List.getElem_cons_zero, List.getElem_cons_succ]
  refine wpAnyT_take (i := 5) (oi := _) (v := .pointer (some ⟨p, 0, none⟩)) [24] rfl (by kernel_rfl) (fun _ _ _ h => h) (Or.inl ⟨by rfl, fun w hSw => ?_⟩) hS0 ?_
  · have x0 := hSw; go_simp
  try simp only [Act.put, List.setIfInBounds_toArray, List.set_cons_zero, List.set_cons_succ, List.getElem_toArray, List.getElem_cons_zero, List.getElem_cons_succ]
  refine wpAnyT_take (i := 6) (oi := _) (v := .pointer (some ⟨p, 0, none⟩)) [24] rfl (by kernel_rfl) (fun _ _ _ h => h) (Or.inl ⟨by rfl, fun w hSw => ?_⟩) hS0 ?_
  · have x0 := hSw; go_simp
  try simp only [Act.put, List.setIfInBounds_toArray, List.set_cons_zero, List.set_cons_succ, List.getElem_toArray, List.getElem_cons_zero, List.getElem_cons_succ]
  refine wpAnyT_take (i := 7) (oi := _) (v := .pointer (some ⟨p, 0, none⟩)) [24] rfl (by kernel_rfl) (fun _ _ _ h => h) (Or.inl ⟨by rfl, fun w hSw => ?_⟩) hS0 ?_
  · have x0 := hSw; go_simp
  try simp only [Act.put, List.setIfInBounds_toArray, List.set_cons_zero, List.set_cons_succ, List.getElem_toArray, List.getElem_cons_zero, List.getElem_cons_succ]
  refine wpAnyT_take (i := 8) (oi := _) (v := .slice a ln c) [24] rfl (by kernel_rfl) (fun _ _ _ h => h) (Or.inl ⟨by rfl, fun w hSw => ?_⟩) hS0 ?_
  · have x0 := hSw; go_simp
  try simp only [Act.put, List.setIfInBounds_toArray, List.set_cons_zero, List.set_cons_succ, List.getElem_toArray, List.getElem_cons_zero, List.getElem_cons_succ]
  refine wpAnyT_take (i := 9) (oi := _) (v := .int .i64 ln) [24] rfl (by kernel_rfl) (fun _ _ _ h => h) (Or.inl ⟨by rfl, fun w hSw => ?_⟩) hS0 ?_
  · have x0 := hSw; go_simp
  try simp only [Act.put, List.setIfInBounds_toArray, List.set_cons_zero, List.set_cons_succ, List.getElem_toArray, List.getElem_cons_zero, List.getElem_cons_succ]
  refine wpAnyT_take (i := 10) (oi := _) (v := .pointer (some ⟨p, 0, none⟩)) [24] rfl (by kernel_rfl) (fun _ _ _ h => h) (Or.inl ⟨by rfl, fun w hSw => ?_⟩) hS0 ?_
  · have x0 := hSw; go_simp
  try simp only [Act.put, List.setIfInBounds_toArray, List.set_cons_zero, List.set_cons_succ, List.getElem_toArray, List.getElem_cons_zero, List.getElem_cons_succ]
  refine wpAnyT_take (i := 11) (oi := _) (v := .pointer (some ⟨p, 0, none⟩)) [24] rfl (by kernel_rfl) (fun _ _ _ h => h) (Or.inl ⟨by rfl, fun w hSw => ?_⟩) hS0 ?_
  · have x0 := hSw; go_simp
  try simp only [Act.put, List.setIfInBounds_toArray, List.set_cons_zero, List.set_cons_succ, List.getElem_toArray, List.getElem_cons_zero, List.getElem_cons_succ]
  refine wpAnyT_take (i := 12) (oi := _) (v := .pointer (some ⟨p, 0, none⟩)) [24] rfl (by kernel_rfl) (fun _ _ _ h => h) (Or.inl ⟨by rfl, fun w hSw => ?_⟩) hS0 ?_
  · have x0 := hSw; go_simp
  try simp only [Act.put, List.setIfInBounds_toArray, List.set_cons_zero, List.set_cons_succ, List.getElem_toArray, List.getElem_cons_zero, List.getElem_cons_succ]
  refine wpAnyT_take (i := 13) (oi := _) (v := .slice a ln c) [24] rfl (by kernel_rfl) (fun _ _ _ h => h) (Or.inl ⟨by rfl, fun w hSw => ?_⟩) hS0 ?_
  · have x0 := hSw; go_simp
  try simp only [Act.put, List.setIfInBounds_toArray, List.set_cons_zero, List.set_cons_succ, List.getElem_toArray, List.getElem_cons_zero, List.getElem_cons_succ]
  refine wpAnyT_take (i := 14) (oi := _) (v := .int .i64 ln) [24] rfl (by kernel_rfl) (fun _ _ _ h => h) (Or.inl ⟨by rfl, fun w hSw => ?_⟩) hS0 ?_
  · have x0 := hSw; go_simp
  try simp only [Act.put, List.setIfInBounds_toArray, List.set_cons_zero, List.set_cons_succ, List.getElem_toArray, List.getElem_cons_zero, List.getElem_cons_succ]
  refine wpAnyT_take (i := 15) (oi := _) (v := .slice a ln ln) [24] rfl (by kernel_rfl) (fun _ _ _ h => h) (Or.inl ⟨by rfl, fun w hSw => ?_⟩) hS0 ?_
  · have x0 := hSw; go_simp
  try simp only [Act.put, List.setIfInBounds_toArray, List.set_cons_zero, List.set_cons_succ, List.getElem_toArray, List.getElem_cons_zero, List.getElem_cons_succ]
  refine wpAnyT_take (i := 16) (oi := _) (v := .slice ka kl kc) [24] rfl (by kernel_rfl) (fun _ _ _ h => h) (Or.inl ⟨by rfl, fun w hSw => ?_⟩) hS0 ?_
  · have x0 := hSw; go_simp
  try simp only [Act.put, List.setIfInBounds_toArray, List.set_cons_zero, List.set_cons_succ, List.getElem_toArray, List.getElem_cons_zero, List.getElem_cons_succ]
  refine wpAnyT_take (i := 18) (oi := _) (v := .int .i64 n) [24] rfl (by kernel_rfl) (fun _ _ _ h => h) (Or.inl ⟨by rfl, fun w hSw => ?_⟩) hS0 ?_
  · have x0 := hSw; go_simp
  try simp only [Act.put, List.setIfInBounds_toArray, List.set_cons_zero, List.set_cons_succ, List.getElem_toArray, List.getElem_cons_zero, List.getElem_cons_succ]
  refine wpAnyT_step (i := 17) (o := _) rfl (by kernel_rfl) (fun K' hK => ?_)
  simp only [List.getElem_toArray, List.getElem_cons_zero, List.getElem_cons_succ]
  rw [if_pos (by rfl)]
  obtain ⟨v1, w1, hr1, h4⟩ := app0_byte (x := .slice ka kl kc) ((H1.out.drewN _).drew) Hk.out.cons.cons.cons (kints_one .u8 K) (by unfold maxLen; omega) (by omega)
  obtain ⟨va, vc, rfl⟩ := row_slice h4.row
  refine wp_append_run (.const (.slice none 0 0)) (.tmp 40) 22 22 (.slice none 0 0) (.slice ka kl kc) (hr1 22) rfl rfl rfl ?_
  refine hK.out _ _ (h4.p1.cell (j := 0) rfl) (fun hS1 => ?_)
  clear hK K' hS0
  have h5 := h4.alloc #[.slice va kl vc, .int .i64 0, .int .i64 n] 62
  have hs5 := SrcV.fullCap (SrcV.of_row (h5.ord [3]).row)
  obtain ⟨i0, hi, hz0, hz1, hz2⟩ := info_parts info_wfr
  obtain ⟨s', w5, hrn, h6⟩ := Owns.appFull (P := Tryd.prog) Tryd.underlying45 hi hz0 hz1 hz2 rfl (by decide) h5 hs5 (Reads.obj (w0 := w0) (R := _) (b := w1.heap.size) (k := 3) (n := 1) (c := 1) (t := 62) (f := (0, 0)) (cs := #[.slice va kl vc, .int .i64 0, .int .i64 n]) List.mem_cons_self (by decide) (by decide) (by simp) _ h5) (by decide) (by simp [Value.oneCell']) (by unfold maxLen; omega) (by omega)
  obtain ⟨sa, sc, rfl⟩ := row_slice h6.row
  have k5 : w5.cell? ⟨p, 0, none⟩ = some (.slice a ln c) := (h6.ord [3]).cell (j := 0) rfl
  have f5 := (h6.ord [3]).frozen 0
  have H5 := Lib.hid h5
  have H6 := Lib.hid h6
  clear h4 h5 h6 hs5 hi hz0 hz1 hz2
  try simp only [Act.put, List.setIfInBounds_toArray, List.set_cons_zero, List.set_cons_succ, List.getElem_toArray, List.getElem_cons_zero, List.getElem_cons_succ]
  refine wpAnyT_take (i := 19) (oi := _) (v := .agg #[.slice va kl vc, .int .i64 0, .int .i64 n]) [24] rfl (by kernel_rfl) (fun _ _ _ h => h) (Or.inl ⟨by rfl, fun w hSw => ?_⟩) hS1 ?_
  · have x0 := hSw; go_simp
  try simp only [Act.put, List.setIfInBounds_toArray, List.set_cons_zero, List.set_cons_succ, List.getElem_toArray, List.getElem_cons_zero, List.getElem_cons_succ]
  refine wpAnyT_step (i := 20) (o := _) rfl (by kernel_rfl) (fun K' hK => ?_)
  simp only [List.getElem_toArray, List.getElem_cons_zero, List.getElem_cons_succ]
  rw [if_pos (by rfl)]
  go_simp
  refine hK.out _ _ ((H5.out.ord [2]).cell (j := 0) rfl) (fun hS2 => ?_)
  clear hK K' hS1
  try simp only [Act.put, List.setIfInBounds_toArray, List.set_cons_zero, List.set_cons_succ, List.getElem_toArray, List.getElem_cons_zero, List.getElem_cons_succ]
  refine wpAnyT_step (i := 21) (o := _) rfl (by kernel_rfl) (fun K' hK => ?_)
  simp only [List.getElem_toArray, List.getElem_cons_zero, List.getElem_cons_succ]
  rw [if_pos (by rfl)]
  refine wp_append_run (.tmp 39) (.tmp 44) 45 45 (.slice a ln ln) (.slice (some ⟨w1.heap.size, 0, none⟩) 1 1) (hrn 45) rfl rfl rfl ?_
  refine hK.out _ _ (k5) (fun hS3 => ?_)
  clear hK K' hS2
  clear hrn H5
  try simp only [Act.put, List.setIfInBounds_toArray, List.set_cons_zero, List.set_cons_succ, List.getElem_toArray, List.getElem_cons_zero, List.getElem_cons_succ]
  refine wpAnyT_take (i := 22) (oi := _) (v := .pointer (some ⟨p, 0, none⟩)) [23, 24] rfl (by kernel_rfl) (fun _ _ _ h => h) (Or.inl ⟨by rfl, fun w hSw => ?_⟩) hS3 ?_
  · have x0 := hSw; go_simp
  try simp only [Act.put, List.setIfInBounds_toArray, List.set_cons_zero, List.set_cons_succ, List.getElem_toArray, List.getElem_cons_zero, List.getElem_cons_succ]
  refine wpAnyT_take (i := 23) (oi := _) (v := .pointer (some ⟨p, 0, none⟩)) [24] rfl (by kernel_rfl) (fun _ _ _ h => h) (Or.inl ⟨by rfl, fun w hSw => ?_⟩) hS3 ?_
  · have x0 := hSw; go_simp
  try simp only [Act.put, List.setIfInBounds_toArray, List.set_cons_zero, List.set_cons_succ, List.getElem_toArray, List.getElem_cons_zero, List.getElem_cons_succ]
  refine wpAnyT_last (i := 24) (o := _) rfl (by kernel_rfl) (by kernel_rfl) (fun K' hK => ?_)
  simp only [List.getElem_toArray, List.getElem_cons_zero, List.getElem_cons_succ]
  rw [if_pos (by rfl)]
  go_simp
  refine hK.out _ _ (wpAnyT_done (by kernel_rfl) ?_ _)
  dsimp only [Whole]
  obtain ⟨m, hm⟩ : ∃ m : Ml, m = ⟨⟨K, n, 0⟩, va, vc⟩ := ⟨_, rfl⟩
  have h7 := (((H6.out.ord [3]).set 0 (.slice sa (ln + 1) sc)).ord [3, 4, 0, 0])
  have h8 : Owns w0 (w5.setCell ⟨p, 0, none⟩ (.slice sa (ln + 1) sc)) (Asrt.all ([m].map mlA) :: Asrt.all (M.map mlA) :: _) := allOne mlA (x := m) (by rw [hm]; have := h7.srcOfRow (by decide); rw [Hkl.out] at this; exact this)
  have h9 := (((allJoin mlA (h8.ord [1])).ord [3]).drop.ord [3]).drop.ord [1, 1]
  have hfl : flat wfrf M ++ List.take (1 * 3) (#[Value.slice va K.length vc, Value.int .i64 0, Value.int .i64 n] : Array Value).toList = flat wfrf (M ++ [m]) := by rw [flat_append, flat_one, hm]; rfl
  rw [hfl] at h9
  have H9 := Lib.hid (wstI (s := { s with L := s.L ++ [⟨K, n, 0⟩] }) (v := .slice sa (ln + 1) sc) (M := M ++ [m]) (by rw [List.map_append, HM.out, hm]; rfl) (by rw [List.length_append, ← Hln.out]; exact h9))
  clear h7 h8 h9 hfl hm k5 f5
  go_wp2_with fail
  go_ret
  exact ⟨rfl, H9.out⟩
end
end Go.Proofs.YtkgngcibjkkhkaaDoor
