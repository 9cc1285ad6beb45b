/- A text of lines in memory: its lines; bytes put in the stead of others. -/
import Derived.Test.YtcdoomlagmddcaaGreatDoorBS
namespace Go.Proofs.YtcdoomlagmddcaaGreatDoor
open Go Go.RowKit Go.Fol
attribute [local go_sem ↓] Go.wp_at_zero Go.wp_at_succ
set_option linter.unusedVariables false
set_option linter.unusedSimpArgs false
set_option maxRecDepth 100000
abbrev strow (b : Nat) (L : Ls) : Asrt := row_str (.slice (some ⟨b, 0, none⟩) L.length L.length) L.length (lstrs L)
section
variable {w0 w : World} {R : List Asrt} {p ed ad : Nat} {tx : List UInt8} {W : Ls}
set_option maxHeartbeats 1000000 in
theorem tlines (htl : tx.length ≤ 100000) (hM : MaxInt w0) (H : Owns w0 w (tbufA p tx ed ad :: R)) :
    Calls Tryz.prog 30 #[.pointer (some ⟨p, 0, none⟩)] w (RetX (fun b : Nat => .slice (some ⟨b, 0, none⟩) (linesL tx).length (linesL tx).length) w0 (fun b => strow b (linesL tx) :: tbufA p tx ed ad :: R)) := by
  obtain ⟨t, x, T, hI, h⟩ := bE H
  have h1 := h.drew.p1
  have k0 : w.drew.cell? ⟨p, 0, none⟩ = some (.pointer (some ⟨t, 0, none⟩)) := h.drew.cell (j := 0) rfl
  have hl := clen h1
  have hs : Calls Tryz.prog 38 #[.pointer (some ⟨t, 0, none⟩), .int .i64 0, .int .i64 T.size] w.drew _ := cslice 0 T.size h1 hI.ok (by omega)
  rw [List.drop_zero, hI.htx, hI.size, List.take_of_length_le (Nat.le_refl _), show bstr tx = bs tx from rfl] at hs
  rw [hI.size] at hl
  have Hl := Lib.hid hl
  have Hs := Lib.hid hs
  have HI := Lib.hid hI
  have HM := Lib.hid hM
  clear H h h1 hl hs hI hM
  go_enter Tryz.func30, Tryz.ntmps30
  go_upto_region 1 with (fail)
  refine wp_region_held_drew (S := (fun w' => w'.cell? ⟨p, 0, none⟩ = some (.pointer (some ⟨t, 0, none⟩)))) (by kernel_rfl) (k0) (fun hS0 => ?_)
  refine wpAnyH_take (i := 0) (oi := _) (v := .pointer (some ⟨p, 0, none⟩)) rfl (by kernel_rfl) (by kernel_rfl) (by kernel_rfl) (fun _ _ _ h => h) (Or.inl ⟨by rfl, fun w hSw => ?_⟩) hS0 ?_
  · have x0 := hSw; go_simp
  try simp only [Act.put, List.setIfInBounds_toArray, List.set_cons_zero, List.set_cons_succ, List.getElem_toArray, List.getElem_cons_zero, List.getElem_cons_succ]
  refine wpAnyH_take (i := 1) (oi := _) (v := .pointer (some ⟨p, 0, none⟩)) rfl (by kernel_rfl) (by kernel_rfl) (by kernel_rfl) (fun _ _ _ h => h) (Or.inl ⟨by rfl, fun w hSw => ?_⟩) hS0 ?_
  · have x0 := hSw; go_simp
  try simp only [Act.put, List.setIfInBounds_toArray, List.set_cons_zero, List.set_cons_succ, List.getElem_toArray, List.getElem_cons_zero, List.getElem_cons_succ]
  refine wpAnyH_take (i := 2) (oi := _) (v := .pointer (some ⟨p, 0, none⟩)) rfl (by kernel_rfl) (by kernel_rfl) (by kernel_rfl) (fun _ _ _ h => h) (Or.inl ⟨by rfl, fun w hSw => ?_⟩) hS0 ?_
  · have x0 := hSw; go_simp
  try simp only [Act.put, List.setIfInBounds_toArray, List.set_cons_zero, List.set_cons_succ, List.getElem_toArray, List.getElem_cons_zero, List.getElem_cons_succ]
  refine wpAnyH_take (i := 3) (oi := _) (v := .pointer (some ⟨t, 0, none⟩)) rfl (by kernel_rfl) (by kernel_rfl) (by kernel_rfl) (fun _ _ _ h => h) (Or.inl ⟨by rfl, fun w hSw => ?_⟩) hS0 ?_
  · have x0 := hSw; go_simp
  try simp only [Act.put, List.setIfInBounds_toArray, List.set_cons_zero, List.set_cons_succ, List.getElem_toArray, List.getElem_cons_zero, List.getElem_cons_succ]
  refine wpAnyH_take (i := 4) (oi := _) (v := .pointer (some ⟨p, 0, none⟩)) rfl (by kernel_rfl) (by kernel_rfl) (by kernel_rfl) (fun _ _ _ h => h) (Or.inl ⟨by rfl, fun w hSw => ?_⟩) hS0 ?_
  · have x0 := hSw; go_simp
  try simp only [Act.put, List.setIfInBounds_toArray, List.set_cons_zero, List.set_cons_succ, List.getElem_toArray, List.getElem_cons_zero, List.getElem_cons_succ]
  refine wpAnyH_take (i := 5) (oi := _) (v := .pointer (some ⟨p, 0, none⟩)) rfl (by kernel_rfl) (by kernel_rfl) (by kernel_rfl) (fun _ _ _ h => h) (Or.inl ⟨by rfl, fun w hSw => ?_⟩) hS0 ?_
  · have x0 := hSw; go_simp
  try simp only [Act.put, List.setIfInBounds_toArray, List.set_cons_zero, List.set_cons_succ, List.getElem_toArray, List.getElem_cons_zero, List.getElem_cons_succ]
  refine wpAnyH_take (i := 6) (oi := _) (v := .pointer (some ⟨p, 0, none⟩)) rfl (by kernel_rfl) (by kernel_rfl) (by kernel_rfl) (fun _ _ _ h => h) (Or.inl ⟨by rfl, fun w hSw => ?_⟩) hS0 ?_
  · have x0 := hSw; go_simp
  try simp only [Act.put, List.setIfInBounds_toArray, List.set_cons_zero, List.set_cons_succ, List.getElem_toArray, List.getElem_cons_zero, List.getElem_cons_succ]
  refine wpAnyH_take (i := 7) (oi := _) (v := .pointer (some ⟨t, 0, none⟩)) rfl (by kernel_rfl) (by kernel_rfl) (by kernel_rfl) (fun _ _ _ h => h) (Or.inl ⟨by rfl, fun w hSw => ?_⟩) hS0 ?_
  · have x0 := hSw; go_simp
  try simp only [Act.put, List.setIfInBounds_toArray, List.set_cons_zero, List.set_cons_succ, List.getElem_toArray, List.getElem_cons_zero, List.getElem_cons_succ]
  refine wpAnyH_ready (rs := [8]) (by kernel_rfl) (by simp) (AllReadyH.cons (o := _) rfl (fun K' hK => ?_) AllReadyH.nil)
  simp only [List.getElem_toArray, List.getElem_cons_zero, List.getElem_cons_succ]
  rw [if_pos (by rfl)]
  go_simp
  refine Hl.out.mono ?_
  rintro e w2 ⟨rfl, rfl⟩
  refine hK.out _ _ (k0) (fun hS1 => ?_)
  clear hK K' hS0
  try simp only [Act.put, List.setIfInBounds_toArray, List.set_cons_zero, List.set_cons_succ, List.getElem_toArray, List.getElem_cons_zero, List.getElem_cons_succ]
  refine wpAnyH_ready (rs := [9]) (by kernel_rfl) (by simp) (AllReadyH.cons (o := _) rfl (fun K' hK => ?_) AllReadyH.nil)
  simp only [List.getElem_toArray, List.getElem_cons_zero, List.getElem_cons_succ]
  rw [if_pos (by rfl)]
  go_simp
  refine Hs.out.mono ?_
  rintro e w3 ⟨rfl, h3⟩
  refine hK.out _ _ (h3.p1.cell (j := 0) rfl) (fun hS2 => ?_)
  clear hK K' hS1
  have H3 := Lib.hid h3
  clear h3
  try simp only [Act.put, List.setIfInBounds_toArray, List.set_cons_zero, List.set_cons_succ, List.getElem_toArray, List.getElem_cons_zero, List.getElem_cons_succ]
  refine wpAnyH_take (i := 10) (oi := _) (v := .tuple #[.string (bs tx), .int .i64 0]) rfl (by kernel_rfl) (by kernel_rfl) (by kernel_rfl) (fun _ _ _ h => h) (Or.inl ⟨by rfl, fun w hSw => ?_⟩) hS2 ?_
  · have x0 := hSw; go_simp
  try simp only [Act.put, List.setIfInBounds_toArray, List.set_cons_zero, List.set_cons_succ, List.getElem_toArray, List.getElem_cons_zero, List.getElem_cons_succ]
  refine wpAnyH_take (i := 11) (oi := _) (v := .string (bs tx)) rfl (by kernel_rfl) (by kernel_rfl) (by kernel_rfl) (fun _ _ _ h => h) (Or.inl ⟨by rfl, fun w hSw => ?_⟩) hS2 ?_
  · have x0 := hSw; go_simp
  try simp only [Act.put, List.setIfInBounds_toArray, List.set_cons_zero, List.set_cons_succ, List.getElem_toArray, List.getElem_cons_zero, List.getElem_cons_succ]
  refine wpAnyH_take (i := 12) (oi := _) (v := .int .i64 0) rfl (by kernel_rfl) (by kernel_rfl) (by kernel_rfl) (fun _ _ _ h => h) (Or.inl ⟨by rfl, fun w hSw => ?_⟩) hS2 ?_
  · have x0 := hSw; go_simp
  try simp only [Act.put, List.setIfInBounds_toArray, List.set_cons_zero, List.set_cons_succ, List.getElem_toArray, List.getElem_cons_zero, List.getElem_cons_succ]
  refine wpAnyH_take (i := 13) (oi := _) (v := .string (bs tx)) rfl (by kernel_rfl) (by kernel_rfl) (by kernel_rfl) (fun _ _ _ h => h) (Or.inl ⟨by rfl, fun w hSw => ?_⟩) hS2 ?_
  · have x0 := hSw; go_simp
  try simp only [Act.put, List.setIfInBounds_toArray, List.set_cons_zero, List.set_cons_succ, List.getElem_toArray, List.getElem_cons_zero, List.getElem_cons_succ]
  refine wpAnyH_take (i := 14) (oi := _) (v := .int .i64 0) rfl (by kernel_rfl) (by kernel_rfl) (by kernel_rfl) (fun _ _ _ h => h) (Or.inl ⟨by rfl, fun w hSw => ?_⟩) hS2 ?_
  · have x0 := hSw; go_simp
  try simp only [Act.put, List.setIfInBounds_toArray, List.set_cons_zero, List.set_cons_succ, List.getElem_toArray, List.getElem_cons_zero, List.getElem_cons_succ]
  refine wpAnyH_done (by kernel_rfl) ?_ _
  try dsimp only [Whole]
  have hsp := lsplit (l := tx) (by omega) HM.out (bI HI.out H3.out.p1)
  have Hsp := Lib.hid hsp
  clear hsp
  go_wp2_with fail
  refine Hsp.out.mono ?_
  rintro e w4 ⟨b, rfl, h4⟩
  have H4 := Lib.hid h4
  clear h4 Hsp
  go_wp2_with fail
  go_ret
  exact ⟨b, rfl, H4.out⟩
theorem blines (hB : BufI W) (hM : MaxInt w0) (H : Owns w0 w (tbufA p (joinL W) ed ad :: R)) :
    Calls Tryz.prog 30 #[.pointer (some ⟨p, 0, none⟩)] w (RetX (fun b : Nat => .slice (some ⟨b, 0, none⟩) W.length W.length) w0 (fun b => strow b W :: tbufA p (joinL W) ed ad :: R)) := by
  have h := tlines (by have := hB.len; omega) hM H
  rw [lines_join hB.ne ((noLF_iff W).2 hB.lf)] at h
  exact h
theorem ball (hB : BufI W) (hM : MaxInt w0) (H : Owns w0 w (tbufA p (joinL W) ed ad :: R)) :
    Calls Tryz.prog 34 #[.pointer (some ⟨p, 0, none⟩)] w (RetX (fun b : Nat => .func (.func 81) #[] #[.pointer (some ⟨b, 0, none⟩)]) w0 (fun b => Asrt.vec 22 9 1 b W.length (lstrs W) :: tbufA p (joinL W) ed ad :: R)) := by
  have Hl := Lib.hid (blines hB hM H)
  clear H hB hM
  go_enter Tryz.func34, Tryz.ntmps34
  go_wp2_with fail
  refine Hl.out.mono ?_
  rintro e w1 ⟨b, rfl, h1⟩
  have Ha := Lib.hid (sall _ _ _ h1)
  clear h1 Hl
  go_wp2_with fail
  refine Ha.out.mono ?_
  rintro e w2 ⟨b2, rfl, h2⟩
  have H2 := Lib.hid h2
  clear h2 Ha
  go_wp2_with fail
  go_ret
  exact ⟨b2, rfl, H2.out⟩
theorem bline {h : Nat} {x : List UInt8} (hB : BufI W) (hx : W[h]? = some x) (H : Owns w0 w (tbufA p (joinL W) ed ad :: R)) :
    Calls Tryz.prog 21 #[.pointer (some ⟨p, 0, none⟩), .int .i64 h] w (Ret (.tuple #[.string (bs x), .bool true]) w0 (tbufA p (joinL W) ed ad :: R)) := by
  obtain ⟨t, xx, T, hI, h0⟩ := bE H
  have k0 : w.cell? ⟨p, 0, none⟩ = some (.pointer (some ⟨t, 0, none⟩)) := h0.cell (j := 0) rfl
  have k1 : w.cell? ⟨p, 1, none⟩ = some (.pointer (some ⟨xx, 0, none⟩)) := h0.cell (j := 1) rfl
  have hlf := (noLF_iff W).2 hB.lf
  have hh : h < W.length := (List.getElem?_eq_some_iff.1 hx).1
  have hb := brk_join hlf hB.ne
  have hl := hB.len
  have c1 := istart_in (h := h) h0.p2 (by omega)
  have c2 := isize_in (h := h) h0.p2 (by omega) (by omega)
  have hsu := bulkL_take_succ hx
  have hle := bulkL_take_le W (h + 1)
  have hjl := join_len hB.ne
  rw [lstart_lines hlf hh] at c1 c2
  rw [lnext_lines hlf hh, hsu, show ((bulkL (W.take h) + x.length + 1 : Nat) : Int) - 1 - bulkL (W.take h) = x.length by omega] at c2
  have c3 := cslice (bulkL (W.take h)) x.length h0.p1 hI.ok (by rw [hI.size]; omega)
  rw [hI.htx, line_cut hx] at c3
  have C1 := Lib.hid c1
  have C2 := Lib.hid c2
  have C3 := Lib.hid c3
  have HI := Lib.hid hI
  clear H h0 hI c1 c2 c3 hlf hb hl hsu hle hjl hB hx
  go_enter Tryz.func21, Tryz.ntmps21
  go_wp2_with fail
  refine C1.out.mono ?_
  rintro e w' ⟨rfl, rfl⟩
  go_wp2_with fail
  refine C2.out.mono ?_
  rintro e w' ⟨rfl, rfl⟩
  go_wp2_with fail
  refine C3.out.mono ?_
  rintro e w2 ⟨rfl, h2⟩
  have H2 := Lib.hid h2
  clear h2 C1 C2 C3
  go_wp2_with fail
  go_ret2
  exact ⟨rfl, bI HI.out H2.out.p1⟩
theorem bline_out {h : Int} (hB : BufI W) (hh : h < 0 ∨ (W.length : Int) ≤ h) (H : Owns w0 w (tbufA p (joinL W) ed ad :: R)) :
    Calls Tryz.prog 21 #[.pointer (some ⟨p, 0, none⟩), .int .i64 h] w fun e w' => e = .returned (.tuple #[.string ⟨#[]⟩, .bool false]) ∧ w' = w := by
  obtain ⟨t, xx, T, hI, h0⟩ := bE H
  have k1 : w.cell? ⟨p, 1, none⟩ = some (.pointer (some ⟨xx, 0, none⟩)) := h0.cell (j := 1) rfl
  have hb := brk_join ((noLF_iff W).2 hB.lf) hB.ne
  have c1 := istart_out (i := h) h0.p2 (by omega)
  have C1 := Lib.hid c1
  clear H h0 hI c1 hb hB
  go_enter Tryz.func21, Tryz.ntmps21
  go_wp2_with fail
  refine C1.out.mono ?_
  rintro e w' ⟨rfl, rfl⟩
  go_wp2_with fail
  go_ret2
  exact ⟨rfl, rfl⟩
def one' (c : Prop) [Decidable c] : Nat := if c then 0 else 1
set_option maxHeartbeats 1000000 in
theorem bput (off n : Nat) (s : List UInt8) (h : off + n ≤ tx.length) (htl : tx.length ≤ 4095) (hfit : tx.length - n + s.length ≤ 4095) (ha : ad + s.length ≤ 90000) (he : ed ≤ 20000) (H : Owns w0 w (tbufA p tx ed ad :: R)) :
    Calls Tryz.prog 33 #[.pointer (some ⟨p, 0, none⟩), .int .i64 off, .int .i64 n, .string (bs s)] w (RetX (fun _ : Nat => .int .i64 0) w0 (fun e => Asrt.pure (e ≤ ed + 2) :: tbufA p (tx.take off ++ s ++ tx.drop (off + n)) e (ad + s.length) :: R)) := by
  obtain ⟨t, x, T, hI, h0⟩ := bE H
  have k0 : w.cell? ⟨p, 0, none⟩ = some (.pointer (some ⟨t, 0, none⟩)) := h0.cell (j := 0) rfl
  have c1 := del_I off n h0.p1 hI h (by omega)
  have C1 := Lib.hid c1
  clear H h0 hI c1
  obtain ⟨e1, he1⟩ : ∃ e1, e1 = ed + if n = 0 then 0 else 1 := ⟨_, rfl⟩
  have he1' : e1 ≤ ed + 1 := by rw [he1]; split <;> omega
  rw [← he1] at C1
  clear he1
  obtain ⟨t1, ht1⟩ : ∃ t1, t1 = tx.take off ++ tx.drop (off + n) := ⟨_, rfl⟩
  have ht1l : t1.length = tx.length - n := by rw [ht1]; simp; omega
  have e3 : t1.take off ++ s ++ t1.drop off = tx.take off ++ s ++ tx.drop (off + n) := by
    have hl : (tx.take off).length = off := by simp; omega
    rw [ht1, List.take_left' hl, List.drop_left' hl]
  have Ht1 := Lib.hid ht1
  have E3 := Lib.hid e3
  clear ht1 e3
  go_enter Tryz.func33, Tryz.ntmps33
  go_wp2_with fail
  refine C1.out.mono ?_
  rintro e w1 ⟨T1, rfl, h1⟩
  obtain ⟨hI1, h1⟩ := h1.pureE
  rw [← Ht1.out] at hI1
  have k1 : w1.cell? ⟨p, 1, none⟩ = some (.pointer (some ⟨x, 0, none⟩)) := h1.p1.cell (j := 1) rfl
  have C2 := Lib.hid (idelete (off := off) (n := n) (h1.ord [2]) h (by omega))
  have HI1 := Lib.hid hI1
  clear h1 hI1 C1 k0
  go_wp2_with fail
  refine C2.out.mono ?_
  rintro e w2 ⟨rfl, h2⟩
  rw [← Ht1.out] at h2
  have k0 : w2.cell? ⟨p, 0, none⟩ = some (.pointer (some ⟨t, 0, none⟩)) := (h2.ord [2]).cell (j := 0) rfl
  have C3 := Lib.hid (ins_I (s := s) off (h2.ord [1]) HI1.out (by omega) (by omega) (by omega) (by omega))
  clear h2 C2 k1
  obtain ⟨e2, he2⟩ : ∃ e2, e2 = e1 + if s = [] then 0 else 1 := ⟨_, rfl⟩
  have he2' : e2 ≤ ed + 2 := by rw [he2]; split <;> omega
  rw [← he2] at C3
  clear he2
  go_wp2_with fail
  refine C3.out.mono ?_
  rintro e w3 ⟨T2, rfl, h3⟩
  obtain ⟨hI2, h3⟩ := h3.pureE
  have k1 : w3.cell? ⟨p, 1, none⟩ = some (.pointer (some ⟨x, 0, none⟩)) := (h3.ord [2]).cell (j := 1) rfl
  have C4 := Lib.hid (iinsert (off := off) (bs s) (h3.ord [1]) (by omega) (by rw [bs_size]; omega))
  have HI2 := Lib.hid hI2
  clear h3 hI2 C3 k0
  go_wp2_with fail
  refine C4.out.mono ?_
  rintro e w4 ⟨rfl, h4⟩
  rw [bytesOf_bs] at h4
  have hI := HI2.out
  rw [E3.out] at h4 hI
  have H4 := Lib.hid ((bI hI (h4.ord [2, 1])).pureI he2')
  clear h4 hI C4
  go_wp2_with fail
  go_ret
  exact ⟨e2, rfl, H4.out⟩
end
end Go.Proofs.YtcdoomlagmddcaaGreatDoor
