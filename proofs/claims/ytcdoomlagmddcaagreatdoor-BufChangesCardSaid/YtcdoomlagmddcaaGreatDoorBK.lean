/- Split; the example of the laws on texts of lines holds. -/
import Derived.Test.YtcdoomlagmddcaaGreatDoorBH
namespace Go.Proofs.YtcdoomlagmddcaaGreatDoor
open Go Go.RowKit Go.Fol
attribute [local go_sem ↓] Go.wp_at_zero Go.wp_at_succ
set_option linter.unusedVariables false
set_option linter.unusedSimpArgs false
set_option maxRecDepth 100000
def splitN (l : List UInt8) : Nat := if 1 < (linesL l).length ∧ (linesL l)[(linesL l).length - 1]? = some [] then (linesL l).length - 1 else (linesL l).length
def splitF (l : List UInt8) : Ls := (linesL l).take (splitN l)
theorem splitN_le (l : List UInt8) : splitN l ≤ (linesL l).length := by unfold splitN; split <;> omega
theorem splitF_len (l : List UInt8) : (splitF l).length = splitN l := by rw [splitF, List.length_take]; exact Nat.min_eq_left (splitN_le l)
section
variable {w0 w : World} {R : List Asrt} {p ed ad : Nat} {W L : Ls}
theorem split_rd {b : Nat} {l : List UInt8} (h : strow b (linesL l) ∈ R) : RdL w0 R (.slice (some ⟨b, 0, none⟩) (splitN l) (linesL l).length) (splitF l) := by
  have h1 := Reads.pre (Reads.row (w0 := w0) h) (q := splitN l) (splitN_le l)
  unfold RdL
  rw [splitF_len, show lstrs (splitF l) = (lstrs (linesL l)).take (splitN l) by simp [splitF, lstrs, strs, List.map_take]]
  exact h1
set_option maxHeartbeats 1000000 in
theorem tsplit {l : List UInt8} (hl : l.length ≤ 1000000) (hM : MaxInt w0) (H : Owns w0 w R) :
    Calls Tryz.prog 16 #[.string (bs l)] w (RetX (fun b : Nat => .slice (some ⟨b, 0, none⟩) (splitN l) (linesL l).length) w0 (fun b => strow b (linesL l) :: R)) := by
  have C1 := Lib.hid (lsplit hl hM H)
  clear H hM
  obtain ⟨N, hN⟩ : ∃ N, N = (linesL l).length := ⟨_, rfl⟩
  have hNp : 0 < N := by rw [hN]; exact List.length_pos_iff.2 (linesL_ne l)
  have hNb : N ≤ 1000001 := by
    rw [hN, lines_len]
    have := Lib.countB_le (⟨#[10]⟩ : ByteArray) (by decide) _ (bs l) (Nat.le_refl _)
    rw [bs_size] at this
    omega
  have hsn : splitN l = if 1 < N ∧ (linesL l)[N - 1]? = some [] then N - 1 else N := by rw [hN]; rfl
  rw [← hN] at C1
  have HN := Lib.hid hN
  have Hsn := Lib.hid hsn
  clear hN hsn
  obtain ⟨sn, hsn2⟩ : ∃ sn, sn = splitN l := ⟨_, rfl⟩
  rw [← hsn2, ← HN.out]
  have Hs2 := Lib.hid hsn2
  clear hsn2
  by_cases h1 : N = 1
  · have e : sn = 1 := by rw [Hs2.out, Hsn.out, if_neg (by omega), h1]
    subst h1
    subst e
    go_enter Tryz.func16, Tryz.ntmps16
    go_wp2_with fail
    refine C1.out.mono ?_
    rintro e w1 ⟨b, rfl, h1⟩
    have H1 := Lib.hid h1
    clear h1 C1
    go_wp2_with fail
    go_ret
    exact ⟨b, rfl, by have := H1.out; unfold strow; rw [← HN.out]; exact this⟩
  · obtain ⟨x, hx⟩ : ∃ x, (linesL l)[N - 1]? = some x := ⟨_, List.getElem?_eq_getElem (by rw [← HN.out]; omega)⟩
    have hN1 : (1 : Int) < N := by omega
    have hN2 : 1 < N := by omega
    have hw1 : IntKind.i64.wrap ((N : Int) - 1) = ((N - 1 : Nat) : Int) := by rw [IntKind.wrap_i64]; omega
    have Hx := Lib.hid hx
    clear hx
    by_cases hx0 : x = []
    · subst hx0
      have e : sn = N - 1 := by rw [Hs2.out, Hsn.out, if_pos ⟨by omega, Hx.out⟩]
      subst e
      go_enter Tryz.func16, Tryz.ntmps16
      go_wp2_with fail
      refine C1.out.mono ?_
      rintro e w1 ⟨b, rfl, h1⟩
      dsimp only at h1
      have k1 : w1.cell? ⟨b, N - 1, none⟩ = some (.string ⟨#[]⟩) := by have := h1.row.cells (g := b) rfl (N - 1) _ (lstrs_get Hx.out); rwa [Addr.add_lit, Nat.zero_add] at this
      have H1 := Lib.hid h1
      clear h1 C1
      go_wp2_with fail
      go_ret
      exact ⟨b, rfl, by have := H1.out; unfold strow; rw [← HN.out]; exact this⟩
    · obtain ⟨hn1, hn2⟩ := bs_ne hx0
      have e : sn = N := by rw [Hs2.out, Hsn.out, if_neg (fun h => hx0 (by have := h.2; rw [Hx.out] at this; simpa using this))]
      subst e
      go_enter Tryz.func16, Tryz.ntmps16
      go_wp2_with fail
      refine C1.out.mono ?_
      rintro e w1 ⟨b, rfl, h1⟩
      dsimp only at h1
      have k1 : w1.cell? ⟨b, sn - 1, none⟩ = some (.string (bs x)) := by have := h1.row.cells (g := b) rfl (sn - 1) _ (lstrs_get Hx.out); rwa [Addr.add_lit, Nat.zero_add] at this
      have H1 := Lib.hid h1
      clear h1 C1
      go_wp2_with fail
      go_ret
      exact ⟨b, rfl, by have := H1.out; unfold strow; rw [← HN.out]; exact this⟩
theorem rep_ok {W L : Ls} {a m : Nat} {e : Ending} (h : RepP w0 R p ed ad W a m L e w) (hb : bulkL (repL W a m L) ≤ 4096) : e = .returned (.int .i64 0) ∧ ∃ ed', ed' ≤ ed + 2 ∧ Owns w0 w (tbufA p (joinL (repL W a m L)) ed' (ad + bulkL L) :: R) := by
  rcases h with ⟨h, _⟩ | ⟨_, h⟩
  · omega
  · exact h
theorem rep_full {W L : Ls} {a m : Nat} {e : Ending} (h : RepP w0 R p ed ad W a m L e w) (hb : 4096 < bulkL (repL W a m L)) : e = .returned (.int .i64 21) ∧ Owns w0 w (tbufA p (joinL W) ed ad :: R) := by
  rcases h with ⟨_, h⟩ | ⟨h, _⟩
  · exact h
  · omega
theorem BufI.rep {W L : Ls} {a m : Nat} (hB : BufI W) (hL : brokenB L = false) (hne : repL W a m L ≠ []) (hb : bulkL (repL W a m L) ≤ 4096) : BufI (repL W a m L) :=
  ⟨hne, (noLF_iff _).1 (noLF_rep ((noLF_iff W).2 hB.lf) ((noLF_iff L).2 hL)), hb⟩
set_option maxHeartbeats 2000000 in
theorem known_true (hM : MaxInt w0) (H : Owns w0 w R) : Calls Tryz.prog 8 #[] w (Ret (.bool true) w0 R) := by
  have h1 := H.alloc #[.string ⟨#[97]⟩, .string ⟨#[98]⟩] 9
  have hk : RdL w0 (Asrt.obj w.heap.size (.cells #[.string ⟨#[97]⟩, .string ⟨#[98]⟩] 9 (0, 0)) :: R) (.slice (some ⟨w.heap.size, 0, none⟩) 2 2) [[97], [98]] := Reads.obj (k := 1) (n := 2) (c := 2) List.mem_cons_self (by decide) (by decide) (by simp)
  have hB1 : BufI [[97], [98]] := ⟨by simp, rfl, by decide⟩
  have C1 := Lib.hid (tnew (n := 2) rfl hB1 h1 hk)
  have HM := Lib.hid hM
  clear h1 hk H hM
  go_enter Tryz.func8, Tryz.ntmps8
  go_wp2_with fail
  refine C1.out.mono ?_
  rintro e w1 ⟨p, rfl, h2⟩
  dsimp only at h2
  have h2 := h2.p1.drop
  have h3 := h2.alloc #[.string ⟨#[120]⟩, .string ⟨#[121]⟩] 9
  have hk2 : RdL w0 (Asrt.obj w1.heap.size (.cells #[.string ⟨#[120]⟩, .string ⟨#[121]⟩] 9 (0, 0)) :: R) (.slice (some ⟨w1.heap.size, 0, none⟩) 2 2) [[120], [121]] := Reads.obj (k := 1) (n := 2) (c := 2) List.mem_cons_self (by decide) (by decide) (by simp)
  have c2 := breplace (a := 0) (m := 1) (n := 2) (L := [[120], [121]]) hB1 HM.out (by decide) rfl hk2 rfl (by decide) (by decide) (by decide) (h3.p1)
  have e2 : newLs [[97], [98]] [[120], [121]] 1 = [[120], [121]] := by decide
  rw [e2] at c2
  have c2 : Calls Tryz.prog 13 #[.pointer (some ⟨p, 0, none⟩), .int .i64 0, .int .i64 1, .slice (some ⟨w1.heap.size, 0, none⟩) 2 2] (w1.alloc (.cells #[.string ⟨#[120]⟩, .string ⟨#[121]⟩] 9)) _ := c2
  have C2 := Lib.hid c2
  clear h2 h3 hk2 c2 C1 e2
  go_wp2_with fail
  refine C2.out.mono ?_
  rintro e w2 hr
  obtain ⟨rfl, ed2, he2, h4⟩ := rep_ok hr (by decide)
  have hW : repL [[97], [98]] 0 1 [[120], [121]] = [[120], [121], [98]] := by decide
  rw [hW] at h4
  have hB2 : BufI [[120], [121], [98]] := ⟨by simp, rfl, by decide⟩
  have h5 := h4.p1.drop
  have C3 := Lib.hid (brep_place (at_ := 3) (m := 1) (la := none) (n := 0) (lc := 0) hB2 (by decide) h5)
  clear hr h4 h5 C2 hW
  go_wp2_with fail
  refine C3.out.mono ?_
  rintro e w3 ⟨rfl, h6⟩
  have h7 := h6.alloc #[.string ⟨#[97, 10, 98]⟩] 9
  have hk3 : RdL w0 (Asrt.obj w3.heap.size (.cells #[.string ⟨#[97, 10, 98]⟩] 9 (0, 0)) :: R) (.slice (some ⟨w3.heap.size, 0, none⟩) 1 1) [[97, 10, 98]] := Reads.obj (k := 1) (n := 1) (c := 1) List.mem_cons_self (by decide) (by decide) (by simp)
  have c4 := brep_broken (a := 0) (m := 0) (n := 1) (L := [[97, 10, 98]]) hB2 (by decide) rfl hk3 rfl h7.p1
  have c4 : Calls Tryz.prog 13 #[.pointer (some ⟨p, 0, none⟩), .int .i64 0, .int .i64 0, .slice (some ⟨w3.heap.size, 0, none⟩) 1 1] (w3.alloc (.cells #[.string ⟨#[97, 10, 98]⟩] 9)) _ := c4
  have C4 := Lib.hid c4
  clear h6 h7 hk3 c4 C3
  go_wp2_with fail
  refine C4.out.mono ?_
  rintro e w4 ⟨rfl, h8⟩
  have h8 := h8.p1.drop
  have c5 : Calls Tryz.prog 21 #[.pointer (some ⟨p, 0, none⟩), .int .i64 1] w4 (Ret (.tuple #[.string ⟨#[121]⟩, .bool true]) w0 (tbufA p (joinL [[120], [121], [98]]) ed2 (0 + bulkL [[120], [121]]) :: R)) := bline (h := 1) (x := [121]) hB2 rfl h8
  have C5 := Lib.hid c5
  clear c5 h8 C4
  go_wp2_with fail
  refine C5.out.mono ?_
  rintro e w5 ⟨rfl, h9⟩
  have H9 := Lib.hid h9
  have c6 : Calls Tryz.prog 22 #[.pointer (some ⟨p, 0, none⟩)] w5 fun e w' => e = .returned (.int .i64 3) ∧ w' = w5 := bcount hB2 h9
  have c7 : Calls Tryz.prog 20 #[.pointer (some ⟨p, 0, none⟩)] w5 fun e w' => e = .returned (.int .i64 6) ∧ w' = w5 := bbytes hB2 h9
  have c8 := tsplit (l := [97, 10, 10, 98, 10]) (by decide) HM.out h9
  have c8 : Calls Tryz.prog 16 #[.string ⟨#[97, 10, 10, 98, 10]⟩] w5 (RetX (fun b : Nat => .slice (some ⟨b, 0, none⟩) 3 4) w0 (fun b => strow b (linesL [97, 10, 10, 98, 10]) :: tbufA p (joinL [[120], [121], [98]]) ed2 (0 + bulkL [[120], [121]]) :: R)) := c8
  have C6 := Lib.hid c6
  have C7 := Lib.hid c7
  have C8 := Lib.hid c8
  clear h9 c6 c7 c8 C5
  have hw1 : IntKind.i64.wrap (2 * (ed2 : Int)) = 2 * (ed2 : Int) := by rw [IntKind.wrap_i64]; omega
  have hw2 : IntKind.i64.wrap (2 * (ed2 : Int) + 1) = 2 * (ed2 : Int) + 1 := by rw [IntKind.wrap_i64]; omega
  go_wp2_with fail
  refine C6.out.mono ?_
  rintro e w' ⟨rfl, rfl⟩
  go_wp2_with fail
  refine C7.out.mono ?_
  rintro e w' ⟨rfl, rfl⟩
  go_wp2_with fail
  refine C8.out.mono ?_
  rintro e w6 ⟨b, rfl, h10⟩
  dsimp only at h10
  have h11 := h10.alloc #[.string ⟨#[97]⟩, .string ⟨#[]⟩, .string ⟨#[98]⟩] 9
  have hk4 : RdL w0 (Asrt.obj w6.heap.size (.cells #[.string ⟨#[97]⟩, .string ⟨#[]⟩, .string ⟨#[98]⟩] 9 (0, 0)) :: strow b (linesL [97, 10, 10, 98, 10]) :: tbufA p (joinL [[120], [121], [98]]) ed2 (0 + bulkL [[120], [121]]) :: R) (.slice (some ⟨w6.heap.size, 0, none⟩) 3 3) [[97], [], [98]] := Reads.obj (k := 1) (n := 3) (c := 3) List.mem_cons_self (by decide) (by decide) (by simp)
  have hs4 : RdL w0 (Asrt.obj w6.heap.size (.cells #[.string ⟨#[97]⟩, .string ⟨#[]⟩, .string ⟨#[98]⟩] 9 (0, 0)) :: strow b (linesL [97, 10, 10, 98, 10]) :: tbufA p (joinL [[120], [121], [98]]) ed2 (0 + bulkL [[120], [121]]) :: R) (.slice (some ⟨b, 0, none⟩) 3 4) [[97], [], [98]] := split_rd (l := [97, 10, 10, 98, 10]) (by simp)
  have C9 := Lib.hid (hstrings h11 hs4 hk4)
  clear h10 h11 hk4 hs4 C6 C7 C8
  go_wp2_with fail
  refine C9.out.mono ?_
  rintro e w7 ⟨rfl, h12⟩
  have C10 := Lib.hid (bpieces (h12.ord [2]))
  have C11 := Lib.hid (bedits (h12.ord [2]))
  have H12 := Lib.hid h12
  clear h12 C9
  go_wp2_with fail
  refine C10.out.mono ?_
  rintro e w' ⟨⟨k, rfl, hk⟩, rfl⟩
  have hkI : (k : Int) ≤ 2 * (ed2 : Int) + 1 := by omega
  go_wp2_with fail
  refine C11.out.mono ?_
  rintro e w' ⟨rfl, rfl⟩
  go_wp2_with fail
  go_ret
  exact ⟨rfl, H12.out.drop.drop.drop⟩
end
end Go.Proofs.YtcdoomlagmddcaaGreatDoor
