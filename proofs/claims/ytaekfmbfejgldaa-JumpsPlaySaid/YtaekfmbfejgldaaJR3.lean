/- jumps: the document's list of jumps: Adjust. -/
import Derived.Test.YtaekfmbfejgldaaJR2
namespace Go.Proofs.Ytaekfmbfejgldaa
open Go Go.RowKit Go.Fol
attribute [local go_sem ↓] Go.wp_at_zero Go.wp_at_succ
set_option linter.unusedVariables false
set_option linter.unusedSimpArgs false
/-- The place among those that are kept, behind i rounds. -/
def kAt (K : Int × Int → Bool) (L : List (Int × Int)) (at_ i : Nat) : Int := (at_ : Int) - (((L.take at_).take i).filter (fun p => !K p)).length
theorem kAt_zero (K L) (at_ : Nat) : kAt K L at_ 0 = at_ := by simp [kAt]
theorem filter_both (K : Int × Int → Bool) : ∀ l : List (Int × Int), (l.filter K).length + (l.filter (fun p => !K p)).length = l.length
  | [] => rfl
  | x :: l => by
    have := filter_both K l
    cases h : K x <;> simp [h] <;> omega
theorem kAt_all (K) {L : List (Int × Int)} {at_ : Nat} (h : at_ ≤ L.length) : kAt K L at_ L.length = ((L.take at_).filter K).length := by
  have := filter_both K (L.take at_)
  rw [kAt, List.take_of_length_le (l := L.take at_) (by simp; omega)]
  simp only [List.length_take] at this
  omega
theorem kAt_keep {K} {L : List (Int × Int)} {at_ i : Nat} {q : Int × Int} (hq : L[i]? = some q) (hK : K q = true) : kAt K L at_ (i + 1) = kAt K L at_ i := by
  obtain ⟨h1, rfl⟩ := List.getElem?_eq_some_iff.1 hq
  unfold kAt
  by_cases h : i < at_
  · have h2 : i < (L.take at_).length := by simp; omega
    rw [List.take_succ_eq_append_getElem h2, List.filter_append]
    simp [hK]
  · rw [List.take_of_length_le (l := L.take at_) (by simp; omega), List.take_of_length_le (l := L.take at_) (by simp; omega)]
theorem kAt_less {K} {L : List (Int × Int)} {at_ i : Nat} {q : Int × Int} (hq : L[i]? = some q) (hK : K q = false) (h : i < at_) : kAt K L at_ (i + 1) = kAt K L at_ i - 1 := by
  obtain ⟨h1, rfl⟩ := List.getElem?_eq_some_iff.1 hq
  unfold kAt
  have h2 : i < (L.take at_).length := by simp; omega
  rw [List.take_succ_eq_append_getElem h2, List.filter_append]
  simp [hK]
  omega
theorem kAt_behind {K} {L : List (Int × Int)} {at_ i : Nat} (h : ¬ i < at_) : kAt K L at_ (i + 1) = kAt K L at_ i := by
  unfold kAt
  rw [List.take_of_length_le (l := L.take at_) (by simp; omega), List.take_of_length_le (l := L.take at_) (by simp; omega)]
theorem kAt_bd (K) {L : List (Int × Int)} {at_ i : Nat} (h : at_ ≤ 16) : -16 ≤ kAt K L at_ i ∧ kAt K L at_ i ≤ 16 := by
  have := List.length_filter_le (fun p => !K p) ((L.take at_).take i)
  simp only [List.length_take] at this
  unfold kAt
  omega
theorem adjL_step {pa po pn : Int} {L : List (Int × Int)} {i : Nat} {q : Int × Int} (hq : L[i]? = some q) : adjL pa po pn (L.take (i + 1)) = adjL pa po pn (L.take i) ++ if adjK pa po pn q then [adjP pa po pn q] else [] := by
  rw [adjL, keep_take hq, List.map_append, adjL]
  split <;> rfl
theorem adjL_len (pa po pn : Int) (L : List (Int × Int)) : (adjL pa po pn L).length ≤ L.length := by
  rw [adjL, List.length_map]; exact List.length_filter_le _ _
section
variable {w0 w : World} {R : List Asrt}
set_option maxHeartbeats 2000000 in
theorem radjust {r at_ : Nat} {L : List (Int × Int)} {pa po pn : Int} (H : Owns w0 w (Asrt.rj r L at_ :: R)) (hat : at_ ≤ L.length) (hl : L.length ≤ 16) (hsm : ∀ p ∈ L, smallN p.1 pa po pn) :
    Calls Try.prog 16 #[.pointer (some ⟨r, 0, none⟩), .int .i64 pa, .int .i64 po, .int .i64 pn] w (Ret (.tuple #[]) w0 (Asrt.rj r (adjL pa po pn L) ((L.take at_).filter (adjK pa po pn)).length :: R)) := by
  obtain ⟨s, h⟩ := rjE H
  obtain ⟨sa, sc, rfl⟩ := h.p1.src.form
  have k1 : w.cell? ⟨r, 1, none⟩ = some (.int .i64 at_) := h.cell (j := 1) rfl
  have H1 := Lib.hid h
  have Hsm := Lib.hid hsm
  have hl63 : L.length ≤ 9223372036854775807 := by omega
  have Hat := Lib.hid hat
  clear h H hsm hat
  go_enter Try.func16, Try.ntmps16
  go_wp2_with fail
  go_loopw [8, 9, 10] (fun sv kv iv wr => ∃ (i : Nat) (kn : Int), i ≤ L.length ∧ iv = .int .i64 i ∧ kv = .int .i64 kn ∧ kn = kAt (adjK pa po pn) L at_ i ∧ Owns w0 wr (row_pos sv (adjL pa po pn (L.take i)).length (poss (adjL pa po pn (L.take i))) :: robj r (.slice sa L.length sc) at_ :: possrc (.slice sa L.length sc) L :: R)) (fun _ _ iv _ => L.length - (intOf iv).toNat)
  case atStart => exact ⟨0, at_, Nat.zero_le _, rfl, rfl, (kAt_zero _ _ _).symm, H1.out.rowNil 29 2⟩
  case round =>
    obtain ⟨i, kn, hi, rfl, rfl, hkn, h2⟩ := hrel
    have kb := kAt_bd (adjK pa po pn) (L := L) (at_ := at_) (i := i) (by have := Hat.out; omega)
    rw [← hkn] at kb
    have kb1 : -16 ≤ kn := kb.1
    have kb2 : kn ≤ 16 := kb.2
    have c0 : wr.cell? ⟨r, 0, none⟩ = some (.slice sa L.length sc) := h2.p1.cell (j := 0) rfl
    have c1 : wr.cell? ⟨r, 1, none⟩ = some (.int .i64 at_) := h2.p1.cell (j := 1) rfl
    have hm16 : (adjL pa po pn (L.take i)).length ≤ 16 := Nat.le_trans (adjL_len _ _ _ _) (by simp; omega)
    have H2 := Lib.hid h2
    have Hkn := Lib.hid hkn
    obtain ⟨ra, rc, rfl⟩ := row_slice h2.row
    clear h2 hkn kb
    by_cases hlt : i < L.length
    · obtain ⟨sb, so, sc', e1, hsc, hce⟩ := poscells H2.out.p2 (by omega)
      cases e1
      obtain ⟨q, hq⟩ : ∃ q, L[i]? = some q := ⟨_, List.getElem?_eq_getElem hlt⟩
      obtain ⟨e0, e1⟩ := hce i q hq
      have hst := adjL_step hq (pa := pa) (po := po) (pn := pn)
      obtain ⟨y, hy⟩ : ∃ y, y = (shiftF q.1 pa po pn).1 := ⟨_, rfl⟩
      obtain ⟨W5, hW5⟩ : ∃ W5, wr.alloc (.cells #[.int .i64 q.1, .int .i64 q.2] 29) = W5 := ⟨_, rfl⟩
      have h5 := H2.out.alloc #[.int .i64 q.1, .int .i64 q.2] 29
      obtain ⟨C, hC⟩ : ∃ C, C = wr.heap.size := ⟨_, rfl⟩
      rw [hW5, ← hC] at h5
      have hsh := rshift q.1 pa po pn W5 (Hsm.out q (List.mem_of_getElem? hq))
      rw [← hy] at hsh
      have d0 : W5.cell? ⟨C, 0, none⟩ = some (.int .i64 q.1) := h5.cell (j := 0) rfl
      have d1 : W5.cell? ⟨C, 1, none⟩ = some (.int .i64 q.2) := h5.cell (j := 1) rfl
      have fd : W5.frozen? ⟨C, 0, none⟩ = false := h5.frozen 0
      have g1 : W5.cell? ⟨r, 1, none⟩ = some (.int .i64 at_) := h5.p2.cell (j := 1) rfl
      have HW5 := Lib.hid hW5
      have HC := Lib.hid hC
      have H5 := Lib.hid h5
      have hi16 : i ≤ 16 := by omega
      cases hK : adjK pa po pn q with
      | true =>
        rw [hK, if_pos rfl, adjP, ← hy] at hst
        rw [show (shiftF q.1 pa po pn).2 = true from hK] at hsh
        have hkk := kAt_keep (at_ := at_) hq hK
        have Hkk := Lib.hid hkk
        have Hst := Lib.hid hst
        have Hsh := Lib.hid hsh
        have h6 := H5.out.set 0 (.int .i64 y)
        have t0 : (W5.setCell ⟨C, 0, none⟩ (.int .i64 y)).cell? ⟨C, 0, none⟩ = some (.int .i64 y) := h6.cell (j := 0) rfl
        have t1 : (W5.setCell ⟨C, 0, none⟩ (.int .i64 y)).cell? ⟨C, 1, none⟩ = some (.int .i64 q.2) := h6.cell (j := 1) rfl
        have h7 := (h6.alloc #[.int .i64 y, .int .i64 q.2] 29).p2
        rw [show (W5.setCell ⟨C, 0, none⟩ (.int .i64 y)).heap.size = W5.heap.size by simp] at h7
        obtain ⟨s', w7, hr, h8⟩ := app_pos (x := .slice (some ⟨W5.heap.size, 0, none⟩) 1 1) (m := 1) (vs := [.int .i64 y, .int .i64 q.2]) h7 (Reads.obj (b := W5.heap.size) (k := 2) (n := 1) (t := 29) (f := (0, 0)) (cs := #[.int .i64 y, .int .i64 q.2]) (by simp) (by decide) (by decide) (by simp)) (by simp [Value.oneCell']) (by unfold maxLen; omega) (by omega)
        have h9 := h8.p1.drop.p1.drop
        rw [poss_snoc] at h9
        have H9 := Lib.hid h9
        clear hce hq hst hy hW5 hC hsh h5 h6 h7 h8 h9 hkk hK
        go_wp2_with fail
        rw [HW5.out, ← HC.out]
        clear HW5 HC e0 e1 c0 c1
        refine Hsh.out.mono ?_
        rintro e w' ⟨rfl, rfl⟩
        go_wp2_with (at_builtin; refine Lib.wpList_append_run _ rfl _ _ _ _ rfl _ _ rfl rfl _ _ (hr _) ?_)
        go_roundw
        case rel => exact ⟨i + 1, kn, by omega, by go_num, rfl, by rw [Hkk.out]; exact Hkn.out, by rw [Hst.out, List.length_append]; exact H9.out⟩
        case measure => simp [intOf]; omega
      | false =>
        rw [hK, if_neg (by simp), List.append_nil] at hst
        rw [show (shiftF q.1 pa po pn).2 = false from hK] at hsh
        have Hst := Lib.hid hst
        have Hsh := Lib.hid hsh
        have h9 := H5.out.drop
        have H9 := Lib.hid h9
        by_cases hia : i < at_
        · have hkk := kAt_less (at_ := at_) hq hK hia
          have Hkk := Lib.hid hkk
          have hia' : (i : Int) < (at_ : Int) := by omega
          clear hce hq hst hy hW5 hC hsh h5 h9 hkk hK
          go_wp2_with fail
          rw [HW5.out, ← HC.out]
          clear HW5 HC e0 e1 c0 c1
          refine Hsh.out.mono ?_
          rintro e w' ⟨rfl, rfl⟩
          go_wp2_with fail
          go_roundw
          case rel => exact ⟨i + 1, kn - 1, by omega, by go_num, rfl, by rw [Hkk.out, ← Hkn.out], by rw [Hst.out]; exact H9.out⟩
          case measure => simp [intOf]; omega
        · have hkk := kAt_behind (K := adjK pa po pn) (L := L) hia
          have Hkk := Lib.hid hkk
          have hia' : ¬ ((i : Int) < (at_ : Int)) := by omega
          clear hce hq hst hy hW5 hC hsh h5 h9 hkk hK
          go_wp2_with fail
          rw [HW5.out, ← HC.out]
          clear HW5 HC e0 e1 c0 c1
          refine Hsh.out.mono ?_
          rintro e w' ⟨rfl, rfl⟩
          go_wp2_with fail
          go_roundw
          case rel => exact ⟨i + 1, kn, by omega, by go_num, rfl, by rw [Hkk.out]; exact Hkn.out, by rw [Hst.out]; exact H9.out⟩
          case measure => simp [intOf]; omega
    · obtain rfl : i = L.length := by omega
      obtain ⟨N, hN⟩ : ∃ N, N = adjL pa po pn L := ⟨_, rfl⟩
      have h3 := H2.out
      rw [List.take_of_length_le (Nat.le_refl _), ← hN] at h3 hm16 ⊢
      have hkn := Hkn.out
      rw [kAt_all _ Hat.out] at hkn
      have h4 := ((h3.srcOfRow (by decide)).ord [1, 0, 0]).p2.drop
      have f0 : wr.frozen? ⟨r, 0, none⟩ = false := h4.frozen 0
      have f1 : wr.frozen? ⟨r, 1, none⟩ = false := h4.frozen 1
      have Hend := Lib.hid ((h4.set 0 (.slice ra N.length rc)).set 1 (.int .i64 kn))
      have HN := Lib.hid hN
      have Hkn2 := Lib.hid hkn
      clear h3 h4 hN hkn
      go_wp2_with fail
      go_end0
      refine ⟨rfl, rjI (s := .slice ra N.length rc) ?_⟩
      rw [← HN.out, ← Hkn2.out]
      exact Hend.out
end
end Go.Proofs.Ytaekfmbfejgldaa
