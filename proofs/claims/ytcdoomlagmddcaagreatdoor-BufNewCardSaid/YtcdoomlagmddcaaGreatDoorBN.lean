/- The law's own split; Split on what has its last LF cut. -/
import Derived.Test.YtcdoomlagmddcaaGreatDoorBM
namespace Go.Proofs.YtcdoomlagmddcaaGreatDoor
open Go Go.RowKit Go.Fol
attribute [local go_sem ↓] Go.wp_at_zero Go.wp_at_succ
attribute [-go_sem] run_index_string run_slice_string_if run_slice_string run_slice_string_from_if run_slice_string_to_if run_slice_string_h run_slice_string_l Go.Builtin.append_
set_option linter.unusedVariables false
set_option linter.unusedSimpArgs false
set_option maxRecDepth 100000
theorem run_cut (x : List UInt8) {f i : Nat} (h1 : f ≤ i) (h2 : i ≤ x.length) (w : World) : (Instr.slice 9 (.string (bs x)) (some (.int .i64 f)) (some (.int .i64 i)) none).run Tryz.prog w = .ok (.string (bs ((x.take i).drop f))) w := by
  rw [run_slice_string_if (h := Tryz.underlying9), if_pos (by rw [bs_size]; omega), if_pos (by omega), Int.toNat_natCast, Int.toNat_natCast, bs_extract, List.drop_take]
theorem run_cut0 (x : List UInt8) {i : Nat} (h2 : i ≤ x.length) (w : World) : (Instr.slice 9 (.string (bs x)) none (some (.int .i64 i)) none).run Tryz.prog w = .ok (.string (bs (x.take i))) w := by
  rw [run_slice_string_to_if (h := Tryz.underlying9), if_pos (by rw [bs_size]; omega)]
  rw [Int.toNat_natCast, bs_pre]
/-- a text without its last LF -/
def chop (l : List UInt8) : List UInt8 := if l.getLast? = some 10 then l.dropLast else l
theorem lines_snoc : ∀ l : List UInt8, linesL (l ++ [10]) = linesL l ++ [[]]
  | [] => rfl
  | b :: r => by
    have ih := lines_snoc r
    by_cases hb : b = 10
    · subst hb; simp only [List.cons_append, linesL, if_pos, ih]
    · rw [List.cons_append, linesL, linesL, ih]
      cases h : linesL r with
      | nil => exact absurd h (linesL_ne r)
      | cons x t => simp [hb]
theorem lines_last : ∀ {l : List UInt8} {k : Nat}, (linesL l).length = k + 1 → 1 ≤ k → (linesL l)[k]? = some [] → l.getLast? = some 10
  | [], k, h, h1, _ => by simp [linesL] at h; omega
  | b :: r, k, h, h1, h2 => by
    by_cases hb : b = 10
    · subst hb
      have e : linesL (10 :: r) = [] :: linesL r := by simp [linesL]
      rw [e] at h h2
      simp only [List.length_cons] at h
      obtain ⟨j, rfl⟩ : ∃ j, k = j + 1 := ⟨k - 1, by omega⟩
      rw [List.getElem?_cons_succ] at h2
      by_cases hj : 1 ≤ j
      · have := lines_last (l := r) (k := j) (by omega) hj h2
        rw [List.getLast?_cons, this]; rfl
      · obtain rfl : j = 0 := by omega
        have h3 := join_lines r
        cases hl : linesL r with
        | nil => exact absurd hl (linesL_ne r)
        | cons x t =>
          rw [hl] at h h2 h3
          have ht : t = [] := List.length_eq_zero_iff.1 (by simp only [List.length_cons] at h; omega)
          subst ht
          simp at h2
          subst h2
          have : r = [] := by rw [← h3]; exact joinL_one []
          subst this
          rfl
    · cases hl : linesL r with
      | nil => exact absurd hl (linesL_ne r)
      | cons x t =>
        have e : linesL (b :: r) = (b :: x) :: t := by rw [linesL, hl]; simp [hb]
        rw [e] at h h2
        obtain ⟨j, rfl⟩ : ∃ j, k = j + 1 := ⟨k - 1, by omega⟩
        rw [List.getElem?_cons_succ] at h2
        have := lines_last (l := r) (k := j + 1) (by rw [hl]; exact h) (by omega) (by rw [hl, List.getElem?_cons_succ]; exact h2)
        rw [List.getLast?_cons, this]; rfl
theorem split_chop (l : List UInt8) : splitF l = linesL (chop l) := by
  unfold chop
  split
  · rename_i h
    obtain ⟨y, rfl⟩ : ∃ y, l = y ++ [10] := by
      obtain ⟨y, hy⟩ := List.getLast?_eq_some_iff.1 h
      exact ⟨y, hy⟩
    rw [List.dropLast_concat, splitF, splitN, lines_snoc, List.length_append]
    have hp : 0 < (linesL y).length := List.length_pos_iff.2 (linesL_ne y)
    rw [if_pos ⟨by simp; omega, by simp⟩]
    simp
  · rename_i h
    rw [splitF, splitN]
    by_cases hc : 1 < (linesL l).length ∧ (linesL l)[(linesL l).length - 1]? = some []
    · exact absurd (lines_last (k := (linesL l).length - 1) (by omega) (by omega) hc.2) h
    · rw [if_neg hc, List.take_of_length_le (Nat.le_refl _)]
theorem chop_lf {l : List UInt8} {m : Nat} (hl : l.length = m + 1) (h : l[m]? = some 10) : chop l = l.take m := by
  rw [chop, if_pos (by rw [List.getLast?_eq_getElem?, hl]; exact h), List.dropLast_eq_take, hl]
  rfl
theorem chop_no {l : List UInt8} {m : Nat} {b : UInt8} (hl : l.length = m + 1) (h : l[m]? = some b) (hb : b ≠ 10) : chop l = l := by
  rw [chop, if_neg (by rw [List.getLast?_eq_getElem?, hl]; show ¬ l[m]? = some 10; rw [h]; exact fun e => hb (Option.some.inj e))]
theorem chop_len (l : List UInt8) : (chop l).length ≤ l.length := by
  unfold chop
  split
  · rw [List.length_dropLast]; omega
  · exact Nat.le_refl _
section
variable {w0 w : World} {R : List Asrt}
theorem split_rd2 {b : Nat} {l : List UInt8} {A : Ls} (hA : splitF l = A) (h : strow b (linesL l) ∈ R) : RdL w0 R (.slice (some ⟨b, 0, none⟩) (splitN l) (linesL l).length) A := by subst hA; exact split_rd h
set_option maxHeartbeats 2000000 in
theorem lawsplit {l : List UInt8} (hl : l.length ≤ 10000) (H : Owns w0 w R) :
    Calls Tryz.prog 17 #[.string (bs l)] w (RetX (fun x : Option Addr × Nat => .slice x.1 (linesL l).length x.2) w0 (fun x => row_str (.slice x.1 (linesL l).length x.2) (linesL l).length (lstrs (linesL l)) :: R)) := by
  have h2 := H.rowNil 9 1
  obtain ⟨n, hn⟩ : ∃ n, n = l.length := ⟨_, rfl⟩
  have hsz : (bs l).size = n := by rw [bs_size, hn]
  have hn1 : n ≤ 10000 := by omega
  have Hn := Lib.hid hn
  have H2 := Lib.hid h2
  clear H h2 hn hl
  go_enter Tryz.func17, Tryz.ntmps17
  go_wp2_with fail
  go_loopw [3, 4, 5] (fun ov fv q wr => ∃ (i from_ : Nat) (D : List (List UInt8)) (sa : Option Addr) (sc : Nat), i ≤ n + 1 ∧ q = .int .i64 i ∧ fv = .int .i64 from_ ∧ ov = .slice sa D.length sc ∧ from_ ≤ i ∧ (i ≤ n → Cut l i from_ D) ∧ (i = n + 1 → D = linesL l) ∧ D.length ≤ i ∧ Owns w0 wr (row_str (.slice sa D.length sc) D.length (lstrs D) :: R)) (fun _ _ q _ => n + 1 - (intOf q).toNat)
  case atStart => exact ⟨0, 0, [], none, 0, by omega, rfl, rfl, rfl, by omega, fun _ => cut_start l, fun h => by omega, by decide, H2.out⟩
  case round =>
    obtain ⟨i, from_, D, sa, sc, hi, rfl, rfl, rfl, hfi, hcut, hend, hDl, hr⟩ := hrel
    have Hcut := Lib.hid hcut
    have Hend := Lib.hid hend
    have Hr := Lib.hid hr
    clear hcut hend hr
    obtain ⟨dl, hdl⟩ : ∃ dl, dl = D.length := ⟨_, rfl⟩
    rw [← hdl] at Hr hDl ⊢
    have Hdl := Lib.hid hdl
    clear hdl
    by_cases hin : i ≤ n
    · have hend : i = n ∨ i < n := by omega
      obtain ⟨seg, hseg⟩ : ∃ seg, seg = (l.take i).drop from_ := ⟨_, rfl⟩
      have h0 := Hr.out
      have hcu : ∀ w, (Instr.slice 9 (.string (bs l)) (some (.int .i64 from_)) (some (.int .i64 i)) none).run Tryz.prog w = .ok (.string (bs seg)) w := fun w => by rw [hseg]; exact run_cut l hfi (by rw [← Hn.out]; exact hin) w
      have h3 := h0.alloc #[.string (bs seg)] 9
      obtain ⟨s', w5, hrn, h6⟩ := lapp (x := .slice (some ⟨wr.heap.size, 0, none⟩) 1 1) (m := 1) (B := [seg]) Hdl.out rfl h3.p1 (Reads.obj (b := wr.heap.size) (k := 1) (n := 1) (c := 1) (t := 9) (f := (0, 0)) (cs := #[.string (bs seg)]) List.mem_cons_self (by decide) (by decide) (by simp)) (by omega)
      obtain ⟨sa', sc', rfl⟩ := row_slice h6.row
      have e8 : dl + 1 = (D ++ [seg]).length := by rw [List.length_append, Hdl.out]; rfl
      rw [← e8] at h6 hrn
      have h7 := h6.p1.drop
      have H7 := Lib.hid h7
      have E8 := Lib.hid e8
      have Hseg := Lib.hid hseg
      clear h7 e8 hseg h3 h6 h0
      rcases hend with h | hlt
      · obtain rfl : n = i := h.symm
        clear h
        go_wp2_with fail
        go_roundw
        case rel => exact ⟨n + 1, n + 1, D ++ [seg], sa', sc', by omega, by go_num, by go_num, by rw [← E8.out], by omega, fun h => by omega, fun _ => by rw [Hseg.out, Hn.out]; exact (cut_end (by rw [← Hn.out]; exact Hcut.out hin)).symm, by rw [← E8.out]; omega, by rw [← E8.out]; exact H7.out⟩
        case measure => simp [intOf]
      · obtain ⟨b, hb⟩ : ∃ b, l[i]? = some b := ⟨_, List.getElem?_eq_getElem (by rw [← Hn.out]; exact hlt)⟩
        have hat := fun w => run_at hb w
        by_cases hb10 : b = 10
        · subst hb10
          have hb0 : ((10 : UInt8).toNat : Int) = 10 := by decide
          rw [hb0] at hat
          have Hb := Lib.hid hb
          have hne : ((i : Int) == (n : Int)) = false := beq_eq_false_iff_ne.2 (by omega)
          clear hb hb0
          go_wp2_with fail
          go_roundw
          case rel => exact ⟨i + 1, i + 1, D ++ [seg], sa', sc', by omega, by go_num, by go_num, by rw [← E8.out], by omega, fun _ => by rw [Hseg.out]; exact cut_lf (Hcut.out hin) Hb.out, fun h => by omega, by rw [← E8.out]; omega, by rw [← E8.out]; exact H7.out⟩
          case measure => simp [intOf]; omega
        · have hbz : ((b.toNat : Int) == 10) = false := beq_eq_false_iff_ne.2 (fun h => hb10 (by apply UInt8.toNat_inj.1; show b.toNat = 10; omega))
          obtain ⟨bv, hbv⟩ : ∃ bv, (b.toNat : Int) = bv := ⟨_, rfl⟩
          rw [hbv] at hat hbz
          have Hb := Lib.hid hb
          have Hb10 := Lib.hid hb10
          clear hb hb10 hbv hrn hcu
          go_wp2_with fail
          go_roundw
          case rel => exact ⟨i + 1, from_, D, sa, sc, by omega, by go_num, rfl, by rw [← Hdl.out], by omega, fun _ => cut_on (Hcut.out hin) Hb.out Hb10.out, fun h => by omega, by rw [← Hdl.out]; omega, by rw [← Hdl.out]; exact Hr.out⟩
          case measure => simp [intOf]; omega
    · obtain rfl : i = n + 1 := by omega
      have hD : D = linesL l := Hend.out rfl
      have h0 := Hr.out
      have hdl := Hdl.out
      rw [hD] at h0 hdl
      have H0 := Lib.hid h0
      have HN := Lib.hid hdl
      clear h0 hdl hD hin
      go_wp2_with fail
      go_ret
      exact ⟨(sa, sc), congrArg (fun k => Ending.returned (.slice sa k sc)) HN.out, by rw [← HN.out]; exact H0.out⟩
theorem newk {a : Option Addr} {c k : Nat} (hk : k ≤ 10000) (H : Owns w0 w R) (hr : RdL w0 R (.slice a 1 c) [zeros k]) :
    Calls Tryz.prog 10 #[.slice a 1 c] w fun e w' => ∃ (o : Option Addr) (ev : Int), e = .returned (.tuple #[.pointer o, .int .i64 ev]) ∧ ((k + 1 ≤ 4096 ∧ ev = 0 ∧ ∃ p : Nat, o = some ⟨p, 0, none⟩) ∨ (4096 < k + 1 ∧ ev = 21 ∧ o = none)) ∧ Owns w0 w' R := by
  have hb : bulkL [zeros k] = k + 1 := by simp only [bulkL, zeros_len]
  by_cases h : k + 1 ≤ 4096
  · refine (tnew (n := 1) (L := [zeros k]) rfl ⟨by simp, by simp [brokenB, zeros_lf], by rw [hb]; exact h⟩ H hr).mono ?_
    rintro e w' ⟨p, rfl, h2⟩
    exact ⟨_, _, rfl, Or.inl ⟨h, rfl, p, rfl⟩, h2.drop⟩
  · refine (tnew_full (n := 1) (L := [zeros k]) rfl (by simp [brokenB, zeros_lf]) (by rw [hb]; omega) (by rw [hb]; omega) H hr).mono ?_
    rintro e w' ⟨rfl, h2⟩
    exact ⟨_, _, rfl, Or.inr ⟨by omega, rfl, rfl⟩, h2⟩
end
end Go.Proofs.YtcdoomlagmddcaaGreatDoor
