/- The law IndexPlays on values that read. -/
import Derived.Test.YtbddehfcamgfhaaWtyped
namespace Go.Proofs.Ytbddehfcamgfhaa
open Go Go.RowKit Go.Fol
attribute [local go_sem ↓] Go.wp_at_zero Go.wp_at_succ
set_option linter.unusedVariables false
set_option linter.unusedSimpArgs false
theorem act_of {w : World} {es : List Value} (hl : es.length = 4) (h : Rd Try.prog w 41 es) :
    ∃ (a i n : Int) (s : ByteArray), es = [.int .u8 a, .int .i64 i, .int .i64 n, .string s] ∧ (0 ≤ a ∧ a ≤ 255) ∧ (-9223372036854775808 ≤ i ∧ i ≤ 9223372036854775807) ∧ (-9223372036854775808 ≤ n ∧ n ≤ 9223372036854775807) := by
  obtain ⟨e0, e1, e2, e3, rfl⟩ : ∃ e0 e1 e2 e3, es = [e0, e1, e2, e3] := by
    match es, hl with
    | [a, b, c, d], _ => exact ⟨a, b, c, d, rfl⟩
  have hs := (rd_struct Try.underlying41 h).2
  obtain ⟨a, ha, wa⟩ := rd_int Try.underlying5 (hs 0 _ rfl)
  obtain ⟨i, hi, wi⟩ := rd_int Try.underlying3 (hs 1 _ rfl)
  obtain ⟨n, hn, wn⟩ := rd_int Try.underlying3 (hs 2 _ rfl)
  obtain ⟨x, hx, _⟩ := rd_string Try.underlying9 (hs 3 _ rfl)
  have ha : [e0] = [.int .u8 a] := ha
  have hi : [e1] = [.int .i64 i] := hi
  have hn : [e2] = [.int .i64 n] := hn
  have hx : [e3] = [.string x] := hx
  cases ha; cases hi; cases hn; cases hx
  exact ⟨a, i, n, x, rfl, wf_u8 wa, wf_i64 wi, wf_i64 wn⟩
set_option maxHeartbeats 8000000 in
set_option maxRecDepth 100000 in
theorem indexPlays_walk (w : World) (v0 v1 : Value) (a0 : Arg Try.prog w 9 v0) (a1 : Arg Try.prog w 39 v1) :
    Calls Try.prog 6 #[v0, v1] w fun e w' => e = .returned (.bool true) ∧ Below w.heap.size w w' := by
  obtain ⟨s, rfl, hs⟩ := arg_string Try.underlying9 a0
  obtain ⟨ca, c, cc, rfl, _, hcc, hcm, _, hrow⟩ := arg_slice (k := 4) Try.underlying39 (by kernel_rfl) (by decide) a1
  have hc63 : c ≤ 9223372036854775807 := by unfold maxLen at hcm; omega
  have Hrow := Lib.hid hrow
  clear a0 a1 hrow hcm
  go_enter Try.func6, Try.ntmps6
  go_wp2_with fail
  refine (known_true (Owns.start w)).mono ?_
  rintro e w1 ⟨rfl, h1⟩
  have H1 := Lib.hid h1
  clear h1
  go_wp2_with fail
  all_goals first | (go_ret; exact ⟨rfl, H1.out.below⟩) | skip
  refine (inew s H1.out (by omega)).mono ?_
  rintro e w2 ⟨x, rfl, h2⟩
  have Hw := Lib.hid (whole_true s h2 (by omega))
  clear h2 H1
  go_wp2_with fail
  refine Hw.out.mono ?_
  rintro e w3 ⟨rfl, h3⟩
  have H3 := Lib.hid h3
  clear h3 Hw
  go_wp2_with fail
  go_loopg [6, 7] c (fun gk uv q wr => ∃ (j : Nat) (u : ByteArray), gk + j = c ∧ q = .int .i64 j ∧ uv = .string u ∧ u.size ≤ 150 + 30 * j ∧ Owns w wr [Asrt.idx x (bytesOf u)])
  case atStart => exact ⟨0, s, by omega, rfl, rfl, by omega, H3.out⟩
  case round =>
    obtain ⟨j, u, hgj, rfl, rfl, hu, h4⟩ := hrel
    have H4 := Lib.hid h4
    clear h4
    by_cases hlt : j < c
    · obtain ⟨b, off, rfl, hbl, hel⟩ := Hrow.out (by omega)
      obtain ⟨es, hes, hrd, hce⟩ := hel j hlt
      obtain ⟨a, ii, nn, y, rfl, ha, hii, hnn⟩ := act_of hes hrd
      have k0 := H4.out.chg.cell (hce 0 _ rfl) (by simp)
      have k1 := H4.out.chg.cell (hce 1 _ rfl) (by simp)
      have k2 := H4.out.chg.cell (hce 2 _ rfl) (by simp)
      have k3 := H4.out.chg.cell (hce 3 _ rfl) (by simp)
      simp only [Nat.add_zero] at k0
      have h5 := (H4.out.alloc #[.int .u8 a, .int .i64 ii, .int .i64 nn, .string y] 41).p1
      have H5 := Lib.hid h5
      have hus := bytes_len u
      have ha1 : 0 ≤ a := ha.1
      clear hrd hce hes hel hbl h5
      by_cases hy : y.size ≤ 30
      · by_cases ha3 : a % 3 < 2
        · by_cases hin : 0 ≤ ii ∧ ii ≤ (u.size : Int)
          · obtain ⟨o, rfl⟩ := Int.eq_ofNat_of_zero_le hin.1
            have ho1 : o ≤ u.size := by omega
            have ho2 : (o : Int) ≤ (u.size : Int) := hin.2
            have ho3 : 0 ≤ (o : Int) := hin.1
            have hcon := iinsert (off := o) y H5.out (by rw [bytes_len]; exact ho1) (by rw [bytes_len]; omega)
            have e : (bytesOf u).take o ++ bytesOf y ++ (bytesOf u).drop o = bytesOf (u.extract 0 o ++ y ++ u.extract o u.size) := by
              rw [bytes_append, bytes_append, bytes_extract, bytes_extract, List.drop_zero, bytes_all]
            rw [e] at hcon
            have Hcon := Lib.hid hcon
            clear hcon e hin
            go_wp2_with fail
            refine Hcon.out.mono ?_
            rintro e w6 ⟨rfl, h6⟩
            have hbx : w6.heap[wr.heap.size]? = some (.cells #[.int .u8 a, .int .i64 (o : Int), .int .i64 nn, .string y] 41 (0, 0)) := h6.p1.obj
            have b1 := cell_of_heap hbx (j := 1) rfl
            have b3 := cell_of_heap hbx (j := 3) rfl
            have Hw := fun q => whole_true (u.extract 0 o ++ y ++ u.extract o u.size) (h6.drewN q) (by simp; omega)
            have Hw := Lib.hid Hw
            clear h6 hbx Hcon
            go_wp2_with fail
            go_quiet (fail)
            go_wp2_with fail
            refine (Hw.out _).mono ?_
            rintro e w7 ⟨rfl, h7⟩
            have H7 := Lib.hid h7
            clear h7 Hw
            go_wp2_with fail
            go_roundg (gk - 1)
            case measure => omega
            case rel => exact ⟨j + 1, u.extract 0 o ++ y ++ u.extract o u.size, by omega, by go_num, rfl, by simp; omega, H7.out.p1.drop⟩
          · rcases (show ii < 0 ∨ (0 ≤ ii ∧ (u.size : Int) < ii) by omega) with g1 | ⟨g0, g1⟩
            · have hh : ¬ (0 ≤ ii) := by omega
              have hcon := iinsert_out (off := ii) y H5.out (by rw [bytes_len]; omega)
              have Hcon := Lib.hid hcon
              have Hw := Lib.hid (whole_true u H5.out (by omega))
              clear hcon hin
              go_wp2_with fail
              refine Hcon.out.mono ?_
              rintro e w6 ⟨rfl, rfl⟩
              go_wp2_with fail
              refine Hw.out.mono ?_
              rintro e w7 ⟨rfl, h7⟩
              have H7 := Lib.hid h7
              clear h7 Hw
              go_wp2_with fail
              go_roundg (gk - 1)
              case measure => omega
              case rel => exact ⟨j + 1, u, by omega, by go_num, rfl, by omega, H7.out.p1.drop⟩
            · have hh : ¬ (ii ≤ (u.size : Int)) := by omega
              have hcon := iinsert_out (off := ii) y H5.out (by rw [bytes_len]; omega)
              have Hcon := Lib.hid hcon
              have Hw := Lib.hid (whole_true u H5.out (by omega))
              clear hcon hin
              go_wp2_with fail
              refine Hcon.out.mono ?_
              rintro e w6 ⟨rfl, rfl⟩
              go_wp2_with fail
              refine Hw.out.mono ?_
              rintro e w7 ⟨rfl, h7⟩
              have H7 := Lib.hid h7
              clear h7 Hw
              go_wp2_with fail
              go_roundg (gk - 1)
              case measure => omega
              case rel => exact ⟨j + 1, u, by omega, by go_num, rfl, by omega, H7.out.p1.drop⟩
        · by_cases hin : 0 ≤ ii ∧ 0 ≤ nn ∧ ii ≤ (u.size : Int) ∧ nn ≤ (u.size : Int) - ii
          · obtain ⟨o, rfl⟩ := Int.eq_ofNat_of_zero_le hin.1
            obtain ⟨m, rfl⟩ := Int.eq_ofNat_of_zero_le hin.2.1
            have ho1 : o ≤ u.size := by omega
            have ho2 : (o : Int) ≤ (u.size : Int) := hin.2.2.1
            have ho3 : (m : Int) ≤ (u.size : Int) - (o : Int) := hin.2.2.2
            have ho4 : o + m ≤ u.size := by omega
            have ho5 : 0 ≤ (o : Int) := hin.1
            have ho6 : 0 ≤ (m : Int) := hin.2.1
            have hcon := idelete (off := o) (n := m) H5.out (by rw [bytes_len]; exact ho4) (by rw [bytes_len]; omega)
            have e : (bytesOf u).take o ++ (bytesOf u).drop (o + m) = bytesOf (u.extract 0 o ++ u.extract (o + m) u.size) := by
              rw [bytes_append, bytes_extract, bytes_extract, List.drop_zero, bytes_all]
            rw [e] at hcon
            have Hcon := Lib.hid hcon
            clear hcon e hin
            go_wp2_with fail
            refine Hcon.out.mono ?_
            rintro e w6 ⟨rfl, h6⟩
            have hbx : w6.heap[wr.heap.size]? = some (.cells #[.int .u8 a, .int .i64 (o : Int), .int .i64 (m : Int), .string y] 41 (0, 0)) := h6.p1.obj
            have b1 := cell_of_heap hbx (j := 1) rfl
            have b2 := cell_of_heap hbx (j := 2) rfl
            have Hw := fun q => whole_true (u.extract 0 o ++ u.extract (o + m) u.size) (h6.drewN q) (by simp; omega)
            have Hw := Lib.hid Hw
            have hadd : IntKind.i64.wrap ((o : Int) + (m : Int)) = (o : Int) + (m : Int) := by rw [IntKind.wrap_i64]; omega
            have hadd0 : (0 : Int) ≤ (o : Int) + (m : Int) := by omega
            have hadd1 : ((o : Int) + (m : Int)).toNat = o + m := by omega
            have hadd2 : (o : Int) + (m : Int) ≤ (u.size : Int) := by omega
            clear h6 hbx Hcon
            go_wp2_with fail
            go_quiet (fail)
            go_wp2_with fail
            refine (Hw.out _).mono ?_
            rintro e w7 ⟨rfl, h7⟩
            have H7 := Lib.hid h7
            clear h7 Hw
            go_wp2_with fail
            go_roundg (gk - 1)
            case measure => omega
            case rel => exact ⟨j + 1, u.extract 0 o ++ u.extract (o + m) u.size, by omega, by go_num, rfl, by simp; omega, H7.out.p1.drop⟩
          · rcases (show ii < 0 ∨ (0 ≤ ii ∧ nn < 0) ∨ (0 ≤ ii ∧ 0 ≤ nn ∧ (u.size : Int) < ii) ∨ (0 ≤ ii ∧ 0 ≤ nn ∧ ii ≤ (u.size : Int) ∧ (u.size : Int) - ii < nn) by omega) with g1 | ⟨g1, g2⟩ | ⟨g1, g2, g3⟩ | ⟨g1, g2, g3, g4⟩
            · have hh : ¬ (0 ≤ ii) := by omega
              have hcon := idelete_out (off := ii) (n := nn) H5.out (by rw [bytes_len]; omega) (by rw [bytes_len]; omega)
              have Hcon := Lib.hid hcon
              have Hw := Lib.hid (whole_true u H5.out (by omega))
              clear hcon hin
              go_wp2_with fail
              refine Hcon.out.mono ?_
              rintro e w6 ⟨rfl, rfl⟩
              go_wp2_with fail
              refine Hw.out.mono ?_
              rintro e w7 ⟨rfl, h7⟩
              have H7 := Lib.hid h7
              clear h7 Hw
              go_wp2_with fail
              go_roundg (gk - 1)
              case measure => omega
              case rel => exact ⟨j + 1, u, by omega, by go_num, rfl, by omega, H7.out.p1.drop⟩
            · have hh : ¬ (0 ≤ nn) := by omega
              have hcon := idelete_out (off := ii) (n := nn) H5.out (by rw [bytes_len]; omega) (by rw [bytes_len]; omega)
              have Hcon := Lib.hid hcon
              have Hw := Lib.hid (whole_true u H5.out (by omega))
              clear hcon hin
              go_wp2_with fail
              refine Hcon.out.mono ?_
              rintro e w6 ⟨rfl, rfl⟩
              go_wp2_with fail
              refine Hw.out.mono ?_
              rintro e w7 ⟨rfl, h7⟩
              have H7 := Lib.hid h7
              clear h7 Hw
              go_wp2_with fail
              go_roundg (gk - 1)
              case measure => omega
              case rel => exact ⟨j + 1, u, by omega, by go_num, rfl, by omega, H7.out.p1.drop⟩
            · have hh : ¬ (ii ≤ (u.size : Int)) := by omega
              have hcon := idelete_out (off := ii) (n := nn) H5.out (by rw [bytes_len]; omega) (by rw [bytes_len]; omega)
              have Hcon := Lib.hid hcon
              have Hw := Lib.hid (whole_true u H5.out (by omega))
              clear hcon hin
              go_wp2_with fail
              refine Hcon.out.mono ?_
              rintro e w6 ⟨rfl, rfl⟩
              go_wp2_with fail
              refine Hw.out.mono ?_
              rintro e w7 ⟨rfl, h7⟩
              have H7 := Lib.hid h7
              clear h7 Hw
              go_wp2_with fail
              go_roundg (gk - 1)
              case measure => omega
              case rel => exact ⟨j + 1, u, by omega, by go_num, rfl, by omega, H7.out.p1.drop⟩
            · have hh : ¬ (nn ≤ (u.size : Int) - ii) := by omega
              have hcon := idelete_out (off := ii) (n := nn) H5.out (by rw [bytes_len]; omega) (by rw [bytes_len]; omega)
              have Hcon := Lib.hid hcon
              have Hw := Lib.hid (whole_true u H5.out (by omega))
              clear hcon hin
              go_wp2_with fail
              refine Hcon.out.mono ?_
              rintro e w6 ⟨rfl, rfl⟩
              go_wp2_with fail
              refine Hw.out.mono ?_
              rintro e w7 ⟨rfl, h7⟩
              have H7 := Lib.hid h7
              clear h7 Hw
              go_wp2_with fail
              go_roundg (gk - 1)
              case measure => omega
              case rel => exact ⟨j + 1, u, by omega, by go_num, rfl, by omega, H7.out.p1.drop⟩
      · have hy' : (30 : Int) < (y.size : Int) := by omega
        go_wp2_with fail
        go_ret
        exact ⟨rfl, (H4.out.alloc0 _).below⟩
    · obtain rfl : j = c := by omega
      go_wp2_with fail
      go_ret
      exact ⟨rfl, H4.out.below⟩
end Go.Proofs.Ytbddehfcamgfhaa
