/- The law IndexTyped on values that read. -/
import Derived.Test.YtbddehfcamgfhaaWlines
namespace Go.Proofs.Ytbddehfcamgfhaa
open Go Go.RowKit Go.Fol
attribute [local go_sem ↓] Go.wp_at_zero Go.wp_at_succ
set_option linter.unusedVariables false
set_option linter.unusedSimpArgs false
theorem bytes_extract (s : ByteArray) (a b : Nat) : bytesOf (s.extract a b) = ((bytesOf s).take b).drop a := by
  simp [bytesOf, ByteArray.data_extract, Array.toList_extract, List.extract_eq_take_drop, List.drop_take]
theorem bytes_append (s u : ByteArray) : bytesOf (s ++ u) = bytesOf s ++ bytesOf u := by simp [bytesOf]
theorem typed_step {t : List UInt8} {i : Nat} (h : i < t.length) : (t.take i).take i ++ (t.take (i + 1)).drop i ++ (t.take i).drop i = t.take (i + 1) := by
  have h0 : (t.take i).drop i = [] := List.drop_eq_nil_of_le (by simp; omega)
  rw [List.take_of_length_le (l := t.take i) (by simp; omega), h0, List.append_nil]
  conv => rhs; rw [← List.take_append_drop i (t.take (i + 1)), List.take_take, Nat.min_eq_left (by omega)]
theorem bytes_all (u : ByteArray) : (bytesOf u).take u.size = bytesOf u := List.take_of_length_le (by rw [bytes_len]; exact Nat.le_refl _)
set_option maxHeartbeats 2000000 in
set_option maxRecDepth 100000 in
theorem indexTyped_walk (w : World) (v0 v1 : Value) (a0 : Arg Try.prog w 9 v0) (a1 : Arg Try.prog w 44 v1) :
    Calls Try.prog 7 #[v0, v1] w fun e w' => e = .returned (.bool true) ∧ Below w.heap.size w w' := by
  obtain ⟨s, rfl, hs⟩ := arg_string Try.underlying9 a0
  obtain ⟨l, hl, hlb, hwf⟩ := arg_kind (kd := .u8) (B := 1) Try.underlying44 Try.underlying5 (by kernel_rfl) (by kernel_rfl) a1
  obtain ⟨n, hn⟩ : ∃ n, n = l.length := ⟨_, rfl⟩
  rw [← hn] at hl hlb
  obtain ⟨la, lc, rfl⟩ := hl.form
  have hl63 := hl.n63
  have Hl := Lib.hid hl
  have Hn := Lib.hid hn
  have Hwf := Lib.hid hwf
  clear a0 a1 hl hn hwf
  obtain ⟨t, ht⟩ : ∃ t, t = bytesOf s := ⟨_, rfl⟩
  have hsz : s.size = t.length := by rw [ht, bytes_len]
  have Ht := Lib.hid ht
  have Hsz := Lib.hid hsz
  clear ht hsz
  go_enter Try.func7, Try.ntmps7
  go_wp2_with fail
  refine (known_true (Owns.start w)).mono ?_
  rintro e w1 ⟨rfl, h1⟩
  have H1 := Lib.hid h1
  clear h1
  go_wp2_with fail
  all_goals first | (go_ret; exact ⟨rfl, H1.out.below⟩) | skip
  refine (inew ⟨#[]⟩ H1.out (by decide)).mono ?_
  rintro e w2 ⟨x, rfl, h2⟩
  have H2 := Lib.hid h2
  clear h2 H1
  go_wp2_with fail
  go_loopg [6] (s.size) (fun gk q wr => ∃ i : Nat, gk + i = s.size ∧ q = .int .i64 i ∧ Owns w wr [Asrt.idx x (t.take i)])
  case atStart => exact ⟨0, by omega, rfl, H2.out⟩
  case round =>
    obtain ⟨i, hgi, rfl, h3⟩ := hrel
    by_cases hlt : i < s.size
    · have hins := iinsert (off := i) (s.extract i (i + 1)) h3 (by simp; have := Hsz.out; omega) (by simp; omega)
      have hlen : (t.take i).length = i := by simp; have := Hsz.out; omega
      have e : (t.take i).take i ++ bytesOf (s.extract i (i + 1)) ++ (t.take i).drop i = t.take (i + 1) := by
        rw [bytes_extract, ← Ht.out]
        exact typed_step (by have := Hsz.out; omega)
      rw [e] at hins
      have Hins := Lib.hid hins
      clear hins hlen e h3
      go_wp2_with fail
      refine Hins.out.mono ?_
      rintro e w4 ⟨rfl, h4⟩
      have H4 := Lib.hid h4
      clear h4 Hins
      go_wp2_with fail
      go_roundg (gk - 1)
      case measure => omega
      case rel => exact ⟨i + 1, by omega, by go_num, H4.out⟩
    · obtain rfl : i = s.size := by omega
      rw [List.take_of_length_le (by have := Hsz.out; omega), Ht.out] at h3
      have Hw := Lib.hid (whole_true s h3 (by omega))
      clear h3
      go_wp2_with fail
      refine Hw.out.mono ?_
      rintro e w4 ⟨rfl, h4⟩
      have H4 := Lib.hid h4
      clear h4 Hw
      go_wp2_with fail
      go_loopg [7, 8] (n + 1) (fun gk uv q wr => ∃ (i : Nat) (u : ByteArray), gk + i = n + 1 ∧ i ≤ n ∧ q = .int .i64 i ∧ uv = .string u ∧ u.size ≤ 120 ∧ Owns w wr [Asrt.idx x (bytesOf u)])
      case atStart => exact ⟨0, s, by omega, by omega, rfl, rfl, by omega, H4.out⟩
      case round =>
        obtain ⟨i, u, hgi, hi, rfl, rfl, hu, h5⟩ := hrel
        have H5 := Lib.hid h5
        have Hw := Lib.hid (whole_true u h5 (by omega))
        clear h5
        by_cases hlt : i < n
        · by_cases hu0 : 0 < u.size
          · obtain ⟨lb, lo, lc', e1, hlc, _, hce⟩ := Hl.out.cells (by omega) (by decide)
            cases e1
            have hx := kints_get .u8 l (i := i) (by have := Hn.out; omega)
            obtain ⟨c, hxe⟩ : ∃ c, c = l[i]?.getD 0 := ⟨_, rfl⟩
            rw [← hxe] at hx
            have cx : wr.cell? ⟨lb, lo + i, none⟩ = some (.int .u8 c) := H5.out.chg.cell (hce i _ hx) (by simp)
            have hxr : 0 ≤ c ∧ c ≤ 255 := by
              have h := Hwf.out c (by
                rw [hxe]
                have hi : i < l.length := by have := Hn.out; omega
                rw [List.getElem?_eq_getElem hi]
                exact List.getElem_mem hi)
              exact wf_u8 h
            have hx1 : 0 ≤ c := hxr.1
            have hx2 : c ≤ 255 := hxr.2
            obtain ⟨k, hk⟩ : ∃ k : Nat, c % (u.size : Int) = k := ⟨(c % (u.size : Int)).toNat, by have := Int.emod_nonneg c (show (u.size : Int) ≠ 0 by omega); omega⟩
            have hku : k < u.size := by have := Int.emod_lt_of_pos c (show (0 : Int) < u.size by omega); omega
            have hdel := idelete (off := k) (n := 1) H5.out (by rw [bytes_len]; omega) (by rw [bytes_len]; omega)
            have e2 : (bytesOf u).take k ++ (bytesOf u).drop (k + 1) = bytesOf (u.extract 0 k ++ u.extract (k + 1) u.size) := by
              rw [bytes_append, bytes_extract, bytes_extract, List.drop_zero, bytes_all]
            rw [e2] at hdel
            have Hdel := Lib.hid hdel
            clear hdel e2 hx hce hxe hxr
            go_wp2_with fail
            refine Hdel.out.mono ?_
            rintro e w6 ⟨rfl, h6⟩
            have H6 := Lib.hid h6
            have hadd : IntKind.i64.wrap ((k : Int) + 1) = (k : Int) + 1 := by rw [IntKind.wrap_i64]; omega
            have hadd0 : (0 : Int) ≤ (k : Int) + 1 := by omega
            have hadd1 : ((k : Int) + 1).toNat = k + 1 := by omega
            have hk1 : k ≤ u.size := by omega
            have hk2 : k + 1 ≤ u.size := by omega
            have hk3 : (k : Int) + 1 ≤ (u.size : Int) := by omega
            clear h6 Hdel
            go_wp2_with fail
            go_quiet (fail)
            go_wp2_with fail
            go_roundg (gk - 1)
            case measure => omega
            case rel => exact ⟨i + 1, u.extract 0 k ++ u.extract (k + 1) u.size, by omega, by omega, by go_num, rfl, by simp; omega, H6.out.drewN _⟩
          · have hu0' : u.size = 0 := by omega
            go_wp2_with fail
            refine Hw.out.mono ?_
            rintro e w6 ⟨rfl, h6⟩
            have H6 := Lib.hid h6
            clear h6
            go_wp2_with fail
            go_ret
            exact ⟨rfl, H6.out.below⟩
        · obtain rfl : i = n := by omega
          go_wp2_with fail
          refine Hw.out.mono ?_
          rintro e w6 ⟨rfl, h6⟩
          have H6 := Lib.hid h6
          clear h6
          go_wp2_with fail
          go_ret
          exact ⟨rfl, H6.out.below⟩
end Go.Proofs.Ytbddehfcamgfhaa
