/- The law IndexLines on values that read. -/
import Derived.Test.YtbddehfcamgfhaaWh
import Derived.Test.YtbddehfcamgfhaaRead
namespace Go.Proofs.Ytbddehfcamgfhaa
open Go Go.RowKit Go.Fol
attribute [local go_sem ↓] Go.wp_at_zero Go.wp_at_succ
set_option linter.unusedVariables false
set_option linter.unusedSimpArgs false
theorem byte_eq {c : UInt8} (h : c = 10) : ((c.toNat : Int) == 10) = true := by rw [h]; rfl
theorem byte_ne {c : UInt8} (h : ¬ c = 10) : ((c.toNat : Int) == 10) = false := by
  have : c.toNat ≠ 10 := fun h' => h (UInt8.toNat_inj.1 h')
  simp; omega
theorem bytes_get (s : ByteArray) {i : Nat} (h : i < s.size) : (bytesOf s)[i]? = some s[i] := by
  rw [List.getElem?_eq_getElem (by simpa [bytesOf] using h)]; rfl
theorem bytes_len (s : ByteArray) : (bytesOf s).length = s.size := by simp [bytesOf]
theorem brk_take {t : List UInt8} {i : Nat} {c : UInt8} (h : t[i]? = some c) : brk (t.take (i + 1)) = brk (t.take i) + if c = 10 then 1 else 0 := lineAt_succ h
set_option maxHeartbeats 2000000 in
set_option maxRecDepth 100000 in
theorem indexLines_walk (w : World) (v0 : Value) (a0 : Arg Try.prog w 9 v0) :
    Calls Try.prog 4 #[v0] w fun e w' => e = .returned (.bool true) ∧ Below w.heap.size w w' := by
  obtain ⟨s, rfl, hs⟩ := arg_string Try.underlying9 a0
  clear a0
  obtain ⟨t, ht⟩ : ∃ t, t = bytesOf s := ⟨_, rfl⟩
  have hsz : s.size = t.length := by rw [ht, bytes_len]
  have Ht := Lib.hid ht
  have Hsz := Lib.hid hsz
  clear ht hsz
  go_enter Try.func4, Try.ntmps4
  go_wp2_with fail
  refine (known_true (Owns.start w)).mono ?_
  rintro e w1 ⟨rfl, h1⟩
  have H1 := Lib.hid h1
  clear h1
  go_wp2_with fail
  all_goals first | (go_ret; exact ⟨rfl, H1.out.below⟩) | skip
  refine (inew s H1.out (by omega)).mono ?_
  rintro e w2 ⟨x, rfl, h2⟩
  rw [← Ht.out] at h2
  have H2 := Lib.hid h2
  clear h2 H1
  go_wp2_with fail
  go_loop [4, 5] (fun nv q => ∃ i : Nat, q = .int .i64 i ∧ i ≤ s.size ∧ nv = .int .i64 ((brk (t.take i) : Int) + 1)) (fun _ q => s.size - (intOf q).toNat)
  case atStart => exact ⟨0, rfl, Nat.zero_le _, rfl⟩
  case round =>
    obtain ⟨i, rfl, hi, rfl⟩ := hrel
    have hbk : brk (t.take i) ≤ i := by have := brk_le (t.take i); simp at this; omega
    by_cases hlt : i < s.size
    · have hst := brk_take (t := t) (i := i) (by rw [Ht.out]; exact bytes_get s hlt)
      have Hst := Lib.hid hst
      clear hst
      by_cases h10 : s[i] = 10
      · have h10' := byte_eq h10
        have H10 := Lib.hid h10
        clear h10
        go_wp2
        go_round
        case rel => exact ⟨i + 1, by go_num, by omega, by rw [Hst.out, if_pos H10.out]; go_num⟩
        case measure => simp [intOf]; omega
      · have h10' := byte_ne h10
        have H10 := Lib.hid h10
        clear h10
        go_wp2
        go_round
        case rel => exact ⟨i + 1, by go_num, by omega, by rw [Hst.out, if_neg H10.out]; rfl⟩
        case measure => simp [intOf]; omega
    · obtain rfl : i = s.size := by omega
      have htk : t.take s.size = t := List.take_of_length_le (by have := Hsz.out; omega)
      have hbt : t.length ≤ 400 := by have := Hsz.out; omega
      have hbl := brk_le t
      have hli := ilines H2.out
      have hle := ilen H2.out
      rw [← Hsz.out] at hle
      have Hli := Lib.hid hli
      have Hle := Lib.hid hle
      have Hbt := Lib.hid hbt
      rw [htk]
      obtain ⟨n, hn⟩ : ∃ n, n = brk t + 1 := ⟨_, rfl⟩
      have hnI : (brk t : Int) + 1 = (n : Int) := by omega
      rw [hnI] at Hli ⊢
      have Hn := Lib.hid hn
      have hn400 : n ≤ 401 := by omega
      clear hli hle htk hbt hbl hbk hn hnI
      go_wp2_with fail
      go_loopg [6, 7] n (fun gk sv q wr => ∃ k : Nat, gk + k = n ∧ q = .int .i64 k ∧ sv = .int .i64 (bnd t k : Int) ∧ wr = w2)
      case atStart => exact ⟨0, by omega, rfl, by rw [bnd_start (by omega), lstart_zero]; rfl, rfl⟩
      case round =>
        obtain ⟨k, hgk, rfl, rfl, rfl⟩ := hrel
        have hbd := bnd_le (t := t) (k := k) (by have := Hn.out; omega)
        have hbd2 : bnd t k ≤ 401 := by have := Hbt.out; omega
        have Hbd := Lib.hid hbd
        clear hbd
        by_cases hlk : k < n
        · have hsi := isize_in (h := k) H2.out (by have := Hn.out; omega) (by have := Hbt.out; omega)
          rw [← bnd_next, ← bnd_start (by have := Hn.out; omega)] at hsi
          have Hsi := Lib.hid hsi
          have hbn : bnd t (k + 1) ≤ 401 := by have := bnd_le (t := t) (k := k + 1) (by have := Hn.out; omega); have := Hbt.out; omega
          clear hsi
          go_wp2_with fail
          refine Hli.out.mono ?_
          rintro e w' ⟨rfl, rfl⟩
          go_wp2_with fail
          refine Hsi.out.mono ?_
          rintro e w' ⟨rfl, rfl⟩
          go_wp2_with fail
          go_roundg (gk - 1)
          case measure => omega
          case rel => exact ⟨k + 1, by omega, by go_num, by congr 1; omega, rfl⟩
        · obtain rfl : k = n := by omega
          have hend : bnd t k = s.size + 1 := by rw [Hn.out, bnd_end, Hsz.out]
          have hendI : ((bnd t k : Nat) : Int) = (s.size : Int) + 1 := by omega
          go_wp2_with fail
          refine Hli.out.mono ?_
          rintro e w' ⟨rfl, rfl⟩
          go_wp2_with fail
          refine Hli.out.mono ?_
          rintro e w' ⟨rfl, rfl⟩
          go_wp2_with fail
          refine Hle.out.mono ?_
          rintro e w' ⟨rfl, rfl⟩
          go_wp2_with fail
          go_ret
          exact ⟨rfl, H2.out.below⟩
end Go.Proofs.Ytbddehfcamgfhaa
