/- The example of the laws on indexes holds; an index of just this text. -/
import Derived.Test.YtbddehfcamgfhaaID
namespace Go.Proofs.Ytbddehfcamgfhaa
open Go Go.RowKit Go.Fol
attribute [local go_sem ↓] Go.wp_at_zero Go.wp_at_succ
set_option linter.unusedVariables false
set_option linter.unusedSimpArgs false
section
variable {w0 w : World} {R : List Asrt}
set_option maxHeartbeats 1000000 in
theorem known_true (H : Owns w0 w R) : Calls Try.prog 8 #[] w (Ret (.bool true) w0 R) := by
  have HH := Lib.hid H
  clear H
  go_enter Try.func8, Try.ntmps8
  go_wp2_with fail
  refine (inew ⟨#[97, 10, 98]⟩ HH.out (by decide)).mono ?_
  rintro e w1 ⟨x, rfl, h1⟩
  have H1 := Lib.hid h1
  clear h1
  go_wp2_with fail
  obtain ⟨t, ht⟩ : ∃ t, t = bytesOf ⟨#[97, 10, 98]⟩ := ⟨_, rfl⟩
  have hbk : brk t = 1 := by rw [ht]; decide
  have hln : t.length = 3 := by rw [ht]; rfl
  have hs0 : lstart t 0 = 0 := lstart_zero t
  have hs1 : lstart t 1 = 2 := by rw [ht]; decide
  have hn0 : lnext t 0 = 2 := by rw [ht]; decide
  have hn1 : lnext t 1 = 4 := by rw [ht]; decide
  have hla : lineAt t 1 = 0 := by rw [ht]; decide
  have hins : brk (t.take 1 ++ bytesOf ⟨#[10]⟩ ++ t.drop 1) = 2 := by rw [ht]; decide
  rw [← ht] at H1
  have c1 := ilines H1.out
  rw [hbk] at c1
  have c2 := ilen H1.out
  rw [hln] at c2
  have c3 := istart_in (h := 1) H1.out (by omega)
  rw [hs1] at c3
  have c4 := iat_in (off := 1) H1.out (by omega) (by omega)
  rw [hla, hs0] at c4
  have C1 := Lib.hid c1
  have C2 := Lib.hid c2
  have C3 := Lib.hid c3
  have C4 := Lib.hid c4
  have FF := Lib.hid (And.intro hbk (And.intro hln (And.intro hs1 (And.intro hn0 (And.intro hn1 (And.intro hs0 hins))))))
  clear c1 c2 c3 c4 hbk hln hs0 hs1 hn0 hn1 hla hins ht
  refine C1.out.mono ?_
  rintro e w' ⟨rfl, rfl⟩
  go_wp2_with fail
  refine C2.out.mono ?_
  rintro e w' ⟨rfl, rfl⟩
  go_wp2_with fail
  refine C3.out.mono ?_
  rintro e w' ⟨rfl, rfl⟩
  go_wp2_with fail
  refine C4.out.mono ?_
  rintro e w2 ⟨rfl, h2⟩
  have h3 := (h2.alloc #[.int .i64 0, .int .i64 1] 23).p1
  obtain ⟨hbk, hln, hs1, hn0, hn1, hs0, hins⟩ := FF.out
  have c5 := ioff_in (h := 1) (c := 1) h3 (by omega) (by rw [hn1, hs1]; decide) (by omega)
  rw [hs1] at c5
  have C5 := Lib.hid c5
  clear h2 h3 c5 C1 C2 C3 C4 hbk hln hs1 hn0 hn1 hs0 hins
  go_wp2_with fail
  refine C5.out.mono ?_
  rintro e w3 ⟨rfl, h4⟩
  obtain ⟨hbk, hln, hs1, hn0, hn1, hs0, hins⟩ := FF.out
  have c6 := ioff_out (h := 0) (c := 2) h4 (by omega) (by show ¬ (_ ∧ _ ∧ _ ∧ (2 : Int) ≤ (lnext t 0 : Int) - 1 - lstart t 0); rw [hn0, hs0]; omega)
  have C6 := Lib.hid c6
  clear h4 c6 C5 hbk hln hs1 hn0 hn1 hs0 hins
  go_wp2_with fail
  refine C6.out.mono ?_
  rintro e w4 ⟨rfl, h5⟩
  obtain ⟨hbk, hln, hs1, hn0, hn1, hs0, hins⟩ := FF.out
  have d0 : w4.cell? ⟨w2.heap.size, 0, none⟩ = some (.int .i64 0) := h5.p1.cell (j := 0) rfl
  have d1 : w4.cell? ⟨w2.heap.size, 1, none⟩ = some (.int .i64 1) := h5.p1.cell (j := 1) rfl
  have c7 := iinsert (off := 1) ⟨#[10]⟩ h5 (by omega) (by rw [hln]; decide)
  have C7 := Lib.hid c7
  clear h5 C6 c7 hbk hln hs1 hn0 hn1 hs0 hins
  go_wp2_with fail
  refine C7.out.mono ?_
  rintro e w5 ⟨rfl, h6⟩
  have c8 := ilines h6
  rw [FF.out.2.2.2.2.2.2] at c8
  have C8 := Lib.hid c8
  have Hend := Lib.hid h6.drop.drop
  clear h6 C7 c8
  go_wp2_with fail
  refine C8.out.mono ?_
  rintro e w' ⟨rfl, rfl⟩
  go_wp2_with fail
  go_ret
  exact ⟨rfl, Hend.out⟩
set_option maxHeartbeats 4000000 in
set_option maxRecDepth 100000 in
theorem whole_true {x : Nat} (s : ByteArray) (H : Owns w0 w (Asrt.idx x (bytesOf s) :: R)) (hb : s.size ≤ 1000000) : Calls Try.prog 17 #[.pointer (some ⟨x, 0, none⟩), .string s] w (Ret (.bool true) w0 (Asrt.idx x (bytesOf s) :: R)) := by
  obtain ⟨t, ht⟩ : ∃ t, t = bytesOf s := ⟨_, rfl⟩
  have hsz : s.size = t.length := by rw [ht]; simp [bytesOf]
  rw [← ht] at H ⊢
  have HH := Lib.hid H
  have Ht := Lib.hid ht
  have Hsz := Lib.hid hsz
  clear H ht hsz
  go_enter Try.func17, Try.ntmps17
  go_wp2_with fail
  go_loopg [5, 6, 7] (s.size + 1) (fun gk ln fr q wr => ∃ (i l f : Nat), gk + i = s.size + 1 ∧ q = .int .i64 i ∧ ln = .int .i64 l ∧ fr = .int .i64 f ∧ l ≤ s.size + 1 ∧ f ≤ i ∧ (i ≤ t.length → l = lineAt t i ∧ f = lstart t l) ∧ (¬ i ≤ t.length → l = brk t + 1) ∧ Owns w0 wr (Asrt.idx x t :: R))
  case atStart => exact ⟨0, 0, 0, rfl, rfl, rfl, rfl, by omega, by omega, fun _ => ⟨(lineAt_zero t).symm, (lstart_zero t).symm⟩, fun h => absurd (Nat.zero_le _) h, HH.out⟩
  case round =>
    obtain ⟨i, l, f, hgi, rfl, rfl, rfl, hl1, hf1, hin, hout, h1⟩ := hrel
    have H1 := Lib.hid h1
    clear h1
    by_cases hlt : i ≤ s.size
    · obtain ⟨hl, hf⟩ := hin (by have := Hsz.out; omega)
      have hbt : t.length ≤ 1000000 := by have := Hsz.out; omega
      have hat := iat_in H1.out (off := i) (by have := Hsz.out; omega) hbt
      rw [← hl, ← hf] at hat
      have Hat := Lib.hid hat
      have Hl := Lib.hid hl
      have Hf := Lib.hid hf
      have Hbt := Lib.hid hbt
      clear hat hin hout hl hf hbt
      go_wp2_with fail
      refine Hat.out.mono ?_
      rintro e w2 ⟨rfl, h2⟩
      have h3 := (h2.alloc #[.int .i64 l, .int .i64 ((i : Int) - f)] 23).p1
      have hc1 : (i : Int) - f = ((i - f : Nat) : Int) := by omega
      have hlb : l < brk t + 1 := by rw [Hl.out]; have := lineAt_le t i; omega
      -- the place lies in its line
      have hcol : ((i - f : Nat) : Int) ≤ (lnext t l : Int) - 1 - lstart t l := by
        have hfl := Hf.out
        have hnx : i ≤ lnext t l - 1 := by
          by_cases h1 : l = brk t
          · rw [lnext_last h1]; have := Hsz.out; omega
          · rw [lnext_in (by omega)]
            have hg := lstart_get (t := t) (h := l + 1) (by omega)
            have := starts_cmp (off := i) (by have := Hsz.out; omega) hg
            have hll := Hl.out
            omega
        have : 1 ≤ lnext t l := by
          by_cases h1 : l = brk t
          · rw [lnext_last h1]; omega
          · rw [lnext_in (by omega)]
            have hg := lstart_get (t := t) (h := l + 1) (by omega)
            have := starts_cmp (off := i) (by have := Hsz.out; omega) hg
            have hll := Hl.out
            omega
        omega
      have hoff := ioff_in (h := l) (c := i - f) h3 hlb hcol Hbt.out
      rw [← Hf.out, show (f : Int) + ((i - f : Nat) : Int) = (i : Int) by omega, ← hc1] at hoff
      have Hoff := Lib.hid hoff
      have Hc1 := Lib.hid hc1
      have Hlb := Lib.hid hlb
      clear h2 h3 hc1 hcol hoff Hat hlb
      go_wp2_with fail
      refine Hoff.out.mono ?_
      rintro e w3 ⟨rfl, h4⟩
      have p0 : w3.cell? ⟨w2.heap.size, 0, none⟩ = some (.int .i64 l) := h4.p1.cell (j := 0) rfl
      have p1 : w3.cell? ⟨w2.heap.size, 1, none⟩ = some (.int .i64 ((i : Int) - f)) := h4.p1.cell (j := 1) rfl
      have H4 := Lib.hid h4.p1.drop
      clear h4 Hoff
      by_cases hi : i < s.size
      · have hc : t[i]? = some s[i] := by
          rw [Ht.out, List.getElem?_eq_getElem (by have := Hsz.out; rw [Ht.out] at this; omega)]; rfl
        have hla := lineAt_succ hc
        by_cases h10 : s[i] = 10
        · have h10' : ((s[i].toNat : Int) == 10) = true := by rw [h10]; rfl
          have h10'' : ((s[i].toNat : Int) != 10) = false := by rw [h10]; rfl
          rw [h10] at hc
          obtain ⟨hb1, hb2⟩ := at_break hc
          rw [if_pos h10] at hla
          rw [← Hl.out] at hb1 hb2 hla
          have hnx : lnext t l = i + 1 := by rw [lnext_in hb1, hb2]
          have Hla := Lib.hid hla
          have Hb2 := Lib.hid hb2
          clear hc h10 hb1 hb2 hla
          have hst := istart_in (h := l) H4.out Hlb.out
          rw [← Hf.out] at hst
          have hsi := isize_in (h := l) H4.out Hlb.out Hbt.out
          rw [← Hf.out, hnx, show ((i + 1 : Nat) : Int) - 1 - f = (i : Int) - f by omega] at hsi
          have Hst := Lib.hid hst
          have Hsi := Lib.hid hsi
          have Hnx := Lib.hid hnx
          clear hst hsi hnx
          go_wp2_with fail
          refine Hst.out.mono ?_
          rintro e w' ⟨rfl, rfl⟩
          go_wp2_with fail
          refine Hsi.out.mono ?_
          rintro e w' ⟨rfl, rfl⟩
          go_wp2_with fail
          go_roundg (gk - 1)
          case measure => omega
          case rel => exact ⟨i + 1, l + 1, i + 1, by omega, by go_num, by go_num, by go_num, by have := Hlb.out; have := brk_le t; have := Hsz.out; omega, by omega, fun _ => ⟨Hla.out.symm, Hb2.out.symm⟩, fun h => absurd (show i + 1 ≤ t.length by have := Hsz.out; omega) h, H4.out⟩
        · have h10' : ((s[i].toNat : Int) == 10) = false := by
            have : s[i].toNat ≠ 10 := fun h => h10 (UInt8.toNat_inj.1 h)
            simp; omega
          have h10'' : ((s[i].toNat : Int) != 10) = true := by
            have : s[i].toNat ≠ 10 := fun h => h10 (UInt8.toNat_inj.1 h)
            simp; omega
          have h10n : ¬ ((s[i].toNat : Int) = 10) := by
            have : s[i].toNat ≠ 10 := fun h => h10 (UInt8.toNat_inj.1 h)
            omega
          rw [if_neg h10, Nat.add_zero, ← Hl.out] at hla
          have Hla := Lib.hid hla
          clear hc h10 hla
          go_wp2_with fail
          go_roundg (gk - 1)
          case measure => omega
          case rel => exact ⟨i + 1, l, f, by omega, by go_num, rfl, rfl, by omega, by omega, fun _ => ⟨Hla.out.symm, Hf.out⟩, fun h => absurd (show i + 1 ≤ t.length by have := Hsz.out; omega) h, H4.out⟩
      · obtain rfl : i = s.size := by omega
        have hlb2 : l = brk t := by rw [Hl.out, Hsz.out, lineAt_all]
        have hnx : lnext t l = s.size + 1 := by rw [lnext_last hlb2, Hsz.out]
        have Hlb2 := Lib.hid hlb2
        clear hlb2
        have hst := istart_in (h := l) H4.out Hlb.out
        rw [← Hf.out] at hst
        have hsi := isize_in (h := l) H4.out Hlb.out Hbt.out
        rw [← Hf.out, hnx, show ((s.size + 1 : Nat) : Int) - 1 - f = (s.size : Int) - f by omega] at hsi
        have Hst := Lib.hid hst
        have Hsi := Lib.hid hsi
        have Hnx := Lib.hid hnx
        clear hst hsi hnx
        go_wp2_with fail
        refine Hst.out.mono ?_
        rintro e w' ⟨rfl, rfl⟩
        go_wp2_with fail
        refine Hsi.out.mono ?_
        rintro e w' ⟨rfl, rfl⟩
        go_wp2_with fail
        go_roundg (gk - 1)
        case measure => omega
        case rel => exact ⟨s.size + 1, l + 1, s.size + 1, by omega, by go_num, by go_num, by go_num, by have := Hlb2.out; have := brk_le t; have := Hsz.out; omega, by omega, fun h => absurd h (by have := Hsz.out; omega), fun _ => by rw [Hlb2.out], H4.out⟩
    · have hi : i = s.size + 1 := by omega
      subst hi
      have hl := hout (by have := Hsz.out; omega)
      have hbt : t.length ≤ 1000000 := by have := Hsz.out; omega
      have hst := istart_out (i := (l : Int)) H1.out (by omega)
      have hsi := isize_out (i := (-1 : Int)) H1.out (by omega)
      have ha1 := iat_out (off := (s.size : Int) + 1) H1.out (.inr (by have := Hsz.out; omega))
      have Hst := Lib.hid hst
      have Hsi := Lib.hid hsi
      have Ha1 := Lib.hid ha1
      have Hl := Lib.hid hl
      clear hst hsi ha1 hl hin hout hbt
      go_wp2_with fail
      refine Hst.out.mono ?_
      rintro e w' ⟨rfl, rfl⟩
      go_wp2_with fail
      refine Hsi.out.mono ?_
      rintro e w' ⟨rfl, rfl⟩
      go_wp2_with fail
      refine Ha1.out.mono ?_
      rintro e w2 ⟨rfl, h2⟩
      have h3 := h2.alloc0 (.cells #[.int .i64 0, .int .i64 0] 23)
      have Ha2 := Lib.hid (iat_out (off := -1) h3 (.inl (by decide)))
      clear h2 h3 Ha1 Hst Hsi
      go_wp2_with fail
      refine Ha2.out.mono ?_
      rintro e w3 ⟨rfl, h4⟩
      have h5 := h4.alloc0 (.cells #[.int .i64 0, .int .i64 0] 23)
      have hli := ilines h5
      have hle := ilen h5
      rw [show (brk t : Int) + 1 = (l : Int) by rw [Hl.out]; omega] at hli
      rw [← Hsz.out] at hle
      have Hli := Lib.hid hli
      have Hle := Lib.hid hle
      have H5 := Lib.hid h5
      clear h4 h5 hli hle Ha2
      go_wp2_with fail
      refine Hli.out.mono ?_
      rintro e w' ⟨rfl, rfl⟩
      go_wp2_with fail
      refine Hle.out.mono ?_
      rintro e w' ⟨rfl, rfl⟩
      go_wp2_with fail
      go_ret
      exact ⟨rfl, H5.out⟩
end
end Go.Proofs.Ytbddehfcamgfhaa
