/- The law ParseResets on values that read. -/
import Derived.Test.YthcamokblkjkkaaQM
import Derived.Test.YthcamokblkjkkaaPN
import Derived.Test.YthcamokblkjkkaaPQ
import Derived.Test.YthcamokblkjkkaaPU
import Derived.Test.YthcamokblkjkkaaRead
import Derived.Test.YthcamokblkjkkaaRow
namespace Go.Proofs.Ythcamokblkjkkaa
open Go Go.RowKit Go.Fol
attribute [local go_sem ↓] Go.wp_at_zero Go.wp_at_succ
set_option linter.unusedVariables false
set_option linter.unusedSimpArgs false
theorem wf_u16 {x : Int} (h : (Lit.int .u16 x).wf = true) : 0 ≤ x ∧ x ≤ 65535 := by simpa [Lit.wf, IntKind.min, IntKind.max, IntKind.signed, IntKind.bits] using h
/-- Byte i of keys that lie beside. -/
theorem key_at {w0 w : World} {R : List Asrt} {v : Value} {K : List Int} {i : Nat} (hb : bytesN K) (H : Owns w0 w (row_byte v K.length (kints .u8 K) :: R)) (hi : i < K.length) : ∃ (b c : Nat) (x : Int), v = .slice (some ⟨b, 0, none⟩) K.length c ∧ K.length ≤ c ∧ 0 ≤ x ∧ x ≤ 255 ∧ w.cell? ⟨b, i, none⟩ = some (.int .u8 x) := by
  obtain ⟨b, c, e, hc, _, hce, _⟩ := H.rowAt (by omega)
  have h := kints_get .u8 K hi
  rw [List.getElem?_eq_getElem hi] at h
  obtain ⟨h0, h1⟩ := hb K[i] (List.getElem_mem hi)
  exact ⟨b, c, K[i], e, hc, h0, h1, hce i _ h⟩
/-- .. the same byte later on. -/
theorem key_cell {w0 w w2 : World} {R R2 : List Asrt} {b c n i : Nat} {K : List Int} {x : Int} (H2 : Owns w0 w2 (row_byte (.slice (some ⟨b, 0, none⟩) K.length c) K.length (kints .u8 K) :: R2)) (hn : n = K.length) (hi : i < n) (H : Owns w0 w (row_byte (.slice (some ⟨b, 0, none⟩) K.length c) K.length (kints .u8 K) :: R)) (hc : w.cell? ⟨b, i, none⟩ = some (.int .u8 x)) : w2.cell? ⟨b, i, none⟩ = some (.int .u8 x) := by
  subst hn
  obtain ⟨b1, c1, e1, _, _, h1, _⟩ := H.rowAt (by omega)
  obtain ⟨b2, c2, e2, _, _, h2, _⟩ := H2.rowAt (by omega)
  cases e1
  cases e2
  have h := kints_get .u8 K hi
  have e := h1 i _ h
  rw [hc] at e
  cases e
  exact h2 i _ h
set_option maxHeartbeats 8000000 in
set_option maxRecDepth 100000 in
theorem parseResets_walk (w : World) (v0 v1 v2 : Value) (a0 : Arg Try.prog w 23 v0) (a1 : Arg Try.prog w 5 v1) (a2 : Arg Try.prog w 40 v2) :
    Calls Try.prog 5 #[v0, v1, v2] w fun e w' => e = .returned (.bool true) ∧ Below w.heap.size w w' := by
  obtain ⟨l, hl, hlb, hwf⟩ := arg_kind (kd := .u16) (B := 2) Try.underlying23 Try.underlying40 (by kernel_rfl) (by kernel_rfl) a0
  obtain ⟨at_, rfl, hat⟩ := arg_int Try.underlying5 a1
  obtain ⟨nn, rfl, hnn⟩ := arg_int Try.underlying40 a2
  obtain ⟨hat0, hat1⟩ := wf_u8 hat
  obtain ⟨hnn0, hnn1⟩ := wf_u16 hnn
  obtain ⟨tn, rfl⟩ : ∃ tn : Nat, nn = tn := ⟨nn.toNat, by omega⟩
  obtain ⟨n, hn⟩ : ∃ n, n = l.length := ⟨_, rfl⟩
  rw [← hn] at hl hlb
  obtain ⟨la, lc, rfl⟩ := hl.form
  have hl63 := hl.n63
  have htn : tn ≤ 65535 := by omega
  have HL : Hid (∀ R', Reads w R' 1 (.slice la n lc) n (kints .u16 l)) := Lib.hid (fun R' => Reads.old hl)
  have Hn := Lib.hid hn
  have Hwf := Lib.hid hwf
  clear a0 a1 a2 hl hn hwf hat hnn
  go_enter Try.func5, Try.ntmps5
  go_wp2_with fail
  refine (known_true (Owns.start w)).mono ?_
  rintro e w1 ⟨rfl, h1⟩
  have H1 := Lib.hid h1
  clear h1
  by_cases hn10 : n ≤ 10
  rotate_left
  · go_wp2_with fail
    go_ret
    exact ⟨rfl, H1.out.below⟩
  go_wp2_with fail
  refine (wscript Hn.out (by omega) (fun x hx => wf_u16 (Hwf.out x hx)) H1.out HL.out).mono ?_
  rintro e w2 ⟨K, kv, hb, hKl, rfl, h2⟩
  have H2 := Lib.hid h2
  have Hb := Lib.hid hb
  clear h2 hb H1 hlb
  go_wp2_with fail
  refine (pnew H2.out).mono ?_
  rintro e w3 ⟨p, rfl, h3⟩
  have H3 := Lib.hid h3
  clear h3 H2
  go_wp2_with fail
  refine (pnew H3.out).mono ?_
  rintro e w4 ⟨q, rfl, h4⟩
  obtain ⟨m, hm⟩ : ∃ m, m = K.length := ⟨_, rfl⟩
  obtain ⟨ka, kc, rfl⟩ := row_slice (h4.ord [2]).row
  have H4 := Lib.hid (h4.ord [1, 0])
  have Hm := Lib.hid hm
  rw [← hm] at hKl ⊢
  clear h4 H3 hm
  go_wp2_with fail
  go_loopw [10] (fun qv wr => ∃ (i : Nat) (s : PSt), i ≤ m ∧ qv = .int .i64 i ∧ s.ok ∧ Owns w wr [pobj p s, pobj q pzero, row_byte (.slice ka K.length kc) K.length (kints .u8 K)]) (fun qv _ => m - (intOf qv).toNat)
  case atStart => exact ⟨0, pzero, Nat.zero_le _, rfl, ok_zero, H4.out⟩
  case round =>
    obtain ⟨i, s, hi, rfl, hs, h5⟩ := hrel
    have H5 := Lib.hid h5
    have Hs := Lib.hid hs
    clear h5 hs H4
    by_cases hlt : i < m ∧ (i : Int) < at_
    · obtain ⟨hlt1, hlt2⟩ := hlt
      obtain ⟨kb, kc', c, e1, hkc, hc0, hc1, hcell⟩ := key_at Hb.out (H5.out.ord [2]) (by rw [← Hm.out]; exact hlt1)
      cases e1
      rw [← Hm.out] at hkc
      have hp := pfeed false hc0 hc1 Hs.out H5.out
      obtain ⟨r, cm, s', hfe⟩ : ∃ r cm s', feedF s c false = (r, cm, s') := ⟨_, _, _, rfl⟩
      have hok : s'.ok := by have := ok_feed (c := c) (v := false) Hs.out; rw [hfe] at this; exact this
      rw [hfe] at hp
      have Hp := Lib.hid hp
      have Hok := Lib.hid hok
      clear hp hfe hok
      go_wp2_with fail
      refine Hp.out.mono ?_
      rintro e w5 ⟨rfl, h6⟩
      have H6 := Lib.hid h6
      clear h6 Hp
      go_wp2_with fail
      go_roundw
      case rel => exact ⟨i + 1, s', by omega, by go_num, Hok.out, H6.out⟩
      case measure => simp [intOf]; omega
    · by_cases hlt1 : i < m
      · have hlt2 : ¬ (i : Int) < at_ := fun h => hlt ⟨hlt1, h⟩
        clear hlt
        go_wp2_with fail
        refine (preset H5.out).mono ?_
        rintro e w5 ⟨rfl, h6⟩
        have hop : Calls Try.prog 16 #[.pointer (some ⟨p, 0, none⟩)] w5 fun e w' => e = .returned (.bool false) ∧ w5 = w' := popen h6
        have Hop := Lib.hid hop
        have H6 := Lib.hid h6
        clear h6 hop H5
        go_wp2_with fail
        refine Hop.out.mono ?_
        rintro e w6 ⟨rfl, rfl⟩
        go_wp2_with fail
        refine (wtoken htn H6.out).mono ?_
        rintro e w6 ⟨T, tv, hT, hTl, rfl, h7⟩
        obtain ⟨ta, tc, rfl⟩ := row_slice h7.row
        obtain ⟨tl, htl⟩ : ∃ tl, tl = T.length := ⟨_, rfl⟩
        have H7 := Lib.hid (Owns.left (R := [_, _, _]) (R' := [_]) (h7.ord [1, 1]))
        have HT := Lib.hid hT
        have Htl := Lib.hid htl
        rw [← htl] at hTl ⊢
        clear h7 hT htl H6
        go_wp2_with fail
        go_loopw [12] (fun qv wr => ∃ (j : Nat) (s : PSt), j ≤ tl ∧ qv = .int .i64 j ∧ s.ok ∧ Owns w wr [pobj p s, pobj q s, row_byte (.slice ta T.length tc) T.length (kints .u8 T)]) (fun qv _ => tl - (intOf qv).toNat)
        case atStart => exact ⟨0, pzero, Nat.zero_le _, rfl, ok_zero, H7.out⟩
        case round =>
          obtain ⟨j, s2, hj, rfl, hs2, h8⟩ := hrel
          have H8 := Lib.hid h8
          have Hs2 := Lib.hid hs2
          clear h8 hs2 H7
          by_cases hlt2 : j < tl
          · obtain ⟨tb, tc', c, e1, htc, hc0, hc1, hcell⟩ := key_at HT.out (H8.out.ord [2]) (by rw [← Htl.out]; exact hlt2)
            cases e1
            rw [← Htl.out] at htc
            have hp := pfeed false hc0 hc1 Hs2.out H8.out
            obtain ⟨r, cm, s', hfe⟩ : ∃ r cm s', feedF s2 c false = (r, cm, s') := ⟨_, _, _, rfl⟩
            have hok : s'.ok := by have := ok_feed (c := c) (v := false) Hs2.out; rw [hfe] at this; exact this
            rw [hfe] at hp
            have Hp := Lib.hid hp
            have Hok := Lib.hid hok
            have Hfe := Lib.hid hfe
            have Hc := Lib.hid hcell
            clear hp hfe hok
            go_wp2_with fail
            refine Hp.out.mono ?_
            rintro e w7 ⟨rfl, h9⟩
            have h10 := h9.alloc cm.cells 33
            have hcell := key_cell (h10.ord [3]) Htl.out hlt2 (H8.out.ord [2]) Hc.out
            have hp := pfeed false hc0 hc1 Hs2.out (h10.ord [2])
            rw [Hfe.out] at hp
            have Hp2 := Lib.hid hp
            clear h9 h10 hp Hp Hc
            go_wp2_with fail
            refine Hp2.out.mono ?_
            rintro e w8 ⟨rfl, h11⟩
            have h12 := h11.alloc cm.cells 33
            obtain ⟨x0, x1, x2, x3, x4, x5⟩ := ccells h12
            obtain ⟨y0, y1, y2, y3, y4, y5⟩ := ccells h12.p2
            have heq := fun w => eqin_cmd cm w
            have H12 := Lib.hid (Owns.left (R := [_, _, _]) (R' := [_, _]) (h12.ord [3, 1, 2]))
            clear h11 h12 Hp2 hcell
            go_wp2_with fail
            go_roundw
            case rel => exact ⟨j + 1, s', by omega, by go_num, Hok.out, H12.out⟩
            case measure => simp [intOf]; omega
          · obtain rfl : j = tl := by omega
            go_wp2_with fail
            go_ret
            exact ⟨rfl, H8.out.below⟩
      · clear hlt
        go_wp2_with fail
        refine (preset H5.out).mono ?_
        rintro e w5 ⟨rfl, h6⟩
        have hop : Calls Try.prog 16 #[.pointer (some ⟨p, 0, none⟩)] w5 fun e w' => e = .returned (.bool false) ∧ w5 = w' := popen h6
        have Hop := Lib.hid hop
        have H6 := Lib.hid h6
        clear h6 hop H5
        go_wp2_with fail
        refine Hop.out.mono ?_
        rintro e w6 ⟨rfl, rfl⟩
        go_wp2_with fail
        refine (wtoken htn H6.out).mono ?_
        rintro e w6 ⟨T, tv, hT, hTl, rfl, h7⟩
        obtain ⟨ta, tc, rfl⟩ := row_slice h7.row
        obtain ⟨tl, htl⟩ : ∃ tl, tl = T.length := ⟨_, rfl⟩
        have H7 := Lib.hid (Owns.left (R := [_, _, _]) (R' := [_]) (h7.ord [1, 1]))
        have HT := Lib.hid hT
        have Htl := Lib.hid htl
        rw [← htl] at hTl ⊢
        clear h7 hT htl H6
        go_wp2_with fail
        go_loopw [12] (fun qv wr => ∃ (j : Nat) (s : PSt), j ≤ tl ∧ qv = .int .i64 j ∧ s.ok ∧ Owns w wr [pobj p s, pobj q s, row_byte (.slice ta T.length tc) T.length (kints .u8 T)]) (fun qv _ => tl - (intOf qv).toNat)
        case atStart => exact ⟨0, pzero, Nat.zero_le _, rfl, ok_zero, H7.out⟩
        case round =>
          obtain ⟨j, s2, hj, rfl, hs2, h8⟩ := hrel
          have H8 := Lib.hid h8
          have Hs2 := Lib.hid hs2
          clear h8 hs2 H7
          by_cases hlt2 : j < tl
          · obtain ⟨tb, tc', c, e1, htc, hc0, hc1, hcell⟩ := key_at HT.out (H8.out.ord [2]) (by rw [← Htl.out]; exact hlt2)
            cases e1
            rw [← Htl.out] at htc
            have hp := pfeed false hc0 hc1 Hs2.out H8.out
            obtain ⟨r, cm, s', hfe⟩ : ∃ r cm s', feedF s2 c false = (r, cm, s') := ⟨_, _, _, rfl⟩
            have hok : s'.ok := by have := ok_feed (c := c) (v := false) Hs2.out; rw [hfe] at this; exact this
            rw [hfe] at hp
            have Hp := Lib.hid hp
            have Hok := Lib.hid hok
            have Hfe := Lib.hid hfe
            have Hc := Lib.hid hcell
            clear hp hfe hok
            go_wp2_with fail
            refine Hp.out.mono ?_
            rintro e w7 ⟨rfl, h9⟩
            have h10 := h9.alloc cm.cells 33
            have hcell := key_cell (h10.ord [3]) Htl.out hlt2 (H8.out.ord [2]) Hc.out
            have hp := pfeed false hc0 hc1 Hs2.out (h10.ord [2])
            rw [Hfe.out] at hp
            have Hp2 := Lib.hid hp
            clear h9 h10 hp Hp Hc
            go_wp2_with fail
            refine Hp2.out.mono ?_
            rintro e w8 ⟨rfl, h11⟩
            have h12 := h11.alloc cm.cells 33
            obtain ⟨x0, x1, x2, x3, x4, x5⟩ := ccells h12
            obtain ⟨y0, y1, y2, y3, y4, y5⟩ := ccells h12.p2
            have heq := fun w => eqin_cmd cm w
            have H12 := Lib.hid (Owns.left (R := [_, _, _]) (R' := [_, _]) (h12.ord [3, 1, 2]))
            clear h11 h12 Hp2 hcell
            go_wp2_with fail
            go_roundw
            case rel => exact ⟨j + 1, s', by omega, by go_num, Hok.out, H12.out⟩
            case measure => simp [intOf]; omega
          · obtain rfl : j = tl := by omega
            go_wp2_with fail
            go_ret
            exact ⟨rfl, H8.out.below⟩
end Go.Proofs.Ythcamokblkjkkaa
