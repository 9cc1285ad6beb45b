/- The law ParsePlays on values that read. -/
import Derived.Test.YthcamokblkjkkaaWreset
import Derived.Test.YthcamokblkjkkaaWesc
namespace Go.Proofs.Ythcamokblkjkkaa
open Go Go.RowKit Go.Fol
attribute [local go_sem ↓] Go.wp_at_zero Go.wp_at_succ
set_option linter.unusedVariables false
set_option linter.unusedSimpArgs false
/-- A row of Bools that lies in old memory. -/
def BoolsAt (w : World) (a : Option Addr) (n : Nat) : Prop := 0 < n → ∃ b o, a = some ⟨b, o, none⟩ ∧ ∀ i, i < n → ∃ v, w.cell? ⟨b, o + i, none⟩ = some (.bool v)
theorem arg_bools {w : World} {v : Value} (a : Arg Try.prog w 24 v) : ∃ (ba : Option Addr) (n c : Nat), v = .slice ba n c ∧ n ≤ c ∧ n ≤ 9223372036854775807 ∧ BoolsAt w ba n := by
  obtain ⟨ba, n, c, rfl, _, hc, hcm, _, hrow⟩ := arg_slice (k := 1) Try.underlying24 (by kernel_rfl) (by decide) a
  refine ⟨ba, n, c, rfl, hc, by unfold maxLen at hcm; omega, fun hn => ?_⟩
  obtain ⟨b, o, rfl, _, hel⟩ := hrow hn
  refine ⟨b, o, rfl, fun i hi => ?_⟩
  obtain ⟨es, hes, hrd, hce⟩ := hel i hi
  obtain ⟨x, rfl⟩ := rd_bool Try.underlying4 hrd
  exact ⟨x, by simpa using hce 0 _ rfl⟩
set_option maxHeartbeats 8000000 in
set_option maxRecDepth 100000 in
theorem parsePlays_walk (w : World) (v0 v1 v2 : Value) (a0 : Arg Try.prog w 22 v0) (a1 : Arg Try.prog w 23 v1) (a2 : Arg Try.prog w 24 v2) :
    Calls Try.prog 3 #[v0, v1, v2] w fun e w' => e = .returned (.bool true) ∧ Below w.heap.size w w' := by
  obtain ⟨raw, hr, hrb, hrw⟩ := arg_kind (kd := .u8) (B := 1) Try.underlying22 Try.underlying5 (by kernel_rfl) (by kernel_rfl) a0
  obtain ⟨l, hl, hlb, hwf⟩ := arg_kind (kd := .u16) (B := 2) Try.underlying23 Try.underlying40 (by kernel_rfl) (by kernel_rfl) a1
  obtain ⟨va, vn, vc, rfl, hvc, hv63, hvb⟩ := arg_bools a2
  obtain ⟨n, hn⟩ : ∃ n, n = l.length := ⟨_, rfl⟩
  obtain ⟨m, hm⟩ : ∃ m, m = raw.length := ⟨_, rfl⟩
  rw [← hn] at hl hlb
  rw [← hm] at hr hrb
  obtain ⟨la, lc, rfl⟩ := hl.form
  obtain ⟨ra, rc, rfl⟩ := hr.form
  have hl63 := hl.n63
  have hr63 := hr.n63
  have HL : Hid (∀ R', Reads w R' 1 (.slice la n lc) n (kints .u16 l)) := Lib.hid (fun R' => Reads.old hl)
  have HR : Hid (∀ R', Reads w R' 1 (.slice ra m rc) m (kints .u8 raw)) := Lib.hid (fun R' => Reads.old hr)
  have Hn := Lib.hid hn
  have Hm := Lib.hid hm
  have Hwf := Lib.hid hwf
  have Hrw := Lib.hid hrw
  have Hvb := Lib.hid hvb
  clear a0 a1 a2 hl hr hn hm hwf hrw hvb hlb hrb
  go_enter Try.func3, Try.ntmps3
  go_wp2_with fail
  refine (known_true (Owns.start w)).mono ?_
  rintro e w1 ⟨rfl, h1⟩
  have H1 := Lib.hid h1
  clear h1
  by_cases hm60 : m ≤ 60
  rotate_left
  · go_wp2_with fail
    go_ret
    exact ⟨rfl, H1.out.below⟩
  by_cases hn20 : n ≤ 20
  rotate_left
  · go_wp2_with fail
    go_ret
    exact ⟨rfl, H1.out.below⟩
  by_cases hv60 : vn ≤ 60
  rotate_left
  · go_wp2_with fail
    go_ret
    exact ⟨rfl, H1.out.below⟩
  go_wp2_with fail
  refine (wmix Hn.out hn20 (fun x hx => wf_u16 (Hwf.out x hx)) Hm.out hm60 (fun x hx => wf_u8 (Hrw.out x hx)) H1.out HL.out HR.out).mono ?_
  rintro e w2 ⟨K, kv, hb, hKl, rfl, h2⟩
  have H2 := Lib.hid h2
  have Hb := Lib.hid hb
  clear h2 hb H1
  go_wp2_with fail
  refine (pnew H2.out).mono ?_
  rintro e w3 ⟨p, rfl, h3⟩
  have h4 := pairI (pair_zero false) (((Owns.srcNil (k := 1) (h3.alloc #[.slice none 0 0, .bool false] 31)).ord [2, 1, 0]))
  obtain ⟨q, hq⟩ : ∃ q, q = w3.heap.size := ⟨_, rfl⟩
  rw [← hq] at h4
  obtain ⟨t, ht⟩ : ∃ t, t = K.length := ⟨_, rfl⟩
  obtain ⟨ka, kc, rfl⟩ := row_slice (h4.ord [1]).row
  have H4 := Lib.hid h4
  have Ht := Lib.hid ht
  have Hq := Lib.hid hq
  rw [← ht] at hKl ⊢
  clear h3 h4 ht hq H2
  go_wp2_with fail
  rw [← Hq.out]
  go_loopw [10] (fun qv wr => ∃ (i : Nat) (s : PSt) (P : List Int) (vis : Bool), i ≤ t ∧ qv = .int .i64 i ∧ P.length ≤ i ∧ Owns w wr [PairA p q s P vis, row_byte (.slice ka K.length kc) K.length (kints .u8 K)]) (fun qv _ => t - (intOf qv).toNat)
  case atStart => exact ⟨0, pzero, [], false, Nat.zero_le _, rfl, Nat.le_refl _, H4.out⟩
  case round =>
    obtain ⟨i, s, P, vis, hi, rfl, hPl, h5⟩ := hrel
    obtain ⟨pa, pc, hP, h6⟩ := pairE h5
    have HP := Lib.hid hP
    have H6 := Lib.hid h6
    clear h5 h6 hP H4
    by_cases hlt : i < t
    · obtain ⟨kb, kc', c, e1, hkc, hc0, hc1, hcell⟩ := key_at Hb.out (H6.out.ord [3]) (by rw [← Ht.out]; exact hlt)
      cases e1
      rw [← Ht.out] at hkc
      have Hc := Lib.hid hcell
      go_upto_region 10 with (fail)
      go_cut [11] from 37 to 91 (fun vv wx => ∃ v : Bool, vv = .bool v ∧ wx = wr)
      case first =>
        by_cases hiv : i < vn
        · obtain ⟨vb, vo, rfl, hvc2⟩ := Hvb.out (by omega)
          obtain ⟨v, hv⟩ := hvc2 i hiv
          have hv2 := H6.out.chg.cell hv (by simp)
          clear hvc2 hv
          go_wp2_with fail
          go_meet
          exact ⟨v, rfl, rfl⟩
        · go_wp2_with fail
          go_meet
          exact ⟨false, rfl, rfl⟩
      case rest =>
      obtain ⟨v, rfl, rfl⟩ := hcut
      obtain ⟨r, cm, s', hfe⟩ : ∃ r cm s', feedF s c v = (r, cm, s') := ⟨_, _, _, rfl⟩
      obtain ⟨htr, hP', _⟩ := pair_step HP.out v hc0 hc1 hfe
      have hp := pfeed v hc0 hc1 HP.out.ok H6.out
      rw [hfe] at hp
      have hKl2 := keysOf_len r P c
      have Hp := Lib.hid hp
      have Htr := Lib.hid htr
      obtain ⟨P2, hP2⟩ : ∃ P2, P2 = keysOf r P c := ⟨_, rfl⟩
      rw [← hP2] at hP' hKl2
      have HP' := Lib.hid hP'
      have HP2 := Lib.hid hP2
      clear hfe htr hP' hp hP2
      go_wp2_with fail
      refine Hp.out.mono ?_
      rintro e w5 ⟨rfl, h7⟩
      have h8 := h7.alloc cm.cells 33
      have hcell2 := key_cell (h8.ord [4]) Ht.out hlt (H6.out.ord [3]) Hc.out
      have hw := twfeed (p := q) (ka := pa) (kc := pc) (K := P) (vis := vis) (c := c) v hc0 hc1 HP.out.by_ (by omega) (h8.ord [2, 2]) (vis2 := visOf P vis v) (K2 := P2) (r := r) (cm := cm) rfl Htr.out HP2.out
      have Hw := Lib.hid hw
      clear h7 h8 hw Hp hcell
      go_wp2_with fail
      by_cases hPe : P2 = []
      · have hopn : s'.opn = false := by have := HP'.out.opn; rw [hPe] at this; exact this
        refine Hw.out.mono ?_
        rintro e w6 ⟨rfl, kv2, h9⟩
        have h10 := h9.alloc cm.cells 33
        obtain ⟨a2, c2, rfl⟩ := (h10.ord [2]).src.form
        obtain ⟨x0, x1, x2, x3, x4, x5⟩ := ccells h10
        obtain ⟨y0, y1, y2, y3, y4, y5⟩ := ccells (h10.ord [3])
        have heq := fun w => eqin_cmd cm w
        have kq : (w6.alloc (.cells cm.cells 33)).cell? ⟨q, 0, none⟩ = some (.slice a2 P2.length c2) := (h10.ord [1]).cell (j := 0) rfl
        have hop := fun z : Nat => popen ((h10.drewN z).ord [4])
        rw [hopn] at hop
        have Hop := Lib.hid hop
        have H10 := Lib.hid (Owns.left (R := [_, _]) (R' := [_, _]) (pairI HP'.out (h10.ord [4, 1, 1, 2])))
        clear h9 h10 hop Hw
        subst hPe
        have kq' : (w6.alloc (.cells cm.cells 33)).cell? ⟨q, 0, none⟩ = some (.slice a2 0 c2) := kq
        clear kq hopn hcell2
        go_upto_region 13 with (fail)
        go_quiet ((go_at_call 16; exact Calls.quiet_of_same ((Hop.out _).mono (fun e w' h => ⟨h.1, h.2.symm⟩))))
        go_wp2_with fail
        go_roundw
        case rel => exact ⟨i + 1, s', _, _, by omega, by go_num, by simp, H10.out.drewN _⟩
        case measure => simp [intOf]; omega
      · obtain ⟨mm, hmm⟩ : ∃ mm, P2.length = mm + 1 := ⟨P2.length - 1, by have : P2.length ≠ 0 := fun h => hPe (List.eq_nil_of_length_eq_zero h); omega⟩
        have hopn : s'.opn = true := by have := HP'.out.opn; rw [this]; cases P2 with | nil => exact absurd rfl hPe | cons _ _ => rfl
        refine Hw.out.mono ?_
        rintro e w6 ⟨rfl, kv2, h9⟩
        have h10 := h9.alloc cm.cells 33
        obtain ⟨a2, c2, rfl⟩ := (h10.ord [2]).src.form
        obtain ⟨x0, x1, x2, x3, x4, x5⟩ := ccells h10
        obtain ⟨y0, y1, y2, y3, y4, y5⟩ := ccells (h10.ord [3])
        have heq := fun w => eqin_cmd cm w
        have kq : (w6.alloc (.cells cm.cells 33)).cell? ⟨q, 0, none⟩ = some (.slice a2 P2.length c2) := (h10.ord [1]).cell (j := 0) rfl
        have hop := fun z : Nat => popen ((h10.drewN z).ord [4])
        rw [hopn] at hop
        have Hop := Lib.hid hop
        have H10 := Lib.hid (Owns.left (R := [_, _]) (R' := [_, _]) (pairI HP'.out (h10.ord [4, 1, 1, 2])))
        clear h9 h10 hop Hw
        rw [hmm] at kq
        have hmm2 : mm + 1 ≤ i + 1 := by omega
        have Hmm := Lib.hid hmm
        clear hopn hcell2 hPe hmm
        go_upto_region 13 with (fail)
        go_quiet ((go_at_call 16; exact Calls.quiet_of_same ((Hop.out _).mono (fun e w' h => ⟨h.1, h.2.symm⟩))))
        go_wp2_with fail
        go_roundw
        case rel => exact ⟨i + 1, s', _, _, by omega, by go_num, by have := Hmm.out; omega, H10.out.drewN _⟩
        case measure => simp [intOf]; omega
    · obtain rfl : i = t := by omega
      go_wp2_with fail
      go_ret
      exact ⟨rfl, H6.out.below⟩
end Go.Proofs.Ythcamokblkjkkaa
