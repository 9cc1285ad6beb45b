/- The law ParseEsc on values that read. -/
import Derived.Test.YthcamokblkjkkaaTM
import Derived.Test.YthcamokblkjkkaaTP
namespace Go.Proofs.Ythcamokblkjkkaa
open Go Go.RowKit Go.Fol
attribute [local go_sem ↓] Go.wp_at_zero Go.wp_at_succ
set_option linter.unusedVariables false
set_option linter.unusedSimpArgs false
/-- Both parsers, side by side. -/
def PairA (p q : Nat) (s : PSt) (K : List Int) (v : Bool) : Asrt := Asrt.ex fun kv : Value => Asrt.all [Asrt.pure (Pair s K v), pobj p s, wobj q kv v, bsrc kv K]
section
variable {w0 w : World} {R : List Asrt}
theorem pairE {p q : Nat} {s : PSt} {K : List Int} {v : Bool} (H : Owns w0 w (PairA p q s K v :: R)) : ∃ ka kc, Pair s K v ∧ Owns w0 w (pobj p s :: wobj q (.slice ka K.length kc) v :: bsrc (.slice ka K.length kc) K :: R) := by
  obtain ⟨kv, h⟩ := Owns.exE H
  obtain ⟨hp, h⟩ := (Owns.allE (L := [_, _, _, _]) h).pureE
  obtain ⟨ka, kc, rfl⟩ := (h.ord [2]).src.form
  exact ⟨ka, kc, hp, h⟩
theorem pairI {p q : Nat} {s : PSt} {K : List Int} {v : Bool} {kv : Value} (hp : Pair s K v) (H : Owns w0 w (pobj p s :: wobj q kv v :: bsrc kv K :: R)) : Owns w0 w (PairA p q s K v :: R) :=
  Owns.exI kv (Owns.allI (L := [_, _, _, _]) (H.pureI hp))
end
set_option maxHeartbeats 4000000 in
set_option maxRecDepth 100000 in
theorem parseEsc_walk (w : World) (v0 v1 : Value) (a0 : Arg Try.prog w 22 v0) (a1 : Arg Try.prog w 4 v1) :
    Calls Try.prog 10 #[v0, v1] w fun e w' => e = .returned (.bool true) ∧ Below w.heap.size w w' := by
  obtain ⟨l, hl, hlb, hwf⟩ := arg_kind (kd := .u8) (B := 1) Try.underlying22 Try.underlying5 (by kernel_rfl) (by kernel_rfl) a0
  obtain ⟨v, rfl⟩ := arg_bool Try.underlying4 a1
  obtain ⟨n, hn⟩ : ∃ n, n = l.length := ⟨_, rfl⟩
  rw [← hn] at hl hlb
  obtain ⟨la, lc, rfl⟩ := hl.form
  have hl63 := hl.n63
  have Hl := Lib.hid hl
  have Hn := Lib.hid hn
  have Hwf := Lib.hid hwf
  clear a0 a1 hl hn hwf
  go_enter Try.func10, Try.ntmps10
  go_wp2_with fail
  refine (known_true (Owns.start w)).mono ?_
  rintro e w1 ⟨rfl, h1⟩
  have H1 := Lib.hid h1
  clear h1
  go_wp2_with fail
  all_goals first | (go_ret; exact ⟨rfl, H1.out.below⟩) | skip
  refine (pnew H1.out).mono ?_
  rintro e w2 ⟨p, rfl, h2⟩
  have h3 := pairI (pair_zero false) (((Owns.srcNil (k := 1) (h2.alloc #[.slice none 0 0, .bool false] 31)).ord [2, 1, 0]))
  have H3 := Lib.hid h3
  clear h2 h3 H1
  go_wp2_with fail
  go_loopw [7] (fun q wr => ∃ (i : Nat) (s : PSt) (K : List Int) (vis : Bool), i ≤ n ∧ q = .int .i64 i ∧ K.length ≤ i ∧ (K ≠ [] → vis = v) ∧ Owns w wr [PairA p w2.heap.size s K vis]) (fun q _ => n - (intOf q).toNat)
  case atStart => exact ⟨0, pzero, [], false, Nat.zero_le _, rfl, Nat.le_refl _, fun h => absurd rfl h, H3.out⟩
  case round =>
    obtain ⟨i, s, K, vis, hi, rfl, hKi, hvis, h4⟩ := hrel
    obtain ⟨ka, kc, hP, h5⟩ := pairE h4
    have Hvis := Lib.hid hvis
    have HP := Lib.hid hP
    have H5 := Lib.hid h5
    clear h4 h5 hP hvis H3
    by_cases hlt : i < n
    · obtain ⟨lb, lo, lc', e1, hlc, _, hce⟩ := Hl.out.cells (by omega) (by decide)
      cases e1
      have hx := kints_get .u8 l (i := i) (by have := Hn.out; omega)
      obtain ⟨c, hxe⟩ : ∃ x, x = l[i]?.getD 0 := ⟨_, rfl⟩
      rw [← hxe] at hx
      have cx0 := hce i _ hx
      have hxr : 0 ≤ c ∧ c ≤ 255 := by
        have h := Hwf.out c (by
          rw [hxe]
          have hi : i < l.length := by have := Hn.out; omega
          rw [List.getElem?_eq_getElem hi]
          exact List.getElem_mem hi)
        exact wf_u8 h
      obtain ⟨hc0, hc1⟩ := hxr
      have cx : wr.cell? ⟨lb, lo + i, none⟩ = some (.int .u8 c) := H5.out.chg.cell cx0 (by simp)
      have Cx := Lib.hid cx0
      obtain ⟨r, cm, s', hfe⟩ : ∃ r cm s', feedF s c v = (r, cm, s') := ⟨_, _, _, rfl⟩
      obtain ⟨htr, hP', _⟩ := pair_step HP.out v hc0 hc1 hfe
      have hvv : visOf K vis v = v := by unfold visOf; split; rfl; exact Hvis.out (by assumption)
      have hp := pfeed v hc0 hc1 HP.out.ok H5.out
      rw [hfe] at hp
      have Hp := Lib.hid hp
      have Htr := Lib.hid htr
      have HP' := Lib.hid hP'
      have Hvv := Lib.hid hvv
      have hKl := keysOf_len r K c
      clear hx hce hxe cx0 hfe htr hP' hp hvv H5
      go_wp2_with fail
      refine Hp.out.mono ?_
      rintro e w4 ⟨rfl, h6⟩
      have hw := twfeed (p := w2.heap.size) (ka := ka) (kc := kc) (K := K) (vis := vis) (c := c) (w := w4) (w0 := w) (R := [pobj p s']) v hc0 hc1 HP.out.by_ (by omega) (h6.ord [1, 1]) (vis2 := visOf K vis v) (K2 := keysOf r K c) (r := r) (cm := cm) rfl Htr.out rfl
      have Hw := Lib.hid hw
      have cx : w4.cell? ⟨lb, lo + i, none⟩ = some (.int .u8 c) := h6.chg.cell Cx.out (by simp)
      clear h6 hw Hp
      go_wp2_with fail
      refine Hw.out.mono ?_
      rintro e w5 ⟨rfl, kv, h7⟩
      have H7 := Lib.hid (pairI HP'.out (h7.ord [2, 0, 0]))
      clear h7 Hw cx
      go_wp2_with fail
      go_roundw
      case rel => exact ⟨i + 1, s', keysOf r K c, visOf K vis v, by omega, by go_num, by omega, fun _ => Hvv.out, H7.out⟩
      case measure => simp [intOf]; omega
    · obtain rfl : i = n := by omega
      have hop := popen H5.out
      have kq : wr.cell? ⟨w2.heap.size, 0, none⟩ = some (.slice ka K.length kc) := (H5.out.ord [1]).cell (j := 0) rfl
      have hopn := HP.out.opn
      by_cases hK : K = []
      · subst hK
        have hs : s = pzero := by have := HP.out.run; simpa [runs] using this.symm
        subst hs
        have hop' : Calls Try.prog 16 #[.pointer (some ⟨p, 0, none⟩)] wr fun e w' => e = .returned (.bool false) ∧ wr = w' := hop
        have kq' : wr.cell? ⟨w2.heap.size, 0, none⟩ = some (.slice ka 0 kc) := kq
        have Hop := Lib.hid hop'
        have hes := pfeed v (c := 27) (by decide) (by decide) ok_zero H5.out
        rw [feed_esc_zero] at hes
        clear hop hop' hopn kq
        cases v with
        | true =>
          have Hes := Lib.hid (show Calls Try.prog 14 #[.pointer (some ⟨p, 0, none⟩), .int .u8 27, .bool true] wr (Ret (.tuple #[.int .i64 1, .agg (⟨0, 0, ⟨#[]⟩, ⟨#[101, 115, 99]⟩, 0, ⟨#[]⟩⟩ : Cm).cells]) w (pobj p pzero :: _)) from hes)
          clear hes
          go_wp2_with (go_at_call 16; refine Hop.out.mono ?_; rintro e w' ⟨rfl, rfl⟩)
          refine Hes.out.mono ?_
          rintro e w6 ⟨rfl, h8⟩
          have h9 := h8.alloc ((⟨0, 0, ⟨#[]⟩, ⟨#[101, 115, 99]⟩, 0, ⟨#[]⟩⟩ : Cm)).cells 33
          have hop2 := popen h9.p1
          obtain ⟨x0, x1, x2, x3, x4, x5⟩ := ccells h9
          have heq := fun w => eqin_cmd (⟨0, 0, ⟨#[]⟩, ⟨#[101, 115, 99]⟩, 0, ⟨#[]⟩⟩ : Cm) w
          have Hop2 := Lib.hid hop2
          have H9 := Lib.hid h9
          clear h8 h9 hop2 Hes
          go_wp2_with (go_at_call 16; refine Hop2.out.mono ?_; rintro e w' ⟨rfl, rfl⟩)
          go_ret
          exact ⟨rfl, H9.out.below⟩
        | false =>
          have Hes := Lib.hid (show Calls Try.prog 14 #[.pointer (some ⟨p, 0, none⟩), .int .u8 27, .bool false] wr (Ret (.tuple #[.int .i64 2, .agg (⟨0, 0, ⟨#[]⟩, ⟨#[]⟩, 0, ⟨#[]⟩⟩ : Cm).cells]) w (pobj p pzero :: _)) from hes)
          clear hes
          go_wp2_with (go_at_call 16; refine Hop.out.mono ?_; rintro e w' ⟨rfl, rfl⟩)
          refine Hes.out.mono ?_
          rintro e w6 ⟨rfl, h8⟩
          have h9 := h8.alloc (⟨0, 0, ⟨#[]⟩, ⟨#[]⟩, 0, ⟨#[]⟩⟩ : Cm).cells 33
          have hop2 := popen h9.p1
          obtain ⟨x0, x1, x2, x3, x4, x5⟩ := ccells h9
          have heq := fun w => eqin_cmd (⟨0, 0, ⟨#[]⟩, ⟨#[]⟩, 0, ⟨#[]⟩⟩ : Cm) w
          have Hop2 := Lib.hid hop2
          have H9 := Lib.hid h9
          clear h8 h9 hop2 Hes
          go_wp2_with (go_at_call 16; refine Hop2.out.mono ?_; rintro e w' ⟨rfl, rfl⟩)
          go_ret
          exact ⟨rfl, H9.out.below⟩
      · obtain ⟨m, hm⟩ : ∃ m, K.length = m + 1 := ⟨K.length - 1, by have : K.length ≠ 0 := fun h => hK (List.eq_nil_of_length_eq_zero h); omega⟩
        have ho : s.opn = true := by rw [hopn]; cases K with | nil => exact absurd rfl hK | cons _ _ => rfl
        rw [ho] at hop
        rw [hm] at kq
        have Hop := Lib.hid hop
        have hes := pfeed v (c := 27) (by decide) (by decide) HP.out.ok H5.out
        rw [feed_esc_open ho] at hes
        have Hes := Lib.hid (show Calls Try.prog 14 #[.pointer (some ⟨p, 0, none⟩), .int .u8 27, .bool v] wr (Ret (.tuple #[.int .i64 2, .agg (⟨0, 0, ⟨#[]⟩, ⟨#[]⟩, 0, ⟨#[]⟩⟩ : Cm).cells]) w (pobj p pzero :: _)) from hes)
        clear hop hopn hes ho hm hK hKi
        cases v
        all_goals
          go_wp2_with (go_at_call 16; refine Hop.out.mono ?_; rintro e w' ⟨rfl, rfl⟩)
          refine Hes.out.mono ?_
          rintro e w6 ⟨rfl, h8⟩
          have h9 := h8.alloc (⟨0, 0, ⟨#[]⟩, ⟨#[]⟩, 0, ⟨#[]⟩⟩ : Cm).cells 33
          have hop2 := popen h9.p1
          obtain ⟨x0, x1, x2, x3, x4, x5⟩ := ccells h9
          have heq := fun w => eqin_cmd (⟨0, 0, ⟨#[]⟩, ⟨#[]⟩, 0, ⟨#[]⟩⟩ : Cm) w
          have Hop2 := Lib.hid hop2
          have H9 := Lib.hid h9
          clear h8 h9 hop2 Hes
          go_wp2_with (go_at_call 16; refine Hop2.out.mono ?_; rintro e w' ⟨rfl, rfl⟩)
          go_ret
          exact ⟨rfl, H9.out.below⟩

end Go.Proofs.Ythcamokblkjkkaa
