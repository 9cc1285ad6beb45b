/- Piece tables: Insert. -/
import Derived.Test.YtcdoomlagmddcaaGreatDoorCJ
namespace Go.Proofs.YtcdoomlagmddcaaGreatDoor
open Go Go.RowKit Go.Fol
attribute [local go_sem ↓] Go.wp_at_zero Go.wp_at_succ
set_option linter.unusedVariables false
set_option linter.unusedSimpArgs false
set_option maxRecDepth 100000
section
variable {w0 w : World} {R : List Asrt}
/-- Insert refuses a place. -/
theorem cins_place {p : Nat} {T : Tb} {s : List UInt8} (off : Int) (H : Owns w0 w (tabA p T :: R)) (h : off < 0 ∨ T.size < off) :
    Calls Tryz.prog 56 #[.pointer (some ⟨p, 0, none⟩), .int .i64 off, .string (bstr s)] w (Ret (.int .i64 20) w0 (tabA p T :: R)) := by
  obtain ⟨v, aa, ac, h1⟩ := tabE H
  have k3 : w.cell? ⟨p, 3, none⟩ = some (.int .i64 T.size) := h1.cell (j := 3) rfl
  have HH := Lib.hid H
  clear H h1
  by_cases h0 : off < 0
  · clear h
    go_enter Tryz.func56, Tryz.ntmps56
    go_wp2_with fail
    go_ret
    exact ⟨rfl, HH.out⟩
  · have h1 : (T.size : Int) < off := by omega
    have h0' : decide (off < 0) = false := by simpa using h0
    clear h
    go_enter Tryz.func56, Tryz.ntmps56
    go_wp2_with fail
    go_ret
    exact ⟨rfl, HH.out⟩
/-- Insert refuses what is too much. -/
theorem cins_full {p : Nat} {T : Tb} {s : List UInt8} (off : Nat) (H : Owns w0 w (tabA p T :: R)) (hT : T.ok) (ho : off ≤ T.size) (h : T.most - T.size < s.length) :
    Calls Tryz.prog 56 #[.pointer (some ⟨p, 0, none⟩), .int .i64 off, .string (bstr s)] w (Ret (.int .i64 21) w0 (tabA p T :: R)) := by
  obtain ⟨v, aa, ac, h1⟩ := tabE H
  have k3 : w.cell? ⟨p, 3, none⟩ = some (.int .i64 T.size) := h1.cell (j := 3) rfl
  have k4 : w.cell? ⟨p, 4, none⟩ = some (.int .i64 T.most) := h1.cell (j := 4) rfl
  have hbs := bstr_size s
  have hm := hT.most
  have hz := hT.sz
  have h0 : ¬ ((off : Int) < 0) := by omega
  have h0' : decide ((off : Int) < 0) = false := by simp
  have h1' : ¬ ((T.size : Int) < off) := by omega
  have hw : IntKind.i64.wrap (T.most - T.size) = T.most - T.size := by rw [IntKind.wrap_i64]; omega
  have HH := Lib.hid H
  clear H h1 hT hm hz ho
  go_enter Tryz.func56, Tryz.ntmps56
  go_wp2_with fail
  go_quiet (fail)
  go_wp2_with fail
  go_ret
  exact ⟨rfl, HH.out.drewN _⟩
/-- Insert of nothing. -/
theorem cins_nil {p : Nat} {T : Tb} (off : Nat) (H : Owns w0 w (tabA p T :: R)) (hT : T.ok) (ho : off ≤ T.size) (h : T.size ≤ T.most) :
    Calls Tryz.prog 56 #[.pointer (some ⟨p, 0, none⟩), .int .i64 off, .string (bstr [])] w (Ret (.int .i64 0) w0 (tabA p T :: R)) := by
  obtain ⟨v, aa, ac, h1⟩ := tabE H
  have k3 : w.cell? ⟨p, 3, none⟩ = some (.int .i64 T.size) := h1.cell (j := 3) rfl
  have k4 : w.cell? ⟨p, 4, none⟩ = some (.int .i64 T.most) := h1.cell (j := 4) rfl
  have hbs : (bstr []).size = 0 := rfl
  have hb := bstr_nil
  have hm := hT.most
  have hz := hT.sz
  have h0 : ¬ ((off : Int) < 0) := by omega
  have h0' : decide ((off : Int) < 0) = false := by simp
  have h1' : ¬ ((T.size : Int) < off) := by omega
  have h2' : ¬ (T.most - (T.size : Int) < 0) := by omega
  have hw : IntKind.i64.wrap (T.most - T.size) = T.most - T.size := by rw [IntKind.wrap_i64]; omega
  have HH := Lib.hid H
  clear H h1 hT hm hz ho h
  go_enter Tryz.func56, Tryz.ntmps56
  go_wp2_with fail
  go_quiet (fail)
  go_wp2_with fail
  go_ret
  exact ⟨rfl, HH.out.drewN _⟩
set_option maxHeartbeats 2000000 in
/-- Insert. -/
theorem cins {p : Nat} {T : Tb} {s : List UInt8} (off : Nat) (H : Owns w0 w (tabA p T :: R)) (hT : T.ok) (ho : off ≤ T.size) (h : s.length ≤ T.most - T.size) (hs : s ≠ []) (hsl : T.added.length + s.length ≤ 100000) :
    Calls Tryz.prog 56 #[.pointer (some ⟨p, 0, none⟩), .int .i64 off, .string (bstr s)] w (RetX (fun _ : Tb => .int .i64 0) w0 (fun T' => Asrt.pure (InsR T off s T') :: tabA p T' :: R)) := by
  obtain ⟨v, aa, ac, h1⟩ := tabE H
  have k3 : w.cell? ⟨p, 3, none⟩ = some (.int .i64 T.size) := h1.cell (j := 3) rfl
  have k4 : w.cell? ⟨p, 4, none⟩ = some (.int .i64 T.most) := h1.cell (j := 4) rfl
  have hbs := bstr_size s
  obtain ⟨hne1, hne2⟩ := bstr_ne hs
  have hm := hT.most
  have hz := hT.sz
  have h0 : ¬ ((off : Int) < 0) := by omega
  have h0' : decide ((off : Int) < 0) = false := by simp
  have h1' : ¬ ((T.size : Int) < off) := by omega
  have h2' : ¬ (T.most - (T.size : Int) < (s.length : Int)) := by omega
  have hw : IntKind.i64.wrap (T.most - T.size) = T.most - T.size := by rw [IntKind.wrap_i64]; omega
  have hcut : ∀ q, _ := fun q => ccut (w := w.drewN q) (p := p) (T := T) off (H.drewN q) hT ho
  have Hcut := Lib.hid hcut
  have HT := Lib.hid hT
  have Hs := Lib.hid hs
  have hsz : T.size ≤ 1000000 := hT.sz
  have hed : T.edits ≤ 100000 := hT.ed
  have hll : T.L.length ≤ 100000 := hT.ll
  have hsl1 : s.length ≤ 100000 := by omega
  clear H h1 hT ho hs hm hcut hz
  go_enter Tryz.func56, Tryz.ntmps56
  go_wp2_with fail
  go_quiet (fail)
  go_wp2_with fail
  refine (Hcut.out _).mono ?_
  rintro e w1 ⟨⟨i, L1⟩, rfl, h2⟩
  obtain ⟨hc, h2⟩ := h2.pureE
  dsimp only at hc h2 ⊢
  obtain ⟨v1, aa1, ac1, h3⟩ := tabE h2
  dsimp only at h3
  clear k3 k4 Hcut h2
  have hcl := hc.len
  have hci := hc.le
  have HC := Lib.hid hc
  -- append
  have k1 : w1.cell? ⟨p, 1, none⟩ = some (.slice aa1 T.added.length ac1) := h3.cell (j := 1) rfl
  obtain ⟨v', w2, hrun, h4⟩ := app_bstr s h3.p1 (by omega)
  obtain ⟨aa2, ac2, rfl⟩ := row_slice h4.row
  have h5 := h4.p1
  have c1 : w2.cell? ⟨p, 1, none⟩ = some (.slice aa1 T.added.length ac1) := h5.cell (j := 1) rfl
  have f1 : w2.frozen? ⟨p, 1, none⟩ = false := h5.frozen 1
  have c3 : w2.cell? ⟨p, 3, none⟩ = some (.int .i64 T.size) := h5.cell (j := 3) rfl
  have f3 : w2.frozen? ⟨p, 3, none⟩ = false := h5.frozen 3
  have c5 : w2.cell? ⟨p, 5, none⟩ = some (.int .i64 T.edits) := h5.cell (j := 5) rfl
  have f5 : w2.frozen? ⟨p, 5, none⟩ = false := h5.frozen 5
  have c2 : w2.cell? ⟨p, 2, none⟩ = some (.pointer (some ⟨v1, 0, none⟩)) := h5.cell (j := 2) rfl
  have h6 := ((h5.set 1 (.slice aa2 (T.added.length + s.length) ac2)).set 3 (.int .i64 ((T.size : Int) + s.length))).set 5 (.int .i64 ((T.edits : Int) + 1))
  obtain ⟨W3, hW3⟩ : ∃ W3, ((w2.setCell ⟨p, 1, none⟩ (.slice aa2 (T.added.length + s.length) ac2)).setCell ⟨p, 3, none⟩ (.int .i64 ((T.size : Int) + s.length))).setCell ⟨p, 5, none⟩ (.int .i64 ((T.edits : Int) + 1)) = W3 := ⟨_, rfl⟩
  rw [hW3] at h6
  have h7 : Owns w0 W3 (tobj p v1 ⟨T.first, T.added ++ s, L1, T.size + s.length, T.most, T.edits + 1⟩ aa2 ac2 :: brow aa2 ac2 (T.added ++ s) :: pcvec v1 L1 :: R) := by
    simp only [tobj, brow, List.length_append]
    exact h6
  have H7 := Lib.hid h7
  have HW3 := Lib.hid hW3
  clear h3 h4 h5 h6 h7 hW3 hc
  go_upto_region 9 with (fail)
  go_wp2_with (at_builtin; refine Lib.wpList_append_run _ rfl _ _ _ _ rfl _ _ rfl rfl _ _ (hrun _) ?_)
  rw [HW3.out]
  clear HW3 k1 c1 f1 c3 f3 c5 f5 c2 hrun
  rcases Nat.eq_zero_or_pos i with hi0 | hi0
  · subst hi0
    have hz1 : ((0 : Nat) : Int) - 1 = -1 := by omega
    rw [hz1]
    refine (o_at_out_pc (-1) H7.out.p2 (by omega)).mono ?_
    rintro e w4 ⟨rfl, h8⟩
    clear H7
    have h9 := (h8.alloc #[.bool false, .int .i64 0, .int .i64 0] 87)
    have q0 : (w4.alloc (.cells #[.bool false, .int .i64 0, .int .i64 0] 87)).cell? ⟨w4.heap.size, 0, none⟩ = some (.bool false) := h9.cell (j := 0) rfl
    have q1 : (w4.alloc (.cells #[.bool false, .int .i64 0, .int .i64 0] 87)).cell? ⟨w4.heap.size, 1, none⟩ = some (.int .i64 0) := h9.cell (j := 1) rfl
    have q2 : (w4.alloc (.cells #[.bool false, .int .i64 0, .int .i64 0] 87)).cell? ⟨w4.heap.size, 2, none⟩ = some (.int .i64 0) := h9.cell (j := 2) rfl
    have e2 : (w4.alloc (.cells #[.bool false, .int .i64 0, .int .i64 0] 87)).cell? ⟨p, 2, none⟩ = some (.pointer (some ⟨v1, 0, none⟩)) := (h9.ord [2]).cell (j := 2) rfl
    have h10 := h9.alloc #[.bool true, .int .i64 T.added.length, .int .i64 s.length] 87
    rw [World.size_alloc] at h10
    have hins := o_insert_pc 0 (.slice (some ⟨w4.heap.size + 1, 0, none⟩) 1 1) [.bool true, .int .i64 T.added.length, .int .i64 s.length] (m := 1) h10.p2 (Reads.obj (b := w4.heap.size + 1) (k := 3) (n := 1) (t := 87) (f := (0, 0)) (cs := #[.bool true, .int .i64 T.added.length, .int .i64 s.length]) (by simp) (by decide) (by decide) (by simp)) (pcs_one L1) (by simp [Value.oneCell']) hci (by omega)
    have Hins := Lib.hid hins
    clear h8 h9 h10 hins
    go_wp2_with fail
    refine Hins.out.mono ?_
    rintro e w5 ⟨rfl, h11⟩
    have hx : (pcs L1).take (0 * 3) ++ [.bool true, .int .i64 T.added.length, .int .i64 s.length] ++ (pcs L1).drop (0 * 3) = pcs (L1.take 0 ++ [⟨true, T.added.length, s.length⟩] ++ L1.drop 0) := by
      rw [pcs_append, pcs_append, flat_take pcf_len, flat_drop pcf_len]; rfl
    have hl2 : L1.length + 1 = (L1.take 0 ++ [(⟨true, T.added.length, s.length⟩ : Pc)] ++ L1.drop 0).length := by simp <;> omega
    rw [hx, hl2] at h11
    have h12 : Owns w0 w5 (tabA p ⟨T.first, T.added ++ s, L1.take 0 ++ [⟨true, T.added.length, s.length⟩] ++ L1.drop 0, T.size + s.length, T.most, T.edits + 1⟩ :: R) := tabI ((h11.ord [1, 1]).drop.drop.ord [1, 1])
    have H12 := Lib.hid h12
    have hR : InsR T off s ⟨T.first, T.added ++ s, L1.take 0 ++ [⟨true, T.added.length, s.length⟩] ++ L1.drop 0, T.size + s.length, T.most, T.edits + 1⟩ := ⟨ins_new HC.out, ins_new_ok HC.out Hs.out, rfl, rfl, by dsimp only; omega, rfl, rfl, rfl⟩
    have HR := Lib.hid hR
    clear h11 h12 hx hl2 hR q0 q1 q2 e2 Hins
    go_wp2_with fail
    go_ret
    exact ⟨_, rfl, H12.out.pureI HR.out⟩
  · obtain ⟨k, rfl⟩ : ∃ k, i = k + 1 := ⟨i - 1, by omega⟩
    have hkL : k < L1.length := by omega
    obtain ⟨q, hq⟩ : ∃ q, L1[k]? = some q := ⟨_, List.getElem?_eq_getElem hkL⟩
    obtain ⟨ad, qo, qn⟩ := q
    have hqo := HC.out.ok _ (List.mem_of_getElem? hq)
    have hqb : qo + qn ≤ 100000 := by
      have h1 := hqo.2
      have h2 := HT.out.fl
      have h3 := HT.out.al
      dsimp only at h1
      split at h1 <;> omega
    have hat := o_at_pc k ad qo qn H7.out.p2 hkL (pcs_get hq)
    have Hq := Lib.hid hq
    have Hat := Lib.hid hat
    have hk1 : ((k + 1 : Nat) : Int) - 1 = (k : Int) := by omega
    rw [hk1]
    clear hq hat hqo hi0 H7
    refine Hat.out.mono ?_
    rintro e w4 ⟨rfl, h8⟩
    clear Hat
    cases ad with
    | false =>
      have h9 := (h8.alloc #[.bool false, .int .i64 qo, .int .i64 qn] 87)
      have q0 : (w4.alloc (.cells #[.bool false, .int .i64 qo, .int .i64 qn] 87)).cell? ⟨w4.heap.size, 0, none⟩ = some (.bool false) := h9.cell (j := 0) rfl
      have q1 : (w4.alloc (.cells #[.bool false, .int .i64 qo, .int .i64 qn] 87)).cell? ⟨w4.heap.size, 1, none⟩ = some (.int .i64 qo) := h9.cell (j := 1) rfl
      have q2 : (w4.alloc (.cells #[.bool false, .int .i64 qo, .int .i64 qn] 87)).cell? ⟨w4.heap.size, 2, none⟩ = some (.int .i64 qn) := h9.cell (j := 2) rfl
      have e2 : (w4.alloc (.cells #[.bool false, .int .i64 qo, .int .i64 qn] 87)).cell? ⟨p, 2, none⟩ = some (.pointer (some ⟨v1, 0, none⟩)) := (h9.ord [2]).cell (j := 2) rfl
      have h10 := h9.alloc #[.bool true, .int .i64 T.added.length, .int .i64 s.length] 87
      rw [World.size_alloc] at h10
      have hins := o_insert_pc (k + 1) (.slice (some ⟨w4.heap.size + 1, 0, none⟩) 1 1) [.bool true, .int .i64 T.added.length, .int .i64 s.length] (m := 1) h10.p2 (Reads.obj (b := w4.heap.size + 1) (k := 3) (n := 1) (t := 87) (f := (0, 0)) (cs := #[.bool true, .int .i64 T.added.length, .int .i64 s.length]) (by simp) (by decide) (by decide) (by simp)) (pcs_one L1) (by simp [Value.oneCell']) hci (by omega)
      have Hins := Lib.hid hins
      clear h8 h9 h10 hins
      go_wp2_with fail
      refine Hins.out.mono ?_
      rintro e w5 ⟨rfl, h11⟩
      have hx : (pcs L1).take ((k + 1) * 3) ++ [.bool true, .int .i64 T.added.length, .int .i64 s.length] ++ (pcs L1).drop ((k + 1) * 3) = pcs (L1.take (k + 1) ++ [⟨true, T.added.length, s.length⟩] ++ L1.drop (k + 1)) := by
        rw [pcs_append, pcs_append, flat_take pcf_len, flat_drop pcf_len]; rfl
      have hl2 : L1.length + 1 = (L1.take (k + 1) ++ [(⟨true, T.added.length, s.length⟩ : Pc)] ++ L1.drop (k + 1)).length := by simp <;> omega
      rw [hx, hl2] at h11
      have h12 : Owns w0 w5 (tabA p ⟨T.first, T.added ++ s, L1.take (k + 1) ++ [⟨true, T.added.length, s.length⟩] ++ L1.drop (k + 1), T.size + s.length, T.most, T.edits + 1⟩ :: R) := tabI ((h11.ord [1, 1]).drop.drop.ord [1, 1])
      have H12 := Lib.hid h12
      have hR : InsR T off s ⟨T.first, T.added ++ s, L1.take (k + 1) ++ [⟨true, T.added.length, s.length⟩] ++ L1.drop (k + 1), T.size + s.length, T.most, T.edits + 1⟩ := ⟨ins_new HC.out, ins_new_ok HC.out Hs.out, rfl, rfl, by dsimp only; omega, rfl, rfl, rfl⟩
      have HR := Lib.hid hR
      clear h11 h12 hx hl2 hR q0 q1 q2 e2 Hins
      go_wp2_with fail
      go_ret
      exact ⟨_, rfl, H12.out.pureI HR.out⟩
    | true =>
      by_cases hend : qo + qn = T.added.length
      · have hend' : (qo : Int) + qn = (T.added.length : Int) := by omega
        have h9 := (h8.alloc #[.bool true, .int .i64 qo, .int .i64 qn] 87)
        have q0 : (w4.alloc (.cells #[.bool true, .int .i64 qo, .int .i64 qn] 87)).cell? ⟨w4.heap.size, 0, none⟩ = some (.bool true) := h9.cell (j := 0) rfl
        have q1 : (w4.alloc (.cells #[.bool true, .int .i64 qo, .int .i64 qn] 87)).cell? ⟨w4.heap.size, 1, none⟩ = some (.int .i64 qo) := h9.cell (j := 1) rfl
        have q2 : (w4.alloc (.cells #[.bool true, .int .i64 qo, .int .i64 qn] 87)).cell? ⟨w4.heap.size, 2, none⟩ = some (.int .i64 qn) := h9.cell (j := 2) rfl
        have e2 : (w4.alloc (.cells #[.bool true, .int .i64 qo, .int .i64 qn] 87)).cell? ⟨p, 2, none⟩ = some (.pointer (some ⟨v1, 0, none⟩)) := (h9.ord [2]).cell (j := 2) rfl
        have hset := o_set_pc k true qo ((qn : Int) + s.length) (h9.p1.drew) hkL
        have hx : (((pcs L1).set (k * 3) (.bool true)).set (k * 3 + 1) (.int .i64 qo)).set (k * 3 + 2) (.int .i64 ((qn : Int) + s.length)) = pcs (L1.set k ⟨true, qo, qn + s.length⟩) := by
          have := pcs_set L1 k true qo (qn + s.length) hkL
          rwa [Int.natCast_add] at this
        rw [hx] at hset
        have Hset := Lib.hid hset
        obtain ⟨W5, hW5⟩ : ∃ W5, w4.alloc (.cells #[.bool true, .int .i64 qo, .int .i64 qn] 87) = W5 := ⟨_, rfl⟩
        rw [hW5] at q0 q1 q2 e2 Hset
        have HW5 := Lib.hid hW5
        clear h8 h9 hset hx hW5
        go_upto_region 14 with (fail)
        rw [HW5.out]
        clear HW5
        go_still_tail 14, (by kernel_rfl)
        change wpList _ _ _ _ _ W5.drew
        go_wp2_with fail
        refine Hset.out.mono ?_
        rintro e w5 ⟨rfl, h11⟩
        have hl2 : L1.length = (L1.set k ⟨true, qo, qn + s.length⟩).length := by simp
        rw [hl2] at h11
        have h12 : Owns w0 w5 (tabA p ⟨T.first, T.added ++ s, L1.set k ⟨true, qo, qn + s.length⟩, T.size + s.length, T.most, T.edits + 1⟩ :: R) := tabI ((h11.ord [1]).drop.ord [1, 1])
        have H12 := Lib.hid h12
        have hR : InsR T off s ⟨T.first, T.added ++ s, L1.set k ⟨true, qo, qn + s.length⟩, T.size + s.length, T.most, T.edits + 1⟩ := ⟨ins_more HC.out Hq.out rfl hend, ins_more_ok HC.out Hq.out rfl hend, rfl, rfl, by dsimp only; rw [← hl2]; omega, rfl, rfl, rfl⟩
        have HR := Lib.hid hR
        clear h11 h12 hl2 hR q0 q1 q2 e2 Hset
        go_wp2_with fail
        go_ret
        exact ⟨_, rfl, H12.out.pureI HR.out⟩
      · have hend' : ((qo : Int) + qn == (T.added.length : Int)) = false := by simp; omega
        have h9 := (h8.alloc #[.bool true, .int .i64 qo, .int .i64 qn] 87)
        have q0 : (w4.alloc (.cells #[.bool true, .int .i64 qo, .int .i64 qn] 87)).cell? ⟨w4.heap.size, 0, none⟩ = some (.bool true) := h9.cell (j := 0) rfl
        have q1 : (w4.alloc (.cells #[.bool true, .int .i64 qo, .int .i64 qn] 87)).cell? ⟨w4.heap.size, 1, none⟩ = some (.int .i64 qo) := h9.cell (j := 1) rfl
        have q2 : (w4.alloc (.cells #[.bool true, .int .i64 qo, .int .i64 qn] 87)).cell? ⟨w4.heap.size, 2, none⟩ = some (.int .i64 qn) := h9.cell (j := 2) rfl
        have e2 : (w4.alloc (.cells #[.bool true, .int .i64 qo, .int .i64 qn] 87)).cell? ⟨p, 2, none⟩ = some (.pointer (some ⟨v1, 0, none⟩)) := (h9.ord [2]).cell (j := 2) rfl
        have h10 := h9.alloc #[.bool true, .int .i64 T.added.length, .int .i64 s.length] 87
        rw [World.size_alloc] at h10
        have hins := o_insert_pc (k + 1) (.slice (some ⟨w4.heap.size + 1, 0, none⟩) 1 1) [.bool true, .int .i64 T.added.length, .int .i64 s.length] (m := 1) h10.p2 (Reads.obj (b := w4.heap.size + 1) (k := 3) (n := 1) (t := 87) (f := (0, 0)) (cs := #[.bool true, .int .i64 T.added.length, .int .i64 s.length]) (by simp) (by decide) (by decide) (by simp)) (pcs_one L1) (by simp [Value.oneCell']) hci (by omega)
        have Hins := Lib.hid hins
        clear h8 h9 h10 hins
        go_wp2_with fail
        refine Hins.out.mono ?_
        rintro e w5 ⟨rfl, h11⟩
        have hx : (pcs L1).take ((k + 1) * 3) ++ [.bool true, .int .i64 T.added.length, .int .i64 s.length] ++ (pcs L1).drop ((k + 1) * 3) = pcs (L1.take (k + 1) ++ [⟨true, T.added.length, s.length⟩] ++ L1.drop (k + 1)) := by
          rw [pcs_append, pcs_append, flat_take pcf_len, flat_drop pcf_len]; rfl
        have hl2 : L1.length + 1 = (L1.take (k + 1) ++ [(⟨true, T.added.length, s.length⟩ : Pc)] ++ L1.drop (k + 1)).length := by simp <;> omega
        rw [hx, hl2] at h11
        have h12 : Owns w0 w5 (tabA p ⟨T.first, T.added ++ s, L1.take (k + 1) ++ [⟨true, T.added.length, s.length⟩] ++ L1.drop (k + 1), T.size + s.length, T.most, T.edits + 1⟩ :: R) := tabI ((h11.ord [1, 1]).drop.drop.ord [1, 1])
        have H12 := Lib.hid h12
        have hR : InsR T off s ⟨T.first, T.added ++ s, L1.take (k + 1) ++ [⟨true, T.added.length, s.length⟩] ++ L1.drop (k + 1), T.size + s.length, T.most, T.edits + 1⟩ := ⟨ins_new HC.out, ins_new_ok HC.out Hs.out, rfl, rfl, by dsimp only; omega, rfl, rfl, rfl⟩
        have HR := Lib.hid hR
        clear h11 h12 hx hl2 hR q0 q1 q2 e2 Hins
        go_wp2_with fail
        go_ret
        exact ⟨_, rfl, H12.out.pureI HR.out⟩
end
end Go.Proofs.YtcdoomlagmddcaaGreatDoor
