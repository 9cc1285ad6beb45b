/- A parser of keys: Feed. -/
import Derived.Test.YthcamokblkjkkaaPL
namespace Go.Proofs.Ythcamokblkjkkaa
open Go Go.RowKit Go.Fol
attribute [local go_sem ↓] Go.wp_at_zero Go.wp_at_succ
set_option linter.unusedVariables false
set_option linter.unusedSimpArgs false
section
variable {w0 w : World} {R : List Asrt}
abbrev cobj (b : Nat) (c : Cm) : Asrt := Asrt.obj b (.cells c.cells 33 (0, 0))
set_option maxHeartbeats 2000000 in
theorem pfeed {p : Nat} {c : Int} {s : PSt} (v : Bool) (h0 : 0 ≤ c) (hc : c ≤ 255) (ho : s.ok) (H : Owns w0 w (pobj p s :: R)) :
    Calls Try.prog 14 #[.pointer (some ⟨p, 0, none⟩), .int .u8 c, .bool v] w (Ret (.tuple #[.int .i64 (feedF s c v).1, .agg (feedF s c v).2.1.cells]) w0 (pobj p (feedF s c v).2.2 :: R)) := by
  have h1 := (H.alloc czero.cells 33).p1
  obtain ⟨W0, hW0⟩ : ∃ W0, w.alloc (.cells czero.cells 33) = W0 := ⟨_, rfl⟩
  obtain ⟨B, hB⟩ : ∃ B, B = w.heap.size := ⟨_, rfl⟩
  rw [hW0, ← hB] at h1
  have HW0 := Lib.hid hW0
  have HB := Lib.hid hB
  obtain ⟨s1, hs1⟩ : ∃ s1, s1 = fstart s v := ⟨_, rfl⟩
  obtain ⟨r, s2, hrs⟩ : ∃ r s2, stepF s1 c = (r, s2) := ⟨_, _, rfl⟩
  have hok1 : s1.ok := by rw [hs1]; exact ok_start ho
  have hok2 : s2.ok := by have := ok_step (c := c) hok1; rw [hrs] at this; exact this
  have hfe : feedF s c v = (r, if r = 1 then cmOf s2 else czero, if r = 0 then s2 else pzero) := by rw [feedF, ← hs1, hrs]
  obtain ⟨cm, hcm⟩ : ∃ cm, cm = if r = 1 then cmOf s2 else czero := ⟨_, rfl⟩
  obtain ⟨s3, hs3⟩ : ∃ s3, s3 = if r = 0 then s2 else pzero := ⟨_, rfl⟩
  rw [hfe, ← hcm, ← hs3]
  have Hcm := Lib.hid hcm
  have Hs3 := Lib.hid hs3
  clear hcm hs3
  have k1 : W0.cell? ⟨p, 1, none⟩ = some (.bool s.opn) := h1.cell (j := 1) rfl
  have k3 := h1.cell (j := 3) rfl
  have f3 := h1.frozen 3
  have Hrs := Lib.hid hrs
  have Hok1 := Lib.hid hok1
  have Hok2 := Lib.hid hok2
  have H1 := Lib.hid h1
  clear h1 hW0 hB H hfe hrs hok1 hok2 ho
  go_enter Try.func14, Try.ntmps14
  go_upto_region 1 with (fail)
  rw [show Obj.cells #[Value.int IntKind.u8 0, Value.int IntKind.i64 0, Value.string { data := #[] }, Value.string { data := #[] }, Value.int IntKind.u8 0, Value.string { data := #[] }] 33 = Obj.cells czero.cells 33 from rfl, HW0.out, ← HB.out]
  clear HW0 HB
  cases hop : s.opn with
  | false =>
    rw [hop] at k1
    have hse : s1 = { pzero with opn := true, visual := v, first := true } := by rw [hs1, fstart, hop]; rfl
    clear hs1 hop
    go_wp2_with fail
    refine (preset (Owns.pset H1.out { s with first := true } 3 (.bool true) rfl)).mono ?_
    rintro e w2 ⟨rfl, h2⟩
    have a1 := h2.cell (j := 1) rfl
    have a2 := h2.cell (j := 2) rfl
    have a3 := h2.cell (j := 3) rfl
    have b1 := h2.frozen 1
    have b2 := h2.frozen 2
    have b3 := h2.frozen 3
    have h3 := Owns.pset h2 { pzero with opn := true } 1 (.bool true) rfl
    have h4 := Owns.pset h3 { pzero with opn := true, visual := v } 2 (.bool v) rfl
    have h5 := Owns.pset h4 { pzero with opn := true, visual := v, first := true } 3 (.bool true) rfl
    rw [← hse] at h5
    clear h2 h3 h4 hse
    have H5 := Lib.hid h5
    clear h5
    go_wp2_with fail
    have h5 := H5.out
    clear a1 a2 a3 b1 b2 b3 k1 k3 f3 H1 H5
    refine (pstep h0 hc Hok1.out h5 Hrs.out).mono ?_
    rintro e w3 ⟨rfl, h6⟩
    have j4 : w3.cell? ⟨p, 4, none⟩ = some (.int .u8 s2.reg) := h6.cell (j := 4) rfl
    have j5 : w3.cell? ⟨p, 5, none⟩ = some (.int .i64 s2.count) := h6.cell (j := 5) rfl
    have j6 : w3.cell? ⟨p, 6, none⟩ = some (.string s2.op) := h6.cell (j := 6) rfl
    have j7 : w3.cell? ⟨p, 7, none⟩ = some (.string s2.name) := h6.cell (j := 7) rfl
    have j8 : w3.cell? ⟨p, 8, none⟩ = some (.int .u8 s2.arg) := h6.cell (j := 8) rfl
    have j9 : w3.cell? ⟨p, 9, none⟩ = some (.string s2.text) := h6.cell (j := 9) rfl
    obtain ⟨W4, hW4⟩ : ∃ W4, w3.alloc (.cells #[.int .u8 s2.reg, .int .i64 s2.count, .string s2.op, .string s2.name, .int .u8 s2.arg, .string s2.text] 33) = W4 := ⟨_, rfl⟩
    have h7 := (h6.alloc #[.int .u8 s2.reg, .int .i64 s2.count, .string s2.op, .string s2.name, .int .u8 s2.arg, .string s2.text] 33).p1
    obtain ⟨C, hC⟩ : ∃ C, C = w3.heap.size := ⟨_, rfl⟩
    rw [hW4, ← hC] at h7
    have HC := Lib.hid (pcount Hok2.out.an Hok2.out.bn h7)
    have HW4 := Lib.hid hW4
    have HCC := Lib.hid hC
    clear h5 h6 h7 hW4 hC Hok1
    go_upto_region 7 with (fail)
    rw [HW4.out, ← HCC.out]
    clear HW4 HCC j4 j5 j6 j7 j8 j9
    go_wp2_with fail
    refine HC.out.mono ?_
    rintro e w5 ⟨rfl, h8⟩
    have l1 : w5.cell? ⟨C, 1, none⟩ = some (.int .i64 s2.count) := h8.p1.cell (j := 1) rfl
    have g1 : w5.frozen? ⟨C, 1, none⟩ = false := h8.p1.frozen 1
    have h9 : Owns w0 (w5.setCell ⟨C, 1, none⟩ (.int .i64 (countF s2))) (cobj C (cmOf s2) :: pobj p s2 :: cobj B czero :: R) := h8.p1.set 1 (.int .i64 (countF s2))
    obtain ⟨W6, hW6⟩ : ∃ W6, w5.setCell ⟨C, 1, none⟩ (.int .i64 (countF s2)) = W6 := ⟨_, rfl⟩
    rw [hW6] at h9
    have HW6 := Lib.hid hW6
    have H9 := Lib.hid h9
    clear h8 h9 hW6 HC
    go_upto_region 8 with (fail)
    rw [HW6.out]
    clear HW6 l1 g1
    by_cases hr0 : r = 0
    · subst hr0
      obtain rfl : cm = czero := by rw [Hcm.out, if_neg (by decide)]
      obtain rfl : s3 = s2 := by rw [Hs3.out, if_pos rfl]
      have q0 : W6.cell? ⟨B, 0, none⟩ = some (.int .u8 0) := H9.out.p2.cell (j := 0) rfl
      have t0 : W6.frozen? ⟨B, 0, none⟩ = false := H9.out.p2.frozen 0
      have q1 : W6.cell? ⟨B, 1, none⟩ = some (.int .i64 0) := H9.out.p2.cell (j := 1) rfl
      have t1 : W6.frozen? ⟨B, 1, none⟩ = false := H9.out.p2.frozen 1
      have q2 : W6.cell? ⟨B, 2, none⟩ = some (.string ⟨#[]⟩) := H9.out.p2.cell (j := 2) rfl
      have t2 : W6.frozen? ⟨B, 2, none⟩ = false := H9.out.p2.frozen 2
      have q3 : W6.cell? ⟨B, 3, none⟩ = some (.string ⟨#[]⟩) := H9.out.p2.cell (j := 3) rfl
      have t3 : W6.frozen? ⟨B, 3, none⟩ = false := H9.out.p2.frozen 3
      have q4 : W6.cell? ⟨B, 4, none⟩ = some (.int .u8 0) := H9.out.p2.cell (j := 4) rfl
      have t4 : W6.frozen? ⟨B, 4, none⟩ = false := H9.out.p2.frozen 4
      have q5 : W6.cell? ⟨B, 5, none⟩ = some (.string ⟨#[]⟩) := H9.out.p2.cell (j := 5) rfl
      have t5 : W6.frozen? ⟨B, 5, none⟩ = false := H9.out.p2.frozen 5
      go_wp2_with fail
      have HE := Lib.hid ((((((H9.out.p2.set 0 (.int .u8 0)).set 1 (.int .i64 0)).set 2 (.string ⟨#[]⟩)).set 3 (.string ⟨#[]⟩)).set 4 (.int .u8 0)).set 5 (.string ⟨#[]⟩))
      have u0 : (W6.setCell ⟨B, 0, none⟩ (.int .u8 0)).cell? ⟨B, 0, none⟩ = some (.int .u8 0) := (H9.out.p2.set 0 (.int .u8 0)).cell (j := 0) rfl
      have u1 : ((W6.setCell ⟨B, 0, none⟩ (.int .u8 0)).setCell ⟨B, 1, none⟩ (.int .i64 0)).cell? ⟨B, 1, none⟩ = some (.int .i64 0) := ((H9.out.p2.set 0 (.int .u8 0)).set 1 (.int .i64 0)).cell (j := 1) rfl
      have u2 : (((W6.setCell ⟨B, 0, none⟩ (.int .u8 0)).setCell ⟨B, 1, none⟩ (.int .i64 0)).setCell ⟨B, 2, none⟩ (.string ⟨#[]⟩)).cell? ⟨B, 2, none⟩ = some (.string ⟨#[]⟩) := (((H9.out.p2.set 0 (.int .u8 0)).set 1 (.int .i64 0)).set 2 (.string ⟨#[]⟩)).cell (j := 2) rfl
      have u3 : ((((W6.setCell ⟨B, 0, none⟩ (.int .u8 0)).setCell ⟨B, 1, none⟩ (.int .i64 0)).setCell ⟨B, 2, none⟩ (.string ⟨#[]⟩)).setCell ⟨B, 3, none⟩ (.string ⟨#[]⟩)).cell? ⟨B, 3, none⟩ = some (.string ⟨#[]⟩) := ((((H9.out.p2.set 0 (.int .u8 0)).set 1 (.int .i64 0)).set 2 (.string ⟨#[]⟩)).set 3 (.string ⟨#[]⟩)).cell (j := 3) rfl
      have u4 : (((((W6.setCell ⟨B, 0, none⟩ (.int .u8 0)).setCell ⟨B, 1, none⟩ (.int .i64 0)).setCell ⟨B, 2, none⟩ (.string ⟨#[]⟩)).setCell ⟨B, 3, none⟩ (.string ⟨#[]⟩)).setCell ⟨B, 4, none⟩ (.int .u8 0)).cell? ⟨B, 4, none⟩ = some (.int .u8 0) := (((((H9.out.p2.set 0 (.int .u8 0)).set 1 (.int .i64 0)).set 2 (.string ⟨#[]⟩)).set 3 (.string ⟨#[]⟩)).set 4 (.int .u8 0)).cell (j := 4) rfl
      have u5 : ((((((W6.setCell ⟨B, 0, none⟩ (.int .u8 0)).setCell ⟨B, 1, none⟩ (.int .i64 0)).setCell ⟨B, 2, none⟩ (.string ⟨#[]⟩)).setCell ⟨B, 3, none⟩ (.string ⟨#[]⟩)).setCell ⟨B, 4, none⟩ (.int .u8 0)).setCell ⟨B, 5, none⟩ (.string ⟨#[]⟩)).cell? ⟨B, 5, none⟩ = some (.string ⟨#[]⟩) := ((((((H9.out.p2.set 0 (.int .u8 0)).set 1 (.int .i64 0)).set 2 (.string ⟨#[]⟩)).set 3 (.string ⟨#[]⟩)).set 4 (.int .u8 0)).set 5 (.string ⟨#[]⟩)).cell (j := 5) rfl
      exact bodyPost_ret (v := .tuple #[.int .i64 0, .agg czero.cells]) (by simp [results, Try.results14, go_sem, czero, q0, q1, q2, q3, q4, q5, u0, u1, u2, u3, u4, u5]) rfl ⟨rfl, HE.out.drop.drop⟩
    · obtain rfl : s3 = pzero := by rw [Hs3.out, if_neg hr0]
      have e0 : (r == 0) = false := by rw [beq_eq_false_iff_ne]; exact hr0
      by_cases hr1 : r = 1
      · subst hr1
        obtain rfl : cm = cmOf s2 := by rw [Hcm.out, if_pos rfl]
        clear e0 hr0
        go_wp2_with fail
        refine (preset H9.out.p1).mono ?_
        rintro e w7 ⟨rfl, h10⟩
        have H10 := Lib.hid h10
        clear h10
        have r0 : w7.cell? ⟨C, 0, none⟩ = some (.int .u8 s2.reg) := H10.out.p1.cell (j := 0) rfl
        have q0 : w7.cell? ⟨B, 0, none⟩ = some (.int .u8 0) := H10.out.p2.cell (j := 0) rfl
        have t0 : w7.frozen? ⟨B, 0, none⟩ = false := H10.out.p2.frozen 0
        have r1 : w7.cell? ⟨C, 1, none⟩ = some (.int .i64 (countF s2)) := H10.out.p1.cell (j := 1) rfl
        have q1 : w7.cell? ⟨B, 1, none⟩ = some (.int .i64 0) := H10.out.p2.cell (j := 1) rfl
        have t1 : w7.frozen? ⟨B, 1, none⟩ = false := H10.out.p2.frozen 1
        have r2 : w7.cell? ⟨C, 2, none⟩ = some (.string s2.op) := H10.out.p1.cell (j := 2) rfl
        have q2 : w7.cell? ⟨B, 2, none⟩ = some (.string ⟨#[]⟩) := H10.out.p2.cell (j := 2) rfl
        have t2 : w7.frozen? ⟨B, 2, none⟩ = false := H10.out.p2.frozen 2
        have r3 : w7.cell? ⟨C, 3, none⟩ = some (.string s2.name) := H10.out.p1.cell (j := 3) rfl
        have q3 : w7.cell? ⟨B, 3, none⟩ = some (.string ⟨#[]⟩) := H10.out.p2.cell (j := 3) rfl
        have t3 : w7.frozen? ⟨B, 3, none⟩ = false := H10.out.p2.frozen 3
        have r4 : w7.cell? ⟨C, 4, none⟩ = some (.int .u8 s2.arg) := H10.out.p1.cell (j := 4) rfl
        have q4 : w7.cell? ⟨B, 4, none⟩ = some (.int .u8 0) := H10.out.p2.cell (j := 4) rfl
        have t4 : w7.frozen? ⟨B, 4, none⟩ = false := H10.out.p2.frozen 4
        have r5 : w7.cell? ⟨C, 5, none⟩ = some (.string s2.text) := H10.out.p1.cell (j := 5) rfl
        have q5 : w7.cell? ⟨B, 5, none⟩ = some (.string ⟨#[]⟩) := H10.out.p2.cell (j := 5) rfl
        have t5 : w7.frozen? ⟨B, 5, none⟩ = false := H10.out.p2.frozen 5
        go_wp2_with fail
        go_region
        all_goals
          go_wp2_with fail
          have HE := Lib.hid ((((((H10.out.p2.set 0 (.int .u8 s2.reg)).set 1 (.int .i64 (countF s2))).set 2 (.string s2.op)).set 3 (.string s2.name)).set 4 (.int .u8 s2.arg)).set 5 (.string s2.text)).drew
          have u0 : (w7.setCell ⟨B, 0, none⟩ (.int .u8 s2.reg)).cell? ⟨B, 0, none⟩ = some (.int .u8 s2.reg) := (H10.out.p2.set 0 (.int .u8 s2.reg)).cell (j := 0) rfl
          have u1 : ((w7.setCell ⟨B, 0, none⟩ (.int .u8 s2.reg)).setCell ⟨B, 1, none⟩ (.int .i64 (countF s2))).cell? ⟨B, 1, none⟩ = some (.int .i64 (countF s2)) := ((H10.out.p2.set 0 (.int .u8 s2.reg)).set 1 (.int .i64 (countF s2))).cell (j := 1) rfl
          have u2 : (((w7.setCell ⟨B, 0, none⟩ (.int .u8 s2.reg)).setCell ⟨B, 1, none⟩ (.int .i64 (countF s2))).setCell ⟨B, 2, none⟩ (.string s2.op)).cell? ⟨B, 2, none⟩ = some (.string s2.op) := (((H10.out.p2.set 0 (.int .u8 s2.reg)).set 1 (.int .i64 (countF s2))).set 2 (.string s2.op)).cell (j := 2) rfl
          have u3 : ((((w7.setCell ⟨B, 0, none⟩ (.int .u8 s2.reg)).setCell ⟨B, 1, none⟩ (.int .i64 (countF s2))).setCell ⟨B, 2, none⟩ (.string s2.op)).setCell ⟨B, 3, none⟩ (.string s2.name)).cell? ⟨B, 3, none⟩ = some (.string s2.name) := ((((H10.out.p2.set 0 (.int .u8 s2.reg)).set 1 (.int .i64 (countF s2))).set 2 (.string s2.op)).set 3 (.string s2.name)).cell (j := 3) rfl
          have u4 : (((((w7.setCell ⟨B, 0, none⟩ (.int .u8 s2.reg)).setCell ⟨B, 1, none⟩ (.int .i64 (countF s2))).setCell ⟨B, 2, none⟩ (.string s2.op)).setCell ⟨B, 3, none⟩ (.string s2.name)).setCell ⟨B, 4, none⟩ (.int .u8 s2.arg)).cell? ⟨B, 4, none⟩ = some (.int .u8 s2.arg) := (((((H10.out.p2.set 0 (.int .u8 s2.reg)).set 1 (.int .i64 (countF s2))).set 2 (.string s2.op)).set 3 (.string s2.name)).set 4 (.int .u8 s2.arg)).cell (j := 4) rfl
          have u5 : ((((((w7.setCell ⟨B, 0, none⟩ (.int .u8 s2.reg)).setCell ⟨B, 1, none⟩ (.int .i64 (countF s2))).setCell ⟨B, 2, none⟩ (.string s2.op)).setCell ⟨B, 3, none⟩ (.string s2.name)).setCell ⟨B, 4, none⟩ (.int .u8 s2.arg)).setCell ⟨B, 5, none⟩ (.string s2.text)).cell? ⟨B, 5, none⟩ = some (.string s2.text) := ((((((H10.out.p2.set 0 (.int .u8 s2.reg)).set 1 (.int .i64 (countF s2))).set 2 (.string s2.op)).set 3 (.string s2.name)).set 4 (.int .u8 s2.arg)).set 5 (.string s2.text)).cell (j := 5) rfl
          exact bodyPost_ret (v := .tuple #[.int .i64 1, .agg (cmOf s2).cells]) (by simp [results, Try.results14, go_sem, cmOf, u0, u1, u2, u3, u4, u5]) rfl ⟨rfl, HE.out.drop.p1.drop⟩
      · obtain rfl : cm = czero := by rw [Hcm.out, if_neg hr1]
        have e1 : (r == 1) = false := by rw [beq_eq_false_iff_ne]; exact hr1
        clear hr0 hr1
        go_wp2_with fail
        refine (preset H9.out.p1).mono ?_
        rintro e w7 ⟨rfl, h10⟩
        have H10 := Lib.hid h10
        clear h10
        have q0 : w7.cell? ⟨B, 0, none⟩ = some (.int .u8 0) := H10.out.p2.cell (j := 0) rfl
        have t0 : w7.frozen? ⟨B, 0, none⟩ = false := H10.out.p2.frozen 0
        have q1 : w7.cell? ⟨B, 1, none⟩ = some (.int .i64 0) := H10.out.p2.cell (j := 1) rfl
        have t1 : w7.frozen? ⟨B, 1, none⟩ = false := H10.out.p2.frozen 1
        have q2 : w7.cell? ⟨B, 2, none⟩ = some (.string ⟨#[]⟩) := H10.out.p2.cell (j := 2) rfl
        have t2 : w7.frozen? ⟨B, 2, none⟩ = false := H10.out.p2.frozen 2
        have q3 : w7.cell? ⟨B, 3, none⟩ = some (.string ⟨#[]⟩) := H10.out.p2.cell (j := 3) rfl
        have t3 : w7.frozen? ⟨B, 3, none⟩ = false := H10.out.p2.frozen 3
        have q4 : w7.cell? ⟨B, 4, none⟩ = some (.int .u8 0) := H10.out.p2.cell (j := 4) rfl
        have t4 : w7.frozen? ⟨B, 4, none⟩ = false := H10.out.p2.frozen 4
        have q5 : w7.cell? ⟨B, 5, none⟩ = some (.string ⟨#[]⟩) := H10.out.p2.cell (j := 5) rfl
        have t5 : w7.frozen? ⟨B, 5, none⟩ = false := H10.out.p2.frozen 5
        go_wp2_with fail
        have HE := Lib.hid ((((((H10.out.p2.set 0 (.int .u8 0)).set 1 (.int .i64 0)).set 2 (.string ⟨#[]⟩)).set 3 (.string ⟨#[]⟩)).set 4 (.int .u8 0)).set 5 (.string ⟨#[]⟩))
        have u0 : (w7.setCell ⟨B, 0, none⟩ (.int .u8 0)).cell? ⟨B, 0, none⟩ = some (.int .u8 0) := (H10.out.p2.set 0 (.int .u8 0)).cell (j := 0) rfl
        have u1 : ((w7.setCell ⟨B, 0, none⟩ (.int .u8 0)).setCell ⟨B, 1, none⟩ (.int .i64 0)).cell? ⟨B, 1, none⟩ = some (.int .i64 0) := ((H10.out.p2.set 0 (.int .u8 0)).set 1 (.int .i64 0)).cell (j := 1) rfl
        have u2 : (((w7.setCell ⟨B, 0, none⟩ (.int .u8 0)).setCell ⟨B, 1, none⟩ (.int .i64 0)).setCell ⟨B, 2, none⟩ (.string ⟨#[]⟩)).cell? ⟨B, 2, none⟩ = some (.string ⟨#[]⟩) := (((H10.out.p2.set 0 (.int .u8 0)).set 1 (.int .i64 0)).set 2 (.string ⟨#[]⟩)).cell (j := 2) rfl
        have u3 : ((((w7.setCell ⟨B, 0, none⟩ (.int .u8 0)).setCell ⟨B, 1, none⟩ (.int .i64 0)).setCell ⟨B, 2, none⟩ (.string ⟨#[]⟩)).setCell ⟨B, 3, none⟩ (.string ⟨#[]⟩)).cell? ⟨B, 3, none⟩ = some (.string ⟨#[]⟩) := ((((H10.out.p2.set 0 (.int .u8 0)).set 1 (.int .i64 0)).set 2 (.string ⟨#[]⟩)).set 3 (.string ⟨#[]⟩)).cell (j := 3) rfl
        have u4 : (((((w7.setCell ⟨B, 0, none⟩ (.int .u8 0)).setCell ⟨B, 1, none⟩ (.int .i64 0)).setCell ⟨B, 2, none⟩ (.string ⟨#[]⟩)).setCell ⟨B, 3, none⟩ (.string ⟨#[]⟩)).setCell ⟨B, 4, none⟩ (.int .u8 0)).cell? ⟨B, 4, none⟩ = some (.int .u8 0) := (((((H10.out.p2.set 0 (.int .u8 0)).set 1 (.int .i64 0)).set 2 (.string ⟨#[]⟩)).set 3 (.string ⟨#[]⟩)).set 4 (.int .u8 0)).cell (j := 4) rfl
        have u5 : ((((((w7.setCell ⟨B, 0, none⟩ (.int .u8 0)).setCell ⟨B, 1, none⟩ (.int .i64 0)).setCell ⟨B, 2, none⟩ (.string ⟨#[]⟩)).setCell ⟨B, 3, none⟩ (.string ⟨#[]⟩)).setCell ⟨B, 4, none⟩ (.int .u8 0)).setCell ⟨B, 5, none⟩ (.string ⟨#[]⟩)).cell? ⟨B, 5, none⟩ = some (.string ⟨#[]⟩) := ((((((H10.out.p2.set 0 (.int .u8 0)).set 1 (.int .i64 0)).set 2 (.string ⟨#[]⟩)).set 3 (.string ⟨#[]⟩)).set 4 (.int .u8 0)).set 5 (.string ⟨#[]⟩)).cell (j := 5) rfl
        exact bodyPost_ret (v := .tuple #[.int .i64 r, .agg czero.cells]) (by simp [results, Try.results14, go_sem, czero, q0, q1, q2, q3, q4, q5, u0, u1, u2, u3, u4, u5]) rfl ⟨rfl, (HE.out.drop.p1.drop)⟩
  | true =>
    rw [hop] at k1
    have hse : s1 = { s with first := false } := by rw [hs1, fstart, hop]; rfl
    have h5 := Owns.pset H1.out { s with first := false } 3 (.bool false) rfl
    rw [← hse] at h5
    have H5 := Lib.hid h5
    clear hs1 hop hse h5
    go_wp2_with fail
    have h5 := H5.out
    clear k1 k3 f3 H1 H5
    refine (pstep h0 hc Hok1.out h5 Hrs.out).mono ?_
    rintro e w3 ⟨rfl, h6⟩
    have j4 : w3.cell? ⟨p, 4, none⟩ = some (.int .u8 s2.reg) := h6.cell (j := 4) rfl
    have j5 : w3.cell? ⟨p, 5, none⟩ = some (.int .i64 s2.count) := h6.cell (j := 5) rfl
    have j6 : w3.cell? ⟨p, 6, none⟩ = some (.string s2.op) := h6.cell (j := 6) rfl
    have j7 : w3.cell? ⟨p, 7, none⟩ = some (.string s2.name) := h6.cell (j := 7) rfl
    have j8 : w3.cell? ⟨p, 8, none⟩ = some (.int .u8 s2.arg) := h6.cell (j := 8) rfl
    have j9 : w3.cell? ⟨p, 9, none⟩ = some (.string s2.text) := h6.cell (j := 9) rfl
    obtain ⟨W4, hW4⟩ : ∃ W4, w3.alloc (.cells #[.int .u8 s2.reg, .int .i64 s2.count, .string s2.op, .string s2.name, .int .u8 s2.arg, .string s2.text] 33) = W4 := ⟨_, rfl⟩
    have h7 := (h6.alloc #[.int .u8 s2.reg, .int .i64 s2.count, .string s2.op, .string s2.name, .int .u8 s2.arg, .string s2.text] 33).p1
    obtain ⟨C, hC⟩ : ∃ C, C = w3.heap.size := ⟨_, rfl⟩
    rw [hW4, ← hC] at h7
    have HC := Lib.hid (pcount Hok2.out.an Hok2.out.bn h7)
    have HW4 := Lib.hid hW4
    have HCC := Lib.hid hC
    clear h5 h6 h7 hW4 hC Hok1
    go_upto_region 7 with (fail)
    rw [HW4.out, ← HCC.out]
    clear HW4 HCC j4 j5 j6 j7 j8 j9
    go_wp2_with fail
    refine HC.out.mono ?_
    rintro e w5 ⟨rfl, h8⟩
    have l1 : w5.cell? ⟨C, 1, none⟩ = some (.int .i64 s2.count) := h8.p1.cell (j := 1) rfl
    have g1 : w5.frozen? ⟨C, 1, none⟩ = false := h8.p1.frozen 1
    have h9 : Owns w0 (w5.setCell ⟨C, 1, none⟩ (.int .i64 (countF s2))) (cobj C (cmOf s2) :: pobj p s2 :: cobj B czero :: R) := h8.p1.set 1 (.int .i64 (countF s2))
    obtain ⟨W6, hW6⟩ : ∃ W6, w5.setCell ⟨C, 1, none⟩ (.int .i64 (countF s2)) = W6 := ⟨_, rfl⟩
    rw [hW6] at h9
    have HW6 := Lib.hid hW6
    have H9 := Lib.hid h9
    clear h8 h9 hW6 HC
    go_upto_region 8 with (fail)
    rw [HW6.out]
    clear HW6 l1 g1
    by_cases hr0 : r = 0
    · subst hr0
      obtain rfl : cm = czero := by rw [Hcm.out, if_neg (by decide)]
      obtain rfl : s3 = s2 := by rw [Hs3.out, if_pos rfl]
      have q0 : W6.cell? ⟨B, 0, none⟩ = some (.int .u8 0) := H9.out.p2.cell (j := 0) rfl
      have t0 : W6.frozen? ⟨B, 0, none⟩ = false := H9.out.p2.frozen 0
      have q1 : W6.cell? ⟨B, 1, none⟩ = some (.int .i64 0) := H9.out.p2.cell (j := 1) rfl
      have t1 : W6.frozen? ⟨B, 1, none⟩ = false := H9.out.p2.frozen 1
      have q2 : W6.cell? ⟨B, 2, none⟩ = some (.string ⟨#[]⟩) := H9.out.p2.cell (j := 2) rfl
      have t2 : W6.frozen? ⟨B, 2, none⟩ = false := H9.out.p2.frozen 2
      have q3 : W6.cell? ⟨B, 3, none⟩ = some (.string ⟨#[]⟩) := H9.out.p2.cell (j := 3) rfl
      have t3 : W6.frozen? ⟨B, 3, none⟩ = false := H9.out.p2.frozen 3
      have q4 : W6.cell? ⟨B, 4, none⟩ = some (.int .u8 0) := H9.out.p2.cell (j := 4) rfl
      have t4 : W6.frozen? ⟨B, 4, none⟩ = false := H9.out.p2.frozen 4
      have q5 : W6.cell? ⟨B, 5, none⟩ = some (.string ⟨#[]⟩) := H9.out.p2.cell (j := 5) rfl
      have t5 : W6.frozen? ⟨B, 5, none⟩ = false := H9.out.p2.frozen 5
      go_wp2_with fail
      have HE := Lib.hid ((((((H9.out.p2.set 0 (.int .u8 0)).set 1 (.int .i64 0)).set 2 (.string ⟨#[]⟩)).set 3 (.string ⟨#[]⟩)).set 4 (.int .u8 0)).set 5 (.string ⟨#[]⟩))
      have u0 : (W6.setCell ⟨B, 0, none⟩ (.int .u8 0)).cell? ⟨B, 0, none⟩ = some (.int .u8 0) := (H9.out.p2.set 0 (.int .u8 0)).cell (j := 0) rfl
      have u1 : ((W6.setCell ⟨B, 0, none⟩ (.int .u8 0)).setCell ⟨B, 1, none⟩ (.int .i64 0)).cell? ⟨B, 1, none⟩ = some (.int .i64 0) := ((H9.out.p2.set 0 (.int .u8 0)).set 1 (.int .i64 0)).cell (j := 1) rfl
      have u2 : (((W6.setCell ⟨B, 0, none⟩ (.int .u8 0)).setCell ⟨B, 1, none⟩ (.int .i64 0)).setCell ⟨B, 2, none⟩ (.string ⟨#[]⟩)).cell? ⟨B, 2, none⟩ = some (.string ⟨#[]⟩) := (((H9.out.p2.set 0 (.int .u8 0)).set 1 (.int .i64 0)).set 2 (.string ⟨#[]⟩)).cell (j := 2) rfl
      have u3 : ((((W6.setCell ⟨B, 0, none⟩ (.int .u8 0)).setCell ⟨B, 1, none⟩ (.int .i64 0)).setCell ⟨B, 2, none⟩ (.string ⟨#[]⟩)).setCell ⟨B, 3, none⟩ (.string ⟨#[]⟩)).cell? ⟨B, 3, none⟩ = some (.string ⟨#[]⟩) := ((((H9.out.p2.set 0 (.int .u8 0)).set 1 (.int .i64 0)).set 2 (.string ⟨#[]⟩)).set 3 (.string ⟨#[]⟩)).cell (j := 3) rfl
      have u4 : (((((W6.setCell ⟨B, 0, none⟩ (.int .u8 0)).setCell ⟨B, 1, none⟩ (.int .i64 0)).setCell ⟨B, 2, none⟩ (.string ⟨#[]⟩)).setCell ⟨B, 3, none⟩ (.string ⟨#[]⟩)).setCell ⟨B, 4, none⟩ (.int .u8 0)).cell? ⟨B, 4, none⟩ = some (.int .u8 0) := (((((H9.out.p2.set 0 (.int .u8 0)).set 1 (.int .i64 0)).set 2 (.string ⟨#[]⟩)).set 3 (.string ⟨#[]⟩)).set 4 (.int .u8 0)).cell (j := 4) rfl
      have u5 : ((((((W6.setCell ⟨B, 0, none⟩ (.int .u8 0)).setCell ⟨B, 1, none⟩ (.int .i64 0)).setCell ⟨B, 2, none⟩ (.string ⟨#[]⟩)).setCell ⟨B, 3, none⟩ (.string ⟨#[]⟩)).setCell ⟨B, 4, none⟩ (.int .u8 0)).setCell ⟨B, 5, none⟩ (.string ⟨#[]⟩)).cell? ⟨B, 5, none⟩ = some (.string ⟨#[]⟩) := ((((((H9.out.p2.set 0 (.int .u8 0)).set 1 (.int .i64 0)).set 2 (.string ⟨#[]⟩)).set 3 (.string ⟨#[]⟩)).set 4 (.int .u8 0)).set 5 (.string ⟨#[]⟩)).cell (j := 5) rfl
      exact bodyPost_ret (v := .tuple #[.int .i64 0, .agg czero.cells]) (by simp [results, Try.results14, go_sem, czero, q0, q1, q2, q3, q4, q5, u0, u1, u2, u3, u4, u5]) rfl ⟨rfl, HE.out.drop.drop⟩
    · obtain rfl : s3 = pzero := by rw [Hs3.out, if_neg hr0]
      have e0 : (r == 0) = false := by rw [beq_eq_false_iff_ne]; exact hr0
      by_cases hr1 : r = 1
      · subst hr1
        obtain rfl : cm = cmOf s2 := by rw [Hcm.out, if_pos rfl]
        clear e0 hr0
        go_wp2_with fail
        refine (preset H9.out.p1).mono ?_
        rintro e w7 ⟨rfl, h10⟩
        have H10 := Lib.hid h10
        clear h10
        have r0 : w7.cell? ⟨C, 0, none⟩ = some (.int .u8 s2.reg) := H10.out.p1.cell (j := 0) rfl
        have q0 : w7.cell? ⟨B, 0, none⟩ = some (.int .u8 0) := H10.out.p2.cell (j := 0) rfl
        have t0 : w7.frozen? ⟨B, 0, none⟩ = false := H10.out.p2.frozen 0
        have r1 : w7.cell? ⟨C, 1, none⟩ = some (.int .i64 (countF s2)) := H10.out.p1.cell (j := 1) rfl
        have q1 : w7.cell? ⟨B, 1, none⟩ = some (.int .i64 0) := H10.out.p2.cell (j := 1) rfl
        have t1 : w7.frozen? ⟨B, 1, none⟩ = false := H10.out.p2.frozen 1
        have r2 : w7.cell? ⟨C, 2, none⟩ = some (.string s2.op) := H10.out.p1.cell (j := 2) rfl
        have q2 : w7.cell? ⟨B, 2, none⟩ = some (.string ⟨#[]⟩) := H10.out.p2.cell (j := 2) rfl
        have t2 : w7.frozen? ⟨B, 2, none⟩ = false := H10.out.p2.frozen 2
        have r3 : w7.cell? ⟨C, 3, none⟩ = some (.string s2.name) := H10.out.p1.cell (j := 3) rfl
        have q3 : w7.cell? ⟨B, 3, none⟩ = some (.string ⟨#[]⟩) := H10.out.p2.cell (j := 3) rfl
        have t3 : w7.frozen? ⟨B, 3, none⟩ = false := H10.out.p2.frozen 3
        have r4 : w7.cell? ⟨C, 4, none⟩ = some (.int .u8 s2.arg) := H10.out.p1.cell (j := 4) rfl
        have q4 : w7.cell? ⟨B, 4, none⟩ = some (.int .u8 0) := H10.out.p2.cell (j := 4) rfl
        have t4 : w7.frozen? ⟨B, 4, none⟩ = false := H10.out.p2.frozen 4
        have r5 : w7.cell? ⟨C, 5, none⟩ = some (.string s2.text) := H10.out.p1.cell (j := 5) rfl
        have q5 : w7.cell? ⟨B, 5, none⟩ = some (.string ⟨#[]⟩) := H10.out.p2.cell (j := 5) rfl
        have t5 : w7.frozen? ⟨B, 5, none⟩ = false := H10.out.p2.frozen 5
        go_wp2_with fail
        go_region
        all_goals
          go_wp2_with fail
          have HE := Lib.hid ((((((H10.out.p2.set 0 (.int .u8 s2.reg)).set 1 (.int .i64 (countF s2))).set 2 (.string s2.op)).set 3 (.string s2.name)).set 4 (.int .u8 s2.arg)).set 5 (.string s2.text)).drew
          have u0 : (w7.setCell ⟨B, 0, none⟩ (.int .u8 s2.reg)).cell? ⟨B, 0, none⟩ = some (.int .u8 s2.reg) := (H10.out.p2.set 0 (.int .u8 s2.reg)).cell (j := 0) rfl
          have u1 : ((w7.setCell ⟨B, 0, none⟩ (.int .u8 s2.reg)).setCell ⟨B, 1, none⟩ (.int .i64 (countF s2))).cell? ⟨B, 1, none⟩ = some (.int .i64 (countF s2)) := ((H10.out.p2.set 0 (.int .u8 s2.reg)).set 1 (.int .i64 (countF s2))).cell (j := 1) rfl
          have u2 : (((w7.setCell ⟨B, 0, none⟩ (.int .u8 s2.reg)).setCell ⟨B, 1, none⟩ (.int .i64 (countF s2))).setCell ⟨B, 2, none⟩ (.string s2.op)).cell? ⟨B, 2, none⟩ = some (.string s2.op) := (((H10.out.p2.set 0 (.int .u8 s2.reg)).set 1 (.int .i64 (countF s2))).set 2 (.string s2.op)).cell (j := 2) rfl
          have u3 : ((((w7.setCell ⟨B, 0, none⟩ (.int .u8 s2.reg)).setCell ⟨B, 1, none⟩ (.int .i64 (countF s2))).setCell ⟨B, 2, none⟩ (.string s2.op)).setCell ⟨B, 3, none⟩ (.string s2.name)).cell? ⟨B, 3, none⟩ = some (.string s2.name) := ((((H10.out.p2.set 0 (.int .u8 s2.reg)).set 1 (.int .i64 (countF s2))).set 2 (.string s2.op)).set 3 (.string s2.name)).cell (j := 3) rfl
          have u4 : (((((w7.setCell ⟨B, 0, none⟩ (.int .u8 s2.reg)).setCell ⟨B, 1, none⟩ (.int .i64 (countF s2))).setCell ⟨B, 2, none⟩ (.string s2.op)).setCell ⟨B, 3, none⟩ (.string s2.name)).setCell ⟨B, 4, none⟩ (.int .u8 s2.arg)).cell? ⟨B, 4, none⟩ = some (.int .u8 s2.arg) := (((((H10.out.p2.set 0 (.int .u8 s2.reg)).set 1 (.int .i64 (countF s2))).set 2 (.string s2.op)).set 3 (.string s2.name)).set 4 (.int .u8 s2.arg)).cell (j := 4) rfl
          have u5 : ((((((w7.setCell ⟨B, 0, none⟩ (.int .u8 s2.reg)).setCell ⟨B, 1, none⟩ (.int .i64 (countF s2))).setCell ⟨B, 2, none⟩ (.string s2.op)).setCell ⟨B, 3, none⟩ (.string s2.name)).setCell ⟨B, 4, none⟩ (.int .u8 s2.arg)).setCell ⟨B, 5, none⟩ (.string s2.text)).cell? ⟨B, 5, none⟩ = some (.string s2.text) := ((((((H10.out.p2.set 0 (.int .u8 s2.reg)).set 1 (.int .i64 (countF s2))).set 2 (.string s2.op)).set 3 (.string s2.name)).set 4 (.int .u8 s2.arg)).set 5 (.string s2.text)).cell (j := 5) rfl
          exact bodyPost_ret (v := .tuple #[.int .i64 1, .agg (cmOf s2).cells]) (by simp [results, Try.results14, go_sem, cmOf, u0, u1, u2, u3, u4, u5]) rfl ⟨rfl, HE.out.drop.p1.drop⟩
      · obtain rfl : cm = czero := by rw [Hcm.out, if_neg hr1]
        have e1 : (r == 1) = false := by rw [beq_eq_false_iff_ne]; exact hr1
        clear hr0 hr1
        go_wp2_with fail
        refine (preset H9.out.p1).mono ?_
        rintro e w7 ⟨rfl, h10⟩
        have H10 := Lib.hid h10
        clear h10
        have q0 : w7.cell? ⟨B, 0, none⟩ = some (.int .u8 0) := H10.out.p2.cell (j := 0) rfl
        have t0 : w7.frozen? ⟨B, 0, none⟩ = false := H10.out.p2.frozen 0
        have q1 : w7.cell? ⟨B, 1, none⟩ = some (.int .i64 0) := H10.out.p2.cell (j := 1) rfl
        have t1 : w7.frozen? ⟨B, 1, none⟩ = false := H10.out.p2.frozen 1
        have q2 : w7.cell? ⟨B, 2, none⟩ = some (.string ⟨#[]⟩) := H10.out.p2.cell (j := 2) rfl
        have t2 : w7.frozen? ⟨B, 2, none⟩ = false := H10.out.p2.frozen 2
        have q3 : w7.cell? ⟨B, 3, none⟩ = some (.string ⟨#[]⟩) := H10.out.p2.cell (j := 3) rfl
        have t3 : w7.frozen? ⟨B, 3, none⟩ = false := H10.out.p2.frozen 3
        have q4 : w7.cell? ⟨B, 4, none⟩ = some (.int .u8 0) := H10.out.p2.cell (j := 4) rfl
        have t4 : w7.frozen? ⟨B, 4, none⟩ = false := H10.out.p2.frozen 4
        have q5 : w7.cell? ⟨B, 5, none⟩ = some (.string ⟨#[]⟩) := H10.out.p2.cell (j := 5) rfl
        have t5 : w7.frozen? ⟨B, 5, none⟩ = false := H10.out.p2.frozen 5
        go_wp2_with fail
        have HE := Lib.hid ((((((H10.out.p2.set 0 (.int .u8 0)).set 1 (.int .i64 0)).set 2 (.string ⟨#[]⟩)).set 3 (.string ⟨#[]⟩)).set 4 (.int .u8 0)).set 5 (.string ⟨#[]⟩))
        have u0 : (w7.setCell ⟨B, 0, none⟩ (.int .u8 0)).cell? ⟨B, 0, none⟩ = some (.int .u8 0) := (H10.out.p2.set 0 (.int .u8 0)).cell (j := 0) rfl
        have u1 : ((w7.setCell ⟨B, 0, none⟩ (.int .u8 0)).setCell ⟨B, 1, none⟩ (.int .i64 0)).cell? ⟨B, 1, none⟩ = some (.int .i64 0) := ((H10.out.p2.set 0 (.int .u8 0)).set 1 (.int .i64 0)).cell (j := 1) rfl
        have u2 : (((w7.setCell ⟨B, 0, none⟩ (.int .u8 0)).setCell ⟨B, 1, none⟩ (.int .i64 0)).setCell ⟨B, 2, none⟩ (.string ⟨#[]⟩)).cell? ⟨B, 2, none⟩ = some (.string ⟨#[]⟩) := (((H10.out.p2.set 0 (.int .u8 0)).set 1 (.int .i64 0)).set 2 (.string ⟨#[]⟩)).cell (j := 2) rfl
        have u3 : ((((w7.setCell ⟨B, 0, none⟩ (.int .u8 0)).setCell ⟨B, 1, none⟩ (.int .i64 0)).setCell ⟨B, 2, none⟩ (.string ⟨#[]⟩)).setCell ⟨B, 3, none⟩ (.string ⟨#[]⟩)).cell? ⟨B, 3, none⟩ = some (.string ⟨#[]⟩) := ((((H10.out.p2.set 0 (.int .u8 0)).set 1 (.int .i64 0)).set 2 (.string ⟨#[]⟩)).set 3 (.string ⟨#[]⟩)).cell (j := 3) rfl
        have u4 : (((((w7.setCell ⟨B, 0, none⟩ (.int .u8 0)).setCell ⟨B, 1, none⟩ (.int .i64 0)).setCell ⟨B, 2, none⟩ (.string ⟨#[]⟩)).setCell ⟨B, 3, none⟩ (.string ⟨#[]⟩)).setCell ⟨B, 4, none⟩ (.int .u8 0)).cell? ⟨B, 4, none⟩ = some (.int .u8 0) := (((((H10.out.p2.set 0 (.int .u8 0)).set 1 (.int .i64 0)).set 2 (.string ⟨#[]⟩)).set 3 (.string ⟨#[]⟩)).set 4 (.int .u8 0)).cell (j := 4) rfl
        have u5 : ((((((w7.setCell ⟨B, 0, none⟩ (.int .u8 0)).setCell ⟨B, 1, none⟩ (.int .i64 0)).setCell ⟨B, 2, none⟩ (.string ⟨#[]⟩)).setCell ⟨B, 3, none⟩ (.string ⟨#[]⟩)).setCell ⟨B, 4, none⟩ (.int .u8 0)).setCell ⟨B, 5, none⟩ (.string ⟨#[]⟩)).cell? ⟨B, 5, none⟩ = some (.string ⟨#[]⟩) := ((((((H10.out.p2.set 0 (.int .u8 0)).set 1 (.int .i64 0)).set 2 (.string ⟨#[]⟩)).set 3 (.string ⟨#[]⟩)).set 4 (.int .u8 0)).set 5 (.string ⟨#[]⟩)).cell (j := 5) rfl
        exact bodyPost_ret (v := .tuple #[.int .i64 r, .agg czero.cells]) (by simp [results, Try.results14, go_sem, czero, q0, q1, q2, q3, q4, q5, u0, u1, u2, u3, u4, u5]) rfl ⟨rfl, (HE.out.drop.p1.drop)⟩
end
end Go.Proofs.Ythcamokblkjkkaa
