/- A parser of keys: equal commands; keys fed one by one. -/
import Derived.Test.YthcamokblkjkkaaPN
namespace Go.Proofs.Ythcamokblkjkkaa
open Go Go.RowKit Go.Fol
attribute [local go_sem ↓] Go.wp_at_zero Go.wp_at_succ
set_option linter.unusedVariables false
set_option linter.unusedSimpArgs false
set_option maxHeartbeats 1000000 in
/-- Equal commands are told equal. -/
theorem eqin_cmd (c : Cm) (w : World) : (Op.equalIn 10000 33 (.agg c.cells) (.agg c.cells)).run Try.prog w = .ok true w := by
  rw [show (10000 : Nat) = 9998 + 1 + 1 from rfl, run_equalIn_agg (ht := by kernel_rfl) (hp := by kernel_rfl)]
  obtain ⟨f0, f1, f2, f3, f4, f5, hf, h0, h1, h2, h3, h4, h5, n0, n1, n2, n3, n4, n5, o0, o1, o2, o3, o4, o5⟩ : ∃ f0 f1 f2 f3 f4 f5 : Field, (Try.prog.fieldsOf 33).toList = [f0, f1, f2, f3, f4, f5] ∧ f0.type = 5 ∧ f1.type = 3 ∧ f2.type = 9 ∧ f3.type = 9 ∧ f4.type = 5 ∧ f5.type = 9 ∧ (f0.name == "_") = false ∧ (f1.name == "_") = false ∧ (f2.name == "_") = false ∧ (f3.name == "_") = false ∧ (f4.name == "_") = false ∧ (f5.name == "_") = false ∧ f0.offset = 0 ∧ f1.offset = 1 ∧ f2.offset = 2 ∧ f3.offset = 3 ∧ f4.offset = 4 ∧ f5.offset = 5 :=
    ⟨(Try.prog.fieldsOf 33)[0]!, (Try.prog.fieldsOf 33)[1]!, (Try.prog.fieldsOf 33)[2]!, (Try.prog.fieldsOf 33)[3]!, (Try.prog.fieldsOf 33)[4]!, (Try.prog.fieldsOf 33)[5]!, by kernel_rfl, by kernel_rfl, by kernel_rfl, by kernel_rfl, by kernel_rfl, by kernel_rfl, by kernel_rfl, by kernel_rfl, by kernel_rfl, by kernel_rfl, by kernel_rfl, by kernel_rfl, by kernel_rfl, by kernel_rfl, by kernel_rfl, by kernel_rfl, by kernel_rfl, by kernel_rfl, by kernel_rfl⟩
  rw [hf]
  generalize (9998 : Nat) = d
  simp only [beq_eq_false_iff_ne, ne_eq] at n0 n1 n2 n3 n4 n5
  simp [Op.eqFields, go_sem, h0, h1, h2, h3, h4, h5, n0, n1, n2, n3, n4, n5, o0, o1, o2, o3, o4, o5]
/-- Keys, one by one: the last one's answer. -/
def fedL (v : Bool) : PSt → List Int → Int × Cm → Int × Cm
  | _, [], a => a
  | s, c :: l, _ => if (feedF s c v).1 ≠ 0 ∧ l ≠ [] then (-1, czero) else fedL v (feedF s c v).2.2 l ((feedF s c v).1, (feedF s c v).2.1)
abbrev bsrc (s : Value) (l : List Int) : Asrt := Asrt.src 1 s l.length (kints .u8 l)
def bytesB (l : List Int) : Prop := ∀ x ∈ l, 0 ≤ x ∧ x ≤ 255
section
variable {w0 w : World} {R : List Asrt}
theorem ccells {W : World} {b : Nat} {c : Cm} (H : Owns w0 W (cobj b c :: R)) : W.cell? ⟨b, 0, none⟩ = some (.int .u8 c.reg) ∧ W.cell? ⟨b, 1, none⟩ = some (.int .i64 c.count) ∧ W.cell? ⟨b, 2, none⟩ = some (.string c.op) ∧ W.cell? ⟨b, 3, none⟩ = some (.string c.name) ∧ W.cell? ⟨b, 4, none⟩ = some (.int .u8 c.arg) ∧ W.cell? ⟨b, 5, none⟩ = some (.string c.text) :=
  ⟨H.cell (j := 0) rfl, H.cell (j := 1) rfl, H.cell (j := 2) rfl, H.cell (j := 3) rfl, H.cell (j := 4) rfl, H.cell (j := 5) rfl⟩
theorem cfrozen {W : World} {b : Nat} {c : Cm} (H : Owns w0 W (cobj b c :: R)) : W.frozen? ⟨b, 0, none⟩ = false ∧ W.frozen? ⟨b, 1, none⟩ = false ∧ W.frozen? ⟨b, 2, none⟩ = false ∧ W.frozen? ⟨b, 3, none⟩ = false ∧ W.frozen? ⟨b, 4, none⟩ = false ∧ W.frozen? ⟨b, 5, none⟩ = false :=
  ⟨H.frozen 0, H.frozen 1, H.frozen 2, H.frozen 3, H.frozen 4, H.frozen 5⟩
theorem Owns.cset {W : World} {b : Nat} {d : Cm} (H : Owns w0 W (cobj b d :: R)) (c : Cm) : Owns w0 ((((((W.setCell ⟨b, 0, none⟩ (.int .u8 c.reg)).setCell ⟨b, 1, none⟩ (.int .i64 c.count)).setCell ⟨b, 2, none⟩ (.string c.op)).setCell ⟨b, 3, none⟩ (.string c.name)).setCell ⟨b, 4, none⟩ (.int .u8 c.arg)).setCell ⟨b, 5, none⟩ (.string c.text)) (cobj b c :: R) := ((((((H.set 0 (.int .u8 c.reg)).set 1 (.int .i64 c.count)).set 2 (.string c.op)).set 3 (.string c.name)).set 4 (.int .u8 c.arg)).set 5 (.string c.text))
set_option maxHeartbeats 4000000 in
theorem csetu {W : World} {b : Nat} {d : Cm} (H : Owns w0 W (cobj b d :: R)) (c : Cm) : (W.setCell ⟨b, 0, none⟩ (.int .u8 c.reg)).cell? ⟨b, 0, none⟩ = some (.int .u8 c.reg) ∧ ((W.setCell ⟨b, 0, none⟩ (.int .u8 c.reg)).setCell ⟨b, 1, none⟩ (.int .i64 c.count)).cell? ⟨b, 1, none⟩ = some (.int .i64 c.count) ∧ (((W.setCell ⟨b, 0, none⟩ (.int .u8 c.reg)).setCell ⟨b, 1, none⟩ (.int .i64 c.count)).setCell ⟨b, 2, none⟩ (.string c.op)).cell? ⟨b, 2, none⟩ = some (.string c.op) ∧ ((((W.setCell ⟨b, 0, none⟩ (.int .u8 c.reg)).setCell ⟨b, 1, none⟩ (.int .i64 c.count)).setCell ⟨b, 2, none⟩ (.string c.op)).setCell ⟨b, 3, none⟩ (.string c.name)).cell? ⟨b, 3, none⟩ = some (.string c.name) ∧ (((((W.setCell ⟨b, 0, none⟩ (.int .u8 c.reg)).setCell ⟨b, 1, none⟩ (.int .i64 c.count)).setCell ⟨b, 2, none⟩ (.string c.op)).setCell ⟨b, 3, none⟩ (.string c.name)).setCell ⟨b, 4, none⟩ (.int .u8 c.arg)).cell? ⟨b, 4, none⟩ = some (.int .u8 c.arg) ∧ ((((((W.setCell ⟨b, 0, none⟩ (.int .u8 c.reg)).setCell ⟨b, 1, none⟩ (.int .i64 c.count)).setCell ⟨b, 2, none⟩ (.string c.op)).setCell ⟨b, 3, none⟩ (.string c.name)).setCell ⟨b, 4, none⟩ (.int .u8 c.arg)).setCell ⟨b, 5, none⟩ (.string c.text)).cell? ⟨b, 5, none⟩ = some (.string c.text) :=
  ⟨(H.set 0 (.int .u8 c.reg)).cell (j := 0) rfl, ((H.set 0 (.int .u8 c.reg)).set 1 (.int .i64 c.count)).cell (j := 1) rfl, (((H.set 0 (.int .u8 c.reg)).set 1 (.int .i64 c.count)).set 2 (.string c.op)).cell (j := 2) rfl, ((((H.set 0 (.int .u8 c.reg)).set 1 (.int .i64 c.count)).set 2 (.string c.op)).set 3 (.string c.name)).cell (j := 3) rfl, (((((H.set 0 (.int .u8 c.reg)).set 1 (.int .i64 c.count)).set 2 (.string c.op)).set 3 (.string c.name)).set 4 (.int .u8 c.arg)).cell (j := 4) rfl, ((((((H.set 0 (.int .u8 c.reg)).set 1 (.int .i64 c.count)).set 2 (.string c.op)).set 3 (.string c.name)).set 4 (.int .u8 c.arg)).set 5 (.string c.text)).cell (j := 5) rfl⟩
set_option maxHeartbeats 2000000 in
theorem pfed {k : Value} {l : List Int} (v : Bool) (hl : bytesB l) (hl2 : l.length ≤ 1000000) (H : Owns w0 w R) (hk : Reads w0 R 1 k l.length (kints .u8 l)) {r : Int} {cm : Cm} (hF : fedL v pzero l (0, czero) = (r, cm)) :
    Calls Try.prog 24 #[k, .bool v] w (Ret (.tuple #[.int .i64 r, .agg cm.cells]) w0 R) := by
  obtain ⟨ka, kc, rfl⟩ := (hk w H).form
  have h1 := H.alloc czero.cells 33
  obtain ⟨W1, hW1⟩ : ∃ W1, w.alloc (.cells czero.cells 33) = W1 := ⟨_, rfl⟩
  obtain ⟨B, hB⟩ : ∃ B, B = w.heap.size := ⟨_, rfl⟩
  rw [hW1, ← hB] at h1
  have HW1 := Lib.hid hW1
  have HB := Lib.hid hB
  have H1 := Lib.hid h1
  have HK := Lib.hid hk
  have HL := Lib.hid hl
  have HF := Lib.hid hF
  clear H h1 hW1 hB hk hl hF
  go_enter Try.func24, Try.ntmps24
  go_upto_region 1 with (fail)
  rw [show Obj.cells #[Value.int IntKind.u8 0, Value.int IntKind.i64 0, Value.string { data := #[] }, Value.string { data := #[] }, Value.int IntKind.u8 0, Value.string { data := #[] }] 33 = Obj.cells czero.cells 33 from rfl, HW1.out, ← HB.out]
  clear HW1 HB
  go_wp2_with fail
  refine (pnew H1.out).mono ?_
  rintro e w2 ⟨p, rfl, h2⟩
  have h3 := h2.alloc czero.cells 33
  obtain ⟨W3, hW3⟩ : ∃ W3, w2.alloc (.cells czero.cells 33) = W3 := ⟨_, rfl⟩
  obtain ⟨C, hC⟩ : ∃ C, C = w2.heap.size := ⟨_, rfl⟩
  rw [hW3, ← hC] at h3
  have HW3 := Lib.hid hW3
  have HC := Lib.hid hC
  have H3 := Lib.hid h3
  clear h2 h3 hW3 hC H1
  go_upto_region 3 with (fail)
  rw [show Obj.cells #[Value.int IntKind.u8 0, Value.int IntKind.i64 0, Value.string { data := #[] }, Value.string { data := #[] }, Value.int IntKind.u8 0, Value.string { data := #[] }] 33 = Obj.cells czero.cells 33 from rfl, HW3.out, ← HC.out]
  clear HW3 HC
  go_wp2_with fail
  go_loopg [7, 9] l.length (fun gk rv q wr => ∃ (i : Nat) (s : PSt) (ri : Int) (ci : Cm), gk + i = l.length ∧ q = .int .i64 i ∧ rv = .int .i64 ri ∧ s.ok ∧ fedL v s (l.drop i) (ri, ci) = (r, cm) ∧ Owns w0 wr (cobj C ci :: pobj p s :: cobj B czero :: R))
  case atStart => exact ⟨0, pzero, 0, czero, rfl, rfl, rfl, ok_zero, by rw [List.drop_zero]; exact HF.out, H3.out⟩
  case round =>
    obtain ⟨i, s, ri, ci, hgi, rfl, rfl, hok, hfd, h4⟩ := hrel
    have H4 := Lib.hid h4
    have Hok := Lib.hid hok
    by_cases hlt : i < l.length
    · obtain ⟨c, hc⟩ : ∃ c, l[i]? = some c := ⟨_, List.getElem?_eq_getElem hlt⟩
      have hcr := HL.out c (List.mem_of_getElem? hc)
      have hc0 : 0 ≤ c := hcr.1
      have hc1 : c ≤ 255 := hcr.2
      obtain ⟨kb, ko, kc', e1, hkc, _, hke⟩ := (HK.out wr h4.drop.drop.drop).cells (by omega) (by decide)
      cases e1
      have kx : wr.cell? ⟨kb, ko + i, none⟩ = some (.int .u8 c) := hke i _ (by simp [kints, hc])
      have hdr : l.drop i = c :: l.drop (i + 1) := by
        obtain ⟨h1, h2⟩ := List.getElem?_eq_some_iff.1 hc
        rw [List.drop_eq_getElem_cons h1, h2]
      rw [hdr, fedL] at hfd
      have hp := pfeed v hc0 hc1 hok h4.p1
      obtain ⟨rf, cf, sf, hfe⟩ : ∃ rf cf sf, feedF s c v = (rf, cf, sf) := ⟨_, _, _, rfl⟩
      have hokf : sf.ok := by have := ok_feed (c := c) (v := v) hok; rw [hfe] at this; exact this
      rw [hfe] at hp hfd
      have Hp := Lib.hid hp
      have Hfd := Lib.hid hfd
      have Hokf := Lib.hid hokf
      clear hcr hke hc hdr hp hfd hfe hokf hok h4
      go_wp2_with fail
      refine Hp.out.mono ?_
      rintro e w5 ⟨rfl, h5⟩
      obtain ⟨q0, q1, q2, q3, q4, q5⟩ := ccells h5.p1
      obtain ⟨t0, t1, t2, t3, t4, t5⟩ := cfrozen h5.p1
      have H5 := Lib.hid h5
      obtain ⟨W6, hW6⟩ : ∃ W6, (((((w5.setCell ⟨C, 0, none⟩ (.int .u8 cf.reg)).setCell ⟨C, 1, none⟩ (.int .i64 cf.count)).setCell ⟨C, 2, none⟩ (.string cf.op)).setCell ⟨C, 3, none⟩ (.string cf.name)).setCell ⟨C, 4, none⟩ (.int .u8 cf.arg)).setCell ⟨C, 5, none⟩ (.string cf.text) = W6 := ⟨_, rfl⟩
      have h6 := Owns.cset h5.p1 cf
      rw [hW6] at h6
      have H6 := Lib.hid h6
      have HW6 := Lib.hid hW6
      clear h5 h6 Hp H4 hW6
      go_upto_region 7 with (fail)
      rw [HW6.out]
      clear HW6 q0 q1 q2 q3 q4 q5 t0 t1 t2 t3 t4 t5
      by_cases hr0 : rf = 0
      · subst hr0
        have hfd := Hfd.out
        rw [if_neg (by simp)] at hfd
        have Hfd2 := Lib.hid hfd
        clear hfd
        go_wp2_with fail
        go_roundg (gk - 1)
        case measure => omega
        case rel => exact ⟨i + 1, sf, 0, cf, by omega, by go_num, rfl, Hokf.out, Hfd2.out, H6.out⟩
      · have e0 : (rf == 0) = false := by rw [beq_eq_false_iff_ne]; exact hr0
        have e0' : (rf != 0) = true := by simp [hr0]
        by_cases hlast : i + 1 < l.length
        · have hne : l.drop (i + 1) ≠ [] := by
            intro h
            have := congrArg List.length h
            simp at this
            omega
          have hfd := Hfd.out
          rw [if_pos ⟨hr0, hne⟩] at hfd
          cases hfd
          have hi2 : (i : Int) < (l.length : Int) - 1 := by omega
          obtain ⟨z0, z1, z2, z3, z4, z5⟩ := ccells H6.out.p2
          obtain ⟨y0, y1, y2, y3, y4, y5⟩ := cfrozen H6.out.p2
          clear hne hr0 Hfd
          go_wp2_with fail
          obtain ⟨u0, u1, u2, u3, u4, u5⟩ := csetu H6.out.p2 czero
          exact bodyPost_ret (v := .tuple #[.int .i64 (-1), .agg czero.cells]) (by simp [czero] at u0 u1 u2 u3 u4 u5; simp [results, Try.results24, go_sem, czero, u0, u1, u2, u3, u4, u5]) rfl ⟨rfl, (Owns.cset H6.out.p2 czero).drop.drop.drop⟩
        · have hne : l.drop (i + 1) = [] := List.drop_eq_nil_of_le (by omega)
          have hfd := Hfd.out
          rw [if_neg (fun h => h.2 hne)] at hfd
          have Hfd2 := Lib.hid hfd
          have hi2 : ¬ ((i : Int) < (l.length : Int) - 1) := by omega
          clear hne hr0 Hfd hfd
          go_wp2_with fail
          go_roundg (gk - 1)
          case measure => omega
          case rel => exact ⟨i + 1, sf, rf, cf, by omega, by go_num, rfl, Hokf.out, Hfd2.out, H6.out⟩
    · obtain rfl : i = l.length := by omega
      rw [List.drop_eq_nil_of_le (Nat.le_refl _), fedL] at hfd
      cases hfd
      obtain ⟨q0, q1, q2, q3, q4, q5⟩ := ccells H4.out
      obtain ⟨z0, z1, z2, z3, z4, z5⟩ := ccells H4.out.p2
      obtain ⟨y0, y1, y2, y3, y4, y5⟩ := cfrozen H4.out.p2
      clear h4 hok
      go_wp2_with fail
      go_region
      all_goals
        go_wp2_with fail
        obtain ⟨u0, u1, u2, u3, u4, u5⟩ := csetu H4.out.p2 cm
        exact bodyPost_ret (v := .tuple #[.int .i64 r, .agg cm.cells]) (by simp [results, Try.results24, go_sem, u0, u1, u2, u3, u4, u5]) rfl ⟨rfl, (Owns.cset H4.out.p2 cm).drew.drop.drop.drop⟩
end
end Go.Proofs.Ythcamokblkjkkaa
