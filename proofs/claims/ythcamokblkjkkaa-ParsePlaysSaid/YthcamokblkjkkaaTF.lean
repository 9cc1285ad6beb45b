/- The document's commands. -/
import Derived.Test.YthcamokblkjkkaaTE
namespace Go.Proofs.Ythcamokblkjkkaa
open Go Go.RowKit Go.Fol
attribute [local go_sem ↓] Go.wp_at_zero Go.wp_at_succ
attribute [local go_sem ↓] run_min2 run_max2
set_option linter.unusedVariables false
set_option linter.unusedSimpArgs false
section
variable {w0 w : World} {R : List Asrt}
theorem thas_cmd {c : Int} (h0 : 0 ≤ c) (hc : c ≤ 255) (w : World) : Calls Try.prog 32 #[.string ⟨#[105, 97, 73, 65, 111, 79, 82, 120, 88, 115, 83, 68, 67, 89, 112, 80, 74, 126, 117, 46, 118, 86]⟩, .int .u8 c] w fun e w' => e = .returned (.bool (cmd1 c)) ∧ w = w' := by
  rw [← has_cmd h0 hc]; exact thas _ c w (by decide)
theorem thas_sel {c : Int} (h0 : 0 ≤ c) (hc : c ≤ 255) (w : World) : Calls Try.prog 32 #[.string ⟨#[100, 120, 121, 99, 115, 60, 62, 126, 117, 85, 74, 111, 118, 86, 73, 65]⟩, .int .u8 c] w fun e w' => e = .returned (.bool (sel1 c)) ∧ w = w' := by
  rw [← has_sel h0 hc]; exact thas _ c w (by decide)
theorem thas_op {c : Int} (h0 : 0 ≤ c) (hc : c ≤ 255) (w : World) : Calls Try.prog 32 #[.string ⟨#[100, 99, 121, 60, 62]⟩, .int .u8 c] w fun e w' => e = .returned (.bool (opB c)) ∧ w = w' := by
  rw [← has_op h0 hc]; exact thas _ c w (by decide)
theorem thas_til {c : Int} (h0 : 0 ≤ c) (hc : c ≤ 255) (w : World) : Calls Try.prog 32 #[.string ⟨#[126, 117, 85]⟩, .int .u8 c] w fun e w' => e = .returned (.bool (tilB c)) ∧ w = w' := by
  rw [← has_til h0 hc]; exact thas _ c w (by decide)
theorem thas_ge {c : Int} (h0 : 0 ≤ c) (hc : c ≤ 255) (w : World) : Calls Try.prog 32 #[.string ⟨#[103, 101, 69]⟩, .int .u8 c] w fun e w' => e = .returned (.bool (geB c)) ∧ w = w' := by
  rw [← has_ge h0 hc]; exact thas _ c w (by decide)
theorem thas_tc {c : Int} (h0 : 0 ≤ c) (hc : c ≤ 255) (w : World) : Calls Try.prog 32 #[.string ⟨#[102, 70, 116, 84, 39, 96]⟩, .int .u8 c] w fun e w' => e = .returned (.bool (tcB c)) ∧ w = w' := by
  rw [← has_tc h0 hc]; exact thas _ c w (by decide)
theorem thas_simple {c : Int} (h0 : 0 ≤ c) (hc : c ≤ 255) (w : World) : Calls Try.prog 32 #[.string ⟨#[104, 106, 107, 108, 43, 45, 95, 48, 94, 36, 124, 119, 87, 98, 66, 101, 69, 59, 44, 71, 72, 77, 76, 37, 40, 41, 123, 125, 110, 78, 42, 35]⟩, .int .u8 c] w fun e w' => e = .returned (.bool (simpleB c)) ∧ w = w' := by
  rw [← has_simple h0 hc]; exact thas _ c w (by decide)
set_option maxHeartbeats 2000000 in
theorem tseen {ka : Option Addr} {kc : Nat} {x : Int} {l : List Int} (c : Cm) (hb : bytesB (x :: l)) (hl : l.length ≤ 100000) (H : Owns w0 w R) (hk : Reads w0 R 1 (.slice ka (x :: l).length kc) (x :: l).length (kints .u8 (x :: l))) :
    Calls Try.prog 53 #[.slice ka (x :: l).length kc, .agg c.cells] w (Ret (.tuple #[.int .i64 (seenT c x l).1, .agg (seenT c x l).2.cells]) w0 R) := by
  obtain ⟨rr, rc, hr⟩ : ∃ rr rc, seenT c x l = (rr, rc) := ⟨_, _, rfl⟩
  rw [hr]
  dsimp only
  obtain ⟨b, o, rfl, hlc, hx0, hx1, hke⟩ := byte_at (i := 0) (x := x) hb rfl hk H
  have HKE := Lib.hid hke
  have Hr := Lib.hid hr
  have Hk := Lib.hid hk
  have Hb := Lib.hid hb
  obtain ⟨n, hn⟩ : ∃ n, n = (x :: l).length := ⟨_, rfl⟩
  have hn1 : 0 < n := by rw [hn]; simp
  have Hn := Lib.hid hn
  rw [← hn] at hlc ⊢
  clear hr hk hb hke hn
  have hcls : sel1 x = true ∨ x = 22 ∨ x = 27 ∨ x = 114 ∨ (sel1 x = false ∧ (x == 22) = false ∧ (x == 27) = false ∧ (x == 114) = false) := by
    simp only [beq_eq_false_iff_ne]
    cases sel1 x
    · simp only [Bool.false_eq_true, false_or, true_and]
      omega
    · exact .inl rfl
  rcases hcls with hp | rfl | rfl | rfl | ⟨hp, e22, e27, e114⟩
  · obtain ⟨rfl, rfl⟩ : rr = 1 ∧ rc = { c with name := namedF x } := by have := Hr.out; rw [seenT, hp] at this; cases this; exact ⟨rfl, rfl⟩
    clear Hr
    obtain ⟨A, hA⟩ : ∃ A, A = w.heap.size := ⟨_, rfl⟩
    obtain ⟨B, hB⟩ : ∃ B, B = w.heap.size + 1 := ⟨_, rfl⟩
    have h1 := (H.alloc c.cells 33).alloc czero.cells 33
    rw [World.size_alloc, ← hB, ← hA] at h1
    obtain ⟨W1, hW1⟩ : ∃ W1, (w.alloc (.cells c.cells 33)).alloc (.cells czero.cells 33) = W1 := ⟨_, rfl⟩
    rw [hW1] at h1
    have HW1 := Lib.hid hW1
    have HA := Lib.hid hA
    have HB := Lib.hid hB
    have H1 := Lib.hid h1
    clear h1 hW1 hA hB H
    go_enter Try.func53, Try.ntmps53
    go_upto_region 1 with (fail)
    rw [show Obj.cells #[Value.int IntKind.u8 0, Value.int IntKind.i64 0, Value.string { data := #[] }, Value.string { data := #[] }, Value.int IntKind.u8 0, Value.string { data := #[] }] 33 = Obj.cells czero.cells 33 from rfl, HW1.out, ← HB.out, ← HA.out]
    clear HW1 HA HB
    have kx : W1.cell? ⟨b, o, none⟩ = some (.int .u8 x) := HKE.out W1 H1.out.drop.drop
    have H1' : Owns w0 W1 (cobj B czero :: cobj A c :: R) := H1.out
    have HN := Lib.hid (tnamed (c := x) (by omega) (by omega) H1')
    clear H1'
    go_wp2_with fail
    refine HN.out.mono ?_
    rintro e w2 ⟨rfl, h2⟩
    have z3 : w2.cell? ⟨A, 3, none⟩ = some (.string c.name) := h2.p1.cell (j := 3) rfl
    have y3 : w2.frozen? ⟨A, 3, none⟩ = false := h2.p1.frozen 3
    obtain ⟨nm, hnm⟩ : ∃ nm, nm = namedF x := ⟨_, rfl⟩
    rw [← hnm]
    have h3 := (Owns.cput h2.p1 { c with name := nm } 3 (.string nm) rfl).p1
    obtain ⟨W3, hW3⟩ : ∃ W3, w2.setCell ⟨A, 3, none⟩ (.string nm) = W3 := ⟨_, rfl⟩
    rw [hW3] at h3
    have HW3 := Lib.hid hW3
    have Hnm := Lib.hid hnm
    have H3 := Lib.hid h3
    clear h2 h3 hW3 hnm HN H1 kx
    go_upto_region 3 with (fail)
    rw [HW3.out]
    clear HW3 z3 y3
    go_wp2_with fail
    refine (thas_sel (c := x) (by omega) (by omega) W3).mono ?_
    rintro e w' ⟨rfl, rfl⟩
    obtain ⟨z0, z1, z2, z3, z4, z5⟩ := ccells H3.out.p1
    obtain ⟨q0, q1, q2, q3, q4, q5⟩ := ccells H3.out
    obtain ⟨t0, t1, t2, t3, t4, t5⟩ := cfrozen H3.out
    go_wp2_with fail
    go_region
    all_goals
      go_wp2_with fail
      obtain ⟨u0, u1, u2, u3, u4, u5⟩ := csetu H3.out { c with name := nm }
      exact bodyPost_ret (v := .tuple #[.int .i64 1, .agg ({ c with name := nm }).cells]) (by simp at u0 u1 u2 u3 u4 u5; simp [results, Try.results53, go_sem, u0, u1, u2, u3, u4, u5]) rfl ⟨by rw [Hnm.out], (Owns.cset H3.out { c with name := nm }).drew.drop.drop⟩
  · have hp : sel1 22 = false := rfl
    obtain ⟨rfl, rfl⟩ : rr = 1 ∧ rc = { c with name := namedF 22 } := by have := Hr.out; rw [seenT, hp] at this; cases this; exact ⟨rfl, rfl⟩
    clear Hr
    obtain ⟨A, hA⟩ : ∃ A, A = w.heap.size := ⟨_, rfl⟩
    obtain ⟨B, hB⟩ : ∃ B, B = w.heap.size + 1 := ⟨_, rfl⟩
    have h1 := (H.alloc c.cells 33).alloc czero.cells 33
    rw [World.size_alloc, ← hB, ← hA] at h1
    obtain ⟨W1, hW1⟩ : ∃ W1, (w.alloc (.cells c.cells 33)).alloc (.cells czero.cells 33) = W1 := ⟨_, rfl⟩
    rw [hW1] at h1
    have HW1 := Lib.hid hW1
    have HA := Lib.hid hA
    have HB := Lib.hid hB
    have H1 := Lib.hid h1
    clear h1 hW1 hA hB H
    go_enter Try.func53, Try.ntmps53
    go_upto_region 1 with (fail)
    rw [show Obj.cells #[Value.int IntKind.u8 0, Value.int IntKind.i64 0, Value.string { data := #[] }, Value.string { data := #[] }, Value.int IntKind.u8 0, Value.string { data := #[] }] 33 = Obj.cells czero.cells 33 from rfl, HW1.out, ← HB.out, ← HA.out]
    clear HW1 HA HB
    have kx : W1.cell? ⟨b, o, none⟩ = some (.int .u8 22) := HKE.out W1 H1.out.drop.drop
    have H1' : Owns w0 W1 (cobj B czero :: cobj A c :: R) := H1.out
    have HN := Lib.hid (tnamed (c := 22) (by omega) (by omega) H1')
    clear H1'
    go_wp2_with fail
    refine HN.out.mono ?_
    rintro e w2 ⟨rfl, h2⟩
    have z3 : w2.cell? ⟨A, 3, none⟩ = some (.string c.name) := h2.p1.cell (j := 3) rfl
    have y3 : w2.frozen? ⟨A, 3, none⟩ = false := h2.p1.frozen 3
    obtain ⟨nm, hnm⟩ : ∃ nm, nm = namedF 22 := ⟨_, rfl⟩
    rw [← hnm]
    have h3 := (Owns.cput h2.p1 { c with name := nm } 3 (.string nm) rfl).p1
    obtain ⟨W3, hW3⟩ : ∃ W3, w2.setCell ⟨A, 3, none⟩ (.string nm) = W3 := ⟨_, rfl⟩
    rw [hW3] at h3
    have HW3 := Lib.hid hW3
    have Hnm := Lib.hid hnm
    have H3 := Lib.hid h3
    clear h2 h3 hW3 hnm HN H1 kx
    go_upto_region 3 with (fail)
    rw [HW3.out]
    clear HW3 z3 y3
    go_wp2_with fail
    refine (thas_sel (c := 22) (by omega) (by omega) W3).mono ?_
    rintro e w' ⟨rfl, rfl⟩
    obtain ⟨z0, z1, z2, z3, z4, z5⟩ := ccells H3.out.p1
    obtain ⟨q0, q1, q2, q3, q4, q5⟩ := ccells H3.out
    obtain ⟨t0, t1, t2, t3, t4, t5⟩ := cfrozen H3.out
    go_wp2_with fail
    go_region
    all_goals
      go_wp2_with fail
      obtain ⟨u0, u1, u2, u3, u4, u5⟩ := csetu H3.out { c with name := nm }
      exact bodyPost_ret (v := .tuple #[.int .i64 1, .agg ({ c with name := nm }).cells]) (by simp at u0 u1 u2 u3 u4 u5; simp [results, Try.results53, go_sem, u0, u1, u2, u3, u4, u5]) rfl ⟨by rw [Hnm.out], (Owns.cset H3.out { c with name := nm }).drew.drop.drop⟩
  · have hp : sel1 27 = false := rfl
    obtain ⟨rfl, rfl⟩ : rr = 1 ∧ rc = { c with name := namedF 27 } := by have := Hr.out; rw [seenT, hp] at this; cases this; exact ⟨rfl, rfl⟩
    clear Hr
    obtain ⟨A, hA⟩ : ∃ A, A = w.heap.size := ⟨_, rfl⟩
    obtain ⟨B, hB⟩ : ∃ B, B = w.heap.size + 1 := ⟨_, rfl⟩
    have h1 := (H.alloc c.cells 33).alloc czero.cells 33
    rw [World.size_alloc, ← hB, ← hA] at h1
    obtain ⟨W1, hW1⟩ : ∃ W1, (w.alloc (.cells c.cells 33)).alloc (.cells czero.cells 33) = W1 := ⟨_, rfl⟩
    rw [hW1] at h1
    have HW1 := Lib.hid hW1
    have HA := Lib.hid hA
    have HB := Lib.hid hB
    have H1 := Lib.hid h1
    clear h1 hW1 hA hB H
    go_enter Try.func53, Try.ntmps53
    go_upto_region 1 with (fail)
    rw [show Obj.cells #[Value.int IntKind.u8 0, Value.int IntKind.i64 0, Value.string { data := #[] }, Value.string { data := #[] }, Value.int IntKind.u8 0, Value.string { data := #[] }] 33 = Obj.cells czero.cells 33 from rfl, HW1.out, ← HB.out, ← HA.out]
    clear HW1 HA HB
    have kx : W1.cell? ⟨b, o, none⟩ = some (.int .u8 27) := HKE.out W1 H1.out.drop.drop
    have H1' : Owns w0 W1 (cobj B czero :: cobj A c :: R) := H1.out
    have HN := Lib.hid (tnamed (c := 27) (by omega) (by omega) H1')
    clear H1'
    go_wp2_with fail
    refine HN.out.mono ?_
    rintro e w2 ⟨rfl, h2⟩
    have z3 : w2.cell? ⟨A, 3, none⟩ = some (.string c.name) := h2.p1.cell (j := 3) rfl
    have y3 : w2.frozen? ⟨A, 3, none⟩ = false := h2.p1.frozen 3
    obtain ⟨nm, hnm⟩ : ∃ nm, nm = namedF 27 := ⟨_, rfl⟩
    rw [← hnm]
    have h3 := (Owns.cput h2.p1 { c with name := nm } 3 (.string nm) rfl).p1
    obtain ⟨W3, hW3⟩ : ∃ W3, w2.setCell ⟨A, 3, none⟩ (.string nm) = W3 := ⟨_, rfl⟩
    rw [hW3] at h3
    have HW3 := Lib.hid hW3
    have Hnm := Lib.hid hnm
    have H3 := Lib.hid h3
    clear h2 h3 hW3 hnm HN H1 kx
    go_upto_region 3 with (fail)
    rw [HW3.out]
    clear HW3 z3 y3
    go_wp2_with fail
    refine (thas_sel (c := 27) (by omega) (by omega) W3).mono ?_
    rintro e w' ⟨rfl, rfl⟩
    obtain ⟨z0, z1, z2, z3, z4, z5⟩ := ccells H3.out.p1
    obtain ⟨q0, q1, q2, q3, q4, q5⟩ := ccells H3.out
    obtain ⟨t0, t1, t2, t3, t4, t5⟩ := cfrozen H3.out
    go_wp2_with fail
    go_region
    all_goals
      go_wp2_with fail
      obtain ⟨u0, u1, u2, u3, u4, u5⟩ := csetu H3.out { c with name := nm }
      exact bodyPost_ret (v := .tuple #[.int .i64 1, .agg ({ c with name := nm }).cells]) (by simp at u0 u1 u2 u3 u4 u5; simp [results, Try.results53, go_sem, u0, u1, u2, u3, u4, u5]) rfl ⟨by rw [Hnm.out], (Owns.cset H3.out { c with name := nm }).drew.drop.drop⟩
  · have hp : sel1 114 = false := rfl
    have hr2 : argT { c with name := namedF 114 } 0 l = (rr, rc) := by have := Hr.out; rw [seenT, hp] at this; exact this
    have Hr2 := Lib.hid hr2
    clear Hr hr2
    obtain ⟨A, hA⟩ : ∃ A, A = w.heap.size := ⟨_, rfl⟩
    obtain ⟨B, hB⟩ : ∃ B, B = w.heap.size + 1 := ⟨_, rfl⟩
    have h1 := (H.alloc c.cells 33).alloc czero.cells 33
    rw [World.size_alloc, ← hB, ← hA] at h1
    obtain ⟨W1, hW1⟩ : ∃ W1, (w.alloc (.cells c.cells 33)).alloc (.cells czero.cells 33) = W1 := ⟨_, rfl⟩
    rw [hW1] at h1
    have HW1 := Lib.hid hW1
    have HA := Lib.hid hA
    have HB := Lib.hid hB
    have H1 := Lib.hid h1
    clear h1 hW1 hA hB H
    go_enter Try.func53, Try.ntmps53
    go_upto_region 1 with (fail)
    rw [show Obj.cells #[Value.int IntKind.u8 0, Value.int IntKind.i64 0, Value.string { data := #[] }, Value.string { data := #[] }, Value.int IntKind.u8 0, Value.string { data := #[] }] 33 = Obj.cells czero.cells 33 from rfl, HW1.out, ← HB.out, ← HA.out]
    clear HW1 HA HB
    have kx : W1.cell? ⟨b, o, none⟩ = some (.int .u8 114) := HKE.out W1 H1.out.drop.drop
    have H1' : Owns w0 W1 (cobj B czero :: cobj A c :: R) := H1.out
    have HN := Lib.hid (tnamed (c := 114) (by omega) (by omega) H1')
    clear H1'
    go_wp2_with fail
    refine HN.out.mono ?_
    rintro e w2 ⟨rfl, h2⟩
    have z3 : w2.cell? ⟨A, 3, none⟩ = some (.string c.name) := h2.p1.cell (j := 3) rfl
    have y3 : w2.frozen? ⟨A, 3, none⟩ = false := h2.p1.frozen 3
    obtain ⟨nm, hnm⟩ : ∃ nm, nm = namedF 114 := ⟨_, rfl⟩
    rw [← hnm]
    have h3 := (Owns.cput h2.p1 { c with name := nm } 3 (.string nm) rfl).p1
    obtain ⟨W3, hW3⟩ : ∃ W3, w2.setCell ⟨A, 3, none⟩ (.string nm) = W3 := ⟨_, rfl⟩
    rw [hW3] at h3
    have HW3 := Lib.hid hW3
    have Hnm := Lib.hid hnm
    have H3 := Lib.hid h3
    clear h2 h3 hW3 hnm HN H1 kx
    go_upto_region 3 with (fail)
    rw [HW3.out]
    clear HW3 z3 y3
    go_wp2_with fail
    refine (thas_sel (c := 114) (by omega) (by omega) W3).mono ?_
    rintro e w' ⟨rfl, rfl⟩
    obtain ⟨z0, z1, z2, z3, z4, z5⟩ := ccells H3.out.p1
    have hk3 : Reads w0 (cobj B czero :: cobj A { c with name := nm } :: R) 1 (.slice (some ⟨b, o, none⟩) (114 :: l).length kc) (114 :: l).length (kints .u8 (114 :: l)) := fun w h => Hk.out w h.drop.drop
    have hc3 := targ { c with name := nm } 0 (by decide) (by decide) Hb.out hl H3.out hk3
    have hnm' := Hnm.out
    subst hnm'
    rw [Hr2.out, ← Hn.out] at hc3
    have HC := Lib.hid hc3
    clear hk3 hc3
    go_wp2_with fail
    refine HC.out.mono ?_
    rintro e w9 ⟨rfl, h9⟩
    obtain ⟨q0, q1, q2, q3, q4, q5⟩ := ccells (h9)
    obtain ⟨t0, t1, t2, t3, t4, t5⟩ := cfrozen (h9)
    go_wp2_with fail
    obtain ⟨u0, u1, u2, u3, u4, u5⟩ := csetu (h9) rc
    exact bodyPost_ret (v := .tuple #[.int .i64 rr, .agg (rc).cells]) (by (try simp [czero] at u0 u1 u2 u3 u4 u5); simp [results, Try.results53, go_sem, czero, u0, u1, u2, u3, u4, u5]) rfl ⟨rfl, (Owns.cset (h9) rc).drop.drop⟩
  · obtain ⟨rfl, rfl⟩ : rr = 2 ∧ rc = czero := by have := Hr.out; simp only [seenT, hp, e22, e27, e114, Bool.or_self, if_false, Bool.false_eq_true] at this; cases this; exact ⟨rfl, rfl⟩
    clear Hr
    obtain ⟨A, hA⟩ : ∃ A, A = w.heap.size := ⟨_, rfl⟩
    obtain ⟨B, hB⟩ : ∃ B, B = w.heap.size + 1 := ⟨_, rfl⟩
    have h1 := (H.alloc c.cells 33).alloc czero.cells 33
    rw [World.size_alloc, ← hB, ← hA] at h1
    obtain ⟨W1, hW1⟩ : ∃ W1, (w.alloc (.cells c.cells 33)).alloc (.cells czero.cells 33) = W1 := ⟨_, rfl⟩
    rw [hW1] at h1
    have HW1 := Lib.hid hW1
    have HA := Lib.hid hA
    have HB := Lib.hid hB
    have H1 := Lib.hid h1
    clear h1 hW1 hA hB H
    go_enter Try.func53, Try.ntmps53
    go_upto_region 1 with (fail)
    rw [show Obj.cells #[Value.int IntKind.u8 0, Value.int IntKind.i64 0, Value.string { data := #[] }, Value.string { data := #[] }, Value.int IntKind.u8 0, Value.string { data := #[] }] 33 = Obj.cells czero.cells 33 from rfl, HW1.out, ← HB.out, ← HA.out]
    clear HW1 HA HB
    have kx : W1.cell? ⟨b, o, none⟩ = some (.int .u8 x) := HKE.out W1 H1.out.drop.drop
    have H1' : Owns w0 W1 (cobj B czero :: cobj A c :: R) := H1.out
    have HN := Lib.hid (tnamed (c := x) (by omega) (by omega) H1')
    clear H1'
    go_wp2_with fail
    refine HN.out.mono ?_
    rintro e w2 ⟨rfl, h2⟩
    have z3 : w2.cell? ⟨A, 3, none⟩ = some (.string c.name) := h2.p1.cell (j := 3) rfl
    have y3 : w2.frozen? ⟨A, 3, none⟩ = false := h2.p1.frozen 3
    obtain ⟨nm, hnm⟩ : ∃ nm, nm = namedF x := ⟨_, rfl⟩
    rw [← hnm]
    have h3 := (Owns.cput h2.p1 { c with name := nm } 3 (.string nm) rfl).p1
    obtain ⟨W3, hW3⟩ : ∃ W3, w2.setCell ⟨A, 3, none⟩ (.string nm) = W3 := ⟨_, rfl⟩
    rw [hW3] at h3
    have HW3 := Lib.hid hW3
    have Hnm := Lib.hid hnm
    have H3 := Lib.hid h3
    clear h2 h3 hW3 hnm HN H1 kx
    go_upto_region 3 with (fail)
    rw [HW3.out]
    clear HW3 z3 y3
    go_wp2_with fail
    refine (thas_sel (c := x) (by omega) (by omega) W3).mono ?_
    rintro e w' ⟨rfl, rfl⟩
    clear Hnm
    go_wp2_with fail
    refine (tbell H3.out).mono ?_
    rintro e w9 ⟨rfl, h9⟩
    obtain ⟨q0, q1, q2, q3, q4, q5⟩ := ccells (h9)
    obtain ⟨t0, t1, t2, t3, t4, t5⟩ := cfrozen (h9)
    go_wp2_with fail
    obtain ⟨u0, u1, u2, u3, u4, u5⟩ := csetu (h9) czero
    exact bodyPost_ret (v := .tuple #[.int .i64 2, .agg (czero).cells]) (by (try simp [czero] at u0 u1 u2 u3 u4 u5); simp [results, Try.results53, go_sem, czero, u0, u1, u2, u3, u4, u5]) rfl ⟨rfl, (Owns.cset (h9) czero).drop.drop⟩
set_option maxHeartbeats 2000000 in
theorem tnormal {ka : Option Addr} {kc : Nat} {x : Int} {l : List Int} (c : Cm) (hb : bytesB (x :: l)) (hl : l.length ≤ 100000) (H : Owns w0 w R) (hk : Reads w0 R 1 (.slice ka (x :: l).length kc) (x :: l).length (kints .u8 (x :: l))) :
    Calls Try.prog 54 #[.slice ka (x :: l).length kc, .agg c.cells] w (Ret (.tuple #[.int .i64 (normalT c x l).1, .agg (normalT c x l).2.cells]) w0 R) := by
  obtain ⟨rr, rc, hr⟩ : ∃ rr rc, normalT c x l = (rr, rc) := ⟨_, _, rfl⟩
  rw [hr]
  dsimp only
  obtain ⟨b, o, rfl, hlc, hx0, hx1, hke⟩ := byte_at (i := 0) (x := x) hb rfl hk H
  have HKE := Lib.hid hke
  have Hr := Lib.hid hr
  have Hk := Lib.hid hk
  have Hb := Lib.hid hb
  obtain ⟨n, hn⟩ : ∃ n, n = (x :: l).length := ⟨_, rfl⟩
  have hn1 : 0 < n := by rw [hn]; simp
  have Hn := Lib.hid hn
  rw [← hn] at hlc ⊢
  clear hr hk hb hke hn
  have hcls : cmd1 x = true ∨ x = 22 ∨ x = 18 ∨ x = 15 ∨ x = 9 ∨ x = 114 ∨ x = 109 ∨ x = 113 ∨ x = 64 ∨ (cmd1 x = false ∧ (x == 22) = false ∧ (x == 18) = false ∧ (x == 15) = false ∧ (x == 9) = false ∧ (x == 114) = false ∧ (x == 109) = false ∧ (x == 113) = false ∧ (x == 64) = false) := by
    simp only [beq_eq_false_iff_ne]
    cases cmd1 x
    · simp only [Bool.false_eq_true, false_or, true_and]
      omega
    · exact .inl rfl
  rcases hcls with hp | rfl | rfl | rfl | rfl | rfl | rfl | rfl | rfl | ⟨hp, e22, e18, e15, e9, e114, e109, e113, e64⟩
  · obtain ⟨rfl, rfl⟩ : rr = 1 ∧ rc = { c with name := namedF x } := by have := Hr.out; rw [normalT, hp] at this; cases this; exact ⟨rfl, rfl⟩
    clear Hr
    obtain ⟨A, hA⟩ : ∃ A, A = w.heap.size := ⟨_, rfl⟩
    obtain ⟨B, hB⟩ : ∃ B, B = w.heap.size + 1 := ⟨_, rfl⟩
    have h1 := (H.alloc c.cells 33).alloc czero.cells 33
    rw [World.size_alloc, ← hB, ← hA] at h1
    obtain ⟨W1, hW1⟩ : ∃ W1, (w.alloc (.cells c.cells 33)).alloc (.cells czero.cells 33) = W1 := ⟨_, rfl⟩
    rw [hW1] at h1
    have HW1 := Lib.hid hW1
    have HA := Lib.hid hA
    have HB := Lib.hid hB
    have H1 := Lib.hid h1
    clear h1 hW1 hA hB H
    go_enter Try.func54, Try.ntmps54
    go_upto_region 1 with (fail)
    rw [show Obj.cells #[Value.int IntKind.u8 0, Value.int IntKind.i64 0, Value.string { data := #[] }, Value.string { data := #[] }, Value.int IntKind.u8 0, Value.string { data := #[] }] 33 = Obj.cells czero.cells 33 from rfl, HW1.out, ← HB.out, ← HA.out]
    clear HW1 HA HB
    have kx : W1.cell? ⟨b, o, none⟩ = some (.int .u8 x) := HKE.out W1 H1.out.drop.drop
    have H1' : Owns w0 W1 (cobj B czero :: cobj A c :: R) := H1.out
    have HN := Lib.hid (tnamed (c := x) (by omega) (by omega) H1')
    clear H1'
    go_wp2_with fail
    refine HN.out.mono ?_
    rintro e w2 ⟨rfl, h2⟩
    have z3 : w2.cell? ⟨A, 3, none⟩ = some (.string c.name) := h2.p1.cell (j := 3) rfl
    have y3 : w2.frozen? ⟨A, 3, none⟩ = false := h2.p1.frozen 3
    obtain ⟨nm, hnm⟩ : ∃ nm, nm = namedF x := ⟨_, rfl⟩
    rw [← hnm]
    have h3 := (Owns.cput h2.p1 { c with name := nm } 3 (.string nm) rfl).p1
    obtain ⟨W3, hW3⟩ : ∃ W3, w2.setCell ⟨A, 3, none⟩ (.string nm) = W3 := ⟨_, rfl⟩
    rw [hW3] at h3
    have HW3 := Lib.hid hW3
    have Hnm := Lib.hid hnm
    have H3 := Lib.hid h3
    clear h2 h3 hW3 hnm HN H1 kx
    go_upto_region 3 with (fail)
    rw [HW3.out]
    clear HW3 z3 y3
    go_wp2_with fail
    refine (thas_cmd (c := x) (by omega) (by omega) W3).mono ?_
    rintro e w' ⟨rfl, rfl⟩
    obtain ⟨z0, z1, z2, z3, z4, z5⟩ := ccells H3.out.p1
    obtain ⟨q0, q1, q2, q3, q4, q5⟩ := ccells H3.out
    obtain ⟨t0, t1, t2, t3, t4, t5⟩ := cfrozen H3.out
    go_wp2_with fail
    go_region
    all_goals
      go_wp2_with fail
      obtain ⟨u0, u1, u2, u3, u4, u5⟩ := csetu H3.out { c with name := nm }
      exact bodyPost_ret (v := .tuple #[.int .i64 1, .agg ({ c with name := nm }).cells]) (by simp at u0 u1 u2 u3 u4 u5; simp [results, Try.results54, go_sem, u0, u1, u2, u3, u4, u5]) rfl ⟨by rw [Hnm.out], (Owns.cset H3.out { c with name := nm }).drew.drop.drop⟩
  · have hp : cmd1 22 = false := rfl
    obtain ⟨rfl, rfl⟩ : rr = 1 ∧ rc = { c with name := namedF 22 } := by have := Hr.out; rw [normalT, hp] at this; cases this; exact ⟨rfl, rfl⟩
    clear Hr
    obtain ⟨A, hA⟩ : ∃ A, A = w.heap.size := ⟨_, rfl⟩
    obtain ⟨B, hB⟩ : ∃ B, B = w.heap.size + 1 := ⟨_, rfl⟩
    have h1 := (H.alloc c.cells 33).alloc czero.cells 33
    rw [World.size_alloc, ← hB, ← hA] at h1
    obtain ⟨W1, hW1⟩ : ∃ W1, (w.alloc (.cells c.cells 33)).alloc (.cells czero.cells 33) = W1 := ⟨_, rfl⟩
    rw [hW1] at h1
    have HW1 := Lib.hid hW1
    have HA := Lib.hid hA
    have HB := Lib.hid hB
    have H1 := Lib.hid h1
    clear h1 hW1 hA hB H
    go_enter Try.func54, Try.ntmps54
    go_upto_region 1 with (fail)
    rw [show Obj.cells #[Value.int IntKind.u8 0, Value.int IntKind.i64 0, Value.string { data := #[] }, Value.string { data := #[] }, Value.int IntKind.u8 0, Value.string { data := #[] }] 33 = Obj.cells czero.cells 33 from rfl, HW1.out, ← HB.out, ← HA.out]
    clear HW1 HA HB
    have kx : W1.cell? ⟨b, o, none⟩ = some (.int .u8 22) := HKE.out W1 H1.out.drop.drop
    have H1' : Owns w0 W1 (cobj B czero :: cobj A c :: R) := H1.out
    have HN := Lib.hid (tnamed (c := 22) (by omega) (by omega) H1')
    clear H1'
    go_wp2_with fail
    refine HN.out.mono ?_
    rintro e w2 ⟨rfl, h2⟩
    have z3 : w2.cell? ⟨A, 3, none⟩ = some (.string c.name) := h2.p1.cell (j := 3) rfl
    have y3 : w2.frozen? ⟨A, 3, none⟩ = false := h2.p1.frozen 3
    obtain ⟨nm, hnm⟩ : ∃ nm, nm = namedF 22 := ⟨_, rfl⟩
    rw [← hnm]
    have h3 := (Owns.cput h2.p1 { c with name := nm } 3 (.string nm) rfl).p1
    obtain ⟨W3, hW3⟩ : ∃ W3, w2.setCell ⟨A, 3, none⟩ (.string nm) = W3 := ⟨_, rfl⟩
    rw [hW3] at h3
    have HW3 := Lib.hid hW3
    have Hnm := Lib.hid hnm
    have H3 := Lib.hid h3
    clear h2 h3 hW3 hnm HN H1 kx
    go_upto_region 3 with (fail)
    rw [HW3.out]
    clear HW3 z3 y3
    go_wp2_with fail
    refine (thas_cmd (c := 22) (by omega) (by omega) W3).mono ?_
    rintro e w' ⟨rfl, rfl⟩
    obtain ⟨z0, z1, z2, z3, z4, z5⟩ := ccells H3.out.p1
    obtain ⟨q0, q1, q2, q3, q4, q5⟩ := ccells H3.out
    obtain ⟨t0, t1, t2, t3, t4, t5⟩ := cfrozen H3.out
    go_wp2_with fail
    go_region
    all_goals
      go_wp2_with fail
      obtain ⟨u0, u1, u2, u3, u4, u5⟩ := csetu H3.out { c with name := nm }
      exact bodyPost_ret (v := .tuple #[.int .i64 1, .agg ({ c with name := nm }).cells]) (by simp at u0 u1 u2 u3 u4 u5; simp [results, Try.results54, go_sem, u0, u1, u2, u3, u4, u5]) rfl ⟨by rw [Hnm.out], (Owns.cset H3.out { c with name := nm }).drew.drop.drop⟩
  · have hp : cmd1 18 = false := rfl
    obtain ⟨rfl, rfl⟩ : rr = 1 ∧ rc = { c with name := namedF 18 } := by have := Hr.out; rw [normalT, hp] at this; cases this; exact ⟨rfl, rfl⟩
    clear Hr
    obtain ⟨A, hA⟩ : ∃ A, A = w.heap.size := ⟨_, rfl⟩
    obtain ⟨B, hB⟩ : ∃ B, B = w.heap.size + 1 := ⟨_, rfl⟩
    have h1 := (H.alloc c.cells 33).alloc czero.cells 33
    rw [World.size_alloc, ← hB, ← hA] at h1
    obtain ⟨W1, hW1⟩ : ∃ W1, (w.alloc (.cells c.cells 33)).alloc (.cells czero.cells 33) = W1 := ⟨_, rfl⟩
    rw [hW1] at h1
    have HW1 := Lib.hid hW1
    have HA := Lib.hid hA
    have HB := Lib.hid hB
    have H1 := Lib.hid h1
    clear h1 hW1 hA hB H
    go_enter Try.func54, Try.ntmps54
    go_upto_region 1 with (fail)
    rw [show Obj.cells #[Value.int IntKind.u8 0, Value.int IntKind.i64 0, Value.string { data := #[] }, Value.string { data := #[] }, Value.int IntKind.u8 0, Value.string { data := #[] }] 33 = Obj.cells czero.cells 33 from rfl, HW1.out, ← HB.out, ← HA.out]
    clear HW1 HA HB
    have kx : W1.cell? ⟨b, o, none⟩ = some (.int .u8 18) := HKE.out W1 H1.out.drop.drop
    have H1' : Owns w0 W1 (cobj B czero :: cobj A c :: R) := H1.out
    have HN := Lib.hid (tnamed (c := 18) (by omega) (by omega) H1')
    clear H1'
    go_wp2_with fail
    refine HN.out.mono ?_
    rintro e w2 ⟨rfl, h2⟩
    have z3 : w2.cell? ⟨A, 3, none⟩ = some (.string c.name) := h2.p1.cell (j := 3) rfl
    have y3 : w2.frozen? ⟨A, 3, none⟩ = false := h2.p1.frozen 3
    obtain ⟨nm, hnm⟩ : ∃ nm, nm = namedF 18 := ⟨_, rfl⟩
    rw [← hnm]
    have h3 := (Owns.cput h2.p1 { c with name := nm } 3 (.string nm) rfl).p1
    obtain ⟨W3, hW3⟩ : ∃ W3, w2.setCell ⟨A, 3, none⟩ (.string nm) = W3 := ⟨_, rfl⟩
    rw [hW3] at h3
    have HW3 := Lib.hid hW3
    have Hnm := Lib.hid hnm
    have H3 := Lib.hid h3
    clear h2 h3 hW3 hnm HN H1 kx
    go_upto_region 3 with (fail)
    rw [HW3.out]
    clear HW3 z3 y3
    go_wp2_with fail
    refine (thas_cmd (c := 18) (by omega) (by omega) W3).mono ?_
    rintro e w' ⟨rfl, rfl⟩
    obtain ⟨z0, z1, z2, z3, z4, z5⟩ := ccells H3.out.p1
    obtain ⟨q0, q1, q2, q3, q4, q5⟩ := ccells H3.out
    obtain ⟨t0, t1, t2, t3, t4, t5⟩ := cfrozen H3.out
    go_wp2_with fail
    go_region
    all_goals
      go_wp2_with fail
      obtain ⟨u0, u1, u2, u3, u4, u5⟩ := csetu H3.out { c with name := nm }
      exact bodyPost_ret (v := .tuple #[.int .i64 1, .agg ({ c with name := nm }).cells]) (by simp at u0 u1 u2 u3 u4 u5; simp [results, Try.results54, go_sem, u0, u1, u2, u3, u4, u5]) rfl ⟨by rw [Hnm.out], (Owns.cset H3.out { c with name := nm }).drew.drop.drop⟩
  · have hp : cmd1 15 = false := rfl
    obtain ⟨rfl, rfl⟩ : rr = 1 ∧ rc = { c with name := namedF 15 } := by have := Hr.out; rw [normalT, hp] at this; cases this; exact ⟨rfl, rfl⟩
    clear Hr
    obtain ⟨A, hA⟩ : ∃ A, A = w.heap.size := ⟨_, rfl⟩
    obtain ⟨B, hB⟩ : ∃ B, B = w.heap.size + 1 := ⟨_, rfl⟩
    have h1 := (H.alloc c.cells 33).alloc czero.cells 33
    rw [World.size_alloc, ← hB, ← hA] at h1
    obtain ⟨W1, hW1⟩ : ∃ W1, (w.alloc (.cells c.cells 33)).alloc (.cells czero.cells 33) = W1 := ⟨_, rfl⟩
    rw [hW1] at h1
    have HW1 := Lib.hid hW1
    have HA := Lib.hid hA
    have HB := Lib.hid hB
    have H1 := Lib.hid h1
    clear h1 hW1 hA hB H
    go_enter Try.func54, Try.ntmps54
    go_upto_region 1 with (fail)
    rw [show Obj.cells #[Value.int IntKind.u8 0, Value.int IntKind.i64 0, Value.string { data := #[] }, Value.string { data := #[] }, Value.int IntKind.u8 0, Value.string { data := #[] }] 33 = Obj.cells czero.cells 33 from rfl, HW1.out, ← HB.out, ← HA.out]
    clear HW1 HA HB
    have kx : W1.cell? ⟨b, o, none⟩ = some (.int .u8 15) := HKE.out W1 H1.out.drop.drop
    have H1' : Owns w0 W1 (cobj B czero :: cobj A c :: R) := H1.out
    have HN := Lib.hid (tnamed (c := 15) (by omega) (by omega) H1')
    clear H1'
    go_wp2_with fail
    refine HN.out.mono ?_
    rintro e w2 ⟨rfl, h2⟩
    have z3 : w2.cell? ⟨A, 3, none⟩ = some (.string c.name) := h2.p1.cell (j := 3) rfl
    have y3 : w2.frozen? ⟨A, 3, none⟩ = false := h2.p1.frozen 3
    obtain ⟨nm, hnm⟩ : ∃ nm, nm = namedF 15 := ⟨_, rfl⟩
    rw [← hnm]
    have h3 := (Owns.cput h2.p1 { c with name := nm } 3 (.string nm) rfl).p1
    obtain ⟨W3, hW3⟩ : ∃ W3, w2.setCell ⟨A, 3, none⟩ (.string nm) = W3 := ⟨_, rfl⟩
    rw [hW3] at h3
    have HW3 := Lib.hid hW3
    have Hnm := Lib.hid hnm
    have H3 := Lib.hid h3
    clear h2 h3 hW3 hnm HN H1 kx
    go_upto_region 3 with (fail)
    rw [HW3.out]
    clear HW3 z3 y3
    go_wp2_with fail
    refine (thas_cmd (c := 15) (by omega) (by omega) W3).mono ?_
    rintro e w' ⟨rfl, rfl⟩
    obtain ⟨z0, z1, z2, z3, z4, z5⟩ := ccells H3.out.p1
    obtain ⟨q0, q1, q2, q3, q4, q5⟩ := ccells H3.out
    obtain ⟨t0, t1, t2, t3, t4, t5⟩ := cfrozen H3.out
    go_wp2_with fail
    go_region
    all_goals
      go_wp2_with fail
      obtain ⟨u0, u1, u2, u3, u4, u5⟩ := csetu H3.out { c with name := nm }
      exact bodyPost_ret (v := .tuple #[.int .i64 1, .agg ({ c with name := nm }).cells]) (by simp at u0 u1 u2 u3 u4 u5; simp [results, Try.results54, go_sem, u0, u1, u2, u3, u4, u5]) rfl ⟨by rw [Hnm.out], (Owns.cset H3.out { c with name := nm }).drew.drop.drop⟩
  · have hp : cmd1 9 = false := rfl
    obtain ⟨rfl, rfl⟩ : rr = 1 ∧ rc = { c with name := namedF 9 } := by have := Hr.out; rw [normalT, hp] at this; cases this; exact ⟨rfl, rfl⟩
    clear Hr
    obtain ⟨A, hA⟩ : ∃ A, A = w.heap.size := ⟨_, rfl⟩
    obtain ⟨B, hB⟩ : ∃ B, B = w.heap.size + 1 := ⟨_, rfl⟩
    have h1 := (H.alloc c.cells 33).alloc czero.cells 33
    rw [World.size_alloc, ← hB, ← hA] at h1
    obtain ⟨W1, hW1⟩ : ∃ W1, (w.alloc (.cells c.cells 33)).alloc (.cells czero.cells 33) = W1 := ⟨_, rfl⟩
    rw [hW1] at h1
    have HW1 := Lib.hid hW1
    have HA := Lib.hid hA
    have HB := Lib.hid hB
    have H1 := Lib.hid h1
    clear h1 hW1 hA hB H
    go_enter Try.func54, Try.ntmps54
    go_upto_region 1 with (fail)
    rw [show Obj.cells #[Value.int IntKind.u8 0, Value.int IntKind.i64 0, Value.string { data := #[] }, Value.string { data := #[] }, Value.int IntKind.u8 0, Value.string { data := #[] }] 33 = Obj.cells czero.cells 33 from rfl, HW1.out, ← HB.out, ← HA.out]
    clear HW1 HA HB
    have kx : W1.cell? ⟨b, o, none⟩ = some (.int .u8 9) := HKE.out W1 H1.out.drop.drop
    have H1' : Owns w0 W1 (cobj B czero :: cobj A c :: R) := H1.out
    have HN := Lib.hid (tnamed (c := 9) (by omega) (by omega) H1')
    clear H1'
    go_wp2_with fail
    refine HN.out.mono ?_
    rintro e w2 ⟨rfl, h2⟩
    have z3 : w2.cell? ⟨A, 3, none⟩ = some (.string c.name) := h2.p1.cell (j := 3) rfl
    have y3 : w2.frozen? ⟨A, 3, none⟩ = false := h2.p1.frozen 3
    obtain ⟨nm, hnm⟩ : ∃ nm, nm = namedF 9 := ⟨_, rfl⟩
    rw [← hnm]
    have h3 := (Owns.cput h2.p1 { c with name := nm } 3 (.string nm) rfl).p1
    obtain ⟨W3, hW3⟩ : ∃ W3, w2.setCell ⟨A, 3, none⟩ (.string nm) = W3 := ⟨_, rfl⟩
    rw [hW3] at h3
    have HW3 := Lib.hid hW3
    have Hnm := Lib.hid hnm
    have H3 := Lib.hid h3
    clear h2 h3 hW3 hnm HN H1 kx
    go_upto_region 3 with (fail)
    rw [HW3.out]
    clear HW3 z3 y3
    go_wp2_with fail
    refine (thas_cmd (c := 9) (by omega) (by omega) W3).mono ?_
    rintro e w' ⟨rfl, rfl⟩
    obtain ⟨z0, z1, z2, z3, z4, z5⟩ := ccells H3.out.p1
    obtain ⟨q0, q1, q2, q3, q4, q5⟩ := ccells H3.out
    obtain ⟨t0, t1, t2, t3, t4, t5⟩ := cfrozen H3.out
    go_wp2_with fail
    go_region
    all_goals
      go_wp2_with fail
      obtain ⟨u0, u1, u2, u3, u4, u5⟩ := csetu H3.out { c with name := nm }
      exact bodyPost_ret (v := .tuple #[.int .i64 1, .agg ({ c with name := nm }).cells]) (by simp at u0 u1 u2 u3 u4 u5; simp [results, Try.results54, go_sem, u0, u1, u2, u3, u4, u5]) rfl ⟨by rw [Hnm.out], (Owns.cset H3.out { c with name := nm }).drew.drop.drop⟩
  · have hp : cmd1 114 = false := rfl
    have hr2 : argT { c with name := namedF 114 } 0 l = (rr, rc) := by have := Hr.out; rw [normalT, hp] at this; exact this
    have Hr2 := Lib.hid hr2
    clear Hr hr2
    obtain ⟨A, hA⟩ : ∃ A, A = w.heap.size := ⟨_, rfl⟩
    obtain ⟨B, hB⟩ : ∃ B, B = w.heap.size + 1 := ⟨_, rfl⟩
    have h1 := (H.alloc c.cells 33).alloc czero.cells 33
    rw [World.size_alloc, ← hB, ← hA] at h1
    obtain ⟨W1, hW1⟩ : ∃ W1, (w.alloc (.cells c.cells 33)).alloc (.cells czero.cells 33) = W1 := ⟨_, rfl⟩
    rw [hW1] at h1
    have HW1 := Lib.hid hW1
    have HA := Lib.hid hA
    have HB := Lib.hid hB
    have H1 := Lib.hid h1
    clear h1 hW1 hA hB H
    go_enter Try.func54, Try.ntmps54
    go_upto_region 1 with (fail)
    rw [show Obj.cells #[Value.int IntKind.u8 0, Value.int IntKind.i64 0, Value.string { data := #[] }, Value.string { data := #[] }, Value.int IntKind.u8 0, Value.string { data := #[] }] 33 = Obj.cells czero.cells 33 from rfl, HW1.out, ← HB.out, ← HA.out]
    clear HW1 HA HB
    have kx : W1.cell? ⟨b, o, none⟩ = some (.int .u8 114) := HKE.out W1 H1.out.drop.drop
    have H1' : Owns w0 W1 (cobj B czero :: cobj A c :: R) := H1.out
    have HN := Lib.hid (tnamed (c := 114) (by omega) (by omega) H1')
    clear H1'
    go_wp2_with fail
    refine HN.out.mono ?_
    rintro e w2 ⟨rfl, h2⟩
    have z3 : w2.cell? ⟨A, 3, none⟩ = some (.string c.name) := h2.p1.cell (j := 3) rfl
    have y3 : w2.frozen? ⟨A, 3, none⟩ = false := h2.p1.frozen 3
    obtain ⟨nm, hnm⟩ : ∃ nm, nm = namedF 114 := ⟨_, rfl⟩
    rw [← hnm]
    have h3 := (Owns.cput h2.p1 { c with name := nm } 3 (.string nm) rfl).p1
    obtain ⟨W3, hW3⟩ : ∃ W3, w2.setCell ⟨A, 3, none⟩ (.string nm) = W3 := ⟨_, rfl⟩
    rw [hW3] at h3
    have HW3 := Lib.hid hW3
    have Hnm := Lib.hid hnm
    have H3 := Lib.hid h3
    clear h2 h3 hW3 hnm HN H1 kx
    go_upto_region 3 with (fail)
    rw [HW3.out]
    clear HW3 z3 y3
    go_wp2_with fail
    refine (thas_cmd (c := 114) (by omega) (by omega) W3).mono ?_
    rintro e w' ⟨rfl, rfl⟩
    obtain ⟨z0, z1, z2, z3, z4, z5⟩ := ccells H3.out.p1
    have hk3 : Reads w0 (cobj B czero :: cobj A { c with name := nm } :: R) 1 (.slice (some ⟨b, o, none⟩) (114 :: l).length kc) (114 :: l).length (kints .u8 (114 :: l)) := fun w h => Hk.out w h.drop.drop
    have hc3 := targ { c with name := nm } 0 (by decide) (by decide) Hb.out hl H3.out hk3
    have hnm' := Hnm.out
    subst hnm'
    rw [Hr2.out, ← Hn.out] at hc3
    have HC := Lib.hid hc3
    clear hk3 hc3
    go_wp2_with fail
    refine HC.out.mono ?_
    rintro e w9 ⟨rfl, h9⟩
    obtain ⟨q0, q1, q2, q3, q4, q5⟩ := ccells (h9)
    obtain ⟨t0, t1, t2, t3, t4, t5⟩ := cfrozen (h9)
    go_wp2_with fail
    obtain ⟨u0, u1, u2, u3, u4, u5⟩ := csetu (h9) rc
    exact bodyPost_ret (v := .tuple #[.int .i64 rr, .agg (rc).cells]) (by (try simp [czero] at u0 u1 u2 u3 u4 u5); simp [results, Try.results54, go_sem, czero, u0, u1, u2, u3, u4, u5]) rfl ⟨rfl, (Owns.cset (h9) rc).drop.drop⟩
  · have hp : cmd1 109 = false := rfl
    have hr2 : argT { c with name := namedF 109 } 2 l = (rr, rc) := by have := Hr.out; rw [normalT, hp] at this; exact this
    have Hr2 := Lib.hid hr2
    clear Hr hr2
    obtain ⟨A, hA⟩ : ∃ A, A = w.heap.size := ⟨_, rfl⟩
    obtain ⟨B, hB⟩ : ∃ B, B = w.heap.size + 1 := ⟨_, rfl⟩
    have h1 := (H.alloc c.cells 33).alloc czero.cells 33
    rw [World.size_alloc, ← hB, ← hA] at h1
    obtain ⟨W1, hW1⟩ : ∃ W1, (w.alloc (.cells c.cells 33)).alloc (.cells czero.cells 33) = W1 := ⟨_, rfl⟩
    rw [hW1] at h1
    have HW1 := Lib.hid hW1
    have HA := Lib.hid hA
    have HB := Lib.hid hB
    have H1 := Lib.hid h1
    clear h1 hW1 hA hB H
    go_enter Try.func54, Try.ntmps54
    go_upto_region 1 with (fail)
    rw [show Obj.cells #[Value.int IntKind.u8 0, Value.int IntKind.i64 0, Value.string { data := #[] }, Value.string { data := #[] }, Value.int IntKind.u8 0, Value.string { data := #[] }] 33 = Obj.cells czero.cells 33 from rfl, HW1.out, ← HB.out, ← HA.out]
    clear HW1 HA HB
    have kx : W1.cell? ⟨b, o, none⟩ = some (.int .u8 109) := HKE.out W1 H1.out.drop.drop
    have H1' : Owns w0 W1 (cobj B czero :: cobj A c :: R) := H1.out
    have HN := Lib.hid (tnamed (c := 109) (by omega) (by omega) H1')
    clear H1'
    go_wp2_with fail
    refine HN.out.mono ?_
    rintro e w2 ⟨rfl, h2⟩
    have z3 : w2.cell? ⟨A, 3, none⟩ = some (.string c.name) := h2.p1.cell (j := 3) rfl
    have y3 : w2.frozen? ⟨A, 3, none⟩ = false := h2.p1.frozen 3
    obtain ⟨nm, hnm⟩ : ∃ nm, nm = namedF 109 := ⟨_, rfl⟩
    rw [← hnm]
    have h3 := (Owns.cput h2.p1 { c with name := nm } 3 (.string nm) rfl).p1
    obtain ⟨W3, hW3⟩ : ∃ W3, w2.setCell ⟨A, 3, none⟩ (.string nm) = W3 := ⟨_, rfl⟩
    rw [hW3] at h3
    have HW3 := Lib.hid hW3
    have Hnm := Lib.hid hnm
    have H3 := Lib.hid h3
    clear h2 h3 hW3 hnm HN H1 kx
    go_upto_region 3 with (fail)
    rw [HW3.out]
    clear HW3 z3 y3
    go_wp2_with fail
    refine (thas_cmd (c := 109) (by omega) (by omega) W3).mono ?_
    rintro e w' ⟨rfl, rfl⟩
    obtain ⟨z0, z1, z2, z3, z4, z5⟩ := ccells H3.out.p1
    have hk3 : Reads w0 (cobj B czero :: cobj A { c with name := nm } :: R) 1 (.slice (some ⟨b, o, none⟩) (109 :: l).length kc) (109 :: l).length (kints .u8 (109 :: l)) := fun w h => Hk.out w h.drop.drop
    have hc3 := targ { c with name := nm } 2 (by decide) (by decide) Hb.out hl H3.out hk3
    have hnm' := Hnm.out
    subst hnm'
    rw [Hr2.out, ← Hn.out] at hc3
    have HC := Lib.hid hc3
    clear hk3 hc3
    go_wp2_with fail
    refine HC.out.mono ?_
    rintro e w9 ⟨rfl, h9⟩
    obtain ⟨q0, q1, q2, q3, q4, q5⟩ := ccells (h9)
    obtain ⟨t0, t1, t2, t3, t4, t5⟩ := cfrozen (h9)
    go_wp2_with fail
    obtain ⟨u0, u1, u2, u3, u4, u5⟩ := csetu (h9) rc
    exact bodyPost_ret (v := .tuple #[.int .i64 rr, .agg (rc).cells]) (by (try simp [czero] at u0 u1 u2 u3 u4 u5); simp [results, Try.results54, go_sem, czero, u0, u1, u2, u3, u4, u5]) rfl ⟨rfl, (Owns.cset (h9) rc).drop.drop⟩
  · have hp : cmd1 113 = false := rfl
    have hr2 : argT { c with name := namedF 113 } 1 l = (rr, rc) := by have := Hr.out; rw [normalT, hp] at this; exact this
    have Hr2 := Lib.hid hr2
    clear Hr hr2
    obtain ⟨A, hA⟩ : ∃ A, A = w.heap.size := ⟨_, rfl⟩
    obtain ⟨B, hB⟩ : ∃ B, B = w.heap.size + 1 := ⟨_, rfl⟩
    have h1 := (H.alloc c.cells 33).alloc czero.cells 33
    rw [World.size_alloc, ← hB, ← hA] at h1
    obtain ⟨W1, hW1⟩ : ∃ W1, (w.alloc (.cells c.cells 33)).alloc (.cells czero.cells 33) = W1 := ⟨_, rfl⟩
    rw [hW1] at h1
    have HW1 := Lib.hid hW1
    have HA := Lib.hid hA
    have HB := Lib.hid hB
    have H1 := Lib.hid h1
    clear h1 hW1 hA hB H
    go_enter Try.func54, Try.ntmps54
    go_upto_region 1 with (fail)
    rw [show Obj.cells #[Value.int IntKind.u8 0, Value.int IntKind.i64 0, Value.string { data := #[] }, Value.string { data := #[] }, Value.int IntKind.u8 0, Value.string { data := #[] }] 33 = Obj.cells czero.cells 33 from rfl, HW1.out, ← HB.out, ← HA.out]
    clear HW1 HA HB
    have kx : W1.cell? ⟨b, o, none⟩ = some (.int .u8 113) := HKE.out W1 H1.out.drop.drop
    have H1' : Owns w0 W1 (cobj B czero :: cobj A c :: R) := H1.out
    have HN := Lib.hid (tnamed (c := 113) (by omega) (by omega) H1')
    clear H1'
    go_wp2_with fail
    refine HN.out.mono ?_
    rintro e w2 ⟨rfl, h2⟩
    have z3 : w2.cell? ⟨A, 3, none⟩ = some (.string c.name) := h2.p1.cell (j := 3) rfl
    have y3 : w2.frozen? ⟨A, 3, none⟩ = false := h2.p1.frozen 3
    obtain ⟨nm, hnm⟩ : ∃ nm, nm = namedF 113 := ⟨_, rfl⟩
    rw [← hnm]
    have h3 := (Owns.cput h2.p1 { c with name := nm } 3 (.string nm) rfl).p1
    obtain ⟨W3, hW3⟩ : ∃ W3, w2.setCell ⟨A, 3, none⟩ (.string nm) = W3 := ⟨_, rfl⟩
    rw [hW3] at h3
    have HW3 := Lib.hid hW3
    have Hnm := Lib.hid hnm
    have H3 := Lib.hid h3
    clear h2 h3 hW3 hnm HN H1 kx
    go_upto_region 3 with (fail)
    rw [HW3.out]
    clear HW3 z3 y3
    go_wp2_with fail
    refine (thas_cmd (c := 113) (by omega) (by omega) W3).mono ?_
    rintro e w' ⟨rfl, rfl⟩
    obtain ⟨z0, z1, z2, z3, z4, z5⟩ := ccells H3.out.p1
    have hk3 : Reads w0 (cobj B czero :: cobj A { c with name := nm } :: R) 1 (.slice (some ⟨b, o, none⟩) (113 :: l).length kc) (113 :: l).length (kints .u8 (113 :: l)) := fun w h => Hk.out w h.drop.drop
    have hc3 := targ { c with name := nm } 1 (by decide) (by decide) Hb.out hl H3.out hk3
    have hnm' := Hnm.out
    subst hnm'
    rw [Hr2.out, ← Hn.out] at hc3
    have HC := Lib.hid hc3
    clear hk3 hc3
    go_wp2_with fail
    refine HC.out.mono ?_
    rintro e w9 ⟨rfl, h9⟩
    obtain ⟨q0, q1, q2, q3, q4, q5⟩ := ccells (h9)
    obtain ⟨t0, t1, t2, t3, t4, t5⟩ := cfrozen (h9)
    go_wp2_with fail
    obtain ⟨u0, u1, u2, u3, u4, u5⟩ := csetu (h9) rc
    exact bodyPost_ret (v := .tuple #[.int .i64 rr, .agg (rc).cells]) (by (try simp [czero] at u0 u1 u2 u3 u4 u5); simp [results, Try.results54, go_sem, czero, u0, u1, u2, u3, u4, u5]) rfl ⟨rfl, (Owns.cset (h9) rc).drop.drop⟩
  · have hp : cmd1 64 = false := rfl
    have hr2 : argT { c with name := namedF 64 } 3 l = (rr, rc) := by have := Hr.out; rw [normalT, hp] at this; exact this
    have Hr2 := Lib.hid hr2
    clear Hr hr2
    obtain ⟨A, hA⟩ : ∃ A, A = w.heap.size := ⟨_, rfl⟩
    obtain ⟨B, hB⟩ : ∃ B, B = w.heap.size + 1 := ⟨_, rfl⟩
    have h1 := (H.alloc c.cells 33).alloc czero.cells 33
    rw [World.size_alloc, ← hB, ← hA] at h1
    obtain ⟨W1, hW1⟩ : ∃ W1, (w.alloc (.cells c.cells 33)).alloc (.cells czero.cells 33) = W1 := ⟨_, rfl⟩
    rw [hW1] at h1
    have HW1 := Lib.hid hW1
    have HA := Lib.hid hA
    have HB := Lib.hid hB
    have H1 := Lib.hid h1
    clear h1 hW1 hA hB H
    go_enter Try.func54, Try.ntmps54
    go_upto_region 1 with (fail)
    rw [show Obj.cells #[Value.int IntKind.u8 0, Value.int IntKind.i64 0, Value.string { data := #[] }, Value.string { data := #[] }, Value.int IntKind.u8 0, Value.string { data := #[] }] 33 = Obj.cells czero.cells 33 from rfl, HW1.out, ← HB.out, ← HA.out]
    clear HW1 HA HB
    have kx : W1.cell? ⟨b, o, none⟩ = some (.int .u8 64) := HKE.out W1 H1.out.drop.drop
    have H1' : Owns w0 W1 (cobj B czero :: cobj A c :: R) := H1.out
    have HN := Lib.hid (tnamed (c := 64) (by omega) (by omega) H1')
    clear H1'
    go_wp2_with fail
    refine HN.out.mono ?_
    rintro e w2 ⟨rfl, h2⟩
    have z3 : w2.cell? ⟨A, 3, none⟩ = some (.string c.name) := h2.p1.cell (j := 3) rfl
    have y3 : w2.frozen? ⟨A, 3, none⟩ = false := h2.p1.frozen 3
    obtain ⟨nm, hnm⟩ : ∃ nm, nm = namedF 64 := ⟨_, rfl⟩
    rw [← hnm]
    have h3 := (Owns.cput h2.p1 { c with name := nm } 3 (.string nm) rfl).p1
    obtain ⟨W3, hW3⟩ : ∃ W3, w2.setCell ⟨A, 3, none⟩ (.string nm) = W3 := ⟨_, rfl⟩
    rw [hW3] at h3
    have HW3 := Lib.hid hW3
    have Hnm := Lib.hid hnm
    have H3 := Lib.hid h3
    clear h2 h3 hW3 hnm HN H1 kx
    go_upto_region 3 with (fail)
    rw [HW3.out]
    clear HW3 z3 y3
    go_wp2_with fail
    refine (thas_cmd (c := 64) (by omega) (by omega) W3).mono ?_
    rintro e w' ⟨rfl, rfl⟩
    obtain ⟨z0, z1, z2, z3, z4, z5⟩ := ccells H3.out.p1
    have hk3 : Reads w0 (cobj B czero :: cobj A { c with name := nm } :: R) 1 (.slice (some ⟨b, o, none⟩) (64 :: l).length kc) (64 :: l).length (kints .u8 (64 :: l)) := fun w h => Hk.out w h.drop.drop
    have hc3 := targ { c with name := nm } 3 (by decide) (by decide) Hb.out hl H3.out hk3
    have hnm' := Hnm.out
    subst hnm'
    rw [Hr2.out, ← Hn.out] at hc3
    have HC := Lib.hid hc3
    clear hk3 hc3
    go_wp2_with fail
    refine HC.out.mono ?_
    rintro e w9 ⟨rfl, h9⟩
    obtain ⟨q0, q1, q2, q3, q4, q5⟩ := ccells (h9)
    obtain ⟨t0, t1, t2, t3, t4, t5⟩ := cfrozen (h9)
    go_wp2_with fail
    obtain ⟨u0, u1, u2, u3, u4, u5⟩ := csetu (h9) rc
    exact bodyPost_ret (v := .tuple #[.int .i64 rr, .agg (rc).cells]) (by (try simp [czero] at u0 u1 u2 u3 u4 u5); simp [results, Try.results54, go_sem, czero, u0, u1, u2, u3, u4, u5]) rfl ⟨rfl, (Owns.cset (h9) rc).drop.drop⟩
  · obtain ⟨rfl, rfl⟩ : rr = 2 ∧ rc = czero := by have := Hr.out; simp only [normalT, hp, e22, e18, e15, e9, e114, e109, e113, e64, Bool.or_self, if_false, Bool.false_eq_true] at this; cases this; exact ⟨rfl, rfl⟩
    clear Hr
    obtain ⟨A, hA⟩ : ∃ A, A = w.heap.size := ⟨_, rfl⟩
    obtain ⟨B, hB⟩ : ∃ B, B = w.heap.size + 1 := ⟨_, rfl⟩
    have h1 := (H.alloc c.cells 33).alloc czero.cells 33
    rw [World.size_alloc, ← hB, ← hA] at h1
    obtain ⟨W1, hW1⟩ : ∃ W1, (w.alloc (.cells c.cells 33)).alloc (.cells czero.cells 33) = W1 := ⟨_, rfl⟩
    rw [hW1] at h1
    have HW1 := Lib.hid hW1
    have HA := Lib.hid hA
    have HB := Lib.hid hB
    have H1 := Lib.hid h1
    clear h1 hW1 hA hB H
    go_enter Try.func54, Try.ntmps54
    go_upto_region 1 with (fail)
    rw [show Obj.cells #[Value.int IntKind.u8 0, Value.int IntKind.i64 0, Value.string { data := #[] }, Value.string { data := #[] }, Value.int IntKind.u8 0, Value.string { data := #[] }] 33 = Obj.cells czero.cells 33 from rfl, HW1.out, ← HB.out, ← HA.out]
    clear HW1 HA HB
    have kx : W1.cell? ⟨b, o, none⟩ = some (.int .u8 x) := HKE.out W1 H1.out.drop.drop
    have H1' : Owns w0 W1 (cobj B czero :: cobj A c :: R) := H1.out
    have HN := Lib.hid (tnamed (c := x) (by omega) (by omega) H1')
    clear H1'
    go_wp2_with fail
    refine HN.out.mono ?_
    rintro e w2 ⟨rfl, h2⟩
    have z3 : w2.cell? ⟨A, 3, none⟩ = some (.string c.name) := h2.p1.cell (j := 3) rfl
    have y3 : w2.frozen? ⟨A, 3, none⟩ = false := h2.p1.frozen 3
    obtain ⟨nm, hnm⟩ : ∃ nm, nm = namedF x := ⟨_, rfl⟩
    rw [← hnm]
    have h3 := (Owns.cput h2.p1 { c with name := nm } 3 (.string nm) rfl).p1
    obtain ⟨W3, hW3⟩ : ∃ W3, w2.setCell ⟨A, 3, none⟩ (.string nm) = W3 := ⟨_, rfl⟩
    rw [hW3] at h3
    have HW3 := Lib.hid hW3
    have Hnm := Lib.hid hnm
    have H3 := Lib.hid h3
    clear h2 h3 hW3 hnm HN H1 kx
    go_upto_region 3 with (fail)
    rw [HW3.out]
    clear HW3 z3 y3
    go_wp2_with fail
    refine (thas_cmd (c := x) (by omega) (by omega) W3).mono ?_
    rintro e w' ⟨rfl, rfl⟩
    clear Hnm
    go_wp2_with fail
    refine (tbell H3.out).mono ?_
    rintro e w9 ⟨rfl, h9⟩
    obtain ⟨q0, q1, q2, q3, q4, q5⟩ := ccells (h9)
    obtain ⟨t0, t1, t2, t3, t4, t5⟩ := cfrozen (h9)
    go_wp2_with fail
    obtain ⟨u0, u1, u2, u3, u4, u5⟩ := csetu (h9) czero
    exact bodyPost_ret (v := .tuple #[.int .i64 2, .agg (czero).cells]) (by (try simp [czero] at u0 u1 u2 u3 u4 u5); simp [results, Try.results54, go_sem, czero, u0, u1, u2, u3, u4, u5]) rfl ⟨rfl, (Owns.cset (h9) czero).drop.drop⟩
end
end Go.Proofs.Ythcamokblkjkkaa
