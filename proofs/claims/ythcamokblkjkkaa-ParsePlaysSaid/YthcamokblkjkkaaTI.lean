/- The document's answer behind counts, registers, the operator. -/
import Derived.Test.YthcamokblkjkkaaTG
namespace Go.Proofs.Ythcamokblkjkkaa
open Go Go.RowKit Go.Fol
attribute [local go_sem ↓] Go.wp_at_zero Go.wp_at_succ
attribute [local go_sem ↓] run_min2 run_max2
set_option linter.unusedVariables false
set_option linter.unusedSimpArgs false
section
variable {w0 w : World} {R : List Asrt}
set_option maxHeartbeats 8000000 in
set_option maxRecDepth 100000 in
theorem trest_normal {ka : Option Addr} {kc : Nat} {x : Int} {l : List Int} (reg cnt : Int) (nm : ByteArray) (ar : Int) (tx : ByteArray) (hb : bytesB (x :: l)) (hl : l.length ≤ 10000) (H : Owns w0 w R) (hk : Reads w0 R 1 (.slice ka (x :: l).length kc) (x :: l).length (kints .u8 (x :: l))) :
    Calls Try.prog 37 #[.slice ka (x :: l).length kc, .agg (⟨reg, cnt, ⟨#[]⟩, nm, ar, tx⟩ : Cm).cells, .bool false] w (Ret (.tuple #[.int .i64 (restT false (⟨reg, cnt, ⟨#[]⟩, nm, ar, tx⟩ : Cm) x l).1, .agg (restT false (⟨reg, cnt, ⟨#[]⟩, nm, ar, tx⟩ : Cm) x l).2.cells]) w0 R) := by
  obtain ⟨rr, rc, hr⟩ : ∃ rr rc, restT false (⟨reg, cnt, ⟨#[]⟩, nm, ar, tx⟩ : Cm) x l = (rr, rc) := ⟨_, _, rfl⟩
  rw [hr]
  dsimp only
  obtain ⟨b, o, rfl, hlc, hx0, hx1, hke⟩ := byte_at (i := 0) (x := x) hb rfl hk H
  have hcv : ∀ W, Owns w0 W R → (convert 22 9 (.slice (some ⟨b, o, none⟩) 1 kc)).run Try.prog W = .ok (.string (str1 x)) W := fun W hW => by
    have h := (hk W hW).pre (q := 1) (by simp)
    exact conv_src (l := [x]) (fun y hy => by simp at hy; subst hy; exact ⟨hx0, hx1⟩) h
  have hcv2 : ∀ y l', l = y :: l' → ∀ W, Owns w0 W R → (convert 22 9 (.slice (some ⟨b, o, none⟩) 2 kc)).run Try.prog W = .ok (.string (bsOf [x, y])) W := fun y l' e W hW => by
    subst e
    have h := (hk W hW).pre (q := 2) (by simp)
    exact conv_src (l := [x, y]) (fun z hz => hb z (by simp at hz ⊢; rcases hz with h | h <;> simp [h])) h
  have hky : ∀ y l', l = y :: l' → 0 ≤ y ∧ y ≤ 255 ∧ ∀ W, Owns w0 W R → W.cell? ⟨b, o + 1, none⟩ = some (.int .u8 y) := fun y l' e => by
    subst e
    obtain ⟨b', o', e', _, h0, h1, h2⟩ := byte_at (i := 1) (x := y) hb rfl hk H
    cases e'
    exact ⟨h0, h1, h2⟩
  have HKE := Lib.hid hke
  have HCV := Lib.hid hcv
  have HCV2 := Lib.hid hcv2
  have HKY := Lib.hid hky
  have Hr := Lib.hid hr
  have Hk := Lib.hid hk
  have Hb := Lib.hid hb
  obtain ⟨n, hn⟩ : ∃ n, n = (x :: l).length := ⟨_, rfl⟩
  have hn1 : 0 < n := by rw [hn]; simp
  have Hn := Lib.hid hn
  rw [← hn] at hlc ⊢
  clear hr hk hb hke hn hcv hcv2 hky
  have hsz : decide (0 < (⟨#[]⟩ : ByteArray).size) = false := rfl
  rcases rest_cls x with rfl | rfl | rfl | rfl | rfl | rfl | ⟨e105, e97, e13, e103, e47, e63⟩
  · have hs : simpleB 105 = false := rfl
    have ht : tcB 105 = false := rfl
    have he : restT false (⟨reg, cnt, ⟨#[]⟩, nm, ar, tx⟩ : Cm) 105 l = normalT (⟨reg, cnt, ⟨#[]⟩, (str1 105), ar, tx⟩ : Cm) 105 l := by simp only [restT, hsz, hs, ht, Int.reduceBEq, Bool.true_and, Bool.and_true, Bool.false_and, Bool.and_false, Bool.true_or, Bool.or_true, Bool.false_or, Bool.or_false, Bool.or_self, Bool.and_self, beq_self_eq_true, if_true, if_false, Bool.false_eq_true, reduceIte]
    have hr2 : normalT (⟨reg, cnt, ⟨#[]⟩, (str1 105), ar, tx⟩ : Cm) 105 l = (rr, rc) := by rw [← he]; exact Hr.out
    have Hr2 := Lib.hid hr2
    clear Hr he hr2
    obtain ⟨A, hA⟩ : ∃ A, A = w.heap.size := ⟨_, rfl⟩
    obtain ⟨B, hB⟩ : ∃ B, B = w.heap.size + 1 := ⟨_, rfl⟩
    have h1 := (H.alloc (⟨reg, cnt, ⟨#[]⟩, nm, ar, tx⟩ : Cm).cells 33).alloc czero.cells 33
    rw [World.size_alloc, ← hB, ← hA] at h1
    obtain ⟨W1, hW1⟩ : ∃ W1, (w.alloc (.cells (⟨reg, cnt, ⟨#[]⟩, nm, ar, tx⟩ : Cm).cells 33)).alloc (.cells czero.cells 33) = W1 := ⟨_, rfl⟩
    rw [hW1] at h1
    have HW1 := Lib.hid hW1
    have HA := Lib.hid hA
    have HB := Lib.hid hB
    have H1 := Lib.hid h1
    clear h1 hW1 hA hB H
    go_enter Try.func37, Try.ntmps37
    go_upto_region 1 with (fail)
    rw [show Obj.cells #[Value.int IntKind.u8 0, Value.int IntKind.i64 0, Value.string { data := #[] }, Value.string { data := #[] }, Value.int IntKind.u8 0, Value.string { data := #[] }] 33 = Obj.cells czero.cells 33 from rfl, HW1.out, ← HB.out, ← HA.out]
    clear HW1 HA HB
    have kx : W1.cell? ⟨b, o, none⟩ = some (.int .u8 105) := HKE.out W1 H1.out.drop.drop
    have kv := HCV.out W1 H1.out.drop.drop
    have z3 : W1.cell? ⟨A, 3, none⟩ = some (.string nm) := (ccellsM H1.out.p1).2.2.2.1
    have y3 : W1.frozen? ⟨A, 3, none⟩ = false := H1.out.p1.frozen 3
    have h3 := (Owns.cput H1.out.p1 (⟨reg, cnt, ⟨#[]⟩, (str1 105), ar, tx⟩ : Cm) 3 (.string (str1 105)) rfl).p1
    obtain ⟨W3, hW3⟩ : ∃ W3, W1.setCell ⟨A, 3, none⟩ (.string (str1 105)) = W3 := ⟨_, rfl⟩
    rw [hW3] at h3
    have HW3 := Lib.hid hW3
    have H3 := Lib.hid h3
    clear h3 hW3 H1
    go_upto_region 3 with (fail)
    rw [HW3.out]
    clear HW3 z3 y3 kx kv
    obtain ⟨k0, k1, k2, k3, k4, k5⟩ := ccellsM H3.out.p1
    clear k0 k1 k3 k4 k5
    have hc3 := tnormal (⟨reg, cnt, ⟨#[]⟩, (str1 105), ar, tx⟩ : Cm) Hb.out (by omega) H3.out (fun W hW => Hk.out W hW.drop.drop)
    rw [Hr2.out, ← Hn.out] at hc3
    dsimp only at hc3
    have HC := Lib.hid hc3
    clear hc3
    obtain ⟨z0, z1, z2, z3, z4, z5⟩ := ccellsM H3.out.p1
    go_wp2_with fail
    refine (thas_simple (c := 105) (by omega) (by omega) _).mono ?_
    rintro e w' ⟨rfl, rfl⟩
    go_wp2_with fail
    refine (thas_tc (c := 105) (by omega) (by omega) _).mono ?_
    rintro e w' ⟨rfl, rfl⟩
    go_wp2_with fail
    refine HC.out.mono ?_
    rintro e w9 ⟨rfl, h9⟩
    obtain ⟨q0, q1, q2, q3, q4, q5⟩ := ccells (h9)
    obtain ⟨t0, t1, t2, t3, t4, t5⟩ := cfrozen (h9)
    go_wp2_with fail
    obtain ⟨u0, u1, u2, u3, u4, u5⟩ := csetu (h9) rc
    exact bodyPost_ret (v := .tuple #[.int .i64 rr, .agg (rc).cells]) (by (try simp [czero] at u0 u1 u2 u3 u4 u5); simp [results, Try.results37, go_sem, czero, u0, u1, u2, u3, u4, u5]) rfl ⟨rfl, (Owns.cset (h9) rc).drop.drop⟩
  · have hs : simpleB 97 = false := rfl
    have ht : tcB 97 = false := rfl
    have he : restT false (⟨reg, cnt, ⟨#[]⟩, nm, ar, tx⟩ : Cm) 97 l = normalT (⟨reg, cnt, ⟨#[]⟩, (str1 97), ar, tx⟩ : Cm) 97 l := by simp only [restT, hsz, hs, ht, Int.reduceBEq, Bool.true_and, Bool.and_true, Bool.false_and, Bool.and_false, Bool.true_or, Bool.or_true, Bool.false_or, Bool.or_false, Bool.or_self, Bool.and_self, beq_self_eq_true, if_true, if_false, Bool.false_eq_true, reduceIte]
    have hr2 : normalT (⟨reg, cnt, ⟨#[]⟩, (str1 97), ar, tx⟩ : Cm) 97 l = (rr, rc) := by rw [← he]; exact Hr.out
    have Hr2 := Lib.hid hr2
    clear Hr he hr2
    obtain ⟨A, hA⟩ : ∃ A, A = w.heap.size := ⟨_, rfl⟩
    obtain ⟨B, hB⟩ : ∃ B, B = w.heap.size + 1 := ⟨_, rfl⟩
    have h1 := (H.alloc (⟨reg, cnt, ⟨#[]⟩, nm, ar, tx⟩ : Cm).cells 33).alloc czero.cells 33
    rw [World.size_alloc, ← hB, ← hA] at h1
    obtain ⟨W1, hW1⟩ : ∃ W1, (w.alloc (.cells (⟨reg, cnt, ⟨#[]⟩, nm, ar, tx⟩ : Cm).cells 33)).alloc (.cells czero.cells 33) = W1 := ⟨_, rfl⟩
    rw [hW1] at h1
    have HW1 := Lib.hid hW1
    have HA := Lib.hid hA
    have HB := Lib.hid hB
    have H1 := Lib.hid h1
    clear h1 hW1 hA hB H
    go_enter Try.func37, Try.ntmps37
    go_upto_region 1 with (fail)
    rw [show Obj.cells #[Value.int IntKind.u8 0, Value.int IntKind.i64 0, Value.string { data := #[] }, Value.string { data := #[] }, Value.int IntKind.u8 0, Value.string { data := #[] }] 33 = Obj.cells czero.cells 33 from rfl, HW1.out, ← HB.out, ← HA.out]
    clear HW1 HA HB
    have kx : W1.cell? ⟨b, o, none⟩ = some (.int .u8 97) := HKE.out W1 H1.out.drop.drop
    have kv := HCV.out W1 H1.out.drop.drop
    have z3 : W1.cell? ⟨A, 3, none⟩ = some (.string nm) := (ccellsM H1.out.p1).2.2.2.1
    have y3 : W1.frozen? ⟨A, 3, none⟩ = false := H1.out.p1.frozen 3
    have h3 := (Owns.cput H1.out.p1 (⟨reg, cnt, ⟨#[]⟩, (str1 97), ar, tx⟩ : Cm) 3 (.string (str1 97)) rfl).p1
    obtain ⟨W3, hW3⟩ : ∃ W3, W1.setCell ⟨A, 3, none⟩ (.string (str1 97)) = W3 := ⟨_, rfl⟩
    rw [hW3] at h3
    have HW3 := Lib.hid hW3
    have H3 := Lib.hid h3
    clear h3 hW3 H1
    go_upto_region 3 with (fail)
    rw [HW3.out]
    clear HW3 z3 y3 kx kv
    obtain ⟨k0, k1, k2, k3, k4, k5⟩ := ccellsM H3.out.p1
    clear k0 k1 k3 k4 k5
    have hc3 := tnormal (⟨reg, cnt, ⟨#[]⟩, (str1 97), ar, tx⟩ : Cm) Hb.out (by omega) H3.out (fun W hW => Hk.out W hW.drop.drop)
    rw [Hr2.out, ← Hn.out] at hc3
    dsimp only at hc3
    have HC := Lib.hid hc3
    clear hc3
    obtain ⟨z0, z1, z2, z3, z4, z5⟩ := ccellsM H3.out.p1
    go_wp2_with fail
    refine (thas_simple (c := 97) (by omega) (by omega) _).mono ?_
    rintro e w' ⟨rfl, rfl⟩
    go_wp2_with fail
    refine (thas_tc (c := 97) (by omega) (by omega) _).mono ?_
    rintro e w' ⟨rfl, rfl⟩
    go_wp2_with fail
    refine HC.out.mono ?_
    rintro e w9 ⟨rfl, h9⟩
    obtain ⟨q0, q1, q2, q3, q4, q5⟩ := ccells (h9)
    obtain ⟨t0, t1, t2, t3, t4, t5⟩ := cfrozen (h9)
    go_wp2_with fail
    obtain ⟨u0, u1, u2, u3, u4, u5⟩ := csetu (h9) rc
    exact bodyPost_ret (v := .tuple #[.int .i64 rr, .agg (rc).cells]) (by (try simp [czero] at u0 u1 u2 u3 u4 u5); simp [results, Try.results37, go_sem, czero, u0, u1, u2, u3, u4, u5]) rfl ⟨rfl, (Owns.cset (h9) rc).drop.drop⟩
  · have hs : simpleB 13 = false := rfl
    have he : restT false (⟨reg, cnt, ⟨#[]⟩, nm, ar, tx⟩ : Cm) 13 l = (1, (⟨reg, cnt, ⟨#[]⟩, ⟨#[43]⟩, ar, tx⟩ : Cm)) := by simp only [restT, objT, farT, mbyT, hsz, hs, Int.reduceBEq, Bool.true_and, Bool.and_true, Bool.false_and, Bool.and_false, Bool.true_or, Bool.or_true, Bool.false_or, Bool.or_false, Bool.or_self, Bool.and_self, beq_self_eq_true, if_true, if_false, Bool.false_eq_true, reduceIte]
    obtain ⟨rfl, rfl⟩ : rr = 1 ∧ rc = (⟨reg, cnt, ⟨#[]⟩, ⟨#[43]⟩, ar, tx⟩ : Cm) := by have := Hr.out; rw [he] at this; cases this; exact ⟨rfl, rfl⟩
    clear Hr he
    obtain ⟨A, hA⟩ : ∃ A, A = w.heap.size := ⟨_, rfl⟩
    obtain ⟨B, hB⟩ : ∃ B, B = w.heap.size + 1 := ⟨_, rfl⟩
    have h1 := (H.alloc (⟨reg, cnt, ⟨#[]⟩, nm, ar, tx⟩ : Cm).cells 33).alloc czero.cells 33
    rw [World.size_alloc, ← hB, ← hA] at h1
    obtain ⟨W1, hW1⟩ : ∃ W1, (w.alloc (.cells (⟨reg, cnt, ⟨#[]⟩, nm, ar, tx⟩ : Cm).cells 33)).alloc (.cells czero.cells 33) = W1 := ⟨_, rfl⟩
    rw [hW1] at h1
    have HW1 := Lib.hid hW1
    have HA := Lib.hid hA
    have HB := Lib.hid hB
    have H1 := Lib.hid h1
    clear h1 hW1 hA hB H
    go_enter Try.func37, Try.ntmps37
    go_upto_region 1 with (fail)
    rw [show Obj.cells #[Value.int IntKind.u8 0, Value.int IntKind.i64 0, Value.string { data := #[] }, Value.string { data := #[] }, Value.int IntKind.u8 0, Value.string { data := #[] }] 33 = Obj.cells czero.cells 33 from rfl, HW1.out, ← HB.out, ← HA.out]
    clear HW1 HA HB
    have kx : W1.cell? ⟨b, o, none⟩ = some (.int .u8 13) := HKE.out W1 H1.out.drop.drop
    have kv := HCV.out W1 H1.out.drop.drop
    have z3 : W1.cell? ⟨A, 3, none⟩ = some (.string nm) := (ccellsM H1.out.p1).2.2.2.1
    have y3 : W1.frozen? ⟨A, 3, none⟩ = false := H1.out.p1.frozen 3
    have h3 := (Owns.cput H1.out.p1 (⟨reg, cnt, ⟨#[]⟩, (str1 13), ar, tx⟩ : Cm) 3 (.string (str1 13)) rfl).p1
    obtain ⟨W3, hW3⟩ : ∃ W3, W1.setCell ⟨A, 3, none⟩ (.string (str1 13)) = W3 := ⟨_, rfl⟩
    rw [hW3] at h3
    have HW3 := Lib.hid hW3
    have H3 := Lib.hid h3
    clear h3 hW3 H1
    go_upto_region 3 with (fail)
    rw [HW3.out]
    clear HW3 z3 y3 kx kv
    obtain ⟨k0, k1, k2, k3, k4, k5⟩ := ccellsM H3.out.p1
    clear k0 k1 k3 k4 k5
    go_wp2_with fail
    refine (thas_simple (c := 13) (by omega) (by omega) _).mono ?_
    rintro e w' ⟨rfl, rfl⟩
    have z3 := (ccellsM H3.out.p1).2.2.2.1
    have y3 := H3.out.p1.frozen 3
    have H4 := Lib.hid (Owns.cput H3.out.p1 (⟨reg, cnt, ⟨#[]⟩, ⟨#[43]⟩, ar, tx⟩ : Cm) 3 (.string ⟨#[43]⟩) rfl).p1
    clear H3
    obtain ⟨z0, z1, z2, z3, z4, z5⟩ := ccellsM H4.out.p1
    obtain ⟨q0, q1, q2, q3, q4, q5⟩ := ccells H4.out
    obtain ⟨t0, t1, t2, t3, t4, t5⟩ := cfrozen H4.out
    go_wp2_with fail
    go_region
    all_goals
      go_wp2_with fail
      obtain ⟨u0, u1, u2, u3, u4, u5⟩ := csetu H4.out (⟨reg, cnt, ⟨#[]⟩, ⟨#[43]⟩, ar, tx⟩ : Cm)
      exact bodyPost_ret (v := .tuple #[.int .i64 1, .agg ((⟨reg, cnt, ⟨#[]⟩, ⟨#[43]⟩, ar, tx⟩ : Cm)).cells]) (by simp at u0 u1 u2 u3 u4 u5; simp [results, Try.results37, go_sem, u0, u1, u2, u3, u4, u5]) rfl ⟨rfl, (Owns.cset H4.out (⟨reg, cnt, ⟨#[]⟩, ⟨#[43]⟩, ar, tx⟩ : Cm)).drew.drop.drop⟩
  · have hs : simpleB 103 = false := rfl
    cases l with
    | nil =>
      have he : restT false (⟨reg, cnt, ⟨#[]⟩, nm, ar, tx⟩ : Cm) 103 [] = (0, czero) := by simp only [restT, objT, farT, mbyT, hsz, hs, Int.reduceBEq, Bool.true_and, Bool.and_true, Bool.false_and, Bool.and_false, Bool.true_or, Bool.or_true, Bool.false_or, Bool.or_false, Bool.or_self, Bool.and_self, beq_self_eq_true, if_true, if_false, Bool.false_eq_true, reduceIte]
      obtain ⟨rfl, rfl⟩ : rr = 0 ∧ rc = czero := by have := Hr.out; rw [he] at this; cases this; exact ⟨rfl, rfl⟩
      clear Hr he
      obtain ⟨A, hA⟩ : ∃ A, A = w.heap.size := ⟨_, rfl⟩
      obtain ⟨B, hB⟩ : ∃ B, B = w.heap.size + 1 := ⟨_, rfl⟩
      have h1 := (H.alloc (⟨reg, cnt, ⟨#[]⟩, nm, ar, tx⟩ : Cm).cells 33).alloc czero.cells 33
      rw [World.size_alloc, ← hB, ← hA] at h1
      obtain ⟨W1, hW1⟩ : ∃ W1, (w.alloc (.cells (⟨reg, cnt, ⟨#[]⟩, nm, ar, tx⟩ : Cm).cells 33)).alloc (.cells czero.cells 33) = W1 := ⟨_, rfl⟩
      rw [hW1] at h1
      have HW1 := Lib.hid hW1
      have HA := Lib.hid hA
      have HB := Lib.hid hB
      have H1 := Lib.hid h1
      clear h1 hW1 hA hB H
      go_enter Try.func37, Try.ntmps37
      go_upto_region 1 with (fail)
      rw [show Obj.cells #[Value.int IntKind.u8 0, Value.int IntKind.i64 0, Value.string { data := #[] }, Value.string { data := #[] }, Value.int IntKind.u8 0, Value.string { data := #[] }] 33 = Obj.cells czero.cells 33 from rfl, HW1.out, ← HB.out, ← HA.out]
      clear HW1 HA HB
      have kx : W1.cell? ⟨b, o, none⟩ = some (.int .u8 103) := HKE.out W1 H1.out.drop.drop
      have kv := HCV.out W1 H1.out.drop.drop
      have z3 : W1.cell? ⟨A, 3, none⟩ = some (.string nm) := (ccellsM H1.out.p1).2.2.2.1
      have y3 : W1.frozen? ⟨A, 3, none⟩ = false := H1.out.p1.frozen 3
      have h3 := (Owns.cput H1.out.p1 (⟨reg, cnt, ⟨#[]⟩, (str1 103), ar, tx⟩ : Cm) 3 (.string (str1 103)) rfl).p1
      obtain ⟨W3, hW3⟩ : ∃ W3, W1.setCell ⟨A, 3, none⟩ (.string (str1 103)) = W3 := ⟨_, rfl⟩
      rw [hW3] at h3
      have HW3 := Lib.hid hW3
      have H3 := Lib.hid h3
      clear h3 hW3 H1
      go_upto_region 3 with (fail)
      rw [HW3.out]
      clear HW3 z3 y3 kx kv
      obtain ⟨k0, k1, k2, k3, k4, k5⟩ := ccellsM H3.out.p1
      clear k0 k1 k3 k4 k5
      have hn2 : ((n : Int) < 2) := by have := Hn.out; simp at this; omega
      go_wp2_with fail
      refine (thas_simple (c := 103) (by omega) (by omega) _).mono ?_
      rintro e w' ⟨rfl, rfl⟩
      go_wp2_with fail
      refine (twait H3.out).mono ?_
      rintro e w9 ⟨rfl, h9⟩
      obtain ⟨q0, q1, q2, q3, q4, q5⟩ := ccells (h9)
      obtain ⟨t0, t1, t2, t3, t4, t5⟩ := cfrozen (h9)
      go_wp2_with fail
      obtain ⟨u0, u1, u2, u3, u4, u5⟩ := csetu (h9) czero
      exact bodyPost_ret (v := .tuple #[.int .i64 0, .agg (czero).cells]) (by (try simp [czero] at u0 u1 u2 u3 u4 u5); simp [results, Try.results37, go_sem, czero, u0, u1, u2, u3, u4, u5]) rfl ⟨rfl, (Owns.cset (h9) czero).drop.drop⟩
    | cons y l' =>
      obtain ⟨hy0, hy1, HKY'⟩ := HKY.out y l' rfl
      have HCV2' := HCV2.out y l' rfl
      cases hge : geB y with
      | false =>
        have he : restT false (⟨reg, cnt, ⟨#[]⟩, nm, ar, tx⟩ : Cm) 103 (y :: l') = (2, czero) := by simp only [restT, objT, farT, mbyT, hsz, hs, hge, Int.reduceBEq, Bool.true_and, Bool.and_true, Bool.false_and, Bool.and_false, Bool.true_or, Bool.or_true, Bool.false_or, Bool.or_false, Bool.or_self, Bool.and_self, beq_self_eq_true, if_true, if_false, Bool.false_eq_true, reduceIte]
        obtain ⟨rfl, rfl⟩ : rr = 2 ∧ rc = czero := by have := Hr.out; rw [he] at this; cases this; exact ⟨rfl, rfl⟩
        clear Hr he
        obtain ⟨A, hA⟩ : ∃ A, A = w.heap.size := ⟨_, rfl⟩
        obtain ⟨B, hB⟩ : ∃ B, B = w.heap.size + 1 := ⟨_, rfl⟩
        have h1 := (H.alloc (⟨reg, cnt, ⟨#[]⟩, nm, ar, tx⟩ : Cm).cells 33).alloc czero.cells 33
        rw [World.size_alloc, ← hB, ← hA] at h1
        obtain ⟨W1, hW1⟩ : ∃ W1, (w.alloc (.cells (⟨reg, cnt, ⟨#[]⟩, nm, ar, tx⟩ : Cm).cells 33)).alloc (.cells czero.cells 33) = W1 := ⟨_, rfl⟩
        rw [hW1] at h1
        have HW1 := Lib.hid hW1
        have HA := Lib.hid hA
        have HB := Lib.hid hB
        have H1 := Lib.hid h1
        clear h1 hW1 hA hB H
        go_enter Try.func37, Try.ntmps37
        go_upto_region 1 with (fail)
        rw [show Obj.cells #[Value.int IntKind.u8 0, Value.int IntKind.i64 0, Value.string { data := #[] }, Value.string { data := #[] }, Value.int IntKind.u8 0, Value.string { data := #[] }] 33 = Obj.cells czero.cells 33 from rfl, HW1.out, ← HB.out, ← HA.out]
        clear HW1 HA HB
        have kx : W1.cell? ⟨b, o, none⟩ = some (.int .u8 103) := HKE.out W1 H1.out.drop.drop
        have kv := HCV.out W1 H1.out.drop.drop
        have z3 : W1.cell? ⟨A, 3, none⟩ = some (.string nm) := (ccellsM H1.out.p1).2.2.2.1
        have y3 : W1.frozen? ⟨A, 3, none⟩ = false := H1.out.p1.frozen 3
        have h3 := (Owns.cput H1.out.p1 (⟨reg, cnt, ⟨#[]⟩, (str1 103), ar, tx⟩ : Cm) 3 (.string (str1 103)) rfl).p1
        obtain ⟨W3, hW3⟩ : ∃ W3, W1.setCell ⟨A, 3, none⟩ (.string (str1 103)) = W3 := ⟨_, rfl⟩
        rw [hW3] at h3
        have HW3 := Lib.hid hW3
        have H3 := Lib.hid h3
        clear h3 hW3 H1
        go_upto_region 3 with (fail)
        rw [HW3.out]
        clear HW3 z3 y3 kx kv
        obtain ⟨k0, k1, k2, k3, k4, k5⟩ := ccellsM H3.out.p1
        clear k0 k1 k3 k4 k5
        have kx1 : W3.cell? ⟨b, o + 1, none⟩ = some (.int .u8 y) := HKY' W3 H3.out.drop.drop
        have hn2 : ¬ ((n : Int) < 2) := by have := Hn.out; simp at this; omega
        go_wp2_with fail
        refine (thas_simple (c := 103) (by omega) (by omega) _).mono ?_
        rintro e w' ⟨rfl, rfl⟩
        go_wp2_with fail
        refine (thas_ge (c := y) (by omega) (by omega) _).mono ?_
        rintro e w' ⟨rfl, rfl⟩
        go_wp2_with fail
        refine (tbell H3.out).mono ?_
        rintro e w9 ⟨rfl, h9⟩
        obtain ⟨q0, q1, q2, q3, q4, q5⟩ := ccells (h9)
        obtain ⟨t0, t1, t2, t3, t4, t5⟩ := cfrozen (h9)
        go_wp2_with fail
        obtain ⟨u0, u1, u2, u3, u4, u5⟩ := csetu (h9) czero
        exact bodyPost_ret (v := .tuple #[.int .i64 2, .agg (czero).cells]) (by (try simp [czero] at u0 u1 u2 u3 u4 u5); simp [results, Try.results37, go_sem, czero, u0, u1, u2, u3, u4, u5]) rfl ⟨rfl, (Owns.cset (h9) czero).drop.drop⟩
      | true =>
        have he : restT false (⟨reg, cnt, ⟨#[]⟩, nm, ar, tx⟩ : Cm) 103 (y :: l') = (1, (⟨reg, cnt, ⟨#[]⟩, (strg y), ar, tx⟩ : Cm)) := by simp only [restT, objT, farT, mbyT, hsz, hs, hge, Int.reduceBEq, Bool.true_and, Bool.and_true, Bool.false_and, Bool.and_false, Bool.true_or, Bool.or_true, Bool.false_or, Bool.or_false, Bool.or_self, Bool.and_self, beq_self_eq_true, if_true, if_false, Bool.false_eq_true, reduceIte]
        obtain ⟨rfl, rfl⟩ : rr = 1 ∧ rc = (⟨reg, cnt, ⟨#[]⟩, (strg y), ar, tx⟩ : Cm) := by have := Hr.out; rw [he] at this; cases this; exact ⟨rfl, rfl⟩
        clear Hr he
        obtain ⟨A, hA⟩ : ∃ A, A = w.heap.size := ⟨_, rfl⟩
        obtain ⟨B, hB⟩ : ∃ B, B = w.heap.size + 1 := ⟨_, rfl⟩
        have h1 := (H.alloc (⟨reg, cnt, ⟨#[]⟩, nm, ar, tx⟩ : Cm).cells 33).alloc czero.cells 33
        rw [World.size_alloc, ← hB, ← hA] at h1
        obtain ⟨W1, hW1⟩ : ∃ W1, (w.alloc (.cells (⟨reg, cnt, ⟨#[]⟩, nm, ar, tx⟩ : Cm).cells 33)).alloc (.cells czero.cells 33) = W1 := ⟨_, rfl⟩
        rw [hW1] at h1
        have HW1 := Lib.hid hW1
        have HA := Lib.hid hA
        have HB := Lib.hid hB
        have H1 := Lib.hid h1
        clear h1 hW1 hA hB H
        go_enter Try.func37, Try.ntmps37
        go_upto_region 1 with (fail)
        rw [show Obj.cells #[Value.int IntKind.u8 0, Value.int IntKind.i64 0, Value.string { data := #[] }, Value.string { data := #[] }, Value.int IntKind.u8 0, Value.string { data := #[] }] 33 = Obj.cells czero.cells 33 from rfl, HW1.out, ← HB.out, ← HA.out]
        clear HW1 HA HB
        have kx : W1.cell? ⟨b, o, none⟩ = some (.int .u8 103) := HKE.out W1 H1.out.drop.drop
        have kv := HCV.out W1 H1.out.drop.drop
        have z3 : W1.cell? ⟨A, 3, none⟩ = some (.string nm) := (ccellsM H1.out.p1).2.2.2.1
        have y3 : W1.frozen? ⟨A, 3, none⟩ = false := H1.out.p1.frozen 3
        have h3 := (Owns.cput H1.out.p1 (⟨reg, cnt, ⟨#[]⟩, (str1 103), ar, tx⟩ : Cm) 3 (.string (str1 103)) rfl).p1
        obtain ⟨W3, hW3⟩ : ∃ W3, W1.setCell ⟨A, 3, none⟩ (.string (str1 103)) = W3 := ⟨_, rfl⟩
        rw [hW3] at h3
        have HW3 := Lib.hid hW3
        have H3 := Lib.hid h3
        clear h3 hW3 H1
        go_upto_region 3 with (fail)
        rw [HW3.out]
        clear HW3 z3 y3 kx kv
        obtain ⟨k0, k1, k2, k3, k4, k5⟩ := ccellsM H3.out.p1
        clear k0 k1 k3 k4 k5
        have kx1 : W3.cell? ⟨b, o + 1, none⟩ = some (.int .u8 y) := HKY' W3 H3.out.drop.drop
        have hn2 : ¬ ((n : Int) < 2) := by have := Hn.out; simp at this; omega
        have kv2 : (convert 22 9 (.slice (some ⟨b, o, none⟩) 2 kc)).run Try.prog W3 = .ok (.string (strg y)) W3 := HCV2' W3 H3.out.drop.drop
        have hkc : 2 ≤ kc := by omega
        go_wp2_with fail
        refine (thas_simple (c := 103) (by omega) (by omega) _).mono ?_
        rintro e w' ⟨rfl, rfl⟩
        go_wp2_with fail
        refine (thas_ge (c := y) (by omega) (by omega) _).mono ?_
        rintro e w' ⟨rfl, rfl⟩
        have z3 := (ccellsM H3.out.p1).2.2.2.1
        have y3 := H3.out.p1.frozen 3
        have H4 := Lib.hid (Owns.cput H3.out.p1 (⟨reg, cnt, ⟨#[]⟩, (strg y), ar, tx⟩ : Cm) 3 (.string (strg y)) rfl).p1
        clear H3
        obtain ⟨z0, z1, z2, z3, z4, z5⟩ := ccellsM H4.out.p1
        obtain ⟨q0, q1, q2, q3, q4, q5⟩ := ccells H4.out
        obtain ⟨t0, t1, t2, t3, t4, t5⟩ := cfrozen H4.out
        go_wp2_with fail
        go_region
        all_goals
          go_wp2_with fail
          obtain ⟨u0, u1, u2, u3, u4, u5⟩ := csetu H4.out (⟨reg, cnt, ⟨#[]⟩, (strg y), ar, tx⟩ : Cm)
          exact bodyPost_ret (v := .tuple #[.int .i64 1, .agg ((⟨reg, cnt, ⟨#[]⟩, (strg y), ar, tx⟩ : Cm)).cells]) (by simp at u0 u1 u2 u3 u4 u5; simp [results, Try.results37, go_sem, u0, u1, u2, u3, u4, u5]) rfl ⟨rfl, (Owns.cset H4.out (⟨reg, cnt, ⟨#[]⟩, (strg y), ar, tx⟩ : Cm)).drew.drop.drop⟩
  · have hs : simpleB 47 = false := rfl
    have ht : tcB 47 = false := rfl
    have he : restT false (⟨reg, cnt, ⟨#[]⟩, nm, ar, tx⟩ : Cm) 47 l = patF (⟨reg, cnt, ⟨#[]⟩, (str1 47), ar, tx⟩ : Cm) [] l := by simp only [restT, hsz, hs, ht, Int.reduceBEq, Bool.true_and, Bool.and_true, Bool.false_and, Bool.and_false, Bool.true_or, Bool.or_true, Bool.false_or, Bool.or_false, Bool.or_self, Bool.and_self, beq_self_eq_true, if_true, if_false, Bool.false_eq_true, reduceIte]
    have hr2 : patF (⟨reg, cnt, ⟨#[]⟩, (str1 47), ar, tx⟩ : Cm) [] l = (rr, rc) := by rw [← he]; exact Hr.out
    have Hr2 := Lib.hid hr2
    clear Hr he hr2
    obtain ⟨A, hA⟩ : ∃ A, A = w.heap.size := ⟨_, rfl⟩
    obtain ⟨B, hB⟩ : ∃ B, B = w.heap.size + 1 := ⟨_, rfl⟩
    have h1 := (H.alloc (⟨reg, cnt, ⟨#[]⟩, nm, ar, tx⟩ : Cm).cells 33).alloc czero.cells 33
    rw [World.size_alloc, ← hB, ← hA] at h1
    obtain ⟨W1, hW1⟩ : ∃ W1, (w.alloc (.cells (⟨reg, cnt, ⟨#[]⟩, nm, ar, tx⟩ : Cm).cells 33)).alloc (.cells czero.cells 33) = W1 := ⟨_, rfl⟩
    rw [hW1] at h1
    have HW1 := Lib.hid hW1
    have HA := Lib.hid hA
    have HB := Lib.hid hB
    have H1 := Lib.hid h1
    clear h1 hW1 hA hB H
    go_enter Try.func37, Try.ntmps37
    go_upto_region 1 with (fail)
    rw [show Obj.cells #[Value.int IntKind.u8 0, Value.int IntKind.i64 0, Value.string { data := #[] }, Value.string { data := #[] }, Value.int IntKind.u8 0, Value.string { data := #[] }] 33 = Obj.cells czero.cells 33 from rfl, HW1.out, ← HB.out, ← HA.out]
    clear HW1 HA HB
    have kx : W1.cell? ⟨b, o, none⟩ = some (.int .u8 47) := HKE.out W1 H1.out.drop.drop
    have kv := HCV.out W1 H1.out.drop.drop
    have z3 : W1.cell? ⟨A, 3, none⟩ = some (.string nm) := (ccellsM H1.out.p1).2.2.2.1
    have y3 : W1.frozen? ⟨A, 3, none⟩ = false := H1.out.p1.frozen 3
    have h3 := (Owns.cput H1.out.p1 (⟨reg, cnt, ⟨#[]⟩, (str1 47), ar, tx⟩ : Cm) 3 (.string (str1 47)) rfl).p1
    obtain ⟨W3, hW3⟩ : ∃ W3, W1.setCell ⟨A, 3, none⟩ (.string (str1 47)) = W3 := ⟨_, rfl⟩
    rw [hW3] at h3
    have HW3 := Lib.hid hW3
    have H3 := Lib.hid h3
    clear h3 hW3 H1
    go_upto_region 3 with (fail)
    rw [HW3.out]
    clear HW3 z3 y3 kx kv
    obtain ⟨k0, k1, k2, k3, k4, k5⟩ := ccellsM H3.out.p1
    clear k0 k1 k3 k4 k5
    have hbt : bytesB l := fun y hy => Hb.out y (List.mem_cons_of_mem _ hy)
    obtain ⟨m, hm⟩ : ∃ m, n = m + 1 := ⟨n - 1, by omega⟩
    have hml : m = l.length := by have := Hn.out; simp at this; omega
    have hk3 : ∀ a2, (if kc = 1 then some ⟨b, o, none⟩ else Option.map (fun a => a.add 1) (some (⟨b, o, none⟩ : Addr))) = a2 → Reads w0 (cobj B czero :: cobj A (⟨reg, cnt, ⟨#[]⟩, (str1 47), ar, tx⟩ : Cm) :: R) 1 (.slice a2 l.length (kc - 1)) l.length (kints .u8 l) := fun a2 ha W hW => by
      have h := (Hk.out W hW.drop.drop)
      have h2 := h.post (q := 1) (by simp) ha
      simpa [kints] using h2
    by_cases hcap : kc = 1
    · have hp := tpattern (⟨reg, cnt, ⟨#[]⟩, (str1 47), ar, tx⟩ : Cm) hbt (by omega) H3.out.drew (hk3 (some ⟨b, o, none⟩) (if_pos hcap))
      rw [Hr2.out, ← hml] at hp
      dsimp only at hp
      obtain rfl : m = 0 := by omega
      subst hcap
      rw [Nat.sub_self] at hp
      have HP := Lib.hid hp
      obtain ⟨z0, z1, z2, z3, z4, z5⟩ := ccellsM H3.out.p1
      subst hm

      clear hp hk3 hml hlc hn1
      rw [Nat.zero_add]
      go_wp2_with fail
      refine (thas_simple (c := 47) (by omega) (by omega) _).mono ?_
      rintro e w' ⟨rfl, rfl⟩
      go_wp2_with fail
      refine (thas_tc (c := 47) (by omega) (by omega) _).mono ?_
      rintro e w' ⟨rfl, rfl⟩
      go_wp2_with fail
      go_region_with (go_at_call 52; refine HP.out.mono ?_; rintro e w9 ⟨rfl, h9⟩; obtain ⟨q0, q1, q2, q3, q4, q5⟩ := ccells h9; obtain ⟨t0, t1, t2, t3, t4, t5⟩ := cfrozen h9)
      all_goals
        go_wp2_with fail
        obtain ⟨u0, u1, u2, u3, u4, u5⟩ := csetu h9 rc
        refine bodyPost_ret (v := .tuple #[.int .i64 rr, .agg rc.cells]) ?_ rfl ⟨rfl, ?_⟩
        rotate_left
        exact (Owns.cset h9 rc).drop.drop
        simp [results, Try.results37, go_sem, czero, u0, u1, u2, u3, u4, u5]
    · have hp := tpattern (⟨reg, cnt, ⟨#[]⟩, (str1 47), ar, tx⟩ : Cm) hbt (by omega) H3.out.drew (hk3 (some ⟨b, o + 1, none⟩) (by rw [if_neg hcap]; rfl))
      rw [Hr2.out, ← hml] at hp
      dsimp only at hp



      have HP := Lib.hid hp
      obtain ⟨z0, z1, z2, z3, z4, z5⟩ := ccellsM H3.out.p1
      subst hm
      have hn1' : (1 : Int) ≤ (m : Int) + 1 := by omega
      clear hp hk3 hml hlc hn1

      go_wp2_with fail
      refine (thas_simple (c := 47) (by omega) (by omega) _).mono ?_
      rintro e w' ⟨rfl, rfl⟩
      go_wp2_with fail
      refine (thas_tc (c := 47) (by omega) (by omega) _).mono ?_
      rintro e w' ⟨rfl, rfl⟩
      go_wp2_with fail
      go_region_with (go_at_call 52; refine HP.out.mono ?_; rintro e w9 ⟨rfl, h9⟩; obtain ⟨q0, q1, q2, q3, q4, q5⟩ := ccells h9; obtain ⟨t0, t1, t2, t3, t4, t5⟩ := cfrozen h9)
      all_goals
        go_wp2_with fail
        obtain ⟨u0, u1, u2, u3, u4, u5⟩ := csetu h9 rc
        refine bodyPost_ret (v := .tuple #[.int .i64 rr, .agg rc.cells]) ?_ rfl ⟨rfl, ?_⟩
        rotate_left
        exact (Owns.cset h9 rc).drop.drop
        simp [results, Try.results37, go_sem, czero, u0, u1, u2, u3, u4, u5]
  · have hs : simpleB 63 = false := rfl
    have ht : tcB 63 = false := rfl
    have he : restT false (⟨reg, cnt, ⟨#[]⟩, nm, ar, tx⟩ : Cm) 63 l = patF (⟨reg, cnt, ⟨#[]⟩, (str1 63), ar, tx⟩ : Cm) [] l := by simp only [restT, hsz, hs, ht, Int.reduceBEq, Bool.true_and, Bool.and_true, Bool.false_and, Bool.and_false, Bool.true_or, Bool.or_true, Bool.false_or, Bool.or_false, Bool.or_self, Bool.and_self, beq_self_eq_true, if_true, if_false, Bool.false_eq_true, reduceIte]
    have hr2 : patF (⟨reg, cnt, ⟨#[]⟩, (str1 63), ar, tx⟩ : Cm) [] l = (rr, rc) := by rw [← he]; exact Hr.out
    have Hr2 := Lib.hid hr2
    clear Hr he hr2
    obtain ⟨A, hA⟩ : ∃ A, A = w.heap.size := ⟨_, rfl⟩
    obtain ⟨B, hB⟩ : ∃ B, B = w.heap.size + 1 := ⟨_, rfl⟩
    have h1 := (H.alloc (⟨reg, cnt, ⟨#[]⟩, nm, ar, tx⟩ : Cm).cells 33).alloc czero.cells 33
    rw [World.size_alloc, ← hB, ← hA] at h1
    obtain ⟨W1, hW1⟩ : ∃ W1, (w.alloc (.cells (⟨reg, cnt, ⟨#[]⟩, nm, ar, tx⟩ : Cm).cells 33)).alloc (.cells czero.cells 33) = W1 := ⟨_, rfl⟩
    rw [hW1] at h1
    have HW1 := Lib.hid hW1
    have HA := Lib.hid hA
    have HB := Lib.hid hB
    have H1 := Lib.hid h1
    clear h1 hW1 hA hB H
    go_enter Try.func37, Try.ntmps37
    go_upto_region 1 with (fail)
    rw [show Obj.cells #[Value.int IntKind.u8 0, Value.int IntKind.i64 0, Value.string { data := #[] }, Value.string { data := #[] }, Value.int IntKind.u8 0, Value.string { data := #[] }] 33 = Obj.cells czero.cells 33 from rfl, HW1.out, ← HB.out, ← HA.out]
    clear HW1 HA HB
    have kx : W1.cell? ⟨b, o, none⟩ = some (.int .u8 63) := HKE.out W1 H1.out.drop.drop
    have kv := HCV.out W1 H1.out.drop.drop
    have z3 : W1.cell? ⟨A, 3, none⟩ = some (.string nm) := (ccellsM H1.out.p1).2.2.2.1
    have y3 : W1.frozen? ⟨A, 3, none⟩ = false := H1.out.p1.frozen 3
    have h3 := (Owns.cput H1.out.p1 (⟨reg, cnt, ⟨#[]⟩, (str1 63), ar, tx⟩ : Cm) 3 (.string (str1 63)) rfl).p1
    obtain ⟨W3, hW3⟩ : ∃ W3, W1.setCell ⟨A, 3, none⟩ (.string (str1 63)) = W3 := ⟨_, rfl⟩
    rw [hW3] at h3
    have HW3 := Lib.hid hW3
    have H3 := Lib.hid h3
    clear h3 hW3 H1
    go_upto_region 3 with (fail)
    rw [HW3.out]
    clear HW3 z3 y3 kx kv
    obtain ⟨k0, k1, k2, k3, k4, k5⟩ := ccellsM H3.out.p1
    clear k0 k1 k3 k4 k5
    have hbt : bytesB l := fun y hy => Hb.out y (List.mem_cons_of_mem _ hy)
    obtain ⟨m, hm⟩ : ∃ m, n = m + 1 := ⟨n - 1, by omega⟩
    have hml : m = l.length := by have := Hn.out; simp at this; omega
    have hk3 : ∀ a2, (if kc = 1 then some ⟨b, o, none⟩ else Option.map (fun a => a.add 1) (some (⟨b, o, none⟩ : Addr))) = a2 → Reads w0 (cobj B czero :: cobj A (⟨reg, cnt, ⟨#[]⟩, (str1 63), ar, tx⟩ : Cm) :: R) 1 (.slice a2 l.length (kc - 1)) l.length (kints .u8 l) := fun a2 ha W hW => by
      have h := (Hk.out W hW.drop.drop)
      have h2 := h.post (q := 1) (by simp) ha
      simpa [kints] using h2
    by_cases hcap : kc = 1
    · have hp := tpattern (⟨reg, cnt, ⟨#[]⟩, (str1 63), ar, tx⟩ : Cm) hbt (by omega) H3.out.drew (hk3 (some ⟨b, o, none⟩) (if_pos hcap))
      rw [Hr2.out, ← hml] at hp
      dsimp only at hp
      obtain rfl : m = 0 := by omega
      subst hcap
      rw [Nat.sub_self] at hp
      have HP := Lib.hid hp
      obtain ⟨z0, z1, z2, z3, z4, z5⟩ := ccellsM H3.out.p1
      subst hm

      clear hp hk3 hml hlc hn1
      rw [Nat.zero_add]
      go_wp2_with fail
      refine (thas_simple (c := 63) (by omega) (by omega) _).mono ?_
      rintro e w' ⟨rfl, rfl⟩
      go_wp2_with fail
      refine (thas_tc (c := 63) (by omega) (by omega) _).mono ?_
      rintro e w' ⟨rfl, rfl⟩
      go_wp2_with fail
      go_region_with (go_at_call 52; refine HP.out.mono ?_; rintro e w9 ⟨rfl, h9⟩; obtain ⟨q0, q1, q2, q3, q4, q5⟩ := ccells h9; obtain ⟨t0, t1, t2, t3, t4, t5⟩ := cfrozen h9)
      all_goals
        go_wp2_with fail
        obtain ⟨u0, u1, u2, u3, u4, u5⟩ := csetu h9 rc
        refine bodyPost_ret (v := .tuple #[.int .i64 rr, .agg rc.cells]) ?_ rfl ⟨rfl, ?_⟩
        rotate_left
        exact (Owns.cset h9 rc).drop.drop
        simp [results, Try.results37, go_sem, czero, u0, u1, u2, u3, u4, u5]
    · have hp := tpattern (⟨reg, cnt, ⟨#[]⟩, (str1 63), ar, tx⟩ : Cm) hbt (by omega) H3.out.drew (hk3 (some ⟨b, o + 1, none⟩) (by rw [if_neg hcap]; rfl))
      rw [Hr2.out, ← hml] at hp
      dsimp only at hp



      have HP := Lib.hid hp
      obtain ⟨z0, z1, z2, z3, z4, z5⟩ := ccellsM H3.out.p1
      subst hm
      have hn1' : (1 : Int) ≤ (m : Int) + 1 := by omega
      clear hp hk3 hml hlc hn1

      go_wp2_with fail
      refine (thas_simple (c := 63) (by omega) (by omega) _).mono ?_
      rintro e w' ⟨rfl, rfl⟩
      go_wp2_with fail
      refine (thas_tc (c := 63) (by omega) (by omega) _).mono ?_
      rintro e w' ⟨rfl, rfl⟩
      go_wp2_with fail
      go_region_with (go_at_call 52; refine HP.out.mono ?_; rintro e w9 ⟨rfl, h9⟩; obtain ⟨q0, q1, q2, q3, q4, q5⟩ := ccells h9; obtain ⟨t0, t1, t2, t3, t4, t5⟩ := cfrozen h9)
      all_goals
        go_wp2_with fail
        obtain ⟨u0, u1, u2, u3, u4, u5⟩ := csetu h9 rc
        refine bodyPost_ret (v := .tuple #[.int .i64 rr, .agg rc.cells]) ?_ rfl ⟨rfl, ?_⟩
        rotate_left
        exact (Owns.cset h9 rc).drop.drop
        simp [results, Try.results37, go_sem, czero, u0, u1, u2, u3, u4, u5]
  · cases hs : simpleB x with
    | true =>
      have he : restT false (⟨reg, cnt, ⟨#[]⟩, nm, ar, tx⟩ : Cm) x l = (1, (⟨reg, cnt, ⟨#[]⟩, (str1 x), ar, tx⟩ : Cm)) := by simp only [restT, objT, farT, mbyT, hsz, hs, e105, e97, e13, e103, e47, e63, Int.reduceBEq, Bool.true_and, Bool.and_true, Bool.false_and, Bool.and_false, Bool.true_or, Bool.or_true, Bool.false_or, Bool.or_false, Bool.or_self, Bool.and_self, beq_self_eq_true, if_true, if_false, Bool.false_eq_true, reduceIte]
      obtain ⟨rfl, rfl⟩ : rr = 1 ∧ rc = (⟨reg, cnt, ⟨#[]⟩, (str1 x), ar, tx⟩ : Cm) := by have := Hr.out; rw [he] at this; cases this; exact ⟨rfl, rfl⟩
      clear Hr he
      obtain ⟨A, hA⟩ : ∃ A, A = w.heap.size := ⟨_, rfl⟩
      obtain ⟨B, hB⟩ : ∃ B, B = w.heap.size + 1 := ⟨_, rfl⟩
      have h1 := (H.alloc (⟨reg, cnt, ⟨#[]⟩, nm, ar, tx⟩ : Cm).cells 33).alloc czero.cells 33
      rw [World.size_alloc, ← hB, ← hA] at h1
      obtain ⟨W1, hW1⟩ : ∃ W1, (w.alloc (.cells (⟨reg, cnt, ⟨#[]⟩, nm, ar, tx⟩ : Cm).cells 33)).alloc (.cells czero.cells 33) = W1 := ⟨_, rfl⟩
      rw [hW1] at h1
      have HW1 := Lib.hid hW1
      have HA := Lib.hid hA
      have HB := Lib.hid hB
      have H1 := Lib.hid h1
      clear h1 hW1 hA hB H
      go_enter Try.func37, Try.ntmps37
      go_upto_region 1 with (fail)
      rw [show Obj.cells #[Value.int IntKind.u8 0, Value.int IntKind.i64 0, Value.string { data := #[] }, Value.string { data := #[] }, Value.int IntKind.u8 0, Value.string { data := #[] }] 33 = Obj.cells czero.cells 33 from rfl, HW1.out, ← HB.out, ← HA.out]
      clear HW1 HA HB
      have kx : W1.cell? ⟨b, o, none⟩ = some (.int .u8 x) := HKE.out W1 H1.out.drop.drop
      have kv := HCV.out W1 H1.out.drop.drop
      have z3 : W1.cell? ⟨A, 3, none⟩ = some (.string nm) := (ccellsM H1.out.p1).2.2.2.1
      have y3 : W1.frozen? ⟨A, 3, none⟩ = false := H1.out.p1.frozen 3
      have h3 := (Owns.cput H1.out.p1 (⟨reg, cnt, ⟨#[]⟩, (str1 x), ar, tx⟩ : Cm) 3 (.string (str1 x)) rfl).p1
      obtain ⟨W3, hW3⟩ : ∃ W3, W1.setCell ⟨A, 3, none⟩ (.string (str1 x)) = W3 := ⟨_, rfl⟩
      rw [hW3] at h3
      have HW3 := Lib.hid hW3
      have H3 := Lib.hid h3
      clear h3 hW3 H1
      go_upto_region 3 with (fail)
      rw [HW3.out]
      clear HW3 z3 y3 kx kv
      obtain ⟨k0, k1, k2, k3, k4, k5⟩ := ccellsM H3.out.p1
      clear k0 k1 k3 k4 k5
      go_wp2_with fail
      refine (thas_simple (c := x) (by omega) (by omega) _).mono ?_
      rintro e w' ⟨rfl, rfl⟩
      obtain ⟨z0, z1, z2, z3, z4, z5⟩ := ccellsM H3.out.p1
      obtain ⟨q0, q1, q2, q3, q4, q5⟩ := ccells H3.out
      obtain ⟨t0, t1, t2, t3, t4, t5⟩ := cfrozen H3.out
      go_wp2_with fail
      go_region
      all_goals
        go_wp2_with fail
        obtain ⟨u0, u1, u2, u3, u4, u5⟩ := csetu H3.out (⟨reg, cnt, ⟨#[]⟩, (str1 x), ar, tx⟩ : Cm)
        exact bodyPost_ret (v := .tuple #[.int .i64 1, .agg ((⟨reg, cnt, ⟨#[]⟩, (str1 x), ar, tx⟩ : Cm)).cells]) (by simp at u0 u1 u2 u3 u4 u5; simp [results, Try.results37, go_sem, u0, u1, u2, u3, u4, u5]) rfl ⟨rfl, (Owns.cset H3.out (⟨reg, cnt, ⟨#[]⟩, (str1 x), ar, tx⟩ : Cm)).drew.drop.drop⟩
    | false =>
      cases ht : tcB x with
      | true =>
        cases l with
        | nil =>
          have he : restT false (⟨reg, cnt, ⟨#[]⟩, nm, ar, tx⟩ : Cm) x [] = (0, czero) := by simp only [restT, objT, farT, mbyT, hsz, hs, ht, e105, e97, e13, e103, e47, e63, Int.reduceBEq, Bool.true_and, Bool.and_true, Bool.false_and, Bool.and_false, Bool.true_or, Bool.or_true, Bool.false_or, Bool.or_false, Bool.or_self, Bool.and_self, beq_self_eq_true, if_true, if_false, Bool.false_eq_true, reduceIte]
          obtain ⟨rfl, rfl⟩ : rr = 0 ∧ rc = czero := by have := Hr.out; rw [he] at this; cases this; exact ⟨rfl, rfl⟩
          clear Hr he
          obtain ⟨A, hA⟩ : ∃ A, A = w.heap.size := ⟨_, rfl⟩
          obtain ⟨B, hB⟩ : ∃ B, B = w.heap.size + 1 := ⟨_, rfl⟩
          have h1 := (H.alloc (⟨reg, cnt, ⟨#[]⟩, nm, ar, tx⟩ : Cm).cells 33).alloc czero.cells 33
          rw [World.size_alloc, ← hB, ← hA] at h1
          obtain ⟨W1, hW1⟩ : ∃ W1, (w.alloc (.cells (⟨reg, cnt, ⟨#[]⟩, nm, ar, tx⟩ : Cm).cells 33)).alloc (.cells czero.cells 33) = W1 := ⟨_, rfl⟩
          rw [hW1] at h1
          have HW1 := Lib.hid hW1
          have HA := Lib.hid hA
          have HB := Lib.hid hB
          have H1 := Lib.hid h1
          clear h1 hW1 hA hB H
          go_enter Try.func37, Try.ntmps37
          go_upto_region 1 with (fail)
          rw [show Obj.cells #[Value.int IntKind.u8 0, Value.int IntKind.i64 0, Value.string { data := #[] }, Value.string { data := #[] }, Value.int IntKind.u8 0, Value.string { data := #[] }] 33 = Obj.cells czero.cells 33 from rfl, HW1.out, ← HB.out, ← HA.out]
          clear HW1 HA HB
          have kx : W1.cell? ⟨b, o, none⟩ = some (.int .u8 x) := HKE.out W1 H1.out.drop.drop
          have kv := HCV.out W1 H1.out.drop.drop
          have z3 : W1.cell? ⟨A, 3, none⟩ = some (.string nm) := (ccellsM H1.out.p1).2.2.2.1
          have y3 : W1.frozen? ⟨A, 3, none⟩ = false := H1.out.p1.frozen 3
          have h3 := (Owns.cput H1.out.p1 (⟨reg, cnt, ⟨#[]⟩, (str1 x), ar, tx⟩ : Cm) 3 (.string (str1 x)) rfl).p1
          obtain ⟨W3, hW3⟩ : ∃ W3, W1.setCell ⟨A, 3, none⟩ (.string (str1 x)) = W3 := ⟨_, rfl⟩
          rw [hW3] at h3
          have HW3 := Lib.hid hW3
          have H3 := Lib.hid h3
          clear h3 hW3 H1
          go_upto_region 3 with (fail)
          rw [HW3.out]
          clear HW3 z3 y3 kx kv
          obtain ⟨k0, k1, k2, k3, k4, k5⟩ := ccellsM H3.out.p1
          clear k0 k1 k3 k4 k5
          have hn2 : ((n : Int) < 2) := by have := Hn.out; simp at this; omega
          go_wp2_with fail
          refine (thas_simple (c := x) (by omega) (by omega) _).mono ?_
          rintro e w' ⟨rfl, rfl⟩
          go_wp2_with fail
          refine (thas_tc (c := x) (by omega) (by omega) _).mono ?_
          rintro e w' ⟨rfl, rfl⟩
          go_wp2_with fail
          refine (twait H3.out).mono ?_
          rintro e w9 ⟨rfl, h9⟩
          obtain ⟨q0, q1, q2, q3, q4, q5⟩ := ccells (h9)
          obtain ⟨t0, t1, t2, t3, t4, t5⟩ := cfrozen (h9)
          go_wp2_with fail
          obtain ⟨u0, u1, u2, u3, u4, u5⟩ := csetu (h9) czero
          exact bodyPost_ret (v := .tuple #[.int .i64 0, .agg (czero).cells]) (by (try simp [czero] at u0 u1 u2 u3 u4 u5); simp [results, Try.results37, go_sem, czero, u0, u1, u2, u3, u4, u5]) rfl ⟨rfl, (Owns.cset (h9) czero).drop.drop⟩
        | cons y l' =>
          obtain ⟨hy0, hy1, HKY'⟩ := HKY.out y l' rfl
          by_cases hy27 : y = 27
          · subst hy27
            have he : restT false (⟨reg, cnt, ⟨#[]⟩, nm, ar, tx⟩ : Cm) x (27 :: l') = (2, czero) := by simp only [restT, objT, farT, mbyT, hsz, hs, ht, e105, e97, e13, e103, e47, e63, Int.reduceBEq, Bool.true_and, Bool.and_true, Bool.false_and, Bool.and_false, Bool.true_or, Bool.or_true, Bool.false_or, Bool.or_false, Bool.or_self, Bool.and_self, beq_self_eq_true, if_true, if_false, Bool.false_eq_true, reduceIte]
            obtain ⟨rfl, rfl⟩ : rr = 2 ∧ rc = czero := by have := Hr.out; rw [he] at this; cases this; exact ⟨rfl, rfl⟩
            clear Hr he
            obtain ⟨A, hA⟩ : ∃ A, A = w.heap.size := ⟨_, rfl⟩
            obtain ⟨B, hB⟩ : ∃ B, B = w.heap.size + 1 := ⟨_, rfl⟩
            have h1 := (H.alloc (⟨reg, cnt, ⟨#[]⟩, nm, ar, tx⟩ : Cm).cells 33).alloc czero.cells 33
            rw [World.size_alloc, ← hB, ← hA] at h1
            obtain ⟨W1, hW1⟩ : ∃ W1, (w.alloc (.cells (⟨reg, cnt, ⟨#[]⟩, nm, ar, tx⟩ : Cm).cells 33)).alloc (.cells czero.cells 33) = W1 := ⟨_, rfl⟩
            rw [hW1] at h1
            have HW1 := Lib.hid hW1
            have HA := Lib.hid hA
            have HB := Lib.hid hB
            have H1 := Lib.hid h1
            clear h1 hW1 hA hB H
            go_enter Try.func37, Try.ntmps37
            go_upto_region 1 with (fail)
            rw [show Obj.cells #[Value.int IntKind.u8 0, Value.int IntKind.i64 0, Value.string { data := #[] }, Value.string { data := #[] }, Value.int IntKind.u8 0, Value.string { data := #[] }] 33 = Obj.cells czero.cells 33 from rfl, HW1.out, ← HB.out, ← HA.out]
            clear HW1 HA HB
            have kx : W1.cell? ⟨b, o, none⟩ = some (.int .u8 x) := HKE.out W1 H1.out.drop.drop
            have kv := HCV.out W1 H1.out.drop.drop
            have z3 : W1.cell? ⟨A, 3, none⟩ = some (.string nm) := (ccellsM H1.out.p1).2.2.2.1
            have y3 : W1.frozen? ⟨A, 3, none⟩ = false := H1.out.p1.frozen 3
            have h3 := (Owns.cput H1.out.p1 (⟨reg, cnt, ⟨#[]⟩, (str1 x), ar, tx⟩ : Cm) 3 (.string (str1 x)) rfl).p1
            obtain ⟨W3, hW3⟩ : ∃ W3, W1.setCell ⟨A, 3, none⟩ (.string (str1 x)) = W3 := ⟨_, rfl⟩
            rw [hW3] at h3
            have HW3 := Lib.hid hW3
            have H3 := Lib.hid h3
            clear h3 hW3 H1
            go_upto_region 3 with (fail)
            rw [HW3.out]
            clear HW3 z3 y3 kx kv
            obtain ⟨k0, k1, k2, k3, k4, k5⟩ := ccellsM H3.out.p1
            clear k0 k1 k3 k4 k5
            have kx1 : W3.cell? ⟨b, o + 1, none⟩ = some (.int .u8 27) := HKY' W3 H3.out.drop.drop
            have hn2 : ¬ ((n : Int) < 2) := by have := Hn.out; simp at this; omega
            go_wp2_with fail
            refine (thas_simple (c := x) (by omega) (by omega) _).mono ?_
            rintro e w' ⟨rfl, rfl⟩
            go_wp2_with fail
            refine (thas_tc (c := x) (by omega) (by omega) _).mono ?_
            rintro e w' ⟨rfl, rfl⟩
            go_wp2_with fail
            refine (tbell H3.out).mono ?_
            rintro e w9 ⟨rfl, h9⟩
            obtain ⟨q0, q1, q2, q3, q4, q5⟩ := ccells (h9)
            obtain ⟨t0, t1, t2, t3, t4, t5⟩ := cfrozen (h9)
            go_wp2_with fail
            obtain ⟨u0, u1, u2, u3, u4, u5⟩ := csetu (h9) czero
            exact bodyPost_ret (v := .tuple #[.int .i64 2, .agg (czero).cells]) (by (try simp [czero] at u0 u1 u2 u3 u4 u5); simp [results, Try.results37, go_sem, czero, u0, u1, u2, u3, u4, u5]) rfl ⟨rfl, (Owns.cset (h9) czero).drop.drop⟩
          · have e27 : (y == 27) = false := by simpa using hy27
            have he : restT false (⟨reg, cnt, ⟨#[]⟩, nm, ar, tx⟩ : Cm) x (y :: l') = (1, (⟨reg, cnt, ⟨#[]⟩, (str1 x), y, tx⟩ : Cm)) := by simp only [restT, objT, farT, mbyT, hsz, hs, ht, e27, e105, e97, e13, e103, e47, e63, Int.reduceBEq, Bool.true_and, Bool.and_true, Bool.false_and, Bool.and_false, Bool.true_or, Bool.or_true, Bool.false_or, Bool.or_false, Bool.or_self, Bool.and_self, beq_self_eq_true, if_true, if_false, Bool.false_eq_true, reduceIte]
            obtain ⟨rfl, rfl⟩ : rr = 1 ∧ rc = (⟨reg, cnt, ⟨#[]⟩, (str1 x), y, tx⟩ : Cm) := by have := Hr.out; rw [he] at this; cases this; exact ⟨rfl, rfl⟩
            clear Hr he
            obtain ⟨A, hA⟩ : ∃ A, A = w.heap.size := ⟨_, rfl⟩
            obtain ⟨B, hB⟩ : ∃ B, B = w.heap.size + 1 := ⟨_, rfl⟩
            have h1 := (H.alloc (⟨reg, cnt, ⟨#[]⟩, nm, ar, tx⟩ : Cm).cells 33).alloc czero.cells 33
            rw [World.size_alloc, ← hB, ← hA] at h1
            obtain ⟨W1, hW1⟩ : ∃ W1, (w.alloc (.cells (⟨reg, cnt, ⟨#[]⟩, nm, ar, tx⟩ : Cm).cells 33)).alloc (.cells czero.cells 33) = W1 := ⟨_, rfl⟩
            rw [hW1] at h1
            have HW1 := Lib.hid hW1
            have HA := Lib.hid hA
            have HB := Lib.hid hB
            have H1 := Lib.hid h1
            clear h1 hW1 hA hB H
            go_enter Try.func37, Try.ntmps37
            go_upto_region 1 with (fail)
            rw [show Obj.cells #[Value.int IntKind.u8 0, Value.int IntKind.i64 0, Value.string { data := #[] }, Value.string { data := #[] }, Value.int IntKind.u8 0, Value.string { data := #[] }] 33 = Obj.cells czero.cells 33 from rfl, HW1.out, ← HB.out, ← HA.out]
            clear HW1 HA HB
            have kx : W1.cell? ⟨b, o, none⟩ = some (.int .u8 x) := HKE.out W1 H1.out.drop.drop
            have kv := HCV.out W1 H1.out.drop.drop
            have z3 : W1.cell? ⟨A, 3, none⟩ = some (.string nm) := (ccellsM H1.out.p1).2.2.2.1
            have y3 : W1.frozen? ⟨A, 3, none⟩ = false := H1.out.p1.frozen 3
            have h3 := (Owns.cput H1.out.p1 (⟨reg, cnt, ⟨#[]⟩, (str1 x), ar, tx⟩ : Cm) 3 (.string (str1 x)) rfl).p1
            obtain ⟨W3, hW3⟩ : ∃ W3, W1.setCell ⟨A, 3, none⟩ (.string (str1 x)) = W3 := ⟨_, rfl⟩
            rw [hW3] at h3
            have HW3 := Lib.hid hW3
            have H3 := Lib.hid h3
            clear h3 hW3 H1
            go_upto_region 3 with (fail)
            rw [HW3.out]
            clear HW3 z3 y3 kx kv
            obtain ⟨k0, k1, k2, k3, k4, k5⟩ := ccellsM H3.out.p1
            clear k0 k1 k3 k4 k5
            have kx1 : W3.cell? ⟨b, o + 1, none⟩ = some (.int .u8 y) := HKY' W3 H3.out.drop.drop
            have hn2 : ¬ ((n : Int) < 2) := by have := Hn.out; simp at this; omega
            go_wp2_with fail
            refine (thas_simple (c := x) (by omega) (by omega) _).mono ?_
            rintro e w' ⟨rfl, rfl⟩
            go_wp2_with fail
            refine (thas_tc (c := x) (by omega) (by omega) _).mono ?_
            rintro e w' ⟨rfl, rfl⟩
            have z4 := (ccellsM H3.out.p1).2.2.2.2.1
            have y4 := H3.out.p1.frozen 4
            have H4 := Lib.hid (Owns.cput H3.out.p1 (⟨reg, cnt, ⟨#[]⟩, (str1 x), y, tx⟩ : Cm) 4 (.int .u8 y) rfl).p1
            clear H3
            obtain ⟨z0, z1, z2, z3, z4, z5⟩ := ccellsM H4.out.p1
            obtain ⟨q0, q1, q2, q3, q4, q5⟩ := ccells H4.out
            obtain ⟨t0, t1, t2, t3, t4, t5⟩ := cfrozen H4.out
            go_wp2_with fail
            go_region
            all_goals
              go_wp2_with fail
              obtain ⟨u0, u1, u2, u3, u4, u5⟩ := csetu H4.out (⟨reg, cnt, ⟨#[]⟩, (str1 x), y, tx⟩ : Cm)
              exact bodyPost_ret (v := .tuple #[.int .i64 1, .agg ((⟨reg, cnt, ⟨#[]⟩, (str1 x), y, tx⟩ : Cm)).cells]) (by simp at u0 u1 u2 u3 u4 u5; simp [results, Try.results37, go_sem, u0, u1, u2, u3, u4, u5]) rfl ⟨rfl, (Owns.cset H4.out (⟨reg, cnt, ⟨#[]⟩, (str1 x), y, tx⟩ : Cm)).drew.drop.drop⟩
      | false =>
        have he : restT false (⟨reg, cnt, ⟨#[]⟩, nm, ar, tx⟩ : Cm) x l = normalT (⟨reg, cnt, ⟨#[]⟩, (str1 x), ar, tx⟩ : Cm) x l := by simp only [restT, hsz, hs, ht, e105, e97, e13, e103, e47, e63, Int.reduceBEq, Bool.true_and, Bool.and_true, Bool.false_and, Bool.and_false, Bool.true_or, Bool.or_true, Bool.false_or, Bool.or_false, Bool.or_self, Bool.and_self, beq_self_eq_true, if_true, if_false, Bool.false_eq_true, reduceIte]
        have hr2 : normalT (⟨reg, cnt, ⟨#[]⟩, (str1 x), ar, tx⟩ : Cm) x l = (rr, rc) := by rw [← he]; exact Hr.out
        have Hr2 := Lib.hid hr2
        clear Hr he hr2
        obtain ⟨A, hA⟩ : ∃ A, A = w.heap.size := ⟨_, rfl⟩
        obtain ⟨B, hB⟩ : ∃ B, B = w.heap.size + 1 := ⟨_, rfl⟩
        have h1 := (H.alloc (⟨reg, cnt, ⟨#[]⟩, nm, ar, tx⟩ : Cm).cells 33).alloc czero.cells 33
        rw [World.size_alloc, ← hB, ← hA] at h1
        obtain ⟨W1, hW1⟩ : ∃ W1, (w.alloc (.cells (⟨reg, cnt, ⟨#[]⟩, nm, ar, tx⟩ : Cm).cells 33)).alloc (.cells czero.cells 33) = W1 := ⟨_, rfl⟩
        rw [hW1] at h1
        have HW1 := Lib.hid hW1
        have HA := Lib.hid hA
        have HB := Lib.hid hB
        have H1 := Lib.hid h1
        clear h1 hW1 hA hB H
        go_enter Try.func37, Try.ntmps37
        go_upto_region 1 with (fail)
        rw [show Obj.cells #[Value.int IntKind.u8 0, Value.int IntKind.i64 0, Value.string { data := #[] }, Value.string { data := #[] }, Value.int IntKind.u8 0, Value.string { data := #[] }] 33 = Obj.cells czero.cells 33 from rfl, HW1.out, ← HB.out, ← HA.out]
        clear HW1 HA HB
        have kx : W1.cell? ⟨b, o, none⟩ = some (.int .u8 x) := HKE.out W1 H1.out.drop.drop
        have kv := HCV.out W1 H1.out.drop.drop
        have z3 : W1.cell? ⟨A, 3, none⟩ = some (.string nm) := (ccellsM H1.out.p1).2.2.2.1
        have y3 : W1.frozen? ⟨A, 3, none⟩ = false := H1.out.p1.frozen 3
        have h3 := (Owns.cput H1.out.p1 (⟨reg, cnt, ⟨#[]⟩, (str1 x), ar, tx⟩ : Cm) 3 (.string (str1 x)) rfl).p1
        obtain ⟨W3, hW3⟩ : ∃ W3, W1.setCell ⟨A, 3, none⟩ (.string (str1 x)) = W3 := ⟨_, rfl⟩
        rw [hW3] at h3
        have HW3 := Lib.hid hW3
        have H3 := Lib.hid h3
        clear h3 hW3 H1
        go_upto_region 3 with (fail)
        rw [HW3.out]
        clear HW3 z3 y3 kx kv
        obtain ⟨k0, k1, k2, k3, k4, k5⟩ := ccellsM H3.out.p1
        clear k0 k1 k3 k4 k5
        have hc3 := tnormal (⟨reg, cnt, ⟨#[]⟩, (str1 x), ar, tx⟩ : Cm) Hb.out (by omega) H3.out (fun W hW => Hk.out W hW.drop.drop)
        rw [Hr2.out, ← Hn.out] at hc3
        dsimp only at hc3
        have HC := Lib.hid hc3
        clear hc3
        obtain ⟨z0, z1, z2, z3, z4, z5⟩ := ccellsM H3.out.p1
        go_wp2_with fail
        refine (thas_simple (c := x) (by omega) (by omega) _).mono ?_
        rintro e w' ⟨rfl, rfl⟩
        go_wp2_with fail
        refine (thas_tc (c := x) (by omega) (by omega) _).mono ?_
        rintro e w' ⟨rfl, rfl⟩
        go_wp2_with fail
        refine HC.out.mono ?_
        rintro e w9 ⟨rfl, h9⟩
        obtain ⟨q0, q1, q2, q3, q4, q5⟩ := ccells (h9)
        obtain ⟨t0, t1, t2, t3, t4, t5⟩ := cfrozen (h9)
        go_wp2_with fail
        obtain ⟨u0, u1, u2, u3, u4, u5⟩ := csetu (h9) rc
        exact bodyPost_ret (v := .tuple #[.int .i64 rr, .agg (rc).cells]) (by (try simp [czero] at u0 u1 u2 u3 u4 u5); simp [results, Try.results37, go_sem, czero, u0, u1, u2, u3, u4, u5]) rfl ⟨rfl, (Owns.cset (h9) rc).drop.drop⟩
end
end Go.Proofs.Ythcamokblkjkkaa
