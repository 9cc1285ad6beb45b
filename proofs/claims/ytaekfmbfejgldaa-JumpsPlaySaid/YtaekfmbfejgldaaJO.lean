/- jumps: Older, Newer, All. -/
import Derived.Test.YtaekfmbfejgldaaJP
namespace Go.Proofs.Ytaekfmbfejgldaa
open Go Go.RowKit Go.Fol
attribute [local go_sem ↓] Go.wp_at_zero Go.wp_at_succ
attribute [local go_sem ↓] run_min2 run_max2
set_option linter.unusedVariables false
set_option linter.unusedSimpArgs false
section
variable {w0 w : World} {R : List Asrt}
/-- Older refuses. -/
theorem jolder_out {j at_ : Nat} {L : List (Int × Int)} (line col n : Int) (H : Owns w0 w (Asrt.jumps j L at_ :: R)) (hn : n < 1 ∨ n > at_) :
    Calls Try.prog 9 #[.pointer (some ⟨j, 0, none⟩), .agg #[.int .i64 line, .int .i64 col], .int .i64 n] w (Ret (.tuple #[.agg #[.int .i64 0, .int .i64 0], .bool false]) w0 (Asrt.jumps j L at_ :: R)) := by
  obtain ⟨v, h⟩ := jumpsE H
  have H2 := Lib.hid ((h.alloc #[.int .i64 line, .int .i64 col] 29).alloc #[.int .i64 0, .int .i64 0] 29)
  have k1 : ((w.alloc (.cells #[.int .i64 line, .int .i64 col] 29)).alloc (.cells #[.int .i64 0, .int .i64 0] 29)).cell? ⟨j, 1, none⟩ = some (.int .i64 at_) := H2.out.p2.cell (j := 1) rfl
  clear h H
  by_cases h1 : n < 1
  · clear hn
    go_enter Try.func9, Try.ntmps9
    go_wp2_with fail
    exact bodyPost_ret (v := .tuple #[.agg #[.int .i64 0, .int .i64 0], .bool false]) (by simp [results, Try.results9, go_sem]) rfl ⟨rfl, jumpsI H2.out.drop.drop⟩
  · have h2 : (at_ : Int) < n := by omega
    clear hn
    go_enter Try.func9, Try.ntmps9
    go_wp2_with fail
    exact bodyPost_ret (v := .tuple #[.agg #[.int .i64 0, .int .i64 0], .bool false]) (by simp [results, Try.results9, go_sem]) rfl ⟨rfl, jumpsI H2.out.drop.drop⟩

set_option maxHeartbeats 1000000 in
/-- Older, from the end. -/
theorem jolder_end {j : Nat} {L : List (Int × Int)} (line col n : Int) (H : Owns w0 w (Asrt.jumps j L L.length :: R)) (hl : L.length ≤ 16) (hn : 1 ≤ n) (hn2 : n ≤ L.length) {b : Nat} (hb : max (((pushL L (line, col)).length : Int) - 1 - n) 0 = b) {q : Int × Int} (hq : (pushL L (line, col))[b]? = some q) :
    Calls Try.prog 9 #[.pointer (some ⟨j, 0, none⟩), .agg #[.int .i64 line, .int .i64 col], .int .i64 n] w (Ret (.tuple #[.agg #[.int .i64 q.1, .int .i64 q.2], .bool true]) w0 (Asrt.jumps j (pushL L (line, col)) b :: R)) := by
  obtain ⟨v, h⟩ := jumpsE H
  obtain ⟨W2, hW2⟩ : ∃ W2, (w.alloc (.cells #[.int .i64 line, .int .i64 col] 29)).alloc (.cells #[.int .i64 0, .int .i64 0] 29) = W2 := ⟨_, rfl⟩
  have H2 : Owns w0 W2 (Asrt.obj (w.heap.size + 1) (.cells #[.int .i64 0, .int .i64 0] 29 (0, 0)) :: Asrt.obj w.heap.size (.cells #[.int .i64 line, .int .i64 col] 29 (0, 0)) :: jobj j v L.length :: posvec v L :: R) := by
    have := (h.alloc #[.int .i64 line, .int .i64 col] 29).alloc #[.int .i64 0, .int .i64 0] 29
    rw [World.size_alloc, hW2] at this
    exact this
  obtain ⟨B1, hB1⟩ : ∃ B, B = w.heap.size := ⟨_, rfl⟩
  obtain ⟨B2, hB2⟩ : ∃ B, B = w.heap.size + 1 := ⟨_, rfl⟩
  rw [← hB2, ← hB1] at H2
  have HH := Lib.hid H2
  have hlen : ∀ q, Calls Try.prog 22 #[.pointer (some ⟨v, 0, none⟩)] (W2.drewN q) fun e w' => e = .returned (.int .i64 L.length) ∧ w' = W2.drewN q := fun q => (o_len_pos ((HH.out.drewN q).p3)).mono fun e w' ⟨h1, h2⟩ => ⟨h1, h2.symm⟩
  have Hlen := Lib.hid hlen
  have j0 : W2.cell? ⟨j, 0, none⟩ = some (.pointer (some ⟨v, 0, none⟩)) := H2.p2.cell (j := 0) rfl
  have j1 : W2.cell? ⟨j, 1, none⟩ = some (.int .i64 (L.length : Int)) := H2.p2.cell (j := 1) rfl
  have c0 : W2.cell? ⟨B1, 0, none⟩ = some (.int .i64 line) := H2.p1.cell (j := 0) rfl
  have c1 : W2.cell? ⟨B1, 1, none⟩ = some (.int .i64 col) := H2.p1.cell (j := 1) rfl
  have Hb := Lib.hid hb
  have Hq := Lib.hid hq
  have HW2 := Lib.hid hW2
  have HB1 := Lib.hid hB1
  have HB2 := Lib.hid hB2
  have h1 : ¬ (n < 1) := by omega
  have h2 : ¬ ((L.length : Int) < n) := by omega
  have hpl := pushL_len (L := L) (line, col)
  have hpl1 : 1 ≤ (pushL L (line, col)).length := by omega
  have hpl2 : (pushL L (line, col)).length ≤ 16 := by omega
  clear H2 hlen hb hq h H hW2 hB1 hB2 hpl
  go_enter Try.func9, Try.ntmps9
  go_upto_region 1 with (fail)
  rw [HW2.out, ← HB2.out, ← HB1.out]
  clear HW2 HB1 HB2
  go_wp2_with fail
  go_quiet ((go_at_call 22; exact Calls.quiet_of_same (Hlen.out _)))
  go_wp2_with fail
  refine (jpush line col (jumpsI ((HH.out.drewN nq).ord [2, 2])) (Nat.le_refl _) hl).mono ?_
  rintro e w3 ⟨rfl, h3⟩
  clear j0 j1 c0 c1
  obtain ⟨v3, h3⟩ := jumpsE h3
  obtain ⟨L3, hL3⟩ : ∃ L3, L3 = pushL L (line, col) := ⟨_, rfl⟩
  obtain ⟨m, hm⟩ : ∃ m, m + 1 = L3.length := ⟨L3.length - 1, by rw [hL3]; omega⟩
  rw [← hL3, ← hm] at h3
  have H3 := Lib.hid h3
  have j0 : w3.cell? ⟨j, 0, none⟩ = some (.pointer (some ⟨v3, 0, none⟩)) := h3.cell (j := 0) rfl
  have j1 : w3.cell? ⟨j, 1, none⟩ = some (.int .i64 ((m : Int) + 1)) := h3.cell (j := 1) rfl
  have f1 : w3.frozen? ⟨j, 1, none⟩ = false := h3.frozen 1
  have hmx : max ((m : Int) - n) 0 = (b : Int) := by rw [← Hb.out, ← hL3]; congr 1; omega
  have hbm : b < L3.length := by omega
  have hl3 : L3.length ≤ 16 := by rw [hL3]; exact hpl2
  have hmb : m ≤ 15 := by omega
  obtain ⟨W4, hW4⟩ : ∃ W4, (w3.setCell ⟨j, 1, none⟩ (.int .i64 m)).setCell ⟨j, 1, none⟩ (.int .i64 b) = W4 := ⟨_, rfl⟩
  have h4 : Owns w0 W4 (jobj j v3 b :: posvec v3 L3 :: Asrt.obj B2 (.cells #[.int .i64 0, .int .i64 0] 29 (0, 0)) :: R) := by
    rw [← hW4]
    exact (((h3.set 1 (.int .i64 m)).set 1 (.int .i64 b)).ord [3]).drop
  have HW4 := Lib.hid hW4
  have hqq := poss_get (hL3 ▸ Hq.out)
  have hat := o_at_pos b q.1 q.2 h4.drew.p1 hbm hqq
  have Hat := Lib.hid hat
  have j0' : W4.cell? ⟨j, 0, none⟩ = some (.pointer (some ⟨v3, 0, none⟩)) := h4.cell (j := 0) rfl
  have j1' : W4.cell? ⟨j, 1, none⟩ = some (.int .i64 (b : Int)) := h4.cell (j := 1) rfl
  have HL3 := Lib.hid hL3
  clear h3 hqq hat h4 hW4 hL3
  go_wp2_with fail
  rw [HW4.out]
  clear j0 j1 f1 HW4
  go_region_held3 (fun w' => w'.cell? ⟨j, 0, none⟩ = some (.pointer (some ⟨v3, 0, none⟩)) ∧ w'.cell? ⟨j, 1, none⟩ = some (.int .i64 (b : Int))) (first | go_keep | exact ⟨s0, s1⟩ | exact ⟨t0, t1⟩)
    ((go_at_call 24; refine Hat.out.mono ?_; rintro e w5 ⟨rfl, h5⟩; have s0 : w5.cell? ⟨j, 0, none⟩ = some (.pointer (some ⟨v3, 0, none⟩)) := h5.p1.cell (j := 0) rfl; have s1 : w5.cell? ⟨j, 1, none⟩ = some (.int .i64 (b : Int)) := h5.p1.cell (j := 1) rfl; have r0 : w5.cell? ⟨B2, 0, none⟩ = some (.int .i64 0) := h5.p2.cell (j := 0) rfl; have r1 : w5.cell? ⟨B2, 1, none⟩ = some (.int .i64 0) := h5.p2.cell (j := 1) rfl; have r2 : w5.frozen? ⟨B2, 0, none⟩ = false := h5.p2.frozen 0; have r3 : w5.frozen? ⟨B2, 1, none⟩ = false := h5.p2.frozen 1; have h6 := (h5.p2.set 0 (.int .i64 q.1)).set 1 (.int .i64 q.2); have t0 : ((w5.setCell ⟨B2, 0, none⟩ (.int .i64 q.1)).setCell ⟨B2, 1, none⟩ (.int .i64 q.2)).cell? ⟨j, 0, none⟩ = some (.pointer (some ⟨v3, 0, none⟩)) := h6.p2.cell (j := 0) rfl; have t1 : ((w5.setCell ⟨B2, 0, none⟩ (.int .i64 q.1)).setCell ⟨B2, 1, none⟩ (.int .i64 q.2)).cell? ⟨j, 1, none⟩ = some (.int .i64 (b : Int)) := h6.p2.cell (j := 1) rfl; have u0 : ((w5.setCell ⟨B2, 0, none⟩ (.int .i64 q.1)).setCell ⟨B2, 1, none⟩ (.int .i64 q.2)).cell? ⟨B2, 0, none⟩ = some (.int .i64 q.1) := h6.cell (j := 0) rfl; have u1 : ((w5.setCell ⟨B2, 0, none⟩ (.int .i64 q.1)).setCell ⟨B2, 1, none⟩ (.int .i64 q.2)).cell? ⟨B2, 1, none⟩ = some (.int .i64 q.2) := h6.cell (j := 1) rfl; have H6 := Lib.hid h6; clear h5 h6))
  clear s0 s1 r0 r1 r2 r3 t0 t1
  go_wp2_with fail
  exact bodyPost_ret (v := .tuple #[.agg #[.int .i64 q.1, .int .i64 q.2], .bool true]) (by simp [results, Try.results9, go_sem, u0, u1]) rfl ⟨rfl, by rw [← HL3.out]; exact jumpsI (H6.out.drop.p1)⟩
set_option maxHeartbeats 1000000 in
/-- Older, from within. -/
theorem jolder_mid {j at_ : Nat} {L : List (Int × Int)} (line col n : Int) (H : Owns w0 w (Asrt.jumps j L at_ :: R)) (hat : at_ < L.length) (hl : L.length ≤ 16) (hn : 1 ≤ n) (hn2 : n ≤ at_) {b : Nat} (hb : (at_ : Int) - n = b) {q : Int × Int} (hq : L[b]? = some q) :
    Calls Try.prog 9 #[.pointer (some ⟨j, 0, none⟩), .agg #[.int .i64 line, .int .i64 col], .int .i64 n] w (Ret (.tuple #[.agg #[.int .i64 q.1, .int .i64 q.2], .bool true]) w0 (Asrt.jumps j L b :: R)) := by
  obtain ⟨v, h⟩ := jumpsE H
  obtain ⟨W2, hW2⟩ : ∃ W2, (w.alloc (.cells #[.int .i64 line, .int .i64 col] 29)).alloc (.cells #[.int .i64 0, .int .i64 0] 29) = W2 := ⟨_, rfl⟩
  have H2 : Owns w0 W2 (Asrt.obj (w.heap.size + 1) (.cells #[.int .i64 0, .int .i64 0] 29 (0, 0)) :: Asrt.obj w.heap.size (.cells #[.int .i64 line, .int .i64 col] 29 (0, 0)) :: jobj j v at_ :: posvec v L :: R) := by
    have := (h.alloc #[.int .i64 line, .int .i64 col] 29).alloc #[.int .i64 0, .int .i64 0] 29
    rw [World.size_alloc, hW2] at this
    exact this
  obtain ⟨B1, hB1⟩ : ∃ B, B = w.heap.size := ⟨_, rfl⟩
  obtain ⟨B2, hB2⟩ : ∃ B, B = w.heap.size + 1 := ⟨_, rfl⟩
  rw [← hB2, ← hB1] at H2
  have HH := Lib.hid H2
  have hlen : ∀ q, Calls Try.prog 22 #[.pointer (some ⟨v, 0, none⟩)] (W2.drewN q) fun e w' => e = .returned (.int .i64 L.length) ∧ w' = W2.drewN q := fun q => (o_len_pos ((HH.out.drewN q).p3)).mono fun e w' ⟨h1, h2⟩ => ⟨h1, h2.symm⟩
  have Hlen := Lib.hid hlen
  have j0 : W2.cell? ⟨j, 0, none⟩ = some (.pointer (some ⟨v, 0, none⟩)) := H2.p2.cell (j := 0) rfl
  have j1 : W2.cell? ⟨j, 1, none⟩ = some (.int .i64 (at_ : Int)) := H2.p2.cell (j := 1) rfl
  have c0 : W2.cell? ⟨B1, 0, none⟩ = some (.int .i64 line) := H2.p1.cell (j := 0) rfl
  have c1 : W2.cell? ⟨B1, 1, none⟩ = some (.int .i64 col) := H2.p1.cell (j := 1) rfl
  have Hb := Lib.hid hb
  have Hq := Lib.hid hq
  have HW2 := Lib.hid hW2
  have HB1 := Lib.hid hB1
  have HB2 := Lib.hid hB2
  have h1 : ¬ (n < 1) := by omega
  have h2 : ¬ ((at_ : Int) < n) := by omega
  have h3 : ¬ (at_ = L.length) := by omega
  have h3' : ¬ ((at_ : Int) = (L.length : Int)) := by omega
  clear H2 hlen hb hq h H hW2 hB1 hB2
  go_enter Try.func9, Try.ntmps9
  go_upto_region 1 with (fail)
  rw [HW2.out, ← HB2.out, ← HB1.out]
  clear HW2 HB1 HB2
  go_wp2_with fail
  go_quiet ((go_at_call 22; exact Calls.quiet_of_same (Hlen.out _)))
  obtain ⟨w3, hw3⟩ : ∃ w3, W2.drewN nq = w3 := ⟨_, rfl⟩
  have h3 := HH.out.drewN nq
  rw [hw3] at h3 ⊢
  have h3 := (h3.ord [2, 2])
  have H3 := Lib.hid h3
  clear j0 j1 c0 c1 hw3
  have j0 : w3.cell? ⟨j, 0, none⟩ = some (.pointer (some ⟨v, 0, none⟩)) := h3.cell (j := 0) rfl
  have j1 : w3.cell? ⟨j, 1, none⟩ = some (.int .i64 (at_ : Int)) := h3.cell (j := 1) rfl
  have f1 : w3.frozen? ⟨j, 1, none⟩ = false := h3.frozen 1
  have hab : (at_ : Int) - n = (b : Int) := Hb.out
  have hmx : max (b : Int) 0 = (b : Int) := by omega
  have hbm : b < L.length := by omega
  obtain ⟨W4, hW4⟩ : ∃ W4, w3.setCell ⟨j, 1, none⟩ (.int .i64 b) = W4 := ⟨_, rfl⟩
  have h4 : Owns w0 W4 (jobj j v b :: posvec v L :: Asrt.obj B2 (.cells #[.int .i64 0, .int .i64 0] 29 (0, 0)) :: R) := by
    rw [← hW4]
    exact ((h3.set 1 (.int .i64 b)).ord [3]).drop
  have HW4 := Lib.hid hW4
  have hqq := poss_get Hq.out
  have hat := o_at_pos b q.1 q.2 h4.drew.p1 hbm hqq
  have Hat := Lib.hid hat
  have j0' : W4.cell? ⟨j, 0, none⟩ = some (.pointer (some ⟨v, 0, none⟩)) := h4.cell (j := 0) rfl
  have j1' : W4.cell? ⟨j, 1, none⟩ = some (.int .i64 (b : Int)) := h4.cell (j := 1) rfl
  clear h3 hqq hat h4 hW4
  go_wp2_with fail
  rw [HW4.out]
  clear j0 j1 f1 HW4
  go_region_held3 (fun w' => w'.cell? ⟨j, 0, none⟩ = some (.pointer (some ⟨v, 0, none⟩)) ∧ w'.cell? ⟨j, 1, none⟩ = some (.int .i64 (b : Int))) (first | go_keep | exact ⟨s0, s1⟩ | exact ⟨t0, t1⟩)
    ((go_at_call 24; refine Hat.out.mono ?_; rintro e w5 ⟨rfl, h5⟩; have s0 : w5.cell? ⟨j, 0, none⟩ = some (.pointer (some ⟨v, 0, none⟩)) := h5.p1.cell (j := 0) rfl; have s1 : w5.cell? ⟨j, 1, none⟩ = some (.int .i64 (b : Int)) := h5.p1.cell (j := 1) rfl; have r0 : w5.cell? ⟨B2, 0, none⟩ = some (.int .i64 0) := h5.p2.cell (j := 0) rfl; have r1 : w5.cell? ⟨B2, 1, none⟩ = some (.int .i64 0) := h5.p2.cell (j := 1) rfl; have r2 : w5.frozen? ⟨B2, 0, none⟩ = false := h5.p2.frozen 0; have r3 : w5.frozen? ⟨B2, 1, none⟩ = false := h5.p2.frozen 1; have h6 := (h5.p2.set 0 (.int .i64 q.1)).set 1 (.int .i64 q.2); have t0 : ((w5.setCell ⟨B2, 0, none⟩ (.int .i64 q.1)).setCell ⟨B2, 1, none⟩ (.int .i64 q.2)).cell? ⟨j, 0, none⟩ = some (.pointer (some ⟨v, 0, none⟩)) := h6.p2.cell (j := 0) rfl; have t1 : ((w5.setCell ⟨B2, 0, none⟩ (.int .i64 q.1)).setCell ⟨B2, 1, none⟩ (.int .i64 q.2)).cell? ⟨j, 1, none⟩ = some (.int .i64 (b : Int)) := h6.p2.cell (j := 1) rfl; have u0 : ((w5.setCell ⟨B2, 0, none⟩ (.int .i64 q.1)).setCell ⟨B2, 1, none⟩ (.int .i64 q.2)).cell? ⟨B2, 0, none⟩ = some (.int .i64 q.1) := h6.cell (j := 0) rfl; have u1 : ((w5.setCell ⟨B2, 0, none⟩ (.int .i64 q.1)).setCell ⟨B2, 1, none⟩ (.int .i64 q.2)).cell? ⟨B2, 1, none⟩ = some (.int .i64 q.2) := h6.cell (j := 1) rfl; have H6 := Lib.hid h6; clear h5 h6))
  clear s0 s1 r0 r1 r2 r3 t0 t1
  go_wp2_with fail
  exact bodyPost_ret (v := .tuple #[.agg #[.int .i64 q.1, .int .i64 q.2], .bool true]) (by simp [results, Try.results9, go_sem, u0, u1]) rfl ⟨rfl, by exact jumpsI (H6.out.drop.p1)⟩
set_option maxHeartbeats 1000000 in
/-- Newer refuses. -/
theorem jnewer_out {j at_ : Nat} {L : List (Int × Int)} (n : Int) (H : Owns w0 w (Asrt.jumps j L at_ :: R)) (hat : at_ ≤ L.length) (hl : L.length ≤ 16) (hn : n < 1 ∨ n ≥ (L.length : Int) - at_) :
    Calls Try.prog 10 #[.pointer (some ⟨j, 0, none⟩), .int .i64 n] w (Ret (.tuple #[.agg #[.int .i64 0, .int .i64 0], .bool false]) w0 (Asrt.jumps j L at_ :: R)) := by
  obtain ⟨v, h⟩ := jumpsE H
  obtain ⟨W2, hW2⟩ : ∃ W2, w.alloc (.cells #[.int .i64 0, .int .i64 0] 29) = W2 := ⟨_, rfl⟩
  have H2 := h.alloc #[.int .i64 0, .int .i64 0] 29
  obtain ⟨B2, hB2⟩ : ∃ B, B = w.heap.size := ⟨_, rfl⟩
  rw [hW2, ← hB2] at H2
  have HH := Lib.hid H2
  have hlen : ∀ q, Calls Try.prog 22 #[.pointer (some ⟨v, 0, none⟩)] (W2.drewN q) fun e w' => e = .returned (.int .i64 L.length) ∧ w' = W2.drewN q := fun q => (o_len_pos ((HH.out.drewN q).p2)).mono fun e w' ⟨h1, h2⟩ => ⟨h1, h2.symm⟩
  have Hlen := Lib.hid hlen
  have j0 : W2.cell? ⟨j, 0, none⟩ = some (.pointer (some ⟨v, 0, none⟩)) := H2.p1.cell (j := 0) rfl
  have j1 : W2.cell? ⟨j, 1, none⟩ = some (.int .i64 (at_ : Int)) := H2.p1.cell (j := 1) rfl
  have HW2 := Lib.hid hW2
  have HB2 := Lib.hid hB2
  clear H2 hlen h H hW2 hB2
  have r0 : W2.cell? ⟨B2, 0, none⟩ = some (.int .i64 0) := HH.out.cell (j := 0) rfl
  have r1 : W2.cell? ⟨B2, 1, none⟩ = some (.int .i64 0) := HH.out.cell (j := 1) rfl
  have r2 : W2.frozen? ⟨B2, 0, none⟩ = false := HH.out.frozen 0
  have r3 : W2.frozen? ⟨B2, 1, none⟩ = false := HH.out.frozen 1
  by_cases h1 : n < 1
  · clear hn
    have h1' : decide (n < 1) = true := by simpa using h1
    go_enter Try.func10, Try.ntmps10
    go_upto_region 1 with (fail)
    rw [HW2.out, ← HB2.out]
    clear HW2 HB2
    go_quiet ((go_at_call 22; exact Calls.quiet_of_same (Hlen.out _)))
    go_wp2_with fail
    exact bodyPost_ret (v := .tuple #[.agg #[.int .i64 0, .int .i64 0], .bool false]) (by simp [results, Try.results10, go_sem, r0, r1]) rfl ⟨rfl, jumpsI (((HH.out.drewN nq).set 0 (.int .i64 0)).set 1 (.int .i64 0)).drop⟩
  · have hd : decide (n < 1) = false := by simpa using h1
    have hsub : IntKind.i64.wrap ((L.length : Int) - (at_ : Int)) = (L.length : Int) - (at_ : Int) := by rw [IntKind.wrap_i64]; omega
    have hge : decide ((L.length : Int) - (at_ : Int) ≤ n) = true := by simp; omega
    clear hn
    go_enter Try.func10, Try.ntmps10
    go_upto_region 1 with (fail)
    rw [HW2.out, ← HB2.out]
    clear HW2 HB2
    go_quiet ((go_at_call 22; exact Calls.quiet_of_same (Hlen.out _)))
    go_wp2_with fail
    exact bodyPost_ret (v := .tuple #[.agg #[.int .i64 0, .int .i64 0], .bool false]) (by simp [results, Try.results10, go_sem, r0, r1]) rfl ⟨rfl, jumpsI (((HH.out.drewN nq).set 0 (.int .i64 0)).set 1 (.int .i64 0)).drop⟩
set_option maxHeartbeats 1000000 in
/-- Newer steps. -/
theorem jnewer_in {j at_ : Nat} {L : List (Int × Int)} (n : Int) (H : Owns w0 w (Asrt.jumps j L at_ :: R)) (hat : at_ ≤ L.length) (hl : L.length ≤ 16) (hn : 1 ≤ n) (hn2 : n < (L.length : Int) - at_) {b : Nat} (hb : (at_ : Int) + n = b) {q : Int × Int} (hq : L[b]? = some q) :
    Calls Try.prog 10 #[.pointer (some ⟨j, 0, none⟩), .int .i64 n] w (Ret (.tuple #[.agg #[.int .i64 q.1, .int .i64 q.2], .bool true]) w0 (Asrt.jumps j L b :: R)) := by
  obtain ⟨v, h⟩ := jumpsE H
  obtain ⟨W2, hW2⟩ : ∃ W2, w.alloc (.cells #[.int .i64 0, .int .i64 0] 29) = W2 := ⟨_, rfl⟩
  have H2 := h.alloc #[.int .i64 0, .int .i64 0] 29
  obtain ⟨B2, hB2⟩ : ∃ B, B = w.heap.size := ⟨_, rfl⟩
  rw [hW2, ← hB2] at H2
  have HH := Lib.hid H2
  have hlen : ∀ q, Calls Try.prog 22 #[.pointer (some ⟨v, 0, none⟩)] (W2.drewN q) fun e w' => e = .returned (.int .i64 L.length) ∧ w' = W2.drewN q := fun q => (o_len_pos ((HH.out.drewN q).p2)).mono fun e w' ⟨h1, h2⟩ => ⟨h1, h2.symm⟩
  have Hlen := Lib.hid hlen
  have j0 : W2.cell? ⟨j, 0, none⟩ = some (.pointer (some ⟨v, 0, none⟩)) := H2.p1.cell (j := 0) rfl
  have j1 : W2.cell? ⟨j, 1, none⟩ = some (.int .i64 (at_ : Int)) := H2.p1.cell (j := 1) rfl
  have HW2 := Lib.hid hW2
  have HB2 := Lib.hid hB2
  clear H2 hlen h H hW2 hB2
  have r0 : W2.cell? ⟨B2, 0, none⟩ = some (.int .i64 0) := HH.out.cell (j := 0) rfl
  have r1 : W2.cell? ⟨B2, 1, none⟩ = some (.int .i64 0) := HH.out.cell (j := 1) rfl
  have r2 : W2.frozen? ⟨B2, 0, none⟩ = false := HH.out.frozen 0
  have r3 : W2.frozen? ⟨B2, 1, none⟩ = false := HH.out.frozen 1
  have h1 : ¬ (n < 1) := by omega
  have hd : decide (n < 1) = false := by simpa using h1
  have hsub : IntKind.i64.wrap ((L.length : Int) - (at_ : Int)) = (L.length : Int) - (at_ : Int) := by rw [IntKind.wrap_i64]; omega
  have hge : decide ((L.length : Int) - (at_ : Int) ≤ n) = false := by simp; omega
  have Hb := Lib.hid hb
  have Hq := Lib.hid hq
  clear hb hq r0 r1 r2 r3
  go_enter Try.func10, Try.ntmps10
  go_upto_region 1 with (fail)
  rw [HW2.out, ← HB2.out]
  clear HW2 HB2
  go_quiet ((go_at_call 22; exact Calls.quiet_of_same (Hlen.out _)))
  obtain ⟨w3, hw3⟩ : ∃ w3, W2.drewN nq = w3 := ⟨_, rfl⟩
  have h3 := HH.out.drewN nq
  rw [hw3] at h3 ⊢
  have h3 := h3.ord [1, 1]
  have H3 := Lib.hid h3
  clear j0 j1 hw3
  have j0 : w3.cell? ⟨j, 0, none⟩ = some (.pointer (some ⟨v, 0, none⟩)) := h3.cell (j := 0) rfl
  have j1 : w3.cell? ⟨j, 1, none⟩ = some (.int .i64 (at_ : Int)) := h3.cell (j := 1) rfl
  have f1 : w3.frozen? ⟨j, 1, none⟩ = false := h3.frozen 1
  have hab : (at_ : Int) + n = (b : Int) := Hb.out
  have hbm : b < L.length := by omega
  obtain ⟨W4, hW4⟩ : ∃ W4, w3.setCell ⟨j, 1, none⟩ (.int .i64 b) = W4 := ⟨_, rfl⟩
  have h4 : Owns w0 W4 (jobj j v b :: posvec v L :: Asrt.obj B2 (.cells #[.int .i64 0, .int .i64 0] 29 (0, 0)) :: R) := by
    rw [← hW4]
    exact h3.set 1 (.int .i64 b)
  have HW4 := Lib.hid hW4
  have hqq := poss_get Hq.out
  have hat := o_at_pos b q.1 q.2 h4.drew.p1 hbm hqq
  have Hat := Lib.hid hat
  have j0' : W4.cell? ⟨j, 0, none⟩ = some (.pointer (some ⟨v, 0, none⟩)) := h4.cell (j := 0) rfl
  have j1' : W4.cell? ⟨j, 1, none⟩ = some (.int .i64 (b : Int)) := h4.cell (j := 1) rfl
  clear h3 hqq hat h4 hW4
  go_wp2_with fail
  rw [HW4.out]
  clear j0 j1 f1 HW4
  go_region_held3 (fun w' => w'.cell? ⟨j, 0, none⟩ = some (.pointer (some ⟨v, 0, none⟩)) ∧ w'.cell? ⟨j, 1, none⟩ = some (.int .i64 (b : Int))) (first | go_keep | exact ⟨s0, s1⟩ | exact ⟨t0, t1⟩)
    ((go_at_call 24; refine Hat.out.mono ?_; rintro e w5 ⟨rfl, h5⟩; have s0 : w5.cell? ⟨j, 0, none⟩ = some (.pointer (some ⟨v, 0, none⟩)) := h5.p1.cell (j := 0) rfl; have s1 : w5.cell? ⟨j, 1, none⟩ = some (.int .i64 (b : Int)) := h5.p1.cell (j := 1) rfl; have r0 : w5.cell? ⟨B2, 0, none⟩ = some (.int .i64 0) := h5.p2.cell (j := 0) rfl; have r1 : w5.cell? ⟨B2, 1, none⟩ = some (.int .i64 0) := h5.p2.cell (j := 1) rfl; have r2 : w5.frozen? ⟨B2, 0, none⟩ = false := h5.p2.frozen 0; have r3 : w5.frozen? ⟨B2, 1, none⟩ = false := h5.p2.frozen 1; have h6 := (h5.p2.set 0 (.int .i64 q.1)).set 1 (.int .i64 q.2); have t0 : ((w5.setCell ⟨B2, 0, none⟩ (.int .i64 q.1)).setCell ⟨B2, 1, none⟩ (.int .i64 q.2)).cell? ⟨j, 0, none⟩ = some (.pointer (some ⟨v, 0, none⟩)) := h6.p2.cell (j := 0) rfl; have t1 : ((w5.setCell ⟨B2, 0, none⟩ (.int .i64 q.1)).setCell ⟨B2, 1, none⟩ (.int .i64 q.2)).cell? ⟨j, 1, none⟩ = some (.int .i64 (b : Int)) := h6.p2.cell (j := 1) rfl; have u0 : ((w5.setCell ⟨B2, 0, none⟩ (.int .i64 q.1)).setCell ⟨B2, 1, none⟩ (.int .i64 q.2)).cell? ⟨B2, 0, none⟩ = some (.int .i64 q.1) := h6.cell (j := 0) rfl; have u1 : ((w5.setCell ⟨B2, 0, none⟩ (.int .i64 q.1)).setCell ⟨B2, 1, none⟩ (.int .i64 q.2)).cell? ⟨B2, 1, none⟩ = some (.int .i64 q.2) := h6.cell (j := 1) rfl; have H6 := Lib.hid h6; clear h5 h6))
  clear s0 s1 r0 r1 r2 r3 t0 t1
  go_wp2_with fail
  exact bodyPost_ret (v := .tuple #[.agg #[.int .i64 q.1, .int .i64 q.2], .bool true]) (by simp [results, Try.results10, go_sem, u0, u1]) rfl ⟨rfl, by exact jumpsI (H6.out.drop.p1)⟩
end
end Go.Proofs.Ytaekfmbfejgldaa
