/- jumps: Push. -/
import Derived.Test.YtaekfmbfejgldaaJD
namespace Go.Proofs.Ytaekfmbfejgldaa
open Go Go.RowKit Go.Fol
attribute [local go_sem ↓] Go.wp_at_zero Go.wp_at_succ
set_option linter.unusedVariables false
set_option linter.unusedSimpArgs false
def pushL (L : List (Int × Int)) (p : Int × Int) : List (Int × Int) := (L.filter (fun x => x.1 != p.1) ++ [p]).drop ((L.filter (fun x => x.1 != p.1) ++ [p]).length - 16)
theorem pushL_len {L : List (Int × Int)} (p : Int × Int) : (pushL L p).length = min 16 ((L.filter (fun x => x.1 != p.1)).length + 1) := by
  simp only [pushL, List.length_drop, List.length_append, List.length_singleton]; omega
section
variable {w0 w : World} {R : List Asrt}
set_option maxHeartbeats 1000000 in
theorem jpush {j at_ : Nat} {L : List (Int × Int)} (line col : Int) (H : Owns w0 w (Asrt.jumps j L at_ :: R)) (hat : at_ ≤ L.length) (hl : L.length ≤ 16) :
    Calls Try.prog 8 #[.pointer (some ⟨j, 0, none⟩), .agg #[.int .i64 line, .int .i64 col]] w (Ret (.tuple #[]) w0 (Asrt.jumps j (pushL L (line, col)) (pushL L (line, col)).length :: R)) := by
  obtain ⟨v, H⟩ := jumpsE H
  have H1 := Lib.hid (H.alloc #[.int .i64 line, .int .i64 col] 29).q2
  obtain ⟨c, hc⟩ : ∃ c, c = w.heap.size := ⟨_, rfl⟩
  rw [← hc] at H1
  have Hc := Lib.hid hc
  have Hat := Lib.hid hat
  clear H hat hc
  go_enter Try.func8, Try.ntmps8
  go_wp2_with fail
  rw [← Hc.out]
  refine (jdrop_push H1.out Hat.out (by omega)).mono ?_
  rintro e w1 ⟨rfl, h2⟩
  obtain ⟨M, hM⟩ : ∃ M, M = L.filter (fun x => x.1 != line) := ⟨_, rfl⟩
  have hML : M.length ≤ 16 := by rw [hM]; exact Nat.le_trans (List.length_filter_le _ _) hl
  rw [← hM] at h2
  have k0 : w1.cell? ⟨j, 0, none⟩ = some (.pointer (some ⟨v, 0, none⟩)) := h2.cell (j := 0) rfl
  have hC : w1.heap[c]? = some (.cells #[.int .i64 line, .int .i64 col] 29 (0, 0)) := h2.p2.obj
  have c0 := cell_of_heap hC (j := 0) rfl
  have c1 := cell_of_heap hC (j := 1) rfl
  have H2 := Lib.hid h2
  have HM := Lib.hid hM
  clear hC h2 hM H1 Hc
  have hlen : ∀ W, Chg [] w1 W → Calls Try.prog 22 #[.pointer (some ⟨v, 0, none⟩)] W fun e w' => e = .returned (.int .i64 M.length) ∧ W = w' := fun W hW => o_len_pos ((H2.out.quiet hW).p1)
  have hS := ((H2.out.alloc #[.int .i64 line, .int .i64 col] 29).drew).p2
  have hins := o_insert_pos M.length (.slice (some ⟨w1.heap.size, 0, none⟩) 1 1) [.int .i64 line, .int .i64 col] hS (Reads.obj (b := w1.heap.size) (k := 2) (n := 1) (t := 29) (f := (0, 0)) (cs := #[.int .i64 line, .int .i64 col]) (by simp) (by decide) (by decide) (by simp)) (poss_one M) (by simp [Value.oneCell']) (by omega) (by omega)
  have Hlen := Lib.hid hlen
  have Hins := Lib.hid hins
  clear hlen hins hS
  go_wp2_with fail
  go_region_held3 (fun w' => w'.cell? ⟨j, 0, none⟩ = some (.pointer (some ⟨v, 0, none⟩)) ∧ w'.cell? ⟨c, 0, none⟩ = some (.int .i64 line) ∧ w'.cell? ⟨c, 1, none⟩ = some (.int .i64 col)) (first | go_keep | exact ⟨s0, s1, s2⟩)
    (first
      | (go_at_call 22; refine (Hlen.out _ ?_).mono ?_; (focus (first | exact (Chg.refl [] w1).drew | exact ((Chg.refl [] w1).alloc _).drew)); rintro e w' ⟨rfl, rfl⟩)
      | (go_at_call 21; refine Hins.out.mono ?_; rintro e w' ⟨rfl, h3⟩; have s0 : w'.cell? ⟨j, 0, none⟩ = some (.pointer (some ⟨v, 0, none⟩)) := h3.p2.cell (j := 0) rfl; have s1 : w'.cell? ⟨c, 0, none⟩ = some (.int .i64 line) := h3.p3.cell (j := 0) rfl; have s2 : w'.cell? ⟨c, 1, none⟩ = some (.int .i64 col) := h3.p3.cell (j := 1) rfl; have H3 := Lib.hid h3; clear h3 Hins))
  all_goals
    obtain ⟨N, hN⟩ : ∃ N, N = M ++ [(line, col)] := ⟨_, rfl⟩
    have h4 : Owns w0 w' (posvec v N :: jobj j v ((L.take at_).filter (fun p => p.1 != line)).length :: R) := by
      have h := (H3.out.ord [1, 2]).drop.drop
      rw [hN, posvec, List.length_append, List.length_singleton]
      rw [List.take_of_length_le (by rw [poss_len]; omega), List.drop_eq_nil_of_le (by rw [poss_len]; omega), List.append_nil] at h
      rw [show poss (M ++ [(line, col)]) = poss M ++ [.int .i64 line, .int .i64 col] by rw [poss, flat_append, flat_one]; rfl]
      exact h
    have hNl : N.length = M.length + 1 := by rw [hN]; simp
    have hpush : pushL L (line, col) = N.drop (N.length - 16) := by rw [pushL, hN, HM.out]
    have H4 := Lib.hid h4
    have Hpush := Lib.hid hpush
    have HNl := Lib.hid hNl
    clear H3 s1 s2 hN h4 hpush k0 c0 c1
    have hlen : ∀ W, Chg [] w' W → Calls Try.prog 22 #[.pointer (some ⟨v, 0, none⟩)] W fun e w' => e = .returned (.int .i64 N.length) ∧ W = w' := fun W hW => o_len_pos (H4.out.quiet hW)
    have Hlen := Lib.hid hlen
    clear hlen
    have hsub : IntKind.i64.wrap ((N.length : Int) - 16) = (N.length : Int) - 16 := by rw [IntKind.wrap_i64]; omega
    obtain ⟨d, hd⟩ : ∃ d : Int, d = (N.length : Int) - 16 := ⟨_, rfl⟩
    rw [← hd] at hsub
    have hsub2 := hsub
    rw [hd] at hsub2
    by_cases h16 : N.length ≤ 16
    · have hdel := o_delete_out_pos 0 ((N.length : Int) - 16) H4.out.drew (.inr (by omega))
      have Hdel := Lib.hid hdel
      have j1 : w'.cell? ⟨j, 1, none⟩ = some (.int .i64 (((L.take at_).filter (fun p => p.1 != line)).length : Nat)) := H4.out.p1.cell (j := 1) rfl
      have f1 : w'.frozen? ⟨j, 1, none⟩ = false := H4.out.p1.frozen 1
      have Hend := Lib.hid (show Owns w0 ((w'.setCell ⟨j, 1, none⟩ (.int .i64 N.length)).drew) (Asrt.jumps j (pushL L (line, col)) (pushL L (line, col)).length :: R) by
        rw [Hpush.out, show N.length - 16 = 0 by omega, List.drop_zero]
        exact jumpsI (H4.out.p1.set 1 (.int .i64 N.length)).drew)
      clear hdel hNl hd hsub
      go_wp2_with fail
      go_region_held3 (fun w' => w'.cell? ⟨j, 0, none⟩ = some (.pointer (some ⟨v, 0, none⟩))) (go_keep)
        (first
          | (go_at_call 22; refine (Hlen.out _ ?_).mono ?_; (focus (first | exact (Chg.refl [] w').drew | exact Chg.refl [] w')); rintro e w' ⟨rfl, rfl⟩)
          | (go_at_call 23; refine Hdel.out.mono ?_; rintro e w' ⟨rfl, rfl⟩))
      go_wp2_with (go_at_call 22; refine (Hlen.out _ ?_).mono ?_; (focus (exact (Chg.refl [] w').drew)); rintro e w' ⟨rfl, rfl⟩)
      go_end0
      exact ⟨rfl, Hend.out⟩
    · obtain ⟨r, hr⟩ : ∃ r, r = N.length - 16 := ⟨_, rfl⟩
      have hdel := o_delete_pos 0 r ((N.length : Int) - 16) H4.out.drew (poss_one N) (by omega) (by omega) (by omega) (by omega) (by omega)
      rw [Nat.zero_mul, List.take_zero, List.nil_append, Nat.zero_add, flat_drop posf_len] at hdel
      have Hdel := Lib.hid hdel
      have Hr := Lib.hid hr
      clear hdel hd hsub hr hNl
      go_wp2_with fail
      go_region_held3 (fun w' => w'.cell? ⟨j, 0, none⟩ = some (.pointer (some ⟨v, 0, none⟩))) (first | go_keep | exact s5)
        (first
          | (go_at_call 22; refine (Hlen.out _ ?_).mono ?_; (focus (first | exact (Chg.refl [] w').drew | exact Chg.refl [] w')); rintro e w' ⟨rfl, rfl⟩)
          | (go_at_call 23; refine Hdel.out.mono ?_; rintro e w5 ⟨dd, rfl, h5⟩; have s5 : w5.cell? ⟨j, 0, none⟩ = some (.pointer (some ⟨v, 0, none⟩)) := h5.p2.cell (j := 0) rfl; have H5 := Lib.hid h5; clear h5))
      have hl2 : (N.drop r).length = N.length - r := by simp
      have h6 : Owns w0 w5 (jobj j v ((L.take at_).filter (fun p => p.1 != line)).length :: posvec v (N.drop r) :: R) := by
        rw [posvec, hl2]
        exact H5.out.p1.drop.p1
      have j1 : w5.cell? ⟨j, 1, none⟩ = some (.int .i64 (((L.take at_).filter (fun p => p.1 != line)).length : Nat)) := h6.cell (j := 1) rfl
      have f1 : w5.frozen? ⟨j, 1, none⟩ = false := h6.frozen 1
      have Hend := Lib.hid (show Owns w0 (w5.setCell ⟨j, 1, none⟩ (.int .i64 (N.drop r).length)) (Asrt.jumps j (pushL L (line, col)) (pushL L (line, col)).length :: R) by
        rw [Hpush.out, ← Hr.out]
        exact jumpsI (h6.set 1 (.int .i64 (N.drop r).length)))
      have hlen2 : Calls Try.prog 22 #[.pointer (some ⟨v, 0, none⟩)] w5 fun e w' => e = .returned (.int .i64 (N.drop r).length) ∧ w5 = w' := o_len_pos h6.p1
      have Hlen2 := Lib.hid hlen2
      clear hl2 h6 hlen2 s0
      go_wp2_with (go_at_call 22; refine Hlen2.out.mono ?_; rintro e w' ⟨rfl, rfl⟩)
      go_end0
      exact ⟨rfl, by have h := Hend.out; rwa [List.length_drop] at h⟩
end
end Go.Proofs.Ytaekfmbfejgldaa
