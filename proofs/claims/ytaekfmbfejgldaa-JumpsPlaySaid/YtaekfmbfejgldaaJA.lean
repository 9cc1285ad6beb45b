/- jumps: All. -/
import Derived.Test.YtaekfmbfejgldaaJO
namespace Go.Proofs.Ytaekfmbfejgldaa
open Go Go.RowKit Go.Fol
attribute [local go_sem ↓] Go.wp_at_zero Go.wp_at_succ
attribute [local go_sem] Oper.semAt_some
set_option linter.unusedVariables false
set_option linter.unusedSimpArgs false
section
variable {w0 w : World} {R : List Asrt}
set_option maxHeartbeats 1000000 in
set_option maxRecDepth 100000 in
theorem jall {j at_ : Nat} {L : List (Int × Int)} (H : Owns w0 w (Asrt.jumps j L at_ :: R)) (hl : L.length ≤ 16) :
    Calls Try.prog 11 #[.pointer (some ⟨j, 0, none⟩)] w (RetX (fun s : Value => .tuple #[s, .int .i64 at_]) w0 (fun s => Asrt.jumps j L at_ :: row_pos s L.length (poss L) :: R)) := by
  obtain ⟨v, h⟩ := jumpsE H
  have H1 := Lib.hid (h.alloc #[.slice none 0 0] 35)
  have j0 : (w.alloc (.cells #[.slice none 0 0] 35)).cell? ⟨j, 0, none⟩ = some (.pointer (some ⟨v, 0, none⟩)) := H1.out.p1.cell (j := 0) rfl
  clear h H
  refine calls_of_wp_marks Try.func11 rfl ?_
  simp only [Try.ntmps11, List.size_toArray, List.length_cons, List.length_nil, Nat.reduceAdd, Nat.reduceSub, Array.replicate_succ, Array.replicate_zero, List.push_toArray, List.append_toArray, List.nil_append, List.cons_append]
  go_wp2_with fail
  refine (o_all_pos H1.out.p2 (poss_one L) (by omega)).mono ?_
  rintro e w1 ⟨b, rfl, h1⟩
  obtain ⟨S, hseq, h2⟩ := o_seq_all_pos h1 (are_poss L)
  obtain ⟨B, hB⟩ : ∃ B, B = w.heap.size := ⟨_, rfl⟩
  rw [← hB] at h2 ⊢
  have H2 := Lib.hid h2
  have Hseq := Lib.hid hseq
  clear h1 h2 hseq H1 j0 hB
  go_wp2_with fail
  refine wp_range_own2 (gf := 41) (lb := #[.pointer (some ⟨b, 0, none⟩)]) rfl (enters_fn Try.func41 (by kernel_rfl) rfl) Hseq.out (fun _ => rfl) (w0 := w0)
    (R := [jobj j v at_, posvec v L] ++ R)
    (fun k => Asrt.ex fun s : Value => Asrt.all [Asrt.obj B (.cells #[s] 35 (0, 0)), row_pos s k (poss (L.take k))])
    (fun k a' => Asrt.ex fun s : Value => Asrt.ex fun C : Nat => Asrt.ex fun q : Int × Int => Asrt.all [Asrt.pure (L[k]? = some q ∧ a' = { tmps := #[.pointer (some ⟨j, 0, none⟩), undef, .slice none 0 0, .int .i64 0, .pointer (some ⟨B, 0, none⟩), undef, .pointer (some ⟨C, 0, none⟩), .pointer (some ⟨j, 0, none⟩), .pointer (some ⟨j, 0, none⟩), .pointer (some ⟨j, 0, none⟩), .pointer (some ⟨v, 0, none⟩), .func (.func 41) #[] #[.pointer (some ⟨b, 0, none⟩)], .int .i64 (k : Int), .agg #[.int .i64 q.1, .int .i64 q.2], undef, undef, undef, undef, undef, undef, undef, undef, undef], defers := [] }), Asrt.obj C (.cells #[.int .i64 q.1, .int .i64 q.2] 29 (0, 0)), Asrt.obj B (.cells #[s] 35 (0, 0)), row_pos s k (poss (L.take k))])
    (fun _ => Asrt.pure False) ?start ?assign ?body ?done ?stop
  case start =>
    refine Owns.exI (.slice none 0 0) (Owns.allI (L := [_, _]) ?_)
    exact (H2.out.rowNil 29 2).ord [3, 0, 0, 1]
  case assign =>
    intro l k W Kk Z hk HW hkk
    obtain ⟨q, hq⟩ : ∃ q, L[k]? = some q := ⟨_, List.getElem?_eq_getElem (by omega)⟩
    have hg := poss_get hq
    have e0 : (poss L)[k * 2]?.getD undef = .int .i64 q.1 := by rw [hg.1]; rfl
    have e1 : (poss L)[k * 2 + 1]?.getD undef = .int .i64 q.2 := by rw [hg.2]; rfl
    simp only [e0, e1]
    have HW1 := Lib.hid HW
    have Hq := Lib.hid hq
    have Hkk := Lib.hid hkk
    clear hg e0 e1 HW hq hkk
    gi_wp2
    obtain ⟨s, h⟩ := HW1.out.exE
    exact Hkk.out _ _ (Owns.exI s (Owns.exI W.heap.size (Owns.exI q (Owns.allI (L := [_, _, _, _]) (Owns.pureI ((Owns.allE (L := [_, _]) h).alloc _ _) ⟨Hq.out, rfl⟩)))))
  case body =>
    intro l k a' W Z hk HW
    obtain ⟨s, HW⟩ := HW.exE
    obtain ⟨C, HW⟩ := HW.exE
    obtain ⟨q, HW⟩ := HW.exE
    obtain ⟨⟨hq, rfl⟩, HW'⟩ := (Owns.allE (L := [_, _, _, _]) HW).pureE
    have h5 := ((HW'.alloc #[.int .i64 q.1, .int .i64 q.2] 29).ord [3])
    obtain ⟨s', w5, hr, h6⟩ := app_pos (x := .slice (some ⟨W.heap.size, 0, none⟩) 1 1) (m := 1) (vs := [.int .i64 q.1, .int .i64 q.2]) h5 (Reads.obj (b := W.heap.size) (k := 2) (n := 1) (t := 29) (f := (0, 0)) (cs := #[.int .i64 q.1, .int .i64 q.2]) (by simp [ordL, takeAt]) (by decide) (by decide) (by simp)) (by simp [Value.oneCell']) (by unfold maxLen; omega) (by omega)
    rw [poss_take hq] at h6
    have hB : W.heap[B]? = some (.cells #[s] 35 (0, 0)) := (HW'.ord [1]).obj
    have hC : W.heap[C]? = some (.cells #[.int .i64 q.1, .int .i64 q.2] 29 (0, 0)) := HW'.obj
    have kb := cell_of_heap hB (j := 0) rfl
    have kc0 := cell_of_heap hC (j := 0) rfl
    have kc1 := cell_of_heap hC (j := 1) rfl
    have h7 := h6.ord [3]
    have hB5 : w5.heap[B]? = some (.cells #[s] 35 (0, 0)) := h7.obj
    have kb5 := cell_of_heap hB5 (j := 0) rfl
    have fb5 := frozen_of_heap hB5 0
    obtain ⟨ss1, ss2, hs'⟩ := row_slice h6.row
    have H8 := Lib.hid (show Owns w0 (w5.setCell ⟨B, 0, none⟩ s') ((Asrt.ex fun s : Value => Asrt.all [Asrt.obj B (.cells #[s] 35 (0, 0)), row_pos s (k + 1) (poss (L.take (k + 1)))]) :: Z :: ([jobj j v at_, posvec v L] ++ R)) by
      refine Owns.exI s' (Owns.allI (L := [_, _]) ?_)
      have h9 := (h7.set 0 s').ord [2]
      exact ((h9.drop).ord [2]).drop)
    subst hs'
    clear HW HW' h5 h6 h7 hB hC hB5 hq
    gi_wp2_with (gi_at_builtin; refine wpListIn_append_run _ rfl _ _ _ _ rfl _ _ rfl rfl _ _ (hr _) ?_)
    exact H8.out
  case done =>
    intro D W HW
    obtain ⟨s, HW⟩ := HW.exE
    have h := Owns.allE (L := [_, _]) HW
    rw [List.take_of_length_le (Nat.le_refl _)] at h
    have kb : W.cell? ⟨B, 0, none⟩ = some s := h.cell (j := 0) rfl
    have kj : W.cell? ⟨j, 1, none⟩ = some (.int .i64 (at_ : Int)) := (h.ord [3]).cell (j := 1) rfl
    have H3 := Lib.hid h
    clear HW h
    go_wp2_with fail
    go_quiet (fail)
    go_wp2_with fail
    refine leaves_own [D] _ ((H3.out.drewN nq).ord [2]) (fun w' hw' => ?_)
    exact ⟨.tuple #[s, .int .i64 at_], by simp [results, Try.f11, go_sem], s, rfl, jumpsI (hw'.drop.ord [1, 1])⟩
  case stop =>
    intro D cd W HW
    exact HW.pureE.1.elim
end
end Go.Proofs.Ytaekfmbfejgldaa
