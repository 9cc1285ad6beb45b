/- The statements' own: a text of just these lines. -/
import Derived.Test.YtcdoomlagmddcaaGreatDoorBR
import Derived.Test.YtcdoomlagmddcaaGreatDoorKa
import Derived.Deep.RegionHeld3
namespace Go.Proofs.YtcdoomlagmddcaaGreatDoor
open Go Go.RowKit Go.Fol
attribute [local go_sem ↓] Go.wp_at_zero Go.wp_at_succ
attribute [local go_sem] Oper.semAt_some
set_option linter.unusedVariables false
set_option linter.unusedSimpArgs false
set_option maxRecDepth 100000
theorem eql_seq_nil (fn : Fn) (x y : Array Value) (w : World) : (binOp .eql 66 (.func fn x y) .nilFunc).run Tryz.prog w = .ok (.bool false) w := by kernel_rfl
section
variable {w0 w : World} {R : List Asrt} {p ed ad : Nat} {W L : Ls}
set_option maxHeartbeats 4000000 in
theorem whole_true {wa : Option Addr} {c wc : Nat} (hB : BufI W) (hM : MaxInt w0) (hc : c = W.length) (hk : RdL w0 R (.slice wa c wc) W) (hed : ed ≤ 10000) (H : Owns w0 w (tbufA p (joinL W) ed ad :: R)) :
    Calls Tryz.prog 14 #[.pointer (some ⟨p, 0, none⟩), .slice wa c wc] w (Ret (.bool true) w0 (tbufA p (joinL W) ed ad :: R)) := by
  obtain ⟨b3, hb3⟩ : ∃ b, b = w.heap.size := ⟨_, rfl⟩
  obtain ⟨b4, hb4⟩ : ∃ b, b = b3 + 1 := ⟨_, rfl⟩
  obtain ⟨W1, hW1⟩ : ∃ W1, (w.alloc (.cells #[.slice wa c wc] 22)).alloc (.cells #[.bool false] 4) = W1 := ⟨_, rfl⟩
  have h1 := (H.alloc #[.slice wa c wc] 22).alloc #[.bool false] 4
  rw [hW1, World.size_alloc, ← hb3, ← hb4] at h1
  have h1 := h1.ord [2, 1, 0]
  have hcnt := hB.cnt
  rw [← hc] at hcnt
  have H1 := Lib.hid h1
  have HB := Lib.hid hB
  have HM := Lib.hid hM
  have Hc := Lib.hid hc
  have Hk := Lib.hid hk
  have HW1 := Lib.hid hW1
  have B3 := Lib.hid hb3
  have B4 := Lib.hid hb4
  obtain ⟨bk, hbk⟩ : ∃ bk, bk = bulkL W := ⟨_, rfl⟩
  have hbk2 : bk ≤ 4096 := by rw [hbk]; exact hB.bulk
  have Hbk := Lib.hid hbk
  have hw1 : IntKind.i64.wrap (2 * (ed : Int)) = 2 * (ed : Int) := by rw [IntKind.wrap_i64]; omega
  have hw2 : IntKind.i64.wrap (2 * (ed : Int) + 1) = 2 * (ed : Int) + 1 := by rw [IntKind.wrap_i64]; omega
  clear H h1 hB hM hc hk hW1 hb3 hb4 hbk
  refine calls_of_wp_marks Tryz.func14 rfl ?_
  simp only [Tryz.ntmps14, List.size_toArray, List.length_cons, List.length_nil, Nat.reduceAdd, Nat.reduceSub, Array.replicate_succ, Array.replicate_zero, List.push_toArray, List.append_toArray, List.nil_append, List.cons_append]
  go_upto_region 1 with (fail)
  rw [HW1.out, ← B3.out, ← B4.out]
  clear HW1 B3 B4
  have k3 : W1.drew.cell? ⟨b3, 0, none⟩ = some (.slice wa c wc) := (H1.out.drew.ord [1]).cell (j := 0) rfl
  have Cl := Lib.hid (blines HB.out HM.out H1.out.drew)
  refine wp_region_noPanic ?_
  refine wp_region_held_drew (S := (fun w' => w'.cell? ⟨b3, 0, none⟩ = some (.slice wa c wc))) (by kernel_rfl) (k3) (fun hS0 => ?_)
  refine wpAnyH_take (i := 0) (oi := _) (v := .pointer (some ⟨p, 0, none⟩)) rfl (by kernel_rfl) (by kernel_rfl) (by kernel_rfl) (fun _ _ _ h => h) (Or.inl ⟨by rfl, fun w hSw => ?_⟩) hS0 ?_
  · have x0 := hSw; go_simp
  try simp only [Act.put, List.setIfInBounds_toArray, List.set_cons_zero, List.set_cons_succ, List.getElem_toArray, List.getElem_cons_zero, List.getElem_cons_succ]
  refine wpAnyH_take (i := 2) (oi := _) (v := .slice wa c wc) rfl (by kernel_rfl) (by kernel_rfl) (by kernel_rfl) (fun _ _ _ h => h) (Or.inl ⟨by rfl, fun w hSw => ?_⟩) hS0 ?_
  · have x0 := hSw; go_simp
  try simp only [Act.put, List.setIfInBounds_toArray, List.set_cons_zero, List.set_cons_succ, List.getElem_toArray, List.getElem_cons_zero, List.getElem_cons_succ]
  refine wpAnyH_ready (rs := [1]) (by kernel_rfl) (by simp) (AllReadyH.cons (o := _) rfl (fun K' hK => ?_) AllReadyH.nil)
  simp only [List.getElem_toArray, List.getElem_cons_zero, List.getElem_cons_succ]
  rw [if_pos (by rfl)]
  go_simp
  refine Cl.out.mono ?_
  rintro e w2 ⟨b, rfl, h2⟩
  refine hK.out _ _ ((h2.ord [2]).cell (j := 0) rfl) (fun hS1 => ?_)
  clear hK K' hS0
  have hst := hstrings (va := .slice (some ⟨b, 0, none⟩) W.length W.length) (vb := .slice wa c wc) h2 (Reads.row (e := 9) List.mem_cons_self) Hk.out.cons.cons.cons.cons
  have Hst := Lib.hid hst
  clear hst h2
  try simp only [Act.put, List.setIfInBounds_toArray, List.set_cons_zero, List.set_cons_succ, List.getElem_toArray, List.getElem_cons_zero, List.getElem_cons_succ]
  refine wpAnyH_ready (rs := [3]) (by kernel_rfl) (by simp) (AllReadyH.cons (o := _) rfl (fun K' hK => ?_) AllReadyH.nil)
  simp only [List.getElem_toArray, List.getElem_cons_zero, List.getElem_cons_succ]
  rw [if_pos (by rfl)]
  go_simp
  refine Hst.out.mono ?_
  rintro e w3 ⟨rfl, h3⟩
  refine hK.out _ _ ((h3.ord [2]).cell (j := 0) rfl) (fun hS2 => ?_)
  clear hK K' hS1
  have H3 := Lib.hid h3.drop
  have k3b : w3.cell? ⟨b3, 0, none⟩ = some (.slice wa c wc) := (H3.out.ord [1]).cell (j := 0) rfl
  have q1 := bcount HB.out H3.out
  rw [← Hc.out] at q1
  have q2 := bbytes HB.out H3.out
  rw [← Hbk.out] at q2
  have q3 := rsize Hc.out H3.out.drop Hk.out.cons.cons (by rw [← Hbk.out]; omega)
  rw [← Hbk.out] at q3
  have Q1 := Lib.hid q1
  have Q2 := Lib.hid q2
  have Q3 := Lib.hid q3
  have Q4 := Lib.hid (bpieces H3.out)
  have Q5 := Lib.hid (bedits H3.out)
  clear h3 q1 q2 q3
  try simp only [Act.put, List.setIfInBounds_toArray, List.set_cons_zero, List.set_cons_succ, List.getElem_toArray, List.getElem_cons_zero, List.getElem_cons_succ]
  refine wpAnyH_take (i := 4) (oi := _) (v := .bool false) rfl (by kernel_rfl) (by kernel_rfl) (by kernel_rfl) (fun _ _ _ h => h) (Or.inl ⟨by rfl, fun w hSw => ?_⟩) hS2 ?_
  · have x0 := hSw; go_simp
  try simp only [Act.put, List.setIfInBounds_toArray, List.set_cons_zero, List.set_cons_succ, List.getElem_toArray, List.getElem_cons_zero, List.getElem_cons_succ]
  refine wpAnyH_take (i := 5) (oi := _) (v := .bool false) rfl (by kernel_rfl) (by kernel_rfl) (by kernel_rfl) (fun _ _ _ h => h) (Or.inl ⟨by rfl, fun w hSw => ?_⟩) hS2 ?_
  · have x0 := hSw; go_simp
  try simp only [Act.put, List.setIfInBounds_toArray, List.set_cons_zero, List.set_cons_succ, List.getElem_toArray, List.getElem_cons_zero, List.getElem_cons_succ]
  refine wpAnyH_take (i := 6) (oi := _) (v := .pointer (some ⟨p, 0, none⟩)) rfl (by kernel_rfl) (by kernel_rfl) (by kernel_rfl) (fun _ _ _ h => h) (Or.inl ⟨by rfl, fun w hSw => ?_⟩) hS2 ?_
  · have x0 := hSw; go_simp
  try simp only [Act.put, List.setIfInBounds_toArray, List.set_cons_zero, List.set_cons_succ, List.getElem_toArray, List.getElem_cons_zero, List.getElem_cons_succ]
  refine wpAnyH_take (i := 8) (oi := _) (v := .slice wa c wc) rfl (by kernel_rfl) (by kernel_rfl) (by kernel_rfl) (fun _ _ _ h => h) (Or.inl ⟨by rfl, fun w hSw => ?_⟩) hS2 ?_
  · have x0 := hSw; go_simp
  try simp only [Act.put, List.setIfInBounds_toArray, List.set_cons_zero, List.set_cons_succ, List.getElem_toArray, List.getElem_cons_zero, List.getElem_cons_succ]
  refine wpAnyH_take (i := 9) (oi := _) (v := .int .i64 c) rfl (by kernel_rfl) (by kernel_rfl) (by kernel_rfl) (fun _ _ _ h => h) (Or.inl ⟨by rfl, fun w hSw => ?_⟩) hS2 ?_
  · have x0 := hSw; go_simp
  try simp only [Act.put, List.setIfInBounds_toArray, List.set_cons_zero, List.set_cons_succ, List.getElem_toArray, List.getElem_cons_zero, List.getElem_cons_succ]
  refine wpAnyH_ready (rs := [7]) (by kernel_rfl) (by simp) (AllReadyH.cons (o := _) rfl (fun K' hK => ?_) AllReadyH.nil)
  simp only [List.getElem_toArray, List.getElem_cons_zero, List.getElem_cons_succ]
  rw [if_pos (by rfl)]
  go_simp
  refine Q1.out.mono ?_
  rintro e w4 ⟨rfl, rfl⟩
  refine hK.out _ _ (k3b) (fun hS3 => ?_)
  clear hK K' hS2
  try simp only [Act.put, List.setIfInBounds_toArray, List.set_cons_zero, List.set_cons_succ, List.getElem_toArray, List.getElem_cons_zero, List.getElem_cons_succ]
  refine wpAnyH_take (i := 10) (oi := _) (v := .bool false) rfl (by kernel_rfl) (by kernel_rfl) (by kernel_rfl) (fun _ _ _ h => h) (Or.inl ⟨by rfl, fun w hSw => ?_⟩) hS3 ?_
  · have x0 := hSw; go_simp
  try simp only [Act.put, List.setIfInBounds_toArray, List.set_cons_zero, List.set_cons_succ, List.getElem_toArray, List.getElem_cons_zero, List.getElem_cons_succ]
  refine wpAnyH_take (i := 11) (oi := _) (v := .bool false) rfl (by kernel_rfl) (by kernel_rfl) (by kernel_rfl) (fun _ _ _ h => h) (Or.inl ⟨by rfl, fun w hSw => ?_⟩) hS3 ?_
  · have x0 := hSw; go_simp
  try simp only [Act.put, List.setIfInBounds_toArray, List.set_cons_zero, List.set_cons_succ, List.getElem_toArray, List.getElem_cons_zero, List.getElem_cons_succ]
  refine wpAnyH_take (i := 12) (oi := _) (v := .bool false) rfl (by kernel_rfl) (by kernel_rfl) (by kernel_rfl) (fun _ _ _ h => h) (Or.inl ⟨by rfl, fun w hSw => ?_⟩) hS3 ?_
  · have x0 := hSw; go_simp
  try simp only [Act.put, List.setIfInBounds_toArray, List.set_cons_zero, List.set_cons_succ, List.getElem_toArray, List.getElem_cons_zero, List.getElem_cons_succ]
  refine wpAnyH_take (i := 13) (oi := _) (v := .pointer (some ⟨p, 0, none⟩)) rfl (by kernel_rfl) (by kernel_rfl) (by kernel_rfl) (fun _ _ _ h => h) (Or.inl ⟨by rfl, fun w hSw => ?_⟩) hS3 ?_
  · have x0 := hSw; go_simp
  try simp only [Act.put, List.setIfInBounds_toArray, List.set_cons_zero, List.set_cons_succ, List.getElem_toArray, List.getElem_cons_zero, List.getElem_cons_succ]
  refine wpAnyH_take (i := 15) (oi := _) (v := .slice wa c wc) rfl (by kernel_rfl) (by kernel_rfl) (by kernel_rfl) (fun _ _ _ h => h) (Or.inl ⟨by rfl, fun w hSw => ?_⟩) hS3 ?_
  · have x0 := hSw; go_simp
  try simp only [Act.put, List.setIfInBounds_toArray, List.set_cons_zero, List.set_cons_succ, List.getElem_toArray, List.getElem_cons_zero, List.getElem_cons_succ]
  refine wpAnyH_ready (rs := [14]) (by kernel_rfl) (by simp) (AllReadyH.cons (o := _) rfl (fun K' hK => ?_) AllReadyH.nil)
  simp only [List.getElem_toArray, List.getElem_cons_zero, List.getElem_cons_succ]
  rw [if_pos (by rfl)]
  go_simp
  refine Q2.out.mono ?_
  rintro e w4 ⟨rfl, rfl⟩
  refine hK.out _ _ (k3b) (fun hS4 => ?_)
  clear hK K' hS3
  try simp only [Act.put, List.setIfInBounds_toArray, List.set_cons_zero, List.set_cons_succ, List.getElem_toArray, List.getElem_cons_zero, List.getElem_cons_succ]
  refine wpAnyH_ready (rs := [16]) (by kernel_rfl) (by simp) (AllReadyH.cons (o := _) rfl (fun K' hK => ?_) AllReadyH.nil)
  simp only [List.getElem_toArray, List.getElem_cons_zero, List.getElem_cons_succ]
  rw [if_pos (by rfl)]
  go_simp
  refine Q3.out.mono ?_
  rintro e w4 ⟨rfl, rfl⟩
  refine hK.out _ _ (k3b) (fun hS5 => ?_)
  clear hK K' hS4
  try simp only [Act.put, List.setIfInBounds_toArray, List.set_cons_zero, List.set_cons_succ, List.getElem_toArray, List.getElem_cons_zero, List.getElem_cons_succ]
  refine wpAnyH_take (i := 17) (oi := _) (v := .bool false) rfl (by kernel_rfl) (by kernel_rfl) (by kernel_rfl) (fun _ _ _ h => h) (Or.inl ⟨by rfl, fun w hSw => ?_⟩) hS5 ?_
  · have x0 := hSw; go_simp
  try simp only [Act.put, List.setIfInBounds_toArray, List.set_cons_zero, List.set_cons_succ, List.getElem_toArray, List.getElem_cons_zero, List.getElem_cons_succ]
  refine wpAnyH_take (i := 18) (oi := _) (v := .bool false) rfl (by kernel_rfl) (by kernel_rfl) (by kernel_rfl) (fun _ _ _ h => h) (Or.inl ⟨by rfl, fun w hSw => ?_⟩) hS5 ?_
  · have x0 := hSw; go_simp
  try simp only [Act.put, List.setIfInBounds_toArray, List.set_cons_zero, List.set_cons_succ, List.getElem_toArray, List.getElem_cons_zero, List.getElem_cons_succ]
  refine wpAnyH_take (i := 19) (oi := _) (v := .bool false) rfl (by kernel_rfl) (by kernel_rfl) (by kernel_rfl) (fun _ _ _ h => h) (Or.inl ⟨by rfl, fun w hSw => ?_⟩) hS5 ?_
  · have x0 := hSw; go_simp
  try simp only [Act.put, List.setIfInBounds_toArray, List.set_cons_zero, List.set_cons_succ, List.getElem_toArray, List.getElem_cons_zero, List.getElem_cons_succ]
  refine wpAnyH_take (i := 20) (oi := _) (v := .pointer (some ⟨p, 0, none⟩)) rfl (by kernel_rfl) (by kernel_rfl) (by kernel_rfl) (fun _ _ _ h => h) (Or.inl ⟨by rfl, fun w hSw => ?_⟩) hS5 ?_
  · have x0 := hSw; go_simp
  try simp only [Act.put, List.setIfInBounds_toArray, List.set_cons_zero, List.set_cons_succ, List.getElem_toArray, List.getElem_cons_zero, List.getElem_cons_succ]
  refine wpAnyH_take (i := 22) (oi := _) (v := .pointer (some ⟨p, 0, none⟩)) rfl (by kernel_rfl) (by kernel_rfl) (by kernel_rfl) (fun _ _ _ h => h) (Or.inl ⟨by rfl, fun w hSw => ?_⟩) hS5 ?_
  · have x0 := hSw; go_simp
  try simp only [Act.put, List.setIfInBounds_toArray, List.set_cons_zero, List.set_cons_succ, List.getElem_toArray, List.getElem_cons_zero, List.getElem_cons_succ]
  refine wpAnyH_ready (rs := [21]) (by kernel_rfl) (by simp) (AllReadyH.cons (o := _) rfl (fun K' hK => ?_) AllReadyH.nil)
  simp only [List.getElem_toArray, List.getElem_cons_zero, List.getElem_cons_succ]
  rw [if_pos (by rfl)]
  go_simp
  refine Q4.out.mono ?_
  rintro e w4 ⟨⟨k, rfl, hk2⟩, rfl⟩
  refine hK.out _ _ (k3b) (fun hS6 => ?_)
  clear hK K' hS5
  have hk2I : (k : Int) ≤ 2 * (ed : Int) + 1 := by omega
  try simp only [Act.put, List.setIfInBounds_toArray, List.set_cons_zero, List.set_cons_succ, List.getElem_toArray, List.getElem_cons_zero, List.getElem_cons_succ]
  refine wpAnyH_ready (rs := [23]) (by kernel_rfl) (by simp) (AllReadyH.cons (o := _) rfl (fun K' hK => ?_) AllReadyH.nil)
  simp only [List.getElem_toArray, List.getElem_cons_zero, List.getElem_cons_succ]
  rw [if_pos (by rfl)]
  go_simp
  refine Q5.out.mono ?_
  rintro e w4 ⟨rfl, rfl⟩
  refine hK.out _ _ (k3b) (fun hS7 => ?_)
  clear hK K' hS6
  try simp only [Act.put, List.setIfInBounds_toArray, List.set_cons_zero, List.set_cons_succ, List.getElem_toArray, List.getElem_cons_zero, List.getElem_cons_succ]
  refine wpAnyH_take (i := 24) (oi := _) (v := .int .i64 (2 * (ed : Int))) rfl (by kernel_rfl) (by kernel_rfl) (by kernel_rfl) (fun _ _ _ h => h) (Or.inl ⟨by rfl, fun w hSw => ?_⟩) hS7 ?_
  · have x0 := hSw; go_simp
  try simp only [Act.put, List.setIfInBounds_toArray, List.set_cons_zero, List.set_cons_succ, List.getElem_toArray, List.getElem_cons_zero, List.getElem_cons_succ]
  refine wpAnyH_take (i := 25) (oi := _) (v := .int .i64 (2 * (ed : Int) + 1)) rfl (by kernel_rfl) (by kernel_rfl) (by kernel_rfl) (fun _ _ _ h => h) (Or.inl ⟨by rfl, fun w hSw => ?_⟩) hS7 ?_
  · have x0 := hSw; go_simp
  try simp only [Act.put, List.setIfInBounds_toArray, List.set_cons_zero, List.set_cons_succ, List.getElem_toArray, List.getElem_cons_zero, List.getElem_cons_succ]
  refine wpAnyH_take (i := 26) (oi := _) (v := .bool false) rfl (by kernel_rfl) (by kernel_rfl) (by kernel_rfl) (fun _ _ _ h => h) (Or.inl ⟨by rfl, fun w hSw => ?_⟩) hS7 ?_
  · have x0 := hSw; go_simp
  try simp only [Act.put, List.setIfInBounds_toArray, List.set_cons_zero, List.set_cons_succ, List.getElem_toArray, List.getElem_cons_zero, List.getElem_cons_succ]
  refine wpAnyH_take (i := 27) (oi := _) (v := .bool false) rfl (by kernel_rfl) (by kernel_rfl) (by kernel_rfl) (fun _ _ _ h => h) (Or.inl ⟨by rfl, fun w hSw => ?_⟩) hS7 ?_
  · have x0 := hSw; go_simp
  try simp only [Act.put, List.setIfInBounds_toArray, List.set_cons_zero, List.set_cons_succ, List.getElem_toArray, List.getElem_cons_zero, List.getElem_cons_succ]
  refine wpAnyH_done (by kernel_rfl) ?_ _
  try dsimp only [Whole]
  refine NoPanic.normal ?_
  have Ca := Lib.hid (ball HB.out HM.out H3.out)
  have hnf := eql_seq_nil
  clear k3 k3b
  go_wp2_with fail
  refine Ca.out.mono ?_
  rintro e w5 ⟨b5, rfl, h5⟩
  dsimp only at h5
  obtain ⟨b6, hb6⟩ : ∃ b, b = w5.heap.size := ⟨_, rfl⟩
  obtain ⟨W6, hW6⟩ : ∃ W6, W6 = w5.alloc (.cells #[.int .i64 0] 3) := ⟨_, rfl⟩
  have h6 := h5.alloc #[.int .i64 0] 3
  rw [← hb6, ← hW6] at h6
  obtain ⟨S, hseq, h7⟩ := o_seq_all_str (h6.ord [1])
  have H7 := Lib.hid h7
  have Hseq := Lib.hid hseq
  have HW6 := Lib.hid hW6
  have HB6 := Lib.hid hb6
  clear h5 h6 h7 hseq hW6 hb6 Ca
  go_upto_region 7 with (fail)
  rw [← HW6.out, ← HB6.out]
  clear HW6 HB6
  go_wp2_with fail
  refine wp_range_own (gf := 81) (lb := #[.pointer (some ⟨b5, 0, none⟩)]) rfl (enters_fn Tryz.func81 (by kernel_rfl) rfl) Hseq.out (fun _ => rfl) (w0 := w0)
    (R := tbufA p (joinL W) ed ad :: Asrt.obj b3 (.cells #[.slice wa c wc] 22 (0, 0)) :: Asrt.obj b4 (.cells #[.bool false] 4 (0, 0)) :: R)
    (fun k => Asrt.obj b6 (.cells #[.int .i64 (k : Int)] 3 (0, 0))) (fun _ => Asrt.pure False) ?start ?F ?assign ?body ?done ?stop
  case start => exact H7.out.p1
  case assign =>
    intro l' k W' K hk hK
    gi_wp2
    exact hK
  case body =>
    intro l' k W' Z hk HW
    obtain ⟨x, hx⟩ : ∃ x, W[k]? = some x := ⟨_, List.getElem?_eq_getElem hk⟩
    have ey : (lstrs W)[k]?.getD undef = .string (bs x) := by rw [lstrs_get hx]; rfl
    rw [ey]
    obtain ⟨bb, o, c', e1, hcc, hcell⟩ := rdl_cell Hk.out hx HW.drop.drop.drop.drop.drop
    rw [← Hc.out] at e1 hcc
    cases e1
    have d6 : W'.cell? ⟨b6, 0, none⟩ = some (.int .i64 (k : Int)) := HW.cell (j := 0) rfl
    have g6 := HW.frozen 0
    have d3 : W'.cell? ⟨b3, 0, none⟩ = some (.slice (some ⟨bb, o, none⟩) c wc) := (HW.ord [3]).cell (j := 0) rfl
    have hwk : IntKind.i64.wrap ((k : Int) + 1) = (k : Int) + 1 := by have := Hc.out; rw [IntKind.wrap_i64]; omega
    have hkc : ¬ ((c : Int) ≤ (k : Int)) := by have := Hc.out; omega
    have hkc2 : k < c := by have := Hc.out; omega
    have H5 := Lib.hid (HW.set 0 (.int .i64 ((k : Int) + 1)))
    clear HW hx ey
    generalize bs x = s at *
    gi_wp2_with fail
    show Owns w0 _ (Asrt.obj b6 (.cells #[.int .i64 ((k + 1 : Nat) : Int)] 3 (0, 0)) :: Z :: _)
    rw [Int.natCast_add]
    exact H5.out
  case done =>
    intro D W' HW
    rw [← Hc.out] at HW
    have d6 : W'.cell? ⟨b6, 0, none⟩ = some (.int .i64 (c : Int)) := HW.cell (j := 0) rfl
    have d3 : W'.cell? ⟨b3, 0, none⟩ = some (.slice wa c wc) := (HW.ord [3]).cell (j := 0) rfl
    have d4 : W'.cell? ⟨b4, 0, none⟩ = some (.bool false) := (HW.ord [4]).cell (j := 0) rfl
    have g4 := (HW.ord [4]).frozen 0
    have Cl1 := Lib.hid (bline_out (h := (c : Int)) HB.out (by have := Hc.out; omega) (HW.ord [2]))
    have Cl2 := Lib.hid (bline_out (h := -1) HB.out (by omega) (HW.ord [2]))
    have H8 := Lib.hid ((HW.ord [4]).set 0 (.bool true))
    clear HW
    go_wp2_with fail
    refine Cl1.out.mono ?_
    rintro e w' ⟨rfl, rfl⟩
    go_wp2_with fail
    refine Cl2.out.mono ?_
    rintro e w' ⟨rfl, rfl⟩
    clear Cl1 Cl2
    go_wp2_with fail
    refine leaves_own [D] _ (H8.out.ord [2]) (fun w' hw' => ?_)
    have u4 : w'.cell? ⟨b4, 0, none⟩ = some (.bool true) := hw'.cell (j := 0) rfl
    exact ⟨.bool true, by simp [results, Tryz.f14, go_sem, u4], rfl, (hw'.drop.drop.ord [0, 0]).p1.drop⟩
  case stop =>
    intro D cd W' HW
    exact HW.pureE.1.elim
end
end Go.Proofs.YtcdoomlagmddcaaGreatDoor
