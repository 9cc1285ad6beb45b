/- The example of the laws on undo holds. -/
import Derived.Test.YtchgkdhhfbppbaaUR
import Derived.Test.YtchgkdhhfbppbaaUV
namespace Go.Proofs.Ytchgkdhhfbppbaa
open Go Go.RowKit Go.Fol
attribute [local go_sem ↓] Go.wp_at_zero Go.wp_at_succ
set_option linter.unusedVariables false
set_option linter.unusedSimpArgs false
section
variable {w0 w : World} {R : List Asrt}
/-- A literal of one change can be read. -/
theorem ChRd.lit {b b1 b2 : Nat} {t1 t2 : TypeId} {x : Int} {s1 s2 : ByteArray} (h : Asrt.obj b (.cells #[.int .i64 x, .slice (some ⟨b1, 0, none⟩) 1 1, .slice (some ⟨b2, 0, none⟩) 1 1] t1 (0, 0)) ∈ R) (h1 : Asrt.obj b1 (.cells #[.string s1] t2 (0, 0)) ∈ R) (h2 : Asrt.obj b2 (.cells #[.string s2] t2 (0, 0)) ∈ R) :
    ChRd w0 R (.slice (some ⟨b, 0, none⟩) 1 1) [⟨x, some ⟨b1, 0, none⟩, 1, some ⟨b2, 0, none⟩, 1, [s1], [s2]⟩] := by
  refine ⟨Reads.obj (k := 3) (n := 1) (c := 1) h (by decide) (by decide) (by simp), fun c hc => ?_, fun c hc => ?_⟩
  all_goals
    simp at hc
    subst hc
  · exact Reads.obj (k := 1) (n := 1) (c := 1) h1 (by decide) (by decide) (by simp)
  · exact Reads.obj (k := 1) (n := 1) (c := 1) h2 (by decide) (by decide) (by simp)
set_option maxHeartbeats 2000000 in
theorem known_true (H : Owns w0 w R) : Calls Try.prog 6 #[] w (Ret (.bool true) w0 R) := by
  have HH := Lib.hid H
  clear H
  go_enter Try.func6, Try.ntmps6
  go_wp2_with fail
  refine (unew HH.out).mono ?_
  rintro e w1 ⟨p, rfl, h1⟩
  obtain ⟨W2, hW2⟩ : ∃ W2, ((w1.alloc (.cells #[.string ⟨#[97]⟩] 9)).alloc (.cells #[.string ⟨#[98]⟩] 9)).alloc (.cells #[.int .i64 0, .slice (some ⟨w1.heap.size, 0, none⟩) 1 1, .slice (some ⟨w1.heap.size + 1, 0, none⟩) 1 1] 49) = W2 := ⟨_, rfl⟩
  obtain ⟨b1, hb1⟩ : ∃ b1, b1 = w1.heap.size := ⟨_, rfl⟩
  obtain ⟨b2, hb2⟩ : ∃ b2, b2 = w1.heap.size + 1 := ⟨_, rfl⟩
  obtain ⟨D, hD⟩ : ∃ D, D = w1.heap.size + 2 := ⟨_, rfl⟩
  have h2 := ((h1.alloc #[.string ⟨#[97]⟩] 9).alloc #[.string ⟨#[98]⟩] 9).alloc #[.int .i64 0, .slice (some ⟨w1.heap.size, 0, none⟩) 1 1, .slice (some ⟨w1.heap.size + 1, 0, none⟩) 1 1] 49
  rw [hW2] at h2
  simp only [World.size_alloc, Nat.add_assoc, Nat.reduceAdd] at h2
  rw [← hD, ← hb2, ← hb1] at h2
  have H2 := Lib.hid h2
  have HW2 := Lib.hid hW2
  have Hb1 := Lib.hid hb1
  have Hb2 := Lib.hid hb2
  have HD := Lib.hid hD
  clear h1 h2 hW2 hb1 hb2 hD
  go_upto_region 5 with (fail)
  rw [HW2.out, ← HD.out]
  go_wp2_with fail
  refine (ubegin 0 1 (H2.out.ord [3])).mono ?_
  rintro e w3 ⟨rfl, h3⟩
  have k0 : w3.cell? ⟨D, 0, none⟩ = some (.int .i64 0) := (h3.ord [1]).cell (j := 0) rfl
  have k1 : w3.cell? ⟨D, 1, none⟩ = some (.slice (some ⟨b1, 0, none⟩) 1 1) := (h3.ord [1]).cell (j := 1) rfl
  have k2 : w3.cell? ⟨D, 2, none⟩ = some (.slice (some ⟨b2, 0, none⟩) 1 1) := (h3.ord [1]).cell (j := 2) rfl
  have H3 := Lib.hid h3
  clear h3 H2 HW2 Hb1 Hb2 HD
  go_wp2_with fail
  have h4 := (H3.out.alloc #[.int .i64 0, .slice (some ⟨b1, 0, none⟩) 1 1, .slice (some ⟨b2, 0, none⟩) 1 1] 49).p1
  refine (uadd h4 (ChRd.lit (t2 := 9) (x := 0) (s1 := ⟨#[97]⟩) (s2 := ⟨#[98]⟩) (b1 := b1) (b2 := b2) List.mem_cons_self (by simp [ordL, takeAt]) (by simp [ordL, takeAt])) (by simp [OkL, ChOk, Ch.dat]) (by simp) (by simp)).mono ?_
  rintro e w4 ⟨g, rfl, h5⟩
  obtain ⟨hg, h5⟩ := h5.pureE
  have H5 := Lib.hid h5
  have Hg := Lib.hid hg
  have hgl : g.L.length = 1 := by
    have := congrArg (fun d : GD => d.2.2.length) hg
    simpa [Gr.dat] using this
  clear h4 h5 hg H3 k0 k1 k2
  go_wp2_with fail
  refine (ucommit 0 2 H5.out (by omega) (by omega) (Nat.zero_le _) (by decide)).mono ?_
  rintro e w5 ⟨rfl, h6⟩
  have hcl : comL [] 0 { g with tl := 0, tc := 2 } = [{ g with tl := 0, tc := 2 }] := rfl
  rw [hcl] at h6
  obtain ⟨g', hg'⟩ : ∃ g', g' = { g with tl := 0, tc := 2 } := ⟨_, rfl⟩
  rw [← hg'] at h6
  have hd' : g'.dat = ((0, 1), (0, 2), [((0 : Int), [(⟨#[97]⟩ : ByteArray)], [(⟨#[98]⟩ : ByteArray)])]) := by
    have h := Hg.out
    simp only [Gr.dat, Prod.mk.injEq] at h ⊢
    rw [hg']
    exact ⟨⟨h.1.1, h.1.2⟩, ⟨rfl, rfl⟩, by rw [h.2.2]; rfl⟩
  simp only [Gr.dat, Prod.mk.injEq] at hd'
  obtain ⟨⟨hfl, hfc⟩, ⟨htl, htc⟩, hdL⟩ := hd'
  have hok : OkL (datL g'.L) := by rw [hdL]; simp [OkL, ChOk]
  have hgl' : g'.L.length ≤ 100000 := by rw [hg']; show g.L.length ≤ 100000; omega
  have H6 := Lib.hid h6
  have Hok := Lib.hid hok
  have HdL := Lib.hid hdL
  clear h6 hok hdL H5 Hg hgl hg' hcl
  go_wp2_with fail
  refine (uundo (done := 0) (g := g') H6.out rfl (by simp) Hok.out hgl').mono ?_
  rintro e w6 ⟨⟨v6, M6⟩, rfl, h7⟩
  obtain ⟨hM6, h7⟩ := h7.pureE
  dsimp only at hM6 h7 ⊢
  obtain ⟨a6, c6, rfl⟩ := row_slice h7.row
  rw [hfl, hfc]
  have H7 := Lib.hid h7
  have HM6 := Lib.hid hM6
  clear h7 hM6 H6
  go_wp2_with fail
  refine (uundo_out ((H7.out.alloc #[.int .i64 0, .int .i64 1] 29).ord [3])).mono ?_
  rintro e w7 ⟨rfl, h8⟩
  have H8 := Lib.hid h8
  clear h8 H7
  go_wp2_with fail
  refine (uredo (done := 0) (g := g') ((H8.out.alloc #[.int .i64 0, .int .i64 0] 29).p1) rfl (by simp) Hok.out hgl').mono ?_
  rintro e w8 ⟨⟨v8, M8⟩, rfl, h9⟩
  obtain ⟨hM8, h9⟩ := h9.pureE
  dsimp only at hM8 h9 ⊢
  obtain ⟨a8, c8, rfl⟩ := row_slice h9.row
  rw [htl, htc]
  have H9 := Lib.hid h9
  have HM8 := Lib.hid hM8
  clear h9 hM8 H8
  go_wp2_with fail
  refine (udepth ((H9.out.alloc #[.int .i64 0, .int .i64 2] 29).ord [3]) (by simp) (by simp)).mono ?_
  rintro e w9 ⟨rfl, h10⟩
  obtain ⟨R9, hR9⟩ : ∃ R9, R9 = (Asrt.hist p [g'] 1 none :: Asrt.obj w8.heap.size (.cells #[.int .i64 0, .int .i64 2] 29 (0, 0)) :: row_chg (.slice a8 M8.length c8) M8.length (chs M8) :: chsA M8 :: Asrt.obj w7.heap.size (.cells #[.int .i64 0, .int .i64 0] 29 (0, 0)) :: Asrt.obj w6.heap.size (.cells #[.int .i64 0, .int .i64 1] 29 (0, 0)) :: row_chg (.slice a6 M6.length c6) M6.length (chs M6) :: chsA M6 :: Asrt.obj w3.heap.size (.cells #[.int .i64 0, .slice (some ⟨b1, 0, none⟩) 1 1, .slice (some ⟨b2, 0, none⟩) 1 1] 49 (0, 0)) :: Asrt.obj D (.cells #[.int .i64 0, .slice (some ⟨b1, 0, none⟩) 1 1, .slice (some ⟨b2, 0, none⟩) 1 1] 49 (0, 0)) :: Asrt.obj b2 (.cells #[.string ⟨#[98]⟩] 9 (0, 0)) :: Asrt.obj b1 (.cells #[.string ⟨#[97]⟩] 9 (0, 0)) :: R) := ⟨_, rfl⟩
  have h11 : Owns w0 w9 R9 := by rw [hR9]; exact h10
  have end9 : ∀ W, Owns w0 W R9 → Owns w0 W R := by
    intro W h
    rw [hR9] at h
    exact h.drop.drop.drop.drop.drop.drop.drop.drop.drop.drop.drop.drop
  have m1 : Asrt.obj b1 (.cells #[.string ⟨#[97]⟩] 9 (0, 0)) ∈ R9 := by rw [hR9]; simp
  have m2 : Asrt.obj b2 (.cells #[.string ⟨#[98]⟩] 9 (0, 0)) ∈ R9 := by rw [hR9]; simp
  have mD : Asrt.obj D (.cells #[.int .i64 0, .slice (some ⟨b1, 0, none⟩) 1 1, .slice (some ⟨b2, 0, none⟩) 1 1] 49 (0, 0)) ∈ R9 := by rw [hR9]; simp
  have mP : Asrt.obj w6.heap.size (.cells #[.int .i64 0, .int .i64 1] 29 (0, 0)) ∈ R9 := by rw [hR9]; simp
  have mQ : Asrt.obj w8.heap.size (.cells #[.int .i64 0, .int .i64 2] 29 (0, 0)) ∈ R9 := by rw [hR9]; simp
  have c6r : ChRd w0 R9 (.slice a6 M6.length c6) M6 := ChRd.own (by rw [hR9]; simp) (by rw [hR9]; simp)
  have c8r : ChRd w0 R9 (.slice a8 M8.length c8) M8 := ChRd.own (by rw [hR9]; simp) (by rw [hR9]; simp)
  have cl : ∀ b, ChRd w0 (Asrt.obj b (.cells #[.int .i64 0, .slice (some ⟨b1, 0, none⟩) 1 1, .slice (some ⟨b2, 0, none⟩) 1 1] 49 (0, 0)) :: R9) (.slice (some ⟨b, 0, none⟩) 1 1) [⟨0, some ⟨b1, 0, none⟩, 1, some ⟨b2, 0, none⟩, 1, [⟨#[97]⟩], [⟨#[98]⟩]⟩] := fun b => ChRd.lit (t2 := 9) List.mem_cons_self (List.mem_cons_of_mem _ m1) (List.mem_cons_of_mem _ m2)
  have cellsD : ∀ W, Owns w0 W R9 → (W.cell? ⟨D, 0, none⟩ = some (.int .i64 0) ∧ W.cell? ⟨D, 1, none⟩ = some (.slice (some ⟨b1, 0, none⟩) 1 1) ∧ W.cell? ⟨D, 2, none⟩ = some (.slice (some ⟨b2, 0, none⟩) 1 1)) ∧ W.cell? ⟨w6.heap.size, 1, none⟩ = some (.int .i64 1) ∧ W.cell? ⟨w8.heap.size, 1, none⟩ = some (.int .i64 2) := fun W h => ⟨⟨(h.mem mD).cell (j := 0) rfl, (h.mem mD).cell (j := 1) rfl, (h.mem mD).cell (j := 2) rfl⟩, (h.mem mP).cell (j := 1) rfl, (h.mem mQ).cell (j := 1) rfl⟩
  obtain ⟨⟨d0, d1, d2⟩, k1, k2⟩ := cellsD w9 h11
  have hri := rinverse (h11.alloc #[.int .i64 0, .slice (some ⟨b1, 0, none⟩) 1 1, .slice (some ⟨b2, 0, none⟩) 1 1] 49) (cl _).row (by simp)
  have Hri := Lib.hid hri
  have Cl := Lib.hid cl
  have C6 := Lib.hid c6r
  have C8 := Lib.hid c8r
  have CD := Lib.hid cellsD
  have E9 := Lib.hid end9
  have HM6' := HM6.out
  have HM8' := HM8.out
  rw [HdL.out] at HM6' HM8'
  have X6 := Lib.hid HM6'
  have X8 := Lib.hid HM8'
  clear h10 h11 hri H9 hR9 m1 m2 mD mP mQ cl c6r c8r cellsD end9 HM6 HM8 HM6' HM8'
  go_wp2_with fail
  refine Hri.out.mono ?_
  rintro e w10 ⟨v10, rfl, h12⟩
  have hl2 := ChRd.rinv ((Cl.out w9.heap.size).cons (A := row_chg v10 (Go.Proofs.Ytchgkdhhfbppbaa.rinv [⟨0, some ⟨b1, 0, none⟩, 1, some ⟨b2, 0, none⟩, 1, [⟨#[97]⟩], [⟨#[98]⟩]⟩]).length (chs (Go.Proofs.Ytchgkdhhfbppbaa.rinv [⟨0, some ⟨b1, 0, none⟩, 1, some ⟨b2, 0, none⟩, 1, [⟨#[97]⟩], [⟨#[98]⟩]⟩])))) (Reads.row (e := 49) (v := v10) (by simp))
  have hch := hchanges (A := M6) (by rw [X6.out, rinv_dat]; rfl) h12 C6.out.cons.cons hl2
  have Hch := Lib.hid hch
  obtain ⟨a10, c10, rfl⟩ := row_slice h12.row
  clear h12 hl2 hch Hri d0 d1 d2 k1 k2
  go_wp2_with fail
  refine Hch.out.mono ?_
  rintro e w11 ⟨rfl, h13⟩
  have h14 := h13.drop.drop
  obtain ⟨⟨d0, d1, d2⟩, k1, k2⟩ := CD.out w11 h14
  have hch := hchanges (A := M8) (by rw [X8.out]; rfl) (h14.alloc #[.int .i64 0, .slice (some ⟨b1, 0, none⟩) 1 1, .slice (some ⟨b2, 0, none⟩) 1 1] 49) C8.out.cons (Cl.out w11.heap.size)
  have Hch2 := Lib.hid hch
  clear h13 h14 hch Hch
  go_wp2_with fail
  refine Hch2.out.mono ?_
  rintro e w12 ⟨rfl, h15⟩
  have Hend := Lib.hid (E9.out _ h15.drop)
  clear h15 Hch2 d0 d1 d2 k1 k2
  go_wp2_with fail
  go_ret
  exact ⟨rfl, Hend.out⟩
end
end Go.Proofs.Ytchgkdhhfbppbaa
