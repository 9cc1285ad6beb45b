/- The law ParseMotions on values that read. -/
import Derived.Test.YthcamokblkjkkaaTM
namespace Go.Proofs.Ythcamokblkjkkaa
open Go Go.RowKit Go.Fol
attribute [local go_sem ↓] Go.wp_at_zero Go.wp_at_succ
set_option linter.unusedVariables false
set_option linter.unusedSimpArgs false
theorem feed_one (c : Int) (v : Bool) : tryF v [c] = ((feedF pzero c v).1, (feedF pzero c v).2.1) := feed_try (k := []) rfl
def nameOk (c : Int) : Bool := (feedF pzero c false).2.1.name.size ≤ 10
theorem feed_name {c : Int} (h0 : 0 ≤ c) (hc : c ≤ 255) {r : Int} {cm : Cm} {s' : PSt} (h : feedF pzero c false = (r, cm, s')) : cm.name.size ≤ 10 := by
  have := ix_byte (p := nameOk) (q := fun _ => true) (by decide +kernel) h0 hc
  rw [nameOk, h] at this
  simpa using this
set_option maxHeartbeats 4000000 in
set_option maxRecDepth 100000 in
theorem parseMotions_walk (w : World) (v0 v1 : Value) (a0 : Arg Try.prog w 9 v0) (a1 : Arg Try.prog w 5 v1) :
    Calls Try.prog 6 #[v0, v1] w fun e w' => e = .returned (.bool true) ∧ Below w.heap.size w w' := by
  obtain ⟨nm, rfl, hsz⟩ := arg_string Try.underlying9 a0
  obtain ⟨c, rfl, hc⟩ := arg_int Try.underlying5 a1
  have hcr := wf_u8 hc
  have hc0 : 0 ≤ c := hcr.1
  have hc1 : c ≤ 255 := hcr.2
  clear a0 a1 hc hcr
  go_enter Try.func6, Try.ntmps6
  go_wp2_with fail
  refine (known_true (Owns.start w)).mono ?_
  rintro e w1 ⟨rfl, h1⟩
  have H1 := Lib.hid h1
  clear h1
  by_cases hlong : 10 < nm.size
  · have hlong' : (10 : Int) < (nm.size : Int) := by omega
    go_wp2_with fail
    go_ret
    exact ⟨rfl, H1.out.below⟩
  have hlong' : ¬ ((10 : Int) < (nm.size : Int)) := by omega
  obtain ⟨mb, hmb⟩ : ∃ mb, mb = motionB nm.toList := ⟨_, rfl⟩
  have M1 := pMotion nm w1 (by omega)
  have M2 := tMotion nm w1 (by omega)
  rw [← hmb] at M1 M2
  have HM1 := Lib.hid M1
  have HM2 := Lib.hid M2
  clear M1 M2 hmb
  go_wp2_with (first
    | (go_at_call 21; refine HM1.out.mono ?_; rintro e w' ⟨rfl, rfl⟩)
    | (go_at_call 22; refine HM2.out.mono ?_; rintro e w' ⟨rfl, rfl⟩))
  obtain ⟨r, cm, s', hfe⟩ : ∃ r cm s', feedF pzero c false = (r, cm, s') := ⟨_, _, _, rfl⟩
  have htr : tryF false [c] = (r, cm) := by rw [feed_one, hfe]
  have Hfe := Lib.hid hfe
  have Htr := Lib.hid htr
  clear hfe htr HM1 HM2 hlong
  refine (pnew H1.out).mono ?_
  rintro e w2 ⟨p, rfl, h2⟩
  have hp := pfeed false hc0 hc1 ok_zero h2
  rw [Hfe.out] at hp
  have Hp := Lib.hid hp
  clear h2 hp H1
  go_wp2_with fail
  refine Hp.out.mono ?_
  rintro e w3 ⟨rfl, h3⟩
  have h4 := h3.alloc cm.cells 33
  have H4 := Lib.hid h4
  clear h3 h4 Hp
  have h5 := H4.out.alloc #[.int .u8 c] 5
  have hT := ttry (l := [c]) false (fun x hx => by simp at hx; subst hx; exact ⟨hc0, hc1⟩) (by simp) h5 (Reads.obj (b := (w3.alloc (.cells cm.cells 33)).heap.size) (k := 1) (n := 1) (t := 5) (f := (0, 0)) (cs := #[.int .u8 c]) (c := 1) (by simp) (by decide) (by decide) (by simp))
  rw [Htr.out] at hT
  simp only [World.size_alloc, List.length_cons, List.length_nil, Nat.zero_add] at hT
  have hnm := feed_name hc0 hc1 Hfe.out
  have HT := Lib.hid hT
  clear hT h5
  go_wp2_with fail
  refine HT.out.mono ?_
  rintro e w4 ⟨rfl, h6⟩
  have h7 := (h6.drop).alloc cm.cells 33
  obtain ⟨x0, x1, x2, x3, x4, x5⟩ := ccells h7
  obtain ⟨y0, y1, y2, y3, y4, y5⟩ := ccells h7.p1
  have M1 : ∀ q, Calls Try.prog 21 #[.string cm.name] ((w4.alloc (.cells cm.cells 33)).drewN q) _ := fun q => pMotion cm.name _ (by omega)
  have M2 : ∀ q, Calls Try.prog 22 #[.string cm.name] ((w4.alloc (.cells cm.cells 33)).drewN q) _ := fun q => tMotion cm.name _ (by omega)
  have heq := fun w => eqin_cmd cm w
  have HM1 := Lib.hid M1
  have HM2 := Lib.hid M2
  have H7 := Lib.hid h7
  obtain ⟨mb2, hmb2⟩ : ∃ mb, mb = motionB cm.name.toList := ⟨_, rfl⟩
  rw [← hmb2] at HM1 HM2
  clear h6 h7 HT H4 M1 M2 hmb2 hnm
  by_cases hr : r = 1
  · subst hr
    go_upto_region 8 with (fail)
    go_quiet (first
      | (go_at_call 21; exact Calls.quiet_of_same ((HM1.out _).mono (fun e w' ⟨h1, h2⟩ => ⟨h1, h2.symm⟩)))
      | (go_at_call 22; exact Calls.quiet_of_same ((HM2.out _).mono (fun e w' ⟨h1, h2⟩ => ⟨h1, h2.symm⟩))))
    go_wp2_with fail
    go_ret
    exact ⟨rfl, (H7.out.drewN _).below⟩
  · have hr' : (r == 1) = false := by simpa using hr
    go_upto_region 8 with (fail)
    go_quiet (fail)
    go_wp2_with fail
    go_ret
    exact ⟨rfl, (H7.out.drewN _).below⟩
end Go.Proofs.Ythcamokblkjkkaa
