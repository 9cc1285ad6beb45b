/- The law MacroPlays on values that read. -/
import Derived.Test.YtkgngcibjkkhkaaDoorMW
import Derived.Test.YtkgngcibjkkhkaaDoorMV
import Derived.Test.YtkgngcibjkkhkaaDoorRd
import Derived.Test.YtkgngcibjkkhkaaDoorRead
import Derived.Test.YtkgngcibjkkhkaaDoorRows
import Derived.Deep.RegionWith
namespace Go.Proofs.YtkgngcibjkkhkaaDoor
open Go Go.RowKit Go.Fol
attribute [local go_sem ↓] Go.wp_at_zero Go.wp_at_succ
set_option linter.unusedVariables false
set_option linter.unusedSimpArgs false
theorem act_of {w : World} {es : List Value} (hl : es.length = 3) (h : Rd Tryd.prog w 44 es) :
    ∃ (a n : Int) (K : List Int) (ka : Option Addr) (kc : Nat), es = [.int .u8 a, .slice ka K.length kc, .int .i64 n] ∧ 0 ≤ a ∧ a ≤ 255 ∧ SrcV w 1 (.slice ka K.length kc) K.length (kints .u8 K) ∧ bytesN K := by
  obtain ⟨e0, e1, e2, rfl⟩ : ∃ e0 e1 e2, es = [e0, e1, e2] := by
    match es, hl with
    | [a, b, c], _ => exact ⟨a, b, c, rfl⟩
  have hs := (rd_struct Tryd.underlying44 h).2
  obtain ⟨a, ha, wa⟩ := rd_int Tryd.underlying5 (hs 0 _ rfl)
  obtain ⟨K, ka, kc, hk, hs1, hw⟩ := rd_kind (kd := .u8) Tryd.underlying22 Tryd.underlying5 (by kernel_rfl) (hs 1 _ rfl)
  obtain ⟨n, hn, _⟩ := rd_int Tryd.underlying3 (hs 2 _ rfl)
  have ha : [e0] = [.int .u8 a] := ha
  have hk : [e1] = [.slice ka K.length kc] := hk
  have hn : [e2] = [.int .i64 n] := hn
  cases ha; cases hk; cases hn
  exact ⟨a, n, K, ka, kc, rfl, (wf_u8 wa).1, (wf_u8 wa).2, hs1, fun x hx => wf_u8 (hw x hx)⟩
theorem tmod_bd (x : Int) {m : Int} (h : 0 < m) : -m < x.tmod m ∧ x.tmod m < m := ⟨Int.lt_tmod_of_pos x h, Int.tmod_lt_of_pos x h⟩
theorem drop_ok {s : St} (h : s.ok) : ({ s with L := [] } : St).ok := ⟨fun f hf => by simp at hf, by simp, h.left, h.fuel, h.depth⟩
theorem fill_ok {s : St} (h : s.ok) : ({ s with left := s.fuel } : St).ok := ⟨h.fr, h.len, h.fuel, h.fuel, h.depth⟩
section
variable {w0 w : World} {R : List Asrt}
/-- The document's stack, dropped, filled up: its cells. -/
theorem wdropS {p : Nat} {s : St} (H : Owns w0 w (wstA p s :: R)) : w.frozen? ⟨p, 0, none⟩ = false ∧ (∃ v, w.cell? ⟨p, 0, none⟩ = some v) ∧ Owns w0 (w.setCell ⟨p, 0, none⟩ (.slice none 0 0)) (wstA p { s with L := [] } :: R) := by
  obtain ⟨a, c, M, hM, h⟩ := wstE H
  refine ⟨h.frozen 0, ⟨_, h.cell (j := 0) rfl⟩, ?_⟩
  have h2 := (h.set 0 (.slice none 0 0))
  exact wstI (s := { s with L := [] }) (v := .slice none 0 0) (M := []) rfl (((allNil mlA ((h2.ord [2, 1]).drop.drop)).rowNil 62 3).ord [2])
theorem wrefuelS {p : Nat} {s : St} (H : Owns w0 w (wstA p s :: R)) : w.frozen? ⟨p, 3, none⟩ = false ∧ w.cell? ⟨p, 1, none⟩ = some (.int .i64 s.fuel) ∧ w.cell? ⟨p, 3, none⟩ = some (.int .i64 s.left) ∧ Owns w0 (w.setCell ⟨p, 3, none⟩ (.int .i64 s.fuel)) (wstA p { s with left := s.fuel } :: R) := by
  obtain ⟨a, c, M, hM, h⟩ := wstE H
  refine ⟨h.frozen 3, h.cell (j := 1) rfl, h.cell (j := 3) rfl, ?_⟩
  exact wstI (s := { s with left := s.fuel }) (M := M) hM (h.set 3 (.int .i64 s.fuel))
theorem wlook {p : Nat} {s : St} (H : Owns w0 w (wstA p s :: R)) : ∃ a c, w.cell? ⟨p, 0, none⟩ = some (.slice a s.L.length c) ∧ w.cell? ⟨p, 3, none⟩ = some (.int .i64 s.left) := by
  obtain ⟨a, c, M, hM, h⟩ := wstE H
  refine ⟨a, c, ?_, h.cell (j := 3) rfl⟩
  rw [← hM, List.length_map]
  exact h.cell (j := 0) rfl
end
set_option maxHeartbeats 8000000 in
set_option maxRecDepth 100000 in
theorem macroPlays_walk (w : World) (v0 v1 v2 : Value) (a0 : Arg Tryd.prog w 3 v0) (a1 : Arg Tryd.prog w 3 v1) (a2 : Arg Tryd.prog w 40 v2) (hL : laidMetH Tryd.prog Rows.macroPlaysRow.laid w) (hS : w.ShapedOpen Tryd.prog) :
    Calls Tryd.prog 6 #[v0, v1, v2] w fun e w' => e = .returned (.bool true) ∧ Below w.heap.size w w' := by
  obtain ⟨fu, rfl, hfu⟩ := arg_int Tryd.underlying3 a0
  obtain ⟨de, rfl, hde⟩ := arg_int Tryd.underlying3 a1
  obtain ⟨ca, c, cc, rfl, _, hcc, hcm, _, hrow⟩ := arg_slice (k := 3) Tryd.underlying40 (by kernel_rfl) (by decide) a2
  have hc63 : c ≤ 9223372036854775807 := by unfold maxLen at hcm; omega
  have HM : Hid (MaxInt w) := Lib.hid (maxInt_of hS)
  have Hrow := Lib.hid hrow
  clear a0 a1 a2 hrow hcm hL hS hfu hde
  go_enter Tryd.func6, Tryd.ntmps6
  go_wp2_with fail
  refine (known_true HM.out (Owns.start w)).mono ?_
  rintro e w1 ⟨rfl, h1⟩
  have H1 := Lib.hid h1
  clear h1
  obtain ⟨hf0, hf1⟩ := tmod_bd fu (m := 60) (by decide)
  obtain ⟨hd0, hd1⟩ := tmod_bd de (m := 6) (by decide)
  by_cases hc80 : c ≤ 80
  rotate_left
  · go_wp2_with fail
    go_ret
    exact ⟨rfl, H1.out.below⟩
  go_wp2_with fail
  refine (mnew _ _ H1.out).mono ?_
  rintro e w2 ⟨p, rfl, h2⟩
  have H2 := Lib.hid h2
  clear h2
  go_wp2_with fail
  refine (wnew _ _ H2.out).mono ?_
  rintro e w3 ⟨r, rfl, h3⟩
  have hs0 : (newS (fu.tmod 60) (de.tmod 6)).ok := new_ok (by omega) (by omega)
  have H3 := Lib.hid h3
  have Hs0 := Lib.hid hs0
  clear h3 H2 H1 hs0
  obtain ⟨S0, hS0⟩ : ∃ S0, S0 = newS (fu.tmod 60) (de.tmod 6) := ⟨_, rfl⟩
  rw [← hS0] at H3 Hs0
  clear hf0 hf1 hd0 hd1 hS0
  go_wp2_with fail
  go_loopg [9] c (fun gk q wr => ∃ (i : Nat) (s : St), gk + i = c ∧ q = .int .i64 i ∧ s.ok ∧ Owns w wr [wstA r s, stkA p s])
  case atStart => exact ⟨0, S0, rfl, rfl, Hs0.out, H3.out⟩
  case round =>
    obtain ⟨i, s, hgi, rfl, hs, h5⟩ := hrel
    have H5 := Lib.hid h5
    have Hs := Lib.hid hs
    clear h5 hs H3 Hs0
    by_cases hlt : i < c
    rotate_left
    · go_wp2_with fail
      go_ret
      exact ⟨rfl, H5.out.below⟩
    obtain ⟨b, off, rfl, hbl, hel⟩ := Hrow.out (by omega)
    obtain ⟨es, hes, hrd, hce⟩ := hel i hlt
    obtain ⟨a, n, K, ka, kc, rfl, ha0, ha1, hK, hb⟩ := act_of hes hrd
    have hk63 := hK.n63
    have k0 := H5.out.chg.cell (hce 0 _ rfl) (by simp)
    have k1 := H5.out.chg.cell (hce 1 _ rfl) (by simp)
    have k2 := H5.out.chg.cell (hce 2 _ rfl) (by simp)
    simp only [Nat.add_zero] at k0
    obtain ⟨kl, hkl⟩ : ∃ kl, kl = K.length := ⟨_, rfl⟩
    rw [← hkl] at k1 hK hk63 hce
    have h6 := H5.out.alloc #[.int .u8 a, .slice ka kl kc, .int .i64 n] 44
    obtain ⟨W1, hW1⟩ : ∃ W1, wr.alloc (.cells #[.int .u8 a, .slice ka kl kc, .int .i64 n] 44) = W1 := ⟨_, rfl⟩
    obtain ⟨X, hX⟩ : ∃ X, X = wr.heap.size := ⟨_, rfl⟩
    rw [hW1, ← hX] at h6
    have x0 : W1.cell? ⟨X, 0, none⟩ = some (.int .u8 a) := h6.cell (j := 0) rfl
    have x1 : W1.cell? ⟨X, 1, none⟩ = some (.slice ka kl kc) := h6.cell (j := 1) rfl
    have x2 : W1.cell? ⟨X, 2, none⟩ = some (.int .i64 n) := h6.cell (j := 2) rfl
    have HW1 := Lib.hid hW1
    have HX := Lib.hid hX
    have H6 := Lib.hid h6
    have HK : Hid (∀ R : List Asrt, Reads w R 1 (.slice ka kl kc) kl (kints .u8 K)) := Lib.hid (fun R => Reads.old hK)
    have Hkl := Lib.hid hkl
    have Hb := Lib.hid hb
    clear hrd hce hes hel hbl hW1 hX h6 hK hkl hb
    go_upto_region 11 with (fail)
    rw [HW1.out, ← HX.out]
    clear k0 k1 k2 HW1 HX
    by_cases hk8 : kl ≤ 8
    rotate_left
    · go_wp2_with fail
      go_ret
      exact ⟨rfl, H6.out.below⟩
    go_upto_block 2 with (fail)
    go_cut [11, 12, 13, 14] from 30 to 139 (fun _ _ _ _ wx => ∃ s' : St, s'.ok ∧ Owns w wx [wstA r s', stkA p s', Asrt.obj X (.cells #[.int .u8 a, .slice ka kl kc, .int .i64 n] 44 (0, 0))])
    case first =>
      obtain ⟨m, hm⟩ : ∃ m, a % 8 = m := ⟨_, rfl⟩
      have hm0 : 0 ≤ m ∧ m < 8 := by omega
      obtain ⟨hm0, hm1⟩ := hm0
      by_cases hpush : m ≤ 1
      · obtain ⟨hn50, hn51⟩ := tmod_bd n (m := 5) (by decide)
        obtain ⟨b, s1, hp⟩ : ∃ b s1, pushF s K (n.tmod 5) = (b, s1) := ⟨_, _, rfl⟩
        have hs1 : s1.ok := by have := push_ok (n := n.tmod 5) Hs.out (K := K) (by rw [← Hkl.out]; omega) Hb.out (by omega); rw [hp] at this; exact this
        have Hs1 := Lib.hid hs1
        have Hpu := Lib.hid (fun (wx : World) (h : Owns w wx [stkA p s, Asrt.obj X (.cells #[.int .u8 a, .slice ka kl kc, .int .i64 n] 44 (0, 0)), wstA r s]) => by
          have := mpush (ka := ka) (kc := kc) h Hs.out (by rw [← Hkl.out]; exact HK.out _) (by rw [← Hkl.out]; omega) hp
          rw [← Hkl.out] at this
          exact this)
        have Hwpu := Lib.hid (fun (wx : World) (h : Owns w wx [wstA r s, stkA p s1, Asrt.obj X (.cells #[.int .u8 a, .slice ka kl kc, .int .i64 n] 44 (0, 0))]) => by
          have := wpush (ka := ka) (kc := kc) h Hs.out (by rw [← Hkl.out]; exact HK.out _) (by rw [← Hkl.out]; omega) hp
          rw [← Hkl.out] at this
          exact this)
        clear hp hs1
        rcases (show m = 0 ∨ m = 1 by omega) with h | h
        all_goals
          subst h
          have hA := hm
          clear hm
          go_upto_region 20 with (fail)
          refine wp_region_held_drew (S := (fun w' => w'.cell? ⟨X, 1, none⟩ = some (.slice ka kl kc) ∧ w'.cell? ⟨X, 2, none⟩ = some (.int .i64 n))) (by kernel_rfl) ⟨H6.out.drew.cell (j := 1) rfl, H6.out.drew.cell (j := 2) rfl⟩ (fun hS0 => ?_)
          refine wpAnyH_take (i := 0) (oi := _) (v := .pointer (some ⟨p, 0, none⟩)) rfl (by kernel_rfl) (by kernel_rfl) (by kernel_rfl) (fun _ _ _ h => h) (Or.inl ⟨by rfl, fun w hSw => ?_⟩) hS0 ?_
          · obtain ⟨x0, x1⟩ := hSw; go_simp
          try simp only [Act.put, List.setIfInBounds_toArray, List.set_cons_zero, List.set_cons_succ, List.getElem_toArray, List.getElem_cons_zero, List.getElem_cons_succ]
          refine wpAnyH_take (i := 1) (oi := _) (v := .pointer (some ⟨X, 1, none⟩)) rfl (by kernel_rfl) (by kernel_rfl) (by kernel_rfl) (fun _ _ _ h => h) (Or.inl ⟨by rfl, fun w hSw => ?_⟩) hS0 ?_
          · obtain ⟨x0, x1⟩ := hSw; go_simp
          try simp only [Act.put, List.setIfInBounds_toArray, List.set_cons_zero, List.set_cons_succ, List.getElem_toArray, List.getElem_cons_zero, List.getElem_cons_succ]
          refine wpAnyH_take (i := 2) (oi := _) (v := .slice ka kl kc) rfl (by kernel_rfl) (by kernel_rfl) (by kernel_rfl) (fun _ _ _ h => h) (Or.inl ⟨by rfl, fun w hSw => ?_⟩) hS0 ?_
          · obtain ⟨x0, x1⟩ := hSw; go_simp
          try simp only [Act.put, List.setIfInBounds_toArray, List.set_cons_zero, List.set_cons_succ, List.getElem_toArray, List.getElem_cons_zero, List.getElem_cons_succ]
          refine wpAnyH_take (i := 3) (oi := _) (v := .pointer (some ⟨X, 2, none⟩)) rfl (by kernel_rfl) (by kernel_rfl) (by kernel_rfl) (fun _ _ _ h => h) (Or.inl ⟨by rfl, fun w hSw => ?_⟩) hS0 ?_
          · obtain ⟨x0, x1⟩ := hSw; go_simp
          try simp only [Act.put, List.setIfInBounds_toArray, List.set_cons_zero, List.set_cons_succ, List.getElem_toArray, List.getElem_cons_zero, List.getElem_cons_succ]
          refine wpAnyH_take (i := 4) (oi := _) (v := .int .i64 n) rfl (by kernel_rfl) (by kernel_rfl) (by kernel_rfl) (fun _ _ _ h => h) (Or.inl ⟨by rfl, fun w hSw => ?_⟩) hS0 ?_
          · obtain ⟨x0, x1⟩ := hSw; go_simp
          try simp only [Act.put, List.setIfInBounds_toArray, List.set_cons_zero, List.set_cons_succ, List.getElem_toArray, List.getElem_cons_zero, List.getElem_cons_succ]
          refine wpAnyH_take (i := 5) (oi := _) (v := .int .i64 (n.tmod 5)) rfl (by kernel_rfl) (by kernel_rfl) (by kernel_rfl) (fun _ _ _ h => h) (Or.inl ⟨by rfl, fun w hSw => ?_⟩) hS0 ?_
          · obtain ⟨x0, x1⟩ := hSw; go_simp
          try simp only [Act.put, List.setIfInBounds_toArray, List.set_cons_zero, List.set_cons_succ, List.getElem_toArray, List.getElem_cons_zero, List.getElem_cons_succ]
          refine wpAnyH_take (i := 7) (oi := _) (v := .pointer (some ⟨r, 0, none⟩)) rfl (by kernel_rfl) (by kernel_rfl) (by kernel_rfl) (fun _ _ _ h => h) (Or.inl ⟨by rfl, fun w hSw => ?_⟩) hS0 ?_
          · obtain ⟨x0, x1⟩ := hSw; go_simp
          try simp only [Act.put, List.setIfInBounds_toArray, List.set_cons_zero, List.set_cons_succ, List.getElem_toArray, List.getElem_cons_zero, List.getElem_cons_succ]
          refine wpAnyH_take (i := 8) (oi := _) (v := .pointer (some ⟨X, 1, none⟩)) rfl (by kernel_rfl) (by kernel_rfl) (by kernel_rfl) (fun _ _ _ h => h) (Or.inl ⟨by rfl, fun w hSw => ?_⟩) hS0 ?_
          · obtain ⟨x0, x1⟩ := hSw; go_simp
          try simp only [Act.put, List.setIfInBounds_toArray, List.set_cons_zero, List.set_cons_succ, List.getElem_toArray, List.getElem_cons_zero, List.getElem_cons_succ]
          refine wpAnyH_take (i := 9) (oi := _) (v := .slice ka kl kc) rfl (by kernel_rfl) (by kernel_rfl) (by kernel_rfl) (fun _ _ _ h => h) (Or.inl ⟨by rfl, fun w hSw => ?_⟩) hS0 ?_
          · obtain ⟨x0, x1⟩ := hSw; go_simp
          try simp only [Act.put, List.setIfInBounds_toArray, List.set_cons_zero, List.set_cons_succ, List.getElem_toArray, List.getElem_cons_zero, List.getElem_cons_succ]
          refine wpAnyH_take (i := 10) (oi := _) (v := .pointer (some ⟨X, 2, none⟩)) rfl (by kernel_rfl) (by kernel_rfl) (by kernel_rfl) (fun _ _ _ h => h) (Or.inl ⟨by rfl, fun w hSw => ?_⟩) hS0 ?_
          · obtain ⟨x0, x1⟩ := hSw; go_simp
          try simp only [Act.put, List.setIfInBounds_toArray, List.set_cons_zero, List.set_cons_succ, List.getElem_toArray, List.getElem_cons_zero, List.getElem_cons_succ]
          refine wpAnyH_take (i := 11) (oi := _) (v := .int .i64 n) rfl (by kernel_rfl) (by kernel_rfl) (by kernel_rfl) (fun _ _ _ h => h) (Or.inl ⟨by rfl, fun w hSw => ?_⟩) hS0 ?_
          · obtain ⟨x0, x1⟩ := hSw; go_simp
          try simp only [Act.put, List.setIfInBounds_toArray, List.set_cons_zero, List.set_cons_succ, List.getElem_toArray, List.getElem_cons_zero, List.getElem_cons_succ]
          refine wpAnyH_take (i := 12) (oi := _) (v := .int .i64 (n.tmod 5)) rfl (by kernel_rfl) (by kernel_rfl) (by kernel_rfl) (fun _ _ _ h => h) (Or.inl ⟨by rfl, fun w hSw => ?_⟩) hS0 ?_
          · obtain ⟨x0, x1⟩ := hSw; go_simp
          try simp only [Act.put, List.setIfInBounds_toArray, List.set_cons_zero, List.set_cons_succ, List.getElem_toArray, List.getElem_cons_zero, List.getElem_cons_succ]
          refine wpAnyH_ready (rs := [6]) (by kernel_rfl) (by simp) (AllReadyH.cons (o := _) rfl (fun K' hK => ?_) AllReadyH.nil)
          simp only [List.getElem_toArray, List.getElem_cons_zero, List.getElem_cons_succ]
          rw [if_pos (by rfl)]
          go_simp
          refine (Hpu.out _ (H6.out.drew.ord [2])).mono ?_
          rintro e w5 ⟨rfl, h8⟩
          refine hK.out _ _ ⟨h8.p1.cell (j := 1) rfl, h8.p1.cell (j := 2) rfl⟩ (fun hS1 => ?_)
          clear hK K' hS0
          have H8 := Lib.hid h8
          clear h8
          try simp only [Act.put, List.setIfInBounds_toArray, List.set_cons_zero, List.set_cons_succ, List.getElem_toArray, List.getElem_cons_zero, List.getElem_cons_succ]
          refine wpAnyH_ready (rs := [13]) (by kernel_rfl) (by simp) (AllReadyH.cons (o := _) rfl (fun K' hK => ?_) AllReadyH.nil)
          simp only [List.getElem_toArray, List.getElem_cons_zero, List.getElem_cons_succ]
          rw [if_pos (by rfl)]
          go_simp
          refine (Hwpu.out _ (H8.out.ord [2])).mono ?_
          rintro e w6 ⟨rfl, h9⟩
          refine hK.out _ _ ⟨h9.p2.cell (j := 1) rfl, h9.p2.cell (j := 2) rfl⟩ (fun hS2 => ?_)
          clear hK K' hS1
          have H9 := Lib.hid h9
          clear h9
          try simp only [Act.put, List.setIfInBounds_toArray, List.set_cons_zero, List.set_cons_succ, List.getElem_toArray, List.getElem_cons_zero, List.getElem_cons_succ]
          refine wpAnyH_take (i := 14) (oi := _) (v := .bool false) rfl (by kernel_rfl) (by kernel_rfl) (by kernel_rfl) (fun _ _ _ h => h) (Or.inl ⟨by rfl, fun w hSw => ?_⟩) hS2 ?_
          · obtain ⟨x0, x1⟩ := hSw; go_simp
          try simp only [Act.put, List.setIfInBounds_toArray, List.set_cons_zero, List.set_cons_succ, List.getElem_toArray, List.getElem_cons_zero, List.getElem_cons_succ]
          refine wpAnyH_done (by kernel_rfl) ?_ _
          try dsimp only [Whole]
          go_wp2_with fail
          go_meet
          exact ⟨s1, Hs1.out, H9.out⟩
      · have hA := hm
        clear hm
        by_cases h6 : m = 6
        · subst h6
          by_cases hn4 : n.tmod 4 = 0
          · go_wp2_with fail
            refine (mdrop (H6.out.ord [2])).mono ?_
            rintro e w5 ⟨rfl, h7⟩
            obtain ⟨f0, ⟨v0, c0⟩, h8⟩ := wdropS (h7.ord [2])
            have H8 := Lib.hid h8
            clear h7 h8
            go_wp2_with fail
            go_meet
            exact ⟨_, drop_ok Hs.out, H8.out⟩
          · go_wp2_with fail
            go_meet
            exact ⟨_, Hs.out, (H6.out.ord [2]).ord [2]⟩
        by_cases h7 : m = 7
        · subst h7
          go_wp2_with fail
          refine (mrefuel (H6.out.ord [2])).mono ?_
          rintro e w5 ⟨rfl, h7⟩
          obtain ⟨f0, c1, c3, h8⟩ := wrefuelS (h7.ord [2])
          have H8 := Lib.hid h8
          clear h7 h8
          go_wp2_with fail
          go_meet
          exact ⟨_, fill_ok Hs.out, H8.out⟩
        have hm2 := mnext (H6.out.ord [2]) Hs.out
        cases hx : nextF s with
        | none =>
          rw [hx] at hm2
          have hm' : Calls Tryd.prog 11 #[.pointer (some ⟨p, 0, none⟩)] W1 (Ret (.tuple #[.int .u8 0, .bool false]) w [stkA p s, Asrt.obj X (.cells #[.int .u8 a, .slice ka kl kc, .int .i64 n] 44 (0, 0)), wstA r s]) := hm2
          have hw : ∀ wx, Owns w wx [wstA r s, stkA p s, Asrt.obj X (.cells #[.int .u8 a, .slice ka kl kc, .int .i64 n] 44 (0, 0))] → Calls Tryd.prog 25 #[.pointer (some ⟨r, 0, none⟩)] wx (Ret (.tuple #[.int .u8 0, .bool false]) w [wstA r s, stkA p s, Asrt.obj X (.cells #[.int .u8 a, .slice ka kl kc, .int .i64 n] 44 (0, 0))]) := fun wx h => by
            have := wnext h Hs.out
            rw [hx] at this
            exact this
          have Hm := Lib.hid hm'
          have Hw := Lib.hid hw
          clear hm2 hm' hw hx
          go_wp2_with fail
          refine Hm.out.mono ?_
          rintro e w5 ⟨rfl, h8⟩
          have H8 := Lib.hid (h8.ord [2])
          clear h8 Hm
          go_wp2_with fail
          refine (Hw.out _ H8.out).mono ?_
          rintro e w6 ⟨rfl, h9⟩
          have H9 := Lib.hid h9
          clear h9 Hw
          go_wp2_with fail
          go_meet
          exact ⟨s, Hs.out, H9.out⟩
        | some x =>
          obtain ⟨ch, s1⟩ := x
          have hs1 := (next_ok Hs.out hx).1
          rw [hx] at hm2
          have hm' : Calls Tryd.prog 11 #[.pointer (some ⟨p, 0, none⟩)] W1 (Ret (.tuple #[.int .u8 ch, .bool true]) w [stkA p s1, Asrt.obj X (.cells #[.int .u8 a, .slice ka kl kc, .int .i64 n] 44 (0, 0)), wstA r s]) := hm2
          have hw : ∀ wx, Owns w wx [wstA r s, stkA p s1, Asrt.obj X (.cells #[.int .u8 a, .slice ka kl kc, .int .i64 n] 44 (0, 0))] → Calls Tryd.prog 25 #[.pointer (some ⟨r, 0, none⟩)] wx (Ret (.tuple #[.int .u8 ch, .bool true]) w [wstA r s1, stkA p s1, Asrt.obj X (.cells #[.int .u8 a, .slice ka kl kc, .int .i64 n] 44 (0, 0))]) := fun wx h => by
            have := wnext h Hs.out
            rw [hx] at this
            exact this
          have Hm := Lib.hid hm'
          have Hw := Lib.hid hw
          have Hs1 := Lib.hid hs1
          clear hm2 hm' hw hx hs1
          go_wp2_with fail
          refine Hm.out.mono ?_
          rintro e w5 ⟨rfl, h8⟩
          have H8 := Lib.hid (h8.ord [2])
          clear h8 Hm
          go_wp2_with fail
          refine (Hw.out _ H8.out).mono ?_
          rintro e w6 ⟨rfl, h9⟩
          have H9 := Lib.hid h9
          clear h9 Hw
          go_wp2_with fail
          go_meet
          exact ⟨s1, Hs1.out, H9.out⟩
    case rest =>
      obtain ⟨s', hs', h7⟩ := hcut
      obtain ⟨ra, rc, c0, c3⟩ := wlook h7
      have hleft := fun n : Nat => Calls.quiet_of_same ((mleft ((h7.ord [1]).drewN n)).mono (fun _ _ h => ⟨h.1, h.2.symm⟩))
      have hdeep := fun n : Nat => Calls.quiet_of_same ((mdeep ((h7.ord [1]).drewN n)).mono (fun _ _ h => ⟨h.1, h.2.symm⟩))
      have hdry := fun n : Nat => Calls.quiet_of_same ((mdry ((h7.ord [1]).drewN n)).mono (fun _ _ h => ⟨h.1, h.2.symm⟩))
      have hl1 := hs'.len
      unfold dryB at hdry
      obtain ⟨lf, hlf⟩ : ∃ lf, lf = s'.left := ⟨_, rfl⟩
      obtain ⟨ln, hln⟩ : ∃ ln, ln = s'.L.length := ⟨_, rfl⟩
      rw [← hlf] at hleft hdry c3
      rw [← hln] at hdeep hdry c0 hl1
      have Hleft := Lib.hid hleft
      have Hdeep := Lib.hid hdeep
      have Hdry := Lib.hid hdry
      have H7 := Lib.hid (Owns.left (R := [_, _]) (R' := [_]) h7)
      have Hs' := Lib.hid hs'
      clear hleft hdeep hdry hlf hln h7 hs'
      by_cases hl0 : ln = 0
      · subst hl0
        go_upto_region 29 with (fail)
        go_quiet (first
          | (go_at_call 12; exact Hleft.out _)
          | (go_at_call 20; exact Hdeep.out _)
          | (go_at_call 13; exact Hdry.out _))
        go_wp2_with fail
        go_roundg (gk - 1)
        case measure => omega
        case rel => exact ⟨i + 1, s', by omega, by go_num, Hs'.out, H7.out.drewN _⟩
      · have hlp : decide ((0 : Int) < (ln : Int)) = true := decide_eq_true (by omega)
        have hlp2 : decide (0 < ln) = true := decide_eq_true (by omega)
        rw [hlp2] at Hdry
        go_upto_region 29 with (fail)
        go_quiet (first
          | (go_at_call 12; exact Hleft.out _)
          | (go_at_call 20; exact Hdeep.out _)
          | (go_at_call 13; exact Hdry.out _))
        go_wp2_with fail
        go_roundg (gk - 1)
        case measure => omega
        case rel => exact ⟨i + 1, s', by omega, by go_num, Hs'.out, H7.out.drewN _⟩
end Go.Proofs.YtkgngcibjkkhkaaDoor
