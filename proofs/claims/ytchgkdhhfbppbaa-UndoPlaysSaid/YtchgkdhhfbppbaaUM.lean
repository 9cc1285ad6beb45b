/- undo: Commit. -/
import Derived.Test.YtchgkdhhfbppbaaUA
namespace Go.Proofs.Ytchgkdhhfbppbaa
open Go Go.RowKit Go.Fol
attribute [local go_sem ↓] Go.wp_at_zero Go.wp_at_succ
set_option linter.unusedVariables false
set_option linter.unusedSimpArgs false
section
variable {w0 w : World} {R : List Asrt}
theorem perm_pick_gen {α : Type} : ∀ (L : List α) (i : Nat) (h : i < L.length), L.Perm (L[i] :: L.eraseIdx i)
  | [], i, h => by simp at h
  | A :: L, 0, _ => List.Perm.refl _
  | A :: L, i + 1, h => by
    simp only [List.getElem_cons_succ, List.eraseIdx_cons_succ]
    exact ((perm_pick_gen L i (by simpa using h)).cons A).trans (List.Perm.swap ..)
theorem all_split {α : Type} (f : α → Asrt) {A B : List α} (H : Owns w0 w (Asrt.all ((A ++ B).map f) :: R)) : Owns w0 w (Asrt.all (A.map f) :: Asrt.all (B.map f) :: R) := by
  have h := Owns.allE H
  rw [List.map_append, List.append_assoc] at h
  have h1 := Owns.allI (L := B.map f) (R := A.map f ++ R) (h.perm (by rw [← List.append_assoc, ← List.append_assoc]; exact List.Perm.append_right _ List.perm_append_comm))
  exact Owns.allI (L := A.map f) (h1.perm List.perm_middle.symm)
theorem all_join {α : Type} (f : α → Asrt) {A B : List α} (H : Owns w0 w (Asrt.all (A.map f) :: Asrt.all (B.map f) :: R)) : Owns w0 w (Asrt.all ((A ++ B).map f) :: R) := by
  refine Owns.allI ?_
  have h := Owns.allE (L := A.map f) H
  have h2 := Owns.allE (L := B.map f) (R := A.map f ++ R) (h.perm (List.perm_middle))
  rw [List.map_append]
  refine h2.perm ?_
  rw [← List.append_assoc]
  exact List.Perm.append_right _ List.perm_append_comm
theorem all_pick {α : Type} (f : α → Asrt) {L : List α} {i : Nat} {x : α} (hx : L[i]? = some x) (H : Owns w0 w (Asrt.all (L.map f) :: R)) : Owns w0 w (f x :: Asrt.all ((L.eraseIdx i).map f) :: R) := by
  obtain ⟨h1, h2⟩ := List.getElem?_eq_some_iff.1 hx
  have h := Owns.allE H
  have hp := (perm_pick_gen L i h1).map f
  rw [h2, List.map_cons] at hp
  have h3 := h.perm (List.Perm.append_right R hp)
  exact (Owns.allI (L := (L.eraseIdx i).map f) (R := f x :: R) (h3.perm List.perm_middle.symm)).p1
theorem all_unpick {α : Type} (f : α → Asrt) {L : List α} {i : Nat} {x : α} (hx : L[i]? = some x) (H : Owns w0 w (f x :: Asrt.all ((L.eraseIdx i).map f) :: R)) : Owns w0 w (Asrt.all (L.map f) :: R) := by
  obtain ⟨h1, h2⟩ := List.getElem?_eq_some_iff.1 hx
  have h := Owns.allE (L := (L.eraseIdx i).map f) (R := f x :: R) H.p1
  have hp := (perm_pick_gen L i h1).map f
  rw [h2, List.map_cons] at hp
  exact Owns.allI ((h.perm List.perm_middle).perm (List.Perm.append_right R hp.symm))
theorem grsA_take {G : List Gr} (i : Nat) (H : Owns w0 w (grsA G :: R)) : Owns w0 w (grsA (G.take i) :: R) := by
  rw [← List.take_append_drop i G] at H
  exact (all_split grA H).p1.drop
theorem grsA_drop {G : List Gr} (i : Nat) (H : Owns w0 w (grsA G :: R)) : Owns w0 w (grsA (G.drop i) :: R) := by
  rw [← List.take_append_drop i G] at H
  exact (all_split grA H).drop
theorem grsA_one {g : Gr} (H : Owns w0 w (row_chg g.lv g.L.length (chs g.L) :: chsA g.L :: R)) : Owns w0 w (grsA [g] :: R) :=
  Owns.allI (L := [grA g]) (Owns.allI (L := [_, _]) H)
theorem grs_append (A B : List Gr) : grs (A ++ B) = grs A ++ grs B := flat_append ..
/-- Delete, whatever is asked. -/
theorem gdel {v : Nat} {G : List Gr} (i : Nat) (m : Int) (H : Owns w0 w (grpvec v G :: R)) (hi : i ≤ G.length) (hm : m ≤ 1000) (hl : G.length ≤ 1000) :
    Calls Try.prog 23 #[.pointer (some ⟨v, 0, none⟩), .int .i64 i, .int .i64 m] w (RetX (fun d : Value => d) w0 (fun d => grpvec v (G.take i ++ G.drop (i + m.toNat)) :: R)) := by
  by_cases h : i < G.length ∧ 1 ≤ m
  · obtain ⟨r, hr⟩ : ∃ r : Nat, min m ((G.length : Int) - i) = r := ⟨(min m ((G.length : Int) - i)).toNat, by omega⟩
    refine (o_delete_grp i r m H (grs_one G) h.1 h.2 hr (by omega) (by omega)).mono ?_
    rintro e w' ⟨d, rfl, h1⟩
    refine ⟨d, rfl, ?_⟩
    have h2 := h1.p1.drop
    rw [flat_take grf_len, flat_drop grf_len, ← flat_append] at h2
    have e1 : G.drop (i + m.toNat) = G.drop (i + r) := by
      by_cases hc : m ≤ (G.length : Int) - i
      · rw [show m.toNat = r by omega]
      · rw [List.drop_eq_nil_of_le (by omega), List.drop_eq_nil_of_le (by omega)]
    rw [e1, grpvec, List.length_append, List.length_take, List.length_drop, show min i G.length + (G.length - (i + r)) = G.length - r by omega]
    exact h2
  · refine (o_delete_out_grp i m H (by omega)).mono ?_
    rintro e w' ⟨rfl, rfl⟩
    refine ⟨_, rfl, ?_⟩
    have e1 : G.take i ++ G.drop (i + m.toNat) = G := by
      by_cases hc : m < 1
      · rw [show m.toNat = 0 by omega, Nat.add_zero, List.take_append_drop]
      · rw [List.take_of_length_le (by omega), List.drop_eq_nil_of_le (by omega), List.append_nil]
    rw [e1]
    exact H
theorem ucommit_none {p : Nat} {G : List Gr} {done : Nat} (l c : Int) (H : Owns w0 w (Asrt.hist p G done none :: R)) :
    Calls Try.prog 12 #[.pointer (some ⟨p, 0, none⟩), .agg #[.int .i64 l, .int .i64 c]] w (Ret (.bool false) w0 (Asrt.hist p G done none :: R)) := by
  obtain ⟨v, ov, h⟩ := histE H
  obtain ⟨rfl, h⟩ := opnN (h.ord [3])
  have h1 := h.alloc #[.int .i64 l, .int .i64 c] 29
  have k2 : (w.alloc (.cells #[.int .i64 l, .int .i64 c] 29)).cell? ⟨p, 2, none⟩ = some (.pointer none) := h1.p1.cell (j := 2) rfl
  have f2 := h1.p1.frozen 2
  have H2 := Lib.hid (histI ((opnNI ((h1.p1.set 2 (.pointer none)).ord [1]).drop).ord [1, 1, 1]))
  clear H h h1
  go_enter Try.func12, Try.ntmps12
  go_wp2_with fail
  go_ret
  exact ⟨rfl, H2.out⟩
theorem ucommit_empty {p : Nat} {G : List Gr} {done : Nat} {g : Gr} (l c : Int) (H : Owns w0 w (Asrt.hist p G done (some g) :: R)) (hg : g.L = []) :
    Calls Try.prog 12 #[.pointer (some ⟨p, 0, none⟩), .agg #[.int .i64 l, .int .i64 c]] w (Ret (.bool false) w0 (Asrt.hist p G done none :: R)) := by
  obtain ⟨v, ov, h⟩ := histE H
  obtain ⟨o, rfl, h⟩ := opnS (h.ord [3])
  have h1 := (h.alloc #[.int .i64 l, .int .i64 c] 29).ord [4]
  have k2 : (w.alloc (.cells #[.int .i64 l, .int .i64 c] 29)).cell? ⟨p, 2, none⟩ = some (.pointer (some ⟨o, 0, none⟩)) := h1.cell (j := 2) rfl
  have f2 := h1.frozen 2
  have h2 := h1.set 2 (.pointer none)
  have k4 : ((w.alloc (.cells #[.int .i64 l, .int .i64 c] 29)).setCell ⟨p, 2, none⟩ (.pointer none)).cell? ⟨o, 4, none⟩ = some (.slice g.ga g.L.length g.gc) := (h2.ord [2]).cell (j := 4) rfl
  have hgl : g.L.length = 0 := by rw [hg]; rfl
  rw [hgl] at k4
  have H2 := Lib.hid (histI ((opnNI ((h2.ord [1, 1, 1, 1]).drop.drop.drop.drop)).ord [1, 1, 1]))
  clear H h h1 h2 hg
  go_enter Try.func12, Try.ntmps12
  go_wp2_with fail
  go_ret
  exact ⟨rfl, H2.out⟩
/-- The groups behind a commit. -/
def comL {α : Type} (G : List α) (done : Nat) (g : α) : List α := (G.take done ++ [g]).drop ((G.take done ++ [g]).length - 16)
set_option maxHeartbeats 1000000 in
theorem ucommit {p : Nat} {G : List Gr} {done : Nat} {g : Gr} (l c : Int) (H : Owns w0 w (Asrt.hist p G done (some g) :: R)) (hg : 0 < g.L.length) (hgl : g.L.length ≤ 100000) (hd : done ≤ G.length) (hl : G.length ≤ 16) :
    Calls Try.prog 12 #[.pointer (some ⟨p, 0, none⟩), .agg #[.int .i64 l, .int .i64 c]] w (Ret (.bool true) w0 (Asrt.hist p (comL G done { g with tl := l, tc := c }) (comL G done { g with tl := l, tc := c }).length none :: R)) := by
  obtain ⟨v, ov, h⟩ := histE H
  obtain ⟨o, rfl, h⟩ := opnS (h.ord [3])
  obtain ⟨W1, hW1⟩ : ∃ W1, W1 = w.alloc (.cells #[.int .i64 l, .int .i64 c] 29) := ⟨_, rfl⟩
  obtain ⟨B, hB⟩ : ∃ B, B = w.heap.size := ⟨_, rfl⟩
  have h1 := (h.alloc #[.int .i64 l, .int .i64 c] 29).ord [4]
  rw [← hW1, ← hB] at h1
  have k0 : W1.cell? ⟨p, 0, none⟩ = some (.pointer (some ⟨v, 0, none⟩)) := h1.cell (j := 0) rfl
  have k2 : W1.cell? ⟨p, 2, none⟩ = some (.pointer (some ⟨o, 0, none⟩)) := h1.cell (j := 2) rfl
  have f2 := h1.frozen 2
  have h2 := h1.set 2 (.pointer none)
  obtain ⟨W2, hW2⟩ : ∃ W2, W2 = W1.setCell ⟨p, 2, none⟩ (.pointer none) := ⟨_, rfl⟩
  rw [← hW2] at h2
  have k4 : W2.cell? ⟨o, 4, none⟩ = some (.slice g.ga g.L.length g.gc) := (h2.ord [2]).cell (j := 4) rfl
  have b0 : W2.cell? ⟨B, 0, none⟩ = some (.int .i64 l) := h2.p1.cell (j := 0) rfl
  have b1 : W2.cell? ⟨B, 1, none⟩ = some (.int .i64 c) := h2.p1.cell (j := 1) rfl
  have h3 := ((h2.ord [2]).set 2 (.int .i64 l)).set 3 (.int .i64 c)
  obtain ⟨W3, hW3⟩ : ∃ W3, W3 = (W2.setCell ⟨o, 2, none⟩ (.int .i64 l)).setCell ⟨o, 3, none⟩ (.int .i64 c) := ⟨_, rfl⟩
  rw [← hW3] at h3
  have o2 := (h2.ord [2]).cell (j := 2) rfl
  have o3 := (h2.ord [2]).cell (j := 3) rfl
  have fo2 := (h2.ord [2]).frozen 2
  have fo3 := (h2.ord [2]).frozen 3
  have fo3' := ((h2.ord [2]).set 2 (.int .i64 l)).frozen 3
  have H3 := Lib.hid (show Owns w0 W3 (hobj p v done none :: grpvec v G :: grsA G :: gobj o { g with tl := l, tc := c } :: row_chg g.lv g.L.length (chs g.L) :: chsA g.L :: R) from (h3.ord [2]).drop.ord [1, 3, 3, 0])
  have HW1 := Lib.hid hW1
  have HW2 := Lib.hid hW2
  have HW3 := Lib.hid hW3
  have HB := Lib.hid hB
  clear H h h1 h2 h3 hW1 hW2 hW3 hB
  go_enter Try.func12, Try.ntmps12
  go_upto_region 1 with (fail)
  rw [← HW1.out, ← HB.out]
  go_upto_region 3 with (fail)
  rw [← HW2.out]
  go_upto_region 6 with (fail)
  rw [← HW3.out]
  clear k0 k2 f2 k4 b0 b1 o2 o3 fo2 fo3 fo3' HW1 HW2 HW3 HB
  obtain ⟨g', hg'⟩ : ∃ g', g' = { g with tl := l, tc := c } := ⟨_, rfl⟩
  have H4 := Lib.hid (show Owns w0 W3 (hobj p v done none :: grpvec v G :: grsA G :: gobj o g' :: row_chg g'.lv g'.L.length (chs g'.L) :: chsA g'.L :: R) by rw [hg']; exact H3.out)
  rw [← hg']
  have Hg' := Lib.hid hg'
  clear hg' H3
  have s0 : W3.cell? ⟨p, 0, none⟩ = some (.pointer (some ⟨v, 0, none⟩)) := H4.out.cell (j := 0) rfl
  have s1 : W3.cell? ⟨p, 1, none⟩ = some (.int .i64 done) := H4.out.cell (j := 1) rfl
  have hlen1 := o_len_grp H4.out.drew.p1
  have hdel1 := gdel done G.length H4.out.drew.p1 hd (by omega) (by omega)
  rw [Int.toNat_natCast, List.drop_eq_nil_of_le (by omega), List.append_nil] at hdel1
  have Hlen1 := Lib.hid hlen1
  have Hdel1 := Lib.hid hdel1
  clear hlen1 hdel1
  go_cut [] (fun wx => Owns w0 wx (hobj p v done none :: grpvec v (G.take done) :: grsA (G.take done) :: gobj o g' :: row_chg g'.lv g'.L.length (chs g'.L) :: chsA g'.L :: R))
  case first =>
    go_region_held3 (fun w' => w'.cell? ⟨p, 0, none⟩ = some (.pointer (some ⟨v, 0, none⟩)) ∧ w'.cell? ⟨p, 1, none⟩ = some (.int .i64 done)) (first | go_keep | exact ⟨t0, t1⟩)
      (first
        | (go_at_call 24; refine Hlen1.out.mono ?_; rintro e w' ⟨rfl, rfl⟩)
        | (go_at_call 23; refine Hdel1.out.mono ?_; rintro e w4 ⟨d, rfl, h5⟩; have t0 : w4.cell? ⟨p, 0, none⟩ = some (.pointer (some ⟨v, 0, none⟩)) := h5.p1.cell (j := 0) rfl; have t1 : w4.cell? ⟨p, 1, none⟩ = some (.int .i64 done) := h5.p1.cell (j := 1) rfl; have H5 := Lib.hid h5; clear h5))
    go_wp2_with fail
    go_meet
    exact (grsA_take done (H5.out.ord [2])).ord [2, 1, 0]
  case rest =>
  have H5 := Lib.hid hcut
  clear hcut H4 Hlen1 Hdel1 s0 s1
  obtain ⟨W4, rfl⟩ : ∃ W4, W4 = wc := ⟨_, rfl⟩
  have s0 : W4.cell? ⟨p, 0, none⟩ = some (.pointer (some ⟨v, 0, none⟩)) := H5.out.cell (j := 0) rfl
  have s1 : W4.cell? ⟨p, 1, none⟩ = some (.int .i64 done) := H5.out.cell (j := 1) rfl
  have g0 : W4.cell? ⟨o, 0, none⟩ = some (.int .i64 g'.fl) := (H5.out.ord [3]).cell (j := 0) rfl
  have g1 : W4.cell? ⟨o, 1, none⟩ = some (.int .i64 g'.fc) := (H5.out.ord [3]).cell (j := 1) rfl
  have g2 : W4.cell? ⟨o, 2, none⟩ = some (.int .i64 g'.tl) := (H5.out.ord [3]).cell (j := 2) rfl
  have g3 : W4.cell? ⟨o, 3, none⟩ = some (.int .i64 g'.tc) := (H5.out.ord [3]).cell (j := 3) rfl
  have g4 : W4.cell? ⟨o, 4, none⟩ = some (.slice g'.ga g'.L.length g'.gc) := (H5.out.ord [3]).cell (j := 4) rfl
  have htl : (G.take done).length = done := by rw [List.length_take]; omega
  have hS := ((H5.out.alloc #[.int .i64 g'.fl, .int .i64 g'.fc, .int .i64 g'.tl, .int .i64 g'.tc, .slice g'.ga g'.L.length g'.gc] 56).drew).p2
  have hins := o_insert_grp done (.slice (some ⟨W4.heap.size, 0, none⟩) 1 1) (grf g') (m := 1) hS (Reads.obj (b := W4.heap.size) (k := 5) (n := 1) (t := 56) (f := (0, 0)) (cs := #[.int .i64 g'.fl, .int .i64 g'.fc, .int .i64 g'.tl, .int .i64 g'.tc, .slice g'.ga g'.L.length g'.gc]) (by simp) (by decide) (by decide) (by simp)) (grs_one _) (by simp [grf, Value.oneCell']) (by rw [htl]; exact Nat.le_refl _) (by rw [htl]; omega)
  have etk : (grs (G.take done)).take (done * 5) = grs (G.take done) := List.take_of_length_le (by rw [grs_len, htl]; exact Nat.le_refl _)
  have edr : (grs (G.take done)).drop (done * 5) = [] := List.drop_eq_nil_of_le (by rw [grs_len, htl]; exact Nat.le_refl _)
  rw [etk, edr, List.append_nil] at hins
  have Hins := Lib.hid hins
  have Htl := Lib.hid htl
  clear hins hS htl etk edr
  go_upto_region 7 with (fail)
  go_cut [] (fun wx => Owns w0 wx (hobj p v done none :: grpvec v (G.take done ++ [g']) :: grsA (G.take done ++ [g']) :: R))
  case first =>
    go_region_held3 (fun w' => w'.cell? ⟨p, 0, none⟩ = some (.pointer (some ⟨v, 0, none⟩)) ∧ w'.cell? ⟨p, 1, none⟩ = some (.int .i64 done) ∧ w'.cell? ⟨o, 0, none⟩ = some (.int .i64 g'.fl) ∧ w'.cell? ⟨o, 1, none⟩ = some (.int .i64 g'.fc) ∧ w'.cell? ⟨o, 2, none⟩ = some (.int .i64 g'.tl) ∧ w'.cell? ⟨o, 3, none⟩ = some (.int .i64 g'.tc) ∧ w'.cell? ⟨o, 4, none⟩ = some (.slice g'.ga g'.L.length g'.gc)) (first | go_keep | exact ⟨t0, t1, t2, t3, t4, t5, t6⟩)
      ((go_at_call 25; refine Hins.out.mono ?_; rintro e w5 ⟨rfl, h6⟩; have t0 : w5.cell? ⟨p, 0, none⟩ = some (.pointer (some ⟨v, 0, none⟩)) := (h6.ord [2]).cell (j := 0) rfl; have t1 : w5.cell? ⟨p, 1, none⟩ = some (.int .i64 done) := (h6.ord [2]).cell (j := 1) rfl; have t2 : w5.cell? ⟨o, 0, none⟩ = some (.int .i64 g'.fl) := (h6.ord [4]).cell (j := 0) rfl; have t3 : w5.cell? ⟨o, 1, none⟩ = some (.int .i64 g'.fc) := (h6.ord [4]).cell (j := 1) rfl; have t4 : w5.cell? ⟨o, 2, none⟩ = some (.int .i64 g'.tl) := (h6.ord [4]).cell (j := 2) rfl; have t5 : w5.cell? ⟨o, 3, none⟩ = some (.int .i64 g'.tc) := (h6.ord [4]).cell (j := 3) rfl; have t6 : w5.cell? ⟨o, 4, none⟩ = some (.slice g'.ga g'.L.length g'.gc) := (h6.ord [4]).cell (j := 4) rfl; have H6 := Lib.hid h6; clear h6))
    go_wp2_with fail
    go_meet
    have h7 := grsA_one (((H6.out.ord [1, 3]).drop.drop).ord [3, 3])
    have h8 := (all_join grA (h7.ord [3, 0])).ord [2, 1, 0]
    rw [grpvec, List.length_append, grs_append, show grs [g'] = grf g' from flat_one _]
    exact h8
  case rest =>
  have H6 := Lib.hid hcut
  clear hcut H5 Hins s0 s1 g0 g1 g2 g3 g4
  obtain ⟨W5, rfl⟩ : ∃ W5, W5 = wc := ⟨_, rfl⟩
  obtain ⟨N, hN⟩ : ∃ N, N = G.take done ++ [g'] := ⟨_, rfl⟩
  have hNl : N.length = done + 1 := by rw [hN, List.length_append, Htl.out]; rfl
  have hcom : comL G done g' = N.drop (N.length - 16) := by rw [comL, hN]
  have h6 := H6.out
  rw [← hN] at h6
  have s0 : W5.cell? ⟨p, 0, none⟩ = some (.pointer (some ⟨v, 0, none⟩)) := h6.cell (j := 0) rfl
  have hlen := o_len_grp h6.drew.p1
  have hdel := gdel 0 ((N.length : Int) - 16) h6.drew.p1 (Nat.zero_le _) (by omega) (by omega)
  rw [List.take_zero, List.nil_append, Nat.zero_add, show ((N.length : Int) - 16).toNat = N.length - 16 by omega] at hdel
  have hsub : IntKind.i64.wrap ((N.length : Int) - 16) = (N.length : Int) - 16 := by rw [IntKind.wrap_i64]; omega
  have Hlen := Lib.hid hlen
  have Hdel := Lib.hid hdel
  have HNl := Lib.hid hNl
  have HN := Lib.hid hN
  have Hcom := Lib.hid hcom
  clear h6 hlen hdel hNl hN H6 hcom
  go_upto_region 8 with (fail)
  go_region_held3 (fun w' => w'.cell? ⟨p, 0, none⟩ = some (.pointer (some ⟨v, 0, none⟩))) (first | go_keep | exact t0)
    (first
      | (go_at_call 24; refine Hlen.out.mono ?_; rintro e w' ⟨rfl, rfl⟩)
      | (go_at_call 23; refine Hdel.out.mono ?_; rintro e w6 ⟨d, rfl, h7⟩; have t0 : w6.cell? ⟨p, 0, none⟩ = some (.pointer (some ⟨v, 0, none⟩)) := h7.p1.cell (j := 0) rfl; have H7 := Lib.hid h7; clear h7))
  have j1 : w6.cell? ⟨p, 1, none⟩ = some (.int .i64 done) := H7.out.p1.cell (j := 1) rfl
  have f1 := H7.out.p1.frozen 1
  have hlen2 := o_len_grp H7.out
  have Hlen2 := Lib.hid hlen2
  have Hend := Lib.hid (histI (op := none) ((opnNI ((grsA_drop (N.length - 16) ((H7.out.p1.set 1 (.int .i64 (N.drop (N.length - 16)).length)).ord [2])).ord [1, 1, 0])).ord [1, 1, 1]))
  clear hlen2
  go_wp2_with (go_at_call 24; refine Hlen2.out.mono ?_; rintro e w' ⟨rfl, rfl⟩)
  go_ret
  exact ⟨rfl, by rw [← Hg'.out, Hcom.out]; have h := Hend.out; rw [List.length_drop] at h ⊢; exact h⟩
end
end Go.Proofs.Ytchgkdhhfbppbaa
