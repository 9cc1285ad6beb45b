/- undo: Redo. -/
import Derived.Test.YtchgkdhhfbppbaaUU
namespace Go.Proofs.Ytchgkdhhfbppbaa
open Go Go.RowKit Go.Fol
attribute [local go_sem ↓] Go.wp_at_zero Go.wp_at_succ
set_option linter.unusedVariables false
set_option linter.unusedSimpArgs false
section
variable {w0 w : World} {R : List Asrt}
set_option maxHeartbeats 1000000 in
theorem uredo {p : Nat} {G : List Gr} {done : Nat} {g : Gr} (H : Owns w0 w (Asrt.hist p G done none :: R)) (hg : G[done]? = some g) (hl : G.length ≤ 16) (hok : OkL (datL g.L)) (hgl : g.L.length ≤ 100000) :
    Calls Try.prog 17 #[.pointer (some ⟨p, 0, none⟩)] w (RetX (fun x : Value × List Ch => .tuple #[x.1, .agg #[.int .i64 g.tl, .int .i64 g.tc], .bool true]) w0 (fun x => Asrt.pure (datL x.2 = datL g.L) :: row_chg x.1 x.2.length (chs x.2) :: chsA x.2 :: Asrt.hist p G (done + 1) none :: R)) := by
  obtain ⟨v, ov, h⟩ := histE H
  obtain ⟨rfl, h⟩ := opnN (h.ord [3])
  obtain ⟨W1, hW1⟩ : ∃ W1, W1 = w.alloc (.cells #[.int .i64 0, .int .i64 0] 29) := ⟨_, rfl⟩
  obtain ⟨B, hB⟩ : ∃ B, B = w.heap.size := ⟨_, rfl⟩
  have h1 := h.alloc #[.int .i64 0, .int .i64 0] 29
  rw [← hW1, ← hB] at h1
  have s0 : W1.cell? ⟨p, 0, none⟩ = some (.pointer (some ⟨v, 0, none⟩)) := h1.p1.cell (j := 0) rfl
  have s1 : W1.cell? ⟨p, 1, none⟩ = some (.int .i64 (done : Int)) := h1.p1.cell (j := 1) rfl
  have hdn : done < G.length := (List.getElem?_eq_some_iff.1 hg).1
  have Hg := Lib.hid hg
  have Hok := Lib.hid hok
  have H1 := Lib.hid h1
  have HW1 := Lib.hid hW1
  have HB := Lib.hid hB
  clear H h h1 hW1 hB hg hok
  go_enter Try.func17, Try.ntmps17
  go_upto_region 1 with (fail)
  rw [← HW1.out, ← HB.out]
  obtain ⟨C, hC⟩ : ∃ C, W1.heap.size = C := ⟨_, rfl⟩
  have h1b := (H1.out.alloc #[.int .i64 0, .int .i64 0, .int .i64 0, .int .i64 0, .slice none 0 0] 56).drew.p3
  rw [hC] at h1b
  have hx : at_grp (grs G) done g.fl g.fc g.tl g.tc g.ga g.L.length g.gc := grs_get Hg.out
  have hat1 := o_at_grp done g.fl g.fc g.tl g.tc g.ga g.L.length g.gc (H1.out.drew.p2) hdn hx
  have hat2 := o_at_grp done g.fl g.fc g.tl g.tc g.ga g.L.length g.gc h1b hdn hx
  replace hat2 : Calls Try.prog 26 #[.pointer (some ⟨v, 0, none⟩), .int .i64 (done)] (W1.alloc (Obj.cells #[.int .i64 0, .int .i64 0, .int .i64 0, .int .i64 0, .slice none 0 0] 56)).drew _ := hat2
  have Hat1 := Lib.hid hat1
  have Hat2 := Lib.hid hat2
  have hsub : IntKind.i64.wrap ((done : Int) + 1 - 1) = (done : Int) := by rw [IntKind.wrap_i64]; omega
  have hsub2 : IntKind.i64.wrap (done : Int) = (done : Int) := by rw [IntKind.wrap_i64]; omega
  clear hat1 hat2 HW1 HB h1b hx
  go_cut [5, 6] (fun cv kv wx => kv = .bool true ∧ ∃ C : Nat, cv = .pointer (some ⟨C, 0, none⟩) ∧ Owns w0 wx (Asrt.obj C (.cells #[.int .i64 g.fl, .int .i64 g.fc, .int .i64 g.tl, .int .i64 g.tc, .slice g.ga g.L.length g.gc] 56 (0, 0)) :: grpvec v G :: Asrt.obj B (.cells #[.int .i64 0, .int .i64 0] 29 (0, 0)) :: hobj p v (done) none :: grsA G :: R))
  case first =>
    go_region_held3 (fun w' => w'.cell? ⟨p, 0, none⟩ = some (.pointer (some ⟨v, 0, none⟩)) ∧ w'.cell? ⟨p, 1, none⟩ = some (.int .i64 (done : Int))) (first | with_reducible exact ⟨t0, t1⟩ | with_reducible exact ⟨y0, y1⟩ | go_keep)
      (first
        | (go_at_call 26; (with_reducible refine Hat1.out.mono ?_); rintro e w2 ⟨rfl, h2⟩; have t0 : w2.cell? ⟨p, 0, none⟩ = some (.pointer (some ⟨v, 0, none⟩)) := h2.p2.cell (j := 0) rfl; have t1 : w2.cell? ⟨p, 1, none⟩ = some (.int .i64 (done : Int)) := h2.p2.cell (j := 1) rfl; have H2a := Lib.hid h2; clear h2)
        | (go_at_call 26; (with_reducible refine Hat2.out.mono ?_); rintro e w2 ⟨rfl, h2b⟩; have t0 : w2.cell? ⟨p, 0, none⟩ = some (.pointer (some ⟨v, 0, none⟩)) := h2b.p3.cell (j := 0) rfl; have t1 : w2.cell? ⟨p, 1, none⟩ = some (.int .i64 (done : Int)) := h2b.p3.cell (j := 1) rfl; have q0 : w2.cell? ⟨C, 0, none⟩ = some (.int .i64 0) := h2b.p1.cell (j := 0) rfl; have z0 : w2.frozen? ⟨C, 0, none⟩ = false := h2b.p1.frozen 0; have q1 : w2.cell? ⟨C, 1, none⟩ = some (.int .i64 0) := h2b.p1.cell (j := 1) rfl; have z1 : w2.frozen? ⟨C, 1, none⟩ = false := h2b.p1.frozen 1; have q2 : w2.cell? ⟨C, 2, none⟩ = some (.int .i64 0) := h2b.p1.cell (j := 2) rfl; have z2 : w2.frozen? ⟨C, 2, none⟩ = false := h2b.p1.frozen 2; have q3 : w2.cell? ⟨C, 3, none⟩ = some (.int .i64 0) := h2b.p1.cell (j := 3) rfl; have z3 : w2.frozen? ⟨C, 3, none⟩ = false := h2b.p1.frozen 3; have q4 : w2.cell? ⟨C, 4, none⟩ = some (.slice none 0 0) := h2b.p1.cell (j := 4) rfl; have z4 : w2.frozen? ⟨C, 4, none⟩ = false := h2b.p1.frozen 4; have h2c := (((((h2b.p1.set 0 (.int .i64 g.fl)).set 1 (.int .i64 g.fc)).set 2 (.int .i64 g.tl)).set 3 (.int .i64 g.tc)).set 4 (.slice g.ga g.L.length g.gc)); have y0 : (((((w2.setCell ⟨C, 0, none⟩ (.int .i64 g.fl)).setCell ⟨C, 1, none⟩ (.int .i64 g.fc)).setCell ⟨C, 2, none⟩ (.int .i64 g.tl)).setCell ⟨C, 3, none⟩ (.int .i64 g.tc)).setCell ⟨C, 4, none⟩ (.slice g.ga g.L.length g.gc)).cell? ⟨p, 0, none⟩ = some (.pointer (some ⟨v, 0, none⟩)) := h2c.p3.cell (j := 0) rfl; have y1 : (((((w2.setCell ⟨C, 0, none⟩ (.int .i64 g.fl)).setCell ⟨C, 1, none⟩ (.int .i64 g.fc)).setCell ⟨C, 2, none⟩ (.int .i64 g.tl)).setCell ⟨C, 3, none⟩ (.int .i64 g.tc)).setCell ⟨C, 4, none⟩ (.slice g.ga g.L.length g.gc)).cell? ⟨p, 1, none⟩ = some (.int .i64 (done : Int)) := h2c.p3.cell (j := 1) rfl; have H2c := Lib.hid h2c; clear h2c h2b))
    all_goals
      go_wp2_with fail
      go_meet
      first
        | exact ⟨rfl, _, rfl, H2c.out⟩
        | exact ⟨rfl, _, rfl, H2a.out.alloc #[.int .i64 g.fl, .int .i64 g.fc, .int .i64 g.tl, .int .i64 g.tc, .slice g.ga g.L.length g.gc] 56⟩
  case rest =>
  obtain ⟨rfl, C2, rfl, h2⟩ := hcut
  clear H1 s0 s1 Hat1 Hat2 hC
  obtain ⟨W2, rfl⟩ : ∃ W2, W2 = wc := ⟨_, rfl⟩
  have k2 : W2.cell? ⟨p, 2, none⟩ = some (.pointer none) := (h2.ord [3]).cell (j := 2) rfl
  have k1 : W2.cell? ⟨p, 1, none⟩ = some (.int .i64 (done : Int)) := (h2.ord [3]).cell (j := 1) rfl
  have f1 := (h2.ord [3]).frozen 1
  have h3 := (h2.ord [3]).set 1 (.int .i64 ((done : Int) + 1))
  obtain ⟨W3, hW3⟩ : ∃ W3, W2.setCell ⟨p, 1, none⟩ (.int .i64 ((done : Int) + 1)) = W3 := ⟨_, rfl⟩
  rw [hW3] at h3
  have H3 := Lib.hid h3
  have HW3 := Lib.hid hW3
  clear h2 h3 hW3
  go_upto_region 5 with (fail)
  rw [HW3.out]
  clear k1 k2 f1 HW3
  have h4 := all_pick grA Hg.out (H3.out.ord [4])
  have h5 := Owns.allE (L := [_, _]) h4
  have hci := uclone (v := g.lv) (L := g.L) h5.drew (ChRd.own (by simp) (by simp)) Hok.out hgl
  have c0 : W3.cell? ⟨C2, 2, none⟩ = some (.int .i64 g.tl) := (H3.out.ord [1]).cell (j := 2) rfl
  have c1 : W3.cell? ⟨C2, 3, none⟩ = some (.int .i64 g.tc) := (H3.out.ord [1]).cell (j := 3) rfl
  have c4 : W3.cell? ⟨C2, 4, none⟩ = some (.slice g.ga g.L.length g.gc) := (H3.out.ord [1]).cell (j := 4) rfl
  have Hci := Lib.hid hci
  clear hci h4 h5 H3
  go_region_held3 (fun w' => w'.cell? ⟨C2, 2, none⟩ = some (.int .i64 g.tl) ∧ w'.cell? ⟨C2, 3, none⟩ = some (.int .i64 g.tc) ∧ w'.cell? ⟨C2, 4, none⟩ = some (.slice g.ga g.L.length g.gc)) (first | with_reducible exact ⟨t0, t1, t2⟩ | with_reducible exact ⟨y0, y1, y2⟩ | go_keep)
    ((go_at_call 22; (with_reducible refine Hci.out.mono ?_); rintro e w4 ⟨⟨v4, M⟩, rfl, h6⟩; obtain ⟨hM, h6⟩ := h6.pureE; dsimp only at hM h6 ⊢; obtain ⟨va, vc, rfl⟩ := row_slice h6.row; have t0 : w4.cell? ⟨C2, 2, none⟩ = some (.int .i64 g.tl) := (h6.ord [6]).cell (j := 2) rfl; have t1 : w4.cell? ⟨C2, 3, none⟩ = some (.int .i64 g.tc) := (h6.ord [6]).cell (j := 3) rfl; have t2 : w4.cell? ⟨C2, 4, none⟩ = some (.slice g.ga g.L.length g.gc) := (h6.ord [6]).cell (j := 4) rfl; have b0 : w4.cell? ⟨B, 0, none⟩ = some (.int .i64 0) := (h6.ord [8]).cell (j := 0) rfl; have b1 : w4.cell? ⟨B, 1, none⟩ = some (.int .i64 0) := (h6.ord [8]).cell (j := 1) rfl; have z0 := (h6.ord [8]).frozen 0; have z1 := (h6.ord [8]).frozen 1; have h7 := ((h6.ord [8]).set 0 (.int .i64 g.tl)).set 1 (.int .i64 g.tc); have y0 : ((w4.setCell ⟨B, 0, none⟩ (.int .i64 g.tl)).setCell ⟨B, 1, none⟩ (.int .i64 g.tc)).cell? ⟨C2, 2, none⟩ = some (.int .i64 g.tl) := (h7.ord [7]).cell (j := 2) rfl; have y1 : ((w4.setCell ⟨B, 0, none⟩ (.int .i64 g.tl)).setCell ⟨B, 1, none⟩ (.int .i64 g.tc)).cell? ⟨C2, 3, none⟩ = some (.int .i64 g.tc) := (h7.ord [7]).cell (j := 3) rfl; have y2 : ((w4.setCell ⟨B, 0, none⟩ (.int .i64 g.tl)).setCell ⟨B, 1, none⟩ (.int .i64 g.tc)).cell? ⟨C2, 4, none⟩ = some (.slice g.ga g.L.length g.gc) := (h7.ord [7]).cell (j := 4) rfl; have u0 : ((w4.setCell ⟨B, 0, none⟩ (.int .i64 g.tl)).setCell ⟨B, 1, none⟩ (.int .i64 g.tc)).cell? ⟨B, 0, none⟩ = some (.int .i64 g.tl) := h7.cell (j := 0) rfl; have u1 : ((w4.setCell ⟨B, 0, none⟩ (.int .i64 g.tl)).setCell ⟨B, 1, none⟩ (.int .i64 g.tc)).cell? ⟨B, 1, none⟩ = some (.int .i64 g.tc) := h7.cell (j := 1) rfl; have H7 := Lib.hid h7; have HM := Lib.hid hM; clear h6 h7 hM))
  clear t0 t1 t2 b0 b1 z0 z1 y0 y1 y2 c0 c1 c4
  go_wp2_with fail
  have h10 := all_unpick grA Hg.out (Owns.allI (L := [_, _]) ((H7.out.ord [0, 6]).drop.drop.ord [2, 2]) |>.ord [0, 2])
  exact bodyPost_ret (v := .tuple #[.slice va M.length vc, .agg #[.int .i64 g.tl, .int .i64 g.tc], .bool true]) (by simp [results, Try.results17, go_sem, u0, u1]) rfl ⟨(.slice va M.length vc, M), rfl, ((histI ((opnNI h10).ord [4, 4, 1, 0])).ord [1, 1]).pureI HM.out⟩
set_option maxHeartbeats 1000000 in
theorem uredo_open {p : Nat} {G : List Gr} {done : Nat} {g g2 : Gr} (H : Owns w0 w (Asrt.hist p G done (some g2) :: R)) (hg : G[done]? = some g) (hl : G.length ≤ 16) :
    Calls Try.prog 17 #[.pointer (some ⟨p, 0, none⟩)] w (Ret (.tuple #[.slice none 0 0, .agg #[.int .i64 0, .int .i64 0], .bool false]) w0 (Asrt.hist p G (done) (some g2) :: R)) := by
  obtain ⟨v, ov, h⟩ := histE H
  obtain ⟨oo, rfl, _⟩ := opnS (h.ord [3])
  obtain ⟨W1, hW1⟩ : ∃ W1, W1 = w.alloc (.cells #[.int .i64 0, .int .i64 0] 29) := ⟨_, rfl⟩
  obtain ⟨B, hB⟩ : ∃ B, B = w.heap.size := ⟨_, rfl⟩
  have h1 := h.alloc #[.int .i64 0, .int .i64 0] 29
  rw [← hW1, ← hB] at h1
  have s0 : W1.cell? ⟨p, 0, none⟩ = some (.pointer (some ⟨v, 0, none⟩)) := h1.p1.cell (j := 0) rfl
  have s1 : W1.cell? ⟨p, 1, none⟩ = some (.int .i64 (done : Int)) := h1.p1.cell (j := 1) rfl
  have hdn : done < G.length := (List.getElem?_eq_some_iff.1 hg).1
  have Hg := Lib.hid hg
  have H1 := Lib.hid h1
  have HW1 := Lib.hid hW1
  have HB := Lib.hid hB
  clear H h h1 hW1 hB hg
  go_enter Try.func17, Try.ntmps17
  go_upto_region 1 with (fail)
  rw [← HW1.out, ← HB.out]
  obtain ⟨C, hC⟩ : ∃ C, W1.heap.size = C := ⟨_, rfl⟩
  have h1b := (H1.out.alloc #[.int .i64 0, .int .i64 0, .int .i64 0, .int .i64 0, .slice none 0 0] 56).drew.p3
  rw [hC] at h1b
  have hx : at_grp (grs G) done g.fl g.fc g.tl g.tc g.ga g.L.length g.gc := grs_get Hg.out
  have hat1 := o_at_grp done g.fl g.fc g.tl g.tc g.ga g.L.length g.gc (H1.out.drew.p2) hdn hx
  have hat2 := o_at_grp done g.fl g.fc g.tl g.tc g.ga g.L.length g.gc h1b hdn hx
  replace hat2 : Calls Try.prog 26 #[.pointer (some ⟨v, 0, none⟩), .int .i64 (done)] (W1.alloc (Obj.cells #[.int .i64 0, .int .i64 0, .int .i64 0, .int .i64 0, .slice none 0 0] 56)).drew _ := hat2
  have Hat1 := Lib.hid hat1
  have Hat2 := Lib.hid hat2
  have hsub : IntKind.i64.wrap ((done : Int) + 1 - 1) = (done : Int) := by rw [IntKind.wrap_i64]; omega
  have hsub2 : IntKind.i64.wrap (done : Int) = (done : Int) := by rw [IntKind.wrap_i64]; omega
  clear hat1 hat2 HW1 HB h1b hx
  go_cut [5, 6] (fun cv kv wx => kv = .bool true ∧ ∃ C : Nat, cv = .pointer (some ⟨C, 0, none⟩) ∧ Owns w0 wx (Asrt.obj C (.cells #[.int .i64 g.fl, .int .i64 g.fc, .int .i64 g.tl, .int .i64 g.tc, .slice g.ga g.L.length g.gc] 56 (0, 0)) :: grpvec v G :: Asrt.obj B (.cells #[.int .i64 0, .int .i64 0] 29 (0, 0)) :: hobj p v (done) (some ⟨oo, 0, none⟩) :: grsA G :: opnA (some ⟨oo, 0, none⟩) (some g2) :: R))
  case first =>
    go_region_held3 (fun w' => w'.cell? ⟨p, 0, none⟩ = some (.pointer (some ⟨v, 0, none⟩)) ∧ w'.cell? ⟨p, 1, none⟩ = some (.int .i64 (done : Int))) (first | with_reducible exact ⟨t0, t1⟩ | with_reducible exact ⟨y0, y1⟩ | go_keep)
      (first
        | (go_at_call 26; (with_reducible refine Hat1.out.mono ?_); rintro e w2 ⟨rfl, h2⟩; have t0 : w2.cell? ⟨p, 0, none⟩ = some (.pointer (some ⟨v, 0, none⟩)) := h2.p2.cell (j := 0) rfl; have t1 : w2.cell? ⟨p, 1, none⟩ = some (.int .i64 (done : Int)) := h2.p2.cell (j := 1) rfl; have H2a := Lib.hid h2; clear h2)
        | (go_at_call 26; (with_reducible refine Hat2.out.mono ?_); rintro e w2 ⟨rfl, h2b⟩; have t0 : w2.cell? ⟨p, 0, none⟩ = some (.pointer (some ⟨v, 0, none⟩)) := h2b.p3.cell (j := 0) rfl; have t1 : w2.cell? ⟨p, 1, none⟩ = some (.int .i64 (done : Int)) := h2b.p3.cell (j := 1) rfl; have q0 : w2.cell? ⟨C, 0, none⟩ = some (.int .i64 0) := h2b.p1.cell (j := 0) rfl; have z0 : w2.frozen? ⟨C, 0, none⟩ = false := h2b.p1.frozen 0; have q1 : w2.cell? ⟨C, 1, none⟩ = some (.int .i64 0) := h2b.p1.cell (j := 1) rfl; have z1 : w2.frozen? ⟨C, 1, none⟩ = false := h2b.p1.frozen 1; have q2 : w2.cell? ⟨C, 2, none⟩ = some (.int .i64 0) := h2b.p1.cell (j := 2) rfl; have z2 : w2.frozen? ⟨C, 2, none⟩ = false := h2b.p1.frozen 2; have q3 : w2.cell? ⟨C, 3, none⟩ = some (.int .i64 0) := h2b.p1.cell (j := 3) rfl; have z3 : w2.frozen? ⟨C, 3, none⟩ = false := h2b.p1.frozen 3; have q4 : w2.cell? ⟨C, 4, none⟩ = some (.slice none 0 0) := h2b.p1.cell (j := 4) rfl; have z4 : w2.frozen? ⟨C, 4, none⟩ = false := h2b.p1.frozen 4; have h2c := (((((h2b.p1.set 0 (.int .i64 g.fl)).set 1 (.int .i64 g.fc)).set 2 (.int .i64 g.tl)).set 3 (.int .i64 g.tc)).set 4 (.slice g.ga g.L.length g.gc)); have y0 : (((((w2.setCell ⟨C, 0, none⟩ (.int .i64 g.fl)).setCell ⟨C, 1, none⟩ (.int .i64 g.fc)).setCell ⟨C, 2, none⟩ (.int .i64 g.tl)).setCell ⟨C, 3, none⟩ (.int .i64 g.tc)).setCell ⟨C, 4, none⟩ (.slice g.ga g.L.length g.gc)).cell? ⟨p, 0, none⟩ = some (.pointer (some ⟨v, 0, none⟩)) := h2c.p3.cell (j := 0) rfl; have y1 : (((((w2.setCell ⟨C, 0, none⟩ (.int .i64 g.fl)).setCell ⟨C, 1, none⟩ (.int .i64 g.fc)).setCell ⟨C, 2, none⟩ (.int .i64 g.tl)).setCell ⟨C, 3, none⟩ (.int .i64 g.tc)).setCell ⟨C, 4, none⟩ (.slice g.ga g.L.length g.gc)).cell? ⟨p, 1, none⟩ = some (.int .i64 (done : Int)) := h2c.p3.cell (j := 1) rfl; have H2c := Lib.hid h2c; clear h2c h2b))
    all_goals
      go_wp2_with fail
      go_meet
      first
        | exact ⟨rfl, _, rfl, H2c.out⟩
        | exact ⟨rfl, _, rfl, H2a.out.alloc #[.int .i64 g.fl, .int .i64 g.fc, .int .i64 g.tl, .int .i64 g.tc, .slice g.ga g.L.length g.gc] 56⟩
  case rest =>
  obtain ⟨rfl, C2, rfl, h2⟩ := hcut
  clear H1 s0 s1 Hat1 Hat2 hC
  obtain ⟨W2, rfl⟩ : ∃ W2, W2 = wc := ⟨_, rfl⟩
  have k2 : W2.cell? ⟨p, 2, none⟩ = some (.pointer (some ⟨oo, 0, none⟩)) := (h2.ord [3]).cell (j := 2) rfl
  have b0 : W2.cell? ⟨B, 0, none⟩ = some (.int .i64 0) := (h2.ord [2]).cell (j := 0) rfl
  have b1 : W2.cell? ⟨B, 1, none⟩ = some (.int .i64 0) := (h2.ord [2]).cell (j := 1) rfl
  have z0 : W2.frozen? ⟨B, 0, none⟩ = false := (h2.ord [2]).frozen 0
  have z1 : W2.frozen? ⟨B, 1, none⟩ = false := (h2.ord [2]).frozen 1
  have h3 := ((h2.ord [2]).set 0 (.int .i64 0)).set 1 (.int .i64 0)
  have u0 : ((W2.setCell ⟨B, 0, none⟩ (.int .i64 0)).setCell ⟨B, 1, none⟩ (.int .i64 0)).cell? ⟨B, 0, none⟩ = some (.int .i64 0) := h3.cell (j := 0) rfl
  have u1 : ((W2.setCell ⟨B, 0, none⟩ (.int .i64 0)).setCell ⟨B, 1, none⟩ (.int .i64 0)).cell? ⟨B, 1, none⟩ = some (.int .i64 0) := h3.cell (j := 1) rfl
  have H4 := Lib.hid (histI (h3.drop.drop.p1))
  clear h2 h3
  go_wp2_with fail
  exact bodyPost_ret (v := .tuple #[.slice none 0 0, .agg #[.int .i64 0, .int .i64 0], .bool false]) (by simp [results, Try.results17, go_sem, u0, u1]) rfl ⟨rfl, H4.out⟩
set_option maxHeartbeats 1000000 in
theorem uredo_out {p : Nat} {G : List Gr} {op : Option Gr} (H : Owns w0 w (Asrt.hist p G G.length op :: R)) :
    Calls Try.prog 17 #[.pointer (some ⟨p, 0, none⟩)] w (Ret (.tuple #[.slice none 0 0, .agg #[.int .i64 0, .int .i64 0], .bool false]) w0 (Asrt.hist p G (G.length) op :: R)) := by
  obtain ⟨v, ov, h⟩ := histE H
  obtain ⟨W1, hW1⟩ : ∃ W1, W1 = w.alloc (.cells #[.int .i64 0, .int .i64 0] 29) := ⟨_, rfl⟩
  obtain ⟨B, hB⟩ : ∃ B, B = w.heap.size := ⟨_, rfl⟩
  have h1 := h.alloc #[.int .i64 0, .int .i64 0] 29
  rw [← hW1, ← hB] at h1
  have s0 : W1.cell? ⟨p, 0, none⟩ = some (.pointer (some ⟨v, 0, none⟩)) := h1.p1.cell (j := 0) rfl
  have s1 : W1.cell? ⟨p, 1, none⟩ = some (.int .i64 (G.length : Int)) := h1.p1.cell (j := 1) rfl
  have H1 := Lib.hid h1
  have HW1 := Lib.hid hW1
  have HB := Lib.hid hB
  clear H h h1 hW1 hB
  go_enter Try.func17, Try.ntmps17
  go_upto_region 1 with (fail)
  rw [← HW1.out, ← HB.out]
  obtain ⟨C, hC⟩ : ∃ C, W1.heap.size = C := ⟨_, rfl⟩
  have h1b := (H1.out.alloc #[.int .i64 0, .int .i64 0, .int .i64 0, .int .i64 0, .slice none 0 0] 56).drew.p3
  rw [hC] at h1b
  have hat1 := o_at_out_grp ((G.length : Int)) (H1.out.drew.p2) (by omega)
  have hat2 := o_at_out_grp ((G.length : Int)) h1b (by omega)
  replace hat2 : Calls Try.prog 26 #[.pointer (some ⟨v, 0, none⟩), .int .i64 ((G.length : Int))] (W1.alloc (Obj.cells #[.int .i64 0, .int .i64 0, .int .i64 0, .int .i64 0, .slice none 0 0] 56)).drew _ := hat2
  have Hat1 := Lib.hid hat1
  have Hat2 := Lib.hid hat2
  have hsub : IntKind.i64.wrap (-1) = -1 := by rw [IntKind.wrap_i64]; omega
  clear hat1 hat2 HW1 HB h1b
  go_cut [5, 6] (fun cv kv wx => kv = .bool false ∧ ∃ C : Nat, cv = .pointer (some ⟨C, 0, none⟩) ∧ Owns w0 wx (Asrt.obj C (.cells #[.int .i64 0, .int .i64 0, .int .i64 0, .int .i64 0, .slice none 0 0] 56 (0, 0)) :: grpvec v G :: Asrt.obj B (.cells #[.int .i64 0, .int .i64 0] 29 (0, 0)) :: hobj p v (G.length) ov :: grsA G :: opnA ov op :: R))
  case first =>
    go_region_held3 (fun w' => w'.cell? ⟨p, 0, none⟩ = some (.pointer (some ⟨v, 0, none⟩)) ∧ w'.cell? ⟨p, 1, none⟩ = some (.int .i64 (G.length : Int))) (first | with_reducible exact ⟨t0, t1⟩ | with_reducible exact ⟨y0, y1⟩ | go_keep)
      (first
        | (go_at_call 26; (with_reducible refine Hat1.out.mono ?_); rintro e w2 ⟨rfl, h2⟩; have t0 : w2.cell? ⟨p, 0, none⟩ = some (.pointer (some ⟨v, 0, none⟩)) := h2.p2.cell (j := 0) rfl; have t1 : w2.cell? ⟨p, 1, none⟩ = some (.int .i64 (G.length : Int)) := h2.p2.cell (j := 1) rfl; have H2a := Lib.hid h2; clear h2)
        | (go_at_call 26; (with_reducible refine Hat2.out.mono ?_); rintro e w2 ⟨rfl, h2b⟩; have t0 : w2.cell? ⟨p, 0, none⟩ = some (.pointer (some ⟨v, 0, none⟩)) := h2b.p3.cell (j := 0) rfl; have t1 : w2.cell? ⟨p, 1, none⟩ = some (.int .i64 (G.length : Int)) := h2b.p3.cell (j := 1) rfl; have q0 : w2.cell? ⟨C, 0, none⟩ = some (.int .i64 0) := h2b.p1.cell (j := 0) rfl; have z0 : w2.frozen? ⟨C, 0, none⟩ = false := h2b.p1.frozen 0; have q1 : w2.cell? ⟨C, 1, none⟩ = some (.int .i64 0) := h2b.p1.cell (j := 1) rfl; have z1 : w2.frozen? ⟨C, 1, none⟩ = false := h2b.p1.frozen 1; have q2 : w2.cell? ⟨C, 2, none⟩ = some (.int .i64 0) := h2b.p1.cell (j := 2) rfl; have z2 : w2.frozen? ⟨C, 2, none⟩ = false := h2b.p1.frozen 2; have q3 : w2.cell? ⟨C, 3, none⟩ = some (.int .i64 0) := h2b.p1.cell (j := 3) rfl; have z3 : w2.frozen? ⟨C, 3, none⟩ = false := h2b.p1.frozen 3; have q4 : w2.cell? ⟨C, 4, none⟩ = some (.slice none 0 0) := h2b.p1.cell (j := 4) rfl; have z4 : w2.frozen? ⟨C, 4, none⟩ = false := h2b.p1.frozen 4; have h2c := (((((h2b.p1.set 0 (.int .i64 0)).set 1 (.int .i64 0)).set 2 (.int .i64 0)).set 3 (.int .i64 0)).set 4 (.slice none 0 0)); have y0 : (((((w2.setCell ⟨C, 0, none⟩ (.int .i64 0)).setCell ⟨C, 1, none⟩ (.int .i64 0)).setCell ⟨C, 2, none⟩ (.int .i64 0)).setCell ⟨C, 3, none⟩ (.int .i64 0)).setCell ⟨C, 4, none⟩ (.slice none 0 0)).cell? ⟨p, 0, none⟩ = some (.pointer (some ⟨v, 0, none⟩)) := h2c.p3.cell (j := 0) rfl; have y1 : (((((w2.setCell ⟨C, 0, none⟩ (.int .i64 0)).setCell ⟨C, 1, none⟩ (.int .i64 0)).setCell ⟨C, 2, none⟩ (.int .i64 0)).setCell ⟨C, 3, none⟩ (.int .i64 0)).setCell ⟨C, 4, none⟩ (.slice none 0 0)).cell? ⟨p, 1, none⟩ = some (.int .i64 (G.length : Int)) := h2c.p3.cell (j := 1) rfl; have H2c := Lib.hid h2c; clear h2c h2b))
    all_goals
      go_wp2_with fail
      go_meet
      first
        | exact ⟨rfl, _, rfl, H2c.out⟩
        | exact ⟨rfl, _, rfl, H2a.out.alloc #[.int .i64 0, .int .i64 0, .int .i64 0, .int .i64 0, .slice none 0 0] 56⟩
  case rest =>
  obtain ⟨rfl, C2, rfl, h2⟩ := hcut
  clear H1 s0 s1 Hat1 Hat2 hC
  obtain ⟨W2, rfl⟩ : ∃ W2, W2 = wc := ⟨_, rfl⟩
  have b0 : W2.cell? ⟨B, 0, none⟩ = some (.int .i64 0) := (h2.ord [2]).cell (j := 0) rfl
  have b1 : W2.cell? ⟨B, 1, none⟩ = some (.int .i64 0) := (h2.ord [2]).cell (j := 1) rfl
  have z0 : W2.frozen? ⟨B, 0, none⟩ = false := (h2.ord [2]).frozen 0
  have z1 : W2.frozen? ⟨B, 1, none⟩ = false := (h2.ord [2]).frozen 1
  have h3 := ((h2.ord [2]).set 0 (.int .i64 0)).set 1 (.int .i64 0)
  have u0 : ((W2.setCell ⟨B, 0, none⟩ (.int .i64 0)).setCell ⟨B, 1, none⟩ (.int .i64 0)).cell? ⟨B, 0, none⟩ = some (.int .i64 0) := h3.cell (j := 0) rfl
  have u1 : ((W2.setCell ⟨B, 0, none⟩ (.int .i64 0)).setCell ⟨B, 1, none⟩ (.int .i64 0)).cell? ⟨B, 1, none⟩ = some (.int .i64 0) := h3.cell (j := 1) rfl
  have H4 := Lib.hid (histI (h3.drop.drop.p1))
  clear h2 h3
  go_wp2_with fail
  exact bodyPost_ret (v := .tuple #[.slice none 0 0, .agg #[.int .i64 0, .int .i64 0], .bool false]) (by simp [results, Try.results17, go_sem, u0, u1]) rfl ⟨rfl, H4.out⟩
end
end Go.Proofs.Ytchgkdhhfbppbaa
