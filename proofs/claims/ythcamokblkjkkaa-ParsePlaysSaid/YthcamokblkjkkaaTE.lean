/- The document's pattern. -/
import Derived.Test.YthcamokblkjkkaaTD
namespace Go.Proofs.Ythcamokblkjkkaa
open Go Go.RowKit Go.Fol
attribute [local go_sem ↓] Go.wp_at_zero Go.wp_at_succ
attribute [local go_sem ↓] run_min2 run_max2
set_option linter.unusedVariables false
set_option linter.unusedSimpArgs false
section
variable {w0 w : World} {R : List Asrt}
theorem Owns.rowPre {e : TypeId} {k n cp q : Nat} {a : Option Addr} {xs : List Value} (H : Owns w0 w (Asrt.row e k (.slice a n cp) n xs :: R)) (hq : q ≤ n) : Owns w0 w (Asrt.row e k (.slice a q cp) q (xs.take (q * k)) :: R) :=
  H.step1 (fun F ⟨e1, h⟩ _ => by
    subst e1
    have ho : (Value.slice a q cp).ownBlock = (Value.slice a n cp).ownBlock := by cases a <;> rfl
    refine ⟨Chg.refl _ _, _, ⟨rfl, ?_⟩, fun b hb => .inl (by rw [ho] at hb; exact hb)⟩
    have hm := Nat.mul_le_mul_right k hq
    rcases row_form h with ⟨h0, h1, h2⟩ | ⟨g, cap, cur, e2, hg, hnc, hmx, hcs, htk, hxl⟩
    · subst h1
      obtain rfl : q = 0 := by omega
      cases h0
      subst h2
      rw [List.take_nil]
      exact World.ownsRow_nil _ _ _ _
    · cases e2
      exact ⟨by rw [List.length_take]; omega, .inr ⟨g, cp, cur, rfl, Nat.zero_le _, hg, by omega, hmx, hcs, by rw [← htk, List.take_take, Nat.min_eq_left hm]⟩⟩)
set_option maxHeartbeats 2000000 in
theorem tpattern {ka : Option Addr} {kc : Nat} {l : List Int} (c : Cm) (hb : bytesB l) (hl : l.length ≤ 100000) (H : Owns w0 w R) (hk : Reads w0 R 1 (.slice ka l.length kc) l.length (kints .u8 l)) :
    Calls Try.prog 52 #[.slice ka l.length kc, .agg c.cells] w (Ret (.tuple #[.int .i64 (patF c [] l).1, .agg (patF c [] l).2.cells]) w0 R) := by
  obtain ⟨rr, rc, hr⟩ : ∃ rr rc, patF c [] l = (rr, rc) := ⟨_, _, rfl⟩
  rw [hr]
  dsimp only
  have Hr := Lib.hid hr
  have Hk := Lib.hid hk
  have Hbb := Lib.hid hb
  clear hr hk hb
  obtain ⟨A, hA⟩ : ∃ A, A = w.heap.size := ⟨_, rfl⟩
  obtain ⟨B, hB⟩ : ∃ B, B = w.heap.size + 1 := ⟨_, rfl⟩
  have h1 := (H.alloc c.cells 33).alloc czero.cells 33
  rw [World.size_alloc, ← hB, ← hA] at h1
  obtain ⟨W1, hW1⟩ : ∃ W1, (w.alloc (.cells c.cells 33)).alloc (.cells czero.cells 33) = W1 := ⟨_, rfl⟩
  rw [hW1] at h1
  have HW1 := Lib.hid hW1
  have HA := Lib.hid hA
  have HB := Lib.hid hB
  have H1 := Lib.hid h1
  clear h1 hW1 hA hB H
  go_enter Try.func52, Try.ntmps52
  go_upto_region 1 with (fail)
  rw [show Obj.cells #[Value.int IntKind.u8 0, Value.int IntKind.i64 0, Value.string { data := #[] }, Value.string { data := #[] }, Value.int IntKind.u8 0, Value.string { data := #[] }] 33 = Obj.cells czero.cells 33 from rfl, HW1.out, ← HB.out, ← HA.out]
  clear HW1 HA HB
  go_wp2_with fail
  go_loopg [6, 7] l.length (fun gk bv q wr => ∃ (i : Nat) (bl : List Int), gk + i = l.length ∧ q = .int .i64 i ∧ bl.length ≤ 64 ∧ bytesB bl ∧ patF c bl (l.drop i) = (rr, rc) ∧ Owns w0 wr (row_byte bv bl.length (kints .u8 bl) :: cobj B czero :: cobj A c :: R))
  case atStart => exact ⟨0, [], rfl, rfl, by decide, by intro x hx; simp at hx, by rw [List.drop_zero]; exact Hr.out, H1.out.rowNil 5 1⟩
  case round =>
    obtain ⟨i, bl, hgi, rfl, hbl, hbb, hp, h2⟩ := hrel
    obtain ⟨ra, rk, rfl⟩ := row_slice h2.row
    have H2 := Lib.hid h2
    have Hbl := Lib.hid hbb
    clear h2 hbb Hr
    by_cases hlt : i < l.length
    · obtain ⟨x, hx⟩ : ∃ x, l[i]? = some x := ⟨_, List.getElem?_eq_getElem hlt⟩
      have hdr : l.drop i = x :: l.drop (i + 1) := by
        obtain ⟨h1, h2⟩ := List.getElem?_eq_some_iff.1 hx
        rw [List.drop_eq_getElem_cons h1, h2]
      obtain ⟨b, o, rfl, hlc, hx0, hx1, hke⟩ := byte_at Hbb.out hx Hk.out H2.out.drop.drop.drop
      have kx : wr.cell? ⟨b, o + i, none⟩ = some (.int .u8 x) := hke wr H2.out.drop.drop.drop
      rw [hdr, patF] at hp
      have hli : (i : Int) < (l.length : Int) := by omega
      have hcls : x = 13 ∨ x = 27 ∨ x = 10 ∨ (x = 8 ∧ bl.length = 0) ∨ (x = 8 ∧ 0 < bl.length) ∨ (x = 127 ∧ bl.length = 0) ∨ (x = 127 ∧ 0 < bl.length) ∨ ((x == 13) = false ∧ (x == 27) = false ∧ (x == 10) = false ∧ (x == 8) = false ∧ (x == 127) = false) := by
        simp only [beq_eq_false_iff_ne]
        omega
      clear hke hx hdr hlt
      rcases hcls with rfl | rfl | rfl | ⟨rfl, h0⟩ | ⟨rfl, h0⟩ | ⟨rfl, h0⟩ | ⟨rfl, h0⟩ | ⟨e13, e27, e10, e8, e127⟩
      · obtain ⟨rfl, rfl⟩ : rr = 1 ∧ rc = { c with text := bsOf bl } := by cases hp; exact ⟨rfl, rfl⟩
        have hcv := conv_src Hbl.out (W := wr) (SrcV.of_row H2.out.row)
        have z5 : wr.cell? ⟨A, 5, none⟩ = some (.string c.text) := H2.out.p2.cell (j := 5) rfl
        have y5 : wr.frozen? ⟨A, 5, none⟩ = false := H2.out.p2.frozen 5
        have H3 := Lib.hid ((Owns.cput H2.out.p2 { c with text := bsOf bl } 5 (.string (bsOf bl)) rfl).p2)
        clear hp H2 hbl Hbl
        go_wp2_with fail
        obtain ⟨z0, z1, z2, z3, z4, z5⟩ := ccells H3.out.p1
        obtain ⟨q0, q1, q2, q3, q4, q5⟩ := ccells H3.out
        obtain ⟨t0, t1, t2, t3, t4, t5⟩ := cfrozen H3.out
        go_wp2_with fail
        go_region
        all_goals
          go_wp2_with fail
          obtain ⟨u0, u1, u2, u3, u4, u5⟩ := csetu H3.out { c with text := bsOf bl }
          exact bodyPost_ret (v := .tuple #[.int .i64 1, .agg ({ c with text := bsOf bl }).cells]) (by simp at u0 u1 u2 u3 u4 u5; simp [results, Try.results52, go_sem, u0, u1, u2, u3, u4, u5]) rfl ⟨rfl, (Owns.cset H3.out { c with text := bsOf bl }).drew.drop.drop.drop⟩
      · obtain ⟨rfl, rfl⟩ : rr = 2 ∧ rc = czero := by cases hp; exact ⟨rfl, rfl⟩
        have H3 := Lib.hid H2.out.p1
        clear hp H2 hbl Hbl
        go_wp2_with fail
        refine (tbell H3.out).mono ?_
        rintro e w9 ⟨rfl, h9⟩
        obtain ⟨q0, q1, q2, q3, q4, q5⟩ := ccells (h9)
        obtain ⟨t0, t1, t2, t3, t4, t5⟩ := cfrozen (h9)
        go_wp2_with fail
        obtain ⟨u0, u1, u2, u3, u4, u5⟩ := csetu (h9) czero
        exact bodyPost_ret (v := .tuple #[.int .i64 2, .agg (czero).cells]) (by (try simp [czero] at u0 u1 u2 u3 u4 u5); simp [results, Try.results52, go_sem, czero, u0, u1, u2, u3, u4, u5]) rfl ⟨rfl, (Owns.cset (h9) czero).drop.drop.drop⟩
      · obtain ⟨rfl, rfl⟩ : rr = 2 ∧ rc = czero := by cases hp; exact ⟨rfl, rfl⟩
        have H3 := Lib.hid H2.out.p1
        clear hp H2 hbl Hbl
        go_wp2_with fail
        refine (tbell H3.out).mono ?_
        rintro e w9 ⟨rfl, h9⟩
        obtain ⟨q0, q1, q2, q3, q4, q5⟩ := ccells (h9)
        obtain ⟨t0, t1, t2, t3, t4, t5⟩ := cfrozen (h9)
        go_wp2_with fail
        obtain ⟨u0, u1, u2, u3, u4, u5⟩ := csetu (h9) czero
        exact bodyPost_ret (v := .tuple #[.int .i64 2, .agg (czero).cells]) (by (try simp [czero] at u0 u1 u2 u3 u4 u5); simp [results, Try.results52, go_sem, czero, u0, u1, u2, u3, u4, u5]) rfl ⟨rfl, (Owns.cset (h9) czero).drop.drop.drop⟩
      · have h0' : ((bl.length : Int) == 0) = true := by rw [h0]; rfl
        obtain ⟨rfl, rfl⟩ : rr = 2 ∧ rc = czero := by have hp' : (if bl.length = 0 then ((2 : Int), czero) else patF c (bl.take (bl.length - 1)) (l.drop (i + 1))) = (rr, rc) := hp; rw [if_pos h0] at hp'; cases hp'; exact ⟨rfl, rfl⟩
        have H3 := Lib.hid H2.out.p1
        clear hp h0 H2 hbl Hbl
        go_wp2_with fail
        refine (tbell H3.out).mono ?_
        rintro e w9 ⟨rfl, h9⟩
        obtain ⟨q0, q1, q2, q3, q4, q5⟩ := ccells (h9)
        obtain ⟨t0, t1, t2, t3, t4, t5⟩ := cfrozen (h9)
        go_wp2_with fail
        obtain ⟨u0, u1, u2, u3, u4, u5⟩ := csetu (h9) czero
        exact bodyPost_ret (v := .tuple #[.int .i64 2, .agg (czero).cells]) (by (try simp [czero] at u0 u1 u2 u3 u4 u5); simp [results, Try.results52, go_sem, czero, u0, u1, u2, u3, u4, u5]) rfl ⟨rfl, (Owns.cset (h9) czero).drop.drop.drop⟩
      · have hp2 : patF c (bl.take (bl.length - 1)) (l.drop (i + 1)) = (rr, rc) := by
          rw [← hp]
          show _ = if bl.length = 0 then _ else _
          rw [if_neg (by omega)]
        have h3 := Owns.rowPre H2.out (q := bl.length - 1) (by omega)
        rw [Nat.mul_one] at h3
        have h3' : Owns w0 wr (row_byte (.slice ra (bl.length - 1) rk) (bl.take (bl.length - 1)).length (kints .u8 (bl.take (bl.length - 1))) :: cobj B czero :: cobj A c :: R) := by
          rw [show (bl.take (bl.length - 1)).length = bl.length - 1 by simp, show kints .u8 (bl.take (bl.length - 1)) = (kints .u8 bl).take (bl.length - 1) by simp [kints, List.map_take]]
          exact h3
        have hcap : bl.length ≤ rk := (SrcV.of_row H2.out.row).cap
        obtain ⟨m, hm⟩ : ∃ m, bl.length = m + 1 := ⟨bl.length - 1, by omega⟩
        have hbb3 : bytesB (bl.take (bl.length - 1)) := fun x hx => Hbl.out x (List.mem_of_mem_take hx)
        rw [hm, Nat.add_sub_cancel] at hp2 h3' hbb3
        rw [hm] at hcap hbl ⊢
        have Hm := Lib.hid hm
        have Hp2 := Lib.hid hp2
        have H3 := Lib.hid h3'
        have Hbb3 := Lib.hid hbb3
        have hm0 : ((m : Int) + 1 == 0) = false := by rw [beq_eq_false_iff_ne]; omega
        clear hp H2 Hbl hp2 h3 h3' hbb3 hm h0
        go_wp2_with fail
        go_roundg (gk - 1)
        case measure => omega
        case rel => exact ⟨i + 1, bl.take m, by omega, by go_num, by simp; omega, Hbb3.out, Hp2.out, H3.out⟩
      · have h0' : ((bl.length : Int) == 0) = true := by rw [h0]; rfl
        obtain ⟨rfl, rfl⟩ : rr = 2 ∧ rc = czero := by have hp' : (if bl.length = 0 then ((2 : Int), czero) else patF c (bl.take (bl.length - 1)) (l.drop (i + 1))) = (rr, rc) := hp; rw [if_pos h0] at hp'; cases hp'; exact ⟨rfl, rfl⟩
        have H3 := Lib.hid H2.out.p1
        clear hp h0 H2 hbl Hbl
        go_wp2_with fail
        refine (tbell H3.out).mono ?_
        rintro e w9 ⟨rfl, h9⟩
        obtain ⟨q0, q1, q2, q3, q4, q5⟩ := ccells (h9)
        obtain ⟨t0, t1, t2, t3, t4, t5⟩ := cfrozen (h9)
        go_wp2_with fail
        obtain ⟨u0, u1, u2, u3, u4, u5⟩ := csetu (h9) czero
        exact bodyPost_ret (v := .tuple #[.int .i64 2, .agg (czero).cells]) (by (try simp [czero] at u0 u1 u2 u3 u4 u5); simp [results, Try.results52, go_sem, czero, u0, u1, u2, u3, u4, u5]) rfl ⟨rfl, (Owns.cset (h9) czero).drop.drop.drop⟩
      · have hp2 : patF c (bl.take (bl.length - 1)) (l.drop (i + 1)) = (rr, rc) := by
          rw [← hp]
          show _ = if bl.length = 0 then _ else _
          rw [if_neg (by omega)]
        have h3 := Owns.rowPre H2.out (q := bl.length - 1) (by omega)
        rw [Nat.mul_one] at h3
        have h3' : Owns w0 wr (row_byte (.slice ra (bl.length - 1) rk) (bl.take (bl.length - 1)).length (kints .u8 (bl.take (bl.length - 1))) :: cobj B czero :: cobj A c :: R) := by
          rw [show (bl.take (bl.length - 1)).length = bl.length - 1 by simp, show kints .u8 (bl.take (bl.length - 1)) = (kints .u8 bl).take (bl.length - 1) by simp [kints, List.map_take]]
          exact h3
        have hcap : bl.length ≤ rk := (SrcV.of_row H2.out.row).cap
        obtain ⟨m, hm⟩ : ∃ m, bl.length = m + 1 := ⟨bl.length - 1, by omega⟩
        have hbb3 : bytesB (bl.take (bl.length - 1)) := fun x hx => Hbl.out x (List.mem_of_mem_take hx)
        rw [hm, Nat.add_sub_cancel] at hp2 h3' hbb3
        rw [hm] at hcap hbl ⊢
        have Hm := Lib.hid hm
        have Hp2 := Lib.hid hp2
        have H3 := Lib.hid h3'
        have Hbb3 := Lib.hid hbb3
        have hm0 : ((m : Int) + 1 == 0) = false := by rw [beq_eq_false_iff_ne]; omega
        clear hp H2 Hbl hp2 h3 h3' hbb3 hm h0
        go_wp2_with fail
        go_roundg (gk - 1)
        case measure => omega
        case rel => exact ⟨i + 1, bl.take m, by omega, by go_num, by simp; omega, Hbb3.out, Hp2.out, H3.out⟩
      · simp only [e13, e27, e10, e8, e127, Bool.or_self, if_false, Bool.false_eq_true] at hp
        have h3 := (H2.out.alloc #[.int .u8 x] 5).p1
        obtain ⟨v3, w3, hrun, h4⟩ := app_byte (x := .slice (some ⟨wr.heap.size, 0, none⟩) 1 1) (m := 1) (vs := [.int .u8 x]) h3 (Reads.obj (b := wr.heap.size) (k := 1) (n := 1) (t := 5) (f := (0, 0)) (cs := #[.int .u8 x]) (by simp) (by decide) (by decide) (by simp)) (by simp [Value.oneCell']) (by unfold maxLen; omega) (by omega)
        have h5 : Owns w0 w3 (row_byte v3 (bl ++ [x]).length (kints .u8 (bl ++ [x])) :: cobj B czero :: cobj A c :: R) := by
          rw [kints_append, List.length_append]
          exact h4.p1.drop
        obtain ⟨ra3, rk3, rfl⟩ := row_slice h5.row
        have hbb5 : bytesB (bl ++ [x]) := by
          intro y hy
          rcases List.mem_append.1 hy with h | h
          · exact Hbl.out y h
          · simp at h; subst h; exact ⟨hx0, hx1⟩
        have hlen : (bl ++ [x]).length = bl.length + 1 := by simp
        obtain ⟨bl2, hbl2⟩ : ∃ y, y = bl ++ [x] := ⟨_, rfl⟩
        rw [← hbl2] at hp h5 hbb5 hrun hlen
        have H5 := Lib.hid h5
        have Hbb5 := Lib.hid hbb5
        rw [hlen] at hrun
        by_cases h64 : bl.length = 64
        · obtain ⟨rfl, rfl⟩ : rr = 2 ∧ rc = czero := by rw [if_pos (by omega)] at hp; cases hp; exact ⟨rfl, rfl⟩
          have h64' : (64 : Int) < (bl.length : Int) + 1 := by omega
          have H3 := Lib.hid H5.out.p1
          have Hlen := Lib.hid hlen
          clear hp h3 h4 h5 H2 hbl Hbl hbl2 hbb5 h64 hlen
          go_wp2_with (at_builtin; refine Lib.wpList_append_run _ rfl _ _ _ _ rfl _ _ rfl rfl _ _ (hrun _) ?_)
          refine (tbell H3.out).mono ?_
          rintro e w9 ⟨rfl, h9⟩
          obtain ⟨q0, q1, q2, q3, q4, q5⟩ := ccells (h9)
          obtain ⟨t0, t1, t2, t3, t4, t5⟩ := cfrozen (h9)
          go_wp2_with fail
          obtain ⟨u0, u1, u2, u3, u4, u5⟩ := csetu (h9) czero
          exact bodyPost_ret (v := .tuple #[.int .i64 2, .agg (czero).cells]) (by (try simp [czero] at u0 u1 u2 u3 u4 u5); simp [results, Try.results52, go_sem, czero, u0, u1, u2, u3, u4, u5]) rfl ⟨rfl, (Owns.cset (h9) czero).drop.drop.drop⟩
        · rw [if_neg (by omega)] at hp
          have Hp := Lib.hid hp
          have h64' : ¬ ((64 : Int) < (bl.length : Int) + 1) := by omega
          have Hlen := Lib.hid hlen
          clear hp h3 h4 h5 H2 Hbl hbl2 hbb5 hlen
          go_wp2_with (at_builtin; refine Lib.wpList_append_run _ rfl _ _ _ _ rfl _ _ rfl rfl _ _ (hrun _) ?_)
          go_roundg (gk - 1)
          case measure => omega
          case rel => exact ⟨i + 1, bl2, by omega, by go_num, by rw [Hlen.out]; omega, Hbb5.out, Hp.out, by rw [← Hlen.out] at *; exact H5.out⟩
    · obtain rfl : i = l.length := by omega
      obtain ⟨rfl, rfl⟩ : rr = 0 ∧ rc = czero := by rw [List.drop_eq_nil_of_le (Nat.le_refl _)] at hp; cases hp; exact ⟨rfl, rfl⟩
      have H3 := Lib.hid H2.out.p1
      clear hp H2 hbl Hbl
      go_wp2_with fail
      refine (twait H3.out).mono ?_
      rintro e w9 ⟨rfl, h9⟩
      obtain ⟨q0, q1, q2, q3, q4, q5⟩ := ccells (h9)
      obtain ⟨t0, t1, t2, t3, t4, t5⟩ := cfrozen (h9)
      go_wp2_with fail
      obtain ⟨u0, u1, u2, u3, u4, u5⟩ := csetu (h9) czero
      exact bodyPost_ret (v := .tuple #[.int .i64 0, .agg (czero).cells]) (by (try simp [czero] at u0 u1 u2 u3 u4 u5); simp [results, Try.results52, go_sem, czero, u0, u1, u2, u3, u4, u5]) rfl ⟨rfl, (Owns.cset (h9) czero).drop.drop.drop⟩
end
end Go.Proofs.Ythcamokblkjkkaa
