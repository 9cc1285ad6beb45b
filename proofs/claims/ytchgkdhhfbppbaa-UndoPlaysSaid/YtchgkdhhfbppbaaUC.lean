/- undo: clone of changes. -/
import Derived.Test.YtchgkdhhfbppbaaUK
namespace Go.Proofs.Ytchgkdhhfbppbaa
open Go Go.RowKit Go.Fol
attribute [local go_sem ↓] Go.wp_at_zero Go.wp_at_succ
set_option linter.unusedVariables false
set_option linter.unusedSimpArgs false
section
variable {w0 w : World} {R : List Asrt}
theorem chs_snoc (L : List Ch) (c : Ch) : chs L ++ [.int .i64 c.at_, c.ov, c.nv] = chs (L ++ [c]) := by rw [chs, chs, flat_append, flat_one]; rfl
theorem dat_take {L : List Ch} {i : Nat} {c : Ch} (h : L[i]? = some c) : datL (L.take i) ++ [c.dat] = datL (L.take (i + 1)) := by
  obtain ⟨h1, h2⟩ := List.getElem?_eq_some_iff.1 h
  rw [List.take_succ_eq_append_getElem h1, h2]
  simp
/-- Two rows of strings, as a change's. -/
theorem chA_of {a1 a2 : Option Addr} {c1 c2 : Nat} {x : Int} {old new : List ByteArray} (H : Owns w0 w (row_str (.slice a1 old.length c1) old.length (strs old) :: row_str (.slice a2 new.length c2) new.length (strs new) :: R)) :
    Owns w0 w (chA ⟨x, a1, c1, a2, c2, old, new⟩ :: R) :=
  Owns.allI (L := [_, _]) ((H.srcOfRow (by decide)).p1.srcOfRow (by decide)).p1
set_option maxHeartbeats 2000000 in
theorem uclone {v : Value} {L : List Ch} (H : Owns w0 w R) (h : ChRd w0 R v L) (hok : OkL (datL L)) (hl : L.length ≤ 100000) :
    Calls Try.prog 22 #[v] w (RetX (fun x : Value × List Ch => x.1) w0 (fun x => Asrt.pure (datL x.2 = datL L) :: row_chg x.1 x.2.length (chs x.2) :: chsA x.2 :: R)) := by
  obtain ⟨la, lc, rfl⟩ := (h.row w H).form
  have hn63 := (h.row w H).n63
  have hrd := h.row
  obtain ⟨n, hn⟩ : ∃ n, n = L.length := ⟨_, rfl⟩
  rw [← hn] at hrd hn63 hl ⊢
  have HH := Lib.hid H
  have Hc := Lib.hid h
  have Hrd := Lib.hid hrd
  have Hn := Lib.hid hn
  have Hok := Lib.hid hok
  clear H h hn hrd hok
  go_enter Try.func22, Try.ntmps22
  go_wp2_with fail
  go_loopw [3, 8] (fun ov q wr => ∃ (i : Nat) (M : List Ch), i ≤ n ∧ q = .int .i64 i ∧ datL M = datL (L.take i) ∧ Owns w0 wr (row_chg ov M.length (chs M) :: chsA M :: R)) (fun _ q _ => n - (intOf q).toNat)
  case atStart => exact ⟨0, [], Nat.zero_le _, rfl, rfl, (chsA_nil HH.out).rowNil 49 3⟩
  case round =>
    obtain ⟨i, M, hi, rfl, hM, hr⟩ := hrel
    obtain ⟨oa, oc, rfl⟩ := row_slice hr.row
    have HM := Lib.hid hM
    have Hr := Lib.hid hr
    by_cases hlt : i < n
    · obtain ⟨ab, ao, ac', e1, hac, _, hace⟩ := (Hrd.out wr (hr.drop.drop)).cells (by omega) (by decide)
      cases e1
      obtain ⟨c, hga⟩ : ∃ c, L[i]? = some c := ⟨_, List.getElem?_eq_getElem (by have := Hn.out; omega)⟩
      have ca0 := hace _ _ (chs_get hga).1
      have ca1 := hace _ _ (chs_get hga).2.1
      have ca2 := hace _ _ (chs_get hga).2.2
      rw [← Nat.add_assoc] at ca1 ca2
      have hml : M.length = i := by have := congrArg List.length hM; simp at this; have := Hn.out; omega
      have hdt : datL (M ++ [c]) = datL (L.take (i + 1)) := by rw [← dat_take hga, ← hM]; simp
      have hco := Hok.out c.dat (List.mem_map.2 ⟨c, List.mem_of_getElem? hga, rfl⟩)
      obtain ⟨hco1, hco2⟩ := hco
      have ho := Hc.out.olds c (List.mem_of_getElem? hga)
      have hw := Hc.out.news c (List.mem_of_getElem? hga)
      obtain ⟨at_, co, cc, no, nc, old, new⟩ := c
      dsimp only [Ch.ov, Ch.nv, Ch.dat] at *
      have h1 := (hr.alloc #[.int .i64 at_, .slice co old.length cc, .slice no new.length nc] 49).drew
      have s0 := h1.cell (j := 0) rfl
      have s1 := h1.cell (j := 1) rfl
      have s2 := h1.cell (j := 2) rfl
      have c1 := o_clone_str (.slice co old.length cc) old.length (strs old) h1 ho.cons.cons.cons (strs_one _) hco1
      have C1 := Lib.hid c1
      have Hw := Lib.hid hw
      have Hdt := Lib.hid hdt
      have Hml := Lib.hid hml
      clear hace h1 c1 ho hw hdt hml hga hM hr
      go_wp2_with fail
      go_region_held3 (fun w' => w'.cell? ⟨wr.heap.size, 0, none⟩ = some (.int .i64 at_) ∧ w'.cell? ⟨wr.heap.size, 1, none⟩ = some (.slice co old.length cc) ∧ w'.cell? ⟨wr.heap.size, 2, none⟩ = some (.slice no new.length nc)) (first | exact ⟨s0, s1, s2⟩ | exact ⟨p0, p1, p2⟩ | exact ⟨q0, q1, q2⟩ | exact ⟨r0, r1, r2⟩ | exact ⟨u0, u1, u2⟩)
        (first
          | (go_at_call 30; refine C1.out.mono ?_; rintro e w1 ⟨v1, rfl, h2⟩; obtain ⟨a1, k1, rfl⟩ := row_slice h2.row; have p0 := h2.p1.cell (j := 0) rfl; have p1 := h2.p1.cell (j := 1) rfl; have p2 := h2.p1.cell (j := 2) rfl; have H2 := Lib.hid h2; clear h2 C1)
          | (go_at_call 30; refine (o_clone_str (.slice no new.length nc) new.length (strs new) H2.out Hw.out.cons.cons.cons.cons (strs_one _) hco2).mono ?_; rintro e w2 ⟨v2, rfl, h3⟩; obtain ⟨a2, k2, rfl⟩ := row_slice h3.row; have q0 := h3.p2.cell (j := 0) rfl; have q1 := h3.p2.cell (j := 1) rfl; have q2 := h3.p2.cell (j := 2) rfl; have h4 := (h3.alloc #[.int .i64 at_, .slice a1 old.length k1, .slice a2 new.length k2] 49); have r0 := h4.p3.cell (j := 0) rfl; have r1 := h4.p3.cell (j := 1) rfl; have r2 := h4.p3.cell (j := 2) rfl; obtain ⟨s', w5, hrn, h5⟩ := app_chg (x := .slice (some ⟨w2.heap.size, 0, none⟩) 1 1) (m := 1) (vs := [.int .i64 at_, .slice a1 old.length k1, .slice a2 new.length k2]) h4.p4 (Reads.obj (b := w2.heap.size) (k := 3) (n := 1) (t := 49) (f := (0, 0)) (cs := #[.int .i64 at_, .slice a1 old.length k1, .slice a2 new.length k2]) List.mem_cons_self (by decide) (by decide) (by simp)) (by simp [Value.oneCell']) (by unfold maxLen; have := Hml.out; omega) (by have := Hml.out; omega); have u0 := h5.p4.cell (j := 0) rfl; have u1 := h5.p4.cell (j := 1) rfl; have u2 := h5.p4.cell (j := 2) rfl; obtain ⟨sa, sc, rfl⟩ := row_slice h5.row; have H5 := Lib.hid h5; clear h3 h4 h5 H2)
          | refine step_append_known rfl _ _ 30 30 rfl _ _ (by simp [Act.eval, Act.put]) (by simp [Act.eval, Act.put]) (hrn 30) ?_)
      have h6 := chsA_snoc (chA_of (x := at_) ((H5.out.ord [1, 3, 2, 1, 1, 0]).drop.drop))
      have h7 := h6.p1
      rw [show chs M ++ [.int .i64 at_, .slice a1 old.length k1, .slice a2 new.length k2] = chs (M ++ [⟨at_, a1, k1, a2, k2, old, new⟩]) from chs_snoc M ⟨at_, a1, k1, a2, k2, old, new⟩] at h7
      have H7 := Lib.hid h7
      clear h6 h7 H5 s0 s1 s2 p0 p1 p2 q0 q1 q2 r0 r1 r2 u0 u1 u2
      go_wp2
      go_roundw
      case rel => exact ⟨i + 1, M ++ [⟨at_, a1, k1, a2, k2, old, new⟩], by omega, by go_num, by rw [← Hdt.out]; simp [Ch.dat], by rw [List.length_append]; exact H7.out⟩
      case measure => simp [intOf]; omega
    · obtain rfl : i = n := by omega
      go_wp2
      go_ret
      refine ⟨(_, M), rfl, Hr.out.pureI ?_⟩
      rw [HM.out, List.take_of_length_le (by have := Hn.out; omega)]
end
end Go.Proofs.Ytchgkdhhfbppbaa
