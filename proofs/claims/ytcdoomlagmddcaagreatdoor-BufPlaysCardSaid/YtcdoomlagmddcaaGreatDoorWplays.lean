/- The law BufPlays on values that read. -/
import Derived.Test.YtcdoomlagmddcaaGreatDoorBL
import Derived.Deep.DeepCutAuto
import Derived.Deep.CutRange
namespace Go.Proofs.YtcdoomlagmddcaaGreatDoor
open Go Go.RowKit Go.Fol
attribute [local go_sem ↓] Go.wp_at_zero Go.wp_at_succ
set_option linter.unusedVariables false
set_option linter.unusedSimpArgs false
attribute [-go_sem] Go.Builtin.append_
set_option maxRecDepth 100000
theorem rd_strs {w : World} {t e : TypeId} {cs : List Value} (ht : Tryz.prog.underlying t = some (.slice e)) (he : Tryz.prog.underlying e = some .string) (hk : Tryz.prog.cellsOf e = 1) (h : Rd Tryz.prog w t cs) :
    ∃ (l : List ByteArray) (a : Option Addr) (c : Nat), cs = [.slice a l.length c] ∧ SrcV w 1 (.slice a l.length c) l.length (strs l) ∧ ∀ x ∈ l, x.size ≤ 140737488351232 := by
  obtain ⟨a, n, c, rfl, h1, h2, h3, h4, h5⟩ := rd_slice ht hk (by decide) h
  obtain ⟨xs, hs, hr⟩ := src_of_parts h2 h3 h1 h5
  have hex : ∀ ys : List Value, (∀ x ∈ ys, Rd Tryz.prog w e [x]) → ∃ l : List ByteArray, ys = strs l ∧ ∀ x ∈ l, x.size ≤ 140737488351232 := by
    intro ys
    induction ys with
    | nil => exact fun _ => ⟨[], rfl, by simp⟩
    | cons y ys ih =>
      intro hy
      obtain ⟨l, rfl, hl⟩ := ih (fun x hx => hy x (List.mem_cons_of_mem _ hx))
      obtain ⟨m, hm, hw⟩ := rd_string he (hy y (List.mem_cons_self ..))
      simp at hm
      subst hm
      exact ⟨m :: l, rfl, by simpa using ⟨hw, hl⟩⟩
  obtain ⟨l, rfl, hl⟩ := hex xs hr
  have := hs.len
  simp [strs_len] at this
  subst this
  exact ⟨l, a, c, rfl, hs, hl⟩
theorem act_of {w : World} {es : List Value} (hl : es.length = 3) (h : Rd Tryz.prog w 31 es) :
    ∃ (at_ m : Int) (N : Ls) (ka : Option Addr) (kc : Nat), es = [.int .i64 at_, .int .i64 m, .slice ka N.length kc] ∧ SrcV w 1 (.slice ka N.length kc) N.length (lstrs N) ∧ (∀ x ∈ N, x.length ≤ 140737488355328) := by
  obtain ⟨e0, e1, e2, rfl⟩ : ∃ e0 e1 e2, es = [e0, e1, e2] := by
    match es, hl with
    | [a, b, c], _ => exact ⟨a, b, c, rfl⟩
  have hs := (rd_struct Tryz.underlying31 h).2
  obtain ⟨a, ha, _⟩ := rd_int Tryz.underlying3 (hs 0 _ rfl)
  obtain ⟨n, hn, _⟩ := rd_int Tryz.underlying3 (hs 1 _ rfl)
  obtain ⟨l, ka, kc, hk, hs1, hw⟩ := rd_strs Tryz.underlying22 Tryz.underlying9 (by kernel_rfl) (hs 2 _ rfl)
  have ha : [e0] = [.int .i64 a] := ha
  have hn : [e1] = [.int .i64 n] := hn
  have hk : [e2] = [.slice ka l.length kc] := hk
  cases ha; cases hk; cases hn
  have e : (l.map (·.data.toList)).map bs = l := by
    rw [List.map_map]
    conv => rhs; rw [← List.map_id l]
    exact List.map_congr_left (fun x _ => (bs_of x).symm)
  have el : (l.map (·.data.toList)).length = l.length := by simp
  refine ⟨a, n, l.map (·.data.toList), ka, kc, by rw [el], ?_, fun x hx' => ?_⟩
  · rw [el, lstrs, e]; exact hs1
  · obtain ⟨y, hy, rfl⟩ := List.mem_map.1 hx'
    have := hw y hy
    have e2 : y.data.toList.length = y.size := Array.length_toList
    omega
section
variable {w0 w : World} {R : List Asrt}
theorem tnew2 {a : Option Addr} {n c : Nat} {L : Ls} (hn : n = L.length) (h : LightP L) (H : Owns w0 w R) (hk : RdL w0 R (.slice a n c) L) :
    ∃ V, BufI V ∧ V = (if L = [] then [[]] else L) ∧ Calls Tryz.prog 10 #[.slice a n c] w (RetX (fun p : Nat => .tuple #[.pointer (some ⟨p, 0, none⟩), .int .i64 0]) w0 (fun p => tbufA p (joinL V) 0 0 :: R)) := by
  by_cases h0 : L = []
  · subst h0
    obtain rfl : n = 0 := hn
    refine ⟨[[]], ⟨by simp, rfl, by decide⟩, rfl, ?_⟩
    rw [joinL_one]
    exact tnew_nil H
  · exact ⟨L, h.buf h0, by rw [if_neg h0], tnew hn (h.buf h0) H hk⟩
theorem rdl_own {a : Option Addr} {n c : Nat} {V : Ls} (hn : n = V.length) (h : row_str (.slice a n c) n (lstrs V) ∈ R) : RdL w0 R (.slice a n c) V := by subst hn; exact Reads.row (e := 9) h
theorem one_row {r : Nat} (H : Owns w0 w (Asrt.obj r (.cells #[.string ⟨#[]⟩] 9 (0, 0)) :: R)) : Owns w0 w (row_str (.slice (some ⟨r, 0, none⟩) 1 1) 1 (lstrs [[]]) :: R) := by
  have h3 := H.rowOf (e := 9) (k := 1) 1 1 (Nat.le_refl _) (by decide) (by simp)
  exact h3
end
/-- what is asked, of places that may not be -/
def Pl (n : Nat) (at_ m : Int) : Prop := 0 ≤ at_ ∧ 0 ≤ m ∧ at_ ≤ n ∧ m ≤ n - at_
theorem new_of {V K D : Ls} {a m : Nat} (hV : V ≠ []) (ham : a + m ≤ V.length) (hD : D = repL V a m K) : repL V a m (newLs V K m) = if D = [] then [[]] else D := by
  by_cases h : m = V.length ∧ K = []
  · have ha0 : a = 0 := by omega
    obtain ⟨h1, rfl⟩ := h
    subst ha0 h1
    rw [newLs, if_pos ⟨rfl, rfl⟩, rep_all, hD, rep_all, if_pos rfl]
  · have hne : D ≠ [] := fun e => by
      have h1 := congrArg List.length e
      rw [hD, repL, List.length_append, List.length_append, List.length_take, List.length_drop, List.length_nil] at h1
      have h2 := List.length_pos_iff.2 hV
      refine h ⟨by omega, List.eq_nil_of_length_eq_zero (by omega)⟩
    rw [newLs, if_neg h, if_neg hne, hD]
theorem new_bulk {V K : Ls} {m : Nat} : bulkL (newLs V K m) ≤ bulkL K + 1 := by
  rw [newLs]
  split
  · simp [bulkL]
  · omega
theorem new_lf {V K : Ls} {m : Nat} (h : brokenB K = false) : brokenB (newLs V K m) = false := by
  rw [newLs]
  split
  · rfl
  · exact h
set_option maxHeartbeats 8000000 in
theorem bufPlays_walk (w : World) (v0 v1 : Value) (a0 : Arg Tryz.prog w 22 v0) (a1 : Arg Tryz.prog w 23 v1) (hL : laidMetH Tryz.prog Rows.bufPlaysRow.laid w) (hS : w.ShapedOpen Tryz.prog) :
    Calls Tryz.prog 3 #[v0, v1] w fun e w' => e = .returned (.bool true) ∧ Below w.heap.size w w' := by
  obtain ⟨L, la, lc, rfl, hs, hlc, hn16, hx⟩ := arg_lines a0
  obtain ⟨ca, c, cc, rfl, _, hcc, hcm, _, hrow⟩ := arg_slice (k := 3) Tryz.underlying23 (by kernel_rfl) (by decide) a1
  have hc63 : c ≤ 9223372036854775807 := by unfold maxLen at hcm; omega
  obtain ⟨n, hn⟩ : ∃ n, n = L.length := ⟨_, rfl⟩
  have HM : Hid (MaxInt w) := Lib.hid (maxInt_of hS)
  have hs63 := hs.n63
  rw [← hn] at hs hlc hs63 ⊢
  have Hs := Lib.hid (show ∀ R, RdL w R (.slice la n lc) L by intro R; unfold RdL; rw [← hn]; exact Reads.old hs)
  have Hn := Lib.hid hn
  have Hx := Lib.hid hx
  have Hrow := Lib.hid hrow
  clear a0 a1 hL hS hs hx hn hn16 hrow hcm
  go_enter Tryz.func3, Tryz.ntmps3
  go_wp2_with fail
  refine (known_true HM.out (Owns.start w)).mono ?_
  rintro e w1 ⟨rfl, h1⟩
  have Ct := Lib.hid (hlight Hn.out Hx.out h1 (Hs.out _))
  have H1 := Lib.hid h1
  clear h1
  go_wp2_with fail
  refine Ct.out.mono ?_
  rintro e w' ⟨⟨tb, rfl, htb⟩, rfl⟩
  clear Ct
  cases tb with
  | false =>
    go_wp2_with fail
    go_ret
    exact ⟨rfl, H1.out.below⟩
  | true =>
  have hLP := htb rfl
  have HLP := Lib.hid hLP
  have hn40 : n ≤ 40 := by rw [Hn.out]; exact hLP.len
  clear htb hLP
  by_cases hc25 : c ≤ 25
  rotate_left
  · go_wp2_with fail
    go_ret
    exact ⟨rfl, H1.out.below⟩
  obtain ⟨V0, hV0, hVL, hcn⟩ := tnew2 Hn.out HLP.out H1.out (Hs.out _)
  have Cn := Lib.hid hcn
  have HV0 := Lib.hid hV0
  have HVL := Lib.hid hVL
  clear hV0 hVL hcn
  go_wp2_with fail
  refine Cn.out.mono ?_
  rintro e w2 ⟨p, rfl, h2⟩
  dsimp only at h2
  obtain ⟨s3, w3, hr3, h3⟩ := lapp (s := .slice none 0 0) (n := 0) (A := []) (m := n) (B := L) rfl Hn.out (h2.rowNil 9 1) (Hs.out _) (by omega)
  rw [List.nil_append, ← Hn.out] at h3
  obtain ⟨a3, c3, rfl⟩ := row_slice h3.row
  have H3 := Lib.hid h3
  clear h2 h3 Cn H1
  go_upto_if 37 with (fail)
  go_cut [7] from 38 to 38 (fun wv wx => ∃ (V : Ls) (wa : Option Addr) (wcp : Nat), BufI V ∧ wv = .slice wa V.length wcp ∧ Owns w wx [row_str (.slice wa V.length wcp) V.length (lstrs V), tbufA p (joinL V) 0 0])
  case first =>
    clear hr3
    by_cases hn0 : n = 0
    · have hL0 : L = [] := List.eq_nil_of_length_eq_zero (by rw [← Hn.out]; exact hn0)
      subst hn0
      have h4 := one_row (H3.out.drop.alloc #[.string ⟨#[]⟩] 9)
      have H4 := Lib.hid h4
      have hv := HVL.out
      rw [if_pos hL0] at hv
      have HL0 := Lib.hid hL0
      have Hv := Lib.hid hv
      clear h4 hv hL0
      go_wp2_with fail
      go_meet
      exact ⟨V0, some ⟨w3.heap.size, 0, none⟩, 1, HV0.out, by rw [Hv.out]; rfl, by have h5 := H4.out; rw [Hv.out] at h5 ⊢; exact h5⟩
    · have hz : ((n : Int) == 0) = false := beq_eq_false_iff_ne.2 (by omega)
      have hv := HVL.out
      rw [if_neg (fun e => hn0 (by rw [Hn.out, e]; rfl))] at hv
      have Hv := Lib.hid hv
      clear hv
      go_wp2_with fail
      go_meet
      exact ⟨V0, a3, c3, HV0.out, by rw [Hv.out, ← Hn.out], by have h5 := H3.out; rw [Hv.out, ← Hn.out]; rw [Hv.out] at h5; exact h5⟩
  case rest =>
  obtain ⟨V1, wa1, wc1, hV1, rfl, h4⟩ := hcut
  have H4 := Lib.hid h4
  have HV1 := Lib.hid hV1
  clear h4 hV1 H3 hr3
  go_wp2_with fail
  go_loopg [7, 8] c (fun gk wv q wr => ∃ (i : Nat) (V : Ls) (wa : Option Addr) (wcp ed ad : Nat), gk + i = c ∧ q = .int .i64 i ∧ wv = .slice wa V.length wcp ∧ BufI V ∧ ed ≤ 2 * i ∧ ad ≤ 3001 * i ∧ Owns w wr [row_str (.slice wa V.length wcp) V.length (lstrs V), tbufA p (joinL V) ed ad])
  case atStart => exact ⟨0, V1, wa1, wc1, 0, 0, rfl, rfl, rfl, HV1.out, by omega, by omega, H4.out⟩
  case round =>
    obtain ⟨i, V, wa, wcp, ed, ad, hgi, rfl, rfl, hV, hed, had, h5⟩ := hrel
    obtain ⟨vn, hvn⟩ : ∃ vn, vn = V.length := ⟨_, rfl⟩
    have hvp : 0 < vn := by rw [hvn]; exact List.length_pos_iff.2 hV.ne
    have hvm : vn ≤ 4096 := by rw [hvn]; exact hV.cnt
    have hrd : RdL w [row_str (.slice wa V.length wcp) V.length (lstrs V)] (.slice wa V.length wcp) V := Reads.row (e := 9) List.mem_cons_self
    rw [← hvn] at h5 hrd ⊢
    have H5 := Lib.hid h5
    have HV := Lib.hid hV
    have Hvn := Lib.hid hvn
    clear hV hvn H4 HV1
    by_cases hlt : i < c
    rotate_left
    · have Cw := Lib.hid (whole_true HV.out HM.out Hvn.out hrd (by omega) h5.p1)
      clear h5 hrd
      go_wp2_with fail
      refine Cw.out.mono ?_
      rintro e w6 ⟨rfl, h6⟩
      have H6 := Lib.hid h6
      clear h6 Cw
      go_wp2_with fail
      go_ret
      exact ⟨rfl, H6.out.below⟩
    have Hrd := Lib.hid hrd
    clear h5 hrd
    obtain ⟨b, off, rfl, hbl, hel⟩ := Hrow.out (by omega)
    obtain ⟨es, hes, hrde, hce⟩ := hel i hlt
    obtain ⟨at_, mm, K, ka, kc, rfl, hK, hKx⟩ := act_of hes hrde
    obtain ⟨kn, hkn⟩ : ∃ kn, kn = K.length := ⟨_, rfl⟩
    rw [← hkn] at hK hce
    have hk63 := hK.n63
    have k0 := H5.out.chg.cell (hce 0 _ rfl) (by simp)
    have k1 := H5.out.chg.cell (hce 1 _ rfl) (by simp)
    have k2 := H5.out.chg.cell (hce 2 _ rfl) (by simp)
    simp only [Nat.add_zero] at k0
    have h6 := H5.out.alloc #[.int .i64 at_, .int .i64 mm, .slice ka kn kc] 31
    obtain ⟨W1, hW1⟩ : ∃ W1, wr.alloc (.cells #[.int .i64 at_, .int .i64 mm, .slice ka kn kc] 31) = W1 := ⟨_, rfl⟩
    obtain ⟨X, hX⟩ : ∃ X, X = wr.heap.size := ⟨_, rfl⟩
    rw [hW1, ← hX] at h6
    have x0 : W1.cell? ⟨X, 0, none⟩ = some (.int .i64 at_) := h6.cell (j := 0) rfl
    have x1 : W1.cell? ⟨X, 1, none⟩ = some (.int .i64 mm) := h6.cell (j := 1) rfl
    have x2 : W1.cell? ⟨X, 2, none⟩ = some (.slice ka kn kc) := h6.cell (j := 2) rfl
    have HK := Lib.hid (show ∀ R, RdL w R (.slice ka kn kc) K by intro R; unfold RdL; rw [← hkn]; exact Reads.old hK)
    have HW1 := Lib.hid hW1
    have HX := Lib.hid hX
    have H6 := Lib.hid h6
    have Hkn := Lib.hid hkn
    have HKx := Lib.hid hKx
    clear hrde hce hes hel hbl hW1 hX h6 hK hkn hKx H5
    go_upto_region 15 with (fail)
    rw [HW1.out, ← HX.out]
    clear k0 k1 k2 HW1 HX
    by_cases hk20 : kn ≤ 20
    rotate_left
    · go_wp2_with fail
      go_ret
      exact ⟨rfl, H6.out.below⟩
    have hbb : bulkL K ≤ 4611686018427387904 := by
      have h1 := bulk_bound HKx.out
      have h2 : K.length * (140737488355328 + 1) ≤ 20 * (140737488355328 + 1) := Nat.mul_le_mul_right _ (by rw [← Hkn.out]; exact hk20)
      omega
    have q := rsize Hkn.out H6.out (HK.out _) hbb
    obtain ⟨kb, hkb⟩ : ∃ kb, kb = bulkL K := ⟨_, rfl⟩
    rw [← hkb] at q hbb
    have Q := Lib.hid q
    have Hkb := Lib.hid hkb
    clear q hkb
    go_wp2_with fail
    refine Q.out.mono ?_
    rintro e W2 ⟨rfl, rfl⟩
    by_cases hb3 : kb ≤ 3000
    rotate_left
    · go_wp2_with fail
      go_ret
      exact ⟨rfl, H6.out.below⟩
    have HKx2 := HKx
    clear HKx hbb
    go_upto_region 19 with (fail)
    go_cut [88] from 39 to 128 (fun bv wx => ∃ bd : Bool, bv = .bool bd ∧ (bd = true → ¬ Pl vn at_ mm ∨ (Pl vn at_ mm ∧ brokenB K = true)) ∧ (bd = false → Pl vn at_ mm ∧ brokenB K = false) ∧ wx = W2)
    case first =>
      by_cases h1 : at_ < 0
      · go_wp2_with fail
        go_meet
        exact ⟨true, rfl, fun _ => Or.inl (fun h => by have := h.1; omega), fun h => (nomatch h), rfl⟩
      by_cases h2 : mm < 0
      · go_wp2_with fail
        go_meet
        exact ⟨true, rfl, fun _ => Or.inl (fun h => by have := h.2.1; omega), fun h => (nomatch h), rfl⟩
      by_cases h3 : (vn : Int) < at_
      · go_wp2_with fail
        go_meet
        exact ⟨true, rfl, fun _ => Or.inl (fun h => by have := h.2.2.1; omega), fun h => (nomatch h), rfl⟩
      have hws : IntKind.i64.wrap ((vn : Int) - at_) = (vn : Int) - at_ := by rw [IntKind.wrap_i64]; omega
      by_cases h4 : (vn : Int) - at_ < mm
      · go_wp2_with fail
        go_meet
        exact ⟨true, rfl, fun _ => Or.inl (fun h => by have := h.2.2.2; omega), fun h => (nomatch h), rfl⟩
      have hpl : Pl vn at_ mm := ⟨by omega, by omega, by omega, by omega⟩
      have cb := lbroken Hkn.out HKx2.out H6.out (HK.out _)
      obtain ⟨bb, hbb⟩ : ∃ bb, bb = brokenB K := ⟨_, rfl⟩
      rw [← hbb] at cb
      have Cb := Lib.hid cb
      have Hbb := Lib.hid hbb
      have Hpl := Lib.hid hpl
      clear cb hbb hpl
      go_wp2_with fail
      refine Cb.out.mono ?_
      rintro e W3 ⟨rfl, rfl⟩
      go_wp2_with fail
      go_meet
      exact ⟨bb, rfl, fun h => Or.inr ⟨Hpl.out, by rw [← Hbb.out]; exact h⟩, fun h => ⟨Hpl.out, by rw [← Hbb.out]; exact h⟩, rfl⟩
    case rest =>
    obtain ⟨bd, rfl, hbad, hgood, rfl⟩ := hcut
    cases bd with
    | true =>
      have hbad := hbad rfl
      have hk4 : RdL w [Asrt.obj X (.cells #[.int .i64 at_, .int .i64 mm, .slice ka kn kc] 31 (0, 0)), row_str (.slice wa vn wcp) vn (lstrs V)] (.slice ka kn kc) K := HK.out _
      have cr : Calls Tryz.prog 13 #[.pointer (some ⟨p, 0, none⟩), .int .i64 at_, .int .i64 mm, .slice ka kn kc] wc (Ret (.int .i64 20) w [tbufA p (joinL V) ed ad, Asrt.obj X (.cells #[.int .i64 at_, .int .i64 mm, .slice ka kn kc] 31 (0, 0)), row_str (.slice wa vn wcp) vn (lstrs V)]) := by
        rcases hbad with h | ⟨h, hbr⟩
        · exact brep_place HV.out (by rw [← Hvn.out]; exact h) (H6.out.ord [2])
        · obtain ⟨g1, g2, g3, g4⟩ := h
          obtain ⟨a, rfl⟩ := Int.eq_ofNat_of_zero_le g1
          obtain ⟨m, rfl⟩ := Int.eq_ofNat_of_zero_le g2
          exact brep_broken HV.out (by rw [← Hvn.out]; omega) Hkn.out hk4 hbr (H6.out.ord [2])
      have Cr := Lib.hid cr
      clear cr hbad hgood hk4
      go_wp2_with fail
      refine Cr.out.mono ?_
      rintro e w5 ⟨rfl, h7⟩
      have h8 := h7.ord [0, 1]
      have Cw := Lib.hid (whole_true (ed := ed) (ad := ad) HV.out HM.out Hvn.out (rdl_own Hvn.out List.mem_cons_self) (by omega) h8)
      clear h7 h8 Cr
      go_wp2_with fail
      refine Cw.out.mono ?_
      rintro e w6 ⟨rfl, h9⟩
      have H9 := Lib.hid (h9.p1.left (R := [_, _]) (R' := [_]))
      clear h9 Cw
      go_wp2_with fail
      go_roundg (gk - 1)
      case measure => omega
      case rel => exact ⟨i + 1, V, wa, wcp, ed, ad, by omega, by go_num, by rw [← Hvn.out], HV.out, by omega, by omega, by rw [← Hvn.out]; exact H9.out⟩
    | false =>
      obtain ⟨hpl, hbr⟩ := hgood rfl
      obtain ⟨g1, g2, g3, g4⟩ := hpl
      obtain ⟨a, rfl⟩ := Int.eq_ofNat_of_zero_le g1
      obtain ⟨m, rfl⟩ := Int.eq_ofNat_of_zero_le g2
      have han : a ≤ vn := by omega
      have ham : a + m ≤ vn := by omega
      obtain ⟨d, hd⟩ : ∃ d, d = a + m := ⟨_, rfl⟩
      have hwd : IntKind.i64.wrap ((a : Int) + m) = (d : Int) := by rw [IntKind.wrap_i64]; omega
      have hdn : d ≤ vn := by omega
      have hrv : RdL w [Asrt.obj X (.cells #[.int .i64 a, .int .i64 m, .slice ka kn kc] 31 (0, 0)), row_str (.slice wa vn wcp) vn (lstrs V), tbufA p (joinL V) ed ad] (.slice wa vn wcp) V := rdl_own Hvn.out (by simp)
      obtain ⟨lb, lo, lc', e1, hvc, _, _⟩ := (hrv wc H6.out).cells (by rw [← Hvn.out]; exact hvp) (by decide)
      rw [← Hvn.out] at e1 hvc
      cases e1
      obtain ⟨D, hD⟩ : ∃ D, D = repL V a m K := ⟨_, rfl⟩
      have hal : a ≤ wcp := by omega
      obtain ⟨dl, hdl⟩ : ∃ dl, dl = D.length := ⟨_, rfl⟩
      have hnew := new_of HV.out.ne (by rw [← Hvn.out]; exact ham) hD
      have hDl : D.length = vn - m + kn := by rw [hD, repL, List.length_append, List.length_append, List.length_take, List.length_drop, ← Hvn.out, ← Hkn.out]; omega
      have hDb : bulkL D ≤ 7096 := by
        have h1 := repL_bulk (W := V) (a := a) (n := m) (L := K) (by rw [← Hvn.out]; exact ham)
        have h2 := HV.out.bulk
        have h3 := Hkb.out
        rw [← hD] at h1
        omega
      have Hbr := Lib.hid hbr
      have Hdl := Lib.hid hdl
      have Hd := Lib.hid hd
      have Hrv := Lib.hid hrv
      have HD := Lib.hid hD
      have Hnew := Lib.hid hnew
      have HDl := Lib.hid hDl
      have HDb := Lib.hid hDb
      have Ham := Lib.hid ham
      clear hbr hgood hdl hbad g1 g2 g3 g4 hd hrv hD hnew hDl hDb ham
      go_upto_if 88 with (fail)
      go_cut [10, 11] from 39 to 128 (fun wv nv wx => (wv = .int .i64 21 ∧ 4096 < bulkL D ∧ Owns w wx [Asrt.obj X (.cells #[.int .i64 a, .int .i64 m, .slice ka kn kc] 31 (0, 0)), row_str (.slice (some ⟨lb, lo, none⟩) vn wcp) vn (lstrs V), tbufA p (joinL V) ed ad]) ∨ (wv = .int .i64 0 ∧ bulkL D ≤ 4096 ∧ ∃ (na : Option Addr) (nc : Nat) (D2 : Ls), nv = .slice na D2.length nc ∧ D2 = (if D = [] then [[]] else D) ∧ Owns w wx [Asrt.obj X (.cells #[.int .i64 a, .int .i64 m, .slice ka kn kc] 31 (0, 0)), row_str (.slice na D2.length nc) D2.length (lstrs D2), tbufA p (joinL V) ed ad]))
      case first =>
        go_upto_region 21 with (fail)
        obtain ⟨s1, w3, hr1, h3⟩ := lapp (s := .slice none 0 0) (n := 0) (A := []) (m := a) (B := V.take a) rfl (by rw [List.length_take, ← Hvn.out]; omega) (H6.out.drew.rowNil 9 1) (rdl_pre Hvn.out Hrv.out han) (by omega)
        rw [List.nil_append] at h3
        obtain ⟨s2, w4, hr2, h4⟩ := lapp (m := kn) (B := K) rfl Hkn.out h3 (HK.out _) (by rw [List.length_take]; omega)
        have tail : ∀ (A2 : Option Addr), (if wcp = d then some ⟨lb, lo, none⟩ else Option.map (fun x : Addr => x.add d) (some ⟨lb, lo, none⟩)) = A2 →
            ∃ (s3a : Option Addr) (s3c : Nat) (w5 : World), (∀ ty, (Builtin.append_ #[22, 22] ty #[s2, .slice A2 (vn - d) (wcp - d)]).run Tryz.prog w4 = .ok (.slice s3a dl s3c) w5) ∧ Owns w w5 (row_str (.slice s3a dl s3c) dl (lstrs D) :: [Asrt.obj X (.cells #[.int .i64 a, .int .i64 m, .slice ka kn kc] 31 (0, 0)), row_str (.slice (some ⟨lb, lo, none⟩) vn wcp) vn (lstrs V), tbufA p (joinL V) ed ad]) := by
          intro A2 hA2
          obtain ⟨v2, w8, hr2, h9⟩ := lapp rfl (by rw [List.length_drop, ← Hvn.out]) h4 (rdl_post Hvn.out Hrv.out hdn hA2) (by rw [List.length_append, List.length_take, ← Hkn.out]; omega)
          rw [show V.take a ++ K ++ V.drop d = D by rw [HD.out, Hd.out, repL], ← Hdl.out] at h9
          obtain ⟨s2a, s2c, rfl⟩ := row_slice h9.row
          exact ⟨s2a, s2c, w8, hr2, h9⟩
        have Tail := Lib.hid tail
        have y0 := h3.p1
        have Q3 := Lib.hid (⟨h3.p1.cell (j := 0) rfl, h3.p1.cell (j := 1) rfl, h3.p1.cell (j := 2) rfl⟩ : w3.cell? ⟨X, 0, none⟩ = some (.int .i64 a) ∧ w3.cell? ⟨X, 1, none⟩ = some (.int .i64 m) ∧ w3.cell? ⟨X, 2, none⟩ = some (.slice ka kn kc))
        have Q4 := Lib.hid (⟨h4.p1.cell (j := 0) rfl, h4.p1.cell (j := 1) rfl, h4.p1.cell (j := 2) rfl⟩ : w4.cell? ⟨X, 0, none⟩ = some (.int .i64 a) ∧ w4.cell? ⟨X, 1, none⟩ = some (.int .i64 m) ∧ w4.cell? ⟨X, 2, none⟩ = some (.slice ka kn kc))
        clear tail h3 h4 y0
        by_cases hcd : wcp = d
        · obtain rfl : d = wcp := hcd.symm
          obtain ⟨s3a, s3c, w5, hr3, h5⟩ := Tail.out (some ⟨lb, lo, none⟩) (if_pos rfl)
          have H5 := Lib.hid h5
          have Q5 := Lib.hid (⟨h5.p1.cell (j := 0) rfl, h5.p1.cell (j := 1) rfl, h5.p1.cell (j := 2) rfl⟩ : w5.cell? ⟨X, 0, none⟩ = some (.int .i64 a) ∧ w5.cell? ⟨X, 1, none⟩ = some (.int .i64 m) ∧ w5.cell? ⟨X, 2, none⟩ = some (.slice ka kn kc))
          clear h5 Tail
          refine wp_region_held_drew (S := (fun w' => w'.cell? ⟨X, 0, none⟩ = some (.int .i64 a) ∧ w'.cell? ⟨X, 1, none⟩ = some (.int .i64 m) ∧ w'.cell? ⟨X, 2, none⟩ = some (.slice ka kn kc))) (by kernel_rfl) ⟨H6.out.drew.cell (j := 0) rfl, H6.out.drew.cell (j := 1) rfl, H6.out.drew.cell (j := 2) rfl⟩ (fun hS0 => ?_)
          refine wpAnyH_take (i := 0) (oi := _) (v := .slice (some ⟨lb, lo, none⟩) vn d) rfl (by kernel_rfl) (by kernel_rfl) (by kernel_rfl) (fun _ _ _ h => h) (Or.inl ⟨by rfl, fun w hSw => ?_⟩) hS0 ?_
          · obtain ⟨x0, x1, x2⟩ := hSw; go_simp
          try simp only [Act.put, List.setIfInBounds_toArray, List.set_cons_zero, List.set_cons_succ, List.getElem_toArray, List.getElem_cons_zero, List.getElem_cons_succ]
          refine wpAnyH_take (i := 1) (oi := _) (v := .pointer (some ⟨X, 0, none⟩)) rfl (by kernel_rfl) (by kernel_rfl) (by kernel_rfl) (fun _ _ _ h => h) (Or.inl ⟨by rfl, fun w hSw => ?_⟩) hS0 ?_
          · obtain ⟨x0, x1, x2⟩ := hSw; go_simp
          try simp only [Act.put, List.setIfInBounds_toArray, List.set_cons_zero, List.set_cons_succ, List.getElem_toArray, List.getElem_cons_zero, List.getElem_cons_succ]
          refine wpAnyH_take (i := 2) (oi := _) (v := .int .i64 a) rfl (by kernel_rfl) (by kernel_rfl) (by kernel_rfl) (fun _ _ _ h => h) (Or.inl ⟨by rfl, fun w hSw => ?_⟩) hS0 ?_
          · obtain ⟨x0, x1, x2⟩ := hSw; go_simp
          try simp only [Act.put, List.setIfInBounds_toArray, List.set_cons_zero, List.set_cons_succ, List.getElem_toArray, List.getElem_cons_zero, List.getElem_cons_succ]
          refine wpAnyH_take (i := 3) (oi := _) (v := .slice (some ⟨lb, lo, none⟩) a d) rfl (by kernel_rfl) (by kernel_rfl) (by kernel_rfl) (fun _ _ _ h => h) (Or.inl ⟨by rfl, fun w hSw => ?_⟩) hS0 ?_
          · obtain ⟨x0, x1, x2⟩ := hSw; go_simp
          try simp only [Act.put, List.setIfInBounds_toArray, List.set_cons_zero, List.set_cons_succ, List.getElem_toArray, List.getElem_cons_zero, List.getElem_cons_succ]
          refine wpAnyH_take (i := 5) (oi := _) (v := .pointer (some ⟨X, 2, none⟩)) rfl (by kernel_rfl) (by kernel_rfl) (by kernel_rfl) (fun _ _ _ h => h) (Or.inl ⟨by rfl, fun w hSw => ?_⟩) hS0 ?_
          · obtain ⟨x0, x1, x2⟩ := hSw; go_simp
          try simp only [Act.put, List.setIfInBounds_toArray, List.set_cons_zero, List.set_cons_succ, List.getElem_toArray, List.getElem_cons_zero, List.getElem_cons_succ]
          refine wpAnyH_take (i := 6) (oi := _) (v := .slice ka kn kc) rfl (by kernel_rfl) (by kernel_rfl) (by kernel_rfl) (fun _ _ _ h => h) (Or.inl ⟨by rfl, fun w hSw => ?_⟩) hS0 ?_
          · obtain ⟨x0, x1, x2⟩ := hSw; go_simp
          try simp only [Act.put, List.setIfInBounds_toArray, List.set_cons_zero, List.set_cons_succ, List.getElem_toArray, List.getElem_cons_zero, List.getElem_cons_succ]
          refine wpAnyH_take (i := 8) (oi := _) (v := .slice (some ⟨lb, lo, none⟩) vn d) rfl (by kernel_rfl) (by kernel_rfl) (by kernel_rfl) (fun _ _ _ h => h) (Or.inl ⟨by rfl, fun w hSw => ?_⟩) hS0 ?_
          · obtain ⟨x0, x1, x2⟩ := hSw; go_simp
          try simp only [Act.put, List.setIfInBounds_toArray, List.set_cons_zero, List.set_cons_succ, List.getElem_toArray, List.getElem_cons_zero, List.getElem_cons_succ]
          refine wpAnyH_take (i := 9) (oi := _) (v := .pointer (some ⟨X, 0, none⟩)) rfl (by kernel_rfl) (by kernel_rfl) (by kernel_rfl) (fun _ _ _ h => h) (Or.inl ⟨by rfl, fun w hSw => ?_⟩) hS0 ?_
          · obtain ⟨x0, x1, x2⟩ := hSw; go_simp
          try simp only [Act.put, List.setIfInBounds_toArray, List.set_cons_zero, List.set_cons_succ, List.getElem_toArray, List.getElem_cons_zero, List.getElem_cons_succ]
          refine wpAnyH_take (i := 10) (oi := _) (v := .int .i64 a) rfl (by kernel_rfl) (by kernel_rfl) (by kernel_rfl) (fun _ _ _ h => h) (Or.inl ⟨by rfl, fun w hSw => ?_⟩) hS0 ?_
          · obtain ⟨x0, x1, x2⟩ := hSw; go_simp
          try simp only [Act.put, List.setIfInBounds_toArray, List.set_cons_zero, List.set_cons_succ, List.getElem_toArray, List.getElem_cons_zero, List.getElem_cons_succ]
          refine wpAnyH_take (i := 11) (oi := _) (v := .pointer (some ⟨X, 1, none⟩)) rfl (by kernel_rfl) (by kernel_rfl) (by kernel_rfl) (fun _ _ _ h => h) (Or.inl ⟨by rfl, fun w hSw => ?_⟩) hS0 ?_
          · obtain ⟨x0, x1, x2⟩ := hSw; go_simp
          try simp only [Act.put, List.setIfInBounds_toArray, List.set_cons_zero, List.set_cons_succ, List.getElem_toArray, List.getElem_cons_zero, List.getElem_cons_succ]
          refine wpAnyH_take (i := 12) (oi := _) (v := .int .i64 m) rfl (by kernel_rfl) (by kernel_rfl) (by kernel_rfl) (fun _ _ _ h => h) (Or.inl ⟨by rfl, fun w hSw => ?_⟩) hS0 ?_
          · obtain ⟨x0, x1, x2⟩ := hSw; go_simp
          try simp only [Act.put, List.setIfInBounds_toArray, List.set_cons_zero, List.set_cons_succ, List.getElem_toArray, List.getElem_cons_zero, List.getElem_cons_succ]
          refine wpAnyH_take (i := 13) (oi := _) (v := .int .i64 d) rfl (by kernel_rfl) (by kernel_rfl) (by kernel_rfl) (fun _ _ _ h => h) (Or.inl ⟨by rfl, fun w hSw => ?_⟩) hS0 ?_
          · obtain ⟨x0, x1, x2⟩ := hSw; go_simp
          try simp only [Act.put, List.setIfInBounds_toArray, List.set_cons_zero, List.set_cons_succ, List.getElem_toArray, List.getElem_cons_zero, List.getElem_cons_succ]
          refine wpAnyH_take (i := 14) (oi := _) (v := .slice (some ⟨lb, lo, none⟩) (vn - d) (d - d)) rfl (by kernel_rfl) (by kernel_rfl) (by kernel_rfl) (fun _ _ _ h => h) (Or.inl ⟨by rfl, fun w hSw => ?_⟩) hS0 ?_
          · obtain ⟨x0, x1, x2⟩ := hSw; go_simp
          try simp only [Act.put, List.setIfInBounds_toArray, List.set_cons_zero, List.set_cons_succ, List.getElem_toArray, List.getElem_cons_zero, List.getElem_cons_succ]
          refine wpAnyH_ready (rs := [4]) (by kernel_rfl) (by simp) (AllReadyH.cons (o := _) rfl (fun K' hK => ?_) AllReadyH.nil)
          simp only [List.getElem_toArray, List.getElem_cons_zero, List.getElem_cons_succ]
          rw [if_pos (by rfl)]
          refine wp_append_run (.const (.slice none 0 0)) (.tmp 92) 22 22 (.slice none 0 0) (.slice (some ⟨lb, lo, none⟩) a d) (hr1 22) rfl rfl rfl ?_
          refine hK.out _ _ ⟨Q3.out.1, Q3.out.2.1, Q3.out.2.2⟩ (fun hS1 => ?_)
          clear hK K' hS0
          try simp only [Act.put, List.setIfInBounds_toArray, List.set_cons_zero, List.set_cons_succ, List.getElem_toArray, List.getElem_cons_zero, List.getElem_cons_succ]
          refine wpAnyH_ready (rs := [7]) (by kernel_rfl) (by simp) (AllReadyH.cons (o := _) rfl (fun K' hK => ?_) AllReadyH.nil)
          simp only [List.getElem_toArray, List.getElem_cons_zero, List.getElem_cons_succ]
          rw [if_pos (by rfl)]
          refine wp_append_run (.tmp 93) (.tmp 95) 22 22 s1 (.slice ka kn kc) (hr2 22) rfl rfl rfl ?_
          refine hK.out _ _ ⟨Q4.out.1, Q4.out.2.1, Q4.out.2.2⟩ (fun hS2 => ?_)
          clear hK K' hS1
          try simp only [Act.put, List.setIfInBounds_toArray, List.set_cons_zero, List.set_cons_succ, List.getElem_toArray, List.getElem_cons_zero, List.getElem_cons_succ]
          refine wpAnyH_ready (rs := [15]) (by kernel_rfl) (by simp) (AllReadyH.cons (o := _) rfl (fun K' hK => ?_) AllReadyH.nil)
          simp only [List.getElem_toArray, List.getElem_cons_zero, List.getElem_cons_succ]
          rw [if_pos (by rfl)]
          refine wp_append_run (.tmp 96) (.tmp 103) 22 22 s2 (.slice (some ⟨lb, lo, none⟩) (vn - d) (d - d)) (hr3 22) rfl rfl rfl ?_
          refine hK.out _ _ ⟨Q5.out.1, Q5.out.2.1, Q5.out.2.2⟩ (fun hS3 => ?_)
          clear hK K' hS2
          try simp only [Act.put, List.setIfInBounds_toArray, List.set_cons_zero, List.set_cons_succ, List.getElem_toArray, List.getElem_cons_zero, List.getElem_cons_succ]
          refine wpAnyH_take (i := 16) (oi := _) (v := .slice s3a dl s3c) rfl (by kernel_rfl) (by kernel_rfl) (by kernel_rfl) (fun _ _ _ h => h) (Or.inl ⟨by rfl, fun w hSw => ?_⟩) hS3 ?_
          · obtain ⟨x0, x1, x2⟩ := hSw; go_simp
          try simp only [Act.put, List.setIfInBounds_toArray, List.set_cons_zero, List.set_cons_succ, List.getElem_toArray, List.getElem_cons_zero, List.getElem_cons_succ]
          refine wpAnyH_done (by kernel_rfl) ?_ _
          try dsimp only [Whole]
          clear hr1 hr2 hr3 Q3 Q4 Q5
          have q2 := rsize (n := dl) Hdl.out H5.out (rdl_own Hdl.out List.mem_cons_self) (by have := HDb.out; omega)
          obtain ⟨db, hdb⟩ : ∃ db, db = bulkL D := ⟨_, rfl⟩
          rw [← hdb] at q2
          have Q2 := Lib.hid q2
          have Hdb := Lib.hid hdb
          clear q2 hdb
          go_wp2_with fail
          refine Q2.out.mono ?_
          rintro e W6 ⟨rfl, rfl⟩
          clear Q2
          by_cases hfull : 4096 < db
          · have hdl0 : ¬ dl = 0 := fun e => by
              have h1 : D = [] := List.eq_nil_of_length_eq_zero (by rw [← Hdl.out]; exact e)
              have h2 := Hdb.out
              rw [h1] at h2
              simp [bulkL] at h2
              omega
            have hz : ((dl : Int) == 0) = false := beq_eq_false_iff_ne.2 (by omega)
            go_wp2_with fail
            go_meet
            exact .inl ⟨rfl, by rw [← Hdb.out]; exact hfull, H5.out.drop⟩
          · by_cases hdl0 : dl = 0
            · have hD0 : D = [] := List.eq_nil_of_length_eq_zero (by rw [← Hdl.out]; exact hdl0)
              have h4 := one_row (H5.out.drop.alloc #[.string ⟨#[]⟩] 9)
              have H4 := Lib.hid h4
              have HD0 := Lib.hid hD0
              clear h4 hD0
              subst hdl0
              go_wp2_with fail
              go_meet
              exact .inr ⟨rfl, by rw [← Hdb.out]; omega, _, 1, [[]], rfl, by rw [if_pos HD0.out], (H4.out.ord [2]).drop.p1⟩
            · have hz : ((dl : Int) == 0) = false := beq_eq_false_iff_ne.2 (by omega)
              have hD0 : D ≠ [] := fun e => hdl0 (by rw [Hdl.out, e]; rfl)
              have HD0 := Lib.hid hD0
              clear hD0
              go_wp2_with fail
              go_meet
              exact .inr ⟨rfl, by rw [← Hdb.out]; omega, s3a, s3c, D, by rw [← Hdl.out], by rw [if_neg HD0.out], by rw [← Hdl.out]; exact (H5.out.ord [2]).drop.p1⟩
        · obtain ⟨s3a, s3c, w5, hr3, h5⟩ := Tail.out (some ⟨lb, lo + d, none⟩) (by rw [if_neg hcd]; simp [Addr.add_lit])
          have H5 := Lib.hid h5
          have Q5 := Lib.hid (⟨h5.p1.cell (j := 0) rfl, h5.p1.cell (j := 1) rfl, h5.p1.cell (j := 2) rfl⟩ : w5.cell? ⟨X, 0, none⟩ = some (.int .i64 a) ∧ w5.cell? ⟨X, 1, none⟩ = some (.int .i64 m) ∧ w5.cell? ⟨X, 2, none⟩ = some (.slice ka kn kc))
          clear h5 Tail
          refine wp_region_held_drew (S := (fun w' => w'.cell? ⟨X, 0, none⟩ = some (.int .i64 a) ∧ w'.cell? ⟨X, 1, none⟩ = some (.int .i64 m) ∧ w'.cell? ⟨X, 2, none⟩ = some (.slice ka kn kc))) (by kernel_rfl) ⟨H6.out.drew.cell (j := 0) rfl, H6.out.drew.cell (j := 1) rfl, H6.out.drew.cell (j := 2) rfl⟩ (fun hS0 => ?_)
          refine wpAnyH_take (i := 0) (oi := _) (v := .slice (some ⟨lb, lo, none⟩) vn wcp) rfl (by kernel_rfl) (by kernel_rfl) (by kernel_rfl) (fun _ _ _ h => h) (Or.inl ⟨by rfl, fun w hSw => ?_⟩) hS0 ?_
          · obtain ⟨x0, x1, x2⟩ := hSw; go_simp
          try simp only [Act.put, List.setIfInBounds_toArray, List.set_cons_zero, List.set_cons_succ, List.getElem_toArray, List.getElem_cons_zero, List.getElem_cons_succ]
          refine wpAnyH_take (i := 1) (oi := _) (v := .pointer (some ⟨X, 0, none⟩)) rfl (by kernel_rfl) (by kernel_rfl) (by kernel_rfl) (fun _ _ _ h => h) (Or.inl ⟨by rfl, fun w hSw => ?_⟩) hS0 ?_
          · obtain ⟨x0, x1, x2⟩ := hSw; go_simp
          try simp only [Act.put, List.setIfInBounds_toArray, List.set_cons_zero, List.set_cons_succ, List.getElem_toArray, List.getElem_cons_zero, List.getElem_cons_succ]
          refine wpAnyH_take (i := 2) (oi := _) (v := .int .i64 a) rfl (by kernel_rfl) (by kernel_rfl) (by kernel_rfl) (fun _ _ _ h => h) (Or.inl ⟨by rfl, fun w hSw => ?_⟩) hS0 ?_
          · obtain ⟨x0, x1, x2⟩ := hSw; go_simp
          try simp only [Act.put, List.setIfInBounds_toArray, List.set_cons_zero, List.set_cons_succ, List.getElem_toArray, List.getElem_cons_zero, List.getElem_cons_succ]
          refine wpAnyH_take (i := 3) (oi := _) (v := .slice (some ⟨lb, lo, none⟩) a wcp) rfl (by kernel_rfl) (by kernel_rfl) (by kernel_rfl) (fun _ _ _ h => h) (Or.inl ⟨by rfl, fun w hSw => ?_⟩) hS0 ?_
          · obtain ⟨x0, x1, x2⟩ := hSw; go_simp
          try simp only [Act.put, List.setIfInBounds_toArray, List.set_cons_zero, List.set_cons_succ, List.getElem_toArray, List.getElem_cons_zero, List.getElem_cons_succ]
          refine wpAnyH_take (i := 5) (oi := _) (v := .pointer (some ⟨X, 2, none⟩)) rfl (by kernel_rfl) (by kernel_rfl) (by kernel_rfl) (fun _ _ _ h => h) (Or.inl ⟨by rfl, fun w hSw => ?_⟩) hS0 ?_
          · obtain ⟨x0, x1, x2⟩ := hSw; go_simp
          try simp only [Act.put, List.setIfInBounds_toArray, List.set_cons_zero, List.set_cons_succ, List.getElem_toArray, List.getElem_cons_zero, List.getElem_cons_succ]
          refine wpAnyH_take (i := 6) (oi := _) (v := .slice ka kn kc) rfl (by kernel_rfl) (by kernel_rfl) (by kernel_rfl) (fun _ _ _ h => h) (Or.inl ⟨by rfl, fun w hSw => ?_⟩) hS0 ?_
          · obtain ⟨x0, x1, x2⟩ := hSw; go_simp
          try simp only [Act.put, List.setIfInBounds_toArray, List.set_cons_zero, List.set_cons_succ, List.getElem_toArray, List.getElem_cons_zero, List.getElem_cons_succ]
          refine wpAnyH_take (i := 8) (oi := _) (v := .slice (some ⟨lb, lo, none⟩) vn wcp) rfl (by kernel_rfl) (by kernel_rfl) (by kernel_rfl) (fun _ _ _ h => h) (Or.inl ⟨by rfl, fun w hSw => ?_⟩) hS0 ?_
          · obtain ⟨x0, x1, x2⟩ := hSw; go_simp
          try simp only [Act.put, List.setIfInBounds_toArray, List.set_cons_zero, List.set_cons_succ, List.getElem_toArray, List.getElem_cons_zero, List.getElem_cons_succ]
          refine wpAnyH_take (i := 9) (oi := _) (v := .pointer (some ⟨X, 0, none⟩)) rfl (by kernel_rfl) (by kernel_rfl) (by kernel_rfl) (fun _ _ _ h => h) (Or.inl ⟨by rfl, fun w hSw => ?_⟩) hS0 ?_
          · obtain ⟨x0, x1, x2⟩ := hSw; go_simp
          try simp only [Act.put, List.setIfInBounds_toArray, List.set_cons_zero, List.set_cons_succ, List.getElem_toArray, List.getElem_cons_zero, List.getElem_cons_succ]
          refine wpAnyH_take (i := 10) (oi := _) (v := .int .i64 a) rfl (by kernel_rfl) (by kernel_rfl) (by kernel_rfl) (fun _ _ _ h => h) (Or.inl ⟨by rfl, fun w hSw => ?_⟩) hS0 ?_
          · obtain ⟨x0, x1, x2⟩ := hSw; go_simp
          try simp only [Act.put, List.setIfInBounds_toArray, List.set_cons_zero, List.set_cons_succ, List.getElem_toArray, List.getElem_cons_zero, List.getElem_cons_succ]
          refine wpAnyH_take (i := 11) (oi := _) (v := .pointer (some ⟨X, 1, none⟩)) rfl (by kernel_rfl) (by kernel_rfl) (by kernel_rfl) (fun _ _ _ h => h) (Or.inl ⟨by rfl, fun w hSw => ?_⟩) hS0 ?_
          · obtain ⟨x0, x1, x2⟩ := hSw; go_simp
          try simp only [Act.put, List.setIfInBounds_toArray, List.set_cons_zero, List.set_cons_succ, List.getElem_toArray, List.getElem_cons_zero, List.getElem_cons_succ]
          refine wpAnyH_take (i := 12) (oi := _) (v := .int .i64 m) rfl (by kernel_rfl) (by kernel_rfl) (by kernel_rfl) (fun _ _ _ h => h) (Or.inl ⟨by rfl, fun w hSw => ?_⟩) hS0 ?_
          · obtain ⟨x0, x1, x2⟩ := hSw; go_simp
          try simp only [Act.put, List.setIfInBounds_toArray, List.set_cons_zero, List.set_cons_succ, List.getElem_toArray, List.getElem_cons_zero, List.getElem_cons_succ]
          refine wpAnyH_take (i := 13) (oi := _) (v := .int .i64 d) rfl (by kernel_rfl) (by kernel_rfl) (by kernel_rfl) (fun _ _ _ h => h) (Or.inl ⟨by rfl, fun w hSw => ?_⟩) hS0 ?_
          · obtain ⟨x0, x1, x2⟩ := hSw; go_simp
          try simp only [Act.put, List.setIfInBounds_toArray, List.set_cons_zero, List.set_cons_succ, List.getElem_toArray, List.getElem_cons_zero, List.getElem_cons_succ]
          refine wpAnyH_take (i := 14) (oi := _) (v := .slice (some ⟨lb, lo + d, none⟩) (vn - d) (wcp - d)) rfl (by kernel_rfl) (by kernel_rfl) (by kernel_rfl) (fun _ _ _ h => h) (Or.inl ⟨by rfl, fun w hSw => ?_⟩) hS0 ?_
          · obtain ⟨x0, x1, x2⟩ := hSw; go_simp
          try simp only [Act.put, List.setIfInBounds_toArray, List.set_cons_zero, List.set_cons_succ, List.getElem_toArray, List.getElem_cons_zero, List.getElem_cons_succ]
          refine wpAnyH_ready (rs := [4]) (by kernel_rfl) (by simp) (AllReadyH.cons (o := _) rfl (fun K' hK => ?_) AllReadyH.nil)
          simp only [List.getElem_toArray, List.getElem_cons_zero, List.getElem_cons_succ]
          rw [if_pos (by rfl)]
          refine wp_append_run (.const (.slice none 0 0)) (.tmp 92) 22 22 (.slice none 0 0) (.slice (some ⟨lb, lo, none⟩) a wcp) (hr1 22) rfl rfl rfl ?_
          refine hK.out _ _ ⟨Q3.out.1, Q3.out.2.1, Q3.out.2.2⟩ (fun hS1 => ?_)
          clear hK K' hS0
          try simp only [Act.put, List.setIfInBounds_toArray, List.set_cons_zero, List.set_cons_succ, List.getElem_toArray, List.getElem_cons_zero, List.getElem_cons_succ]
          refine wpAnyH_ready (rs := [7]) (by kernel_rfl) (by simp) (AllReadyH.cons (o := _) rfl (fun K' hK => ?_) AllReadyH.nil)
          simp only [List.getElem_toArray, List.getElem_cons_zero, List.getElem_cons_succ]
          rw [if_pos (by rfl)]
          refine wp_append_run (.tmp 93) (.tmp 95) 22 22 s1 (.slice ka kn kc) (hr2 22) rfl rfl rfl ?_
          refine hK.out _ _ ⟨Q4.out.1, Q4.out.2.1, Q4.out.2.2⟩ (fun hS2 => ?_)
          clear hK K' hS1
          try simp only [Act.put, List.setIfInBounds_toArray, List.set_cons_zero, List.set_cons_succ, List.getElem_toArray, List.getElem_cons_zero, List.getElem_cons_succ]
          refine wpAnyH_ready (rs := [15]) (by kernel_rfl) (by simp) (AllReadyH.cons (o := _) rfl (fun K' hK => ?_) AllReadyH.nil)
          simp only [List.getElem_toArray, List.getElem_cons_zero, List.getElem_cons_succ]
          rw [if_pos (by rfl)]
          refine wp_append_run (.tmp 96) (.tmp 103) 22 22 s2 (.slice (some ⟨lb, lo + d, none⟩) (vn - d) (wcp - d)) (hr3 22) rfl rfl rfl ?_
          refine hK.out _ _ ⟨Q5.out.1, Q5.out.2.1, Q5.out.2.2⟩ (fun hS3 => ?_)
          clear hK K' hS2
          try simp only [Act.put, List.setIfInBounds_toArray, List.set_cons_zero, List.set_cons_succ, List.getElem_toArray, List.getElem_cons_zero, List.getElem_cons_succ]
          refine wpAnyH_take (i := 16) (oi := _) (v := .slice s3a dl s3c) rfl (by kernel_rfl) (by kernel_rfl) (by kernel_rfl) (fun _ _ _ h => h) (Or.inl ⟨by rfl, fun w hSw => ?_⟩) hS3 ?_
          · obtain ⟨x0, x1, x2⟩ := hSw; go_simp
          try simp only [Act.put, List.setIfInBounds_toArray, List.set_cons_zero, List.set_cons_succ, List.getElem_toArray, List.getElem_cons_zero, List.getElem_cons_succ]
          refine wpAnyH_done (by kernel_rfl) ?_ _
          try dsimp only [Whole]
          clear hr1 hr2 hr3 Q3 Q4 Q5
          have q2 := rsize (n := dl) Hdl.out H5.out (rdl_own Hdl.out List.mem_cons_self) (by have := HDb.out; omega)
          obtain ⟨db, hdb⟩ : ∃ db, db = bulkL D := ⟨_, rfl⟩
          rw [← hdb] at q2
          have Q2 := Lib.hid q2
          have Hdb := Lib.hid hdb
          clear q2 hdb
          go_wp2_with fail
          refine Q2.out.mono ?_
          rintro e W6 ⟨rfl, rfl⟩
          clear Q2
          by_cases hfull : 4096 < db
          · have hdl0 : ¬ dl = 0 := fun e => by
              have h1 : D = [] := List.eq_nil_of_length_eq_zero (by rw [← Hdl.out]; exact e)
              have h2 := Hdb.out
              rw [h1] at h2
              simp [bulkL] at h2
              omega
            have hz : ((dl : Int) == 0) = false := beq_eq_false_iff_ne.2 (by omega)
            go_wp2_with fail
            go_meet
            exact .inl ⟨rfl, by rw [← Hdb.out]; exact hfull, H5.out.drop⟩
          · by_cases hdl0 : dl = 0
            · have hD0 : D = [] := List.eq_nil_of_length_eq_zero (by rw [← Hdl.out]; exact hdl0)
              have h4 := one_row (H5.out.drop.alloc #[.string ⟨#[]⟩] 9)
              have H4 := Lib.hid h4
              have HD0 := Lib.hid hD0
              clear h4 hD0
              subst hdl0
              go_wp2_with fail
              go_meet
              exact .inr ⟨rfl, by rw [← Hdb.out]; omega, _, 1, [[]], rfl, by rw [if_pos HD0.out], (H4.out.ord [2]).drop.p1⟩
            · have hz : ((dl : Int) == 0) = false := beq_eq_false_iff_ne.2 (by omega)
              have hD0 : D ≠ [] := fun e => hdl0 (by rw [Hdl.out, e]; rfl)
              have HD0 := Lib.hid hD0
              clear hD0
              go_wp2_with fail
              go_meet
              exact .inr ⟨rfl, by rw [← Hdb.out]; omega, s3a, s3c, D, by rw [← Hdl.out], by rw [if_neg HD0.out], by rw [← Hdl.out]; exact (H5.out.ord [2]).drop.p1⟩
      case rest =>
      have hB0 := Hkb.out
      rcases hcut with ⟨rfl, hfull, h7⟩ | ⟨rfl, hfit, na, nc, D2, rfl, hD2, h7⟩
      · have c4 := breplace (ed := ed) (ad := ad) (a := a) (m := m) (n := kn) (L := K) HV.out HM.out (by rw [← Hvn.out]; exact Ham.out) Hkn.out (HK.out _) Hbr.out (by rw [← Hkb.out]; omega) (by rw [← Hkb.out]; omega) (by omega) (h7.ord [2])
        have C4 := Lib.hid c4
        have y0 : wc.cell? ⟨X, 0, none⟩ = some (.int .i64 a) := h7.cell (j := 0) rfl
        have y1 : wc.cell? ⟨X, 1, none⟩ = some (.int .i64 m) := h7.cell (j := 1) rfl
        have y2 : wc.cell? ⟨X, 2, none⟩ = some (.slice ka kn kc) := h7.cell (j := 2) rfl
        have Hfull := Lib.hid hfull
        clear c4 h7 hfull hB0
        go_wp2_with fail
        refine C4.out.mono ?_
        rintro e w5 hrp
        have hne : D ≠ [] := fun e => by have h1 := Hfull.out; rw [e] at h1; simp [bulkL] at h1
        obtain ⟨rfl, h8⟩ := rep_full hrp (by rw [Hnew.out, if_neg hne]; exact Hfull.out)
        have h8 := h8.ord [0, 1]
        have Cw := Lib.hid (whole_true (ed := ed) (ad := ad) HV.out HM.out Hvn.out (rdl_own Hvn.out List.mem_cons_self) (by omega) h8)
        clear h8 hrp C4 hne
        go_wp2_with fail
        refine Cw.out.mono ?_
        rintro e w6 ⟨rfl, h9⟩
        have H9 := Lib.hid (h9.p1.left (R := [_, _]) (R' := [_]))
        clear h9 Cw
        go_wp2_with fail
        go_roundg (gk - 1)
        case measure => omega
        case rel => exact ⟨i + 1, V, some ⟨lb, lo, none⟩, wcp, ed, ad, by omega, by go_num, by rw [← Hvn.out], HV.out, by omega, by omega, by rw [← Hvn.out]; exact H9.out⟩
      · have c4 := breplace (ed := ed) (ad := ad) (a := a) (m := m) (n := kn) (L := K) HV.out HM.out (by rw [← Hvn.out]; exact Ham.out) Hkn.out (HK.out _) Hbr.out (by rw [← Hkb.out]; omega) (by rw [← Hkb.out]; omega) (by omega) (h7.ord [2])
        have C4 := Lib.hid c4
        have y0 : wc.cell? ⟨X, 0, none⟩ = some (.int .i64 a) := h7.cell (j := 0) rfl
        have y1 : wc.cell? ⟨X, 1, none⟩ = some (.int .i64 m) := h7.cell (j := 1) rfl
        have y2 : wc.cell? ⟨X, 2, none⟩ = some (.slice ka kn kc) := h7.cell (j := 2) rfl
        obtain ⟨el, hel⟩ : ∃ el, el = D2.length := ⟨_, rfl⟩
        rw [← hel]
        have Hel := Lib.hid hel
        have Hfit := Lib.hid hfit
        have HD2 := Lib.hid hD2
        clear c4 h7 hfit hB0 hD2 hel
        go_wp2_with fail
        refine C4.out.mono ?_
        rintro e w5 hrp
        have hrl : repL V a m (newLs V K m) = D2 := by rw [Hnew.out, HD2.out]
        have hb2 : bulkL D2 ≤ 4096 := by
          rw [HD2.out]
          split
          · decide
          · exact Hfit.out
        obtain ⟨rfl, ed2, hed2, h8⟩ := rep_ok hrp (by rw [hrl]; exact hb2)
        have hBI : BufI D2 := by
          rw [← hrl]
          refine HV.out.rep (new_lf Hbr.out) ?_ (by rw [hrl]; exact hb2)
          rw [hrl, HD2.out]
          split
          · simp
          · assumption
        rw [hrl] at h8
        have h8 := h8.ord [0, 1]
        have hnb := @new_bulk V K m
        obtain ⟨ad2, had2⟩ : ∃ ad2, ad2 = ad + bulkL (newLs V K m) := ⟨_, rfl⟩
        rw [← had2, ← Hel.out] at h8
        have had3 : ad2 ≤ ad + 3001 := by have := Hkb.out; omega
        have Cw := Lib.hid (whole_true (ed := ed2) (ad := ad2) hBI HM.out Hel.out (rdl_own Hel.out List.mem_cons_self) (by omega) h8)
        have HBI := Lib.hid hBI
        clear h8 hrp C4 hnb hb2 hrl hBI had2
        go_wp2_with fail
        refine Cw.out.mono ?_
        rintro e w6 ⟨rfl, h9⟩
        have H9 := Lib.hid (h9.p1.left (R := [_, _]) (R' := [_]))
        clear h9 Cw
        go_wp2_with fail
        go_roundg (gk - 1)
        case measure => omega
        case rel => exact ⟨i + 1, D2, na, nc, ed2, ad2, by omega, by go_num, by rw [← Hel.out], HBI.out, by omega, by omega, by rw [← Hel.out]; exact H9.out⟩
end Go.Proofs.YtcdoomlagmddcaaGreatDoor
