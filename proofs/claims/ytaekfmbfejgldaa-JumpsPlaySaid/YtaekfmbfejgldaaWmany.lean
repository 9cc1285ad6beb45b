/- The law JumpsMany on values that read. -/
import Derived.Test.YtaekfmbfejgldaaKnown
import Derived.Test.YtaekfmbfejgldaaRowInt
import Derived.Test.YtaekfmbfejgldaaRead
namespace Go.Proofs.Ytaekfmbfejgldaa
open Go Go.RowKit Go.Fol
attribute [local go_sem] Oper.semAt_some
set_option linter.unusedVariables false
set_option linter.unusedSimpArgs false

/-- the lines of places. -/
def linesOf (L : List (Int × Int)) : List Int := L.map (·.1)
theorem lines_push (L : List (Int × Int)) (p : Int × Int) : linesOf (pushL L p) = ((linesOf L).filter (fun y => y != p.1) ++ [p.1]).drop (((linesOf L).filter (fun y => y != p.1) ++ [p.1]).length - 16) := by
  simp [linesOf, pushL, List.map_drop, List.filter_map, Function.comp_def]
theorem push_lines (L : List (Int × Int)) (x c : Int) : (pushL L (x, c)).length = min 16 (((linesOf L).filter (fun y => y != x)).length + 1) := by
  rw [pushL_len, linesOf, List.filter_map, List.length_map]
  rfl
theorem filter_take {l : List Int} {k : Nat} {y : Int} (h : l[k]? = some y) (x : Int) : (l.take (k + 1)).filter (fun y => y != x) = (l.take k).filter (fun y => y != x) ++ if y != x then [y] else [] := by
  obtain ⟨h1, h2⟩ := List.getElem?_eq_some_iff.1 h
  rw [List.take_succ_eq_append_getElem h1, List.filter_append, h2]
  simp only [List.filter_cons, List.filter_nil]

set_option maxHeartbeats 4000000 in
set_option maxRecDepth 100000 in
theorem jumpsMany_walk (w : World) (v0 : Value) (a0 : Arg Try.prog w 22 v0) :
    Calls Try.prog 4 #[v0] w fun e w' => e = .returned (.bool true) ∧ Below w.heap.size w w' := by
  obtain ⟨l, hl, hlb, hwf⟩ := arg_kind (kd := .u8) (B := 1) Try.underlying22 Try.underlying5 (by kernel_rfl) (by kernel_rfl) a0
  obtain ⟨n, hn⟩ : ∃ n, n = l.length := ⟨_, rfl⟩
  rw [← hn] at hl hlb
  obtain ⟨la, lc, rfl⟩ := hl.form
  have hl63 := hl.n63
  have Hl := Lib.hid hl
  have Hn := Lib.hid hn
  have Hwf := Lib.hid hwf
  clear a0 hl hn hwf
  go_enter Try.func4, Try.ntmps4
  go_wp2_with fail
  refine (known_true (Owns.start w)).mono ?_
  rintro e w1 ⟨rfl, h1⟩
  have H1 := Lib.hid h1
  clear h1
  go_wp2_with fail
  all_goals first | (go_ret; exact ⟨rfl, H1.out.below⟩) | skip
  refine (jnew H1.out).mono ?_
  rintro e w2 ⟨j, rfl, h2⟩
  have H2 := Lib.hid h2
  clear h2 H1
  go_wp2_with fail
  go_loopg [4, 5] n (fun gk s q wr => ∃ (i : Nat) (L : List (Int × Int)), gk + i = n ∧ q = .int .i64 i ∧ L.length ≤ 16 ∧ Owns w wr [Asrt.jumps j L L.length, Asrt.src 1 s L.length (ints (linesOf L))])
  case atStart => exact ⟨0, [], rfl, rfl, by decide, H2.out.srcNil.p1⟩
  case round =>
    obtain ⟨i, L, hgi, rfl, hL, h3⟩ := hrel
    obtain ⟨sa, sc, rfl⟩ := h3.p1.src.form
    have H3 := Lib.hid h3
    clear h3
    by_cases hlt : i < n
    · obtain ⟨lb, lo, lc', e1, hlc, _, hce⟩ := Hl.out.cells (by omega) (by decide)
      cases e1
      have hx := kints_get .u8 l (i := i) (by have := Hn.out; omega)
      obtain ⟨x, hxe⟩ : ∃ x, x = l[i]?.getD 0 := ⟨_, rfl⟩
      rw [← hxe] at hx
      have cx0 := hce i _ hx
      have hxr : 0 ≤ x ∧ x ≤ 255 := by
        have h := Hwf.out x (by
          rw [hxe]
          have hi : i < l.length := by have := Hn.out; omega
          rw [List.getElem?_eq_getElem hi]
          exact List.getElem_mem hi)
        exact wf_u8 h
      have hx1 : 0 ≤ x := hxr.1
      have hx2 : x ≤ 255 := hxr.2
      have cx : wr.cell? ⟨lb, lo + i, none⟩ = some (.int .u8 x) := H3.out.chg.cell cx0 (by simp)
      have Cx := Lib.hid cx0
      have hi60 : i ≤ 60 := by omega
      clear hx hce hxe hxr cx0
      go_wp2_with fail
      refine (jpush x i H3.out (Nat.le_refl _) hL).mono ?_
      rintro e w4 ⟨rfl, h4⟩
      have H4 := Lib.hid h4
      obtain ⟨M, hM⟩ : ∃ M, M = linesOf L := ⟨_, rfl⟩
      have hMl : M.length = L.length := by rw [hM]; simp [linesOf]
      have HM := Lib.hid hM
      have HMl := Lib.hid hMl
      clear h4 H3 cx hM hMl
      go_wp2_with fail
      go_loopw [6, 7] (fun sv kk wi => ∃ (k m : Nat), k ≤ L.length ∧ kk = .int .i64 k ∧ m = ((M.take k).filter (fun y => y != x)).length ∧ Owns w wi [row_int sv m (ints ((M.take k).filter (fun y => y != x))), Asrt.jumps j (pushL L (x, (i : Int))) (pushL L (x, (i : Int))).length, Asrt.src 1 (.slice sa L.length sc) L.length (ints (linesOf L))]) (fun _ kk _ => L.length - (intOf kk).toNat)
      case atStart => exact ⟨0, 0, Nat.zero_le _, rfl, rfl, H4.out.rowNil 3 1⟩
      case round =>
        obtain ⟨k, m, hk, rfl, hm, h5⟩ := hrel
        have hm16 : m ≤ L.length := by rw [hm]; exact Nat.le_trans (List.length_filter_le _ _) (by simp; omega)
        have Hm := Lib.hid hm
        have H5 := Lib.hid h5
        obtain ⟨ra, rc, rfl⟩ := row_slice h5.row
        clear h5 hm
        by_cases hlk : k < L.length
        · obtain ⟨sb, so, sc', e1, hsc, _, hse⟩ := H5.out.p2.src.cells (by omega) (by decide)
          cases e1
          obtain ⟨y, hy⟩ : ∃ y, M[k]? = some y := ⟨_, List.getElem?_eq_getElem (by have := HMl.out; omega)⟩
          have cy := hse k (.int .i64 y) (by rw [← HM.out]; simp [ints, hy])
          have cx := H5.out.chg.cell Cx.out (by simp)
          have hft := filter_take hy x
          have Hft := Lib.hid hft
          clear hse hy hft
          by_cases hyx : y = x
          · have hyx' : (y != x) = false := by simp [hyx]
            clear hyx
            go_wp2
            go_quiet (fail)
            go_wp2
            go_roundw
            case rel => exact ⟨k + 1, m, by omega, by go_num, by rw [Hft.out, hyx', if_neg (by simp), List.append_nil]; exact Hm.out, by rw [Hft.out, hyx', if_neg (by simp), List.append_nil]; exact H5.out.drewN _⟩
            case measure => simp [intOf]; omega
          · have hyx' : (y != x) = true := by simp [hyx]
            have Hyx := Lib.hid hyx'
            have hyb : ((y : Int) == x) = false := by simp [hyx]
            clear hyx'
            go_wp2
            go_quiet (fail)
            have h6 := ((H5.out.alloc #[.int .i64 y] 3).drewN nq).p1
            obtain ⟨s', w6, hr, h7⟩ := app_int (x := .slice (some ⟨wr.heap.size, 0, none⟩) 1 1) (m := 1) (vs := [.int .i64 y]) h6 (Reads.obj (b := wr.heap.size) (k := 1) (n := 1) (t := 3) (f := (0, 0)) (cs := #[.int .i64 y]) (by simp) (by decide) (by decide) (by simp)) (by simp [Value.oneCell']) (by unfold maxLen; omega) (by omega)
            have h8 := h7.p1.drop
            rw [show [Value.int .i64 y] = ints [y] from rfl, ← ints_append] at h8
            have H8 := Lib.hid h8
            clear h6 h7 h8
            go_wp2_with (at_builtin; refine Lib.wpList_append_run _ rfl _ _ _ _ rfl _ _ rfl rfl _ _ (hr _) ?_)
            go_roundw
            case rel => exact ⟨k + 1, m + 1, by omega, by go_num, by rw [Hft.out, Hyx.out, if_pos rfl, List.length_append, ← Hm.out]; rfl, by rw [Hft.out, Hyx.out, if_pos rfl]; exact H8.out⟩
            case measure => simp [intOf]; omega
        · obtain rfl : k = L.length := by omega
          have cx := H5.out.chg.cell Cx.out (by simp)
          have htk : M.take L.length = M := List.take_of_length_le (by have := HMl.out; omega)
          have hm := Hm.out
          have h5 := H5.out
          rw [htk] at hm h5
          have h6 := (h5.alloc #[.int .i64 x] 3).p1
          obtain ⟨s', w6, hr, h7⟩ := app_int (x := .slice (some ⟨wr.heap.size, 0, none⟩) 1 1) (m := 1) (vs := [.int .i64 x]) h6 (Reads.obj (b := wr.heap.size) (k := 1) (n := 1) (t := 3) (f := (0, 0)) (cs := #[.int .i64 x]) (by simp) (by decide) (by decide) (by simp)) (by simp [Value.oneCell']) (by unfold maxLen; omega) (by omega)
          rw [show [Value.int .i64 x] = ints [x] from rfl, ← ints_append] at h7
          obtain ⟨N, hN⟩ : ∃ N, N = M.filter (fun y => y != x) ++ [x] := ⟨_, rfl⟩
          have hNl : N.length = m + 1 := by rw [hN, hm]; simp
          have hpl : (pushL L (x, (i : Int))).length = min 16 (m + 1) := by rw [push_lines, ← HM.out, ← hm]
          have hln : linesOf (pushL L (x, (i : Int))) = N.drop (N.length - 16) := by rw [lines_push, ← HM.out, hN]
          rw [← hN] at h7
          have h8 := ((h7.srcOfRow (by decide)).ord [0, 1])
          have h9 : Owns w w6 [Asrt.src 1 s' (m + 1) (ints N), Asrt.jumps j (pushL L (x, (i : Int))) (pushL L (x, (i : Int))).length] := Owns.left (R := [_, _]) (R' := [_, _]) h8
          obtain ⟨s1, s2, rfl⟩ := h9.src.form
          have H9 := Lib.hid h9
          have Hpl := Lib.hid hpl
          have Hln := Lib.hid hln
          have HNl := Lib.hid hNl
          clear h5 h6 h7 h8 h9 hpl hln hNl hN htk hm Hm H5
          by_cases h16 : m + 1 ≤ 16
          · have h16' : ¬ ((16 : Int) < (m : Int) + 1) := by omega
            go_wp2_with (at_builtin; refine Lib.wpList_append_run _ rfl _ _ _ _ rfl _ _ rfl rfl _ _ (hr _) ?_)
            go_roundg (gk - 1)
            case measure => omega
            case rel => exact ⟨i + 1, pushL L (x, (i : Int)), by omega, by go_num, by rw [Hpl.out]; omega, by rw [Hln.out, HNl.out, Hpl.out, Nat.min_eq_right h16, show m + 1 - 16 = 0 by omega, List.drop_zero]; rw [Hpl.out, Nat.min_eq_right h16] at H9; exact H9.out.p1⟩
          · have h16' : ((16 : Int) < (m : Int) + 1) := by omega
            have hcap : m + 1 ≤ s2 := H9.out.src.cap
            have h1c : 1 ≤ s2 := by omega
            have h10 := H9.out.srcPost (q := 1) (a2 := Option.map (fun x => { block := x.block, off := x.off + 1 }) s1) (by omega) (by rw [if_neg (by omega)]; rfl)
            rw [← ints_drop] at h10
            have H10 := Lib.hid h10
            clear h10
            go_wp2_with (at_builtin; refine Lib.wpList_append_run _ rfl _ _ _ _ rfl _ _ rfl rfl _ _ (hr _) ?_)
            go_roundg (gk - 1)
            case measure => omega
            case rel => exact ⟨i + 1, pushL L (x, (i : Int)), by omega, by go_num, by rw [Hpl.out]; omega, by
              have h := H10.out
              obtain rfl : m = 16 := by omega
              rw [Hpl.out, show min 16 (16 + 1) = 16 from rfl] at h ⊢
              rw [Hln.out, HNl.out]
              exact h.p1⟩
    · obtain rfl : i = n := by omega
      go_wp2_with fail
      refine (jall H3.out hL).mono ?_
      rintro e w4 ⟨s, rfl, h4⟩
      obtain ⟨ra, rc, rfl⟩ := row_slice h4.p1.row
      have H4 := Lib.hid h4
      clear h4
      have Hmapl := Lib.hid (show (linesOf L).length = L.length by simp [linesOf])
      go_wp2_with fail
      go_loopw [10] (fun q wi => ∃ k : Nat, k ≤ L.length ∧ q = .int .i64 k ∧ Owns w wi [Asrt.jumps j L L.length, row_pos (.slice ra L.length rc) L.length (poss L), Asrt.src 1 (.slice sa L.length sc) L.length (ints (linesOf L))]) (fun q _ => L.length - (intOf q).toNat)
      case atStart => exact ⟨0, Nat.zero_le _, rfl, H4.out⟩
      case round =>
        obtain ⟨k, hk, rfl, h5⟩ := hrel
        have H5 := Lib.hid h5
        clear h5
        by_cases hlk : k < L.length
        · obtain ⟨p, hp⟩ : ∃ p, L[k]? = some p := ⟨_, List.getElem?_eq_getElem hlk⟩
          obtain ⟨sb, so, sc', e1, hsc, _, hse⟩ := H5.out.p2.src.cells (by omega) (by decide)
          cases e1
          have cy := hse k (.int .i64 p.1) (by simp [ints, linesOf, hp])
          rcases row_form H5.out.p1.row with ⟨_, h, _⟩ | ⟨g, cap, cur, e2, _, hnc, hmx, _⟩
          · omega
          cases e2
          have cz := H5.out.p1.row.cells (g := g) rfl _ _ (poss_get hp).1
          rw [Addr.add_lit, Nat.zero_add] at cz
          clear hse hp
          go_wp2
          go_quiet (fail)
          go_wp2
          go_roundw
          case rel => exact ⟨k + 1, by omega, by go_num, H5.out.drewN _⟩
          case measure => simp [intOf]; omega
        · obtain rfl : k = L.length := by omega
          go_wp2
          go_ret
          exact ⟨rfl, H5.out.below⟩
end Go.Proofs.Ytaekfmbfejgldaa
