/- The law IndexPlaces on values that read. DRAFT: the loop; not built yet. -/
import Derived.Test.YtbddehfcamgfhaaIA
namespace Go.Proofs.Ytbddehfcamgfhaa
open Go Go.RowKit Go.Fol
attribute [local go_sem ↓] Go.wp_at_zero Go.wp_at_succ
set_option linter.unusedVariables false
set_option linter.unusedSimpArgs false
/-- The starts that the law's loop has before its round i. -/
def pst (t : List UInt8) : Nat → List Nat
  | 0 => []
  | j + 1 => starts (t.take j)
theorem pst_zero (t : List UInt8) : pst t 1 = [0] := by simp [pst, starts, sf]
theorem pst_step {t : List UInt8} {j : Nat} {c : UInt8} (h : t[j]? = some c) : pst t (j + 2) = pst t (j + 1) ++ if c = 10 then [j + 1] else [] := by
  have := sf_take 0 h sf_append
  simp only [pst, starts, this, List.cons_append]
  split <;> simp
theorem pst_all (t : List UInt8) : pst t (t.length + 1) = starts t := by simp [pst]
theorem pst_len (t : List UInt8) (i : Nat) : (pst t i).length ≤ i := by
  cases i with
  | zero => simp [pst]
  | succ j => have := brk_le (t.take j); simp [pst, starts_len] at *; omega
/-- A place, as an argument. -/
theorem arg_pos {w : World} {v : Value} (h : Arg Try.prog w 23 v) : ∃ x y : Int, v = .agg #[.int .i64 x, .int .i64 y] ∧ (Lit.int .i64 x).wf = true ∧ (Lit.int .i64 y).wf = true := by
  obtain ⟨a, b, hu, ta, tb, oa, ob⟩ : ∃ a b : Field, Try.prog.underlying 23 = some (.struct #[a, b]) ∧ a.type = 3 ∧ b.type = 3 ∧ a.offset = 0 ∧ b.offset = 1 := ⟨(Try.prog.fieldsOf 23)[0]!, (Try.prog.fieldsOf 23)[1]!, by kernel_rfl, by kernel_rfl, by kernel_rfl, by kernel_rfl, by kernel_rfl⟩
  obtain ⟨cs, rfl, hl, hf⟩ := arg_struct hu h
  have h2 : Try.prog.cellsOf 23 = 2 := by kernel_rfl
  have h1 : Try.prog.cellsOf 3 = 1 := by kernel_rfl
  rw [h2] at hl
  have r0 := hf 0 a rfl
  have r1 := hf 1 b rfl
  rw [ta, oa, h1] at r0
  rw [tb, ob, h1] at r1
  obtain ⟨x, hx, wx⟩ := rd_int Try.underlying3 r0
  obtain ⟨y, hy, wy⟩ := rd_int Try.underlying3 r1
  obtain ⟨l⟩ := cs
  match l, hl with
  | [c, d], _ =>
    simp at hx hy
    exact ⟨x, y, by rw [hx, hy], wx, wy⟩
set_option maxHeartbeats 2000000 in
set_option maxRecDepth 100000 in
theorem indexPlaces_walk (w : World) (v0 v1 v2 v3 : Value) (a0 : Arg Try.prog w 9 v0) (a1 : Arg Try.prog w 3 v1) (a2 : Arg Try.prog w 23 v2) (a3 : Arg Try.prog w 3 v3) :
    Calls Try.prog 3 #[v0, v1, v2, v3] w fun e w' => e = .returned (.bool true) ∧ Below w.heap.size w w' := by
  obtain ⟨s, rfl, hs⟩ := arg_string Try.underlying9 a0
  obtain ⟨off, rfl, hoff⟩ := arg_int Try.underlying3 a1
  obtain ⟨pl, pc, rfl, hpl, hpc⟩ := arg_pos a2
  obtain ⟨line, rfl, hline⟩ := arg_int Try.underlying3 a3
  clear a0 a1 a2 a3
  have hoff := wf_i64 hoff
  have hpl := wf_i64 hpl
  have hpc := wf_i64 hpc
  have hline := wf_i64 hline
  obtain ⟨t, ht⟩ : ∃ t, t = bytesOf s := ⟨_, rfl⟩
  have hsz : s.size = t.length := by rw [ht, bytes_len]
  have h1 := (Owns.start w).alloc #[.int .i64 pl, .int .i64 pc] 23
  obtain ⟨W, hW⟩ : ∃ W, w.alloc (.cells #[.int .i64 pl, .int .i64 pc] 23) = W := ⟨_, rfl⟩
  rw [hW] at h1
  obtain ⟨B, hB⟩ : ∃ B, B = w.heap.size := ⟨_, rfl⟩
  rw [← hB] at h1
  have Ht := Lib.hid ht
  have Hsz := Lib.hid hsz
  have HW := Lib.hid hW
  have HB := Lib.hid hB
  have H1 := Lib.hid h1
  have Hoff := Lib.hid hoff
  have Hpl := Lib.hid hpl
  have Hpc := Lib.hid hpc
  have Hline := Lib.hid hline
  clear ht hsz hW hB h1 hoff hpl hpc hline
  go_enter Try.func3, Try.ntmps3
  go_upto_region 1 with (fail)
  rw [HW.out, ← HB.out]
  clear HW
  go_wp2_with fail
  refine (known_true H1.out).mono ?_
  rintro e w1 ⟨rfl, h2⟩
  have H2 := Lib.hid h2
  clear h2 H1
  go_wp2_with fail
  all_goals first | (go_ret; exact ⟨rfl, H2.out.below⟩) | skip
  have hsm : s.size ≤ 200 := by omega
  refine (inew s H2.out (by omega)).mono ?_
  rintro e w2 ⟨x, rfl, h3⟩
  rw [← Ht.out] at h3
  have H3 := Lib.hid h3
  clear h3 H2
  go_wp2_with fail
  go_loopw [10, 11] (fun sv q wr => ∃ i : Nat, q = .int .i64 i ∧ i ≤ s.size + 1 ∧ Owns w wr (row_int sv (pst t i).length (ints ((pst t i).map (fun n : Nat => (n : Int)))) :: [Asrt.idx x t, Asrt.obj B (.cells #[.int .i64 pl, .int .i64 pc] 23 (0, 0))])) (fun _ q _ => s.size + 1 - (intOf q).toNat)
  case atStart => exact ⟨0, rfl, Nat.zero_le _, H3.out.rowNil 3 1⟩
  case round =>
    obtain ⟨i, rfl, hi, h4⟩ := hrel
    have H4 := Lib.hid h4
    obtain ⟨ra, rc, rfl⟩ := row_slice h4.row
    clear h4
    have hpn := pst_len t i
    by_cases hlt : i ≤ s.size
    · rcases i with _ | j
      · have h7 := (H4.out.alloc #[.int .i64 ((0 : Nat) : Int)] 3).p1
        obtain ⟨s', w6, hr, h8⟩ := app_int (x := .slice (some ⟨wr.heap.size, 0, none⟩) 1 1) (m := 1) (vs := [.int .i64 ((0 : Nat) : Int)]) h7 (Reads.obj (b := wr.heap.size) (k := 1) (n := 1) (t := 3) (f := (0, 0)) (cs := #[.int .i64 ((0 : Nat) : Int)]) (by simp) (by decide) (by decide) (by simp)) (by simp [Value.oneCell']) (by unfold maxLen; omega) (by omega)
        have h9 := h8.p1.drop
        have H9 := Lib.hid h9
        clear h7 h8 h9
        go_wp2_with (at_builtin; refine Lib.wpList_append_run _ rfl _ _ _ _ rfl _ _ rfl rfl _ _ (hr _) ?_)
        go_roundw
        case rel => exact ⟨1, by go_num, by omega, H9.out⟩
        case measure => simp [intOf]
      · have hj : j < s.size := by omega
        have hc : t[j]? = some s[j] := by rw [Ht.out]; exact bytes_get s hj
        have hst := pst_step hc
        have Hst := Lib.hid hst
        clear hc hst
        have hsub : IntKind.i64.wrap (((j + 1 : Nat) : Int) - 1) = j := by rw [IntKind.wrap_i64] <;> omega
        by_cases h10 : s[j] = 10
        · have h10' := byte_eq h10
          have h7 := (H4.out.alloc #[.int .i64 ((j + 1 : Nat) : Int)] 3).p1
          obtain ⟨s', w6, hr, h8⟩ := app_int (x := .slice (some ⟨wr.heap.size, 0, none⟩) 1 1) (m := 1) (vs := [.int .i64 ((j + 1 : Nat) : Int)]) h7 (Reads.obj (b := wr.heap.size) (k := 1) (n := 1) (t := 3) (f := (0, 0)) (cs := #[.int .i64 ((j + 1 : Nat) : Int)]) (by simp) (by decide) (by decide) (by simp)) (by simp [Value.oneCell']) (by unfold maxLen; omega) (by omega)
          have h9 := h8.p1.drop
          rw [show [Value.int .i64 ((j + 1 : Nat) : Int)] = ints [((j + 1 : Nat) : Int)] from by simp [ints], ← ints_append] at h9
          have H9 := Lib.hid h9
          have H10 := Lib.hid h10
          clear h7 h8 h9 h10
          go_wp2_with (at_builtin; refine Lib.wpList_append_run _ rfl _ _ _ _ rfl _ _ rfl rfl _ _ (hr _) ?_)
          go_roundw
          case rel => exact ⟨j + 2, by go_num, by omega, by rw [Hst.out, if_pos H10.out, List.map_append, List.length_append]; exact H9.out⟩
          case measure => simp [intOf]; omega
        · have h10' := byte_ne h10
          have H10 := Lib.hid h10
          clear h10
          go_wp2_with fail
          go_roundw
          case rel => exact ⟨j + 2, by go_num, by omega, by rw [Hst.out, if_neg H10.out, List.append_nil]; exact H4.out⟩
          case measure => simp [intOf]; omega
    · obtain rfl : i = s.size + 1 := by omega
      have h5 := H4.out
      have hsum : IntKind.i64.wrap ((s.size : Int) + 1) = (s.size : Int) + 1 := by rw [IntKind.wrap_i64] <;> omega
      have hpa : pst t (s.size + 1) = starts t := by rw [Hsz.out, pst_all]
      have h7 := (h5.alloc #[.int .i64 ((s.size : Int) + 1)] 3).p1
      obtain ⟨s', w6, hr, h8⟩ := app_int (x := .slice (some ⟨wr.heap.size, 0, none⟩) 1 1) (m := 1) (vs := [.int .i64 ((s.size : Int) + 1)]) h7 (Reads.obj (b := wr.heap.size) (k := 1) (n := 1) (t := 3) (f := (0, 0)) (cs := #[.int .i64 ((s.size : Int) + 1)]) (by simp) (by decide) (by decide) (by simp)) (by simp [Value.oneCell']) (by unfold maxLen; omega) (by omega)
      have h9 := h8.p1.drop
      rw [show [Value.int .i64 ((s.size : Int) + 1)] = ints [((t.length + 1 : Nat) : Int)] from by simp [ints, ← Hsz.out], ← ints_append, hpa] at h9
      obtain ⟨S, hS⟩ : ∃ S, S = (starts t).map (fun n : Nat => (n : Int)) ++ [((t.length + 1 : Nat) : Int)] := ⟨_, rfl⟩
      obtain ⟨n, hn⟩ : ∃ n, n = brk t + 1 := ⟨_, rfl⟩
      rw [starts_len, ← hn, ← hS] at h9
      obtain ⟨g, cap, rfl, hcap⟩ := rowform h9 (by omega)
      have hnb := brk_le t
      have hn201 : n ≤ 201 := by have := Hsz.out; omega
      have hbt : t.length ≤ 1000000 := by have := Hsz.out; omega
      have hcell : ∀ k, k ≤ n → w6.cell? ⟨g, k, none⟩ = some (.int .i64 (bnd t k : Int)) := fun k hk => rowcells h9 (by rw [hS]; exact bnd_cell (by omega))
      have Hcell := Lib.hid hcell
      have H9 := Lib.hid h9
      have HS := Lib.hid hS
      have Hn := Lib.hid hn
      have Hbt := Lib.hid hbt
      clear h5 h7 h8 h9 hS hn hnb hbt hcell hpa
      go_wp2_with (at_builtin; refine Lib.wpList_append_run _ rfl _ _ _ _ rfl _ _ rfl rfl _ _ (hr _) ?_)
      obtain ⟨bi, hbi⟩ : ∃ b, b = inl t line := ⟨_, rfl⟩
      obtain ⟨sv, hsv⟩ : ∃ b, b = stv t line := ⟨_, rfl⟩
      obtain ⟨kv, hkv⟩ : ∃ b, b = szv t line := ⟨_, rfl⟩
      obtain ⟨bp, hbp⟩ : ∃ b, b = inp t pl pc := ⟨_, rfl⟩
      obtain ⟨ov, hov⟩ : ∃ b, b = ofv t pl pc := ⟨_, rfl⟩
      have c1 := istart_any line H9.out.p1
      have c2 := isize_any line H9.out.p1 Hbt.out
      have c3 := fun q => ioff_any pl pc (H9.out.drewN q).p1 Hbt.out
      rw [← hsv, ← hbi] at c1
      rw [← hkv, ← hbi] at c2
      rw [← hov, ← hbp] at c3
      have C1 := Lib.hid c1
      have C2 := Lib.hid c2
      have C3 := Lib.hid c3
      have Hbi := Lib.hid hbi
      have Hsv := Lib.hid hsv
      have Hkv := Lib.hid hkv
      have Hbp := Lib.hid hbp
      have Hov := Lib.hid hov
      clear c1 c2 c3 hbi hsv hkv hbp hov
      refine C1.out.mono ?_
      rintro e w' ⟨rfl, rfl⟩
      go_wp2_with fail
      refine C2.out.mono ?_
      rintro e w' ⟨rfl, rfl⟩
      go_upto_region 16 with (fail)
      go_cut [17] (fun v wx => v = .bool bi ∧ w6 = wx)
      case first => as_aux_lemma =>
        have hn := Hn.out
        by_cases hc0 : 0 ≤ line
        · by_cases hc1 : line < (n : Int)
          all_goals
            have hb : bi = decide (line < (n : Int)) := by rw [Hbi.out, inl, hn]; simp [hc0]
            have Hb := Lib.hid hb
            clear hb hn
            go_wp2_with fail
            go_meet
            exact ⟨by rw [Hb.out]; congr 1; simp; omega, rfl⟩
        · have hb : bi = false := by rw [Hbi.out, inl]; simp [hc0]
          have Hb := Lib.hid hb
          clear hb hn
          go_wp2_with fail
          go_meet
          exact ⟨by rw [Hb.out], rfl⟩
      case rest =>
        obtain ⟨rfl, rfl⟩ := hcut
        have b0 : w6.cell? ⟨B, 0, none⟩ = some (.int .i64 pl) := H9.out.p2.cell (j := 0) rfl
        have b1 : w6.cell? ⟨B, 1, none⟩ = some (.int .i64 pc) := H9.out.p2.cell (j := 1) rfl
        go_upto_region 17 with (fail)
        go_cut [122] (fun v wx => v = .bool false ∧ ∃ nq : Nat, w6.drewN nq = wx)
        case first => as_aux_lemma =>
         cases bi with
         | true =>
          have hin : 0 ≤ line ∧ line < (brk t : Int) + 1 := by have := Hbi.out; simpa [inl] using this.symm
          obtain ⟨h, rfl⟩ := Int.eq_ofNat_of_zero_le hin.1
          have hhn : h < n := by have := Hn.out; omega
          obtain ⟨p, hp⟩ : ∃ p, p = bnd t h := ⟨_, rfl⟩
          obtain ⟨q, hq⟩ : ∃ q, q = bnd t (h + 1) := ⟨_, rfl⟩
          have hp1 := bnd_le (t := t) (k := h) (by omega)
          have hq1 := bnd_le (t := t) (k := h + 1) (by omega)
          rw [← hp] at hp1
          rw [← hq] at hq1
          have hsz := Hsz.out
          obtain rfl : sv = p := by rw [Hsv.out, stv, ← Hbi.out, if_pos rfl, hp, Int.toNat_natCast, ← bnd_start (by omega)]
          obtain rfl : kv = (q : Int) - 1 - p := by rw [Hkv.out, szv, ← Hbi.out, if_pos rfl, hp, hq, Int.toNat_natCast, ← bnd_next, ← bnd_start (by omega)]
          have k1 := Hcell.out h (by omega)
          have k2 := Hcell.out (h + 1) (by omega)
          rw [← hp] at k1
          rw [← hq] at k2
          have hp3 : p ≤ 201 := by omega
          have hq3 : q ≤ 201 := by omega
          have hh3 : h ≤ 201 := by omega
          have i1 : (0 : Int) ≤ (h : Int) := by omega
          have i2 : (h : Int) < ((n + 1 : Nat) : Int) := by omega
          have i3 : (0 : Int) ≤ (h : Int) + 1 := by omega
          have i4 : (h : Int) + 1 < ((n + 1 : Nat) : Int) := by omega
          have i5 : ((h : Int) + 1).toNat = h + 1 := by omega
          have w1 : IntKind.i64.wrap ((h : Int) + 1) = (h : Int) + 1 := by rw [IntKind.wrap_i64] <;> omega
          have w2 : IntKind.i64.wrap ((q : Int) - 1) = (q : Int) - 1 := by rw [IntKind.wrap_i64] <;> omega
          have w3 : IntKind.i64.wrap ((q : Int) - 1 - p) = (q : Int) - 1 - p := by rw [IntKind.wrap_i64] <;> omega
          clear hp hq hp1 hq1 hsz hin
          go_wp2_with fail
          go_quiet (fail)
          go_wp2_with fail
          go_meet
          exact ⟨rfl, _, rfl⟩
         | false =>
          obtain rfl : sv = 0 := by rw [Hsv.out, stv, ← Hbi.out, if_neg (by simp)]
          obtain rfl : kv = 0 := by rw [Hkv.out, szv, ← Hbi.out, if_neg (by simp)]
          go_wp2_with fail
          go_quiet (fail)
          go_wp2_with fail
          go_meet
          exact ⟨rfl, _, rfl⟩
        case rest =>
        obtain ⟨rfl, nq, rfl⟩ := hcut
        go_wp2_with fail
        refine (C3.out nq).mono ?_
        rintro e w8 ⟨rfl, h10⟩
        have b0 : w8.cell? ⟨B, 0, none⟩ = some (.int .i64 pl) := h10.p2.cell (j := 0) rfl
        have b1 : w8.cell? ⟨B, 1, none⟩ = some (.int .i64 pc) := h10.p2.cell (j := 1) rfl
        have hcell : ∀ k, k ≤ n → w8.cell? ⟨g, k, none⟩ = some (.int .i64 (bnd t k : Int)) := fun k hk => rowcells (h10.ord [1]) (by rw [HS.out]; exact bnd_cell (by have := Hn.out; omega))
        have H10 := Lib.hid h10
        have Hcell2 := Lib.hid hcell
        clear h10 hcell Hcell H9 C1 C2 C3
        go_upto_region 20 with (fail)
        go_cut [20] (fun v wx => v = .bool bp ∧ ∃ nq : Nat, w8.drewN nq = wx)
        case first => as_aux_lemma =>
          have hcell := Hcell2.out
          by_cases hg0 : 0 ≤ pl
          · by_cases hg1 : pl < (n : Int)
            · have hpc3 := Hpc.out
              have hin : 0 ≤ pl ∧ pl < (brk t : Int) + 1 := ⟨hg0, by have := Hn.out; omega⟩
              obtain ⟨h, rfl⟩ := Int.eq_ofNat_of_zero_le hin.1
              have hbv : bp = decide (0 ≤ pc ∧ pc ≤ (bnd t (h + 1) : Int) - 1 - bnd t h) := by rw [Hbp.out, inp, bnd_next, bnd_start (by omega)]; simp [hin.2]
              have hhn : h < n := by have := Hn.out; omega
              obtain ⟨p, hp⟩ : ∃ p, p = bnd t h := ⟨_, rfl⟩
              obtain ⟨q, hq⟩ : ∃ q, q = bnd t (h + 1) := ⟨_, rfl⟩
              have hp1 := bnd_le (t := t) (k := h) (by omega)
              have hq1 := bnd_le (t := t) (k := h + 1) (by omega)
              rw [← hp, ← hq] at hbv
              rw [← hp] at hp1
              rw [← hq] at hq1
              have hsz := Hsz.out
              have Hbv := Lib.hid hbv
              clear hbv
              have k1 := hcell h (by omega)
              have k2 := hcell (h + 1) (by omega)
              rw [← hp] at k1
              rw [← hq] at k2
              have hp3 : p ≤ 201 := by omega
              have hq3 : q ≤ 201 := by omega
              have hh3 : h ≤ 201 := by omega
              have i1 : (0 : Int) ≤ (h : Int) := by omega
              have i2 : (h : Int) < ((n + 1 : Nat) : Int) := by omega
              have i3 : (0 : Int) ≤ (h : Int) + 1 := by omega
              have i4 : (h : Int) + 1 < ((n + 1 : Nat) : Int) := by omega
              have i5 : ((h : Int) + 1).toNat = h + 1 := by omega
              have w1 : IntKind.i64.wrap ((h : Int) + 1) = (h : Int) + 1 := by rw [IntKind.wrap_i64] <;> omega
              have w2 : IntKind.i64.wrap ((q : Int) - 1) = (q : Int) - 1 := by rw [IntKind.wrap_i64] <;> omega
              have w3 : IntKind.i64.wrap ((q : Int) - 1 - p) = (q : Int) - 1 - p := by rw [IntKind.wrap_i64] <;> omega
              by_cases hg2 : 0 ≤ pc
              · clear hp hq hp1 hq1 hsz hin hcell hpc3
                have hd : bp = decide (pc ≤ (q : Int) - 1 - p) := by rw [Hbv.out]; simp [hg2]
                have Hd := Lib.hid hd
                clear hd
                go_wp2_with fail
                go_quiet (fail)
                go_wp2_with fail
                go_meet
                exact ⟨by rw [Hd.out], _, rfl⟩
              · have hd : bp = false := by rw [Hbv.out]; simp [hg2]
                have Hd := Lib.hid hd
                have hg3 : decide (0 ≤ pc) = false := by simpa using hg2
                clear hp hq hp1 hq1 hsz hin hcell hd hpc3
                go_wp2_with fail
                go_quiet (fail)
                go_wp2_with fail
                go_meet
                exact ⟨by rw [Hd.out], _, rfl⟩
            · have hd : bp = false := by rw [Hbp.out, inp]; have := Hn.out; simp; omega
              have Hd := Lib.hid hd
              have hg3 : decide (pl < (n : Int)) = false := by simpa using hg1
              clear hd hcell
              go_wp2_with fail
              go_quiet (fail)
              go_wp2_with fail
              go_meet
              exact ⟨by rw [Hd.out], _, rfl⟩
          · have hd : bp = false := by rw [Hbp.out, inp]; simp; omega
            have Hd := Lib.hid hd
            have hg3 : decide (0 ≤ pl) = false := by simpa using hg0
            clear hd hcell
            go_wp2_with fail
            go_quiet (fail)
            go_wp2_with fail
            go_meet
            exact ⟨by rw [Hd.out], _, rfl⟩
        case rest =>
        obtain ⟨rfl, nq2, rfl⟩ := hcut
        go_upto_region 21 with (fail)
        go_cut [186] (fun v wx => v = .bool false ∧ ∃ nq : Nat, (w8.drewN nq2).drewN nq = wx)
        case first => as_aux_lemma =>
         have hcell := Hcell2.out
         cases bp with
         | true =>
          have hpc3 := Hpc.out
          have hin0 : 0 ≤ pl ∧ pl < (brk t : Int) + 1 ∧ 0 ≤ pc ∧ pc ≤ (lnext t pl.toNat : Int) - 1 - lstart t pl.toNat := by have := Hbp.out; simpa [inp] using this.symm
          have hin : 0 ≤ pl ∧ pl < (brk t : Int) + 1 := ⟨hin0.1, hin0.2.1⟩
          obtain ⟨h, rfl⟩ := Int.eq_ofNat_of_zero_le hin.1
          have hpc2 := hin0.2.2
          rw [Int.toNat_natCast, ← bnd_next, ← bnd_start (by omega)] at hpc2
          have hhn : h < n := by have := Hn.out; omega
          obtain ⟨p, hp⟩ : ∃ p, p = bnd t h := ⟨_, rfl⟩
          obtain ⟨q, hq⟩ : ∃ q, q = bnd t (h + 1) := ⟨_, rfl⟩
          have hp1 := bnd_le (t := t) (k := h) (by omega)
          have hq1 := bnd_le (t := t) (k := h + 1) (by omega)
          rw [← hp, ← hq] at hpc2
          rw [← hp] at hp1
          rw [← hq] at hq1
          have hsz := Hsz.out
          obtain rfl : ov = (p : Int) + pc := by rw [Hov.out, ofv, ← Hbp.out, if_pos rfl, hp, Int.toNat_natCast, ← bnd_start (by omega)]
          have k1 := hcell h (by omega)
          have k2 := hcell (h + 1) (by omega)
          rw [← hp] at k1
          rw [← hq] at k2
          have hp3 : p ≤ 201 := by omega
          have hq3 : q ≤ 201 := by omega
          have hh3 : h ≤ 201 := by omega
          have i1 : (0 : Int) ≤ (h : Int) := by omega
          have i2 : (h : Int) < ((n + 1 : Nat) : Int) := by omega
          have i3 : (0 : Int) ≤ (h : Int) + 1 := by omega
          have i4 : (h : Int) + 1 < ((n + 1 : Nat) : Int) := by omega
          have i5 : ((h : Int) + 1).toNat = h + 1 := by omega
          have w1 : IntKind.i64.wrap ((h : Int) + 1) = (h : Int) + 1 := by rw [IntKind.wrap_i64] <;> omega
          have w4 : IntKind.i64.wrap ((p : Int) + pc) = (p : Int) + pc := by rw [IntKind.wrap_i64] <;> omega
          have w2 : IntKind.i64.wrap ((q : Int) - 1) = (q : Int) - 1 := by rw [IntKind.wrap_i64] <;> omega
          have w3 : IntKind.i64.wrap ((q : Int) - 1 - p) = (q : Int) - 1 - p := by rw [IntKind.wrap_i64] <;> omega

          clear hp hq hp1 hq1 hsz hin hin0 hcell hpc3 hpc2
          go_wp2_with fail
          go_quiet (fail)
          go_wp2_with fail
          go_meet
          exact ⟨rfl, _, rfl⟩
         | false =>
          obtain rfl : ov = 0 := by rw [Hov.out, ofv, ← Hbp.out, if_neg (by simp)]
          clear hcell
          go_wp2_with fail
          go_quiet (fail)
          go_wp2_with fail
          go_meet
          exact ⟨rfl, _, rfl⟩
        case rest =>
        obtain ⟨rfl, nq3, rfl⟩ := hcut
        go_wp2_with fail
        obtain ⟨px, qx, hat⟩ := iat_any off (H10.out.drewN (nq2 + nq3)) Hbt.out
        have Hat := Lib.hid hat
        clear hat
        refine Hat.out.mono ?_
        rintro e w9 ⟨rfl, h11⟩
        rw [← Hsz.out]
        have H11 := Lib.hid (h11.alloc0 (.cells #[.int .i64 px, .int .i64 qx] 23))
        clear h11 Hat b0 b1
        by_cases ho0 : 0 ≤ off
        · go_wp2_with fail
          go_ret
          exact ⟨by simp [ho0], H11.out.below⟩
        · go_wp2_with fail
          go_ret
          exact ⟨by simp [ho0], H11.out.below⟩
end Go.Proofs.Ytbddehfcamgfhaa
