/- The law IndexJoins on values that read. -/
import Derived.Test.YtbddehfcamgfhaaWtyped
namespace Go.Proofs.Ytbddehfcamgfhaa
open Go Go.RowKit Go.Fol
attribute [local go_sem ↓] Go.wp_at_zero Go.wp_at_succ
set_option linter.unusedVariables false
set_option linter.unusedSimpArgs false
theorem lstart_join (a b : List UInt8) : lstart (a ++ b) (brk a) = lstart a (brk a) := by
  unfold lstart
  rw [starts_append, List.getElem?_append_left (by rw [starts_len]; omega)]
theorem lnext_join (a b : List UInt8) : lnext (a ++ b) (brk a) = a.length + lnext b 0 := by
  unfold lnext
  have h : sf a.length b = (sf 0 b).map (· + a.length) := by have := sf_shift 0 a.length b; rwa [Nat.zero_add] at this
  rw [starts_append, List.append_assoc, List.getElem?_append_right (by rw [starts_len]; omega), starts_len, Nat.sub_self, h]
  cases hs : sf 0 b <;> simp [starts, hs] <;> omega
theorem lineAt_join (a b : List UInt8) : lineAt (a ++ b) a.length = brk a := by simp [lineAt]
/-- Two equal places are told equal. -/
theorem eql_pos (x y : Int) (w : World) : (binOp .eql 23 (.agg #[.int .i64 x, .int .i64 y]) (.agg #[.int .i64 x, .int .i64 y])).run Try.prog w = .ok (.bool true) w := by
  rw [run_eql_struct, show (10000 : Nat) = 9998 + 1 + 1 from rfl, run_equalIn_agg (ht := by kernel_rfl) (hp := by kernel_rfl)]
  obtain ⟨a, b, hf, ha, hb, na, nb, oa, ob⟩ : ∃ a b : Field, (Try.prog.fieldsOf 23).toList = [a, b] ∧ a.type = 3 ∧ b.type = 3 ∧ (a.name == "_") = false ∧ (b.name == "_") = false ∧ a.offset = 0 ∧ b.offset = 1 := ⟨(Try.prog.fieldsOf 23)[0]!, (Try.prog.fieldsOf 23)[1]!, by kernel_rfl, by kernel_rfl, by kernel_rfl, by kernel_rfl, by kernel_rfl, by kernel_rfl, by kernel_rfl⟩
  rw [hf]
  generalize (9998 : Nat) = d
  simp only [beq_eq_false_iff_ne, ne_eq] at na nb
  simp [Op.eqFields, go_sem, ha, hb, na, nb, oa, ob]
attribute [-go_sem] Go.run_eql_struct Go.run_string_add_if
set_option maxHeartbeats 2000000 in
set_option maxRecDepth 100000 in
theorem indexJoins_walk (w : World) (v0 v1 : Value) (a0 : Arg Try.prog w 9 v0) (a1 : Arg Try.prog w 9 v1) :
    Calls Try.prog 5 #[v0, v1] w fun e w' => e = .returned (.bool true) ∧ Below w.heap.size w w' := by
  obtain ⟨s, rfl, hs⟩ := arg_string Try.underlying9 a0
  obtain ⟨u, rfl, hu⟩ := arg_string Try.underlying9 a1
  clear a0 a1
  obtain ⟨a, ha⟩ : ∃ a, a = bytesOf s := ⟨_, rfl⟩
  obtain ⟨b, hb⟩ : ∃ b, b = bytesOf u := ⟨_, rfl⟩
  have hsz : s.size = a.length := by rw [ha, bytes_len]
  have huz : u.size = b.length := by rw [hb, bytes_len]
  have Ha := Lib.hid ha
  have Hb := Lib.hid hb
  have Hsz := Lib.hid hsz
  have Huz := Lib.hid huz
  clear ha hb hsz huz
  go_enter Try.func5, Try.ntmps5
  go_wp2_with fail
  refine (known_true (Owns.start w)).mono ?_
  rintro e w1 ⟨rfl, h1⟩
  have H1 := Lib.hid h1
  clear h1
  go_wp2_with fail
  all_goals first | (go_ret; exact ⟨rfl, H1.out.below⟩) | skip
  have hsm : s.size + u.size ≤ 300 := by omega
  refine (inew s H1.out (by omega)).mono ?_
  rintro e w2 ⟨x, rfl, h2⟩
  have H2 := Lib.hid h2
  clear h2 H1
  go_wp2_with fail
  refine (inew u H2.out (by omega)).mono ?_
  rintro e w3 ⟨y, rfl, h3⟩
  have H3 := Lib.hid h3
  clear h3 H2
  go_wp2_with fail
  refine (inew s H3.out (by omega)).mono ?_
  rintro e w4 ⟨z, rfl, h4⟩
  rw [← Ha.out, ← Hb.out] at h4
  have hins := iinsert (off := s.size) u h4 (by have := Hsz.out; omega) (by have := Hsz.out; omega)
  rw [List.take_of_length_le (by have := Hsz.out; omega), List.drop_eq_nil_of_le (by have := Hsz.out; omega), List.append_nil, ← Hb.out] at hins
  have Hins := Lib.hid hins
  clear h4 H3 hins
  go_wp2_with fail
  refine Hins.out.mono ?_
  rintro e w5 ⟨rfl, h5⟩
  have hbka := brk_le a
  have hbkb := brk_le b
  obtain ⟨n, hn⟩ : ∃ n, n = brk a := ⟨_, rfl⟩
  obtain ⟨m, hm⟩ : ∃ m, m = brk b := ⟨_, rfl⟩
  have Lx := ilines h5.p2
  have Ly := ilines h5.p1
  have Lz := ilines h5
  have Ex := ilen h5.p2
  have Ey := ilen h5.p1
  have Ez := ilen h5
  rw [brk_append] at Lz
  rw [List.length_append] at Ez
  have Sx := isize_in (h := brk a) h5.p2 (by omega) (by have := Hsz.out; omega)
  have Sy := isize_in (h := 0) h5.p1 (by omega) (by have := Huz.out; omega)
  have Sz := isize_in (h := brk a) h5 (by rw [brk_append]; omega) (by rw [List.length_append]; have := Huz.out; have := Hsz.out; omega)
  have Az := iat_in (off := s.size) h5 (by rw [List.length_append]; have := Hsz.out; omega) (by rw [List.length_append]; have := Huz.out; have := Hsz.out; omega)
  rw [lstart_join, lnext_join] at Sz
  rw [lnext_last rfl] at Sx
  rw [lstart_zero] at Sy
  rw [Hsz.out, lineAt_join, lstart_join] at Az
  have hls := lstart_le a (brk a)
  have hln := lnext_le (t := b) (h := 0) (by omega)
  rw [← hn] at Lx Lz Sx Sz Az hls hbka
  rw [← hm] at Ly Lz hbkb
  rw [← Hsz.out] at Ex Ez Sx Sz Az hls hbka
  rw [← Huz.out] at Ey Ez hln hbkb
  generalize lstart a n = p at *
  generalize lnext b 0 = q at *
  have hn3 : n ≤ 300 := by omega
  have hm3 : m ≤ 300 := by omega
  have hq3 : q ≤ 301 := by omega
  have hp3 : p ≤ 300 := by omega
  rw [show ((s.size + 1 : Nat) : Int) - 1 - p = (s.size : Int) - p by omega] at Sx
  rw [show (q : Int) - 1 - ((0 : Nat) : Int) = (q : Int) - 1 by omega] at Sy
  rw [show ((s.size + q : Nat) : Int) - 1 - p = (s.size : Int) - p + ((q : Int) - 1) by omega] at Sz
  rw [show ((n + m : Nat) : Int) + 1 = (n : Int) + 1 + ((m : Int) + 1) - 1 by omega] at Lz
  rw [show ((s.size + u.size : Nat) : Int) = (s.size : Int) + u.size by omega] at Ez
  replace Lx := Lib.hid Lx
  replace Ly := Lib.hid Ly
  replace Lz := Lib.hid Lz
  replace Ex := Lib.hid Ex
  replace Ey := Lib.hid Ey
  replace Ez := Lib.hid Ez
  replace Sx := Lib.hid Sx
  replace Sy := Lib.hid Sy
  replace Sz := Lib.hid Sz
  replace Az := Lib.hid Az
  have Hn := Lib.hid hn
  have Hm := Lib.hid hm
  have hw1 : IntKind.i64.wrap ((n : Int) + 1 - 1) = n := by rw [IntKind.wrap_i64] <;> omega
  clear hn hm h5 Hins
  go_wp2_with fail
  refine Lz.out.mono ?_
  rintro e w' ⟨rfl, rfl⟩
  go_wp2_with fail
  refine Lx.out.mono ?_
  rintro e w' ⟨rfl, rfl⟩
  go_wp2_with fail
  refine Ly.out.mono ?_
  rintro e w' ⟨rfl, rfl⟩
  go_wp2_with fail
  refine Ez.out.mono ?_
  rintro e w' ⟨rfl, rfl⟩
  go_wp2_with fail
  refine Ex.out.mono ?_
  rintro e w' ⟨rfl, rfl⟩
  go_wp2_with fail
  refine Ey.out.mono ?_
  rintro e w' ⟨rfl, rfl⟩
  go_wp2_with fail
  refine Lx.out.mono ?_
  rintro e w' ⟨rfl, rfl⟩
  go_wp2_with fail
  refine Sx.out.mono ?_
  rintro e w' ⟨rfl, rfl⟩
  go_wp2_with fail
  refine Sy.out.mono ?_
  rintro e w' ⟨rfl, rfl⟩
  go_wp2_with fail
  refine Lx.out.mono ?_
  rintro e w' ⟨rfl, rfl⟩
  go_wp2_with fail
  refine Sz.out.mono ?_
  rintro e w' ⟨rfl, rfl⟩
  go_wp2_with fail
  refine Az.out.mono ?_
  rintro e w6 ⟨rfl, h6⟩
  have h7 := h6.alloc #[.int .i64 n, .int .i64 ((s.size : Int) - p)] 23
  obtain ⟨W, hW⟩ : ∃ W, w6.alloc (.cells #[.int .i64 n, .int .i64 ((s.size : Int) - p)] 23) = W := ⟨_, rfl⟩
  rw [hW] at h7
  obtain ⟨c, hc⟩ : ∃ c, c = w6.heap.size := ⟨_, rfl⟩
  rw [← hc] at h7
  have HW := Lib.hid hW
  have HC := Lib.hid hc
  clear h6 hW hc
  go_wp2_with fail
  rw [HW.out, ← HC.out]
  clear HW HC
  have c0 : W.cell? ⟨c, 0, none⟩ = some (.int .i64 n) := h7.cell (j := 0) rfl
  have c1 : W.cell? ⟨c, 1, none⟩ = some (.int .i64 ((s.size : Int) - p)) := h7.cell (j := 1) rfl
  have Lx1 := ilines h7.drew.p3
  rw [← Hn.out] at Lx1
  replace Lx1 := Lib.hid Lx1
  have h8 := h7.drew.p1
  rw [Ha.out, Hb.out, ← bytes_append] at h8
  have hwh := whole_true _ h8 (by rw [ByteArray.size_append]; omega)
  have Hwh := Lib.hid hwh
  clear hwh h8 h7 Lx Ly Lz Ex Ey Ez Sx Sy Sz Az
  have hw2 : IntKind.i64.wrap ((s.size : Int) - p + ((q : Int) - 1)) = (s.size : Int) - p + ((q : Int) - 1) := by rw [IntKind.wrap_i64] <;> omega
  have hd2 : decide ((s.size : Int) - p + ((q : Int) - 1) = (s.size : Int) - p + ((q : Int) - 1)) = true := by simp
  have hcat := fun w => run_string_add (P := Try.prog) w s u (by omega) (by omega)
  have hw3 : IntKind.i64.wrap (n : Int) = n := by rw [IntKind.wrap_i64] <;> omega
  have heq := fun w => eql_pos n ((s.size : Int) - p) w
  go_region_held3 (fun w' => w'.cell? ⟨c, 0, none⟩ = some (.int .i64 n) ∧ w'.cell? ⟨c, 1, none⟩ = some (.int .i64 ((s.size : Int) - p))) (first | go_keep | exact ⟨s0, s1⟩)
    (first
      | (go_at_call 14; refine Lx1.out.mono ?_; rintro e w' ⟨rfl, rfl⟩)
      | (go_at_call 14; refine Lx2.out.mono ?_; rintro e w' ⟨rfl, rfl⟩)
      | (go_at_call 17; refine Hwh.out.mono ?_; rintro e w7 ⟨rfl, h9⟩; have s0 : w7.cell? ⟨c, 0, none⟩ = some (.int .i64 n) := h9.p1.cell (j := 0) rfl; have s1 : w7.cell? ⟨c, 1, none⟩ = some (.int .i64 ((s.size : Int) - p)) := h9.p1.cell (j := 1) rfl; have hlx2 := ilines h9.p3; rw [← Ha.out, ← Hn.out] at hlx2; have Lx2 := Lib.hid hlx2; have Hend := Lib.hid h9.below; clear h9 hlx2))
  all_goals go_wp2_with fail
  all_goals go_ret
  all_goals exact ⟨rfl, Hend.out⟩
end Go.Proofs.Ytbddehfcamgfhaa
