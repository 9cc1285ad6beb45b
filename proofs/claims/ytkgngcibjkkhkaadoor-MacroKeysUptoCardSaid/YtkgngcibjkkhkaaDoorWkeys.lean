/- The law MacroKeys on values that read, of a bulk that is bounded. -/
import Derived.Test.YtkgngcibjkkhkaaDoorMX
import Derived.Test.YtkgngcibjkkhkaaDoorMB
import Derived.Test.YtkgngcibjkkhkaaDoorMH
import Derived.Test.YtkgngcibjkkhkaaDoorRead
import Derived.Test.YtkgngcibjkkhkaaDoorRows
import Derived.Deep.RegionWith
namespace Go.Proofs.YtkgngcibjkkhkaaDoor
open Go Go.RowKit Go.Fol
attribute [local go_sem ↓] Go.wp_at_zero Go.wp_at_succ
set_option linter.unusedVariables false
set_option linter.unusedSimpArgs false
/-- An argument of bytes, as letters. -/
theorem arg_letters {w : World} {v : Value} (a : Arg Tryd.prog w 22 v) : ∃ l : List UInt8, SrcV w 1 v l.length (kints .u8 (bn l)) ∧ l.length ≤ 140737488351232 := by
  obtain ⟨K, hl, hlb, hwf⟩ := arg_kind (kd := .u8) (B := 1) Tryd.underlying22 Tryd.underlying5 (by kernel_rfl) (by kernel_rfl) a
  have hb : bytesN K := fun x hx => wf_u8 (hwf x hx)
  refine ⟨nb K, ?_, by simp [nb]; omega⟩
  rw [bn_nb hb]
  simpa [nb] using hl
/-- A register. -/
theorem arg_reg {w : World} {v : Value} {B : Nat} (a : Arg Tryd.prog w 33 v) (b : RdB Tryd.prog w 33 v.cells.toList B) :
    ∃ (k : Int) (L : List (List UInt8)) (sa : Option Addr) (sc : Nat), v = .agg #[.int .i64 k, .slice sa L.length sc] ∧ SrcV w 1 (.slice sa L.length sc) L.length (lstrs L) ∧ bulkL L ≤ B := by
  obtain ⟨cs, rfl, hl, hf⟩ := arg_struct Tryd.underlying33 a
  have hl2 : cs.size = 2 := hl
  obtain ⟨c0, c1, hcs⟩ : ∃ c0 c1, cs = #[c0, c1] := by
    obtain ⟨l⟩ := cs
    match l, hl2 with
    | [a, b], _ => exact ⟨a, b, rfl⟩
  subst hcs
  obtain ⟨k, hk, _⟩ := rd_int Tryd.underlying3 (hf 0 _ rfl)
  obtain ⟨_, hg⟩ := rdb_struct Tryd.underlying33 b
  obtain ⟨L, sa, sc, hL, hs, hB⟩ := rdb_strs Tryd.underlying31 Tryd.underlying9 (by kernel_rfl) (hg 1 _ rfl)
  have hk : [c0] = [.int .i64 k] := hk
  have hL : [c1] = [.slice sa L.length sc] := hL
  cases hk; cases hL
  exact ⟨k, L, sa, sc, rfl, hs, hB⟩
theorem linesL_le : ∀ l : List UInt8, (linesL l).length ≤ l.length + 1
  | [] => by simp [linesL]
  | b :: l => by
    have ih := linesL_le l
    unfold linesL
    split
    · simp; omega
    · split
      · simp
      · rename_i h; rw [h] at ih; simp at ih ⊢; omega
theorem keys_lines (l : List UInt8) : keysL 0 (linesL l) = l := by
  unfold keysL
  rw [if_neg (by decide), List.append_nil, join_lines]
set_option maxHeartbeats 8000000 in
set_option maxRecDepth 100000 in
theorem macroKeys_walk (w : World) (v0 v1 : Value) (a0 : Arg Tryd.prog w 33 v0) (a1 : Arg Tryd.prog w 22 v1) (b0 : RdB Tryd.prog w 33 v0.cells.toList 1048576) (b1 : RdB Tryd.prog w 22 v1.cells.toList 1048576) (hL : laidMetH Tryd.prog Rows.macroKeysUptoRow.laid w) (hS : w.ShapedOpen Tryd.prog) :
    Calls Tryd.prog 4 #[v0, v1] w fun e w' => e = .returned (.bool true) ∧ Below w.heap.size w w' := by
  obtain ⟨k, L, sa, sc, rfl, hs, hB⟩ := arg_reg a0 b0
  obtain ⟨l, hl, hlb⟩ := arg_letters a1
  obtain ⟨n, hn⟩ : ∃ n, n = l.length := ⟨_, rfl⟩
  obtain ⟨N, hN⟩ : ∃ N, N = L.length := ⟨_, rfl⟩
  rw [← hn] at hl hlb
  rw [← hN] at hs ⊢
  obtain ⟨ka, kc, rfl⟩ := hl.form
  have hN63 := hs.n63
  have hj : (joinL L).length ≤ 1500000 := by have := joinL_bulk L; omega
  have HM : Hid (MaxInt w) := Lib.hid (maxInt_of hS)
  have h1 := (Owns.start w).alloc #[.int .i64 k, .slice sa N sc] 33
  obtain ⟨Y, hY⟩ : ∃ Y, Y = w.heap.size := ⟨_, rfl⟩
  rw [← hY] at h1
  have HY := Lib.hid hY
  have H1 := Lib.hid h1
  have HK : Hid (∀ R : List Asrt, Reads w R 1 (.slice ka n kc) n (kints .u8 (bn l))) := Lib.hid (fun R => Reads.old hl)
  have HS : Hid (∀ R : List Asrt, Reads w R 1 (.slice sa N sc) N (lstrs L)) := Lib.hid (fun R => Reads.old hs)
  have Hn := Lib.hid hn
  have HN := Lib.hid hN
  have Hj := Lib.hid hj
  clear a0 a1 b0 b1 hL hS hs hB hl hY h1 hn hN hj
  go_enter Tryd.func4, Tryd.ntmps4
  go_wp2_with fail
  rw [← HY.out]
  refine (known_true HM.out H1.out).mono ?_
  rintro e w1 ⟨rfl, h2⟩
  have y0 : w1.cell? ⟨Y, 0, none⟩ = some (.int .i64 k) := h2.cell (j := 0) rfl
  have y1 : w1.cell? ⟨Y, 1, none⟩ = some (.slice sa N sc) := h2.cell (j := 1) rfl
  have H2 := Lib.hid h2
  clear h2 H1 HY
  by_cases hN20 : N ≤ 20
  rotate_left
  · go_wp2_with fail
    go_ret
    exact ⟨rfl, H2.out.below⟩
  by_cases hn200 : n ≤ 200
  rotate_left
  · go_wp2_with fail
    go_ret
    exact ⟨rfl, H2.out.below⟩
  obtain ⟨m, hpl⟩ := wplaceAll k
  have Hpl := Lib.hid hpl
  clear hpl
  go_upto_region 5 with (fail)
  go_cut [5] from 17 to 22 (fun v wx => ∃ X : Nat, v = .pointer (some ⟨X, 0, none⟩) ∧ Owns w wx [Asrt.obj X (.cells #[.int .i64 m, .slice sa N sc] 33 (0, 0)), Asrt.obj Y (.cells #[.int .i64 k, .slice sa N sc] 33 (0, 0))])
  case first =>
    have y0a := cell_alloc y0 (.cells #[.int .i64 0, .slice none 0 0] 33)
    have y1a := cell_alloc y1 (.cells #[.int .i64 0, .slice none 0 0] 33)
    go_region_with (first | (go_at_call 14; refine (Hpl.out _).mono ?_; rintro e wp ⟨rfl, rfl⟩))
    all_goals
      go_wp2_with fail
      go_meet
      exact ⟨_, rfl, (H2.out.alloc _ _).drew⟩
  case rest =>
  obtain ⟨X, rfl, h5⟩ := hcut
  have x0 : wc.cell? ⟨X, 0, none⟩ = some (.int .i64 m) := h5.cell (j := 0) rfl
  have x1 : wc.cell? ⟨X, 1, none⟩ = some (.slice sa N sc) := h5.cell (j := 1) rfl
  have H5 := Lib.hid (h5.drew)
  clear h5 H2 y0 y1 Hpl
  obtain ⟨kl, hkl⟩ : ∃ kl, kl = keysL m L := ⟨_, rfl⟩
  have hNl : N ≤ 1000000 := by omega
  have HcF : Hid (∀ (W : World) (R : List Asrt) (q : List UInt8) (a : Option Addr) (c : Nat), Owns w W R → Asrt.src 1 (.slice a q.length c) q.length (kints .u8 (bn q)) ∈ R → (convert 22 9 (.slice a q.length c)).run Tryd.prog W = .ok (.string (bs q)) W) :=
    Lib.hid (fun W R q a c h hm => run_bytes_str Tryd.underlying22 Tryd.underlying5 Tryd.underlying9 ((h.mem hm).src))
  have HcK : Hid (∀ (W : World) (R : List Asrt), Owns w W R → (convert 22 9 (.slice ka n kc)).run Tryd.prog W = .ok (.string (bs l)) W) :=
    Lib.hid (fun W R h => run_bytes_str Tryd.underlying22 Tryd.underlying5 Tryd.underlying9 (HK.out R W h))
  have Hkeys : Hid (∀ (W : World) (R : List Asrt), Owns w W R → Calls Tryd.prog 15 #[.agg #[.int .i64 m, .slice sa N sc]] W (RetX (fun v : Value => v) w (fun v => Asrt.src 1 v kl.length (kints .u8 (bn kl)) :: R))) :=
    Lib.hid (fun W R h => by have := mkeys (k := m) (L := L) (a := sa) (c := sc) h (by rw [← HN.out]; exact HS.out R) Hj.out (by rw [← HN.out]; exact hNl); rw [← hkl, ← HN.out] at this; exact this)
  have Hwkeys : Hid (∀ (W : World) (R : List Asrt), Owns w W R → Calls Tryd.prog 16 #[.agg #[.int .i64 m, .slice sa N sc]] W (RetX (fun v : Value => v) w (fun v => Asrt.src 1 v kl.length (kints .u8 (bn kl)) :: R))) :=
    Lib.hid (fun W R h => by have := wkeysOf (k := m) (L := L) (a := sa) (c := sc) h (by rw [← HN.out]; exact HS.out R) Hj.out (by rw [← HN.out]; exact hNl); rw [← hkl, ← HN.out] at this; exact this)
  obtain ⟨ll, hll⟩ : ∃ ll, ll = linesL l := ⟨_, rfl⟩
  obtain ⟨ln, hln⟩ : ∃ ln, ln = ll.length := ⟨_, rfl⟩
  have hl5 : l.length ≤ 100000 := by have := Hn.out; omega
  have Hreg : Hid (∀ (W : World) (R : List Asrt), Owns w W R → Calls Tryd.prog 18 #[.slice ka n kc] W (RetX (fun x : Option Addr × Nat => .agg #[.int .i64 0, .slice x.1 ln x.2]) w (fun x => row_str (.slice x.1 ln x.2) ln (lstrs ll) :: R))) :=
    Lib.hid (fun W R h => by have := mreg (l := l) hl5 Hn.out HM.out h (HK.out R); rw [← hll, ← hln] at this; exact this)
  have Hwreg : Hid (∀ (W : World) (R : List Asrt), Owns w W R → Calls Tryd.prog 19 #[.slice ka n kc] W (RetX (fun x : Option Addr × Nat => .agg #[.int .i64 0, .slice x.1 ln x.2]) w (fun x => row_str (.slice x.1 ln x.2) ln (lstrs ll) :: R))) :=
    Lib.hid (fun W R h => by have := wregOf (l := l) hl5 Hn.out h (HK.out R); rw [← hll, ← hln] at this; exact this)
  have Heq : Hid (∀ (W : World) (R : List Asrt) (a b : Option Addr) (c d : Nat), Owns w W R → row_str (.slice a ln c) ln (lstrs ll) ∈ R → row_str (.slice b ln d) ln (lstrs ll) ∈ R → Calls Tryd.prog 17 #[.agg #[.int .i64 0, .slice a ln c], .agg #[.int .i64 0, .slice b ln d]] W (Ret (.bool true) w R)) :=
    Lib.hid (fun W R a b c d h h1 h2 => by
      have e : ln = (ll.map bs).length := by rw [List.length_map, hln]
      exact hreg (k := 0) (va := .slice a ln c) (vb := .slice b ln d) (A := ll.map bs) h (by rw [← e]; exact Reads.row h1) (by rw [← e]; exact Reads.row h2))
  have Hback : Hid (∀ (W : World) (R : List Asrt) (a : Option Addr) (c : Nat), Owns w W R → row_str (.slice a ln c) ln (lstrs ll) ∈ R → Calls Tryd.prog 15 #[.agg #[.int .i64 0, .slice a ln c]] W (RetX (fun v : Value => v) w (fun v => Asrt.src 1 v n (kints .u8 (bn l)) :: R))) :=
    Lib.hid (fun W R a c h h1 => by
      have hb : (joinL ll).length ≤ 1500000 := by rw [hll, join_lines]; omega
      have hb2 : ll.length ≤ 1000000 := by rw [hll]; have := linesL_le l; omega
      have := mkeys (k := 0) (L := ll) (a := a) (c := c) h (by rw [← hln]; exact Reads.row h1) hb hb2
      rw [show keysL 0 ll = l by rw [hll, keys_lines], ← Hn.out, ← hln] at this
      exact this)
  have heq1 : ((bs kl).toList == (bs kl).toList) = true := by simp
  have heq2 : ((bs l).toList == (bs l).toList) = true := by simp
  have cK0 := HcK.out _ _ H5.out
  clear hkl hll hln hl5 hNl
  go_upto_region 6 with (fail)
  go_region_with
    (first
      | ((go_at_call 15; (with_reducible refine (Hkeys.out _ _ H5.out).mono ?_); rintro e w1 ⟨u1, rfl, h1⟩; obtain ⟨a1, c1, rfl⟩ := h1.src.form; have cv1 := HcF.out _ _ _ _ _ h1 List.mem_cons_self; have xa0 := (h1.ord [1]).cell (j := 0) rfl; have xa1 := (h1.ord [1]).cell (j := 1) rfl; have H1 := Lib.hid h1; clear h1))
      | ((go_at_call 16; (with_reducible refine (Hwkeys.out _ _ H1.out).mono ?_); rintro e w2 ⟨u2, rfl, h2⟩; obtain ⟨a2, c2, rfl⟩ := h2.src.form; have cv2 := HcF.out _ _ _ _ _ h2 List.mem_cons_self; have cv12 := HcF.out _ _ _ _ _ h2 (List.mem_cons_of_mem _ List.mem_cons_self); have H2 := Lib.hid h2; clear h2))
      | ((go_at_call 18; (with_reducible refine (Hreg.out _ _ H2.out).mono ?_); rintro e w3 ⟨⟨a3, c3⟩, rfl, h3⟩; have H3 := Lib.hid h3; clear h3))
      | ((go_at_call 19; (with_reducible refine (Hwreg.out _ _ H3.out).mono ?_); rintro e w4 ⟨⟨a4, c4⟩, rfl, h4⟩; have H4 := Lib.hid h4; clear h4))
      | ((go_at_call 17; (with_reducible refine (Heq.out _ _ _ _ _ _ H4.out (List.mem_cons_of_mem _ List.mem_cons_self) List.mem_cons_self).mono ?_); rintro e w5 ⟨rfl, h5⟩; have cK5 := HcK.out _ _ h5; have H6 := Lib.hid h5; clear h5))
      | ((go_at_call 18; (with_reducible refine (Hreg.out _ _ H6.out).mono ?_); rintro e w6 ⟨⟨a6, c6⟩, rfl, h6⟩; have cK6 := HcK.out _ _ h6; have H7 := Lib.hid h6; clear h6))
      | ((go_at_call 15; (with_reducible refine (Hback.out _ _ _ _ H7.out List.mem_cons_self).mono ?_); rintro e w7 ⟨u7, rfl, h7⟩; obtain ⟨a7, c7, rfl⟩ := h7.src.form; have cK7 := HcK.out _ _ h7; have cv7 := HcF.out _ _ _ _ _ (by rw [Hn.out] at h7; exact h7) List.mem_cons_self; rw [← Hn.out] at cv7; have H8 := Lib.hid h7; clear h7)))
  all_goals
    go_wp2_with fail
    go_ret
    exact ⟨rfl, H8.out.below⟩
end Go.Proofs.YtkgngcibjkkhkaaDoor
