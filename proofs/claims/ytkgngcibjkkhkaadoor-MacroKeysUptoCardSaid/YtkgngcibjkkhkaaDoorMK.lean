/- Registers' keys; registers held against one another. -/
import Derived.Test.YtkgngcibjkkhkaaDoorML
import Derived.Test.YtkgngcibjkkhkaaDoorMN
import Derived.Test.YtkgngcibjkkhkaaDoorShelf
import Derived.Test.YtkgngcibjkkhkaaDoorRowStr
import Derived.Shelf.Vars
namespace Go.Proofs.YtkgngcibjkkhkaaDoor
open Go Go.RowKit Go.Fol
attribute [local go_sem ↓] Go.wp_at_zero Go.wp_at_succ
set_option linter.unusedVariables false
set_option linter.unusedSimpArgs false
abbrev lstrs (L : List (List UInt8)) : List Value := strs (L.map bs)
theorem lstrs_len (L : List (List UInt8)) : (lstrs L).length = L.length := by simp [lstrs, strs]
/-- The library's own variable holds some int. -/
def MaxInt (w : World) : Prop := ∃ m : Int, w.cell? ⟨0, 0, none⟩ = some (.int .i64 m)
theorem maxInt_of {w : World} (h : w.ShapedOpen Tryd.prog) : MaxInt w :=
  Go.Proofs.cell_of_shapedOpen_int (g := 0) (t := 3) h (by decide +kernel) (zero := #[.int .i64 0]) (by kernel_rfl) rfl (by kernel_rfl) (by kernel_rfl) Tryd.underlying3
theorem maxInt_keep {w w' : World} (h : MaxInt w) (c : Chg [] w w') : MaxInt w' := by
  obtain ⟨m, h⟩ := h
  exact ⟨m, c.cell h (by simp)⟩
section
variable {w0 w : World} {R : List Asrt}
theorem ljoin {a : Option Addr} {c : Nat} {L : List (List UInt8)} (H : Owns w0 w R) (hk : Reads w0 R 1 (.slice a L.length c) L.length (lstrs L)) (hl : (joinL L).length ≤ 2000000) (hL : L.length ≤ 1000000) :
    Calls Tryd.prog 29 #[.slice a L.length c, .string ⟨#[10]⟩] w (Ret (.string (bs (joinL L))) w0 R) := by
  by_cases h0 : L.length = 0
  · obtain rfl : L = [] := List.eq_nil_of_length_eq_zero h0
    refine (Tryd.strings_Join_none a c ⟨#[10]⟩ w).mono ?_
    rintro e w' ⟨rfl, rfl⟩
    exact ⟨rfl, H⟩
  · obtain ⟨b, o, c', e1, hc, _, hce⟩ := (hk w H).cells (by omega) (by decide)
    cases e1
    have hmap : (L.map bs).map (·.data.toList) = L := by
      rw [List.map_map]
      conv => rhs; rw [← List.map_id L]
      rfl
    have hb : b < w.heap.size := by
      have hj := hce 0 _ (strs_get (L.map bs) (k := 0) (by rw [List.length_map]; omega))
      exact World.block_lt_of_cell? w _ hj
    have hj := Tryd.strings_Join b o c (L.map bs) ⟨#[10]⟩ w (fun j x hx => by
      have := hce j (.string x) (by simp [lstrs, strs]; simpa using hx)
      exact this) hb (by rw [List.length_map]; omega) (by rw [List.length_map]; exact hc) (by rw [hmap]; show (joinL L).length ≤ _; omega)
    rw [hmap, List.length_map] at hj
    refine hj.mono ?_
    rintro e w' ⟨rfl, h⟩
    exact ⟨rfl, H.quiet (Go.Fol.Below.chg h)⟩
set_option maxHeartbeats 1000000 in
theorem mkeys {k : Int} {a : Option Addr} {c : Nat} {L : List (List UInt8)} (H : Owns w0 w R) (hk : Reads w0 R 1 (.slice a L.length c) L.length (lstrs L)) (hl : (joinL L).length ≤ 1500000) (hL : L.length ≤ 1000000) :
    Calls Tryd.prog 15 #[.agg #[.int .i64 k, .slice a L.length c]] w (RetX (fun v : Value => v) w0 (fun v => Asrt.src 1 v (keysL k L).length (kints .u8 (bn (keysL k L))) :: R)) := by
  have h1 := H.alloc #[.int .i64 k, .slice a L.length c] 33
  have hj := ljoin h1 hk.cons (by omega) hL
  have k0 : (w.alloc (.cells #[.int .i64 k, .slice a L.length c] 33)).cell? ⟨w.heap.size, 0, none⟩ = some (.int .i64 k) := h1.cell (j := 0) rfl
  have k1 : (w.alloc (.cells #[.int .i64 k, .slice a L.length c] 33)).cell? ⟨w.heap.size, 1, none⟩ = some (.slice a L.length c) := h1.cell (j := 1) rfl
  have Hj := Lib.hid hj
  have hl2 : (keysL k L).length ≤ 2000000 := by unfold keysL; rw [List.length_append]; split <;> simp <;> omega
  obtain ⟨n, hn⟩ : ∃ n, n = L.length := ⟨_, rfl⟩
  rw [← hn] at k0 k1 ⊢
  have Hn := Lib.hid hn
  clear H hk h1 hj hn hL
  rw [Hn.out] at k0 k1 ⊢
  by_cases hk1 : k = 1
  · subst hk1
    have hkl : keysL 1 L = joinL L ++ [10] := by unfold keysL; rw [if_pos rfl]
    rw [hkl] at hl2 ⊢
    have hcat : ∀ w, (Op.stringOp .add (bs (joinL L)) (⟨#[10]⟩ : ByteArray)).run Tryd.prog w = .ok (.string (bs (joinL L ++ [10]))) w := fun w => run_bs_cat (b := [10]) (by simp; omega) w
    clear hkl
    go_enter Tryd.func15, Tryd.ntmps15
    go_wp2_with fail
    refine Hj.out.mono ?_
    rintro e w2 ⟨rfl, h2⟩
    have k0 : w2.cell? ⟨w.heap.size, 0, none⟩ = some (.int .i64 1) := h2.cell (j := 0) rfl
    obtain ⟨v, w3, hrun, h3⟩ := Owns.bytesOf (P := Tryd.prog) (tS := 9) (tB := 22) (tb := 5) Tryd.underlying22 Tryd.underlying5 Tryd.underlying9 hl2 h2
    have H3 := Lib.hid h3
    clear h2 h3 Hj
    go_wp2_with fail
    go_ret
    exact ⟨v, rfl, H3.out.p1.drop⟩
  · have hkl : keysL k L = joinL L := by unfold keysL; rw [if_neg hk1, List.append_nil]
    rw [hkl] at hl2 ⊢
    have hkf : (k == 1) = false := beq_eq_false_iff_ne.2 hk1
    clear hkl hk1
    go_enter Tryd.func15, Tryd.ntmps15
    go_wp2_with fail
    refine Hj.out.mono ?_
    rintro e w2 ⟨rfl, h2⟩
    have k0 : w2.cell? ⟨w.heap.size, 0, none⟩ = some (.int .i64 k) := h2.cell (j := 0) rfl
    obtain ⟨v, w3, hrun, h3⟩ := Owns.bytesOf (P := Tryd.prog) (tS := 9) (tB := 22) (tb := 5) Tryd.underlying22 Tryd.underlying5 Tryd.underlying9 hl2 h2
    have H3 := Lib.hid h3
    clear h2 h3 Hj
    go_wp2_with fail
    go_ret
    exact ⟨v, rfl, H3.out.p1.drop⟩
set_option maxHeartbeats 1000000 in
theorem mreg {ka : Option Addr} {n kc : Nat} {l : List UInt8} (hl : l.length ≤ 100000) (hn : n = l.length) (hM : MaxInt w0) (H : Owns w0 w R) (hk : Reads w0 R 1 (.slice ka n kc) n (kints .u8 (bn l))) :
    Calls Tryd.prog 18 #[.slice ka n kc] w (RetX (fun x : Option Addr × Nat => .agg #[.int .i64 0, .slice x.1 (linesL l).length x.2]) w0 (fun x => row_str (.slice x.1 (linesL l).length x.2) (linesL l).length (lstrs (linesL l)) :: R)) := by
  have h1 := H.alloc #[.int .i64 0, .slice none 0 0] 33
  have hcv : (convert 22 9 (.slice ka n kc)).run Tryd.prog (w.alloc (.cells #[.int .i64 0, .slice none 0 0] 33)) = .ok (.string (bs l)) (w.alloc (.cells #[.int .i64 0, .slice none 0 0] 33)) :=
    run_bytes_str Tryd.underlying22 Tryd.underlying5 Tryd.underlying9 (hk.cons _ h1)
  obtain ⟨m, hm⟩ := maxInt_keep hM h1.chg
  have hsp := Tryd.strings_Split (bs l) ⟨#[10]⟩ m _ (by rw [bs_size]; omega) hm (by decide)
  rw [splitB_lines, ← lines_len] at hsp
  have h2 := h1.alloc (((linesL l).map bs).map Value.string).toArray 9
  have hll : (linesL l).length ≤ maxLen := by
    rw [lines_len]
    have := Lib.countB_le (⟨#[10]⟩ : ByteArray) (by decide) _ (bs l) (Nat.le_refl _)
    rw [bs_size] at this
    unfold maxLen
    omega
  have h3 := h2.rowOf (e := 9) (k := 1) (linesL l).length (linesL l).length (Nat.le_refl _) hll (by simp)
  have e3 : ((((linesL l).map bs).map Value.string).toArray.toList.take ((linesL l).length * 1)) = lstrs (linesL l) := List.take_of_length_le (by simp)
  rw [e3, World.size_alloc] at h3
  obtain ⟨N, hN⟩ : ∃ N, N = (linesL l).length := ⟨_, rfl⟩
  obtain ⟨B, hB⟩ : ∃ B, B = w.heap.size := ⟨_, rfl⟩
  obtain ⟨W2, hW2⟩ : ∃ W2, W2 = (w.alloc (.cells #[.int .i64 0, .slice none 0 0] 33)).alloc (.cells (((linesL l).map bs).map Value.string).toArray 9) := ⟨_, rfl⟩
  rw [← hW2, ← hB, ← hN] at h3
  rw [World.size_alloc, ← hN, ← hB] at hsp
  rw [← hN]
  have x0 := h3.p1.cell (j := 0) rfl
  have x1 := h3.p1.cell (j := 1) rfl
  have z0 := h3.p1.frozen 0
  have z1 := h3.p1.frozen 1
  have h4 := (h3.p1.set 0 (.int .i64 0)).set 1 (.slice (some ⟨B + 1, 0, none⟩) N N)
  have u0 := h4.cell (j := 0) (v := .int .i64 0) rfl
  have u1 := h4.cell (j := 1) (v := .slice (some ⟨B + 1, 0, none⟩) N N) rfl
  have H4 := Lib.hid h4
  have Hsp := Lib.hid hsp
  have HW2 := Lib.hid hW2
  have HB := Lib.hid hB
  have HN := Lib.hid hN
  clear H hk h1 h2 h3 h4 e3 hsp hm hM hn hW2 hB hN
  go_enter Tryd.func18, Tryd.ntmps18
  go_wp2_with fail
  rw [← HB.out]
  refine Hsp.out.mono ?_
  rintro e w2 ⟨rfl, hw2⟩
  rw [← HW2.out] at hw2
  subst hw2
  clear hcv
  go_wp2_with fail
  exact bodyPost_ret (v := .agg #[.int .i64 0, .slice (some ⟨B + 1, 0, none⟩) N N]) (by simp [results, Tryd.results18, go_sem, u0, u1]) rfl ⟨(some ⟨B + 1, 0, none⟩, N), rfl, H4.out.drop⟩
end
end Go.Proofs.YtkgngcibjkkhkaaDoor
