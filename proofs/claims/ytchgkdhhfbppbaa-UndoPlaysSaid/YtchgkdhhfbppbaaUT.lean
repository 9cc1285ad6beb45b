/- The document's Undo and Redo. -/
import Derived.Test.YtchgkdhhfbppbaaUS
namespace Go.Proofs.Ytchgkdhhfbppbaa
open Go Go.RowKit Go.Fol
attribute [local go_sem ↓] Go.wp_at_zero Go.wp_at_succ
set_option linter.unusedVariables false
set_option linter.unusedSimpArgs false
theorem _root_.Go.Fol.SrcV.preK {w : World} {k n c : Nat} {a : Option Addr} {xs : List Value} (h : SrcV w k (.slice a n c) n xs) {q : Nat} (hq : q ≤ n) : SrcV w k (.slice a q c) q (xs.take (q * k)) := by
  rcases h with ⟨e, rfl, rfl⟩ | ⟨a', c', e, h1, h2, h3, h4⟩
  · cases e
    obtain rfl : q = 0 := by omega
    exact .inl ⟨rfl, rfl, by simp⟩
  · cases e
    have hm := Nat.mul_le_mul_right k hq
    refine .inr ⟨_, _, rfl, by omega, h2, by rw [List.length_take, h3]; exact Nat.min_eq_left hm, fun j u hj => h4 j u ?_⟩
    rw [List.getElem?_take] at hj
    split at hj
    · exact hj
    · cases hj
section
variable {w0 w : World} {R : List Asrt}
theorem rgsA_unsnoc {D : List Gr} {g : Gr} (H : Owns w0 w (rgsA (D ++ [g]) :: R)) : Owns w0 w (rgA g :: rgsA D :: R) := by
  have h := Owns.allE (L := (D ++ [g]).map rgA) H
  rw [List.map_append, List.append_assoc] at h
  exact (Owns.allI (L := D.map rgA) h).p1
/-- A group goes from the end of one list to the end of the other. -/
theorem rshift {D U : List Gr} {g : Gr} {v2 : Value} {a : Option Addr} {c n : Nat} (hn : n = D.length)
    (H : Owns w0 w (Asrt.row 32 5 v2 (U.length + 1) (grs U ++ grs [g]) :: rlist (.slice a (n + 1) c) (D ++ [g]) :: rgsA (D ++ [g]) :: rgsA U :: R)) :
    Owns w0 w (rlist (.slice a n c) D :: rlist v2 (U ++ [g]) :: rgsA D :: rgA g :: rgsA U :: R) := by
  have h1 := H.srcOfRow (by decide)
  rw [← flat_append] at h1
  have h2 : Owns w0 w (rlist v2 (U ++ [g]) :: _) := (by rw [show U.length + 1 = (U ++ [g]).length by simp] at h1; exact h1)
  have h3 := h2.p1
  have hs := h3.src
  rw [show (D ++ [g]).length = n + 1 by rw [hn]; simp] at hs
  have hs2 := hs.preK (q := n) (by omega)
  rw [flat_take grf_len, show (D ++ [g]).take n = D by rw [hn]; simp] at hs2
  have h4 := h3.srcSub (v' := .slice a n c) (n' := n) (by cases a <;> rfl) (by rw [hn]; simp) hs2
  rw [show Asrt.src 5 (.slice a n c) n (grs D) = rlist (.slice a n c) D by rw [hn]] at h4
  exact (rgsA_unsnoc (h4.ord [2])).ord [2, 2, 1, 0]
theorem rfoldU {p : Nat} {D U : List Gr} {g g9 : Gr} {v1 v2 : Value} (H : Owns w0 w (rgA g :: robj p v1 v2 false g9 :: rlist v1 D :: rlist v2 (U ++ [g]) :: rgsA D :: rgsA U :: R)) : Owns w0 w (rhistN p D (U ++ [g]) :: R) :=
  rhistNI ((rgsA_snoc (H.ord [0, 4])).ord [1, 1, 1, 1])
theorem rfoldR {p : Nat} {D U : List Gr} {g g9 : Gr} {v1 v2 : Value} (H : Owns w0 w (rgA g :: robj p v2 v1 false g9 :: rlist v1 D :: rlist v2 (U ++ [g]) :: rgsA D :: rgsA U :: R)) : Owns w0 w (rhistN p (U ++ [g]) D :: R) :=
  rhistNI ((rgsA_snoc (H.ord [0, 4])).ord [1, 2, 1])
theorem rundo_none {p : Nat} {U : List Gr} (H : Owns w0 w (rhistN p [] U :: R)) :
    Calls Try.prog 15 #[.pointer (some ⟨p, 0, none⟩)] w (Ret (.tuple #[.slice none 0 0, .agg #[.int .i64 0, .int .i64 0], .bool false]) w0 (rhistN p [] U :: R)) := by
  obtain ⟨da, ua, dc, uc, g9, h⟩ := rhistNE H
  have hh := (h.alloc #[.int .i64 0, .int .i64 0] 29).p1
  have H1 := (H.alloc #[.int .i64 0, .int .i64 0] 29)
  obtain ⟨W1, hW1⟩ : ∃ W1, W1 = w.alloc (.cells #[.int .i64 0, .int .i64 0] 29) := ⟨_, rfl⟩
  obtain ⟨B, hB⟩ : ∃ B, B = w.heap.size := ⟨_, rfl⟩
  rw [← hW1, ← hB] at hh H1
  have k0 : W1.cell? ⟨p, 0, none⟩ = some (.slice da _ dc) := hh.cell (j := 0) rfl
  have k1 : W1.cell? ⟨p, 1, none⟩ = some (.slice ua _ uc) := hh.cell (j := 1) rfl
  have k2 : W1.cell? ⟨p, 2, none⟩ = some (.bool false) := hh.cell (j := 2) rfl
  have z0 := H1.frozen 0
  have z1 := H1.frozen 1
  have b0 : W1.cell? ⟨B, 0, none⟩ = some (.int .i64 0) := H1.cell (j := 0) rfl
  have b1 : W1.cell? ⟨B, 1, none⟩ = some (.int .i64 0) := H1.cell (j := 1) rfl
  have h3 := (H1.set 0 (.int .i64 0)).set 1 (.int .i64 0)
  have u0 : ((W1.setCell ⟨B, 0, none⟩ (.int .i64 0)).setCell ⟨B, 1, none⟩ (.int .i64 0)).cell? ⟨B, 0, none⟩ = some (.int .i64 0) := h3.cell (j := 0) rfl
  have u1 : ((W1.setCell ⟨B, 0, none⟩ (.int .i64 0)).setCell ⟨B, 1, none⟩ (.int .i64 0)).cell? ⟨B, 1, none⟩ = some (.int .i64 0) := h3.cell (j := 1) rfl
  have H4 := Lib.hid h3.drop
  have HW1 := Lib.hid hW1
  have HB := Lib.hid hB
  clear H h hh H1 h3 hW1 hB
  go_enter Try.func15, Try.ntmps15
  go_upto_region 1 with (fail)
  rw [← HW1.out, ← HB.out]
  go_wp2_with fail
  exact bodyPost_ret (v := .tuple #[.slice none 0 0, .agg #[.int .i64 0, .int .i64 0], .bool false]) (by simp [results, Try.results15, go_sem, u0, u1]) rfl ⟨rfl, H4.out⟩
theorem rredo_none {p : Nat} {U : List Gr} (H : Owns w0 w (rhistN p U [] :: R)) :
    Calls Try.prog 18 #[.pointer (some ⟨p, 0, none⟩)] w (Ret (.tuple #[.slice none 0 0, .agg #[.int .i64 0, .int .i64 0], .bool false]) w0 (rhistN p U [] :: R)) := by
  obtain ⟨da, ua, dc, uc, g9, h⟩ := rhistNE H
  have hh := (h.alloc #[.int .i64 0, .int .i64 0] 29).p1
  have H1 := (H.alloc #[.int .i64 0, .int .i64 0] 29)
  obtain ⟨W1, hW1⟩ : ∃ W1, W1 = w.alloc (.cells #[.int .i64 0, .int .i64 0] 29) := ⟨_, rfl⟩
  obtain ⟨B, hB⟩ : ∃ B, B = w.heap.size := ⟨_, rfl⟩
  rw [← hW1, ← hB] at hh H1
  have k0 : W1.cell? ⟨p, 0, none⟩ = some (.slice da _ dc) := hh.cell (j := 0) rfl
  have k1 : W1.cell? ⟨p, 1, none⟩ = some (.slice ua _ uc) := hh.cell (j := 1) rfl
  have k2 : W1.cell? ⟨p, 2, none⟩ = some (.bool false) := hh.cell (j := 2) rfl
  have z0 := H1.frozen 0
  have z1 := H1.frozen 1
  have b0 : W1.cell? ⟨B, 0, none⟩ = some (.int .i64 0) := H1.cell (j := 0) rfl
  have b1 : W1.cell? ⟨B, 1, none⟩ = some (.int .i64 0) := H1.cell (j := 1) rfl
  have h3 := (H1.set 0 (.int .i64 0)).set 1 (.int .i64 0)
  have u0 : ((W1.setCell ⟨B, 0, none⟩ (.int .i64 0)).setCell ⟨B, 1, none⟩ (.int .i64 0)).cell? ⟨B, 0, none⟩ = some (.int .i64 0) := h3.cell (j := 0) rfl
  have u1 : ((W1.setCell ⟨B, 0, none⟩ (.int .i64 0)).setCell ⟨B, 1, none⟩ (.int .i64 0)).cell? ⟨B, 1, none⟩ = some (.int .i64 0) := h3.cell (j := 1) rfl
  have H4 := Lib.hid h3.drop
  have HW1 := Lib.hid hW1
  have HB := Lib.hid hB
  clear H h hh H1 h3 hW1 hB
  go_enter Try.func18, Try.ntmps18
  go_upto_region 1 with (fail)
  rw [← HW1.out, ← HB.out]
  go_wp2_with fail
  exact bodyPost_ret (v := .tuple #[.slice none 0 0, .agg #[.int .i64 0, .int .i64 0], .bool false]) (by simp [results, Try.results18, go_sem, u0, u1]) rfl ⟨rfl, H4.out⟩
theorem rundo_open {p : Nat} {D U : List Gr} {g : Gr} (hl : D.length ≤ 1000) (H : Owns w0 w (rhistO p D U g :: R)) :
    Calls Try.prog 15 #[.pointer (some ⟨p, 0, none⟩)] w (Ret (.tuple #[.slice none 0 0, .agg #[.int .i64 0, .int .i64 0], .bool false]) w0 (rhistO p D U g :: R)) := by
  obtain ⟨da, ua, dc, uc, h⟩ := rhistOE H
  have hh := (h.alloc #[.int .i64 0, .int .i64 0] 29).p1
  have H1 := (H.alloc #[.int .i64 0, .int .i64 0] 29)
  obtain ⟨W1, hW1⟩ : ∃ W1, W1 = w.alloc (.cells #[.int .i64 0, .int .i64 0] 29) := ⟨_, rfl⟩
  obtain ⟨B, hB⟩ : ∃ B, B = w.heap.size := ⟨_, rfl⟩
  rw [← hW1, ← hB] at hh H1
  have k0 : W1.cell? ⟨p, 0, none⟩ = some (.slice da _ dc) := hh.cell (j := 0) rfl
  have k1 : W1.cell? ⟨p, 1, none⟩ = some (.slice ua _ uc) := hh.cell (j := 1) rfl
  have k2 : W1.cell? ⟨p, 2, none⟩ = some (.bool true) := hh.cell (j := 2) rfl
  have z0 := H1.frozen 0
  have z1 := H1.frozen 1
  have b0 : W1.cell? ⟨B, 0, none⟩ = some (.int .i64 0) := H1.cell (j := 0) rfl
  have b1 : W1.cell? ⟨B, 1, none⟩ = some (.int .i64 0) := H1.cell (j := 1) rfl
  have h3 := (H1.set 0 (.int .i64 0)).set 1 (.int .i64 0)
  have u0 : ((W1.setCell ⟨B, 0, none⟩ (.int .i64 0)).setCell ⟨B, 1, none⟩ (.int .i64 0)).cell? ⟨B, 0, none⟩ = some (.int .i64 0) := h3.cell (j := 0) rfl
  have u1 : ((W1.setCell ⟨B, 0, none⟩ (.int .i64 0)).setCell ⟨B, 1, none⟩ (.int .i64 0)).cell? ⟨B, 1, none⟩ = some (.int .i64 0) := h3.cell (j := 1) rfl
  have H4 := Lib.hid h3.drop
  have HW1 := Lib.hid hW1
  have HB := Lib.hid hB
  clear H h hh H1 h3 hW1 hB
  go_enter Try.func15, Try.ntmps15
  go_upto_region 1 with (fail)
  rw [← HW1.out, ← HB.out]
  go_wp2_with fail
  exact bodyPost_ret (v := .tuple #[.slice none 0 0, .agg #[.int .i64 0, .int .i64 0], .bool false]) (by simp [results, Try.results15, go_sem, u0, u1]) rfl ⟨rfl, H4.out⟩
theorem rredo_open {p : Nat} {D U : List Gr} {g : Gr} (hl : U.length ≤ 1000) (H : Owns w0 w (rhistO p D U g :: R)) :
    Calls Try.prog 18 #[.pointer (some ⟨p, 0, none⟩)] w (Ret (.tuple #[.slice none 0 0, .agg #[.int .i64 0, .int .i64 0], .bool false]) w0 (rhistO p D U g :: R)) := by
  obtain ⟨da, ua, dc, uc, h⟩ := rhistOE H
  have hh := (h.alloc #[.int .i64 0, .int .i64 0] 29).p1
  have H1 := (H.alloc #[.int .i64 0, .int .i64 0] 29)
  obtain ⟨W1, hW1⟩ : ∃ W1, W1 = w.alloc (.cells #[.int .i64 0, .int .i64 0] 29) := ⟨_, rfl⟩
  obtain ⟨B, hB⟩ : ∃ B, B = w.heap.size := ⟨_, rfl⟩
  rw [← hW1, ← hB] at hh H1
  have k0 : W1.cell? ⟨p, 0, none⟩ = some (.slice da _ dc) := hh.cell (j := 0) rfl
  have k1 : W1.cell? ⟨p, 1, none⟩ = some (.slice ua _ uc) := hh.cell (j := 1) rfl
  have k2 : W1.cell? ⟨p, 2, none⟩ = some (.bool true) := hh.cell (j := 2) rfl
  have z0 := H1.frozen 0
  have z1 := H1.frozen 1
  have b0 : W1.cell? ⟨B, 0, none⟩ = some (.int .i64 0) := H1.cell (j := 0) rfl
  have b1 : W1.cell? ⟨B, 1, none⟩ = some (.int .i64 0) := H1.cell (j := 1) rfl
  have h3 := (H1.set 0 (.int .i64 0)).set 1 (.int .i64 0)
  have u0 : ((W1.setCell ⟨B, 0, none⟩ (.int .i64 0)).setCell ⟨B, 1, none⟩ (.int .i64 0)).cell? ⟨B, 0, none⟩ = some (.int .i64 0) := h3.cell (j := 0) rfl
  have u1 : ((W1.setCell ⟨B, 0, none⟩ (.int .i64 0)).setCell ⟨B, 1, none⟩ (.int .i64 0)).cell? ⟨B, 1, none⟩ = some (.int .i64 0) := h3.cell (j := 1) rfl
  have H4 := Lib.hid h3.drop
  have HW1 := Lib.hid hW1
  have HB := Lib.hid hB
  clear H h hh H1 h3 hW1 hB
  go_enter Try.func18, Try.ntmps18
  go_upto_region 1 with (fail)
  rw [← HW1.out, ← HB.out]
  go_wp2_with fail
  exact bodyPost_ret (v := .tuple #[.slice none 0 0, .agg #[.int .i64 0, .int .i64 0], .bool false]) (by simp [results, Try.results18, go_sem, u0, u1]) rfl ⟨rfl, H4.out⟩
end
section
variable {w0 w : World} {R : List Asrt}
set_option maxHeartbeats 4000000 in
theorem rundo {p : Nat} {D U : List Gr} {g : Gr} (hD : D.length ≤ 100) (hU : U.length ≤ 100) (hgl : g.L.length ≤ 100000) (H : Owns w0 w (rhistN p (D ++ [g]) U :: R)) :
    Calls Try.prog 15 #[.pointer (some ⟨p, 0, none⟩)] w (RetX (fun x : Value => .tuple #[x, .agg #[.int .i64 g.fl, .int .i64 g.fc], .bool true]) w0 (fun x => row_chg x (rinv g.L).length (chs (rinv g.L)) :: rhistN p D (U ++ [g]) :: R)) := by
  obtain ⟨n, hn⟩ : ∃ n, n = D.length := ⟨_, rfl⟩
  obtain ⟨E, hE⟩ : ∃ E, E = D ++ [g] := ⟨_, rfl⟩
  have hEl : E.length = n + 1 := by rw [hE, hn]; simp
  have hEg : E[n]? = some g := by rw [hE, hn]; simp
  rw [← hE] at H
  obtain ⟨ea, ua, ec, uc, g9, h⟩ := rhistNE H
  rw [hEl] at h
  obtain ⟨un, hun⟩ : ∃ un, un = U.length := ⟨_, rfl⟩
  obtain ⟨W1, hW1⟩ : ∃ W1, W1 = w.alloc (.cells #[.int .i64 0, .int .i64 0] 29) := ⟨_, rfl⟩
  obtain ⟨B, hB⟩ : ∃ B, B = w.heap.size := ⟨_, rfl⟩
  have h1 := (h.alloc #[.int .i64 0, .int .i64 0] 29).p1
  rw [← hW1, ← hB] at h1
  have hsrc := (h1.ord [2]).src
  rw [hEl] at hsrc
  obtain ⟨eb, eo, ec, e1, hec, _, hcell⟩ := hsrc.cells (by omega) (by decide)
  cases e1
  have k2 : W1.cell? ⟨p, 2, none⟩ = some (.bool false) := h1.cell (j := 2) rfl
  have kE : W1.cell? ⟨p, 0, none⟩ = some (.slice (some ⟨eb, eo, none⟩) (n + 1) ec) := h1.cell (j := 0) rfl
  have kU : W1.cell? ⟨p, 1, none⟩ = some (.slice ua un uc) := by rw [hun]; exact h1.cell (j := 1) rfl
  have gg := grs_get hEg
  obtain ⟨gl, hgl2⟩ : ∃ gl, gl = g.L.length := ⟨_, rfl⟩
  obtain ⟨ga, hga⟩ : ∃ ga, ga = g.ga := ⟨_, rfl⟩
  obtain ⟨gc, hgc⟩ : ∃ gc, gc = g.gc := ⟨_, rfl⟩
  have hgv : g.lv = .slice ga gl gc := by rw [hgl2, hga, hgc]
  have c0 : W1.cell? ⟨eb, eo + n * 5, none⟩ = some (.int .i64 g.fl) := hcell _ _ gg.1
  have c1 : W1.cell? ⟨eb, eo + n * 5 + 1, none⟩ = some (.int .i64 g.fc) := by rw [Nat.add_assoc]; exact hcell _ _ gg.2.1
  have c2 : W1.cell? ⟨eb, eo + n * 5 + 2, none⟩ = some (.int .i64 g.tl) := by rw [Nat.add_assoc]; exact hcell _ _ gg.2.2.1
  have c3 : W1.cell? ⟨eb, eo + n * 5 + 3, none⟩ = some (.int .i64 g.tc) := by rw [Nat.add_assoc]; exact hcell _ _ gg.2.2.2.1
  have c4 : W1.cell? ⟨eb, eo + n * 5 + 4, none⟩ = some (.slice ga gl gc) := by rw [Nat.add_assoc, ← hgv]; exact hcell _ _ gg.2.2.2.2
  have h2 := h1.alloc #[.int .i64 g.fl, .int .i64 g.fc, .int .i64 g.tl, .int .i64 g.tc, .slice ga gl gc] 32
  obtain ⟨W2, hW2⟩ : ∃ W2, W2 = W1.alloc (.cells #[.int .i64 g.fl, .int .i64 g.fc, .int .i64 g.tl, .int .i64 g.tc, .slice ga gl gc] 32) := ⟨_, rfl⟩
  obtain ⟨G, hG⟩ : ∃ G, G = W1.heap.size := ⟨_, rfl⟩
  rw [← hW2, ← hG] at h2
  have H2 := Lib.hid h2
  have HW1 := Lib.hid hW1
  have HW2 := Lib.hid hW2
  have HB := Lib.hid hB
  have HG := Lib.hid hG
  have Hn := Lib.hid hn
  have HE := Lib.hid hE
  have HEl := Lib.hid hEl
  have HEg := Lib.hid hEg
  have Hun := Lib.hid hun
  have Hgv := Lib.hid hgv
  have hn100 : n ≤ 100 := by omega
  have hun100 : un ≤ 100 := by omega
  have hgl100 : gl ≤ 100000 := by omega
  clear H h h1 h2 hW1 hW2 hB hG hn hE hEl hEg hun hgv hgl2 hga hgc hcell gg hD hU hsrc
  go_enter Try.func15, Try.ntmps15
  go_upto_region 1 with (fail)
  rw [← HB.out, ← HW1.out]
  go_upto_region 5 with (fail)
  rw [← HG.out, ← HW2.out]
  have h2 := H2.out
  have dE : W2.cell? ⟨p, 0, none⟩ = some (.slice (some ⟨eb, eo, none⟩) (n + 1) ec) := h2.p1.cell (j := 0) rfl
  have dU : W2.cell? ⟨p, 1, none⟩ = some (.slice ua un uc) := by rw [Hun.out]; exact h2.p1.cell (j := 1) rfl
  have d0 : W2.cell? ⟨G, 0, none⟩ = some (.int .i64 g.fl) := h2.cell (j := 0) rfl
  have d1 : W2.cell? ⟨G, 1, none⟩ = some (.int .i64 g.fc) := h2.cell (j := 1) rfl
  have d2 : W2.cell? ⟨G, 2, none⟩ = some (.int .i64 g.tl) := h2.cell (j := 2) rfl
  have d3 : W2.cell? ⟨G, 3, none⟩ = some (.int .i64 g.tc) := h2.cell (j := 3) rfl
  have d4 : W2.cell? ⟨G, 4, none⟩ = some (.slice ga gl gc) := h2.cell (j := 4) rfl
  have hec' : n ≤ ec := by omega
  have h4 := ((h2.ord [4]).drew.alloc #[.int .i64 g.fl, .int .i64 g.fc, .int .i64 g.tl, .int .i64 g.tc, .slice ga gl gc] 32)
  have hs4 := SrcV.fullCap (h4.ord [1]).src
  have huc : un ≤ uc := by have := (h2.ord [4]).src.capLe; rw [Hun.out]; exact this
  obtain ⟨i0, hi, hz0, hz1, hz2⟩ := info_parts info_rgp
  have hul : U.length ≤ 100 := by rw [← Hun.out]; exact hun100
  obtain ⟨s', w5, hrn, h5⟩ := Owns.appFull (P := Try.prog) Try.underlying27 hi hz0 hz1 hz2 rfl (by decide) h4 hs4 (Reads.obj (w0 := w0) (R := _) (b := W2.drew.heap.size) (k := 5) (n := 1) (c := 1) (t := 32) (f := (0, 0)) (cs := #[.int .i64 g.fl, .int .i64 g.fc, .int .i64 g.tl, .int .i64 g.tc, .slice ga gl gc]) List.mem_cons_self (by decide) (by decide) (by simp) _ h4) (by decide) (by simp [Value.oneCell']) (by unfold maxLen; omega) (by omega)
  obtain ⟨sa, sc, rfl⟩ := row_slice h5.row
  rw [← Hun.out] at hrn
  have h6 := h5.ord [4]
  have eE : w5.cell? ⟨p, 0, none⟩ = some (.slice (some ⟨eb, eo, none⟩) (n + 1) ec) := h6.cell (j := 0) rfl
  have eU : w5.cell? ⟨p, 1, none⟩ = some (.slice ua un uc) := by rw [Hun.out]; exact h6.cell (j := 1) rfl
  have e0 : w5.cell? ⟨G, 0, none⟩ = some (.int .i64 g.fl) := (h6.ord [4]).cell (j := 0) rfl
  have e1 : w5.cell? ⟨G, 1, none⟩ = some (.int .i64 g.fc) := (h6.ord [4]).cell (j := 1) rfl
  have e2 : w5.cell? ⟨G, 2, none⟩ = some (.int .i64 g.tl) := (h6.ord [4]).cell (j := 2) rfl
  have e3 : w5.cell? ⟨G, 3, none⟩ = some (.int .i64 g.tc) := (h6.ord [4]).cell (j := 3) rfl
  have e4 : w5.cell? ⟨G, 4, none⟩ = some (.slice ga gl gc) := (h6.ord [4]).cell (j := 4) rfl
  have f0 := h6.frozen 0
  have f1 := h6.frozen 1
  have a0 := cell_alloc dE (.cells #[.int .i64 g.fl, .int .i64 g.fc, .int .i64 g.tl, .int .i64 g.tc, .slice ga gl gc] 32)
  have h7 := (h6.set 0 (.slice (some ⟨eb, eo, none⟩) n ec)).set 1 (.slice sa (un + 1) sc)
  have H7 := Lib.hid h7
  clear h2 h4 hs4 hi hz0 hz1 hz2 h5 h6 h7 H2 k2 kE kU c0 c1 c2 c3 c4
  have hr1 : ∀ ty, (Builtin.append_ #[27, 27] ty #[.slice ua un un, .slice (some ⟨W2.heap.size, 0, none⟩) 1 1]).run Try.prog ((W2.alloc (.cells #[.int .i64 g.fl, .int .i64 g.fc, .int .i64 g.tl, .int .i64 g.tc, .slice ga gl gc] 32)).drew) = .ok (.slice sa (un + 1) sc) w5 := fun ty => hrn ty
  refine wp_region_T (fun w' => w'.cell? ⟨p, 0, none⟩ = some (.slice (some ⟨eb, eo, none⟩) (n + 1) ec) ∧ w'.cell? ⟨p, 1, none⟩ = some (.slice ua un uc) ∧ w'.cell? ⟨G, 0, none⟩ = some (.int .i64 g.fl) ∧ w'.cell? ⟨G, 1, none⟩ = some (.int .i64 g.fc) ∧ w'.cell? ⟨G, 2, none⟩ = some (.int .i64 g.tl) ∧ w'.cell? ⟨G, 3, none⟩ = some (.int .i64 g.tc) ∧ w'.cell? ⟨G, 4, none⟩ = some (.slice ga gl gc)) 28 (by kernel_rfl) ⟨dE, dU, d0, d1, d2, d3, d4⟩ (fun hS0 => ?_)
  refine wpAnyT_takeP (i := 1) (oi := _) (v := .pointer (some ⟨p, 0, none⟩)) rfl (by kernel_rfl) (fun _ _ _ h => h) (Or.inl ⟨by rfl, fun w hSw => ?_⟩) hS0 ?_
  · go_simp
  try simp only [Act.put, List.setIfInBounds_toArray, List.set_cons_zero, List.set_cons_succ, List.getElem_toArray, List.getElem_cons_zero, List.getElem_cons_succ]
  refine wpAnyT_take (i := 0) (oi := _) (v := .pointer (some ⟨p, 0, none⟩)) [28] rfl (by kernel_rfl) (fun _ _ _ h => h) (Or.inl ⟨by rfl, fun w hSw => ?_⟩) hS0 ?_
  · obtain ⟨x0, x1, x2, x3, x4, x5, x6⟩ := hSw; go_simp
  try simp only [Act.put, List.setIfInBounds_toArray, List.set_cons_zero, List.set_cons_succ, List.getElem_toArray, List.getElem_cons_zero, List.getElem_cons_succ]
  refine wpAnyT_take (i := 2) (oi := _) (v := .pointer (some ⟨p, 0, none⟩)) [28] rfl (by kernel_rfl) (fun _ _ _ h => h) (Or.inl ⟨by rfl, fun w hSw => ?_⟩) hS0 ?_
  · obtain ⟨x0, x1, x2, x3, x4, x5, x6⟩ := hSw; go_simp
  try simp only [Act.put, List.setIfInBounds_toArray, List.set_cons_zero, List.set_cons_succ, List.getElem_toArray, List.getElem_cons_zero, List.getElem_cons_succ]
  refine wpAnyT_take (i := 3) (oi := _) (v := .pointer (some ⟨p, 0, none⟩)) [28] rfl (by kernel_rfl) (fun _ _ _ h => h) (Or.inl ⟨by rfl, fun w hSw => ?_⟩) hS0 ?_
  · obtain ⟨x0, x1, x2, x3, x4, x5, x6⟩ := hSw; go_simp
  try simp only [Act.put, List.setIfInBounds_toArray, List.set_cons_zero, List.set_cons_succ, List.getElem_toArray, List.getElem_cons_zero, List.getElem_cons_succ]
  refine wpAnyT_take (i := 4) (oi := _) (v := .pointer (some ⟨p, 0, none⟩)) [28] rfl (by kernel_rfl) (fun _ _ _ h => h) (Or.inl ⟨by rfl, fun w hSw => ?_⟩) hS0 ?_
  · obtain ⟨x0, x1, x2, x3, x4, x5, x6⟩ := hSw; go_simp
  try simp only [Act.put, List.setIfInBounds_toArray, List.set_cons_zero, List.set_cons_succ, List.getElem_toArray, List.getElem_cons_zero, List.getElem_cons_succ]
  refine wpAnyT_take (i := 5) (oi := _) (v := .slice (some ⟨eb, eo, none⟩) (n + 1) ec) [28] rfl (by kernel_rfl) (fun _ _ _ h => h) (Or.inl ⟨by rfl, fun w hSw => ?_⟩) hS0 ?_
  · obtain ⟨x0, x1, x2, x3, x4, x5, x6⟩ := hSw; go_simp
  try simp only [Act.put, List.setIfInBounds_toArray, List.set_cons_zero, List.set_cons_succ, List.getElem_toArray, List.getElem_cons_zero, List.getElem_cons_succ]
  refine wpAnyT_take (i := 6) (oi := _) (v := .int .i64 n) [28] rfl (by kernel_rfl) (fun _ _ _ h => h) (Or.inl ⟨by rfl, fun w hSw => ?_⟩) hS0 ?_
  · obtain ⟨x0, x1, x2, x3, x4, x5, x6⟩ := hSw; go_simp
  try simp only [Act.put, List.setIfInBounds_toArray, List.set_cons_zero, List.set_cons_succ, List.getElem_toArray, List.getElem_cons_zero, List.getElem_cons_succ]
  refine wpAnyT_take (i := 7) (oi := _) (v := .slice (some ⟨eb, eo, none⟩) n ec) [28] rfl (by kernel_rfl) (fun _ _ _ h => h) (Or.inl ⟨by rfl, fun w hSw => ?_⟩) hS0 ?_
  · obtain ⟨x0, x1, x2, x3, x4, x5, x6⟩ := hSw; go_simp
  try simp only [Act.put, List.setIfInBounds_toArray, List.set_cons_zero, List.set_cons_succ, List.getElem_toArray, List.getElem_cons_zero, List.getElem_cons_succ]
  refine wpAnyT_take (i := 8) (oi := _) (v := .pointer (some ⟨p, 0, none⟩)) [9, 10, 11, 22, 25, 28] rfl (by kernel_rfl) (fun _ _ _ h => h) (Or.inl ⟨by rfl, fun w hSw => ?_⟩) hS0 ?_
  · obtain ⟨x0, x1, x2, x3, x4, x5, x6⟩ := hSw; go_simp
  try simp only [Act.put, List.setIfInBounds_toArray, List.set_cons_zero, List.set_cons_succ, List.getElem_toArray, List.getElem_cons_zero, List.getElem_cons_succ]
  refine wpAnyT_take (i := 9) (oi := _) (v := .pointer (some ⟨p, 0, none⟩)) [10, 11, 22, 25, 28] rfl (by kernel_rfl) (fun _ _ _ h => h) (Or.inl ⟨by rfl, fun w hSw => ?_⟩) hS0 ?_
  · obtain ⟨x0, x1, x2, x3, x4, x5, x6⟩ := hSw; go_simp
  try simp only [Act.put, List.setIfInBounds_toArray, List.set_cons_zero, List.set_cons_succ, List.getElem_toArray, List.getElem_cons_zero, List.getElem_cons_succ]
  refine wpAnyT_take (i := 10) (oi := _) (v := .pointer (some ⟨p, 1, none⟩)) [11, 22, 25, 28] rfl (by kernel_rfl) (fun _ _ _ h => h) (Or.inl ⟨by rfl, fun w hSw => ?_⟩) hS0 ?_
  · obtain ⟨x0, x1, x2, x3, x4, x5, x6⟩ := hSw; go_simp
  try simp only [Act.put, List.setIfInBounds_toArray, List.set_cons_zero, List.set_cons_succ, List.getElem_toArray, List.getElem_cons_zero, List.getElem_cons_succ]
  refine wpAnyT_take (i := 11) (oi := _) (v := .slice ua un uc) [22, 25, 28] rfl (by kernel_rfl) (fun _ _ _ h => h) (Or.inl ⟨by rfl, fun w hSw => ?_⟩) hS0 ?_
  · obtain ⟨x0, x1, x2, x3, x4, x5, x6⟩ := hSw; go_simp
  try simp only [Act.put, List.setIfInBounds_toArray, List.set_cons_zero, List.set_cons_succ, List.getElem_toArray, List.getElem_cons_zero, List.getElem_cons_succ]
  refine wpAnyT_take (i := 12) (oi := _) (v := .pointer (some ⟨p, 0, none⟩)) [13, 14, 15, 16, 22, 25, 28] rfl (by kernel_rfl) (fun _ _ _ h => h) (Or.inl ⟨by rfl, fun w hSw => ?_⟩) hS0 ?_
  · obtain ⟨x0, x1, x2, x3, x4, x5, x6⟩ := hSw; go_simp
  try simp only [Act.put, List.setIfInBounds_toArray, List.set_cons_zero, List.set_cons_succ, List.getElem_toArray, List.getElem_cons_zero, List.getElem_cons_succ]
  refine wpAnyT_take (i := 13) (oi := _) (v := .pointer (some ⟨p, 0, none⟩)) [14, 15, 16, 22, 25, 28] rfl (by kernel_rfl) (fun _ _ _ h => h) (Or.inl ⟨by rfl, fun w hSw => ?_⟩) hS0 ?_
  · obtain ⟨x0, x1, x2, x3, x4, x5, x6⟩ := hSw; go_simp
  try simp only [Act.put, List.setIfInBounds_toArray, List.set_cons_zero, List.set_cons_succ, List.getElem_toArray, List.getElem_cons_zero, List.getElem_cons_succ]
  refine wpAnyT_take (i := 14) (oi := _) (v := .pointer (some ⟨p, 1, none⟩)) [15, 16, 22, 25, 28] rfl (by kernel_rfl) (fun _ _ _ h => h) (Or.inl ⟨by rfl, fun w hSw => ?_⟩) hS0 ?_
  · obtain ⟨x0, x1, x2, x3, x4, x5, x6⟩ := hSw; go_simp
  try simp only [Act.put, List.setIfInBounds_toArray, List.set_cons_zero, List.set_cons_succ, List.getElem_toArray, List.getElem_cons_zero, List.getElem_cons_succ]
  refine wpAnyT_take (i := 15) (oi := _) (v := .slice ua un uc) [16, 22, 25, 28] rfl (by kernel_rfl) (fun _ _ _ h => h) (Or.inl ⟨by rfl, fun w hSw => ?_⟩) hS0 ?_
  · obtain ⟨x0, x1, x2, x3, x4, x5, x6⟩ := hSw; go_simp
  try simp only [Act.put, List.setIfInBounds_toArray, List.set_cons_zero, List.set_cons_succ, List.getElem_toArray, List.getElem_cons_zero, List.getElem_cons_succ]
  refine wpAnyT_take (i := 16) (oi := _) (v := .int .i64 un) [22, 25, 28] rfl (by kernel_rfl) (fun _ _ _ h => h) (Or.inl ⟨by rfl, fun w hSw => ?_⟩) hS0 ?_
  · obtain ⟨x0, x1, x2, x3, x4, x5, x6⟩ := hSw; go_simp
  try simp only [Act.put, List.setIfInBounds_toArray, List.set_cons_zero, List.set_cons_succ, List.getElem_toArray, List.getElem_cons_zero, List.getElem_cons_succ]
  refine wpAnyT_take (i := 17) (oi := _) (v := .pointer (some ⟨p, 0, none⟩)) [18, 19, 20, 21, 22, 25, 28] rfl (by kernel_rfl) (fun _ _ _ h => h) (Or.inl ⟨by rfl, fun w hSw => ?_⟩) hS0 ?_
  · obtain ⟨x0, x1, x2, x3, x4, x5, x6⟩ := hSw; go_simp
  try simp only [Act.put, List.setIfInBounds_toArray, List.set_cons_zero, List.set_cons_succ, List.getElem_toArray, List.getElem_cons_zero, List.getElem_cons_succ]
  refine wpAnyT_take (i := 18) (oi := _) (v := .pointer (some ⟨p, 0, none⟩)) [19, 20, 21, 22, 25, 28] rfl (by kernel_rfl) (fun _ _ _ h => h) (Or.inl ⟨by rfl, fun w hSw => ?_⟩) hS0 ?_
  · obtain ⟨x0, x1, x2, x3, x4, x5, x6⟩ := hSw; go_simp
  try simp only [Act.put, List.setIfInBounds_toArray, List.set_cons_zero, List.set_cons_succ, List.getElem_toArray, List.getElem_cons_zero, List.getElem_cons_succ]
  refine wpAnyT_take (i := 19) (oi := _) (v := .pointer (some ⟨p, 1, none⟩)) [20, 21, 22, 25, 28] rfl (by kernel_rfl) (fun _ _ _ h => h) (Or.inl ⟨by rfl, fun w hSw => ?_⟩) hS0 ?_
  · obtain ⟨x0, x1, x2, x3, x4, x5, x6⟩ := hSw; go_simp
  try simp only [Act.put, List.setIfInBounds_toArray, List.set_cons_zero, List.set_cons_succ, List.getElem_toArray, List.getElem_cons_zero, List.getElem_cons_succ]
  refine wpAnyT_take (i := 20) (oi := _) (v := .slice ua un uc) [21, 22, 25, 28] rfl (by kernel_rfl) (fun _ _ _ h => h) (Or.inl ⟨by rfl, fun w hSw => ?_⟩) hS0 ?_
  · obtain ⟨x0, x1, x2, x3, x4, x5, x6⟩ := hSw; go_simp
  try simp only [Act.put, List.setIfInBounds_toArray, List.set_cons_zero, List.set_cons_succ, List.getElem_toArray, List.getElem_cons_zero, List.getElem_cons_succ]
  refine wpAnyT_take (i := 21) (oi := _) (v := .int .i64 un) [22, 25, 28] rfl (by kernel_rfl) (fun _ _ _ h => h) (Or.inl ⟨by rfl, fun w hSw => ?_⟩) hS0 ?_
  · obtain ⟨x0, x1, x2, x3, x4, x5, x6⟩ := hSw; go_simp
  try simp only [Act.put, List.setIfInBounds_toArray, List.set_cons_zero, List.set_cons_succ, List.getElem_toArray, List.getElem_cons_zero, List.getElem_cons_succ]
  refine wpAnyT_take (i := 22) (oi := _) (v := .slice ua un un) [25, 28] rfl (by kernel_rfl) (fun _ _ _ h => h) (Or.inl ⟨by rfl, fun w hSw => ?_⟩) hS0 ?_
  · obtain ⟨x0, x1, x2, x3, x4, x5, x6⟩ := hSw; go_simp
  try simp only [Act.put, List.setIfInBounds_toArray, List.set_cons_zero, List.set_cons_succ, List.getElem_toArray, List.getElem_cons_zero, List.getElem_cons_succ]
  refine wpAnyT_take (i := 23) (oi := _) (v := .agg #[.int .i64 g.fl, .int .i64 g.fc, .int .i64 g.tl, .int .i64 g.tc, .slice ga gl gc]) [24, 25, 28] rfl (by kernel_rfl) (fun _ _ _ h => h) (Or.inl ⟨by rfl, fun w hSw => ?_⟩) hS0 ?_
  · obtain ⟨x0, x1, x2, x3, x4, x5, x6⟩ := hSw; go_simp
  try simp only [Act.put, List.setIfInBounds_toArray, List.set_cons_zero, List.set_cons_succ, List.getElem_toArray, List.getElem_cons_zero, List.getElem_cons_succ]
  refine wpAnyT_step (i := 24) (o := _) rfl (by kernel_rfl) (fun K' hK => ?_)
  simp only [List.getElem_toArray, List.getElem_cons_zero, List.getElem_cons_succ]
  rw [if_pos (by rfl)]
  go_simp
  refine hK.out _ _ ⟨a0, (cell_alloc dU _), (cell_alloc d0 _), (cell_alloc d1 _), (cell_alloc d2 _), (cell_alloc d3 _), (cell_alloc d4 _)⟩ (fun hS1 => ?_)
  clear hK K' hS0
  try simp only [Act.put, List.setIfInBounds_toArray, List.set_cons_zero, List.set_cons_succ, List.getElem_toArray, List.getElem_cons_zero, List.getElem_cons_succ]
  refine wpAnyT_step (i := 25) (o := _) rfl (by kernel_rfl) (fun K' hK => ?_)
  simp only [List.getElem_toArray, List.getElem_cons_zero, List.getElem_cons_succ]
  rw [if_pos (by rfl)]
  refine wp_append_run (.tmp 51) (.tmp 53) 27 27 (.slice ua un un) (.slice (some ⟨W2.heap.size, 0, none⟩) 1 1) (hr1 27) rfl rfl rfl ?_
  refine hK.out _ _ ⟨eE, eU, e0, e1, e2, e3, e4⟩ (fun hS2 => ?_)
  clear hK K' hS1
  try simp only [Act.put, List.setIfInBounds_toArray, List.set_cons_zero, List.set_cons_succ, List.getElem_toArray, List.getElem_cons_zero, List.getElem_cons_succ]
  refine wpAnyT_take (i := 26) (oi := _) (v := .pointer (some ⟨p, 0, none⟩)) [27, 28] rfl (by kernel_rfl) (fun _ _ _ h => h) (Or.inl ⟨by rfl, fun w hSw => ?_⟩) hS2 ?_
  · obtain ⟨x0, x1, x2, x3, x4, x5, x6⟩ := hSw; go_simp
  try simp only [Act.put, List.setIfInBounds_toArray, List.set_cons_zero, List.set_cons_succ, List.getElem_toArray, List.getElem_cons_zero, List.getElem_cons_succ]
  refine wpAnyT_take (i := 27) (oi := _) (v := .pointer (some ⟨p, 0, none⟩)) [28] rfl (by kernel_rfl) (fun _ _ _ h => h) (Or.inl ⟨by rfl, fun w hSw => ?_⟩) hS2 ?_
  · obtain ⟨x0, x1, x2, x3, x4, x5, x6⟩ := hSw; go_simp
  try simp only [Act.put, List.setIfInBounds_toArray, List.set_cons_zero, List.set_cons_succ, List.getElem_toArray, List.getElem_cons_zero, List.getElem_cons_succ]
  refine wpAnyT_last (i := 28) (o := _) rfl (by kernel_rfl) (by kernel_rfl) (fun K' hK => ?_)
  simp only [List.getElem_toArray, List.getElem_cons_zero, List.getElem_cons_succ]
  rw [if_pos (by rfl)]
  go_simp
  refine hK.out _ _ ?_
  clear hK K'
  try simp only [Act.put, List.setIfInBounds_toArray, List.set_cons_zero, List.set_cons_succ, List.getElem_toArray, List.getElem_cons_zero, List.getElem_cons_succ]
  refine wpAnyT_last (i := 29) (o := _) rfl (by kernel_rfl) (by kernel_rfl) (fun K' hK => ?_)
  simp only [List.getElem_toArray, List.getElem_cons_zero, List.getElem_cons_succ]
  rw [if_pos (by rfl)]
  go_simp
  refine hK.out _ _ ?_
  clear hK K'
  try simp only [Act.put, List.setIfInBounds_toArray, List.set_cons_zero, List.set_cons_succ, List.getElem_toArray, List.getElem_cons_zero, List.getElem_cons_succ]
  refine wpAnyT_last (i := 30) (o := _) rfl (by kernel_rfl) (by kernel_rfl) (fun K' hK => ?_)
  simp only [List.getElem_toArray, List.getElem_cons_zero, List.getElem_cons_succ]
  rw [if_pos (by rfl)]
  go_simp
  refine hK.out _ _ ?_
  clear hK K'
  try simp only [Act.put, List.setIfInBounds_toArray, List.set_cons_zero, List.set_cons_succ, List.getElem_toArray, List.getElem_cons_zero, List.getElem_cons_succ]
  refine wpAnyT_last (i := 31) (o := _) rfl (by kernel_rfl) (by kernel_rfl) (fun K' hK => ?_)
  simp only [List.getElem_toArray, List.getElem_cons_zero, List.getElem_cons_succ]
  rw [if_pos (by rfl)]
  go_simp
  refine hK.out _ _ (wpAnyT_done (by kernel_rfl) ?_ _)
  dsimp only [Whole]
  have h7 := H7.out
  obtain ⟨W7, hW7⟩ : ∃ W7, W7 = (w5.setCell ⟨p, 0, none⟩ (.slice (some ⟨eb, eo, none⟩) n ec)).setCell ⟨p, 1, none⟩ (.slice sa (un + 1) sc) := ⟨_, rfl⟩
  rw [← hW7] at h7 ⊢
  have h8 : Owns w0 W7 (robj p (.slice (some ⟨eb, eo, none⟩) n ec) (.slice sa (un + 1) sc) false g9 :: Asrt.row 32 5 (.slice sa (U.length + 1) sc) (U.length + 1) (grs U ++ grf { g with }) :: _) := (by rw [← Hgv.out] at h7; exact h7)
  clear h7 H7 hW7 hK hS2 K' hr1 hrn dE dU d0 d1 d2 d3 d4 a0 eE eU e0 e1 e2 e3 e4 f0 f1
  have h9 := h8.ord [1, 5, 5, 5]
  rw [HE.out] at h9
  have h10 := (rshift (U := U) Hn.out h9)
  have h11 : Owns w0 W7 (Asrt.obj G (.cells #[.int .i64 g.fl, .int .i64 g.fc, .int .i64 g.tl, .int .i64 g.tc, g.lv] 32 (0, 0)) :: Asrt.obj B (.cells #[.int .i64 0, .int .i64 0] 29 (0, 0)) :: rgA g :: robj p (.slice (some ⟨eb, eo, none⟩) n ec) (.slice sa (un + 1) sc) false g9 :: rlist (.slice (some ⟨eb, eo, none⟩) n ec) D :: rlist (.slice sa (U.length + 1) sc) (U ++ [g]) :: rgsA D :: rgsA U :: R) := ((h10.ord [6, 6]).drop.drop).ord [6, 6, 3, 4]
  clear h8 h9 h10
  rw [Hun.out] at h11
  have b0 : W7.cell? ⟨B, 0, none⟩ = some (.int .i64 0) := h11.p1.cell (j := 0) rfl
  have b1 : W7.cell? ⟨B, 1, none⟩ = some (.int .i64 0) := h11.p1.cell (j := 1) rfl
  have z0 := h11.p1.frozen 0
  have z1 := h11.p1.frozen 1
  have g0 : W7.cell? ⟨G, 0, none⟩ = some (.int .i64 g.fl) := h11.cell (j := 0) rfl
  have g1 : W7.cell? ⟨G, 1, none⟩ = some (.int .i64 g.fc) := h11.cell (j := 1) rfl
  have g2 : W7.cell? ⟨G, 2, none⟩ = some (.int .i64 g.tl) := h11.cell (j := 2) rfl
  have g3 : W7.cell? ⟨G, 3, none⟩ = some (.int .i64 g.tc) := h11.cell (j := 3) rfl
  have g4 : W7.cell? ⟨G, 4, none⟩ = some (.slice g.ga g.L.length g.gc) := h11.cell (j := 4) rfl
  have hci := rinverse (v := .slice g.ga g.L.length g.gc) (L := g.L) h11.drew (Reads.src (w0 := w0) (by simp)) hgl
  have Hci := Lib.hid hci
  clear hci h11
  go_wp2_with fail
  go_region_held3 (fun w' => w'.cell? ⟨G, 0, none⟩ = some (.int .i64 g.fl) ∧ w'.cell? ⟨G, 1, none⟩ = some (.int .i64 g.fc) ∧ w'.cell? ⟨G, 4, none⟩ = some (.slice g.ga g.L.length g.gc)) (first | with_reducible exact ⟨t0, t1, t2⟩ | with_reducible exact ⟨y0, y1, y2⟩ | go_keep)
    ((go_at_call 20; (with_reducible refine Hci.out.mono ?_); rintro e w4 ⟨v4, rfl, h6⟩; obtain ⟨va, vc, rfl⟩ := row_slice h6.row; have t0 : w4.cell? ⟨G, 0, none⟩ = some (.int .i64 g.fl) := (h6.ord [1]).cell (j := 0) rfl; have t1 : w4.cell? ⟨G, 1, none⟩ = some (.int .i64 g.fc) := (h6.ord [1]).cell (j := 1) rfl; have t2 : w4.cell? ⟨G, 4, none⟩ = some (.slice g.ga g.L.length g.gc) := (h6.ord [1]).cell (j := 4) rfl; have b0 : w4.cell? ⟨B, 0, none⟩ = some (.int .i64 0) := (h6.ord [2]).cell (j := 0) rfl; have b1 : w4.cell? ⟨B, 1, none⟩ = some (.int .i64 0) := (h6.ord [2]).cell (j := 1) rfl; have z0 := (h6.ord [2]).frozen 0; have z1 := (h6.ord [2]).frozen 1; have h7 := ((h6.ord [2]).set 0 (.int .i64 g.fl)).set 1 (.int .i64 g.fc); have y0 : ((w4.setCell ⟨B, 0, none⟩ (.int .i64 g.fl)).setCell ⟨B, 1, none⟩ (.int .i64 g.fc)).cell? ⟨G, 0, none⟩ = some (.int .i64 g.fl) := (h7.ord [2]).cell (j := 0) rfl; have y1 : ((w4.setCell ⟨B, 0, none⟩ (.int .i64 g.fl)).setCell ⟨B, 1, none⟩ (.int .i64 g.fc)).cell? ⟨G, 1, none⟩ = some (.int .i64 g.fc) := (h7.ord [2]).cell (j := 1) rfl; have y2 : ((w4.setCell ⟨B, 0, none⟩ (.int .i64 g.fl)).setCell ⟨B, 1, none⟩ (.int .i64 g.fc)).cell? ⟨G, 4, none⟩ = some (.slice g.ga g.L.length g.gc) := (h7.ord [2]).cell (j := 4) rfl; have u0 : ((w4.setCell ⟨B, 0, none⟩ (.int .i64 g.fl)).setCell ⟨B, 1, none⟩ (.int .i64 g.fc)).cell? ⟨B, 0, none⟩ = some (.int .i64 g.fl) := h7.cell (j := 0) rfl; have u1 : ((w4.setCell ⟨B, 0, none⟩ (.int .i64 g.fl)).setCell ⟨B, 1, none⟩ (.int .i64 g.fc)).cell? ⟨B, 1, none⟩ = some (.int .i64 g.fc) := h7.cell (j := 1) rfl; have H7 := Lib.hid h7; clear h6 h7))
  clear t0 t1 t2 b0 b1 z0 z1 y0 y1 y2 g0 g1 g2 g3 g4
  go_wp2_with fail
  exact bodyPost_ret (v := .tuple #[.slice va (rinv g.L).length vc, .agg #[.int .i64 g.fl, .int .i64 g.fc], .bool true]) (by simp [results, Try.results15, go_sem, u0, u1]) rfl ⟨.slice va (rinv g.L).length vc, rfl, (rfoldU ((H7.out.drop.ord [1]).drop.ord [1, 1, 1, 1, 1, 1])).p1⟩
end
section
variable {w0 w : World} {R : List Asrt}
set_option maxHeartbeats 4000000 in
theorem rredo {p : Nat} {D U : List Gr} {g : Gr} (hD : D.length ≤ 100) (hU : U.length ≤ 100) (hgl : g.L.length ≤ 100000) (H : Owns w0 w (rhistN p U (D ++ [g]) :: R)) :
    Calls Try.prog 18 #[.pointer (some ⟨p, 0, none⟩)] w (Ret (.tuple #[g.lv, .agg #[.int .i64 g.tl, .int .i64 g.tc], .bool true]) w0 (rhistN p (U ++ [g]) D :: R)) := by
  obtain ⟨n, hn⟩ : ∃ n, n = D.length := ⟨_, rfl⟩
  obtain ⟨E, hE⟩ : ∃ E, E = D ++ [g] := ⟨_, rfl⟩
  have hEl : E.length = n + 1 := by rw [hE, hn]; simp
  have hEg : E[n]? = some g := by rw [hE, hn]; simp
  rw [← hE] at H
  obtain ⟨ua, ea, uc, ec, g9, h⟩ := rhistNE H
  rw [hEl] at h
  obtain ⟨un, hun⟩ : ∃ un, un = U.length := ⟨_, rfl⟩
  obtain ⟨W1, hW1⟩ : ∃ W1, W1 = w.alloc (.cells #[.int .i64 0, .int .i64 0] 29) := ⟨_, rfl⟩
  obtain ⟨B, hB⟩ : ∃ B, B = w.heap.size := ⟨_, rfl⟩
  have h1 := (h.alloc #[.int .i64 0, .int .i64 0] 29).p1
  rw [← hW1, ← hB] at h1
  have hsrc := (h1.ord [3]).src
  rw [hEl] at hsrc
  obtain ⟨eb, eo, ec, e1, hec, _, hcell⟩ := hsrc.cells (by omega) (by decide)
  cases e1
  have k2 : W1.cell? ⟨p, 2, none⟩ = some (.bool false) := h1.cell (j := 2) rfl
  have kE : W1.cell? ⟨p, 1, none⟩ = some (.slice (some ⟨eb, eo, none⟩) (n + 1) ec) := h1.cell (j := 1) rfl
  have kU : W1.cell? ⟨p, 0, none⟩ = some (.slice ua un uc) := by rw [hun]; exact h1.cell (j := 0) rfl
  have gg := grs_get hEg
  obtain ⟨gl, hgl2⟩ : ∃ gl, gl = g.L.length := ⟨_, rfl⟩
  obtain ⟨ga, hga⟩ : ∃ ga, ga = g.ga := ⟨_, rfl⟩
  obtain ⟨gc, hgc⟩ : ∃ gc, gc = g.gc := ⟨_, rfl⟩
  have hgv : g.lv = .slice ga gl gc := by rw [hgl2, hga, hgc]
  have c0 : W1.cell? ⟨eb, eo + n * 5, none⟩ = some (.int .i64 g.fl) := hcell _ _ gg.1
  have c1 : W1.cell? ⟨eb, eo + n * 5 + 1, none⟩ = some (.int .i64 g.fc) := by rw [Nat.add_assoc]; exact hcell _ _ gg.2.1
  have c2 : W1.cell? ⟨eb, eo + n * 5 + 2, none⟩ = some (.int .i64 g.tl) := by rw [Nat.add_assoc]; exact hcell _ _ gg.2.2.1
  have c3 : W1.cell? ⟨eb, eo + n * 5 + 3, none⟩ = some (.int .i64 g.tc) := by rw [Nat.add_assoc]; exact hcell _ _ gg.2.2.2.1
  have c4 : W1.cell? ⟨eb, eo + n * 5 + 4, none⟩ = some (.slice ga gl gc) := by rw [Nat.add_assoc, ← hgv]; exact hcell _ _ gg.2.2.2.2
  have h2 := h1.alloc #[.int .i64 g.fl, .int .i64 g.fc, .int .i64 g.tl, .int .i64 g.tc, .slice ga gl gc] 32
  obtain ⟨W2, hW2⟩ : ∃ W2, W2 = W1.alloc (.cells #[.int .i64 g.fl, .int .i64 g.fc, .int .i64 g.tl, .int .i64 g.tc, .slice ga gl gc] 32) := ⟨_, rfl⟩
  obtain ⟨G, hG⟩ : ∃ G, G = W1.heap.size := ⟨_, rfl⟩
  rw [← hW2, ← hG] at h2
  have H2 := Lib.hid h2
  have HW1 := Lib.hid hW1
  have HW2 := Lib.hid hW2
  have HB := Lib.hid hB
  have HG := Lib.hid hG
  have Hn := Lib.hid hn
  have HE := Lib.hid hE
  have HEl := Lib.hid hEl
  have HEg := Lib.hid hEg
  have Hun := Lib.hid hun
  have Hgv := Lib.hid hgv
  have hn100 : n ≤ 100 := by omega
  have hun100 : un ≤ 100 := by omega
  have hgl100 : gl ≤ 100000 := by omega
  clear H h h1 h2 hW1 hW2 hB hG hn hE hEl hEg hun hgv hgl2 hga hgc hcell gg hD hU hsrc
  go_enter Try.func18, Try.ntmps18
  go_upto_region 1 with (fail)
  rw [← HB.out, ← HW1.out]
  go_upto_region 5 with (fail)
  rw [← HG.out, ← HW2.out]
  have h2 := H2.out
  have dE : W2.cell? ⟨p, 1, none⟩ = some (.slice (some ⟨eb, eo, none⟩) (n + 1) ec) := h2.p1.cell (j := 1) rfl
  have dU : W2.cell? ⟨p, 0, none⟩ = some (.slice ua un uc) := by rw [Hun.out]; exact h2.p1.cell (j := 0) rfl
  have d0 : W2.cell? ⟨G, 0, none⟩ = some (.int .i64 g.fl) := h2.cell (j := 0) rfl
  have d1 : W2.cell? ⟨G, 1, none⟩ = some (.int .i64 g.fc) := h2.cell (j := 1) rfl
  have d2 : W2.cell? ⟨G, 2, none⟩ = some (.int .i64 g.tl) := h2.cell (j := 2) rfl
  have d3 : W2.cell? ⟨G, 3, none⟩ = some (.int .i64 g.tc) := h2.cell (j := 3) rfl
  have d4 : W2.cell? ⟨G, 4, none⟩ = some (.slice ga gl gc) := h2.cell (j := 4) rfl
  have hec' : n ≤ ec := by omega
  have h4 := ((h2.ord [3]).drew.alloc #[.int .i64 g.fl, .int .i64 g.fc, .int .i64 g.tl, .int .i64 g.tc, .slice ga gl gc] 32)
  have hs4 := SrcV.fullCap (h4.ord [1]).src
  have huc : un ≤ uc := by have := (h2.ord [3]).src.capLe; rw [Hun.out]; exact this
  obtain ⟨i0, hi, hz0, hz1, hz2⟩ := info_parts info_rgp
  have hul : U.length ≤ 100 := by rw [← Hun.out]; exact hun100
  obtain ⟨s', w5, hrn, h5⟩ := Owns.appFull (P := Try.prog) Try.underlying27 hi hz0 hz1 hz2 rfl (by decide) h4 hs4 (Reads.obj (w0 := w0) (R := _) (b := W2.drew.heap.size) (k := 5) (n := 1) (c := 1) (t := 32) (f := (0, 0)) (cs := #[.int .i64 g.fl, .int .i64 g.fc, .int .i64 g.tl, .int .i64 g.tc, .slice ga gl gc]) List.mem_cons_self (by decide) (by decide) (by simp) _ h4) (by decide) (by simp [Value.oneCell']) (by unfold maxLen; omega) (by omega)
  obtain ⟨sa, sc, rfl⟩ := row_slice h5.row
  rw [← Hun.out] at hrn
  have h6 := h5.ord [4]
  have eE : w5.cell? ⟨p, 1, none⟩ = some (.slice (some ⟨eb, eo, none⟩) (n + 1) ec) := h6.cell (j := 1) rfl
  have eU : w5.cell? ⟨p, 0, none⟩ = some (.slice ua un uc) := by rw [Hun.out]; exact h6.cell (j := 0) rfl
  have e0 : w5.cell? ⟨G, 0, none⟩ = some (.int .i64 g.fl) := (h6.ord [4]).cell (j := 0) rfl
  have e1 : w5.cell? ⟨G, 1, none⟩ = some (.int .i64 g.fc) := (h6.ord [4]).cell (j := 1) rfl
  have e2 : w5.cell? ⟨G, 2, none⟩ = some (.int .i64 g.tl) := (h6.ord [4]).cell (j := 2) rfl
  have e3 : w5.cell? ⟨G, 3, none⟩ = some (.int .i64 g.tc) := (h6.ord [4]).cell (j := 3) rfl
  have e4 : w5.cell? ⟨G, 4, none⟩ = some (.slice ga gl gc) := (h6.ord [4]).cell (j := 4) rfl
  have f0 := h6.frozen 0
  have f1 := h6.frozen 1
  have a0 := cell_alloc dE (.cells #[.int .i64 g.fl, .int .i64 g.fc, .int .i64 g.tl, .int .i64 g.tc, .slice ga gl gc] 32)
  have h7 := (h6.set 1 (.slice (some ⟨eb, eo, none⟩) n ec)).set 0 (.slice sa (un + 1) sc)
  have H7 := Lib.hid h7
  clear h2 h4 hs4 hi hz0 hz1 hz2 h5 h6 h7 H2 k2 kE kU c0 c1 c2 c3 c4
  have hr1 : ∀ ty, (Builtin.append_ #[27, 27] ty #[.slice ua un un, .slice (some ⟨W2.heap.size, 0, none⟩) 1 1]).run Try.prog ((W2.alloc (.cells #[.int .i64 g.fl, .int .i64 g.fc, .int .i64 g.tl, .int .i64 g.tc, .slice ga gl gc] 32)).drew) = .ok (.slice sa (un + 1) sc) w5 := fun ty => hrn ty
  refine wp_region_T (fun w' => w'.cell? ⟨p, 1, none⟩ = some (.slice (some ⟨eb, eo, none⟩) (n + 1) ec) ∧ w'.cell? ⟨p, 0, none⟩ = some (.slice ua un uc) ∧ w'.cell? ⟨G, 0, none⟩ = some (.int .i64 g.fl) ∧ w'.cell? ⟨G, 1, none⟩ = some (.int .i64 g.fc) ∧ w'.cell? ⟨G, 2, none⟩ = some (.int .i64 g.tl) ∧ w'.cell? ⟨G, 3, none⟩ = some (.int .i64 g.tc) ∧ w'.cell? ⟨G, 4, none⟩ = some (.slice ga gl gc)) 28 (by kernel_rfl) ⟨dE, dU, d0, d1, d2, d3, d4⟩ (fun hS0 => ?_)
  refine wpAnyT_takeP (i := 1) (oi := _) (v := .pointer (some ⟨p, 0, none⟩)) rfl (by kernel_rfl) (fun _ _ _ h => h) (Or.inl ⟨by rfl, fun w hSw => ?_⟩) hS0 ?_
  · go_simp
  try simp only [Act.put, List.setIfInBounds_toArray, List.set_cons_zero, List.set_cons_succ, List.getElem_toArray, List.getElem_cons_zero, List.getElem_cons_succ]
  refine wpAnyT_take (i := 0) (oi := _) (v := .pointer (some ⟨p, 0, none⟩)) [28] rfl (by kernel_rfl) (fun _ _ _ h => h) (Or.inl ⟨by rfl, fun w hSw => ?_⟩) hS0 ?_
  · obtain ⟨x0, x1, x2, x3, x4, x5, x6⟩ := hSw; go_simp
  try simp only [Act.put, List.setIfInBounds_toArray, List.set_cons_zero, List.set_cons_succ, List.getElem_toArray, List.getElem_cons_zero, List.getElem_cons_succ]
  refine wpAnyT_take (i := 2) (oi := _) (v := .pointer (some ⟨p, 0, none⟩)) [28] rfl (by kernel_rfl) (fun _ _ _ h => h) (Or.inl ⟨by rfl, fun w hSw => ?_⟩) hS0 ?_
  · obtain ⟨x0, x1, x2, x3, x4, x5, x6⟩ := hSw; go_simp
  try simp only [Act.put, List.setIfInBounds_toArray, List.set_cons_zero, List.set_cons_succ, List.getElem_toArray, List.getElem_cons_zero, List.getElem_cons_succ]
  refine wpAnyT_take (i := 3) (oi := _) (v := .pointer (some ⟨p, 0, none⟩)) [28] rfl (by kernel_rfl) (fun _ _ _ h => h) (Or.inl ⟨by rfl, fun w hSw => ?_⟩) hS0 ?_
  · obtain ⟨x0, x1, x2, x3, x4, x5, x6⟩ := hSw; go_simp
  try simp only [Act.put, List.setIfInBounds_toArray, List.set_cons_zero, List.set_cons_succ, List.getElem_toArray, List.getElem_cons_zero, List.getElem_cons_succ]
  refine wpAnyT_take (i := 4) (oi := _) (v := .pointer (some ⟨p, 1, none⟩)) [28] rfl (by kernel_rfl) (fun _ _ _ h => h) (Or.inl ⟨by rfl, fun w hSw => ?_⟩) hS0 ?_
  · obtain ⟨x0, x1, x2, x3, x4, x5, x6⟩ := hSw; go_simp
  try simp only [Act.put, List.setIfInBounds_toArray, List.set_cons_zero, List.set_cons_succ, List.getElem_toArray, List.getElem_cons_zero, List.getElem_cons_succ]
  refine wpAnyT_take (i := 5) (oi := _) (v := .slice (some ⟨eb, eo, none⟩) (n + 1) ec) [28] rfl (by kernel_rfl) (fun _ _ _ h => h) (Or.inl ⟨by rfl, fun w hSw => ?_⟩) hS0 ?_
  · obtain ⟨x0, x1, x2, x3, x4, x5, x6⟩ := hSw; go_simp
  try simp only [Act.put, List.setIfInBounds_toArray, List.set_cons_zero, List.set_cons_succ, List.getElem_toArray, List.getElem_cons_zero, List.getElem_cons_succ]
  refine wpAnyT_take (i := 6) (oi := _) (v := .int .i64 n) [28] rfl (by kernel_rfl) (fun _ _ _ h => h) (Or.inl ⟨by rfl, fun w hSw => ?_⟩) hS0 ?_
  · obtain ⟨x0, x1, x2, x3, x4, x5, x6⟩ := hSw; go_simp
  try simp only [Act.put, List.setIfInBounds_toArray, List.set_cons_zero, List.set_cons_succ, List.getElem_toArray, List.getElem_cons_zero, List.getElem_cons_succ]
  refine wpAnyT_take (i := 7) (oi := _) (v := .slice (some ⟨eb, eo, none⟩) n ec) [28] rfl (by kernel_rfl) (fun _ _ _ h => h) (Or.inl ⟨by rfl, fun w hSw => ?_⟩) hS0 ?_
  · obtain ⟨x0, x1, x2, x3, x4, x5, x6⟩ := hSw; go_simp
  try simp only [Act.put, List.setIfInBounds_toArray, List.set_cons_zero, List.set_cons_succ, List.getElem_toArray, List.getElem_cons_zero, List.getElem_cons_succ]
  refine wpAnyT_take (i := 8) (oi := _) (v := .pointer (some ⟨p, 0, none⟩)) [9, 10, 11, 22, 25, 28] rfl (by kernel_rfl) (fun _ _ _ h => h) (Or.inl ⟨by rfl, fun w hSw => ?_⟩) hS0 ?_
  · obtain ⟨x0, x1, x2, x3, x4, x5, x6⟩ := hSw; go_simp
  try simp only [Act.put, List.setIfInBounds_toArray, List.set_cons_zero, List.set_cons_succ, List.getElem_toArray, List.getElem_cons_zero, List.getElem_cons_succ]
  refine wpAnyT_take (i := 9) (oi := _) (v := .pointer (some ⟨p, 0, none⟩)) [10, 11, 22, 25, 28] rfl (by kernel_rfl) (fun _ _ _ h => h) (Or.inl ⟨by rfl, fun w hSw => ?_⟩) hS0 ?_
  · obtain ⟨x0, x1, x2, x3, x4, x5, x6⟩ := hSw; go_simp
  try simp only [Act.put, List.setIfInBounds_toArray, List.set_cons_zero, List.set_cons_succ, List.getElem_toArray, List.getElem_cons_zero, List.getElem_cons_succ]
  refine wpAnyT_take (i := 10) (oi := _) (v := .pointer (some ⟨p, 0, none⟩)) [11, 22, 25, 28] rfl (by kernel_rfl) (fun _ _ _ h => h) (Or.inl ⟨by rfl, fun w hSw => ?_⟩) hS0 ?_
  · obtain ⟨x0, x1, x2, x3, x4, x5, x6⟩ := hSw; go_simp
  try simp only [Act.put, List.setIfInBounds_toArray, List.set_cons_zero, List.set_cons_succ, List.getElem_toArray, List.getElem_cons_zero, List.getElem_cons_succ]
  refine wpAnyT_take (i := 11) (oi := _) (v := .slice ua un uc) [22, 25, 28] rfl (by kernel_rfl) (fun _ _ _ h => h) (Or.inl ⟨by rfl, fun w hSw => ?_⟩) hS0 ?_
  · obtain ⟨x0, x1, x2, x3, x4, x5, x6⟩ := hSw; go_simp
  try simp only [Act.put, List.setIfInBounds_toArray, List.set_cons_zero, List.set_cons_succ, List.getElem_toArray, List.getElem_cons_zero, List.getElem_cons_succ]
  refine wpAnyT_take (i := 12) (oi := _) (v := .pointer (some ⟨p, 0, none⟩)) [13, 14, 15, 16, 22, 25, 28] rfl (by kernel_rfl) (fun _ _ _ h => h) (Or.inl ⟨by rfl, fun w hSw => ?_⟩) hS0 ?_
  · obtain ⟨x0, x1, x2, x3, x4, x5, x6⟩ := hSw; go_simp
  try simp only [Act.put, List.setIfInBounds_toArray, List.set_cons_zero, List.set_cons_succ, List.getElem_toArray, List.getElem_cons_zero, List.getElem_cons_succ]
  refine wpAnyT_take (i := 13) (oi := _) (v := .pointer (some ⟨p, 0, none⟩)) [14, 15, 16, 22, 25, 28] rfl (by kernel_rfl) (fun _ _ _ h => h) (Or.inl ⟨by rfl, fun w hSw => ?_⟩) hS0 ?_
  · obtain ⟨x0, x1, x2, x3, x4, x5, x6⟩ := hSw; go_simp
  try simp only [Act.put, List.setIfInBounds_toArray, List.set_cons_zero, List.set_cons_succ, List.getElem_toArray, List.getElem_cons_zero, List.getElem_cons_succ]
  refine wpAnyT_take (i := 14) (oi := _) (v := .pointer (some ⟨p, 0, none⟩)) [15, 16, 22, 25, 28] rfl (by kernel_rfl) (fun _ _ _ h => h) (Or.inl ⟨by rfl, fun w hSw => ?_⟩) hS0 ?_
  · obtain ⟨x0, x1, x2, x3, x4, x5, x6⟩ := hSw; go_simp
  try simp only [Act.put, List.setIfInBounds_toArray, List.set_cons_zero, List.set_cons_succ, List.getElem_toArray, List.getElem_cons_zero, List.getElem_cons_succ]
  refine wpAnyT_take (i := 15) (oi := _) (v := .slice ua un uc) [16, 22, 25, 28] rfl (by kernel_rfl) (fun _ _ _ h => h) (Or.inl ⟨by rfl, fun w hSw => ?_⟩) hS0 ?_
  · obtain ⟨x0, x1, x2, x3, x4, x5, x6⟩ := hSw; go_simp
  try simp only [Act.put, List.setIfInBounds_toArray, List.set_cons_zero, List.set_cons_succ, List.getElem_toArray, List.getElem_cons_zero, List.getElem_cons_succ]
  refine wpAnyT_take (i := 16) (oi := _) (v := .int .i64 un) [22, 25, 28] rfl (by kernel_rfl) (fun _ _ _ h => h) (Or.inl ⟨by rfl, fun w hSw => ?_⟩) hS0 ?_
  · obtain ⟨x0, x1, x2, x3, x4, x5, x6⟩ := hSw; go_simp
  try simp only [Act.put, List.setIfInBounds_toArray, List.set_cons_zero, List.set_cons_succ, List.getElem_toArray, List.getElem_cons_zero, List.getElem_cons_succ]
  refine wpAnyT_take (i := 17) (oi := _) (v := .pointer (some ⟨p, 0, none⟩)) [18, 19, 20, 21, 22, 25, 28] rfl (by kernel_rfl) (fun _ _ _ h => h) (Or.inl ⟨by rfl, fun w hSw => ?_⟩) hS0 ?_
  · obtain ⟨x0, x1, x2, x3, x4, x5, x6⟩ := hSw; go_simp
  try simp only [Act.put, List.setIfInBounds_toArray, List.set_cons_zero, List.set_cons_succ, List.getElem_toArray, List.getElem_cons_zero, List.getElem_cons_succ]
  refine wpAnyT_take (i := 18) (oi := _) (v := .pointer (some ⟨p, 0, none⟩)) [19, 20, 21, 22, 25, 28] rfl (by kernel_rfl) (fun _ _ _ h => h) (Or.inl ⟨by rfl, fun w hSw => ?_⟩) hS0 ?_
  · obtain ⟨x0, x1, x2, x3, x4, x5, x6⟩ := hSw; go_simp
  try simp only [Act.put, List.setIfInBounds_toArray, List.set_cons_zero, List.set_cons_succ, List.getElem_toArray, List.getElem_cons_zero, List.getElem_cons_succ]
  refine wpAnyT_take (i := 19) (oi := _) (v := .pointer (some ⟨p, 0, none⟩)) [20, 21, 22, 25, 28] rfl (by kernel_rfl) (fun _ _ _ h => h) (Or.inl ⟨by rfl, fun w hSw => ?_⟩) hS0 ?_
  · obtain ⟨x0, x1, x2, x3, x4, x5, x6⟩ := hSw; go_simp
  try simp only [Act.put, List.setIfInBounds_toArray, List.set_cons_zero, List.set_cons_succ, List.getElem_toArray, List.getElem_cons_zero, List.getElem_cons_succ]
  refine wpAnyT_take (i := 20) (oi := _) (v := .slice ua un uc) [21, 22, 25, 28] rfl (by kernel_rfl) (fun _ _ _ h => h) (Or.inl ⟨by rfl, fun w hSw => ?_⟩) hS0 ?_
  · obtain ⟨x0, x1, x2, x3, x4, x5, x6⟩ := hSw; go_simp
  try simp only [Act.put, List.setIfInBounds_toArray, List.set_cons_zero, List.set_cons_succ, List.getElem_toArray, List.getElem_cons_zero, List.getElem_cons_succ]
  refine wpAnyT_take (i := 21) (oi := _) (v := .int .i64 un) [22, 25, 28] rfl (by kernel_rfl) (fun _ _ _ h => h) (Or.inl ⟨by rfl, fun w hSw => ?_⟩) hS0 ?_
  · obtain ⟨x0, x1, x2, x3, x4, x5, x6⟩ := hSw; go_simp
  try simp only [Act.put, List.setIfInBounds_toArray, List.set_cons_zero, List.set_cons_succ, List.getElem_toArray, List.getElem_cons_zero, List.getElem_cons_succ]
  refine wpAnyT_take (i := 22) (oi := _) (v := .slice ua un un) [25, 28] rfl (by kernel_rfl) (fun _ _ _ h => h) (Or.inl ⟨by rfl, fun w hSw => ?_⟩) hS0 ?_
  · obtain ⟨x0, x1, x2, x3, x4, x5, x6⟩ := hSw; go_simp
  try simp only [Act.put, List.setIfInBounds_toArray, List.set_cons_zero, List.set_cons_succ, List.getElem_toArray, List.getElem_cons_zero, List.getElem_cons_succ]
  refine wpAnyT_take (i := 23) (oi := _) (v := .agg #[.int .i64 g.fl, .int .i64 g.fc, .int .i64 g.tl, .int .i64 g.tc, .slice ga gl gc]) [24, 25, 28] rfl (by kernel_rfl) (fun _ _ _ h => h) (Or.inl ⟨by rfl, fun w hSw => ?_⟩) hS0 ?_
  · obtain ⟨x0, x1, x2, x3, x4, x5, x6⟩ := hSw; go_simp
  try simp only [Act.put, List.setIfInBounds_toArray, List.set_cons_zero, List.set_cons_succ, List.getElem_toArray, List.getElem_cons_zero, List.getElem_cons_succ]
  refine wpAnyT_step (i := 24) (o := _) rfl (by kernel_rfl) (fun K' hK => ?_)
  simp only [List.getElem_toArray, List.getElem_cons_zero, List.getElem_cons_succ]
  rw [if_pos (by rfl)]
  go_simp
  refine hK.out _ _ ⟨a0, (cell_alloc dU _), (cell_alloc d0 _), (cell_alloc d1 _), (cell_alloc d2 _), (cell_alloc d3 _), (cell_alloc d4 _)⟩ (fun hS1 => ?_)
  clear hK K' hS0
  try simp only [Act.put, List.setIfInBounds_toArray, List.set_cons_zero, List.set_cons_succ, List.getElem_toArray, List.getElem_cons_zero, List.getElem_cons_succ]
  refine wpAnyT_step (i := 25) (o := _) rfl (by kernel_rfl) (fun K' hK => ?_)
  simp only [List.getElem_toArray, List.getElem_cons_zero, List.getElem_cons_succ]
  rw [if_pos (by rfl)]
  refine wp_append_run (.tmp 51) (.tmp 53) 27 27 (.slice ua un un) (.slice (some ⟨W2.heap.size, 0, none⟩) 1 1) (hr1 27) rfl rfl rfl ?_
  refine hK.out _ _ ⟨eE, eU, e0, e1, e2, e3, e4⟩ (fun hS2 => ?_)
  clear hK K' hS1
  try simp only [Act.put, List.setIfInBounds_toArray, List.set_cons_zero, List.set_cons_succ, List.getElem_toArray, List.getElem_cons_zero, List.getElem_cons_succ]
  refine wpAnyT_take (i := 26) (oi := _) (v := .pointer (some ⟨p, 0, none⟩)) [27, 28] rfl (by kernel_rfl) (fun _ _ _ h => h) (Or.inl ⟨by rfl, fun w hSw => ?_⟩) hS2 ?_
  · obtain ⟨x0, x1, x2, x3, x4, x5, x6⟩ := hSw; go_simp
  try simp only [Act.put, List.setIfInBounds_toArray, List.set_cons_zero, List.set_cons_succ, List.getElem_toArray, List.getElem_cons_zero, List.getElem_cons_succ]
  refine wpAnyT_take (i := 27) (oi := _) (v := .pointer (some ⟨p, 1, none⟩)) [28] rfl (by kernel_rfl) (fun _ _ _ h => h) (Or.inl ⟨by rfl, fun w hSw => ?_⟩) hS2 ?_
  · obtain ⟨x0, x1, x2, x3, x4, x5, x6⟩ := hSw; go_simp
  try simp only [Act.put, List.setIfInBounds_toArray, List.set_cons_zero, List.set_cons_succ, List.getElem_toArray, List.getElem_cons_zero, List.getElem_cons_succ]
  refine wpAnyT_last (i := 28) (o := _) rfl (by kernel_rfl) (by kernel_rfl) (fun K' hK => ?_)
  simp only [List.getElem_toArray, List.getElem_cons_zero, List.getElem_cons_succ]
  rw [if_pos (by rfl)]
  go_simp
  refine hK.out _ _ ?_
  clear hK K'
  try simp only [Act.put, List.setIfInBounds_toArray, List.set_cons_zero, List.set_cons_succ, List.getElem_toArray, List.getElem_cons_zero, List.getElem_cons_succ]
  refine wpAnyT_last (i := 29) (o := _) rfl (by kernel_rfl) (by kernel_rfl) (fun K' hK => ?_)
  simp only [List.getElem_toArray, List.getElem_cons_zero, List.getElem_cons_succ]
  rw [if_pos (by rfl)]
  go_simp
  refine hK.out _ _ ?_
  clear hK K'
  try simp only [Act.put, List.setIfInBounds_toArray, List.set_cons_zero, List.set_cons_succ, List.getElem_toArray, List.getElem_cons_zero, List.getElem_cons_succ]
  refine wpAnyT_last (i := 30) (o := _) rfl (by kernel_rfl) (by kernel_rfl) (fun K' hK => ?_)
  simp only [List.getElem_toArray, List.getElem_cons_zero, List.getElem_cons_succ]
  rw [if_pos (by rfl)]
  go_simp
  refine hK.out _ _ ?_
  clear hK K'
  try simp only [Act.put, List.setIfInBounds_toArray, List.set_cons_zero, List.set_cons_succ, List.getElem_toArray, List.getElem_cons_zero, List.getElem_cons_succ]
  refine wpAnyT_last (i := 31) (o := _) rfl (by kernel_rfl) (by kernel_rfl) (fun K' hK => ?_)
  simp only [List.getElem_toArray, List.getElem_cons_zero, List.getElem_cons_succ]
  rw [if_pos (by rfl)]
  go_simp
  refine hK.out _ _ (wpAnyT_done (by kernel_rfl) ?_ _)
  dsimp only [Whole]
  have h7 := H7.out
  obtain ⟨W7, hW7⟩ : ∃ W7, W7 = (w5.setCell ⟨p, 1, none⟩ (.slice (some ⟨eb, eo, none⟩) n ec)).setCell ⟨p, 0, none⟩ (.slice sa (un + 1) sc) := ⟨_, rfl⟩
  rw [← hW7] at h7 ⊢
  have h8 : Owns w0 W7 (robj p (.slice sa (un + 1) sc) (.slice (some ⟨eb, eo, none⟩) n ec) false g9 :: Asrt.row 32 5 (.slice sa (U.length + 1) sc) (U.length + 1) (grs U ++ grf { g with }) :: _) := (by rw [← Hgv.out] at h7; exact h7)
  clear h7 H7 hW7 hK hS2 K' hr1 hrn dE dU d0 d1 d2 d3 d4 a0 eE eU e0 e1 e2 e3 e4 f0 f1
  have h9 := h8.ord [1, 5, 6, 5]
  rw [HE.out] at h9
  have h10 := (rshift (U := U) Hn.out h9)
  have h11 : Owns w0 W7 (Asrt.obj G (.cells #[.int .i64 g.fl, .int .i64 g.fc, .int .i64 g.tl, .int .i64 g.tc, g.lv] 32 (0, 0)) :: Asrt.obj B (.cells #[.int .i64 0, .int .i64 0] 29 (0, 0)) :: rgA g :: robj p (.slice sa (un + 1) sc) (.slice (some ⟨eb, eo, none⟩) n ec) false g9 :: rlist (.slice (some ⟨eb, eo, none⟩) n ec) D :: rlist (.slice sa (U.length + 1) sc) (U ++ [g]) :: rgsA D :: rgsA U :: R) := ((h10.ord [6, 6]).drop.drop).ord [6, 6, 3, 4]
  clear h8 h9 h10
  rw [Hun.out] at h11
  have b0 : W7.cell? ⟨B, 0, none⟩ = some (.int .i64 0) := h11.p1.cell (j := 0) rfl
  have b1 : W7.cell? ⟨B, 1, none⟩ = some (.int .i64 0) := h11.p1.cell (j := 1) rfl
  have z0 := h11.p1.frozen 0
  have z1 := h11.p1.frozen 1
  have g0 : W7.cell? ⟨G, 0, none⟩ = some (.int .i64 g.fl) := h11.cell (j := 0) rfl
  have g1 : W7.cell? ⟨G, 1, none⟩ = some (.int .i64 g.fc) := h11.cell (j := 1) rfl
  have g2 : W7.cell? ⟨G, 2, none⟩ = some (.int .i64 g.tl) := h11.cell (j := 2) rfl
  have g3 : W7.cell? ⟨G, 3, none⟩ = some (.int .i64 g.tc) := h11.cell (j := 3) rfl
  have g4 : W7.cell? ⟨G, 4, none⟩ = some (.slice g.ga g.L.length g.gc) := h11.cell (j := 4) rfl
  have h12 := (h11.p1.set 0 (.int .i64 g.tl)).set 1 (.int .i64 g.tc)
  have u0 : ((W7.setCell ⟨B, 0, none⟩ (.int .i64 g.tl)).setCell ⟨B, 1, none⟩ (.int .i64 g.tc)).cell? ⟨B, 0, none⟩ = some (.int .i64 g.tl) := h12.cell (j := 0) rfl
  have u1 : ((W7.setCell ⟨B, 0, none⟩ (.int .i64 g.tl)).setCell ⟨B, 1, none⟩ (.int .i64 g.tc)).cell? ⟨B, 1, none⟩ = some (.int .i64 g.tc) := h12.cell (j := 1) rfl
  have H12 := Lib.hid (rfoldR h12.drop.drop)
  clear h11 h12
  go_wp2_with fail
  go_region
  go_wp2_with fail
  exact bodyPost_ret (v := .tuple #[g.lv, .agg #[.int .i64 g.tl, .int .i64 g.tc], .bool true]) (by simp [results, Try.results18, go_sem, u0, u1]) rfl ⟨rfl, H12.out.drew⟩
end
end Go.Proofs.Ytchgkdhhfbppbaa
