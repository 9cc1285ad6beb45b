/- The document's history in memory: Begin, Add. -/
import Derived.Test.YtchgkdhhfbppbaaUH
import Derived.Test.YtchgkdhhfbppbaaUV
import Derived.Test.YtchgkdhhfbppbaaRowRgp
import Derived.Test.YtchgkdhhfbppbaaFull
namespace Go.Proofs.Ytchgkdhhfbppbaa
open Go Go.RowKit Go.Fol
attribute [local go_sem ↓] Go.wp_at_zero Go.wp_at_succ
set_option linter.unusedVariables false
set_option linter.unusedSimpArgs false
abbrev rcells (dv uv : Value) (o : Bool) (g : Gr) : Array Value := #[dv, uv, .bool o, .int .i64 g.fl, .int .i64 g.fc, .int .i64 g.tl, .int .i64 g.tc, g.lv]
abbrev robj (p : Nat) (dv uv : Value) (o : Bool) (g : Gr) : Asrt := Asrt.obj p (.cells (rcells dv uv o g) 34 (0, 0))
abbrev rgA (g : Gr) : Asrt := Asrt.src 3 g.lv g.L.length (chs g.L)
abbrev rlist (v : Value) (D : List Gr) : Asrt := Asrt.src 5 v D.length (grs D)
abbrev rgsA (D : List Gr) : Asrt := Asrt.all (D.map rgA)
/-- The document's history, nothing open; one group open. -/
def rhistN (p : Nat) (D U : List Gr) : Asrt := Asrt.ex fun dv : Value => Asrt.ex fun uv : Value => Asrt.ex fun g : Gr => Asrt.all [robj p dv uv false g, rlist dv D, rlist uv U, rgsA D, rgsA U]
def rhistO (p : Nat) (D U : List Gr) (g : Gr) : Asrt := Asrt.ex fun dv : Value => Asrt.ex fun uv : Value => Asrt.all [robj p dv uv true g, rgA g, rlist dv D, rlist uv U, rgsA D, rgsA U]
section
variable {w0 w : World} {R : List Asrt}
theorem rhistNE {p : Nat} {D U : List Gr} (H : Owns w0 w (rhistN p D U :: R)) : ∃ (da ua : Option Addr) (dc uc : Nat) (g : Gr), Owns w0 w (robj p (.slice da D.length dc) (.slice ua U.length uc) false g :: rlist (.slice da D.length dc) D :: rlist (.slice ua U.length uc) U :: rgsA D :: rgsA U :: R) := by
  obtain ⟨dv, h⟩ := H.exE
  obtain ⟨uv, h⟩ := h.exE
  obtain ⟨g, h⟩ := h.exE
  have h := Owns.allE (L := [_, _, _, _, _]) h
  obtain ⟨da, dc, rfl⟩ := (h.ord [1]).src.form
  obtain ⟨ua, uc, rfl⟩ := (h.ord [2]).src.form
  exact ⟨da, ua, dc, uc, g, h⟩
theorem rhistNI {p : Nat} {D U : List Gr} {dv uv : Value} {g : Gr} (H : Owns w0 w (robj p dv uv false g :: rlist dv D :: rlist uv U :: rgsA D :: rgsA U :: R)) : Owns w0 w (rhistN p D U :: R) :=
  Owns.exI dv (Owns.exI uv (Owns.exI g (Owns.allI (L := [_, _, _, _, _]) H)))
theorem rhistOE {p : Nat} {D U : List Gr} {g : Gr} (H : Owns w0 w (rhistO p D U g :: R)) : ∃ (da ua : Option Addr) (dc uc : Nat), Owns w0 w (robj p (.slice da D.length dc) (.slice ua U.length uc) true g :: rgA g :: rlist (.slice da D.length dc) D :: rlist (.slice ua U.length uc) U :: rgsA D :: rgsA U :: R) := by
  obtain ⟨dv, h⟩ := H.exE
  obtain ⟨uv, h⟩ := h.exE
  have h := Owns.allE (L := [_, _, _, _, _, _]) h
  obtain ⟨da, dc, rfl⟩ := (h.ord [2]).src.form
  obtain ⟨ua, uc, rfl⟩ := (h.ord [3]).src.form
  exact ⟨da, ua, dc, uc, h⟩
theorem rhistOI {p : Nat} {D U : List Gr} {dv uv : Value} {g : Gr} (H : Owns w0 w (robj p dv uv true g :: rgA g :: rlist dv D :: rlist uv U :: rgsA D :: rgsA U :: R)) : Owns w0 w (rhistO p D U g :: R) :=
  Owns.exI dv (Owns.exI uv (Owns.allI (L := [_, _, _, _, _, _]) H))
set_option maxHeartbeats 1000000 in
theorem rbegin {p : Nat} {D U : List Gr} (l c : Int) (H : Owns w0 w (rhistN p D U :: R)) :
    Calls Try.prog 9 #[.pointer (some ⟨p, 0, none⟩), .agg #[.int .i64 l, .int .i64 c]] w (Ret (.tuple #[]) w0 (rhistO p D U ⟨l, c, 0, 0, none, 0, []⟩ :: R)) := by
  obtain ⟨da, ua, dc, uc, g, h⟩ := rhistNE H
  have h1 := (h.alloc #[.int .i64 l, .int .i64 c] 29).p1
  obtain ⟨W, hW⟩ : ∃ W, W = w.alloc (.cells #[.int .i64 l, .int .i64 c] 29) := ⟨_, rfl⟩
  obtain ⟨B, hB⟩ : ∃ B, B = w.heap.size := ⟨_, rfl⟩
  rw [← hW, ← hB] at h1
  have b0 : W.cell? ⟨B, 0, none⟩ = some (.int .i64 l) := h1.p1.cell (j := 0) rfl
  have b1 : W.cell? ⟨B, 1, none⟩ = some (.int .i64 c) := h1.p1.cell (j := 1) rfl
  have k2 : W.cell? ⟨p, 2, none⟩ = some (.bool false) := h1.cell (j := 2) rfl
  have k3 : W.cell? ⟨p, 3, none⟩ = some (.int .i64 g.fl) := h1.cell (j := 3) rfl
  have k4 : W.cell? ⟨p, 4, none⟩ = some (.int .i64 g.fc) := h1.cell (j := 4) rfl
  have k5 : W.cell? ⟨p, 5, none⟩ = some (.int .i64 g.tl) := h1.cell (j := 5) rfl
  have k6 : W.cell? ⟨p, 6, none⟩ = some (.int .i64 g.tc) := h1.cell (j := 6) rfl
  have k7 : W.cell? ⟨p, 7, none⟩ = some g.lv := h1.cell (j := 7) rfl
  have f2 := h1.frozen 2
  have f3 := h1.frozen 3
  have f4 := h1.frozen 4
  have f5 := h1.frozen 5
  have f6 := h1.frozen 6
  have f7 := h1.frozen 7
  have h2 := (((((((h1.set 2 (.bool true)).set 3 (.int .i64 l)).set 4 (.int .i64 c)).set 5 (.int .i64 0)).set 6 (.int .i64 0)).set 7 (.slice none 0 0)))
  have H2 := Lib.hid h2
  have HW := Lib.hid hW
  have HB := Lib.hid hB
  clear H h h1 h2 hW hB
  go_enter Try.func9, Try.ntmps9
  go_upto_region 1 with (fail)
  rw [← HB.out, ← HW.out]
  go_wp2_with fail
  go_region
  go_wp2_with fail
  go_end0
  have h3 := (Owns.srcNil (k := 3) H2.out.p1.drop).p1.drew
  exact ⟨rfl, rhistOI (g := ⟨l, c, 0, 0, none, 0, []⟩) h3⟩
theorem rbegin_open {p : Nat} {D U : List Gr} {g : Gr} (l c : Int) (H : Owns w0 w (rhistO p D U g :: R)) :
    Calls Try.prog 9 #[.pointer (some ⟨p, 0, none⟩), .agg #[.int .i64 l, .int .i64 c]] w (Ret (.tuple #[]) w0 (rhistO p D U g :: R)) := by
  obtain ⟨da, ua, dc, uc, h⟩ := rhistOE H
  have k2 : (w.alloc (.cells #[.int .i64 l, .int .i64 c] 29)).cell? ⟨p, 2, none⟩ = some (.bool true) := (h.alloc #[.int .i64 l, .int .i64 c] 29).p1.cell (j := 2) rfl
  have H2 := Lib.hid ((H.alloc #[.int .i64 l, .int .i64 c] 29).drop)
  clear H h
  go_enter Try.func9, Try.ntmps9
  go_wp2_with fail
  go_end0
  exact ⟨rfl, H2.out⟩
theorem radd_none {p : Nat} {D U : List Gr} {v : Value} {n : Nat} {xs : List Value} (H : Owns w0 w (rhistN p D U :: R)) (hs : SrcV w 3 v n xs) :
    Calls Try.prog 11 #[.pointer (some ⟨p, 0, none⟩), v] w (Ret (.tuple #[]) w0 (rhistN p D U :: R)) := by
  obtain ⟨da, ua, dc, uc, g, h⟩ := rhistNE H
  obtain ⟨va, vc, rfl⟩ := hs.form
  have k2 : w.cell? ⟨p, 2, none⟩ = some (.bool false) := h.cell (j := 2) rfl
  have H2 := Lib.hid H
  clear H h hs
  go_enter Try.func11, Try.ntmps11
  go_wp2_with fail
  go_end0
  exact ⟨rfl, H2.out⟩
theorem rcommit_none {p : Nat} {D U : List Gr} (l c : Int) (H : Owns w0 w (rhistN p D U :: R)) :
    Calls Try.prog 13 #[.pointer (some ⟨p, 0, none⟩), .agg #[.int .i64 l, .int .i64 c]] w (Ret (.bool false) w0 (rhistN p D U :: R)) := by
  obtain ⟨da, ua, dc, uc, g, h⟩ := rhistNE H
  have k2 : (w.alloc (.cells #[.int .i64 l, .int .i64 c] 29)).cell? ⟨p, 2, none⟩ = some (.bool false) := (h.alloc #[.int .i64 l, .int .i64 c] 29).p1.cell (j := 2) rfl
  have H2 := Lib.hid ((H.alloc #[.int .i64 l, .int .i64 c] 29).drop)
  clear H h
  go_enter Try.func13, Try.ntmps13
  go_wp2_with fail
  go_ret
  exact ⟨rfl, H2.out⟩
theorem rcommit_empty {p : Nat} {D U : List Gr} {g : Gr} (l c : Int) (hg : g.L = []) (H : Owns w0 w (rhistO p D U g :: R)) :
    Calls Try.prog 13 #[.pointer (some ⟨p, 0, none⟩), .agg #[.int .i64 l, .int .i64 c]] w (Ret (.bool false) w0 (rhistN p D U :: R)) := by
  obtain ⟨da, ua, dc, uc, h⟩ := rhistOE H
  have hv : g.lv = .slice g.ga 0 g.gc := by show Value.slice _ _ _ = _; rw [hg]; rfl
  have h1 := (h.alloc #[.int .i64 l, .int .i64 c] 29).p1
  have k2 : (w.alloc (.cells #[.int .i64 l, .int .i64 c] 29)).cell? ⟨p, 2, none⟩ = some (.bool true) := h1.cell (j := 2) rfl
  have k7 : (w.alloc (.cells #[.int .i64 l, .int .i64 c] 29)).cell? ⟨p, 7, none⟩ = some (.slice g.ga 0 g.gc) := by rw [← hv]; exact h1.cell (j := 7) rfl
  have f2 := h1.frozen 2
  have H2 := Lib.hid ((h1.set 2 (.bool false)).p1.drop.p1.drop)
  clear H h h1 hv hg
  go_enter Try.func13, Try.ntmps13
  go_wp2_with fail
  go_ret
  exact ⟨rfl, rhistNI (g := g) H2.out⟩
end
end Go.Proofs.Ytchgkdhhfbppbaa
