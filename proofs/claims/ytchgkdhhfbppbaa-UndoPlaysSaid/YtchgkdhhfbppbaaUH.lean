/- undo: what may be undone, in memory; New, Begin, Add, Depth. -/
import Derived.Test.YtchgkdhhfbppbaaUI
import Derived.Test.YtchgkdhhfbppbaaVecPGrp
namespace Go.Proofs.Ytchgkdhhfbppbaa
open Go Go.RowKit Go.Fol
attribute [local go_sem ↓] Go.wp_at_zero Go.wp_at_succ
set_option linter.unusedVariables false
set_option linter.unusedSimpArgs false
/-- A group, as it lies in memory. -/
structure Gr where
  fl : Int
  fc : Int
  tl : Int
  tc : Int
  ga : Option Addr
  gc : Nat
  L : List Ch
abbrev Gr.lv (g : Gr) : Value := .slice g.ga g.L.length g.gc
def grf (g : Gr) : List Value := [.int .i64 g.fl, .int .i64 g.fc, .int .i64 g.tl, .int .i64 g.tc, g.lv]
abbrev grs (G : List Gr) : List Value := flat grf G
theorem grf_len : ∀ x, (grf x).length = 5 := fun _ => rfl
theorem grs_one (G : List Gr) : ∀ u ∈ grs G, u.oneCell' = true := flat_one_cell (fun x u hu => by simp [grf] at hu; rcases hu with rfl | rfl | rfl | rfl | rfl <;> rfl) G
theorem grs_len (G : List Gr) : (grs G).length = G.length * 5 := flat_len grf_len G
theorem grs_get {G : List Gr} {i : Nat} {g : Gr} (h : G[i]? = some g) : (grs G)[i * 5]? = some (.int .i64 g.fl) ∧ (grs G)[i * 5 + 1]? = some (.int .i64 g.fc) ∧ (grs G)[i * 5 + 2]? = some (.int .i64 g.tl) ∧ (grs G)[i * 5 + 3]? = some (.int .i64 g.tc) ∧ (grs G)[i * 5 + 4]? = some g.lv :=
  ⟨flat_get grf_len h (j := 0) (by decide), flat_get grf_len h (j := 1) (by decide), flat_get grf_len h (j := 2) (by decide), flat_get grf_len h (j := 3) (by decide), flat_get grf_len h (j := 4) (by decide)⟩
/-- What is told of a group. -/
abbrev GD := (Int × Int) × (Int × Int) × List CD
def Gr.dat (g : Gr) : GD := ((g.fl, g.fc), (g.tl, g.tc), datL g.L)
abbrev gdatL (G : List Gr) : List GD := G.map Gr.dat
/-- its changes. -/
abbrev grA (g : Gr) : Asrt := Asrt.all [row_chg g.lv g.L.length (chs g.L), chsA g.L]
def grsA (G : List Gr) : Asrt := Asrt.all (G.map grA)
abbrev hobj (p v done : Nat) (ov : Option Addr) : Asrt := Asrt.obj p (.cells #[.pointer (some ⟨v, 0, none⟩), .int .i64 done, .pointer ov] 59 (0, 0))
abbrev grpvec (v : Nat) (G : List Gr) : Asrt := vec_grp v G.length (grs G)
abbrev gobj (o : Nat) (g : Gr) : Asrt := Asrt.obj o (.cells #[.int .i64 g.fl, .int .i64 g.fc, .int .i64 g.tl, .int .i64 g.tc, g.lv] 56 (0, 0))
/-- the open group. -/
def opnA (ov : Option Addr) : Option Gr → Asrt
  | none => Asrt.pure (ov = none)
  | some g => Asrt.ex fun o : Nat => Asrt.all [Asrt.pure (ov = some ⟨o, 0, none⟩), gobj o g, row_chg g.lv g.L.length (chs g.L), chsA g.L]
/-- A history: its groups, how many weren't undone, the open one. -/
def Asrt.hist (p : Nat) (G : List Gr) (done : Nat) (op : Option Gr) : Asrt := Asrt.ex fun v : Nat => Asrt.ex fun ov : Option Addr => Asrt.all [hobj p v done ov, grpvec v G, grsA G, opnA ov op]
section
variable {w0 w : World} {R : List Asrt}
theorem histE {p : Nat} {G : List Gr} {done : Nat} {op : Option Gr} (H : Owns w0 w (Asrt.hist p G done op :: R)) : ∃ v ov, Owns w0 w (hobj p v done ov :: grpvec v G :: grsA G :: opnA ov op :: R) := by
  obtain ⟨v, h⟩ := H.exE
  obtain ⟨ov, h⟩ := h.exE
  exact ⟨v, ov, Owns.allE (L := [_, _, _, _]) h⟩
theorem histI {p v : Nat} {ov : Option Addr} {G : List Gr} {done : Nat} {op : Option Gr} (H : Owns w0 w (hobj p v done ov :: grpvec v G :: grsA G :: opnA ov op :: R)) : Owns w0 w (Asrt.hist p G done op :: R) :=
  Owns.exI v (Owns.exI ov (Owns.allI (L := [_, _, _, _]) H))
theorem opnN {ov : Option Addr} (H : Owns w0 w (opnA ov none :: R)) : ov = none ∧ Owns w0 w R := Owns.pureE H
theorem opnNI (H : Owns w0 w R) : Owns w0 w (opnA none none :: R) := Owns.pureI H rfl
theorem opnS {ov : Option Addr} {g : Gr} (H : Owns w0 w (opnA ov (some g) :: R)) : ∃ o : Nat, ov = some ⟨o, 0, none⟩ ∧ Owns w0 w (gobj o g :: row_chg g.lv g.L.length (chs g.L) :: chsA g.L :: R) := by
  obtain ⟨o, h⟩ := Owns.exE H
  obtain ⟨h1, h2⟩ := (Owns.allE (L := [_, _, _, _]) h).pureE
  exact ⟨o, h1, h2⟩
theorem opnSI {o : Nat} {g : Gr} (H : Owns w0 w (gobj o g :: row_chg g.lv g.L.length (chs g.L) :: chsA g.L :: R)) : Owns w0 w (opnA (some ⟨o, 0, none⟩) (some g) :: R) :=
  Owns.exI o (Owns.allI (L := [_, _, _, _]) (H.pureI rfl))
theorem unew (H : Owns w0 w R) : Calls Try.prog 7 #[] w (RetX (fun j : Nat => .pointer (some ⟨j, 0, none⟩)) w0 (fun j => Asrt.hist j [] 0 none :: R)) := by
  have HH := Lib.hid H
  have hc := o_new_grp (.slice none 0 0) 0 [] H Reads.nil (by simp) (by omega)
  clear H
  go_enter Try.func7, Try.ntmps7
  go_wp2_with fail
  refine hc.mono ?_
  rintro e w1 ⟨v, rfl, h1⟩
  have H1 := Lib.hid h1
  clear h1 hc
  go_wp2_with fail
  go_ret
  refine ⟨_, rfl, histI (v := v) (ov := none) (G := []) ?_⟩
  exact ((opnNI (Owns.allI (L := []) (H1.out.alloc #[.pointer (some ⟨v, 0, none⟩), .int .i64 0, .pointer none] 59))).ord [2, 2, 1, 0])
theorem ubegin {p : Nat} {G : List Gr} {done : Nat} (l c : Int) (H : Owns w0 w (Asrt.hist p G done none :: R)) :
    Calls Try.prog 8 #[.pointer (some ⟨p, 0, none⟩), .agg #[.int .i64 l, .int .i64 c]] w (Ret (.tuple #[]) w0 (Asrt.hist p G done (some ⟨l, c, 0, 0, none, 0, []⟩) :: R)) := by
  obtain ⟨v, ov, h⟩ := histE H
  obtain ⟨rfl, h⟩ := opnN (h.ord [3])
  have h1 := (h.alloc #[.int .i64 l, .int .i64 c] 29).drop.alloc0 (.cells #[.int .i64 l, .int .i64 c, .int .i64 0, .int .i64 0, .slice none 0 0] 56)
  have h2 := (h.alloc #[.int .i64 l, .int .i64 c] 29).alloc #[.int .i64 l, .int .i64 c, .int .i64 0, .int .i64 0, .slice none 0 0] 56
  have k2 : (w.alloc (.cells #[.int .i64 l, .int .i64 c] 29)).cell? ⟨p, 2, none⟩ = some (.pointer none) := (h.alloc #[.int .i64 l, .int .i64 c] 29).p1.cell (j := 2) rfl
  have e2 : ((w.alloc (.cells #[.int .i64 l, .int .i64 c] 29)).alloc (.cells #[.int .i64 l, .int .i64 c, .int .i64 0, .int .i64 0, .slice none 0 0] 56)).cell? ⟨p, 2, none⟩ = some (.pointer none) := h2.p2.cell (j := 2) rfl
  have f2 := h2.p2.frozen 2
  have H2 := Lib.hid (h2.p2.set 2 (.pointer (some ⟨(w.alloc (.cells #[.int .i64 l, .int .i64 c] 29)).heap.size, 0, none⟩)))
  clear H h h1 h2
  rw [World.size_alloc] at H2
  go_enter Try.func8, Try.ntmps8
  go_wp2_with fail
  go_end0
  have h3 := (((chsA_nil (H2.out.ord [2]).drop).rowNil 49 3).ord [3, 0, 0])
  exact ⟨rfl, histI (v := v) (ov := some ⟨w.heap.size + 1, 0, none⟩) ((opnSI (o := w.heap.size + 1) (g := ⟨l, c, 0, 0, none, 0, []⟩) h3).ord [1, 1, 1])⟩
theorem ubegin_open {p : Nat} {G : List Gr} {done : Nat} {g : Gr} (l c : Int) (H : Owns w0 w (Asrt.hist p G done (some g) :: R)) :
    Calls Try.prog 8 #[.pointer (some ⟨p, 0, none⟩), .agg #[.int .i64 l, .int .i64 c]] w (Ret (.tuple #[]) w0 (Asrt.hist p G done (some g) :: R)) := by
  obtain ⟨v, ov, h⟩ := histE H
  obtain ⟨o, rfl, h'⟩ := opnS (h.ord [3])
  have k2 : (w.alloc (.cells #[.int .i64 l, .int .i64 c] 29)).cell? ⟨p, 2, none⟩ = some (.pointer (some ⟨o, 0, none⟩)) := (h.alloc #[.int .i64 l, .int .i64 c] 29).p1.cell (j := 2) rfl
  have H2 := Lib.hid ((H.alloc #[.int .i64 l, .int .i64 c] 29).drop)
  clear H h h'
  go_enter Try.func8, Try.ntmps8
  go_wp2_with fail
  go_end0
  exact ⟨rfl, H2.out⟩
theorem udepth {p : Nat} {G : List Gr} {done : Nat} {op : Option Gr} (H : Owns w0 w (Asrt.hist p G done op :: R)) (hd : done ≤ G.length) (hl : G.length ≤ 1000) :
    Calls Try.prog 19 #[.pointer (some ⟨p, 0, none⟩)] w (Ret (.tuple #[.int .i64 done, .int .i64 ((G.length : Int) - done)]) w0 (Asrt.hist p G done op :: R)) := by
  obtain ⟨v, ov, h⟩ := histE H
  have k0 := h.cell (j := 0) rfl
  have k1 := h.cell (j := 1) rfl
  have hlen : ∀ q, Calls Try.prog 24 #[.pointer (some ⟨v, 0, none⟩)] (w.drewN q) fun e w' => e = .returned (.int .i64 G.length) ∧ w' = w.drewN q := fun q => (o_len_grp ((h.drewN q).p1)).mono fun e w' ⟨h1, h2⟩ => ⟨h1, h2.symm⟩
  have Hlen := Lib.hid hlen
  have H2 := Lib.hid H
  clear H h hlen
  go_enter Try.func19, Try.ntmps19
  go_wp2_with fail
  go_quiet ((go_at_call 24; exact Calls.quiet_of_same (Hlen.out _)))
  go_wp2_with fail
  go_ret2
  exact ⟨rfl, H2.out.drewN _⟩
end
end Go.Proofs.Ytchgkdhhfbppbaa
