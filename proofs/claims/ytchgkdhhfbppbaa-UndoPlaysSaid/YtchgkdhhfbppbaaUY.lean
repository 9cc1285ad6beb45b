/- Each act on both histories, in terms of the state. -/
import Derived.Test.YtchgkdhhfbppbaaUX
namespace Go.Proofs.Ytchgkdhhfbppbaa
open Go Go.RowKit Go.Fol
set_option linter.unusedVariables false
set_option linter.unusedSimpArgs false
abbrev U0 : Value := .tuple #[]
abbrev NoV : Value := .tuple #[.slice none 0 0, .agg #[.int .i64 0, .int .i64 0], .bool false]
section
variable {w0 w : World} {R : List Asrt} {p r i : Nat} {s : St}
/-- Both, behind an act. -/
def Both (w0 : World) (p r i : Nat) (R : List Asrt) (w : World) : Prop := ∃ s, Ok w0 i s ∧ Owns w0 w (rS r s :: pS p s :: R)
def begS (s : St) (l c : Int) : St := match s.op with
  | none => { s with op := some (⟨l, c, 0, 0, none, 0, []⟩, ⟨l, c, 0, 0, none, 0, []⟩) }
  | some _ => s
theorem begS_ok (l c : Int) (h : Ok w0 i s) : Ok w0 (i + 1) (begS s l c) := by
  unfold begS
  split
  · exact h.open_ l c
  · exact h.next
theorem pbeg (l c : Int) (H : Owns w0 w (pS p s :: R)) : Calls Try.prog 8 #[.pointer (some ⟨p, 0, none⟩), .agg #[.int .i64 l, .int .i64 c]] w (Ret U0 w0 (pS p (begS s l c) :: R)) := by
  obtain ⟨G, D, U, op⟩ := s
  cases op with
  | none => exact ubegin l c H
  | some x => exact ubegin_open l c H
theorem rbeg (l c : Int) (H : Owns w0 w (rS r s :: R)) : Calls Try.prog 9 #[.pointer (some ⟨r, 0, none⟩), .agg #[.int .i64 l, .int .i64 c]] w (Ret U0 w0 (rS r (begS s l c) :: R)) := by
  obtain ⟨G, D, U, op⟩ := s
  cases op with
  | none => exact rbegin l c H
  | some x => exact rbegin_open l c H
def AddP (s : St) (L : List Ch) (a : Option Gr) : Prop := match s.op with
  | none => a = none
  | some x => ∃ g2 : Gr, a = some g2 ∧ g2.dat = ((x.1.fl, x.1.fc), (x.1.tl, x.1.tc), datL x.1.L ++ datL L)
theorem lens_of {g g' : Gr} (h : g.dat = g'.dat) : g.L.length = g'.L.length := by
  have := congrArg (fun d : GD => d.2.2.length) h
  simpa [Gr.dat] using this
theorem padd {L : List Ch} {ka : Option Addr} {kc n : Nat} (hs : Ok w0 i s) (hn : n = L.length) (hK : SrcV w0 3 (.slice ka n kc) n (chs L)) (hh : HeldL w0 L) (ho : OkL (datL L)) (hL : L.length ≤ 4) (H : Owns w0 w (pS p s :: R)) :
    Calls Try.prog 10 #[.pointer (some ⟨p, 0, none⟩), .slice ka n kc] w fun e w' => e = .returned U0 ∧ ∃ a : Option Gr, AddP s L a ∧ Owns w0 w' (Asrt.hist p s.G s.D.length a :: R) := by
  obtain ⟨G, D, U, op⟩ := s
  cases op with
  | none =>
    refine (uadd_none H (hK.keep H.chg (by simp))).mono ?_
    rintro e w' ⟨rfl, h⟩
    exact ⟨rfl, none, rfl, h⟩
  | some x =>
    obtain ⟨h1, h2, h3⟩ := hs.op _ rfl
    have hl := lens_of h1
    have h2l := h2.len
    subst hn
    refine (uadd (L := L) H (ChRd.held (Reads.old hK) hh) ho (by omega) (by omega)).mono ?_
    rintro e w' ⟨g, rfl, h⟩
    obtain ⟨hg, h⟩ := h.pureE
    exact ⟨rfl, some g, ⟨g, rfl, hg⟩, h⟩
theorem radd' {L : List Ch} {ka : Option Addr} {kc n : Nat} {a : Option Gr} (hs : Ok w0 i s) (hi : i < 80) (hn : n = L.length) (hK : SrcV w0 3 (.slice ka n kc) n (chs L)) (hh : HeldL w0 L) (ho : OkL (datL L)) (hL : L.length ≤ 4) (ha : AddP s L a) (H : Owns w0 w (rS r s :: Asrt.hist p s.G s.D.length a :: R)) :
    Calls Try.prog 11 #[.pointer (some ⟨r, 0, none⟩), .slice ka n kc] w fun e w' => e = .returned U0 ∧ Both w0 p r (i + 1) R w' := by
  obtain ⟨G, D, U, op⟩ := s
  cases op with
  | none =>
    obtain rfl : a = none := ha
    refine (radd_none H (hK.keep H.chg (by simp))).mono ?_
    rintro e w' ⟨rfl, h⟩
    exact ⟨rfl, ⟨G, D, U, none⟩, hs.next, h⟩
  | some x =>
    obtain ⟨g2, rfl, hg2⟩ : ∃ g2 : Gr, a = some g2 ∧ g2.dat = ((x.1.fl, x.1.fc), (x.1.tl, x.1.tc), datL x.1.L ++ datL L) := ha
    obtain ⟨h1, h2, h3⟩ := hs.op _ rfl
    have h2l := h2.len
    subst hn
    refine (radd (L := L) rfl (by omega) (by omega) H (fun wx R' hx => hK.keep hx.chg (by simp))).mono ?_
    rintro e w' ⟨y, rfl, h⟩
    exact ⟨rfl, _, Ok.add (g := x.1) (g' := x.2) (xa := y.1) (xc := y.2) hs rfl hi hL hh ho hg2, h⟩
def comB (s : St) : Bool := match s.op with
  | none => false
  | some x => decide (0 < x.2.L.length)
def comT (s : St) (l c : Int) : St := match s.op with
  | none => s
  | some x => if 0 < x.2.L.length then comS s x l c else { s with op := none }
theorem comT_ok (l c : Int) (h : Ok w0 i s) : Ok w0 (i + 1) (comT s l c) := by
  unfold comT
  split
  · exact h.next
  · rename_i x hx
    split
    · exact h.com hx l c
    · exact h.shut
theorem pcom (l c : Int) (hs : Ok w0 i s) (H : Owns w0 w (pS p s :: R)) : Calls Try.prog 12 #[.pointer (some ⟨p, 0, none⟩), .agg #[.int .i64 l, .int .i64 c]] w (Ret (.bool (comB s)) w0 (pS p (comT s l c) :: R)) := by
  obtain ⟨G, D, U, op⟩ := s
  cases op with
  | none => exact ucommit_none l c H
  | some x =>
    obtain ⟨h1, h2, h3⟩ := hs.op _ rfl
    have hl := lens_of h1
    have h2l := h2.len
    have hlen := hs.lens
    have h16 := hs.len
    dsimp only at hlen h16
    by_cases h0 : 0 < x.2.L.length
    · have e1 : comB ⟨G, D, U, some x⟩ = true := decide_eq_true h0
      have e2 : comT ⟨G, D, U, some x⟩ l c = comS ⟨G, D, U, some x⟩ x l c := if_pos h0
      rw [e1, e2]
      have e3 := comS_len (x := x) hs l c
      have := ucommit l c H (by omega) (by omega) (show D.length ≤ G.length by omega) h16
      refine this.mono ?_
      rintro e w' ⟨he, h⟩
      refine ⟨he, ?_⟩
      show Owns w0 w' (Asrt.hist p _ (comS ⟨G, D, U, some x⟩ x l c).D.length none :: R)
      rw [← e3]
      exact h
    · have e1 : comB ⟨G, D, U, some x⟩ = false := decide_eq_false h0
      have e2 : comT ⟨G, D, U, some x⟩ l c = ⟨G, D, U, none⟩ := if_neg h0
      rw [e1, e2]
      exact ucommit_empty l c H (List.eq_nil_of_length_eq_zero (by omega))
theorem rcom (l c : Int) (hs : Ok w0 i s) (H : Owns w0 w (rS r s :: R)) : Calls Try.prog 13 #[.pointer (some ⟨r, 0, none⟩), .agg #[.int .i64 l, .int .i64 c]] w (Ret (.bool (comB s)) w0 (rS r (comT s l c) :: R)) := by
  obtain ⟨G, D, U, op⟩ := s
  cases op with
  | none => exact rcommit_none l c H
  | some x =>
    obtain ⟨h1, h2, h3⟩ := hs.op _ rfl
    have h2l := h2.len
    have hlen := hs.lens
    have h16 := hs.len
    dsimp only at hlen h16
    by_cases h0 : 0 < x.2.L.length
    · have e1 : comB ⟨G, D, U, some x⟩ = true := decide_eq_true h0
      have e2 : comT ⟨G, D, U, some x⟩ l c = comS ⟨G, D, U, some x⟩ x l c := if_pos h0
      rw [e1, e2]
      exact rcommit l c rfl h0 (by omega) (show D.length ≤ 16 by omega) H
    · have e1 : comB ⟨G, D, U, some x⟩ = false := decide_eq_false h0
      have e2 : comT ⟨G, D, U, some x⟩ l c = ⟨G, D, U, none⟩ := if_neg h0
      rw [e1, e2]
      exact rcommit_empty l c (List.eq_nil_of_length_eq_zero (by omega)) H
theorem pundo_no (hs : Ok w0 i s) (hno : s.op ≠ none ∨ s.D = []) (H : Owns w0 w (pS p s :: R)) : Calls Try.prog 14 #[.pointer (some ⟨p, 0, none⟩)] w (Ret NoV w0 (pS p s :: R)) := by
  obtain ⟨G, D, U, op⟩ := s
  have hlen := hs.lens
  have h16 := hs.len
  dsimp only at hlen h16
  by_cases hD : D = []
  · subst hD
    exact uundo_out H
  · cases op with
    | none => rcases hno with h | h <;> simp_all
    | some x =>
      have hd : 0 < D.length := List.length_pos_iff.2 hD
      obtain ⟨k, hk⟩ : ∃ k, D.length = k + 1 := ⟨D.length - 1, by omega⟩
      have H' : Owns w0 w (Asrt.hist p G D.length (some x.1) :: R) := H
      rw [hk] at H'
      have := uundo_open H' (List.getElem?_eq_getElem (show k < G.length by omega)) h16
      rw [← hk] at this
      exact this
theorem rundo_no (hs : Ok w0 i s) (hno : s.op ≠ none ∨ s.D = []) (H : Owns w0 w (rS r s :: R)) : Calls Try.prog 15 #[.pointer (some ⟨r, 0, none⟩)] w (Ret NoV w0 (rS r s :: R)) := by
  obtain ⟨G, D, U, op⟩ := s
  have hlen := hs.lens
  have h16 := hs.len
  dsimp only at hlen h16
  cases op with
  | none =>
    obtain rfl : D = [] := by rcases hno with h | h <;> simp_all
    exact rundo_none H
  | some x => exact rundo_open (show D.length ≤ 1000 by omega) H
theorem predo_no (hs : Ok w0 i s) (hno : s.op ≠ none ∨ s.U = []) (H : Owns w0 w (pS p s :: R)) : Calls Try.prog 17 #[.pointer (some ⟨p, 0, none⟩)] w (Ret NoV w0 (pS p s :: R)) := by
  obtain ⟨G, D, U, op⟩ := s
  have hlen := hs.lens
  have h16 := hs.len
  dsimp only at hlen h16
  by_cases hU : U = []
  · subst hU
    have e : D.length = G.length := by simpa using hlen.symm
    show Calls _ _ _ _ (Ret NoV w0 (Asrt.hist p G D.length _ :: R))
    have H' : Owns w0 w (Asrt.hist p G D.length (op.map Prod.fst) :: R) := H
    rw [e] at H' ⊢
    exact uredo_out H'
  · cases op with
    | none => rcases hno with h | h <;> simp_all
    | some x =>
      have hd : 0 < U.length := List.length_pos_iff.2 hU
      exact uredo_open H (List.getElem?_eq_getElem (show D.length < G.length by omega)) h16
theorem rredo_no (hs : Ok w0 i s) (hno : s.op ≠ none ∨ s.U = []) (H : Owns w0 w (rS r s :: R)) : Calls Try.prog 18 #[.pointer (some ⟨r, 0, none⟩)] w (Ret NoV w0 (rS r s :: R)) := by
  obtain ⟨G, D, U, op⟩ := s
  have hlen := hs.lens
  have h16 := hs.len
  dsimp only at hlen h16
  cases op with
  | none =>
    obtain rfl : U = [] := by rcases hno with h | h <;> simp_all
    exact rredo_none H
  | some x => exact rredo_open (show U.length ≤ 1000 by omega) H
theorem gr_of {g g' : Gr} (h : g.dat = g'.dat) : g.fl = g'.fl ∧ g.fc = g'.fc ∧ g.tl = g'.tl ∧ g.tc = g'.tc ∧ datL g.L = datL g'.L := by
  simp only [Gr.dat, Prod.mk.injEq] at h
  exact ⟨h.1.1, h.1.2, h.2.1.1, h.2.1.2, h.2.2⟩
theorem pundo {D : List Gr} {g' : Gr} (hs : Ok w0 i s) (hD : s.D = D ++ [g']) (ho : s.op = none) (H : Owns w0 w (pS p s :: R)) :
    Calls Try.prog 14 #[.pointer (some ⟨p, 0, none⟩)] w (RetX (fun x : Value × List Ch => .tuple #[x.1, .agg #[.int .i64 g'.fl, .int .i64 g'.fc], .bool true]) w0 (fun x => Asrt.pure (datL x.2 = invL (datL g'.L)) :: row_chg x.1 x.2.length (chs x.2) :: chsA x.2 :: Asrt.hist p s.G D.length none :: R)) := by
  obtain ⟨⟨g, hg, hgd⟩, _⟩ := hs.undo hD ho
  obtain ⟨e1, e2, _, _, e5⟩ := gr_of hgd
  have hl := lens_of hgd
  have hk : Okg w0 g' := hs.gs g' (by rw [hD]; simp)
  have hkl := hk.len
  have H' : Owns w0 w (Asrt.hist p s.G (D.length + 1) none :: R) := by
    have h := H
    rw [pS, hD, ho] at h
    simpa using h
  have := uundo H' hg hs.len (by rw [e5]; exact hk.ok) (by omega)
  rw [e1, e2, e5] at this
  exact this
theorem predo {U : List Gr} {g' : Gr} (hs : Ok w0 i s) (hU : s.U = U ++ [g']) (ho : s.op = none) (H : Owns w0 w (pS p s :: R)) :
    Calls Try.prog 17 #[.pointer (some ⟨p, 0, none⟩)] w (RetX (fun x : Value × List Ch => .tuple #[x.1, .agg #[.int .i64 g'.tl, .int .i64 g'.tc], .bool true]) w0 (fun x => Asrt.pure (datL x.2 = datL g'.L) :: row_chg x.1 x.2.length (chs x.2) :: chsA x.2 :: Asrt.hist p s.G (s.D.length + 1) none :: R)) := by
  obtain ⟨⟨g, hg, hgd⟩, _⟩ := hs.redo hU ho
  obtain ⟨_, _, e1, e2, e5⟩ := gr_of hgd
  have hl := lens_of hgd
  have hk : Okg w0 g' := hs.gs g' (by rw [hU]; simp)
  have hkl := hk.len
  have H' : Owns w0 w (Asrt.hist p s.G s.D.length none :: R) := by
    have h := H
    rw [pS, ho] at h
    exact h
  have := uredo H' hg hs.len (by rw [e5]; exact hk.ok) (by omega)
  rw [e1, e2, e5] at this
  exact this
theorem rundo' {D : List Gr} {g' : Gr} (hs : Ok w0 i s) (hD : s.D = D ++ [g']) (ho : s.op = none) (H : Owns w0 w (rS r s :: R)) :
    Calls Try.prog 15 #[.pointer (some ⟨r, 0, none⟩)] w (RetX (fun x : Value => .tuple #[x, .agg #[.int .i64 g'.fl, .int .i64 g'.fc], .bool true]) w0 (fun x => row_chg x (rinv g'.L).length (chs (rinv g'.L)) :: rhistN r D (s.U ++ [g']) :: R)) := by
  have hk : Okg w0 g' := hs.gs g' (by rw [hD]; simp)
  have hkl := hk.len
  have h1 := hs.lens
  have h2 := hs.len
  rw [hD] at h1
  simp only [List.length_append, List.length_singleton] at h1
  have H' : Owns w0 w (rhistN r (D ++ [g']) s.U :: R) := by
    have h := H
    rw [rS, ho, hD] at h
    exact h
  exact rundo (by omega) (by omega) (by omega) H'
theorem rredo' {U : List Gr} {g' : Gr} (hs : Ok w0 i s) (hU : s.U = U ++ [g']) (ho : s.op = none) (H : Owns w0 w (rS r s :: R)) :
    Calls Try.prog 18 #[.pointer (some ⟨r, 0, none⟩)] w (Ret (.tuple #[g'.lv, .agg #[.int .i64 g'.tl, .int .i64 g'.tc], .bool true]) w0 (rhistN r (s.D ++ [g']) U :: R)) := by
  have hk : Okg w0 g' := hs.gs g' (by rw [hU]; simp)
  have hkl := hk.len
  have h1 := hs.lens
  have h2 := hs.len
  rw [hU] at h1
  simp only [List.length_append, List.length_singleton] at h1
  have H' : Owns w0 w (rhistN r s.D (U ++ [g']) :: R) := by
    have h := H
    rw [rS, ho, hU] at h
    exact h
  exact rredo (by omega) (by omega) (by omega) H'
theorem both_undo {D : List Gr} {g' : Gr} (hs : Ok w0 i s) (hD : s.D = D ++ [g']) (ho : s.op = none) (H : Owns w0 w (rhistN r D (s.U ++ [g']) :: Asrt.hist p s.G D.length none :: R)) : Both w0 p r (i + 1) R w := by
  refine ⟨{ s with D := D, U := s.U ++ [g'] }, (hs.undo hD ho).2, ?_⟩
  rw [rS, pS, ho]
  exact H
theorem both_redo {U : List Gr} {g' : Gr} (hs : Ok w0 i s) (hU : s.U = U ++ [g']) (ho : s.op = none) (H : Owns w0 w (rhistN r (s.D ++ [g']) U :: Asrt.hist p s.G (s.D.length + 1) none :: R)) : Both w0 p r (i + 1) R w := by
  refine ⟨{ s with D := s.D ++ [g'], U := U }, (hs.redo hU ho).2, ?_⟩
  rw [rS, pS, ho]
  simpa using H
theorem both_same (hs : Ok w0 i s) (H : Owns w0 w (rS r s :: pS p s :: R)) : Both w0 p r (i + 1) R w := ⟨s, hs.next, H⟩
/-- What the document tells of how much there is. -/
theorem rlook (H : Owns w0 w (rS r s :: R)) : ∃ da dc ua uc, w.cell? ⟨r, 0, none⟩ = some (.slice da s.D.length dc) ∧ w.cell? ⟨r, 1, none⟩ = some (.slice ua s.U.length uc) := by
  obtain ⟨G, D, U, op⟩ := s
  cases op with
  | none =>
    obtain ⟨da, ua, dc, uc, g, h⟩ := rhistNE H
    exact ⟨da, dc, ua, uc, h.cell (j := 0) rfl, h.cell (j := 1) rfl⟩
  | some x =>
    obtain ⟨da, ua, dc, uc, h⟩ := rhistOE H
    exact ⟨da, dc, ua, uc, h.cell (j := 0) rfl, h.cell (j := 1) rfl⟩
theorem pdepth (hs : Ok w0 i s) (H : Owns w0 w (pS p s :: R)) : Calls Try.prog 19 #[.pointer (some ⟨p, 0, none⟩)] w (Ret (.tuple #[.int .i64 s.D.length, .int .i64 s.U.length]) w0 (pS p s :: R)) := by
  have h1 := hs.lens
  have h2 := hs.len
  have := udepth H (by omega) (by omega)
  rw [show (s.G.length : Int) - s.D.length = s.U.length by omega] at this
  exact this
end
end Go.Proofs.Ytchgkdhhfbppbaa
