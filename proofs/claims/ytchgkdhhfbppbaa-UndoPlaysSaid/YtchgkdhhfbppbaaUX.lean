/- The histories side by side: what holds of both, what each act turns it to; arguments that are changes. -/
import Derived.Test.YtchgkdhhfbppbaaUT
import Derived.Test.YtchgkdhhfbppbaaUN
import Derived.Test.YtchgkdhhfbppbaaWU
import Derived.Test.YtchgkdhhfbppbaaRd
import Derived.Test.YtchgkdhhfbppbaaRead
namespace Go.Proofs.Ytchgkdhhfbppbaa
open Go Go.RowKit Go.Fol
set_option linter.unusedVariables false
set_option linter.unusedSimpArgs false
/-! arguments -/
theorem rd_strs {P : Program} {w : World} {t e : TypeId} {cs : List Value} (ht : P.underlying t = some (.slice e)) (he : P.underlying e = some .string) (hk : P.cellsOf e = 1) (hb : P.bytesOf e = 16) (h : Rd P w t cs) :
    ∃ (l : List ByteArray) (a : Option Addr) (c : Nat), cs = [.slice a l.length c] ∧ SrcV w 1 (.slice a l.length c) l.length (strs l) ∧ l.length * 16 ≤ 140737488355328 := by
  obtain ⟨a, n, c, rfl, h1, h2, h3, h4, h5⟩ := rd_slice ht hk (by decide) h
  obtain ⟨xs, hs, hr⟩ := src_of_parts h2 h3 h1 h5
  have hex : ∀ ys : List Value, (∀ x ∈ ys, Rd P w e [x]) → ∃ l : List ByteArray, ys = strs l := by
    intro ys
    induction ys with
    | nil => exact fun _ => ⟨[], rfl⟩
    | cons y ys ih =>
      intro hy
      obtain ⟨l, rfl⟩ := ih (fun x hx => hy x (List.mem_cons_of_mem _ hx))
      obtain ⟨m, hm, hw⟩ := rd_string he (hy y (List.mem_cons_self ..))
      simp at hm
      subst hm
      exact ⟨m :: l, rfl⟩
  obtain ⟨l, rfl⟩ := hex xs hr
  have := hs.len
  simp [strs_len] at this
  subst this
  exact ⟨l, a, c, rfl, hs, by rw [hb] at h4; have := Nat.mul_le_mul_right 16 h2; omega⟩
/-- The changes' lists lie in old memory. -/
def HeldL (w : World) (L : List Ch) : Prop := ∀ c ∈ L, SrcV w 1 c.ov c.old.length (strs c.old) ∧ SrcV w 1 c.nv c.new.length (strs c.new)
theorem ch_of {w : World} {es : List Value} (hl : es.length = 3) (h : Rd Try.prog w 49 es) : ∃ c : Ch, es = chf c ∧ HeldL w [c] ∧ ChOk c.dat := by
  obtain ⟨e0, e1, e2, rfl⟩ : ∃ e0 e1 e2, es = [e0, e1, e2] := by
    match es, hl with
    | [a, b, c], _ => exact ⟨a, b, c, rfl⟩
  have hs := (rd_struct Try.underlying49 h).2
  obtain ⟨a, ha, _⟩ := rd_int Try.underlying3 (hs 0 _ rfl)
  obtain ⟨A, oa, oc, ho, hs1, hb1⟩ := rd_strs Try.underlying47 Try.underlying9 (by kernel_rfl) (by kernel_rfl) (hs 1 _ rfl)
  obtain ⟨B, na, nc, hn, hs2, hb2⟩ := rd_strs Try.underlying47 Try.underlying9 (by kernel_rfl) (by kernel_rfl) (hs 2 _ rfl)
  have ha : [e0] = [.int .i64 a] := ha
  have ho : [e1] = [.slice oa A.length oc] := ho
  have hn : [e2] = [.slice na B.length nc] := hn
  cases ha; cases ho; cases hn
  exact ⟨⟨a, oa, oc, na, nc, A, B⟩, rfl, fun c hc => by obtain rfl := List.mem_singleton.1 hc; exact ⟨hs1, hs2⟩, hb1, hb2⟩
theorem chs_of {w : World} {a : Option Addr} {n c : Nat} (h2 : n ≤ c) (h3 : c ≤ maxLen) (h1 : a = none → n = 0 ∧ c = 0) (h5 : RowAt Try.prog w 49 3 a n) :
    ∃ L : List Ch, n = L.length ∧ SrcV w 3 (.slice a n c) n (chs L) ∧ HeldL w L ∧ OkL (datL L) := by
  by_cases hn : 0 < n
  · obtain ⟨b, off, rfl, hb, hel⟩ := h5 hn
    have hex : ∀ m, m ≤ n → ∃ L : List Ch, L.length = m ∧ (∀ j u, (chs L)[j]? = some u → w.cell? ⟨b, off + j, none⟩ = some u) ∧ HeldL w L ∧ OkL (datL L) := by
      intro m
      induction m with
      | zero => exact fun _ => ⟨[], rfl, fun j u hj => by simp [flat_nil] at hj, by simp [HeldL], by simp [OkL]⟩
      | succ m ih =>
        intro hm
        obtain ⟨L, hl, hc, hh, ho⟩ := ih (by omega)
        obtain ⟨es, he, hrd, hce⟩ := hel m (by omega)
        obtain ⟨d, rfl, hd, hok⟩ := ch_of he hrd
        refine ⟨L ++ [d], by simp [hl], fun j u hj => ?_, fun x hx => ?_, fun x hx => ?_⟩
        · rw [chs, flat_append, flat_one] at hj
          have hL : (flat chf L).length = m * 3 := by rw [← hl]; exact chs_len L
          by_cases hjm : j < m * 3
          · rw [List.getElem?_append_left (by rw [hL]; exact hjm)] at hj
            exact hc j u hj
          · rw [List.getElem?_append_right (by rw [hL]; omega), hL] at hj
            have := hce _ u hj
            rwa [Nat.add_assoc, show m * 3 + (j - m * 3) = j by omega] at this
        · rcases List.mem_append.1 hx with h | h
          · exact hh x h
          · exact hd x h
        · rw [datL, List.map_append] at hx
          rcases List.mem_append.1 hx with h | h
          · exact ho x h
          · simp at h; subst h; exact hok
    obtain ⟨L, hl, hc, hh, ho⟩ := hex n (Nat.le_refl _)
    exact ⟨L, hl.symm, .inr ⟨_, _, rfl, h2, h3, by rw [chs_len, hl], fun j u hj => by rw [Addr.add_lit]; exact hc j u hj⟩, hh, ho⟩
  · obtain rfl : n = 0 := by omega
    cases a with
    | none => obtain ⟨_, rfl⟩ := h1 rfl; exact ⟨[], rfl, .inl ⟨rfl, rfl, rfl⟩, by simp [HeldL], by simp [OkL]⟩
    | some a => exact ⟨[], rfl, .inr ⟨_, _, rfl, h2, h3, rfl, fun j u hj => by simp [flat_nil] at hj⟩, by simp [HeldL], by simp [OkL]⟩
theorem act_of {w : World} {es : List Value} (hl : es.length = 4) (h : Rd Try.prog w 36 es) :
    ∃ (a l c : Int) (L : List Ch) (n : Nat) (ka : Option Addr) (kc : Nat), es = [.int .u8 a, .int .i64 l, .int .i64 c, .slice ka n kc] ∧ 0 ≤ a ∧ a ≤ 255 ∧ n = L.length ∧ SrcV w 3 (.slice ka n kc) n (chs L) ∧ HeldL w L ∧ OkL (datL L) := by
  obtain ⟨e0, e1, e2, e3, rfl⟩ : ∃ e0 e1 e2 e3, es = [e0, e1, e2, e3] := by
    match es, hl with
    | [a, b, c, d], _ => exact ⟨a, b, c, d, rfl⟩
  have hs := (rd_struct Try.underlying36 h).2
  obtain ⟨a, ha, wa⟩ := rd_int Try.underlying5 (hs 0 _ rfl)
  have hp := (rd_struct Try.underlying29 (hs 1 _ rfl)).2
  obtain ⟨l, hl1, _⟩ := rd_int Try.underlying3 (hp 0 _ rfl)
  obtain ⟨c, hc1, _⟩ := rd_int Try.underlying3 (hp 1 _ rfl)
  obtain ⟨ka, n, kc, hk, h1, h2, h3, _, h5⟩ := rd_slice (k := 3) Try.underlying30 (by kernel_rfl) (by decide) (hs 2 _ rfl)
  have ha : [e0] = [.int .u8 a] := ha
  have hl1 : [e1] = [.int .i64 l] := hl1
  have hc1 : [e2] = [.int .i64 c] := hc1
  have hk : [e3] = [.slice ka n kc] := hk
  cases ha; cases hl1; cases hc1; cases hk
  obtain ⟨L, hn, hL, hh, ho⟩ := chs_of h2 h3 h1 h5
  exact ⟨a, l, c, L, n, ka, kc, rfl, (wf_u8 wa).1, (wf_u8 wa).2, hn, hL, hh, ho⟩
/-! the state -/
structure St where
  G : List Gr
  D : List Gr
  U : List Gr
  op : Option (Gr × Gr)
abbrev pS (p : Nat) (s : St) : Asrt := Asrt.hist p s.G s.D.length (s.op.map Prod.fst)
def rS (r : Nat) (s : St) : Asrt := match s.op with
  | none => rhistN r s.D s.U
  | some x => rhistO r s.D s.U x.2
structure Okg (w : World) (g : Gr) : Prop where
  ok : OkL (datL g.L)
  len : g.L.length ≤ 400
  held : HeldL w g.L
structure Ok (w : World) (i : Nat) (s : St) : Prop where
  dat : gdatL s.G = gdatL s.D ++ (gdatL s.U).reverse
  len : s.G.length ≤ 16
  gs : ∀ g ∈ s.D ++ s.U, Okg w g
  op : ∀ x, s.op = some x → x.1.dat = x.2.dat ∧ Okg w x.2 ∧ x.2.L.length ≤ 4 * i
theorem Ok.lens {w : World} {i : Nat} {s : St} (h : Ok w i s) : s.G.length = s.D.length + s.U.length := by
  have := congrArg List.length h.dat
  simpa using this
theorem Ok.next {w : World} {i : Nat} {s : St} (h : Ok w i s) : Ok w (i + 1) s := ⟨h.dat, h.len, h.gs, fun x hx => ⟨(h.op x hx).1, (h.op x hx).2.1, by have := (h.op x hx).2.2; omega⟩⟩
theorem Ok.shut {w : World} {i : Nat} {s : St} (h : Ok w i s) : Ok w (i + 1) { s with op := none } := ⟨h.dat, h.len, h.gs, fun x hx => by cases hx⟩
theorem Ok.open_ {w : World} {i : Nat} {s : St} (h : Ok w i s) (l c : Int) : Ok w (i + 1) { s with op := some (⟨l, c, 0, 0, none, 0, []⟩, ⟨l, c, 0, 0, none, 0, []⟩) } :=
  ⟨h.dat, h.len, h.gs, fun x hx => by cases hx; exact ⟨rfl, ⟨by simp [OkL], by simp, by simp [HeldL]⟩, by simp⟩⟩
theorem Ok.add {w : World} {i : Nat} {s : St} {g g' g2 : Gr} {L : List Ch} {xa : Option Addr} {xc : Nat} (h : Ok w i s) (hs : s.op = some (g, g')) (hi : i < 80) (hL : L.length ≤ 4) (hh : HeldL w L) (ho : OkL (datL L)) (hg2 : g2.dat = ((g.fl, g.fc), (g.tl, g.tc), datL g.L ++ datL L)) :
    Ok w (i + 1) { s with op := some (g2, ⟨g'.fl, g'.fc, g'.tl, g'.tc, xa, xc, g'.L ++ L⟩) } := by
  refine ⟨h.dat, h.len, h.gs, fun x hx => ?_⟩
  cases hx
  obtain ⟨h1, h2, h3⟩ := h.op _ hs
  dsimp only at h1 h2 h3
  have hlen : (g'.L ++ L).length ≤ 4 * (i + 1) := by rw [List.length_append]; omega
  refine ⟨?_, ⟨?_, by show (g'.L ++ L).length ≤ 400; omega, ?_⟩, hlen⟩
  · show g2.dat = ((g'.fl, g'.fc), (g'.tl, g'.tc), datL (g'.L ++ L))
    rw [hg2]
    have e := h1
    simp only [Gr.dat, Prod.mk.injEq] at e
    obtain ⟨⟨e1, e2⟩, ⟨e3, e4⟩, e5⟩ := e
    rw [e1, e2, e3, e4, e5, datL, datL, datL, List.map_append]
  · intro d hd
    rw [datL, List.map_append] at hd
    rcases List.mem_append.1 hd with h | h
    · exact h2.ok d h
    · exact ho d h
  · intro c hc
    rcases List.mem_append.1 hc with h | h
    · exact h2.held c h
    · exact hh c h
/-- Behind a commit of a group that isn't empty. -/
def comS (s : St) (x : Gr × Gr) (l c : Int) : St :=
  { G := comL s.G s.D.length { x.1 with tl := l, tc := c }, D := (s.D ++ [{ x.2 with tl := l, tc := c }]).drop (s.D.length - 15), U := [], op := none }
theorem dat_at {g g' : Gr} (h : g.dat = g'.dat) (l c : Int) : Gr.dat { g with tl := l, tc := c } = Gr.dat { g' with tl := l, tc := c } := by
  simp only [Gr.dat, Prod.mk.injEq] at h ⊢
  exact ⟨h.1, trivial, h.2.2⟩
theorem comS_len {w : World} {i : Nat} {s : St} {x : Gr × Gr} (h : Ok w i s) (l c : Int) : (comS s x l c).G.length = (comS s x l c).D.length := by
  have h1 := h.lens
  have h2 := h.len
  show (comL _ _ _).length = (List.drop _ _).length
  rw [comL_len _ _ _ (by omega), List.length_drop, List.length_append]
  simp only [List.length_singleton]
  omega
theorem Ok.com {w : World} {i : Nat} {s : St} {x : Gr × Gr} (h : Ok w i s) (hs : s.op = some x) (l c : Int) : Ok w (i + 1) (comS s x l c) := by
  have h1 := h.lens
  have h2 := h.len
  obtain ⟨h3, h4, h5⟩ := h.op _ hs
  refine ⟨?_, ?_, ?_, fun y hy => by cases hy⟩
  · show (comL s.G s.D.length _).map Gr.dat = gdatL (List.drop _ _) ++ (gdatL []).reverse
    rw [comL_map, dat_at h3]
    show comL (gdatL s.G) _ _ = _
    rw [h.dat, comL, List.take_append_of_le_length (by simp), List.take_of_length_le (by simp)]
    simp only [gdatL, List.map_nil, List.reverse_nil, List.append_nil, List.map_drop, List.map_append, List.map_cons, List.length_append, List.length_map, List.length_singleton]
    congr 1
  · show (comL _ _ _).length ≤ 16
    rw [comL_len _ _ _ (by omega)]
    omega
  · intro g hg
    have hg : g ∈ List.drop (s.D.length - 15) (s.D ++ [{ x.2 with tl := l, tc := c }]) := by simpa [comS] using hg
    rcases List.mem_append.1 (List.mem_of_mem_drop hg) with h6 | h6
    · exact h.gs g (List.mem_append_left _ h6)
    · simp at h6
      subst h6
      exact ⟨h4.ok, h4.len, h4.held⟩
theorem Ok.undo {w : World} {i : Nat} {s : St} {D : List Gr} {g' : Gr} (h : Ok w i s) (hD : s.D = D ++ [g']) (ho : s.op = none) :
    (∃ g, s.G[D.length]? = some g ∧ g.dat = g'.dat) ∧ Ok w (i + 1) { s with D := D, U := s.U ++ [g'] } := by
  have hd := h.dat
  refine ⟨?_, ⟨?_, h.len, ?_, fun x hx => absurd hx (by simp [ho])⟩⟩
  · refine gdat_get (X := gdatL s.D ++ (gdatL s.U).reverse) hd ?_
    rw [hD]
    simp [gdatL]
  · show gdatL s.G = gdatL D ++ (gdatL (s.U ++ [g'])).reverse
    rw [hd, hD]
    simp [gdatL]
  · intro g hg
    refine h.gs g ?_
    rw [hD]
    simp only [List.mem_append, List.mem_singleton] at hg ⊢
    rcases hg with h | h | h
    · exact .inl (.inl h)
    · exact .inr h
    · exact .inl (.inr h)
theorem Ok.redo {w : World} {i : Nat} {s : St} {U : List Gr} {g' : Gr} (h : Ok w i s) (hU : s.U = U ++ [g']) (ho : s.op = none) :
    (∃ g, s.G[s.D.length]? = some g ∧ g.dat = g'.dat) ∧ Ok w (i + 1) { s with D := s.D ++ [g'], U := U } := by
  have hd := h.dat
  refine ⟨?_, ⟨?_, h.len, ?_, fun x hx => absurd hx (by simp [ho])⟩⟩
  · refine gdat_get (X := gdatL s.D ++ (gdatL s.U).reverse) hd ?_
    rw [hU]
    simp [gdatL]
  · show gdatL s.G = gdatL (s.D ++ [g']) ++ (gdatL U).reverse
    rw [hd, hU]
    simp [gdatL]
  · intro g hg
    refine h.gs g ?_
    rw [hU]
    simp only [List.mem_append, List.mem_singleton] at hg ⊢
    rcases hg with (h | h) | h
    · exact .inl h
    · exact .inr (.inr h)
    · exact .inr (.inl h)
theorem ok_start (w : World) : Ok w 0 ⟨[], [], [], none⟩ := ⟨rfl, by simp, by simp, by simp⟩
section
variable {w0 w : World} {R : List Asrt}
theorem ChRd.nil : ChRd w0 R (.slice none 0 0) [] := ⟨Reads.nil, by simp, by simp⟩
theorem ChRd.held {v : Value} {L : List Ch} (h : Reads w0 R 3 v L.length (chs L)) (hh : HeldL w0 L) : ChRd w0 R v L :=
  ⟨h, fun c hc => Reads.old (hh c hc).1, fun c hc => Reads.old (hh c hc).2⟩
theorem HeldL.rinv {L : List Ch} (h : HeldL w L) : HeldL w (Go.Proofs.Ytchgkdhhfbppbaa.rinv L) := by
  intro c hc
  obtain ⟨c', hc', rfl⟩ := List.mem_map.1 (List.mem_reverse.1 hc)
  exact ⟨(h c' hc').2, (h c' hc').1⟩
/-- A group's list, read out of the document's history. -/
theorem rhistN_reads {p : Nat} {D U : List Gr} {g : Gr} (hg : g ∈ D) (h : rhistN p D U ∈ R) : Reads w0 R 3 g.lv g.L.length (chs g.L) := fun w H => by
  obtain ⟨_, _, _, _, _, h1⟩ := rhistNE (H.mem h)
  have h2 := Owns.allE (L := D.map rgA) (h1.ord [3])
  exact (h2.mem (A := rgA g) (List.mem_append_left _ (List.mem_map.2 ⟨g, hg, rfl⟩))).src
/-- The empty history of the document. -/
theorem rnew {b : Nat} (H : Owns w0 w (Asrt.obj b (.cells #[.slice none 0 0, .slice none 0 0, .bool false, .int .i64 0, .int .i64 0, .int .i64 0, .int .i64 0, .slice none 0 0] 34 (0, 0)) :: R)) : Owns w0 w (rhistN b [] [] :: R) := by
  have h := (Owns.srcNil (k := 5) (Owns.srcNil (k := 5) (Owns.allI (L := []) (Owns.allI (L := []) H)))).ord [4, 0, 0, 0, 0]
  exact rhistNI (g := ⟨0, 0, 0, 0, none, 0, []⟩) (D := []) (U := []) h
end
end Go.Proofs.Ytchgkdhhfbppbaa
