/- Piece tables in memory; a piece's text; what reaches. -/
import Derived.Test.YtcdoomlagmddcaaGreatDoorKp
import Derived.Test.YtcdoomlagmddcaaGreatDoorRowByte
import Derived.Test.YtcdoomlagmddcaaGreatDoorKa
import Derived.Handy
import Derived.Deep.RegionHeld3
import Derived.Deep.DrawnRows
import Derived.Deep.QuietTactic
import Derived.BigQuiet
import Derived.StillTailTactics
import Derived.Deep.DeepCutAuto
import Derived.Deep.CutBlock
import Derived.Laws.IdiomStrings
import Derived.Lib.AppendStr
namespace Go.Proofs.YtcdoomlagmddcaaGreatDoor
open Go Go.RowKit Go.Fol
set_option linter.unusedVariables false
set_option linter.unusedSimpArgs false
set_option maxRecDepth 100000
/-- A piece. -/
structure Pc where
  ad : Bool
  off : Nat
  n : Nat
def pcf (q : Pc) : List Value := [.bool q.ad, .int .i64 q.off, .int .i64 q.n]
abbrev pcs (L : List Pc) : List Value := flat pcf L
theorem pcf_len : ∀ x, (pcf x).length = 3 := fun _ => rfl
theorem pcs_one (L : List Pc) : ∀ u ∈ pcs L, u.oneCell' = true := flat_one_cell (fun x u hu => by simp [pcf] at hu; rcases hu with rfl | rfl | rfl <;> rfl) L
theorem pcs_len (L : List Pc) : (pcs L).length = L.length * 3 := flat_len pcf_len L
theorem pcs_get {L : List Pc} {i : Nat} {q : Pc} (h : L[i]? = some q) : (pcs L)[i * 3]? = some (.bool q.ad) ∧ (pcs L)[i * 3 + 1]? = some (.int .i64 q.off) ∧ (pcs L)[i * 3 + 2]? = some (.int .i64 q.n) :=
  ⟨flat_get pcf_len h (j := 0) (by decide), flat_get pcf_len h (j := 1) (by decide), flat_get pcf_len h (j := 2) (by decide)⟩
abbrev pcvec (v : Nat) (L : List Pc) : Asrt := vec_pc v L.length (pcs L)
theorem are_pcs (L : List Pc) : are_pc (pcs L) L.length := fun i hi => ⟨_, _, _, pcs_get (List.getElem?_eq_getElem hi)⟩
/-- bytes as a string, as numbers. -/
def bstr (l : List UInt8) : ByteArray := ⟨l.toArray⟩
def bnum (l : List UInt8) : List Int := l.map (fun b => (b.toNat : Int))
theorem bnum_len (l : List UInt8) : (bnum l).length = l.length := by simp [bnum]
theorem bstr_size (l : List UInt8) : (bstr l).size = l.length := by simp [bstr, ByteArray.size]
/-- A table. -/
structure Tb where
  first : List UInt8
  added : List UInt8
  L : List Pc
  size : Nat
  most : Int
  edits : Nat
abbrev tobj (p v : Nat) (T : Tb) (aa : Option Addr) (ac : Nat) : Asrt := Asrt.obj p (.cells #[.string (bstr T.first), .slice aa T.added.length ac, .pointer (some ⟨v, 0, none⟩), .int .i64 T.size, .int .i64 T.most, .int .i64 T.edits] 89 (0, 0))
abbrev brow (aa : Option Addr) (ac : Nat) (l : List UInt8) : Asrt := row_byte (.slice aa l.length ac) l.length (kints .u8 (bnum l))
def tabA (p : Nat) (T : Tb) : Asrt := Asrt.ex fun v : Nat => Asrt.ex fun aa : Option Addr => Asrt.ex fun ac : Nat => Asrt.all [tobj p v T aa ac, brow aa ac T.added, pcvec v T.L]
/-- A piece's bytes; a table's. -/
def ptx (first added : List UInt8) (q : Pc) : List UInt8 := ((if q.ad then added else first).drop q.off).take q.n
def txs (first added : List UInt8) (L : List Pc) : List UInt8 := L.flatMap (ptx first added)
def Tb.tx (T : Tb) : List UInt8 := txs T.first T.added T.L
/-- A piece lies in what it is of, and isn't empty. -/
def PcOk (first added : List UInt8) (q : Pc) : Prop := 0 < q.n ∧ q.off + q.n ≤ (if q.ad then added.length else first.length)
structure Tb.ok (T : Tb) : Prop where
  pcs : ∀ q ∈ T.L, PcOk T.first T.added q
  size : T.size = T.tx.length
  fl : T.first.length ≤ 100000
  al : T.added.length ≤ 100000
  ll : T.L.length ≤ 100000
  ed : T.edits ≤ 100000
  sz : T.size ≤ 1000000
  most : -1000000 ≤ T.most ∧ T.most ≤ 1000000
theorem ptx_len {first added : List UInt8} {q : Pc} (h : PcOk first added q) : (ptx first added q).length = q.n := by
  have := h.2
  simp only [ptx, List.length_take, List.length_drop]
  cases e : q.ad <;> simp [e] at this ⊢ <;> omega
theorem txs_nil (first added : List UInt8) : txs first added [] = [] := rfl
theorem txs_append (first added : List UInt8) (A B : List Pc) : txs first added (A ++ B) = txs first added A ++ txs first added B := by simp [txs]
theorem txs_one (first added : List UInt8) (q : Pc) : txs first added [q] = ptx first added q := by simp [txs]
theorem txs_cons (first added : List UInt8) (q : Pc) (L : List Pc) : txs first added (q :: L) = ptx first added q ++ txs first added L := by simp [txs]
section
variable {w0 w : World} {R : List Asrt}
theorem tabE {p : Nat} {T : Tb} (H : Owns w0 w (tabA p T :: R)) : ∃ v aa ac, Owns w0 w (tobj p v T aa ac :: brow aa ac T.added :: pcvec v T.L :: R) := by
  obtain ⟨v, h⟩ := H.exE
  obtain ⟨aa, h⟩ := h.exE
  obtain ⟨ac, h⟩ := h.exE
  exact ⟨v, aa, ac, Owns.allE (L := [_, _, _]) h⟩
theorem tabI {p v : Nat} {T : Tb} {aa : Option Addr} {ac : Nat} (H : Owns w0 w (tobj p v T aa ac :: brow aa ac T.added :: pcvec v T.L :: R)) : Owns w0 w (tabA p T :: R) :=
  Owns.exI v (Owns.exI aa (Owns.exI ac (Owns.allI (L := [_, _, _]) H)))
theorem extract_bstr (l : List UInt8) (a b : Nat) : (bstr l).extract a b = bstr ((l.drop a).take (b - a)) := by
  apply ByteArray.ext
  simp only [bstr, ByteArray.data_extract]
  apply Array.toList_inj.1
  simp [List.drop_take]
theorem conv_bytes (a : Addr) (l : List UInt8) (W : World) (c : Nat) (h : ∀ j, j < l.length → W.cell? (a.add j) = some (.int .u8 (l[j]?.getD 0).toNat)) :
    (convert 37 9 (.slice (some a) l.length c)).run Tryz.prog W = .ok (.string (bstr l)) W := by
  exact run_convert_bytes_back (P := Tryz.prog) W 37 9 5 a c l Tryz.underlying37 Tryz.underlying5 Tryz.underlying9 (fun j hj => by rw [h j hj]; simp [hj])
theorem info_byte_parts : ∃ i : TypeInfo, Tryz.prog.info? 5 = some i ∧ i.zero = some (.int .u8 0) ∧ i.size = 1 ∧ i.bytes = 1 := info_parts info_byte
/-- append of a string to a row of bytes. -/
theorem app_bstr {v : Value} {n : Nat} {xs : List UInt8} (s : List UInt8) (H : Owns w0 w (row_byte v n (kints .u8 (bnum xs)) :: R)) (hl : n + s.length ≤ 1000000) :
    ∃ v' w', (∀ ty, (Builtin.append_ #[37, 9] ty #[v, .string (bstr s)]).run Tryz.prog w = .ok v' w') ∧ Owns w0 w' (row_byte v' (n + s.length) (kints .u8 (bnum (xs ++ s))) :: R) := by
  obtain ⟨i, hi, hz, hs1, hs2⟩ := info_byte_parts
  have hsc : Lib.strCells (bstr s) = kints .u8 (bnum s) := by simp [Lib.strCells, bstr, kints, bnum]
  have hcat : kints .u8 (bnum xs) ++ Lib.strCells (bstr s) = kints .u8 (bnum (xs ++ s)) := by rw [hsc]; simp [kints, bnum]
  have hrow := H.row
  by_cases hnil : v = .slice none 0 0
  · subst hnil
    have hn0 : n = 0 := by rcases row_form hrow with ⟨_, h, _⟩ | ⟨g, cap, cur, e, _⟩; exact h; cases e
    subst hn0
    have hx0 : kints .u8 (bnum xs) = [] := List.eq_nil_of_length_eq_zero (by simpa using hrow.1)
    obtain ⟨v', w', hr, ho, hg, _⟩ := Lib.run_append_own_string (P := Tryz.prog) (w := w) w.heap.size 37 9 0 5 i Tryz.underlying37 Tryz.underlying9 hi hz hs1 hs2 (.slice none 0 0) 0 (kints .u8 (bnum xs)) (by rw [hx0]; exact World.ownsRow_nil _ _ _ _) (bstr s) (by rw [bstr_size]; unfold maxLen; omega) (by rw [bstr_size]; omega) (Nat.le_refl _)
    rw [hcat, bstr_size] at ho
    obtain ⟨hb1, hb2⟩ := row_base ho
    refine ⟨v', w', fun ty => hr, H.step1 (fun F ⟨e1, _⟩ _ => ?_)⟩
    subst e1
    exact ⟨((Chg.refl _ w).grown hg (fun k hk _ => by cases hk)), _, ⟨rfl, hb1⟩, fun b hb => .inr (hb2 b (by simpa using hb))⟩
  · rcases row_form hrow with ⟨h, _⟩ | ⟨g, cap, cur, rfl, hg, hnc, hcm, hcs, htk, hxl⟩
    · exact absurd h hnil
    have hx : xs.length = n := by have := hxl; simp [kints, bnum] at this; exact this
    by_cases hroom : n + (bstr s).size ≤ cap
    · have hcs' : cur.size = cap := by simpa using hcs
      have hr := fun ty => Lib.run_append_room_string (P := Tryz.prog) w 37 9 ty 5 i Tryz.underlying37 Tryz.underlying9 hi hs1 g n cap cur hg (bstr s) hroom (by omega)
      rw [bstr_size] at hr hroom
      refine ⟨_, _, hr, H.step1 (fun F ⟨e1, _⟩ _ => ?_)⟩
      subst e1
      refine ⟨(Chg.refl _ w).setRow (fun _ => by simp [Value.ownBlock]) _, _, ⟨rfl, ?_⟩, fun b hb => .inl hb⟩
      refine row_setRow (c0 := cur) hg hroom hcm ?_ ?_
      · simp only [List.length_append, List.length_take, List.length_drop, Array.length_toList, Lib.strCells_length, bstr_size]
        omega
      · have ht' : cur.toList.take n = kints .u8 (bnum xs) := by simpa using htk
        rw [ht', hcat, Nat.mul_one, ← hx]
        exact List.take_left' (by simp [kints, bnum])
    · rw [bstr_size] at hroom
      have holds : ∀ j u, (kints .u8 (bnum xs))[j]? = some u → w.cell? ((⟨g, 0, none⟩ : Addr).add j) = some u := hrow.cells (g := g) rfl
      have hr := fun ty => Lib.run_append_grow_string (P := Tryz.prog) w 37 9 ty 5 i (.int .u8 0) Tryz.underlying37 Tryz.underlying9 hi hz ⟨g, 0, none⟩ n cap (kints .u8 (bnum xs)) (by rw [hs1]; simpa using hxl) holds (bstr s) (by rw [bstr_size]; omega) (by rw [bstr_size]; omega) (by rw [hs2, bstr_size]; exact growslice_fits (by omega) (by omega))
      rw [bstr_size] at hr
      refine ⟨_, _, hr, H.step1 (fun F ⟨e1, _⟩ _ => ?_)⟩
      have hge := grownCap_ge w (n + s.length) cap 5
      have hcm' := grownCap_le_maxLen w (n + s.length) cap 5 (by unfold maxLen; omega)
      refine ⟨((Chg.refl _ w).drew.alloc _), [w.heap.size], ⟨rfl, by simp [kints, bnum, hx], .inr ⟨w.heap.size, _, _, rfl, Nat.zero_le _, heap_alloc_new w.drew _, hge, hcm', ?_, ?_⟩⟩, fun b hb => .inr (by simp at hb; omega)⟩
      · have hz1 : (Value.int IntKind.u8 0).cells.size = 1 := rfl
        simp only [Array.size_append, List.size_toArray, size_zeroCells, hz1, Lib.strCells_length, bstr_size]
        have : (kints .u8 (bnum xs)).length = n := by simp [kints, bnum, hx]
        omega
      · simp only [Array.toList_append, List.append_assoc]
        rw [← List.append_assoc, hcat]
        have : (n + s.length) * 1 = (kints .u8 (bnum (xs ++ s))).length := by simp [kints, bnum, hx]
        rw [this]
        exact List.take_left
/-- What reaches. -/
def reachB (T : Tb) (off n : Int) : Bool := decide (0 ≤ off) && decide (0 ≤ n) && decide (off ≤ T.size) && decide (n ≤ T.size - off)
theorem creach {p v : Nat} {T : Tb} {aa : Option Addr} {ac : Nat} (off n : Int) (H : Owns w0 w (tobj p v T aa ac :: R)) (hs : T.size ≤ 1000000) :
    Calls Tryz.prog 60 #[.pointer (some ⟨p, 0, none⟩), .int .i64 off, .int .i64 n] w fun e w' => e = .returned (.bool (reachB T off n)) ∧ w = w' := by
  have k3 : w.cell? ⟨p, 3, none⟩ = some (.int .i64 T.size) := H.cell (j := 3) rfl
  obtain ⟨sz, hsz⟩ : ∃ sz : Nat, sz = T.size := ⟨_, rfl⟩
  obtain ⟨b, hb⟩ : ∃ b, b = reachB T off n := ⟨_, rfl⟩
  rw [← hb]
  rw [reachB, ← hsz] at hb
  rw [← hsz] at k3 hs
  have Hb := Lib.hid hb
  clear H hsz hb
  by_cases h1 : 0 ≤ off
  · by_cases h2 : 0 ≤ n
    · by_cases h3 : off ≤ sz
      · have hw : IntKind.i64.wrap ((sz : Int) - off) = (sz : Int) - off := by rw [IntKind.wrap_i64]; omega
        by_cases h4 : n ≤ (sz : Int) - off
        all_goals
          go_enter Tryz.func60, Tryz.ntmps60
          go_wp2_with fail
          go_ret
          exact ⟨by rw [Hb.out]; simp [h1, h2, h3, h4], rfl⟩
      · have h3' : decide (off ≤ (sz : Int)) = false := by simpa using h3
        go_enter Tryz.func60, Tryz.ntmps60
        go_wp2_with fail
        go_ret
        exact ⟨by rw [Hb.out]; simp [h1, h2, h3]; intros; omega, rfl⟩
    · have h2' : decide (0 ≤ n) = false := by simpa using h2
      go_enter Tryz.func60, Tryz.ntmps60
      go_wp2_with fail
      go_ret
      exact ⟨by rw [Hb.out]; simp [h1, h2]; intros; omega, rfl⟩
  · have h1' : decide (0 ≤ off) = false := by simpa using h1
    go_enter Tryz.func60, Tryz.ntmps60
    go_wp2_with fail
    go_ret
    exact ⟨by rw [Hb.out]; simp [h1]; intros; omega, rfl⟩
/-- A piece's text. -/
theorem ctext {p v : Nat} {T : Tb} {aa : Option Addr} {ac : Nat} {q : Pc} (H : Owns w0 w (tobj p v T aa ac :: brow aa ac T.added :: R)) (hq : PcOk T.first T.added q) (hf : T.first.length ≤ 100000) (ha : T.added.length ≤ 100000) :
    Calls Tryz.prog 62 #[.pointer (some ⟨p, 0, none⟩), .agg #[.bool q.ad, .int .i64 q.off, .int .i64 q.n]] w (Ret (.string (bstr (ptx T.first T.added q))) w0 (tobj p v T aa ac :: brow aa ac T.added :: R)) := by
  obtain ⟨ad, off, n⟩ := q
  obtain ⟨hn, hb⟩ := hq
  dsimp only at *
  have h1 := H.alloc #[.bool ad, .int .i64 off, .int .i64 n] 87
  obtain ⟨W1, hW1⟩ : ∃ W1, W1 = w.alloc (.cells #[.bool ad, .int .i64 off, .int .i64 n] 87) := ⟨_, rfl⟩
  obtain ⟨B, hB⟩ : ∃ B, B = w.heap.size := ⟨_, rfl⟩
  rw [← hW1, ← hB] at h1
  have b0 : W1.cell? ⟨B, 0, none⟩ = some (.bool ad) := h1.cell (j := 0) rfl
  have b1 : W1.cell? ⟨B, 1, none⟩ = some (.int .i64 off) := h1.cell (j := 1) rfl
  have b2 : W1.cell? ⟨B, 2, none⟩ = some (.int .i64 n) := h1.cell (j := 2) rfl
  have k0 : W1.cell? ⟨p, 0, none⟩ = some (.string (bstr T.first)) := h1.p1.cell (j := 0) rfl
  have k1 : W1.cell? ⟨p, 1, none⟩ = some (.slice aa T.added.length ac) := h1.p1.cell (j := 1) rfl
  have hw : IntKind.i64.wrap ((off : Int) + n) = (off : Int) + n := by rw [IntKind.wrap_i64]; cases ad <;> simp at hb <;> omega
  have hw2 : IntKind.i64.wrap ((off + n : Nat) : Int) = ((off + n : Nat) : Int) := by rw [IntKind.wrap_i64]; cases ad <;> simp at hb <;> omega
  have hw3 : IntKind.i64.wrap (off : Int) = (off : Int) := by rw [IntKind.wrap_i64]; cases ad <;> simp at hb <;> omega
  have HW1 := Lib.hid hW1
  have HB := Lib.hid hB
  have H1 := Lib.hid h1
  cases ad with
  | false =>
    simp only [Bool.false_eq_true, if_false] at hb
    have hsz : (bstr T.first).size = T.first.length := bstr_size _
    have he : (bstr T.first).extract off (off + n) = bstr (ptx T.first T.added ⟨false, off, n⟩) := by
      rw [extract_bstr, ptx, Nat.add_sub_cancel_left]
      rfl
    have He := Lib.hid he
    clear H h1 hW1 hB he
    go_enter Tryz.func62, Tryz.ntmps62
    go_upto_region 1 with (fail)
    rw [← HW1.out, ← HB.out]
    go_wp2_with fail
    go_quiet (fail)
    go_wp2_with fail
    go_ret
    exact ⟨by rw [He.out]; rfl, H1.out.drop.drewN _⟩
  | true =>
    simp only [if_true] at hb
    have hlen : (ptx T.first T.added ⟨true, off, n⟩).length = n := ptx_len ⟨hn, by simpa using hb⟩
    obtain ⟨ab, ao, ac', e1, hac, _, hace⟩ := (Reads.row (w0 := w0) (R := Asrt.obj B (.cells #[.bool true, .int .i64 off, .int .i64 n] 87 (0, 0)) :: tobj p v T aa ac :: brow aa ac T.added :: R) (e := 5) (k := 1) (n := T.added.length) (v := .slice aa T.added.length ac) (xs := kints .u8 (bnum T.added)) (by simp) W1 h1).cells (by omega) (by decide)
    cases e1
    have hcv : ∀ k, (convert 37 9 (.slice (some ⟨ab, ao + off, none⟩) n (ac - off))).run Tryz.prog (W1.drewN k) = .ok (.string (bstr (ptx T.first T.added ⟨true, off, n⟩))) (W1.drewN k) := fun k => by
      have := conv_bytes ⟨ab, ao + off, none⟩ (ptx T.first T.added ⟨true, off, n⟩) (W1.drewN k) (ac - off) (fun j hj => by
        rw [hlen] at hj
        have h2 : (kints .u8 (bnum T.added))[off + j]? = some (.int .u8 (T.added[off + j]?.getD 0).toNat) := by
          simp [kints, bnum, List.getElem?_eq_getElem (show off + j < T.added.length by omega)]
        have h3 := hace (off + j) _ h2
        rw [← Nat.add_assoc] at h3
        rw [Addr.add_lit]
        show W1.cell? _ = _
        rw [h3]
        simp [ptx, List.getElem?_take, hj, List.getElem?_drop])
      rwa [hlen] at this
    have hcap : ¬ ac = off := by omega
    clear H h1 hW1 hB hace
    go_enter Tryz.func62, Tryz.ntmps62
    go_upto_region 1 with (fail)
    rw [← HW1.out, ← HB.out]
    go_wp2_with fail
    go_quiet (fail)
    go_wp2_with fail
    go_ret
    exact ⟨rfl, H1.out.drop.drewN _⟩
end
end Go.Proofs.YtcdoomlagmddcaaGreatDoor
