/- Changes in memory; lists of them read alike. -/
import Derived.Test.YtchgkdhhfbppbaaRowChg
import Derived.Test.YtchgkdhhfbppbaaRowStr
import Derived.Test.YtchgkdhhfbppbaaFlat
import Derived.Test.YtchgkdhhfbppbaaHeldIn
import Derived.Handy
import Derived.Deep.RegionHeld3
import Derived.Deep.DrawnRows
import Derived.Deep.QuietTactic
import Derived.BigQuiet
import Derived.StillTailTactics
import Derived.Deep.DeepCutAuto
import Derived.Deep.CutBlock
namespace Go.Proofs.Ytchgkdhhfbppbaa
open Go Go.RowKit Go.Fol
set_option linter.unusedVariables false
set_option linter.unusedSimpArgs false
/-- A change, as it lies in memory. -/
structure Ch where
  at_ : Int
  oa : Option Addr
  oc : Nat
  na : Option Addr
  nc : Nat
  old : List ByteArray
  new : List ByteArray
abbrev Ch.ov (c : Ch) : Value := .slice c.oa c.old.length c.oc
abbrev Ch.nv (c : Ch) : Value := .slice c.na c.new.length c.nc
def chf (c : Ch) : List Value := [.int .i64 c.at_, c.ov, c.nv]
abbrev chs (L : List Ch) : List Value := flat chf L
theorem chf_len : ∀ x, (chf x).length = 3 := fun _ => rfl
theorem chs_one (L : List Ch) : ∀ u ∈ chs L, u.oneCell' = true := flat_one_cell (fun x u hu => by simp [chf] at hu; rcases hu with rfl | rfl | rfl <;> rfl) L
theorem chs_len (L : List Ch) : (chs L).length = L.length * 3 := flat_len chf_len L
theorem chs_get {L : List Ch} {i : Nat} {c : Ch} (h : L[i]? = some c) : (chs L)[i * 3]? = some (.int .i64 c.at_) ∧ (chs L)[i * 3 + 1]? = some c.ov ∧ (chs L)[i * 3 + 2]? = some c.nv :=
  ⟨flat_get chf_len h (j := 0) (by decide), flat_get chf_len h (j := 1) (by decide), flat_get chf_len h (j := 2) (by decide)⟩
/-- What is told. -/
abbrev CD := Int × List ByteArray × List ByteArray
def Ch.dat (c : Ch) : CD := (c.at_, c.old, c.new)
abbrev datL (L : List Ch) : List CD := L.map Ch.dat
/-- its lists. -/
abbrev chA (c : Ch) : Asrt := Asrt.all [Asrt.src 1 c.ov c.old.length (strs c.old), Asrt.src 1 c.nv c.new.length (strs c.new)]
def chsA (L : List Ch) : Asrt := Asrt.all (L.map chA)
/-- None is too great. -/
def ChOk (d : CD) : Prop := d.2.1.length * 16 ≤ 140737488355328 ∧ d.2.2.length * 16 ≤ 140737488355328
def OkL (D : List CD) : Prop := ∀ d ∈ D, ChOk d
/-- Changes that can be read wherever R stands. -/
structure ChRd (w0 : World) (R : List Asrt) (v : Value) (L : List Ch) : Prop where
  row : Reads w0 R 3 v L.length (chs L)
  olds : ∀ c ∈ L, Reads w0 R 1 c.ov c.old.length (strs c.old)
  news : ∀ c ∈ L, Reads w0 R 1 c.nv c.new.length (strs c.new)
section
variable {w0 w : World} {R R' : List Asrt}
theorem chsA_reads {L : List Ch} (h : chsA L ∈ R) : ∀ c ∈ L, Reads w0 R 1 c.ov c.old.length (strs c.old) ∧ Reads w0 R 1 c.nv c.new.length (strs c.new) := by
  intro c hc
  refine ⟨fun w H => ?_, fun w H => ?_⟩
  all_goals
    have h1 := Owns.allE (L := L.map chA) (R := []) (H.mem h)
    have h2 := Owns.allE (L := [_, _]) (R := []) (h1.mem (A := chA c) (by simp; exact ⟨c, hc, rfl⟩))
  · exact h2.src
  · exact h2.p1.src
theorem ChRd.own {v : Value} {L : List Ch} (h1 : Asrt.row 49 3 v L.length (chs L) ∈ R) (h2 : chsA L ∈ R) : ChRd w0 R v L :=
  ⟨Reads.row h1, fun c hc => (chsA_reads h2 c hc).1, fun c hc => (chsA_reads h2 c hc).2⟩
theorem ChRd.src {v : Value} {L : List Ch} (h1 : Asrt.src 3 v L.length (chs L) ∈ R) (h2 : chsA L ∈ R) : ChRd w0 R v L :=
  ⟨Reads.src h1, fun c hc => (chsA_reads h2 c hc).1, fun c hc => (chsA_reads h2 c hc).2⟩
theorem ChRd.cons {A : Asrt} {v : Value} {L : List Ch} (h : ChRd w0 R v L) : ChRd w0 (A :: R) v L := ⟨h.row.cons, fun c hc => (h.olds c hc).cons, fun c hc => (h.news c hc).cons⟩
theorem chsA_nil (H : Owns w0 w R) : Owns w0 w (chsA [] :: R) := Owns.allI (L := []) H
theorem chsA_snoc {L : List Ch} {c : Ch} (H : Owns w0 w (chA c :: chsA L :: R)) : Owns w0 w (chsA (L ++ [c]) :: R) := by
  refine Owns.allI (L := (L ++ [c]).map chA) ?_
  have h := Owns.allE (L := L.map chA) H.p1
  rw [List.map_append, List.append_assoc]
  exact h
theorem chsA_append {A B : List Ch} (H : Owns w0 w (chsA A :: chsA B :: R)) : Owns w0 w (chsA (A ++ B) :: R) := by
  refine Owns.allI (L := (A ++ B).map chA) ?_
  have h := Owns.allE (L := A.map chA) H
  have h2 := Owns.allE (L := B.map chA) (R := A.map chA ++ R) (h.perm (List.perm_middle))
  rw [List.map_append]
  refine h2.perm ?_
  rw [← List.append_assoc]
  exact List.Perm.append_right _ List.perm_append_comm
set_option maxHeartbeats 1000000 in
theorem hstrings {va vb : Value} {A : List ByteArray} (H : Owns w0 w R) (ha : Reads w0 R 1 va A.length (strs A)) (hb : Reads w0 R 1 vb A.length (strs A)) :
    Calls Try.prog 35 #[va, vb] w (Ret (.bool true) w0 R) := by
  obtain ⟨aa, ac, rfl⟩ := (ha w H).form
  obtain ⟨ba, bc, rfl⟩ := (hb w H).form
  have hn63 := (ha w H).n63
  obtain ⟨n, hn⟩ : ∃ n, n = A.length := ⟨_, rfl⟩
  rw [← hn] at ha hb hn63 ⊢
  have HH := Lib.hid H
  have Ha := Lib.hid ha
  have Hb := Lib.hid hb
  have Hn := Lib.hid hn
  clear H ha hb hn
  go_enter Try.func35, Try.ntmps35
  go_wp2_with fail
  go_loopw [5] (fun q wr => ∃ i : Nat, i ≤ n ∧ q = .int .i64 i ∧ Owns w0 wr R) (fun q _ => n - (intOf q).toNat)
  case atStart => exact ⟨0, Nat.zero_le _, rfl, HH.out⟩
  case round =>
    obtain ⟨i, hi, rfl, hr⟩ := hrel
    have Hr := Lib.hid hr
    by_cases hlt : i < n
    · obtain ⟨ab, ao, ac', e1, hac, _, hace⟩ := (Ha.out wr hr).cells (by omega) (by decide)
      cases e1
      obtain ⟨bb, bo, bc', e2, hbc, _, hbce⟩ := (Hb.out wr hr).cells (by omega) (by decide)
      cases e2
      have hs := strs_get A (k := i) (by have := Hn.out; omega)
      have ca := hace i _ hs
      have cb := hbce i _ hs
      clear hace hbce hs hr
      generalize A[i]?.getD ⟨#[]⟩ = s at *
      go_wp2
      go_quiet (fail)
      go_wp2
      go_roundw
      case rel => exact ⟨i + 1, by omega, by go_num, Hr.out.drewN _⟩
      case measure => simp [intOf]; omega
    · go_wp2
      go_ret
      exact ⟨rfl, Hr.out⟩
set_option maxHeartbeats 1000000 in
theorem hchange {a b : Ch} (hd : a.dat = b.dat) (H : Owns w0 w R) (hao : Reads w0 R 1 a.ov a.old.length (strs a.old)) (han : Reads w0 R 1 a.nv a.new.length (strs a.new)) (hbo : Reads w0 R 1 b.ov b.old.length (strs b.old)) (hbn : Reads w0 R 1 b.nv b.new.length (strs b.new)) :
    Calls Try.prog 28 #[.agg #[.int .i64 a.at_, a.ov, a.nv], .agg #[.int .i64 b.at_, b.ov, b.nv]] w (Ret (.bool true) w0 R) := by
  obtain ⟨x, oa, oc, na, nc, old, new⟩ := a
  obtain ⟨y, oa', oc', na', nc', old', new'⟩ := b
  cases hd
  dsimp only [Ch.ov, Ch.nv] at *
  have H1 := (H.alloc #[.int .i64 x, .slice oa old.length oc, .slice na new.length nc] 49).alloc #[.int .i64 x, .slice oa' old.length oc', .slice na' new.length nc'] 49
  rw [World.size_alloc] at H1
  have c1 := hstrings (va := .slice oa old.length oc) (vb := .slice oa' old.length oc') H1 hao.cons.cons hbo.cons.cons
  have C1 := Lib.hid c1
  have Han := Lib.hid han
  have Hbn := Lib.hid hbn
  clear H hao han hbo hbn H1 c1
  go_enter Try.func28, Try.ntmps28
  go_wp2_with fail
  refine C1.out.mono ?_
  rintro e w1 ⟨rfl, h1⟩
  have k1 := h1.p1.cell (j := 2) rfl
  have k2 := h1.cell (j := 2) rfl
  have c2 := hstrings (va := .slice na new.length nc) (vb := .slice na' new.length nc') h1 Han.out.cons.cons Hbn.out.cons.cons
  have C2 := Lib.hid c2
  clear c2 h1 C1
  go_wp2_with fail
  refine C2.out.mono ?_
  rintro e w2 ⟨rfl, h2⟩
  have H2 := Lib.hid h2
  clear h2 C2 k1 k2
  go_wp2_with fail
  go_ret
  exact ⟨rfl, H2.out.drop.drop⟩
set_option maxHeartbeats 1000000 in
theorem hchanges {va vb : Value} {A B : List Ch} (hd : datL A = datL B) (H : Owns w0 w R) (ha : ChRd w0 R va A) (hb : ChRd w0 R vb B) :
    Calls Try.prog 16 #[va, vb] w (Ret (.bool true) w0 R) := by
  obtain ⟨aa, ac, rfl⟩ := (ha.row w H).form
  obtain ⟨ba, bc, rfl⟩ := (hb.row w H).form
  have hn63 := (ha.row w H).n63
  have hl : B.length = A.length := by have := congrArg List.length hd; simpa using this.symm
  obtain ⟨n, hn⟩ : ∃ n, n = A.length := ⟨_, rfl⟩
  have hra := ha.row
  have hrb := hb.row
  rw [hl, ← hn] at hrb ⊢
  rw [← hn] at hra hn63
  have HH := Lib.hid H
  have Ha := Lib.hid ha
  have Hb := Lib.hid hb
  have Hra := Lib.hid hra
  have Hrb := Lib.hid hrb
  have Hn := Lib.hid hn
  have Hl := Lib.hid hl
  have Hd := Lib.hid hd
  clear H ha hb hn hra hrb hl hd
  go_enter Try.func16, Try.ntmps16
  go_wp2_with fail
  go_loopw [5] (fun q wr => ∃ i : Nat, i ≤ n ∧ q = .int .i64 i ∧ Owns w0 wr R) (fun q _ => n - (intOf q).toNat)
  case atStart => exact ⟨0, Nat.zero_le _, rfl, HH.out⟩
  case round =>
    obtain ⟨i, hi, rfl, hr⟩ := hrel
    have Hr := Lib.hid hr
    by_cases hlt : i < n
    · obtain ⟨ab, ao, ac', e1, hac, _, hace⟩ := (Hra.out wr hr).cells (by omega) (by decide)
      cases e1
      obtain ⟨bb, bo, bc', e2, hbc, _, hbce⟩ := (Hrb.out wr hr).cells (by omega) (by decide)
      cases e2
      obtain ⟨a, hga⟩ : ∃ a, A[i]? = some a := ⟨_, List.getElem?_eq_getElem (by have := Hn.out; omega)⟩
      obtain ⟨b, hgb⟩ : ∃ b, B[i]? = some b := ⟨_, List.getElem?_eq_getElem (by have := Hn.out; have := Hl.out; omega)⟩
      have hdd : a.dat = b.dat := by
        have := congrArg (fun l => l[i]?) Hd.out
        simpa [hga, hgb] using this
      have ca0 := hace _ _ (chs_get hga).1
      have ca1 := hace _ _ (chs_get hga).2.1
      have ca2 := hace _ _ (chs_get hga).2.2
      have cb0 := hbce _ _ (chs_get hgb).1
      have cb1 := hbce _ _ (chs_get hgb).2.1
      have cb2 := hbce _ _ (chs_get hgb).2.2
      rw [← Nat.add_assoc] at ca1 ca2 cb1 cb2
      have hma := List.mem_of_getElem? hga
      have hmb := List.mem_of_getElem? hgb
      have hcall : ∀ q, Calls Try.prog 28 #[.agg #[.int .i64 a.at_, a.ov, a.nv], .agg #[.int .i64 b.at_, b.ov, b.nv]] (wr.drewN q) (Ret (.bool true) w0 R) := fun q => hchange hdd (hr.drewN q) (Ha.out.olds a hma) (Ha.out.news a hma) (Hb.out.olds b hmb) (Hb.out.news b hmb)
      have Hcall := Lib.hid hcall
      clear hace hbce hr hcall hdd hma hmb hga hgb
      go_wp2_with fail
      go_still_tail 8, (by kernel_rfl)
      change wpList _ _ _ _ _ wr.drew
      go_wp2_with fail
      refine (Hcall.out 1).mono ?_
      rintro e w1 ⟨rfl, h1⟩
      have H1 := Lib.hid h1
      clear h1 ca0 ca1 ca2 cb0 cb1 cb2
      go_wp2_with fail
      go_roundw
      case rel => exact ⟨i + 1, by omega, by go_num, H1.out⟩
      case measure => simp [intOf]; omega
    · go_wp2
      go_ret
      exact ⟨rfl, Hr.out⟩
end
end Go.Proofs.Ytchgkdhhfbppbaa
