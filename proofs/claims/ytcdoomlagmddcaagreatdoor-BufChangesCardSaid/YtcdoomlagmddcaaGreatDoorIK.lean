/- An index of lines: what stands in memory; line, move. -/
import Derived.Test.YtcdoomlagmddcaaGreatDoorKv
import Derived.Test.YtcdoomlagmddcaaGreatDoorPlain
import Derived.Handy
import Derived.Deep.RegionHeld3
import Derived.Deep.DrawnRows
import Derived.Deep.QuietTactic
import Derived.BigQuiet
import Derived.Deep.DeepCutAuto
import Derived.Deep.CutBlock
import Derived.Test.YtcdoomlagmddcaaGreatDoorKa
namespace Go.Proofs.YtcdoomlagmddcaaGreatDoor
open Go Go.RowKit Go.Fol
attribute [local go_sem ↓] Go.wp_at_zero Go.wp_at_succ
attribute [local go_sem] Oper.semAt_some
set_option linter.unusedVariables false
set_option linter.unusedSimpArgs false
abbrev ivec (v : Nat) (L : List Int) : Asrt := vec_int v L.length (ints L)
abbrev iobj (x v : Nat) (n : Int) : Asrt := Asrt.obj x (.cells #[.pointer (some ⟨v, 0, none⟩), .int .i64 n] 94 (0, 0))
/-- an index of the text w. -/
def Asrt.idx (x : Nat) (w : List UInt8) : Asrt := Asrt.ex fun v => Asrt.all [iobj x v w.length, ivec v (istarts w)]
section
variable {w0 w : World} {R : List Asrt}
theorem idxE {x : Nat} {t : List UInt8} (H : Owns w0 w (Asrt.idx x t :: R)) : ∃ v, Owns w0 w (iobj x v t.length :: ivec v (istarts t) :: R) := by
  obtain ⟨v, h⟩ := H.exE
  exact ⟨v, Owns.allE (L := [_, _]) h⟩
theorem idxI {x v : Nat} {t : List UInt8} (H : Owns w0 w (iobj x v t.length :: ivec v (istarts t) :: R)) : Owns w0 w (Asrt.idx x t :: R) := Owns.exI v (Owns.allI (L := [_, _]) H)

set_option maxHeartbeats 1000000 in
/-- line: by halves. -/
theorem iline {x v off : Nat} {t : List UInt8} {sz : Int} (H : Owns w0 w (iobj x v sz :: ivec v (istarts t) :: R)) (ho : off ≤ t.length) (hb : t.length ≤ 1000000) :
    Calls Tryz.prog 72 #[.pointer (some ⟨x, 0, none⟩), .int .i64 off] w fun e w' => e = .returned (.int .i64 (lineAt t off)) ∧ w' = w := by
  have hc : w.cell? ⟨x, 0, none⟩ = some (.pointer (some ⟨v, 0, none⟩)) := H.cell (j := 0) rfl
  have hlen := o_len_int H.p1
  rw [istarts_len] at hlen
  have Hlen := Lib.hid hlen
  have HH := Lib.hid H.p1
  have hla := lineAt_le t off
  have hbl := brk_le t
  clear hlen H
  go_enter Tryz.func72, Tryz.ntmps72
  go_wp2_with fail
  refine Hlen.out.mono ?_
  rintro e w' ⟨rfl, rfl⟩
  go_wp2_with fail
  go_loop [5, 6] (fun lo hi => ∃ a b : Nat, lo = .int .i64 a ∧ hi = .int .i64 b ∧ a ≤ lineAt t off ∧ lineAt t off < b ∧ b ≤ brk t + 1) (fun lo hi => (intOf hi - intOf lo).toNat)
  case atStart => exact ⟨0, brk t + 1, rfl, by simp, by omega, by omega, by omega⟩
  case round =>
    obtain ⟨a, b, rfl, rfl, ha, hab, hb1⟩ := hrel
    by_cases hlt : 1 < (b : Int) - a
    · obtain ⟨m, hm⟩ : ∃ m, m = a + (b - a) / 2 := ⟨_, rfl⟩
      have hmI : (a : Int) + ((b : Int) - a) / 2 = m := by omega
      obtain ⟨s, hs, hsi, hsl⟩ := istarts_get (w := t) (h := m) (by omega)
      have hcmp := starts_cmp ho hs
      have hat := o_at_int m (.int .i64 s) HH.out (by rw [istarts_len]; omega) (by simp [ints, hsi])
      have Hat := Lib.hid hat
      have Hcmp := Lib.hid hcmp
      have hm1 : a < m := by omega
      have hm2 : m < b := by omega
      clear hs hsi hcmp hat hm
      by_cases hle : s ≤ off
      · have hle' : (s : Int) ≤ (off : Int) := by omega
        go_wp2_with fail
        refine Hat.out.mono ?_
        rintro e w' ⟨rfl, rfl⟩
        go_wp2_with fail
        go_round
        case rel => exact ⟨m, b, by first | rfl | (rw [hmI]), rfl, Hcmp.out.1 hle, hab, hb1⟩
        case measure => simp [intOf]; omega
      · have hle' : ¬ ((s : Int) ≤ (off : Int)) := by omega
        go_wp2_with fail
        refine Hat.out.mono ?_
        rintro e w' ⟨rfl, rfl⟩
        go_wp2_with fail
        go_round
        case rel => exact ⟨a, m, rfl, by first | rfl | (rw [hmI]), ha, Nat.lt_of_not_le (fun h => hle (Hcmp.out.2 h)), by omega⟩
        case measure => simp [intOf]; omega
    · have : a = lineAt t off := by omega
      go_wp2_with fail
      go_ret
      exact ⟨rfl, rfl⟩
set_option maxHeartbeats 1000000 in
set_option maxRecDepth 100000 in
/-- move: all lines behind one. -/
theorem imove {x v line : Nat} {L : List Int} {sz by_ : Int} (H : Owns w0 w (iobj x v sz :: ivec v L :: R)) (hb : L.length ≤ 1000001) (hl : (line : Int) ≤ 1000001) (hby : -1000000 ≤ by_ ∧ by_ ≤ 1000000) (hL : ∀ y ∈ L, 0 ≤ y ∧ y ≤ 1000000) :
    Calls Tryz.prog 73 #[.pointer (some ⟨x, 0, none⟩), .int .i64 line, .int .i64 by_] w (Ret (.tuple #[]) w0 (iobj x v sz :: ivec v (L.take (line + 1) ++ (L.drop (line + 1)).map (· + by_)) :: R)) := by
  obtain ⟨W1, hW1⟩ : ∃ W1, ((w.alloc (.cells #[.pointer (some ⟨x, 0, none⟩)] 57)).alloc (.cells #[.int .i64 line] 3)).alloc (.cells #[.int .i64 by_] 3) = W1 := ⟨_, rfl⟩
  have h1 := ((H.alloc #[.pointer (some ⟨x, 0, none⟩)] 57).alloc #[.int .i64 line] 3).alloc #[.int .i64 by_] 3
  rw [World.size_alloc, World.size_alloc, hW1] at h1
  obtain ⟨B3, hB3⟩ : ∃ B, B = w.heap.size := ⟨_, rfl⟩
  obtain ⟨B4, hB4⟩ : ∃ B, B = w.heap.size + 1 := ⟨_, rfl⟩
  obtain ⟨B5, hB5⟩ : ∃ B, B = w.heap.size + 1 + 1 := ⟨_, rfl⟩
  rw [← hB5, ← hB4, ← hB3] at h1
  have kx : W1.cell? ⟨x, 0, none⟩ = some (.pointer (some ⟨v, 0, none⟩)) := h1.p3.cell (j := 0) rfl
  have kb : W1.cell? ⟨B3, 0, none⟩ = some (.pointer (some ⟨x, 0, none⟩)) := h1.p2.cell (j := 0) rfl
  have H1 := Lib.hid h1
  have HW1 := Lib.hid hW1
  have HB := Lib.hid (And.intro hB3 (And.intro hB4 hB5))
  have Hb := Lib.hid hb
  have HL := Lib.hid hL
  clear h1 H hW1 hB3 hB4 hB5 hb hL
  refine calls_of_wp_marks Tryz.func73 rfl ?_
  simp only [Tryz.ntmps73, List.size_toArray, List.length_cons, List.length_nil, Nat.reduceAdd, Nat.reduceSub, Array.replicate_succ, Array.replicate_zero, List.push_toArray, List.append_toArray, List.nil_append, List.cons_append]
  go_upto_region 1 with (fail)
  rw [HW1.out, ← HB.out.2.2, ← HB.out.2.1, ← HB.out.1]
  clear HW1 HB
  go_wp2_with fail
  refine (o_all_int (H1.out.ord [4]) (ints_one L) (by have := Hb.out; omega)).mono ?_
  rintro e w1 ⟨b, rfl, h1⟩
  obtain ⟨S, hseq, h2⟩ := o_seq_all_int h1
  have H2 := Lib.hid h2
  have Hseq := Lib.hid hseq
  clear h1 h2 hseq H1 kx kb
  go_wp2_with fail
  refine wp_range_own (gf := 112) (lb := #[.pointer (some ⟨b, 0, none⟩)]) rfl (enters_fn Tryz.func112 (by kernel_rfl) rfl) Hseq.out (fun _ => rfl) (w0 := w0)
    (R := [Asrt.obj B5 (.cells #[.int .i64 by_] 3 (0, 0)), Asrt.obj B4 (.cells #[.int .i64 line] 3 (0, 0)), Asrt.obj B3 (.cells #[.pointer (some ⟨x, 0, none⟩)] 57 (0, 0)), iobj x v sz] ++ R)
    (fun k => ivec v (moveL L line by_ k)) (fun _ => Asrt.pure False) ?start ?F ?assign ?body ?done ?stop
  case start => rw [ivec, moveL_len, moveL_zero]; exact H2.out.p1
  case assign =>
    intro l' k W K hk hK
    gi_wp2
    exact hK
  case body =>
    intro l' k W Z hk HW
    obtain ⟨y, hy⟩ : ∃ y, L[k]? = some y := ⟨_, List.getElem?_eq_getElem (by omega)⟩
    have ey : (ints L)[k]?.getD undef = .int .i64 y := by simp [ints, hy]
    rw [ey]
    have hyr := HL.out y (List.mem_of_getElem? hy)
    have hy1 : 0 ≤ y := hyr.1
    have hy2 : y ≤ 1000000 := hyr.2
    have hst := moveL_step (line := line) (b := by_) hy
    have k4 : W.cell? ⟨B4, 0, none⟩ = some (.int .i64 line) := (HW.ord [3]).cell (j := 0) rfl
    have k5 : W.cell? ⟨B5, 0, none⟩ = some (.int .i64 by_) := (HW.ord [2]).cell (j := 0) rfl
    have k3 : W.cell? ⟨B3, 0, none⟩ = some (.pointer (some ⟨x, 0, none⟩)) := (HW.ord [4]).cell (j := 0) rfl
    have kx : W.cell? ⟨x, 0, none⟩ = some (.pointer (some ⟨v, 0, none⟩)) := (HW.ord [5]).cell (j := 0) rfl
    have hb1 : -1000000 ≤ by_ := hby.1
    have hb2 : by_ ≤ 1000000 := hby.2
    have hk2 : k ≤ 1000001 := by have := Hb.out; omega
    have H5 := Lib.hid HW
    by_cases hlt : line < k
    · have hltI : (line : Int) < (k : Int) := by omega
      rw [if_pos hlt] at hst
      have hset := o_set_int k (.int .i64 (y + by_)) rfl HW.drew (by rw [moveL_len]; exact hk)
      rw [← ints_set, ← hst] at hset
      have Hset := Lib.hid hset
      have hadd : IntKind.i64.wrap (y + by_) = y + by_ := by rw [IntKind.wrap_i64]; omega
      clear hset hst HW ey hy hyr hby
      gi_wp2_with fail
      refine wpIn_region_still_tail 8 (by kernel_rfl) (by kernel_rfl) (by kernel_rfl) ?_
      simp only [List.take_succ_cons, List.take_zero, List.drop_succ_cons, List.drop_zero]
      repeat still_step
      refine wpStill_nil ?_
      change wpListIn _ _ _ _ _ _ _ W.drew
      gi_wp2_with fail
      refine in_round (Hset.out.mono ?_)
      rintro e W2 ⟨rfl, h6⟩
      have H6 := Lib.hid h6
      clear h6
      all_goals
        gi_wp2
        have := H6.out
        rw [roundOwn, ivec, moveL_len]
        rw [moveL_len] at this
        exact this
    · have hltI : ¬ ((line : Int) < (k : Int)) := by omega
      rw [if_neg hlt] at hst
      clear HW ey hy hyr hby
      gi_wp2
      rw [roundOwn, ivec, moveL_len]
      have := H5.out
      rw [ivec, moveL_len] at this
      exact this
  case done =>
    intro D W HW
    have H3 := Lib.hid HW
    clear HW
    go_wp2_with fail
    refine leaves_own [D] _ H3.out.p1 (fun w' hw' => ?_)
    rw [moveL_all] at hw'
    exact ⟨.tuple #[], by simp [results, Tryz.f73, go_sem], rfl, (((hw'.ord [1]).drop.ord [1]).drop.ord [1]).drop.p1⟩
  case stop =>
    intro D cd W HW
    exact HW.pureE.1.elim
end
end Go.Proofs.YtcdoomlagmddcaaGreatDoor
