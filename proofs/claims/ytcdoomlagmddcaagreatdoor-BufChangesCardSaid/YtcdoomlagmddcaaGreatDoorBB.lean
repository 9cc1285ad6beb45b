/- Lists of lines: the statements' own helps. -/
import Derived.Test.YtcdoomlagmddcaaGreatDoorBA
namespace Go.Proofs.YtcdoomlagmddcaaGreatDoor
open Go Go.RowKit Go.Fol
attribute [local go_sem ↓] Go.wp_at_zero Go.wp_at_succ
attribute [-go_sem] run_index_string
set_option linter.unusedVariables false
set_option linter.unusedSimpArgs false
set_option maxRecDepth 100000
theorem byte_eqB (b : UInt8) : ((b.toNat : Int) == 10) = (b == 10) := by
  by_cases h : b = 10
  · subst h; rfl
  · rw [beq_eq_false_iff_ne.2 h]
    refine beq_eq_false_iff_ne.2 (fun e => h ?_)
    apply UInt8.toNat_inj.1
    simp at e ⊢
    omega
theorem bulk_bound {B : Nat} : ∀ {L : Ls}, (∀ x ∈ L, x.length ≤ B) → bulkL L ≤ L.length * (B + 1)
  | [], _ => Nat.zero_le _
  | x :: r, h => by
    have h1 := bulk_bound (L := r) (fun y hy => h y (List.mem_cons_of_mem _ hy))
    have h2 := h x (by simp)
    simp only [bulkL, List.length_cons, Nat.add_mul, Nat.one_mul]
    omega
theorem take_has {x : List UInt8} {k : Nat} {b : UInt8} (h : x[k]? = some b) : hasLF (x.take (k + 1)) = (hasLF (x.take k) || (b == 10)) := by
  have hs : ∀ b : UInt8, hasLF [b] = (b == 10) := fun b => by
    by_cases hb : b = 10
    · subst hb; rfl
    · rw [beq_eq_false_iff_ne.2 hb]; simp [hasLF]; exact fun h => absurd h.symm hb
  rw [List.take_add_one, h, ← hs b]
  simp only [hasLF, Option.toList_some]
  induction x.take k with
  | nil => simp
  | cons y ys ih => simp [Bool.or_assoc]
theorem has_of {x : List UInt8} {k : Nat} (h : x[k]? = some 10) : hasLF x = true := (hasLF_iff x).2 (List.mem_of_getElem? h)
section
variable {w0 w : World} {R : List Asrt}
set_option maxHeartbeats 2000000 in
theorem lbroken {a : Option Addr} {n c : Nat} {L : Ls} (hn : n = L.length) (hx : ∀ x ∈ L, x.length ≤ 140737488355328) (H : Owns w0 w R) (hk : RdL w0 R (.slice a n c) L) :
    Calls Tryz.prog 12 #[.slice a n c] w fun e w' => e = .returned (.bool (brokenB L)) ∧ w' = w := by
  have hn63 := (hk w H).n63
  rw [← hn] at hn63
  have Hcell := Lib.hid (fun i x hx => rdl_cell hk (i := i) (x := x) hx H)
  have Hn := Lib.hid hn
  have Hxl := Lib.hid hx
  clear H hk hn hx
  go_enter Tryz.func12, Tryz.ntmps12
  go_wp2_with fail
  go_loopw [3, 4] (fun q _ wr => ∃ i : Nat, i ≤ n ∧ q = .int .i64 i ∧ brokenB (L.take i) = false ∧ wr = w) (fun q _ _ => n - (intOf q).toNat)
  case atStart => exact ⟨0, Nat.zero_le _, rfl, rfl, rfl⟩
  case round =>
    obtain ⟨i, hi, rfl, hbr, rfl⟩ := hrel
    have Hbr := Lib.hid hbr
    clear hbr
    by_cases hlt : i < n
    · obtain ⟨x, hx⟩ : ∃ x, L[i]? = some x := ⟨_, List.getElem?_eq_getElem (by rw [← Hn.out]; exact hlt)⟩
      obtain ⟨b, o, c', e1, hc, hcell⟩ := Hcell.out i x hx
      rw [← Hn.out] at e1 hc
      cases e1
      have hxl := Hxl.out x (List.mem_of_getElem? hx)
      have hsz : (bs x).size = x.length := bs_size x
      obtain ⟨m, hm⟩ : ∃ m, m = x.length := ⟨_, rfl⟩
      rw [← hm] at hsz hxl
      have Hx := Lib.hid hx
      have Hm := Lib.hid hm
      clear hx hm
      go_wp2_with fail
      go_loopw [4] (fun q wr2 => ∃ k : Nat, k ≤ m ∧ q = .int .i64 k ∧ hasLF (x.take k) = false ∧ wr2 = wr) (fun q _ => m - (intOf q).toNat)
      case atStart => exact ⟨0, Nat.zero_le _, rfl, rfl, rfl⟩
      case round =>
        obtain ⟨k, hk, rfl, hbk, rfl⟩ := hrel
        have Hbk := Lib.hid hbk
        clear hbk
        by_cases hkl : k < m
        · obtain ⟨y, hy⟩ : ∃ y, x[k]? = some y := ⟨_, List.getElem?_eq_getElem (by rw [← Hm.out]; exact hkl)⟩
          have hrun := run_at hy
          have hyb := byte_eqB y
          have Hy := Lib.hid hy
          clear hy
          cases hb : (y == (10 : UInt8)) with
          | true =>
            rw [hb] at hyb
            have hyb2 : (y.toNat : Int) = 10 := by simpa using hyb
            clear hb
            go_wp2_with fail
            go_ret
            refine ⟨?_, rfl⟩
            have hy10 : y = 10 := UInt8.toNat_inj.1 (by simp at hyb2 ⊢; omega)
            have := broken_of Hx.out (has_of (by rw [← hy10]; exact Hy.out))
            rw [this]
            rfl
          | false =>
            rw [hb] at hyb
            have h2 := take_has Hy.out
            rw [Hbk.out, hb] at h2
            have H2 := Lib.hid h2
            clear hb h2
            go_wp2_with fail
            go_roundw
            case rel => exact ⟨k + 1, by omega, by go_num, H2.out, trivial⟩
            case measure => simp [intOf]; omega
        · obtain rfl : k = m := by omega
          have ht : x.take k = x := List.take_of_length_le (by rw [Hm.out]; exact Nat.le_refl _)
          have h2 := broken_take Hx.out
          have h3 := Hbk.out
          rw [ht] at h3
          rw [Hbr.out, h3] at h2
          have H2 := Lib.hid h2
          clear h2 h3 ht
          go_wp2_with fail
          go_roundw
          case rel => exact ⟨i + 1, by omega, by go_num, H2.out, trivial⟩
          case measure => simp [intOf]; omega
    · obtain rfl : i = n := by omega
      have ht : L.take i = L := List.take_of_length_le (by rw [Hn.out]; exact Nat.le_refl _)
      have h2 := Hbr.out
      rw [ht] at h2
      have H2 := Lib.hid h2
      clear h2 ht
      go_wp2_with fail
      go_ret
      exact ⟨by rw [H2.out]; rfl, rfl⟩
/-- Lines that may be asked. -/
structure LightP (L : Ls) : Prop where
  len : L.length ≤ 40
  bulk : bulkL L ≤ 1240
  lf : brokenB L = false
set_option maxHeartbeats 2000000 in
theorem hlight {a : Option Addr} {n c : Nat} {L : Ls} (hn : n = L.length) (hx : ∀ x ∈ L, x.length ≤ 140737488355328) (H : Owns w0 w R) (hk : RdL w0 R (.slice a n c) L) :
    Calls Tryz.prog 9 #[.slice a n c] w fun e w' => (∃ b, e = .returned (.bool b) ∧ (b = true → LightP L)) ∧ w' = w := by
  have hn63 := (hk w H).n63
  rw [← hn] at hn63
  have Hcell := Lib.hid (fun i x hx => rdl_cell hk (i := i) (x := x) hx H)
  have Hn := Lib.hid hn
  have Hxl := Lib.hid hx
  clear H hk hn hx
  go_enter Tryz.func9, Tryz.ntmps9
  by_cases hn40 : n ≤ 40
  rotate_left
  · go_wp2_with fail
    go_ret
    exact ⟨⟨false, rfl, fun h => by cases h⟩, rfl⟩
  go_wp2_with fail
  go_loopw [3, 4, 5] (fun nv q _ wr => ∃ i t : Nat, i ≤ n ∧ q = .int .i64 i ∧ nv = .int .i64 t ∧ t + i = bulkL (L.take i) ∧ t ≤ 1200 ∧ brokenB (L.take i) = false ∧ wr = w) (fun _ q _ _ => n - (intOf q).toNat)
  case atStart => exact ⟨0, 0, Nat.zero_le _, rfl, rfl, rfl, Nat.zero_le _, rfl, rfl⟩
  case round =>
    obtain ⟨i, t, hi, rfl, rfl, htb, ht12, hbr, rfl⟩ := hrel
    have Hbr := Lib.hid hbr
    have Htb := Lib.hid htb
    clear hbr htb
    by_cases hlt : i < n
    · obtain ⟨x, hx⟩ : ∃ x, L[i]? = some x := ⟨_, List.getElem?_eq_getElem (by rw [← Hn.out]; exact hlt)⟩
      obtain ⟨b, o, c', e1, hc, hcell⟩ := Hcell.out i x hx
      rw [← Hn.out] at e1 hc
      cases e1
      have hxl := Hxl.out x (List.mem_of_getElem? hx)
      have hsz : (bs x).size = x.length := bs_size x
      obtain ⟨m, hm⟩ : ∃ m, m = x.length := ⟨_, rfl⟩
      rw [← hm] at hsz hxl
      have Hx := Lib.hid hx
      have Hm := Lib.hid hm
      clear hx hm
      by_cases ht2 : t + m ≤ 1200
      rotate_left
      · go_wp2_with fail
        go_ret
        exact ⟨⟨false, rfl, fun h => by cases h⟩, rfl⟩
      go_wp2_with fail
      go_loopw [5] (fun q wr2 => ∃ k : Nat, k ≤ m ∧ q = .int .i64 k ∧ hasLF (x.take k) = false ∧ wr2 = wr) (fun q _ => m - (intOf q).toNat)
      case atStart => exact ⟨0, Nat.zero_le _, rfl, rfl, rfl⟩
      case round =>
        obtain ⟨k, hk, rfl, hbk, rfl⟩ := hrel
        have Hbk := Lib.hid hbk
        clear hbk
        by_cases hkl : k < m
        · obtain ⟨y, hy⟩ : ∃ y, x[k]? = some y := ⟨_, List.getElem?_eq_getElem (by rw [← Hm.out]; exact hkl)⟩
          have hrun := run_at hy
          have hyb := byte_eqB y
          have Hy := Lib.hid hy
          clear hy
          cases hb : (y == (10 : UInt8)) with
          | true =>
            rw [hb] at hyb
            have hyb2 : (y.toNat : Int) = 10 := by simpa using hyb
            clear hb
            go_wp2_with fail
            go_ret
            exact ⟨⟨false, rfl, fun h => by cases h⟩, rfl⟩
          | false =>
            rw [hb] at hyb
            have h2 := take_has Hy.out
            rw [Hbk.out, hb] at h2
            have H2 := Lib.hid h2
            clear hb h2
            go_wp2_with fail
            go_roundw
            case rel => exact ⟨k + 1, by omega, by go_num, H2.out, trivial⟩
            case measure => simp [intOf]; omega
        · obtain rfl : k = m := by omega
          have ht : x.take k = x := List.take_of_length_le (by rw [Hm.out]; exact Nat.le_refl _)
          have h2 := broken_take Hx.out
          have h3 := Hbk.out
          rw [ht] at h3
          rw [Hbr.out, h3] at h2
          have h4 : (t + k) + (i + 1) = bulkL (L.take (i + 1)) := by rw [bulkL_take_succ Hx.out, ← Htb.out, ← Hm.out]; omega
          have H2 := Lib.hid h2
          have H4 := Lib.hid h4
          clear h2 h3 ht h4
          go_wp2_with fail
          go_roundw
          case rel => exact ⟨i + 1, t + k, by omega, by go_num, by go_num, H4.out, ht2, H2.out, trivial⟩
          case measure => simp [intOf]; omega
    · obtain rfl : i = n := by omega
      have ht : L.take i = L := List.take_of_length_le (by rw [Hn.out]; exact Nat.le_refl _)
      have hP : LightP L := ⟨by rw [← Hn.out]; exact hn40, by have := Htb.out; rw [ht] at this; omega, by have := Hbr.out; rw [ht] at this; exact this⟩
      have HP := Lib.hid hP
      clear ht hP
      go_wp2_with fail
      go_ret
      exact ⟨⟨true, rfl, fun _ => HP.out⟩, rfl⟩
theorem htext {a : Option Addr} {n c : Nat} {L : Ls} (hn : n = L.length) (hx : ∀ x ∈ L, x.length ≤ 140737488355328) (H : Owns w0 w R) (hk : RdL w0 R (.slice a n c) L) :
    Calls Tryz.prog 18 #[.slice a n c] w fun e w' => (∃ b, e = .returned (.bool b) ∧ (b = true → LightP L ∧ L ≠ [])) ∧ w' = w := by
  have hc := hlight hn hx H hk
  have Hc := Lib.hid hc
  have Hn := Lib.hid hn
  clear H hk hn hc hx
  by_cases h0 : n = 0
  · subst h0
    go_enter Tryz.func18, Tryz.ntmps18
    go_wp2_with fail
    go_ret
    exact ⟨⟨false, rfl, fun h => by cases h⟩, rfl⟩
  · have hp : 0 < n := by omega
    go_enter Tryz.func18, Tryz.ntmps18
    go_wp2_with fail
    refine Hc.out.mono ?_
    rintro e w' ⟨⟨b, rfl, hb⟩, rfl⟩
    have Hb := Lib.hid hb
    clear hb Hc
    go_wp2_with fail
    go_ret
    exact ⟨⟨b, rfl, fun h => ⟨Hb.out h, fun e => by have := Hn.out; rw [e] at this; simp at this; omega⟩⟩, rfl⟩
set_option maxHeartbeats 1000000 in
theorem hstrings {va vb : Value} {A : Ls} (H : Owns w0 w R) (ha : RdL w0 R va A) (hb : RdL w0 R vb A) :
    Calls Tryz.prog 15 #[va, vb] w (Ret (.bool true) w0 R) := by
  obtain ⟨aa, ac, rfl⟩ := (ha w H).form
  obtain ⟨ba, bc, rfl⟩ := (hb w H).form
  have hn63 := (ha w H).n63
  have Hca := Lib.hid (fun i x (hx : A[i]? = some x) wr hr => rdl_cell (w := wr) ha hx hr)
  have Hcb := Lib.hid (fun i x (hx : A[i]? = some x) wr hr => rdl_cell (w := wr) hb hx hr)
  obtain ⟨n, hn⟩ : ∃ n, n = A.length := ⟨_, rfl⟩
  rw [← hn] at ha hb hn63 ⊢
  have HH := Lib.hid H
  have Hn := Lib.hid hn
  clear H ha hb hn
  go_enter Tryz.func15, Tryz.ntmps15
  go_wp2_with fail
  go_loopw [5] (fun q wr => ∃ i : Nat, i ≤ n ∧ q = .int .i64 i ∧ Owns w0 wr R) (fun q _ => n - (intOf q).toNat)
  case atStart => exact ⟨0, Nat.zero_le _, rfl, HH.out⟩
  case round =>
    obtain ⟨i, hi, rfl, hr⟩ := hrel
    have Hr := Lib.hid hr
    by_cases hlt : i < n
    · obtain ⟨x, hx⟩ : ∃ x, A[i]? = some x := ⟨_, List.getElem?_eq_getElem (by rw [← Hn.out]; exact hlt)⟩
      obtain ⟨ab, ao, ac', e1, hac, ca⟩ := Hca.out i x hx wr hr
      obtain ⟨bb, bo, bc', e2, hbc, cb⟩ := Hcb.out i x hx wr hr
      rw [← Hn.out] at e1 hac e2 hbc
      cases e1
      cases e2
      clear hx hr
      generalize bs x = s at *
      go_wp2
      go_quiet (fail)
      go_wp2
      go_roundw
      case rel => exact ⟨i + 1, by omega, by go_num, Hr.out.drewN _⟩
      case measure => simp [intOf]; omega
    · go_wp2
      go_ret
      exact ⟨rfl, Hr.out⟩
/-! the library's -/
theorem ljoin {a : Option Addr} {n c : Nat} {L : Ls} (hn : n = L.length) (H : Owns w0 w R) (hk : RdL w0 R (.slice a n c) L) (hl : (joinL L).length ≤ 2000000) (hL : L.length ≤ 1000000) :
    Calls Tryz.prog 27 #[.slice a n c, .string ⟨#[10]⟩] w (Ret (.string (bs (joinL L))) w0 R) := by
  subst hn
  by_cases h0 : L.length = 0
  · obtain rfl : L = [] := List.eq_nil_of_length_eq_zero h0
    refine (Tryz.strings_Join_none a c ⟨#[10]⟩ w).mono ?_
    rintro e w' ⟨rfl, rfl⟩
    exact ⟨rfl, H⟩
  · obtain ⟨b, o, c', e1, hc, _, hce⟩ := (hk w H).cells (by omega) (by decide)
    cases e1
    have hmap : (L.map bs).map (·.data.toList) = L := by
      rw [List.map_map]
      conv => rhs; rw [← List.map_id L]
      rfl
    have hb : b < w.heap.size := by
      have hj := hce 0 _ (strs_get (L.map bs) (k := 0) (by rw [List.length_map]; omega))
      exact World.block_lt_of_cell? w _ hj
    have hj := Tryz.strings_Join b o c (L.map bs) ⟨#[10]⟩ w (fun j x hx => by
      have := hce j (.string x) (by simp [lstrs, strs]; simpa using hx)
      exact this) hb (by rw [List.length_map]; omega) (by rw [List.length_map]; exact hc) (by rw [hmap]; show (joinL L).length ≤ _; omega)
    rw [hmap, List.length_map] at hj
    refine hj.mono ?_
    rintro e w' ⟨rfl, h⟩
    exact ⟨rfl, H.quiet (Go.Fol.Below.chg h)⟩
theorem lsplit {l : List UInt8} (hl : l.length ≤ 1000000) (hM : MaxInt w0) (H : Owns w0 w R) :
    Calls Tryz.prog 35 #[.string (bs l), .string ⟨#[10]⟩] w (RetX (fun b : Nat => .slice (some ⟨b, 0, none⟩) (linesL l).length (linesL l).length) w0 (fun b => row_str (.slice (some ⟨b, 0, none⟩) (linesL l).length (linesL l).length) (linesL l).length (lstrs (linesL l)) :: R)) := by
  obtain ⟨m, hm⟩ := maxInt_keep hM H.chg
  have hsp := Tryz.strings_Split (bs l) ⟨#[10]⟩ m w (by rw [bs_size]; omega) hm (by decide)
  rw [splitB_lines, ← lines_len] at hsp
  have h2 := H.alloc (((linesL l).map bs).map Value.string).toArray 9
  have hll : (linesL l).length ≤ maxLen := by
    rw [lines_len]
    have := Lib.countB_le (⟨#[10]⟩ : ByteArray) (by decide) _ (bs l) (Nat.le_refl _)
    rw [bs_size] at this
    unfold maxLen
    omega
  have h3 := h2.rowOf (e := 9) (k := 1) (linesL l).length (linesL l).length (Nat.le_refl _) hll (by simp)
  have e3 : ((((linesL l).map bs).map Value.string).toArray.toList.take ((linesL l).length * 1)) = lstrs (linesL l) := List.take_of_length_le (by simp)
  rw [e3] at h3
  refine hsp.mono ?_
  rintro e w' ⟨rfl, rfl⟩
  exact ⟨_, rfl, h3⟩
end
end Go.Proofs.YtcdoomlagmddcaaGreatDoor
