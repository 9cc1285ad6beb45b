/- Token, Script, Mix: some keys, of bounded length. -/
import Derived.Test.YthcamokblkjkkaaQS
namespace Go.Proofs.Ythcamokblkjkkaa
open Go Go.RowKit Go.Fol
attribute [local go_sem ↓] Go.wp_at_zero Go.wp_at_succ
set_option linter.unusedVariables false
set_option linter.unusedSimpArgs false
section
variable {w0 w : World} {R : List Asrt}
theorem SomeKeys.mono {m : Nat} {R R' : List Asrt} {e : Ending} {w' : World} (h : SomeKeys m w0 R e w') (hR : ∀ A w, Owns w0 w (A :: R) → Owns w0 w (A :: R')) : SomeKeys m w0 R' e w' := by
  obtain ⟨K, v, h1, h2, h3, h4⟩ := h
  exact ⟨K, v, h1, h2, h3, hR _ _ h4⟩
set_option maxHeartbeats 2000000 in
theorem wtoken {n : Nat} (hn : n ≤ 65535) (H : Owns w0 w R) : Calls Try.prog 20 #[.int .u16 n] w (SomeKeys 30 w0 R) := by
  have HH := Lib.hid H
  clear H
  go_enter Try.func20, Try.ntmps20
  go_wp2_with fail
  refine (wmotions HH.out).mono ?_
  rintro e w1 ⟨S1, v1, hS1, rfl, h1⟩
  obtain ⟨a1, c1, rfl⟩ := h1.src.form
  have H1 := Lib.hid h1
  clear h1 HH
  go_wp2_with fail
  refine (wchanges H1.out).mono ?_
  rintro e w2 ⟨S2, v2, hS2, rfl, h2⟩
  obtain ⟨a2, c2, rfl⟩ := h2.src.form
  have H2 := Lib.hid h2
  clear h2 H1
  go_wp2_with fail
  refine (wothers H2.out).mono ?_
  rintro e w3 ⟨S3, v3, hS3, rfl, h3⟩
  obtain ⟨a3, c3, rfl⟩ := h3.src.form
  have H3 := Lib.hid h3
  have HS1 := Lib.hid hS1
  have HS2 := Lib.hid hS2
  have HS3 := Lib.hid hS3
  clear h3 H2 hS1 hS2 hS3
  have pick : ∀ (S : List (List UInt8)) (a : Option Addr) (c : Nat), Shorts S → Asrt.src 1 (.slice a S.length c) S.length (sstrs S) ∈ Asrt.src 1 (.slice a3 S3.length c3) S3.length (sstrs S3) :: Asrt.src 1 (.slice a2 S2.length c2) S2.length (sstrs S2) :: Asrt.src 1 (.slice a1 S1.length c1) S1.length (sstrs S1) :: R →
      ∃ (m b o : Nat) (s : List UInt8), m = S.length ∧ 1 ≤ m ∧ m ≤ 200 ∧ n / 3 % m < m ∧ m ≤ c ∧ 0 ≤ (n : Int) / 3 % (m : Int) ∧ (n : Int) / 3 % (m : Int) < m ∧ a = some ⟨b, o, none⟩ ∧ w3.cell? ⟨b, o + n / 3 % m, none⟩ = some (.string (bs s)) ∧ s.length ≤ 30 := by
    intro S a c hS hm
    have hi : n / 3 % S.length < S.length := Nat.mod_lt _ hS.ge
    obtain ⟨b, o, c', e1, hc, _, hce⟩ := ((H3.out.mem hm).src).cells hS.ge (by decide)
    cases e1
    have hI : ((n : Int) / 3 % (S.length : Int)) = ((n / 3 % S.length : Nat) : Int) := by simp
    refine ⟨S.length, b, o, S[n / 3 % S.length]'hi, rfl, hS.ge, hS.le, hi, hc, by rw [hI]; omega, by rw [hI]; omega, rfl, hce _ _ ?_, hS.each _ (List.getElem_mem hi)⟩
    simp [sstrs, strs, hi]
  have Pick := Lib.hid pick
  clear pick
  rcases (show n % 3 = 0 ∨ n % 3 = 1 ∨ n % 3 = 2 by omega) with h0 | h0 | h0
  · have z0 : ((n : Int) % 3 == 0) = true := beq_iff_eq.2 (by omega)
    clear h0
    obtain ⟨m, b, o, s, hm, hm1, hm2, him, hmc, hq0, hq1, rfl, hc, hs⟩ := Pick.out S1 a1 c1 HS1.out (by simp)
    rw [← hm] at H3 ⊢
    have hmz : ((m : Int) == 0) = false := beq_eq_false_iff_ne.2 (by omega)
    clear hm Pick
    go_wp2_with fail
    refine (wkeys hs H3.out).mono ?_
    rintro e w4 ⟨K, v, hb, hl, rfl, h4⟩
    have H4 := Lib.hid h4
    have Hb := Lib.hid hb
    clear h4 hb
    go_wp2_with fail
    go_ret
    exact ⟨K, v, Hb.out, hl, rfl, (H4.out.p1.drop.p1.drop.p1.drop)⟩
  · have z0 : ((n : Int) % 3 == 0) = false := beq_eq_false_iff_ne.2 (by omega)
    have z1 : ((n : Int) % 3 == 1) = true := beq_iff_eq.2 (by omega)
    clear h0
    obtain ⟨m, b, o, s, hm, hm1, hm2, him, hmc, hq0, hq1, rfl, hc, hs⟩ := Pick.out S2 a2 c2 HS2.out (by simp)
    rw [← hm] at H3 ⊢
    have hmz : ((m : Int) == 0) = false := beq_eq_false_iff_ne.2 (by omega)
    clear hm Pick
    go_wp2_with fail
    refine (wkeys hs H3.out).mono ?_
    rintro e w4 ⟨K, v, hb, hl, rfl, h4⟩
    have H4 := Lib.hid h4
    have Hb := Lib.hid hb
    clear h4 hb
    go_wp2_with fail
    go_ret
    exact ⟨K, v, Hb.out, hl, rfl, (H4.out.p1.drop.p1.drop.p1.drop)⟩
  · have z0 : ((n : Int) % 3 == 0) = false := beq_eq_false_iff_ne.2 (by omega)
    have z1 : ((n : Int) % 3 == 1) = false := beq_eq_false_iff_ne.2 (by omega)
    clear h0
    obtain ⟨m, b, o, s, hm, hm1, hm2, him, hmc, hq0, hq1, rfl, hc, hs⟩ := Pick.out S3 a3 c3 HS3.out (by simp)
    rw [← hm] at H3 ⊢
    have hmz : ((m : Int) == 0) = false := beq_eq_false_iff_ne.2 (by omega)
    clear hm Pick
    go_wp2_with fail
    refine (wkeys hs H3.out).mono ?_
    rintro e w4 ⟨K, v, hb, hl, rfl, h4⟩
    have H4 := Lib.hid h4
    have Hb := Lib.hid hb
    clear h4 hb
    go_wp2_with fail
    go_ret
    exact ⟨K, v, Hb.out, hl, rfl, (H4.out.p1.drop.p1.drop.p1.drop)⟩
/-- One token more. -/
theorem app_keys {ov tv : Value} {K T : List Int} (H : Owns w0 w (row_byte tv T.length (kints .u8 T) :: row_byte ov K.length (kints .u8 K) :: R)) (hl : K.length + T.length ≤ 100000) :
    ∃ v' w', (∀ ty, (Builtin.append_ #[22, 22] ty #[ov, tv]).run Try.prog w = .ok v' w') ∧ Owns w0 w' (row_byte v' (K ++ T).length (kints .u8 (K ++ T)) :: R) := by
  obtain ⟨v', w', hr, h2⟩ := app_byte (x := tv) (m := T.length) (vs := kints .u8 T) H.p1 (Reads.row (e := 5) List.mem_cons_self) (kints_one .u8 T) (by unfold maxLen; omega) (by omega)
  refine ⟨v', w', hr, ?_⟩
  have h3 := h2.p1.drop
  have e : kints .u8 K ++ kints .u8 T = kints .u8 (K ++ T) := by simp [kints]
  rw [e, ← List.length_append] at h3
  exact h3
theorem app_key {ov : Value} {K : List Int} (c : Int) (H : Owns w0 w (row_byte ov K.length (kints .u8 K) :: R)) (hl : K.length ≤ 100000) :
    ∃ v' w', (∀ ty, (Builtin.append_ #[22, 22] ty #[ov, .slice (some ⟨w.heap.size, 0, none⟩) 1 1]).run Try.prog (w.alloc (.cells #[.int .u8 c] 5)) = .ok v' w') ∧ Owns w0 w' (row_byte v' (K ++ [c]).length (kints .u8 (K ++ [c])) :: R) := by
  have h1 := H.alloc #[.int .u8 c] 5
  obtain ⟨v', w', hr, h2⟩ := app_byte (x := .slice (some ⟨w.heap.size, 0, none⟩) 1 1) (m := 1) (vs := [.int .u8 c]) h1.p1 (Reads.obj (b := w.heap.size) (k := 1) (n := 1) (c := 1) (t := 5) (f := (0, 0)) (cs := #[.int .u8 c]) (by simp) (by decide) (by decide) (by simp)) (by simp [Value.oneCell']) (by unfold maxLen; omega) (by omega)
  refine ⟨v', w', hr, ?_⟩
  have h3 := h2.p1.drop
  have e : kints .u8 K ++ [Value.int .u8 c] = kints .u8 (K ++ [c]) := by simp [kints]
  rw [e] at h3
  rw [List.length_append]
  exact h3
/-- Element i of a list of numbers. -/
theorem num_at {kd : IntKind} {a : Option Addr} {n c : Nat} {l : List Int} {i : Nat} (hn : n = l.length) (hk : Reads w0 R 1 (.slice a n c) n (kints kd l)) (H : Owns w0 w R) (hi : i < n) : ∃ (b o : Nat) (x : Int), a = some ⟨b, o, none⟩ ∧ n ≤ c ∧ l[i]? = some x ∧ w.cell? ⟨b, o + i, none⟩ = some (.int kd x) := by
  obtain ⟨b, o, c', e1, hc, _, hce⟩ := (hk w H).cells (by omega) (by decide)
  cases e1
  have hil : i < l.length := by omega
  refine ⟨b, o, l[i], rfl, hc, List.getElem?_eq_getElem hil, hce i _ ?_⟩
  have := kints_get kd l hil
  rw [List.getElem?_eq_getElem hil] at this
  exact this
theorem bytesN_append {A B : List Int} (ha : bytesN A) (hb : bytesN B) : bytesN (A ++ B) := fun x hx => (List.mem_append.1 hx).elim (ha x) (hb x)
set_option maxHeartbeats 2000000 in
theorem wscript {a : Option Addr} {c n : Nat} {l : List Int} (hn : n = l.length) (hl : n ≤ 20) (hw : ∀ x ∈ l, 0 ≤ x ∧ x ≤ 65535) (H : Owns w0 w R) (hk : ∀ R', Reads w0 R' 1 (.slice a n c) n (kints .u16 l)) :
    Calls Try.prog 18 #[.slice a n c] w (SomeKeys 600 w0 R) := by
  have H1 := Lib.hid (H.rowNil 5 1)
  have Hk := Lib.hid hk
  have Hn := Lib.hid hn
  have Hw := Lib.hid hw
  clear H hk hn hw
  go_enter Try.func18, Try.ntmps18
  go_wp2_with fail
  go_loopw [3, 4] (fun ov q wr => ∃ (i : Nat) (K : List Int), i ≤ n ∧ q = .int .i64 i ∧ bytesN K ∧ K.length ≤ 30 * i ∧ Owns w0 wr (row_byte ov K.length (kints .u8 K) :: R)) (fun _ q _ => n - (intOf q).toNat)
  case atStart => exact ⟨0, [], Nat.zero_le _, rfl, (fun x hx => by cases hx), by simp, H1.out⟩
  case round =>
    obtain ⟨i, K, hi, rfl, hb, hKl, hr⟩ := hrel
    obtain ⟨oa, oc, rfl⟩ := row_slice hr.row
    have Hr := Lib.hid hr
    have Hb := Lib.hid hb
    clear hr hb H1
    by_cases hlt : i < n
    · obtain ⟨bb, o, x, rfl, hcc, hx, hcell⟩ := num_at Hn.out (Hk.out _) Hr.out hlt
      obtain ⟨hx0, hx1⟩ := Hw.out x (List.mem_of_getElem? hx)
      obtain ⟨xn, rfl⟩ : ∃ xn : Nat, x = xn := ⟨x.toNat, by omega⟩
      have hx2 : xn ≤ 65535 := by omega
      clear hx
      go_wp2_with fail
      refine (wtoken hx2 Hr.out).mono ?_
      rintro e w2 ⟨T, tv, hT, hTl, rfl, h2⟩
      obtain ⟨v', w', hrun, h3⟩ := app_keys h2 (by omega)
      have H3 := Lib.hid h3
      have HT := Lib.hid hT
      have hKT : (K ++ T).length ≤ 30 * (i + 1) := by rw [List.length_append]; omega
      clear h2 h3 hT Hr
      go_wp2_with (at_builtin; refine Lib.wpList_append_run _ rfl _ _ _ _ rfl _ _ rfl rfl _ _ (hrun _) ?_)
      go_roundw
      case rel => exact ⟨i + 1, K ++ T, by omega, by go_num, bytesN_append Hb.out HT.out, hKT, H3.out⟩
      case measure => simp [intOf]; omega
    · obtain rfl : i = n := by omega
      go_wp2_with fail
      go_ret
      exact ⟨K, _, Hb.out, by omega, rfl, Hr.out⟩
set_option maxHeartbeats 2000000 in
theorem wmix {a ra : Option Addr} {c n rc m : Nat} {l raw : List Int} (hn : n = l.length) (hl : n ≤ 20) (hw : ∀ x ∈ l, 0 ≤ x ∧ x ≤ 65535) (hm : m = raw.length) (hrl : m ≤ 60) (hrw : bytesN raw) (H : Owns w0 w R) (hk : ∀ R', Reads w0 R' 1 (.slice a n c) n (kints .u16 l)) (hkr : ∀ R', Reads w0 R' 1 (.slice ra m rc) m (kints .u8 raw)) :
    Calls Try.prog 12 #[.slice a n c, .slice ra m rc] w (SomeKeys 660 w0 R) := by
  have H1 := Lib.hid (H.rowNil 5 1)
  have Hk := Lib.hid hk
  have Hn := Lib.hid hn
  have Hw := Lib.hid hw
  have Hkr := Lib.hid hkr
  have Hm := Lib.hid hm
  have Hrw := Lib.hid hrw
  clear H hk hn hw hkr hm hrw
  go_enter Try.func12, Try.ntmps12
  go_wp2_with fail
  go_loopw [5, 6] (fun ov q wr => ∃ (i : Nat) (K : List Int), i ≤ max n m ∧ q = .int .i64 i ∧ bytesN K ∧ K.length ≤ 30 * min i n + min i m ∧ Owns w0 wr (row_byte ov K.length (kints .u8 K) :: R)) (fun _ q _ => max n m - (intOf q).toNat)
  case atStart => exact ⟨0, [], Nat.zero_le _, rfl, (fun x hx => by cases hx), by simp, H1.out⟩
  case round =>
    obtain ⟨i, K, hi, rfl, hb, hKl, hr⟩ := hrel
    obtain ⟨oa, oc, rfl⟩ := row_slice hr.row
    have Hr := Lib.hid hr
    have Hb := Lib.hid hb
    have hi60 : i ≤ 60 := by omega
    have hK2 : K.length ≤ 2000 := by omega
    have HKl := Lib.hid hKl
    have Hi := Lib.hid hi
    clear hr hb H1 hKl hi
    by_cases hlt : i < n
    · obtain ⟨bb, o, x, rfl, hcc, hx, hcell⟩ := num_at Hn.out (Hk.out _) Hr.out hlt
      obtain ⟨hx0, hx1⟩ := Hw.out x (List.mem_of_getElem? hx)
      obtain ⟨xn, rfl⟩ : ∃ xn : Nat, x = xn := ⟨x.toNat, by omega⟩
      have hx2 : xn ≤ 65535 := by omega
      clear hx
      go_wp2_with fail
      refine (wtoken hx2 Hr.out).mono ?_
      rintro e w2 ⟨T, tv, hT, hTl, rfl, h2⟩
      obtain ⟨v', w', hrun, h3⟩ := app_keys h2 (by omega)
      obtain ⟨oa2, oc2, rfl⟩ := row_slice h3.row
      have H3 := Lib.hid h3
      have HT := Lib.hid hT
      clear h2 h3 hT
      by_cases hlt2 : i < m
      · obtain ⟨rb, ro, y, rfl, hrcc, hy, hrcell⟩ := num_at Hm.out (Hkr.out _) H3.out hlt2
        obtain ⟨hy0, hy1⟩ := Hrw.out y (List.mem_of_getElem? hy)
        obtain ⟨v2, w4, hrun2, h4⟩ := app_key y H3.out (by rw [List.length_append]; omega)
        have H4 := Lib.hid h4
        have hKT : (K ++ T ++ [y]).length ≤ 30 * min (i + 1) n + min (i + 1) m := by rw [List.length_append, List.length_append]; simp only [List.length_cons, List.length_nil]; have := HKl.out; omega
        have hby : bytesN (K ++ T ++ [y]) := bytesN_append (bytesN_append Hb.out HT.out) (fun z hz => by simp at hz; subst hz; exact ⟨hy0, hy1⟩)
        have Hby := Lib.hid hby
        have HKT := Lib.hid hKT
        obtain ⟨K3, hK3⟩ : ∃ K3, K3 = K ++ T ++ [y] := ⟨_, rfl⟩
        obtain ⟨K2, hKK2⟩ : ∃ K2, K2 = K ++ T := ⟨_, rfl⟩
        rw [← hK3] at HKT Hby H4
        rw [← hKK2] at hrun hrun2 H3
        clear h4 hy hby hK3 hKK2 hKT
        go_wp2_with (at_builtin; first | refine Lib.wpList_append_run _ rfl _ _ _ _ rfl _ _ rfl rfl _ _ (hrun _) ?_ | refine Lib.wpList_append_run _ rfl _ _ _ _ rfl _ _ rfl rfl _ _ (hrun2 _) ?_)
        go_roundw
        case rel => exact ⟨i + 1, K3, by omega, by go_num, Hby.out, HKT.out, H4.out⟩
        case measure => simp [intOf]; omega
      · have hKT : (K ++ T).length ≤ 30 * min (i + 1) n + min (i + 1) m := by rw [List.length_append]; have := HKl.out; omega
        have HKT := Lib.hid hKT
        obtain ⟨K2, hKK2⟩ : ∃ K2, K2 = K ++ T := ⟨_, rfl⟩
        have hby := bytesN_append Hb.out HT.out
        have Hby := Lib.hid hby
        rw [← hKK2] at hrun H3 HKT Hby
        clear hKK2 hKT hby
        go_wp2_with (at_builtin; refine Lib.wpList_append_run _ rfl _ _ _ _ rfl _ _ rfl rfl _ _ (hrun _) ?_)
        go_roundw
        case rel => exact ⟨i + 1, K2, by omega, by go_num, Hby.out, HKT.out, H3.out⟩
        case measure => simp [intOf]; omega
    · by_cases hlt2 : i < m
      · obtain ⟨rb, ro, y, rfl, hrcc, hy, hrcell⟩ := num_at Hm.out (Hkr.out _) Hr.out hlt2
        obtain ⟨hy0, hy1⟩ := Hrw.out y (List.mem_of_getElem? hy)
        obtain ⟨v2, w4, hrun2, h4⟩ := app_key y Hr.out (by omega)
        have H4 := Lib.hid h4
        have hKT : (K ++ [y]).length ≤ 30 * min (i + 1) n + min (i + 1) m := by rw [List.length_append]; simp only [List.length_cons, List.length_nil]; have := HKl.out; omega
        have hby : bytesN (K ++ [y]) := bytesN_append Hb.out (fun z hz => by simp at hz; subst hz; exact ⟨hy0, hy1⟩)
        have Hby := Lib.hid hby
        have HKT := Lib.hid hKT
        clear h4 hy hby hKT
        go_wp2_with (at_builtin; refine Lib.wpList_append_run _ rfl _ _ _ _ rfl _ _ rfl rfl _ _ (hrun2 _) ?_)
        go_roundw
        case rel => exact ⟨i + 1, K ++ [y], by omega, by go_num, Hby.out, HKT.out, H4.out⟩
        case measure => simp [intOf]; omega
      · go_wp2_with fail
        go_ret
        exact ⟨K, _, Hb.out, by have := HKl.out; omega, rfl, Hr.out⟩
end
end Go.Proofs.Ythcamokblkjkkaa
