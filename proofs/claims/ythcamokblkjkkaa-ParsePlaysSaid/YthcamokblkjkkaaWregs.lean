/- The law ParseRegs on values that read. -/
import Derived.Test.YthcamokblkjkkaaWobj
namespace Go.Proofs.Ythcamokblkjkkaa
open Go Go.RowKit Go.Fol
attribute [local go_sem ↓] Go.wp_at_zero Go.wp_at_succ
attribute [local go_sem ↓] run_min2 run_max2
set_option linter.unusedVariables false
set_option linter.unusedSimpArgs false
/-- Keys that all leave something pending. -/
def runs (v : Bool) : PSt → List Int → Option PSt
  | s, [] => some s
  | s, c :: l => if (feedF s c v).1 = 0 then runs v (feedF s c v).2.2 l else none
theorem runs_append (v : Bool) : ∀ (a b : List Int) (s s' : PSt), runs v s a = some s' → runs v s (a ++ b) = runs v s' b
  | [], b, s, s', h => by cases h; rfl
  | c :: a, b, s, s', h => by
    rw [runs] at h
    split at h
    · rename_i h0
      rw [List.cons_append, runs, if_pos h0]
      exact runs_append v a b _ _ h
    · cases h
theorem fedL_runs (v : Bool) (c : Int) : ∀ (a : List Int) (s s' : PSt) (x : Int × Cm), runs v s a = some s' → fedL v s (a ++ [c]) x = ((feedF s' c v).1, (feedF s' c v).2.1)
  | [], s, s', x, h => by cases h; exact fedL_last v s c x
  | d :: a, s, s', x, h => by
    rw [runs] at h
    split at h
    · rename_i h0
      rw [List.cons_append]
      cases hl : a ++ [c] with
      | nil => simp at hl
      | cons e l =>
        rw [fedL_go v s d e l x h0, ← hl]
        exact fedL_runs v c a _ _ _ h
    · cases h
/-- A parser ahead of a command: what it has been told. -/
structure Ahead (v : Bool) (s : PSt) (k : List Int) (reg : Int) (n : Nat) : Prop where
  run : runs v pzero k = some s
  opn : s.opn = !k.isEmpty
  vis : k ≠ [] → s.visual = v
  st : s.state = 0
  rg : s.reg = reg
  an : s.an = n
  any : s.aany = decide (0 < n)
  bn : s.bn = 0
  bany : s.bany = false
  op : s.op = ⟨#[]⟩
  arg : s.arg = 0
  text : s.text = ⟨#[]⟩
theorem ahead_nil (v : Bool) : Ahead v pzero [] 0 0 := ⟨rfl, rfl, fun h => absurd rfl h, rfl, rfl, rfl, rfl, rfl, rfl, rfl, rfl, rfl⟩
theorem Ahead.start {v : Bool} {s : PSt} {k : List Int} {reg : Int} {n : Nat} (h : Ahead v s k reg n) :
    (fstart s v).opn = true ∧ (fstart s v).visual = v ∧ (fstart s v).state = 0 ∧ (fstart s v).reg = reg ∧ (fstart s v).an = n ∧ (fstart s v).aany = decide (0 < n) ∧ (fstart s v).bn = 0 ∧ (fstart s v).bany = false ∧ (fstart s v).op = ⟨#[]⟩ ∧ (fstart s v).arg = 0 ∧ (fstart s v).text = ⟨#[]⟩ := by
  cases k with
  | nil =>
    have hr := h.run
    cases hr
    have h1 := h.rg
    have h2 := h.an
    have h3 := h.any
    have e : fstart pzero v = { pzero with opn := true, visual := v, first := true } := rfl
    rw [e]
    exact ⟨rfl, rfl, rfl, h1, h2, h3, rfl, rfl, rfl, rfl, rfl⟩
  | cons c k =>
    have ho : s.opn = true := h.opn
    have e : fstart s v = { s with first := false } := by rw [fstart, if_pos ho]
    rw [e]
    exact ⟨ho, h.vis (by simp), h.st, h.rg, h.an, h.any, h.bn, h.bany, h.op, h.arg, h.text⟩
theorem Ahead.digit {v : Bool} {s : PSt} {k : List Int} {reg : Int} {n : Nat} (h : Ahead v s k reg n) {d : Int} (h0 : 0 ≤ d) (h9 : d ≤ 9) (hd : 0 < d ∨ 0 < n) :
    ∃ s', Ahead v s' (k ++ [48 + d]) reg (dig n (48 + d)) := by
  obtain ⟨a1, a2, a3, a4, a5, a6, a7, a8, a9, a10, a11⟩ := h.start
  have hdb : digB (fstart s v).aany (48 + d) = true := by
    rw [a6]
    simp [digB]
    omega
  have hst : stepF (fstart s v) (48 + d) = (0, { fstart s v with an := dig (fstart s v).an (48 + d), aany := true }) := by
    rw [stepF, if_neg (by omega), if_neg (by omega), if_neg (by omega), if_neg (by omega), if_neg (by omega), if_neg (by omega), if_neg (by omega), if_neg (by omega), hdb, if_pos rfl]
  have hfe : (feedF s (48 + d) v).1 = 0 ∧ (feedF s (48 + d) v).2.2 = { fstart s v with an := dig (fstart s v).an (48 + d), aany := true } := by
    unfold feedF
    rw [hst]
    exact ⟨rfl, rfl⟩
  refine ⟨{ fstart s v with an := dig (fstart s v).an (48 + d), aany := true }, ⟨?_, ?_, ?_, ?_, ?_, ?_, ?_, ?_, ?_, ?_, ?_, ?_⟩⟩
  · rw [runs_append v k _ _ _ h.run, runs, if_pos hfe.1, hfe.2, runs]
  · simp [a1]
  · exact fun _ => a2
  · exact a3
  · exact a4
  · rw [a5]
  · have : 0 < dig n (48 + d) := by unfold dig; omega
    simp [this]
  · exact a7
  · exact a8
  · exact a9
  · exact a10
  · exact a11
theorem Ahead.name {v : Bool} {s : PSt} {k : List Int} {reg : Int} {n : Nat} (h : Ahead v s k reg n) {r : Int} (hr : regB r = true) :
    ∃ s', Ahead v s' (k ++ [34, r]) r n := by
  obtain ⟨a1, a2, a3, a4, a5, a6, a7, a8, a9, a10, a11⟩ := h.start
  have hst : stepF (fstart s v) 34 = (0, { fstart s v with state := 1 }) := by
    rw [stepF, if_neg (by decide), if_neg (by omega), if_neg (by omega), if_neg (by omega), if_neg (by omega), if_neg (by omega), if_neg (by omega), if_neg (by omega), show digB (fstart s v).aany 34 = false from rfl, if_neg (by simp), if_pos rfl]
  have hfe : (feedF s 34 v).1 = 0 ∧ (feedF s 34 v).2.2 = { fstart s v with state := 1 } := by
    unfold feedF
    rw [hst]
    exact ⟨rfl, rfl⟩
  obtain ⟨s1, hs1⟩ : ∃ s1 : PSt, s1 = { fstart s v with state := 1 } := ⟨_, rfl⟩
  have e1 : fstart s1 v = { fstart s v with state := 1, first := false } := by rw [fstart, hs1, if_pos a1]
  have hr27 : ¬ r = 27 := by intro e; subst e; exact absurd hr (by decide)
  have hst2 : stepF (fstart s1 v) r = (0, { fstart s v with state := 0, first := false, reg := r }) := by
    rw [e1, stepF, if_neg hr27, if_pos rfl, nameF, hr, if_pos rfl]
  have hfe2 : (feedF s1 r v).1 = 0 ∧ (feedF s1 r v).2.2 = { fstart s v with state := 0, first := false, reg := r } := by
    unfold feedF
    rw [hst2]
    exact ⟨rfl, rfl⟩
  refine ⟨{ fstart s v with state := 0, first := false, reg := r }, ⟨?_, ?_, ?_, ?_, ?_, ?_, ?_, ?_, ?_, ?_, ?_, ?_⟩⟩
  · rw [runs_append v k _ _ _ h.run, runs, if_pos hfe.1, hfe.2, ← hs1, runs, if_pos hfe2.1, hfe2.2, runs]
  · simp [a1]
  · exact fun _ => a2
  · rfl
  · rfl
  · exact a5
  · exact a6
  · exact a7
  · exact a8
  · exact a9
  · exact a10
  · exact a11
theorem Ahead.x {v : Bool} {s : PSt} {k : List Int} {reg : Int} {n : Nat} (h : Ahead v s k reg n) (a : Int × Cm) :
    fedL v pzero (k ++ [120]) a = (1, ⟨reg, n, ⟨#[]⟩, ⟨#[120]⟩, 0, ⟨#[]⟩⟩) := by
  obtain ⟨a1, a2, a3, a4, a5, a6, a7, a8, a9, a10, a11⟩ := h.start
  have hst : stepF (fstart s v) 120 = (1, { fstart s v with name := str1 120 }) := by
    rw [stepF, if_neg (by decide), if_neg (by omega), if_neg (by omega), if_neg (by omega), if_neg (by omega), if_neg (by omega), if_neg (by omega), if_neg (by omega), show digB (fstart s v).aany 120 = false from rfl, if_neg (by simp), if_neg (by decide)]
    split
    · rfl
    · rfl
  rw [fedL_runs v 120 k pzero s a h.run]
  unfold feedF
  rw [hst]
  simp only [if_true]
  have hc : countF { fstart s v with name := str1 120 } = n := by
    simp only [countF, a5, a6, a7, a8, Bool.and_false, Bool.false_eq_true, if_false]
    split
    · rfl
    · rename_i h0
      simp at h0
      omega
  have hcm : cmOf { fstart s v with name := str1 120 } = ⟨reg, n, ⟨#[]⟩, ⟨#[120]⟩, 0, ⟨#[]⟩⟩ := by
    unfold cmOf
    rw [hc]
    simp only [a4, a9, a10, a11]
    rfl
  rw [hcm]
set_option maxHeartbeats 4000000 in
set_option maxRecDepth 100000 in
theorem parseRegs_walk (w : World) (v0 v1 v2 : Value) (a0 : Arg Try.prog w 22 v0) (a1 : Arg Try.prog w 22 v1) (a2 : Arg Try.prog w 4 v2) :
    Calls Try.prog 7 #[v0, v1, v2] w fun e w' => e = .returned (.bool true) ∧ Below w.heap.size w w' := by
  obtain ⟨ns, hns, _, hnw⟩ := arg_kind (kd := .u8) (B := 1) Try.underlying22 Try.underlying5 (by kernel_rfl) (by kernel_rfl) a0
  obtain ⟨ds, hds, _, hdw⟩ := arg_kind (kd := .u8) (B := 1) Try.underlying22 Try.underlying5 (by kernel_rfl) (by kernel_rfl) a1
  obtain ⟨visual, rfl⟩ := arg_bool Try.underlying4 a2
  obtain ⟨na, nc, rfl⟩ := hns.form
  obtain ⟨da, dc, rfl⟩ := hds.form
  obtain ⟨ln, hln⟩ : ∃ n, n = ns.length := ⟨_, rfl⟩
  obtain ⟨ld, hld⟩ : ∃ n, n = ds.length := ⟨_, rfl⟩
  have hn63 := hns.n63
  have hd63 := hds.n63
  rw [← hln] at hns hn63 ⊢
  rw [← hld] at hds hd63 ⊢
  have Hns := Lib.hid hns
  have Hds := Lib.hid hds
  have Hnw := Lib.hid hnw
  have Hdw := Lib.hid hdw
  have Hln := Lib.hid hln
  have Hld := Lib.hid hld
  clear a0 a1 a2 hns hds hnw hdw hln hld
  go_enter Try.func7, Try.ntmps7
  go_wp2_with fail
  refine (known_true (Owns.start w)).mono ?_
  rintro e w1 ⟨rfl, h1⟩
  have H1 := Lib.hid h1
  clear h1
  by_cases hb1 : 5 < ln
  · have hb1' : (5 : Int) < (ln : Int) := by omega
    go_wp2_with fail
    go_ret
    exact ⟨rfl, H1.out.below⟩
  by_cases hb2 : 5 < ld
  · have hb1' : ¬ ((5 : Int) < (ln : Int)) := by omega
    have hb2' : (5 : Int) < (ld : Int) := by omega
    go_wp2_with fail
    go_ret
    exact ⟨rfl, H1.out.below⟩
  have hb1' : ¬ ((5 : Int) < (ln : Int)) := by omega
  have hb2' : ¬ ((5 : Int) < (ld : Int)) := by omega
  go_wp2_with fail
  go_loopg [7, 8, 9, 10] 5 (fun gk kv nv rv q wr => ∃ (i n : Nat) (reg : Int) (kl : List Int) (s : PSt), gk + i = 5 ∧ q = .int .i64 i ∧ nv = .int .i64 n ∧ rv = .int .u8 reg ∧ n ≤ 9999 ∧ kl.length ≤ 3 * i ∧ bytesB kl ∧ Ahead visual s kl reg n ∧ Owns w wr [row_byte kv kl.length (kints .u8 kl)])
  case atStart => exact ⟨0, 0, 0, [], pzero, rfl, rfl, rfl, rfl, by decide, by simp, by intro x hx; simp at hx, ahead_nil _, H1.out.rowNil 5 1⟩
  case round =>
    obtain ⟨i, n, reg, kl, s, hgi, rfl, rfl, rfl, hn9, hkl, hkb, hah, h2⟩ := hrel
    have H2 := Lib.hid h2
    obtain ⟨ra, rc, rfl⟩ := row_slice h2.row
    have Hkb := Lib.hid hkb
    have Hah := Lib.hid hah
    have hi5 : i ≤ 5 := by omega
    clear h2 hkb hah
    by_cases hN : i < ln
    · have hltn : (i : Int) < (ln : Int) := by omega
      go_upto_if 38 with (fail)
      go_cut [7, 9] (fun kv1 rv1 wx => ∃ (kl1 : List Int) (reg1 : Int) (s1 : PSt) (ra1 : Option Addr) (rc1 : Nat), kv1 = .slice ra1 kl1.length rc1 ∧ rv1 = .int .u8 reg1 ∧ kl1.length ≤ 3 * i + 2 ∧ bytesB kl1 ∧ Ahead visual s1 kl1 reg1 n ∧ Owns w wx [row_byte (.slice ra1 kl1.length rc1) kl1.length (kints .u8 kl1)])
      case first =>
        obtain ⟨c, hc⟩ : ∃ c, ns[i]? = some c := ⟨_, List.getElem?_eq_getElem (by have := Hln.out; omega)⟩
        have hcw := wf_u8 (Hnw.out c (List.mem_of_getElem? hc))
        have hcw0 : 0 ≤ c := hcw.1
        obtain ⟨nb, no, nc', e1, hnc, _, hne⟩ := Hns.out.cells (by omega) (by decide)
        cases e1
        have kn : wr.cell? ⟨nb, no + i, none⟩ = some (.int .u8 c) := H2.out.chg.cell (hne i _ (by simp [kints, hc])) (by simp)
        have hr0 : 97 ≤ 97 + c % 26 := by omega
        have hr1 : 97 + c % 26 ≤ 122 := by omega
        have hrb : regB (97 + c % 26) = true := by simp only [regB, decide_eq_true hr0, decide_eq_true hr1, Bool.and_self, Bool.true_or]
        obtain ⟨s1, hs1⟩ := Hah.out.name hrb
        have h3 := (H2.out.alloc #[.int .u8 34, .int .u8 (97 + c % 26)] 5).p1
        obtain ⟨kv1, w3, hrun, h4⟩ := app_byte (x := .slice (some ⟨wr.heap.size, 0, none⟩) 2 2) (m := 2) (vs := [.int .u8 34, .int .u8 (97 + c % 26)]) h3 (Reads.obj (b := wr.heap.size) (k := 1) (n := 2) (t := 5) (f := (0, 0)) (cs := #[.int .u8 34, .int .u8 (97 + c % 26)]) (by simp) (by decide) (by decide) (by simp)) (by simp [Value.oneCell']) (by unfold maxLen; omega) (by omega)
        have h5 : Owns w w3 [row_byte kv1 (kl ++ [34, 97 + c % 26]).length (kints .u8 (kl ++ [34, 97 + c % 26]))] := by
          rw [kints_append, List.length_append]
          exact h4.p1.drop
        obtain ⟨ra1, rc1, rfl⟩ := row_slice h5.row
        have hkb1 : bytesB (kl ++ [34, 97 + c % 26]) := by
          intro x hx
          rcases List.mem_append.1 hx with h | h
          · exact Hkb.out x h
          · simp at h; rcases h with rfl | rfl <;> omega
        have hkl1 : (kl ++ [34, 97 + c % 26]).length ≤ 3 * i + 2 := by simp; omega
        have Hkb1 := Lib.hid hkb1
        have Hah1 := Lib.hid hs1
        have H5 := Lib.hid h5
        have hlt : (i : Int) < (ln : Int) := by omega
        clear hc hcw hne hrb hs1 h3 h4 h5 hkb1
        obtain ⟨kl1, hkl1e⟩ : ∃ k, k = kl ++ [34, 97 + c % 26] := ⟨_, rfl⟩
        rw [← hkl1e] at hrun H5 Hah1 Hkb1 hkl1
        have He1 := Lib.hid hkl1e
        clear hkl1e
        go_wp2_with (at_builtin; refine Lib.wpList_append_run _ rfl _ _ _ _ rfl _ _ rfl rfl _ _ (hrun _) ?_)
        go_meet
        exact ⟨kl1, 97 + c % 26, s1, ra1, rc1, by rw [He1.out], rfl, hkl1, Hkb1.out, Hah1.out, by have := H5.out; rw [He1.out] at this ⊢; exact this⟩
      case rest =>
      obtain ⟨kl1, reg1, s1, ra1, rc1, rfl, rfl, hkl1, hkb1, hah1, h5⟩ := hcut
      have Hkb1 := Lib.hid hkb1
      have Hah1 := Lib.hid hah1
      have H5 := Lib.hid h5
      clear hkb1 hah1 h5 H2 Hkb Hah
      by_cases hD : i < ld
      · obtain ⟨d, hd⟩ : ∃ d, ds[i]? = some d := ⟨_, List.getElem?_eq_getElem (by have := Hld.out; omega)⟩
        have hdw := wf_u8 (Hdw.out d (List.mem_of_getElem? hd))
        have hdw0 : 0 ≤ d := hdw.1
        obtain ⟨db, dd, dc', e2, hdc, _, hde⟩ := Hds.out.cells (by omega) (by decide)
        cases e2
        have kd0 := hde i (.int .u8 d) (by simp [kints, hd])
        have kd : wc.cell? ⟨db, dd + i, none⟩ = some (.int .u8 d) := H5.out.chg.cell kd0 (by simp)
        have Kd0 := Lib.hid kd0
        have hlt2 : (i : Int) < (ld : Int) := by omega
        clear hd hdw hde kd0
        by_cases hx : 0 < d % 10
        · have hxd : decide (0 < d % 10) = true := by simpa using hx
          obtain ⟨s2, hs2⟩ := Hah1.out.digit (d := d % 10) (by omega) (by omega) (by omega)
          have h6 := (H5.out.alloc #[.int .u8 (48 + d % 10)] 5).p1
          obtain ⟨kv2, w4, hrun, h7⟩ := app_byte (x := .slice (some ⟨wc.heap.size, 0, none⟩) 1 1) (m := 1) (vs := [.int .u8 (48 + d % 10)]) h6 (Reads.obj (b := wc.heap.size) (k := 1) (n := 1) (t := 5) (f := (0, 0)) (cs := #[.int .u8 (48 + d % 10)]) (by simp) (by decide) (by decide) (by simp)) (by simp [Value.oneCell']) (by unfold maxLen; omega) (by omega)
          have h8 : Owns w w4 [row_byte kv2 (kl1 ++ [48 + d % 10]).length (kints .u8 (kl1 ++ [48 + d % 10]))] := by
            rw [kints_append, List.length_append]
            exact h7.p1.drop
          have kd2 : w4.cell? ⟨db, dd + i, none⟩ = some (.int .u8 d) := h8.chg.cell Kd0.out (by simp)
          have hkb2 : bytesB (kl1 ++ [48 + d % 10]) := by
            intro y hy
            rcases List.mem_append.1 hy with h | h
            · exact Hkb1.out y h
            · simp at h; subst h; omega
          have hdg : min (10 * (n : Int) + d % 10) 9999 = ((dig n (48 + d % 10) : Nat) : Int) := by unfold dig; omega
          have Hdg := Lib.hid hdg
          have hdg9 := dig_le n (48 + d % 10)
          have hkl2 : (kl1 ++ [48 + d % 10]).length ≤ 3 * (i + 1) := by simp; omega
          have Hkl2 := Lib.hid hkl2
          have Hkb2 := Lib.hid hkb2
          have Hah2 := Lib.hid hs2
          have H8 := Lib.hid h8
          have hx0 : 0 ≤ d % 10 := by omega
          have hx9 : d % 10 ≤ 9 := by omega
          clear h6 h7 h8 hs2 hkb2 hkl2
          go_wp2_with (at_builtin; refine Lib.wpList_append_run _ rfl _ _ _ _ rfl _ _ rfl rfl _ _ (hrun _) ?_)
          go_roundg (gk - 1)
          case measure => omega
          case rel => exact ⟨i + 1, dig n (48 + d % 10), reg1, kl1 ++ [48 + d % 10], s2, by omega, by go_num, by rw [← Hdg.out], rfl, hdg9, Hkl2.out, Hkb2.out, Hah2.out, H8.out⟩
        · have hxd : decide (0 < d % 10) = false := by simpa using hx
          by_cases hn0 : 0 < n
          · have hn0' : (0 : Int) < (n : Int) := by omega
            obtain ⟨s2, hs2⟩ := Hah1.out.digit (d := d % 10) (by omega) (by omega) (by omega)
            have h6 := (H5.out.alloc #[.int .u8 (48 + d % 10)] 5).p1
            obtain ⟨kv2, w4, hrun, h7⟩ := app_byte (x := .slice (some ⟨wc.heap.size, 0, none⟩) 1 1) (m := 1) (vs := [.int .u8 (48 + d % 10)]) h6 (Reads.obj (b := wc.heap.size) (k := 1) (n := 1) (t := 5) (f := (0, 0)) (cs := #[.int .u8 (48 + d % 10)]) (by simp) (by decide) (by decide) (by simp)) (by simp [Value.oneCell']) (by unfold maxLen; omega) (by omega)
            have h8 : Owns w w4 [row_byte kv2 (kl1 ++ [48 + d % 10]).length (kints .u8 (kl1 ++ [48 + d % 10]))] := by
              rw [kints_append, List.length_append]
              exact h7.p1.drop
            have kd2 : w4.cell? ⟨db, dd + i, none⟩ = some (.int .u8 d) := h8.chg.cell Kd0.out (by simp)
            have hkb2 : bytesB (kl1 ++ [48 + d % 10]) := by
              intro y hy
              rcases List.mem_append.1 hy with h | h
              · exact Hkb1.out y h
              · simp at h; subst h; omega
            have hdg : min (10 * (n : Int) + d % 10) 9999 = ((dig n (48 + d % 10) : Nat) : Int) := by unfold dig; omega
            have Hdg := Lib.hid hdg
            have hdg9 := dig_le n (48 + d % 10)
            have hkl2 : (kl1 ++ [48 + d % 10]).length ≤ 3 * (i + 1) := by simp; omega
            have Hkl2 := Lib.hid hkl2
            have Hkb2 := Lib.hid hkb2
            have Hah2 := Lib.hid hs2
            have H8 := Lib.hid h8
            have hx0 : 0 ≤ d % 10 := by omega
            have hx9 : d % 10 ≤ 9 := by omega
            clear h6 h7 h8 hs2 hkb2 hkl2
            go_wp2_with (at_builtin; refine Lib.wpList_append_run _ rfl _ _ _ _ rfl _ _ rfl rfl _ _ (hrun _) ?_)
            go_roundg (gk - 1)
            case measure => omega
            case rel => exact ⟨i + 1, dig n (48 + d % 10), reg1, kl1 ++ [48 + d % 10], s2, by omega, by go_num, by rw [← Hdg.out], rfl, hdg9, Hkl2.out, Hkb2.out, Hah2.out, H8.out⟩
          · have hn0' : ¬ ((0 : Int) < (n : Int)) := by omega
            go_wp2_with fail
            go_roundg (gk - 1)
            case measure => omega
            case rel => exact ⟨i + 1, n, reg1, kl1, s1, by omega, by go_num, rfl, rfl, hn9, by omega, Hkb1.out, Hah1.out, H5.out⟩
      · have hlt2 : ¬ ((i : Int) < (ld : Int)) := by omega
        go_wp2_with fail
        go_roundg (gk - 1)
        case measure => omega
        case rel => exact ⟨i + 1, n, reg1, kl1, s1, by omega, by go_num, rfl, rfl, hn9, by omega, Hkb1.out, Hah1.out, H5.out⟩
    · by_cases hD : i < ld
      · have hltn : ¬ ((i : Int) < (ln : Int)) := by omega
        have hltd : (i : Int) < (ld : Int) := by omega
        go_upto_if 38 with (fail)
        go_cut [7, 9] (fun kv1 rv1 wx => ∃ (kl1 : List Int) (reg1 : Int) (s1 : PSt) (ra1 : Option Addr) (rc1 : Nat), kv1 = .slice ra1 kl1.length rc1 ∧ rv1 = .int .u8 reg1 ∧ kl1.length ≤ 3 * i + 2 ∧ bytesB kl1 ∧ Ahead visual s1 kl1 reg1 n ∧ Owns w wx [row_byte (.slice ra1 kl1.length rc1) kl1.length (kints .u8 kl1)])
        case first =>
          go_wp2_with fail
          go_meet
          exact ⟨kl, reg, s, ra, rc, rfl, rfl, by omega, Hkb.out, Hah.out, H2.out⟩
        case rest =>
        obtain ⟨kl1, reg1, s1, ra1, rc1, rfl, rfl, hkl1, hkb1, hah1, h5⟩ := hcut
        have Hkb1 := Lib.hid hkb1
        have Hah1 := Lib.hid hah1
        have H5 := Lib.hid h5
        clear hkb1 hah1 h5 H2 Hkb Hah
        obtain ⟨d, hd⟩ : ∃ d, ds[i]? = some d := ⟨_, List.getElem?_eq_getElem (by have := Hld.out; omega)⟩
        have hdw := wf_u8 (Hdw.out d (List.mem_of_getElem? hd))
        have hdw0 : 0 ≤ d := hdw.1
        obtain ⟨db, dd, dc', e2, hdc, _, hde⟩ := Hds.out.cells (by omega) (by decide)
        cases e2
        have kd0 := hde i (.int .u8 d) (by simp [kints, hd])
        have kd : wc.cell? ⟨db, dd + i, none⟩ = some (.int .u8 d) := H5.out.chg.cell kd0 (by simp)
        have Kd0 := Lib.hid kd0
        have hlt2 : (i : Int) < (ld : Int) := by omega
        clear hd hdw hde kd0
        by_cases hx : 0 < d % 10
        · have hxd : decide (0 < d % 10) = true := by simpa using hx
          obtain ⟨s2, hs2⟩ := Hah1.out.digit (d := d % 10) (by omega) (by omega) (by omega)
          have h6 := (H5.out.alloc #[.int .u8 (48 + d % 10)] 5).p1
          obtain ⟨kv2, w4, hrun, h7⟩ := app_byte (x := .slice (some ⟨wc.heap.size, 0, none⟩) 1 1) (m := 1) (vs := [.int .u8 (48 + d % 10)]) h6 (Reads.obj (b := wc.heap.size) (k := 1) (n := 1) (t := 5) (f := (0, 0)) (cs := #[.int .u8 (48 + d % 10)]) (by simp) (by decide) (by decide) (by simp)) (by simp [Value.oneCell']) (by unfold maxLen; omega) (by omega)
          have h8 : Owns w w4 [row_byte kv2 (kl1 ++ [48 + d % 10]).length (kints .u8 (kl1 ++ [48 + d % 10]))] := by
            rw [kints_append, List.length_append]
            exact h7.p1.drop
          have kd2 : w4.cell? ⟨db, dd + i, none⟩ = some (.int .u8 d) := h8.chg.cell Kd0.out (by simp)
          have hkb2 : bytesB (kl1 ++ [48 + d % 10]) := by
            intro y hy
            rcases List.mem_append.1 hy with h | h
            · exact Hkb1.out y h
            · simp at h; subst h; omega
          have hdg : min (10 * (n : Int) + d % 10) 9999 = ((dig n (48 + d % 10) : Nat) : Int) := by unfold dig; omega
          have Hdg := Lib.hid hdg
          have hdg9 := dig_le n (48 + d % 10)
          have hkl2 : (kl1 ++ [48 + d % 10]).length ≤ 3 * (i + 1) := by simp; omega
          have Hkl2 := Lib.hid hkl2
          have Hkb2 := Lib.hid hkb2
          have Hah2 := Lib.hid hs2
          have H8 := Lib.hid h8
          have hx0 : 0 ≤ d % 10 := by omega
          have hx9 : d % 10 ≤ 9 := by omega
          clear h6 h7 h8 hs2 hkb2 hkl2
          go_wp2_with (at_builtin; refine Lib.wpList_append_run _ rfl _ _ _ _ rfl _ _ rfl rfl _ _ (hrun _) ?_)
          go_roundg (gk - 1)
          case measure => omega
          case rel => exact ⟨i + 1, dig n (48 + d % 10), reg1, kl1 ++ [48 + d % 10], s2, by omega, by go_num, by rw [← Hdg.out], rfl, hdg9, Hkl2.out, Hkb2.out, Hah2.out, H8.out⟩
        · have hxd : decide (0 < d % 10) = false := by simpa using hx
          by_cases hn0 : 0 < n
          · have hn0' : (0 : Int) < (n : Int) := by omega
            obtain ⟨s2, hs2⟩ := Hah1.out.digit (d := d % 10) (by omega) (by omega) (by omega)
            have h6 := (H5.out.alloc #[.int .u8 (48 + d % 10)] 5).p1
            obtain ⟨kv2, w4, hrun, h7⟩ := app_byte (x := .slice (some ⟨wc.heap.size, 0, none⟩) 1 1) (m := 1) (vs := [.int .u8 (48 + d % 10)]) h6 (Reads.obj (b := wc.heap.size) (k := 1) (n := 1) (t := 5) (f := (0, 0)) (cs := #[.int .u8 (48 + d % 10)]) (by simp) (by decide) (by decide) (by simp)) (by simp [Value.oneCell']) (by unfold maxLen; omega) (by omega)
            have h8 : Owns w w4 [row_byte kv2 (kl1 ++ [48 + d % 10]).length (kints .u8 (kl1 ++ [48 + d % 10]))] := by
              rw [kints_append, List.length_append]
              exact h7.p1.drop
            have kd2 : w4.cell? ⟨db, dd + i, none⟩ = some (.int .u8 d) := h8.chg.cell Kd0.out (by simp)
            have hkb2 : bytesB (kl1 ++ [48 + d % 10]) := by
              intro y hy
              rcases List.mem_append.1 hy with h | h
              · exact Hkb1.out y h
              · simp at h; subst h; omega
            have hdg : min (10 * (n : Int) + d % 10) 9999 = ((dig n (48 + d % 10) : Nat) : Int) := by unfold dig; omega
            have Hdg := Lib.hid hdg
            have hdg9 := dig_le n (48 + d % 10)
            have hkl2 : (kl1 ++ [48 + d % 10]).length ≤ 3 * (i + 1) := by simp; omega
            have Hkl2 := Lib.hid hkl2
            have Hkb2 := Lib.hid hkb2
            have Hah2 := Lib.hid hs2
            have H8 := Lib.hid h8
            have hx0 : 0 ≤ d % 10 := by omega
            have hx9 : d % 10 ≤ 9 := by omega
            clear h6 h7 h8 hs2 hkb2 hkl2
            go_wp2_with (at_builtin; refine Lib.wpList_append_run _ rfl _ _ _ _ rfl _ _ rfl rfl _ _ (hrun _) ?_)
            go_roundg (gk - 1)
            case measure => omega
            case rel => exact ⟨i + 1, dig n (48 + d % 10), reg1, kl1 ++ [48 + d % 10], s2, by omega, by go_num, by rw [← Hdg.out], rfl, hdg9, Hkl2.out, Hkb2.out, Hah2.out, H8.out⟩
          · have hn0' : ¬ ((0 : Int) < (n : Int)) := by omega
            go_wp2_with fail
            go_roundg (gk - 1)
            case measure => omega
            case rel => exact ⟨i + 1, n, reg1, kl1, s1, by omega, by go_num, rfl, rfl, hn9, by omega, Hkb1.out, Hah1.out, H5.out⟩
      · have hlt : ¬ ((i : Int) < (ln : Int)) := by omega
        have hlt2 : ¬ ((i : Int) < (ld : Int)) := by omega
        have hkb : bytesB (kl ++ [120]) := by
          intro x hx
          rcases List.mem_append.1 hx with h | h
          · exact Hkb.out x h
          · simp at h; subst h; omega
        have h3 := (H2.out.alloc #[.int .u8 120] 5).p1
        obtain ⟨kv2, w4, hrun, h7⟩ := app_byte (x := .slice (some ⟨wr.heap.size, 0, none⟩) 1 1) (m := 1) (vs := [.int .u8 120]) h3 (Reads.obj (b := wr.heap.size) (k := 1) (n := 1) (t := 5) (f := (0, 0)) (cs := #[.int .u8 120]) (by simp) (by decide) (by decide) (by simp)) (by simp [Value.oneCell']) (by unfold maxLen; omega) (by omega)
        have h8 : Owns w w4 [row_byte kv2 (kl ++ [120]).length (kints .u8 (kl ++ [120]))] := by
          rw [kints_append, List.length_append]
          exact h7.p1.drop
        have hfed := pfed (k := kv2) visual hkb (by simp; omega) h8 (Reads.row (e := 5) (by simp)) (Hah.out.x _)
        have HF := Lib.hid hfed
        clear h3 h7 h8 hkb hfed
        go_wp2_with (at_builtin; refine Lib.wpList_append_run _ rfl _ _ _ _ rfl _ _ rfl rfl _ _ (hrun _) ?_)
        refine HF.out.mono ?_
        rintro e w5 ⟨rfl, h9⟩
        have heq : ∀ w, (Op.equalIn 10000 33 (.agg #[.int .u8 reg, .int .i64 n, .string ⟨#[]⟩, .string ⟨#[120]⟩, .int .u8 0, .string ⟨#[]⟩]) (.agg #[.int .u8 reg, .int .i64 n, .string ⟨#[]⟩, .string ⟨#[120]⟩, .int .u8 0, .string ⟨#[]⟩])).run Try.prog w = .ok true w := fun w => eqin_cmd ⟨reg, n, ⟨#[]⟩, ⟨#[120]⟩, 0, ⟨#[]⟩⟩ w
        have H9 := Lib.hid h9
        clear h9 HF
        go_wp2_with fail
        go_ret
        exact ⟨rfl, (H9.out.alloc0 _).below⟩
end Go.Proofs.Ythcamokblkjkkaa
