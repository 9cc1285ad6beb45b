/- The law JumpsBack on values that read. -/
import Derived.Test.YtaekfmbfejgldaaWmany
import Derived.Maps.OwnSet
namespace Go.Proofs.Ytaekfmbfejgldaa
open Go Go.RowKit Go.Fol
attribute [local go_sem] Oper.semAt_some
set_option linter.unusedVariables false
set_option linter.unusedSimpArgs false

/-- A map's block. -/
def mapOf (b n : Nat) (D : DataW Unit) : Asrt where
  on F w := F = [b] ∧ w.ownsMap Try.prog 3 (plainElem Try.prog 4) b n D
  keep := by
    rintro F w w' ⟨rfl, es, clock, h, r⟩ g
    exact ⟨rfl, es, clock, (g b (by simp)).trans h, r⟩
  lt := by
    rintro F w ⟨rfl, es, clock, h, r⟩ c hc
    simp at hc
    subst hc
    exact heap_lt h
theorem keyed_int : Maps.Keyed Try.prog 3 := Maps.int_keyed Try.underlying3
/-- The map's keys are the lines of L. -/
structure Seen (D : DataW Unit) (L : List (Int × Int)) : Prop where
  tidy : Maps.Tidy D
  has : ∀ x : Int, Maps.has D (.int .i64 x) = decide (x ∈ linesOf L)
  size : Maps.size D = L.length
  nodup : (linesOf L).Nodup
theorem seen_nil : Seen (.map []) [] := ⟨Maps.tidy_empty, fun x => by simp [linesOf]; rfl, rfl, by simp [linesOf]⟩
theorem push_small {L : List (Int × Int)} (h : L.length ≤ 15) (x c : Int) : pushL L (x, c) = L.filter (fun z => z.1 != x) ++ [(x, c)] := by
  have := List.length_filter_le (fun z : Int × Int => z.1 != x) L
  rw [pushL, List.length_append, List.length_singleton, show (L.filter (fun z => z.1 != x)).length + 1 - 16 = 0 by omega, List.drop_zero]
theorem Seen.put {D : DataW Unit} {L : List (Int × Int)} (h : Seen D L) (hl : L.length ≤ 15) (x c : Int) (u : DataW Unit) : Seen (D.put (.int .i64 x) u) (pushL L (x, c)) := by
  have hlines : linesOf (pushL L (x, c)) = (linesOf L).filter (fun y => y != x) ++ [x] := by
    rw [push_small hl]
    simp [linesOf, List.filter_map, Function.comp_def]
  refine ⟨h.tidy.put (show WideAt.IsKeyLit (.int .i64 x) from trivial) u, fun y => ?_, ?_, ?_⟩
  · by_cases e : y = x
    · subst e
      rw [Maps.has_put_same h.tidy.isMap (show WideAt.IsKeyLit (.int .i64 y) from trivial), hlines]
      simp
    · rw [Maps.has_put_other (by simpa using e), h.has, hlines]
      simp [e]
  · rw [Maps.size_put h.tidy, h.has, h.size]
    have hll : (pushL L (x, c)).length = (linesOf (pushL L (x, c))).length := by simp [linesOf]
    rw [hll, hlines, List.length_append, List.length_singleton]
    have hLl : L.length = (linesOf L).length := by simp [linesOf]
    by_cases hm : x ∈ linesOf L
    · rw [decide_eq_true hm, if_pos rfl, hLl]
      have h2 := (List.Nodup.erase_eq_filter h.nodup x)
      rw [← h2, List.length_erase_of_mem hm]
      have := List.length_pos_of_mem hm
      omega
    · rw [decide_eq_false hm, if_neg (by simp), hLl]
      congr 1
      rw [List.filter_eq_self.2]
      intro a ha
      simp only [bne_iff_ne, ne_eq]
      exact fun e => hm (e ▸ ha)
  · rw [hlines, List.nodup_append]
    refine ⟨h.nodup.filter _, by simp, ?_⟩
    intro a ha b hb e
    simp at hb
    subst hb
    subst e
    simp at ha
theorem push_new {L : List (Int × Int)} (h : L.length ≤ 15) {x c : Int} (hx : x ∉ linesOf L) : pushL L (x, c) = L ++ [(x, c)] := by
  rw [push_small h, List.filter_eq_self.2]
  intro a ha
  simp only [bne_iff_ne, ne_eq]
  exact fun e => hx (e ▸ List.mem_map.2 ⟨a, ha, rfl⟩)

set_option maxHeartbeats 4000000 in
set_option maxRecDepth 100000 in
theorem jumpsBack_walk (w : World) (v0 v1 v2 : Value) (a0 : Arg Try.prog w 22 v0) (a1 : Arg Try.prog w 5 v1) (a2 : Arg Try.prog w 5 v2) :
    Calls Try.prog 3 #[v0, v1, v2] w fun e w' => e = .returned (.bool true) ∧ Below w.heap.size w w' := by
  obtain ⟨l, hl, hlb, hwf⟩ := arg_kind (kd := .u8) (B := 1) Try.underlying22 Try.underlying5 (by kernel_rfl) (by kernel_rfl) a0
  obtain ⟨ta, rfl, hta⟩ := arg_int Try.underlying5 a1
  obtain ⟨tn, rfl, htn⟩ := arg_int Try.underlying5 a2
  have hta := wf_u8 hta
  have htn := wf_u8 htn
  obtain ⟨n, hn⟩ : ∃ n, n = l.length := ⟨_, rfl⟩
  rw [← hn] at hl hlb
  obtain ⟨la, lc, rfl⟩ := hl.form
  have hl63 := hl.n63
  have Hl := Lib.hid hl
  have Hn := Lib.hid hn
  have Hwf := Lib.hid hwf
  have hmm := @run_makeMap Try.prog
  clear a0 hl hn hwf
  go_enter Try.func3, Try.ntmps3
  go_wp2_with fail
  refine (known_true (Owns.start w)).mono ?_
  rintro e w1 ⟨rfl, h1⟩
  have H1 := Lib.hid h1
  clear h1
  go_wp2_with fail
  all_goals first | (go_ret; exact ⟨rfl, H1.out.below⟩) | skip
  refine (jnew H1.out).mono ?_
  rintro e w2 ⟨j, rfl, h2⟩
  have h3 : Owns w (w2.alloc (.map #[] 0)) [mapOf w2.heap.size 0 (.map []), Asrt.jumps j [] 0] := h2.new ((Chg.refl [] w2).alloc _) ⟨_, ⟨rfl, World.ownsMap_made _ _ _ _⟩, by simp⟩
  obtain ⟨B, hB⟩ : ∃ B, B = w2.heap.size := ⟨_, rfl⟩
  rw [← hB] at h3
  have H2 := Lib.hid h3
  have HB := Lib.hid hB
  clear h2 h3 H1 hB
  go_wp2_with fail
  rw [← HB.out]
  go_loopg [9] n (fun gk q wr => ∃ (i : Nat) (L : List (Int × Int)) (D : DataW Unit), gk + i = n ∧ q = .int .i64 i ∧ L.length ≤ i ∧ Seen D L ∧ (∀ x ∈ linesOf L, x ≤ 255) ∧ Owns w wr [mapOf B i D, Asrt.jumps j L L.length])
  case atStart => exact ⟨0, [], _, rfl, rfl, by decide, seen_nil, by simp [linesOf], H2.out⟩
  case round =>
    obtain ⟨i, L, D, hgi, rfl, hL, hs, h255, h3⟩ := hrel
    have H3 := Lib.hid h3
    have Hs := Lib.hid hs
    have H255 := Lib.hid h255
    clear h3 hs h255
    by_cases hlt : i < n
    · obtain ⟨lb, lo, lc', e1, hlc, _, hce⟩ := Hl.out.cells (by omega) (by decide)
      cases e1
      have hx := kints_get .u8 l (i := i) (by have := Hn.out; omega)
      obtain ⟨x, hxe⟩ : ∃ x, x = l[i]?.getD 0 := ⟨_, rfl⟩
      rw [← hxe] at hx
      have cx0 := hce i _ hx
      have hxr : 0 ≤ x ∧ x ≤ 255 := by
        have h := Hwf.out x (by
          rw [hxe]
          have hi : i < l.length := by have := Hn.out; omega
          rw [List.getElem?_eq_getElem hi]
          exact List.getElem_mem hi)
        exact wf_u8 h
      have hx1 : 0 ≤ x := hxr.1
      have hx2 : x ≤ 255 := hxr.2
      have cx : wr.cell? ⟨lb, lo + i, none⟩ = some (.int .u8 x) := H3.out.chg.cell cx0 (by simp)
      have Cx := Lib.hid cx0
      have hi12 : i ≤ 12 := by omega
      clear hx hce hxe hxr cx0
      go_wp2_with fail
      refine (jpush x i H3.out.p1 (Nat.le_refl _) (by omega)).mono ?_
      rintro e w4 ⟨rfl, h4⟩
      have H4 := Lib.hid h4.p1
      have cx : w4.cell? ⟨lb, lo + i, none⟩ = some (.int .u8 x) := h4.chg.cell Cx.out (by simp)
      have hown : w4.ownsMap Try.prog 3 (plainElem Try.prog 4) B i D := by
        obtain ⟨F, ⟨_, h⟩, _⟩ := h4.p1.head
        exact h
      clear h4 H3
      go_wp2_with (at_mapUpdate; refine wpList_mapUpdate_own _ rfl _ _ _ 26 rfl 3 4 keyed_int Try.underlying26 (plainElem Try.prog 4) B i D rfl hown (by unfold maxLen; omega) (.int .i64 x) (.bool true) (.int .i64 x) rfl rfl (Maps.keyOf_int_mk Try.underlying3 (WalkArith.wf_i64 (by omega))) (.lit (.bool true)) [] (plainElem_bool Try.underlying4 true) ?_; intro w5 hown5 hgrow5)
      have h5 : Owns w w5 [mapOf B (i + 1) (D.put (.int .i64 x) (.lit (.bool true))), Asrt.jumps j (pushL L (x, (i : Int))) (pushL L (x, (i : Int))).length] := by
        refine H4.out.step1 (fun F ⟨e1, _⟩ _ => ?_)
        subst e1
        exact ⟨(Chg.refl _ w4).grown hgrow5 (fun k hk _ => by simp at hk; simp [hk]), _, ⟨rfl, hown5⟩, fun b hb => .inl hb⟩
      have H5 := Lib.hid h5
      clear hown hown5 hgrow5 h5
      go_wp2_with fail
      go_roundg (gk - 1)
      case measure => omega
      case rel =>
        refine ⟨i + 1, pushL L (x, (i : Int)), D.put (.int .i64 x) (.lit (.bool true)), by omega, by go_num, ?_, Hs.out.put (by omega) x i _, ?_, H5.out⟩
        · rw [push_lines]
          have h1 := List.length_filter_le (fun y => y != x) (linesOf L)
          have h2 : (linesOf L).length = L.length := by simp [linesOf]
          omega
        · intro y hy
          rw [push_small (by omega)] at hy
          simp [linesOf] at hy
          rcases hy with ⟨⟨c, hc⟩, _⟩ | rfl
          · exact H255.out y (List.mem_map.2 ⟨_, hc, rfl⟩)
          · exact hx2
    · obtain rfl : i = n := by omega
      have hown : wr.ownsMap Try.prog 3 (plainElem Try.prog 4) B i D := by
        obtain ⟨F, ⟨_, h⟩, _⟩ := H3.out.head
        exact h
      have hk0 : 0 ≤ tn % 14 := by omega
      have hk1 : tn % 14 ≤ 13 := by omega
      have hnew : (1000 + ta) ∉ linesOf L := fun h => by have := H255.out _ h; omega
      have hsz : Maps.size D = L.length := Hs.out.size
      have hL' := push_new (L := L) (c := 3) (by omega) hnew
      by_cases hin : tn % 14 + 1 ≤ L.length
      · obtain ⟨b, hb⟩ : ∃ b : Nat, (L.length : Int) - (tn % 14 + 1) = b := ⟨((L.length : Int) - (tn % 14 + 1)).toNat, by omega⟩
        have hl2 : (pushL L (1000 + ta, 3)).length = L.length + 1 := by rw [hL']; simp
        obtain ⟨q, hq⟩ : ∃ q, (pushL L (1000 + ta, 3))[b]? = some q := ⟨_, List.getElem?_eq_getElem (by omega)⟩
        have hcon := jolder_end (w := wr.alloc (.cells #[.int .i64 (1000 + ta), .int .i64 3] 29)) (b := b) (1000 + ta) 3 (tn % 14 + 1) ((H3.out.p1.alloc _ _).p1) (by omega) (by omega) hin (by rw [hl2]; omega) hq
        have Hcon := Lib.hid hcon
        have hfin : (pushL L (1000 + ta, 3))[L.length]? = some (1000 + ta, 3) := by rw [hL']; simp
        have Hfin := Lib.hid hfin
        have Hl2 := Lib.hid hl2
        have Hb := Lib.hid hb
        have Hb2 := Lib.hid (show b ≤ L.length by omega)
        clear hq hcon hL' hl2 hfin hb
        go_wp2_with fail
        refine Hcon.out.mono ?_
        rintro e w3 ⟨rfl, h4⟩
        have h5 := h4.alloc #[.int .i64 q.1, .int .i64 q.2] 29
        have hown2 : (w3.alloc (.cells #[.int .i64 q.1, .int .i64 q.2] 29)).ownsMap Try.prog 3 (plainElem Try.prog 4) B i D := by
          obtain ⟨F, ⟨_, h⟩, _⟩ := h5.p3.head
          exact h
        have H5 := Lib.hid h5.p1
        have hcon := jnewer_in (b := L.length) (tn % 14 + 1) h5.p1 (by have := Hl2.out; have := Hb2.out; omega) (by have := Hl2.out; omega) (by omega) (by have := Hl2.out; have := Hb.out; omega) (by have := Hb.out; omega) Hfin.out
        have Hcon2 := Lib.hid hcon
        have HH := Lib.hid hown2
        clear h4 h5 hcon hown Hcon hown2
        go_wp2_with (at_len; refine wpList_len_own _ rfl _ 26 rfl 3 4 Try.underlying26 (plainElem Try.prog 4) B i D rfl HH.out ?_)
        refine Hcon2.out.mono ?_
        rintro e w4 ⟨rfl, h6⟩
        have h7 := (h6.alloc #[.int .i64 (1000 + ta), .int .i64 3] 29).p1
        have hcon := jnewer_out 1 h7 (by have := Hl2.out; omega) (by have := Hl2.out; omega) (by have := Hl2.out; omega)
        have Hcon3 := Lib.hid hcon
        clear h6 h7 hcon Hcon2 HH
        go_wp2_with fail
        refine Hcon3.out.mono ?_
        rintro e w5 ⟨rfl, h8⟩
        have h9 := h8.alloc #[.int .i64 0, .int .i64 0] 29
        have c0 := h9.p2.cell (j := 0) rfl
        have c1 := h9.p2.cell (j := 1) rfl
        have d0 := (h9.ord [4]).cell (j := 0) rfl
        have d1 := (h9.ord [4]).cell (j := 1) rfl
        have H9 := Lib.hid h9
        clear h8 h9 Hcon3
        go_wp2_with fail
        go_ret
        exact ⟨rfl, H9.out.below⟩
      · have hcon := jolder_out (w := wr.alloc (.cells #[.int .i64 (1000 + ta), .int .i64 3] 29)) (1000 + ta) 3 (tn % 14 + 1) (H3.out.p1.alloc _ _).p1 (.inr (by omega))
        have Hcon := Lib.hid hcon
        clear hcon hL'
        go_wp2_with fail
        refine Hcon.out.mono ?_
        rintro e w3 ⟨rfl, h4⟩
        have h5 := h4.alloc #[.int .i64 0, .int .i64 0] 29
        have hown2 : (w3.alloc (.cells #[.int .i64 0, .int .i64 0] 29)).ownsMap Try.prog 3 (plainElem Try.prog 4) B i D := by
          obtain ⟨F, ⟨_, h⟩, _⟩ := h5.p3.head
          exact h
        have H5 := Lib.hid h5
        have HH := Lib.hid hown2
        clear h4 h5 hown hown2 Hcon
        go_wp2_with (at_len; refine wpList_len_own _ rfl _ 26 rfl 3 4 Try.underlying26 (plainElem Try.prog 4) B i D rfl HH.out ?_)
        go_ret
        exact ⟨rfl, H5.out.below⟩
end Go.Proofs.Ytaekfmbfejgldaa
