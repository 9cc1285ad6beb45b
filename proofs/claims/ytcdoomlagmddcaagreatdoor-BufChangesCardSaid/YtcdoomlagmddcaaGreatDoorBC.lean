/- A text of lines in memory: New, what is told of it, bytes put in the stead of others. -/
import Derived.Test.YtcdoomlagmddcaaGreatDoorBB
import Derived.Test.YtcdoomlagmddcaaGreatDoorCG
import Derived.Test.YtcdoomlagmddcaaGreatDoorID
namespace Go.Proofs.YtcdoomlagmddcaaGreatDoor
open Go Go.RowKit Go.Fol
attribute [local go_sem ↓] Go.wp_at_zero Go.wp_at_succ
set_option linter.unusedVariables false
set_option linter.unusedSimpArgs false
set_option maxRecDepth 100000
abbrev bobj2 (p t x : Nat) : Asrt := Asrt.obj p (.cells #[.pointer (some ⟨t, 0, none⟩), .pointer (some ⟨x, 0, none⟩)] 60 (0, 0))
def tbufA (p : Nat) (tx : List UInt8) (ed ad : Nat) : Asrt := Asrt.ex fun t : Nat => Asrt.ex fun x : Nat => Asrt.ex fun T : Tb => Asrt.all [Asrt.pure (TbI T tx ed 4095 ad), bobj2 p t x, tabA t T, Asrt.idx x tx]
structure BufI (W : Ls) : Prop where
  ne : W ≠ []
  lf : brokenB W = false
  bulk : bulkL W ≤ 4096
theorem BufI.len {W : Ls} (h : BufI W) : (joinL W).length ≤ 4095 := by have := join_len h.ne; have := h.bulk; omega
theorem BufI.cnt {W : Ls} (h : BufI W) : W.length ≤ 4096 := Nat.le_trans (len_le_bulk W) h.bulk
theorem bytesOf_bs (l : List UInt8) : bytesOf (bs l) = l := bs_data l
section
variable {w0 w : World} {R : List Asrt} {p ed ad : Nat} {tx : List UInt8} {W : Ls}
theorem bE (H : Owns w0 w (tbufA p tx ed ad :: R)) : ∃ t x T, TbI T tx ed 4095 ad ∧ Owns w0 w (bobj2 p t x :: tabA t T :: Asrt.idx x tx :: R) := by
  obtain ⟨t, h⟩ := H.exE
  obtain ⟨x, h⟩ := h.exE
  obtain ⟨T, h⟩ := h.exE
  obtain ⟨h1, h2⟩ := (Owns.allE (L := [_, _, _, _]) h).pureE
  exact ⟨t, x, T, h1, h2⟩
theorem bI {t x : Nat} {T : Tb} (hI : TbI T tx ed 4095 ad) (H : Owns w0 w (bobj2 p t x :: tabA t T :: Asrt.idx x tx :: R)) : Owns w0 w (tbufA p tx ed ad :: R) :=
  Owns.exI t (Owns.exI x (Owns.exI T (Owns.allI (L := [_, _, _, _]) (H.pureI hI))))
theorem bufMore {ad' : Nat} (h : ad ≤ ad') (H : Owns w0 w (tbufA p tx ed ad :: R)) : Owns w0 w (tbufA p tx ed ad' :: R) := by
  obtain ⟨t, x, T, hI, h1⟩ := bE H
  exact bI ⟨hI.ok, hI.htx, hI.hed, hI.hmost, Nat.le_trans hI.had h, hI.len⟩ h1
set_option maxHeartbeats 1000000 in
theorem tnew {a : Option Addr} {n c : Nat} {L : Ls} (hn : n = L.length) (hB : BufI L) (H : Owns w0 w R) (hk : RdL w0 R (.slice a n c) L) :
    Calls Tryz.prog 10 #[.slice a n c] w (RetX (fun p : Nat => .tuple #[.pointer (some ⟨p, 0, none⟩), .int .i64 0]) w0 (fun p => tbufA p (joinL L) 0 0 :: R)) := by
  have c1 := tbroken hn H hk
  rw [hB.lf] at c1
  have hb := hB.bulk
  have c2 := tsize hn H hk (by omega)
  have hl := hB.len
  have hlen := hB.cnt
  have c3 := ljoin hn H hk (by omega) (by omega)
  have hn0 : ¬ n = 0 := fun e => hB.ne (List.eq_nil_of_length_eq_zero (by omega))
  obtain ⟨bk, hbk⟩ : ∃ bk, bk = bulkL L := ⟨_, rfl⟩
  rw [← hbk] at c2 hb
  obtain ⟨tx, htx⟩ : ∃ tx, tx = joinL L := ⟨_, rfl⟩
  rw [← htx] at c3 hl ⊢
  have C1 := Lib.hid c1
  have C2 := Lib.hid c2
  have C3 := Lib.hid c3
  clear c1 c2 c3 H hk hn hB hbk htx
  go_enter Tryz.func10, Tryz.ntmps10
  go_wp2_with fail
  refine C1.out.mono ?_
  rintro e w' ⟨rfl, rfl⟩
  go_wp2_with fail
  refine C2.out.mono ?_
  rintro e w' ⟨rfl, rfl⟩
  go_wp2_with fail
  refine C3.out.mono ?_
  rintro e w2 ⟨rfl, h2⟩
  have C4 := Lib.hid (cnew (f := tx) 4095 h2 (by omega) (by omega))
  clear h2 C1 C2 C3
  go_wp2_with fail
  refine C4.out.mono ?_
  rintro e w3 ⟨t, rfl, h3⟩
  have C5 := Lib.hid (inew (bs tx) h3 (by rw [bs_size]; omega))
  clear h3 C4
  go_wp2_with fail
  refine C5.out.mono ?_
  rintro e w4 ⟨x, rfl, h4⟩
  rw [bytesOf_bs] at h4
  have H4 := Lib.hid h4
  clear h4 C5
  go_wp2_with fail
  go_ret2
  exact ⟨w4.heap.size, rfl, bI (TbI.new (by omega) (by decide)) ((H4.out.alloc #[.pointer (some ⟨t, 0, none⟩), .pointer (some ⟨x, 0, none⟩)] 60).ord [0, 1])⟩
theorem tnew_nil {a : Option Addr} {c : Nat} (H : Owns w0 w R) :
    Calls Tryz.prog 10 #[.slice a 0 c] w (RetX (fun p : Nat => .tuple #[.pointer (some ⟨p, 0, none⟩), .int .i64 0]) w0 (fun p => tbufA p [] 0 0 :: R)) := by
  have h1 := H.alloc #[.string ⟨#[]⟩] 9
  have hk : RdL w0 (Asrt.obj w.heap.size (.cells #[.string ⟨#[]⟩] 9 (0, 0)) :: R) (.slice (some ⟨w.heap.size, 0, none⟩) 1 1) [[]] := Reads.obj (k := 1) (n := 1) (c := 1) List.mem_cons_self (by decide) (by decide) (by simp)
  have c1 := tbroken (L := [[]]) rfl h1 hk
  have c2 := tsize (L := [[]]) rfl h1 hk (by decide)
  have c3 := ljoin (L := [[]]) rfl h1 hk (by decide) (by decide)
  have c1 : Calls Tryz.prog 25 #[.slice (some ⟨w.heap.size, 0, none⟩) 1 1] (w.alloc (.cells #[.string ⟨#[]⟩] 9)) fun e w' => e = .returned (.bool false) ∧ w' = (w.alloc (.cells #[.string ⟨#[]⟩] 9)) := c1
  have c2 : Calls Tryz.prog 26 #[.slice (some ⟨w.heap.size, 0, none⟩) 1 1] (w.alloc (.cells #[.string ⟨#[]⟩] 9)) fun e w' => e = .returned (.int .i64 1) ∧ w' = (w.alloc (.cells #[.string ⟨#[]⟩] 9)) := c2
  rw [joinL_one] at c3
  have C1 := Lib.hid c1
  have C2 := Lib.hid c2
  have C3 := Lib.hid c3
  clear c1 c2 c3 H hk h1
  go_enter Tryz.func10, Tryz.ntmps10
  go_wp2_with fail
  refine C1.out.mono ?_
  rintro e w' ⟨rfl, rfl⟩
  go_wp2_with fail
  refine C2.out.mono ?_
  rintro e w' ⟨rfl, rfl⟩
  go_wp2_with fail
  refine C3.out.mono ?_
  rintro e w2 ⟨rfl, h2⟩
  have C4 := Lib.hid (cnew (f := []) 4095 h2 (by decide) (by decide))
  clear h2 C1 C2 C3
  go_wp2_with fail
  refine C4.out.mono ?_
  rintro e w3 ⟨t, rfl, h3⟩
  have C5 := Lib.hid (inew (bs []) h3 (by decide))
  clear h3 C4
  go_wp2_with fail
  refine C5.out.mono ?_
  rintro e w4 ⟨x, rfl, h4⟩
  rw [bytesOf_bs] at h4
  have H4 := Lib.hid h4
  clear h4 C5
  go_wp2_with fail
  go_ret2
  exact ⟨w4.heap.size, rfl, (bI (TbI.new (by decide) (by decide)) ((H4.out.alloc #[.pointer (some ⟨t, 0, none⟩), .pointer (some ⟨x, 0, none⟩)] 60).ord [0, 1])).p1.drop⟩
theorem tnew_place {a : Option Addr} {n c : Nat} {L : Ls} (hn : n = L.length) (hB : brokenB L = true) (H : Owns w0 w R) (hk : RdL w0 R (.slice a n c) L) :
    Calls Tryz.prog 10 #[.slice a n c] w (Ret (.tuple #[.pointer none, .int .i64 20]) w0 R) := by
  have c1 := tbroken hn H hk
  rw [hB] at c1
  have hn0 : ¬ n = 0 := fun e => by rw [show L = [] from List.eq_nil_of_length_eq_zero (by omega)] at hB; cases hB
  have C1 := Lib.hid c1
  have HH := Lib.hid H
  clear c1 H hk hn hB
  go_enter Tryz.func10, Tryz.ntmps10
  go_wp2_with fail
  refine C1.out.mono ?_
  rintro e w' ⟨rfl, rfl⟩
  go_wp2_with fail
  go_ret2
  exact ⟨rfl, HH.out⟩
theorem tnew_full {a : Option Addr} {n c : Nat} {L : Ls} (hn : n = L.length) (hB : brokenB L = false) (hb : 4096 < bulkL L) (hb2 : bulkL L ≤ 4611686018427387904) (H : Owns w0 w R) (hk : RdL w0 R (.slice a n c) L) :
    Calls Tryz.prog 10 #[.slice a n c] w (Ret (.tuple #[.pointer none, .int .i64 21]) w0 R) := by
  have c1 := tbroken hn H hk
  rw [hB] at c1
  have c2 := tsize hn H hk hb2
  have hn0 : ¬ n = 0 := fun e => by rw [show L = [] from List.eq_nil_of_length_eq_zero (by omega)] at hb; simp [bulkL] at hb
  obtain ⟨bk, hbk⟩ : ∃ bk, bk = bulkL L := ⟨_, rfl⟩
  rw [← hbk] at c2 hb
  have C1 := Lib.hid c1
  have C2 := Lib.hid c2
  have HH := Lib.hid H
  clear c1 c2 H hk hn hB hbk hb2
  go_enter Tryz.func10, Tryz.ntmps10
  go_wp2_with fail
  refine C1.out.mono ?_
  rintro e w' ⟨rfl, rfl⟩
  go_wp2_with fail
  refine C2.out.mono ?_
  rintro e w' ⟨rfl, rfl⟩
  go_wp2_with fail
  go_ret2
  exact ⟨rfl, HH.out⟩
theorem bcount (hB : BufI W) (H : Owns w0 w (tbufA p (joinL W) ed ad :: R)) : Calls Tryz.prog 22 #[.pointer (some ⟨p, 0, none⟩)] w fun e w' => e = .returned (.int .i64 W.length) ∧ w' = w := by
  obtain ⟨t, x, T, hI, h⟩ := bE H
  have k1 : w.cell? ⟨p, 1, none⟩ = some (.pointer (some ⟨x, 0, none⟩)) := h.cell (j := 1) rfl
  have hc := ilines h.p2
  have hb := brk_join ((noLF_iff W).2 hB.lf) hB.ne
  rw [show (brk (joinL W) : Int) + 1 = W.length by omega] at hc
  have Hc := Lib.hid hc
  clear H h hc hI hb
  go_enter Tryz.func22, Tryz.ntmps22
  go_wp2_with fail
  refine Hc.out.mono ?_
  rintro e w' ⟨rfl, rfl⟩
  go_wp2_with fail
  go_ret
  exact ⟨rfl, rfl⟩
theorem bbytes (hB : BufI W) (H : Owns w0 w (tbufA p (joinL W) ed ad :: R)) : Calls Tryz.prog 20 #[.pointer (some ⟨p, 0, none⟩)] w fun e w' => e = .returned (.int .i64 (bulkL W)) ∧ w' = w := by
  obtain ⟨t, x, T, hI, h⟩ := bE H
  have k1 : w.cell? ⟨p, 1, none⟩ = some (.pointer (some ⟨x, 0, none⟩)) := h.cell (j := 1) rfl
  have hc := ilen h.p2
  have hb := join_len hB.ne
  have hl := hB.len
  obtain ⟨m, hm⟩ : ∃ m, m = (joinL W).length := ⟨_, rfl⟩
  rw [← hm] at hc hb hl
  have e2 : ((bulkL W : Nat) : Int) = (m : Int) + 1 := by omega
  have hw : IntKind.i64.wrap ((m : Int) + 1) = (m : Int) + 1 := by rw [IntKind.wrap_i64]; omega
  rw [e2]
  have Hc := Lib.hid hc
  clear H h hc hI hb hm e2
  go_enter Tryz.func20, Tryz.ntmps20
  go_wp2_with fail
  refine Hc.out.mono ?_
  rintro e w' ⟨rfl, rfl⟩
  go_wp2_with fail
  go_ret
  exact ⟨rfl, rfl⟩
theorem bpieces (H : Owns w0 w (tbufA p tx ed ad :: R)) : Calls Tryz.prog 23 #[.pointer (some ⟨p, 0, none⟩)] w fun e w' => (∃ k : Nat, e = .returned (.int .i64 k) ∧ k ≤ 2 * ed + 1) ∧ w' = w := by
  obtain ⟨t, x, T, hI, h⟩ := bE H
  have k1 : w.cell? ⟨p, 0, none⟩ = some (.pointer (some ⟨t, 0, none⟩)) := h.cell (j := 0) rfl
  have Hc := Lib.hid (cpieces h.p1)
  have hl := hI.len
  clear H h hI
  go_enter Tryz.func23, Tryz.ntmps23
  go_wp2_with fail
  refine Hc.out.mono ?_
  rintro e w' ⟨rfl, rfl⟩
  go_wp2_with fail
  go_ret
  exact ⟨⟨_, rfl, hl⟩, rfl⟩
theorem bedits (H : Owns w0 w (tbufA p tx ed ad :: R)) : Calls Tryz.prog 24 #[.pointer (some ⟨p, 0, none⟩)] w fun e w' => e = .returned (.int .i64 ed) ∧ w' = w := by
  obtain ⟨t, x, T, hI, h⟩ := bE H
  have k1 : w.cell? ⟨p, 0, none⟩ = some (.pointer (some ⟨t, 0, none⟩)) := h.cell (j := 0) rfl
  have hc := cedits h.p1
  rw [hI.hed] at hc
  have Hc := Lib.hid hc
  clear H h hI hc
  go_enter Tryz.func24, Tryz.ntmps24
  go_wp2_with fail
  refine Hc.out.mono ?_
  rintro e w' ⟨rfl, rfl⟩
  go_wp2_with fail
  go_ret
  exact ⟨rfl, rfl⟩
end
end Go.Proofs.YtcdoomlagmddcaaGreatDoor
