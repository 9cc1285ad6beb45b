/- Inserting and deleting pieces, plain. -/
import Derived.Test.YtcdoomlagmddcaaGreatDoorCN
namespace Go.Proofs.YtcdoomlagmddcaaGreatDoor
open Go Go.RowKit Go.Fol
set_option linter.unusedVariables false
set_option linter.unusedSimpArgs false
set_option maxRecDepth 100000
variable {f a s : List UInt8}
theorem pcok_grow {q : Pc} (h : PcOk f a q) : PcOk f (a ++ s) q := ⟨h.1, by have := h.2; cases e : q.ad <;> simp [e] at this ⊢ <;> omega⟩
theorem ptx_grow {q : Pc} (h : PcOk f a q) : ptx f (a ++ s) q = ptx f a q := by
  have h2 := h.2
  simp only [ptx]
  cases e : q.ad
  · simp
  · simp [e] at h2 ⊢
    rw [List.drop_append_of_le_length (by omega), List.take_append_of_le_length (by simp; omega)]
theorem txs_grow : ∀ {L : List Pc}, (∀ q ∈ L, PcOk f a q) → txs f (a ++ s) L = txs f a L
  | [], _ => rfl
  | q :: L, h => by
    rw [txs_cons, txs_cons, ptx_grow (h q List.mem_cons_self), txs_grow (fun x hx => h x (List.mem_cons_of_mem _ hx))]
theorem ptx_new (a s : List UInt8) : ptx f (a ++ s) ⟨true, a.length, s.length⟩ = s := by simp [ptx]
theorem ptx_more {q : Pc} (h : PcOk f a q) (had : q.ad = true) (he : q.off + q.n = a.length) : ptx f (a ++ s) ⟨true, q.off, q.n + s.length⟩ = ptx f a q ++ s := by
  simp only [ptx, had, if_true]
  rw [List.drop_append_of_le_length (by omega), List.take_of_length_le (by simp; omega), List.take_of_length_le (by simp; omega)]
theorem txs_set {L : List Pc} {k : Nat} (hk : k < L.length) (x : Pc) : txs f a (L.set k x) = txs f a (L.take k) ++ ptx f a x ++ txs f a (L.drop (k + 1)) := by
  rw [List.set_eq_take_append_cons_drop, if_pos hk, txs_append, txs_cons, List.append_assoc]
/-- Put in behind i pieces. -/
theorem ins_new {L L1 : List Pc} {off i : Nat} (hc : CutR f a L off i L1) : txs f (a ++ s) (L1.take i ++ [⟨true, a.length, s.length⟩] ++ L1.drop i) = (txs f a L).take off ++ s ++ (txs f a L).drop off := by
  rw [txs_append, txs_append, txs_one, ptx_new, txs_grow (fun q hq => hc.ok q (List.mem_of_mem_take hq)), txs_grow (fun q hq => hc.ok q (List.mem_of_mem_drop hq)), hc.pre, hc.post]
theorem ins_new_ok {L L1 : List Pc} {off i : Nat} (hc : CutR f a L off i L1) (hs : s ≠ []) : ∀ q ∈ L1.take i ++ [⟨true, a.length, s.length⟩] ++ L1.drop i, PcOk f (a ++ s) q := by
  intro q hq
  simp only [List.mem_append, List.mem_singleton] at hq
  rcases hq with (hq | rfl) | hq
  · exact pcok_grow (hc.ok q (List.mem_of_mem_take hq))
  · exact ⟨List.length_pos_iff.2 hs, by simp⟩
  · exact pcok_grow (hc.ok q (List.mem_of_mem_drop hq))
/-- Put behind the piece that ends where what is added begins. -/
theorem ins_more {L L1 : List Pc} {off k : Nat} {q : Pc} (hc : CutR f a L off (k + 1) L1) (hq : L1[k]? = some q) (had : q.ad = true) (he : q.off + q.n = a.length) :
    txs f (a ++ s) (L1.set k ⟨true, q.off, q.n + s.length⟩) = (txs f a L).take off ++ s ++ (txs f a L).drop off := by
  obtain ⟨hk, hqe⟩ := List.getElem?_eq_some_iff.1 hq
  have hqo := hc.ok q (List.mem_of_getElem? hq)
  rw [txs_set hk, ptx_more hqo had he, txs_grow (fun x hx => hc.ok x (List.mem_of_mem_take hx)), txs_grow (fun x hx => hc.ok x (List.mem_of_mem_drop hx)), hc.post, ← hc.pre, List.take_succ_eq_append_getElem hk, hqe, txs_append, txs_one]
  simp
theorem ins_more_ok {L L1 : List Pc} {off k : Nat} {q : Pc} (hc : CutR f a L off (k + 1) L1) (hq : L1[k]? = some q) (had : q.ad = true) (he : q.off + q.n = a.length) :
    ∀ x ∈ L1.set k ⟨true, q.off, q.n + s.length⟩, PcOk f (a ++ s) x := by
  intro x hx
  have hqo := hc.ok q (List.mem_of_getElem? hq)
  rcases List.mem_or_eq_of_mem_set hx with h | rfl
  · exact pcok_grow (hc.ok x h)
  · exact ⟨by have := hqo.1; show 0 < q.n + s.length; omega, by simp; omega⟩
/-- What an insertion leaves. -/
structure InsR (T : Tb) (off : Nat) (s : List UInt8) (T' : Tb) : Prop where
  tx : T'.tx = T.tx.take off ++ s ++ T.tx.drop off
  pcs : ∀ q ∈ T'.L, PcOk T'.first T'.added q
  first : T'.first = T.first
  added : T'.added = T.added ++ s
  len : T'.L.length ≤ T.L.length + 2
  size : T'.size = T.size + s.length
  most : T'.most = T.most
  edits : T'.edits = T.edits + 1
theorem InsR.ok {T T' : Tb} {off : Nat} (h : InsR T off s T') (hT : T.ok) (ha : T.added.length + s.length ≤ 100000) (hl : T.L.length ≤ 90000) (he : T.edits ≤ 90000) (hs : T.size + s.length ≤ 1000000) (ho : off ≤ T.size) : T'.ok := by
  refine ⟨h.pcs, ?_, by rw [h.first]; exact hT.fl, by rw [h.added, List.length_append]; omega, by have := h.len; omega, by have := h.edits; omega, by have := h.size; omega, by rw [h.most]; exact hT.most⟩
  rw [h.size, h.tx, hT.size]
  simp
  omega
/-- What a deletion leaves. -/
structure DelR (T : Tb) (off n : Nat) (T' : Tb) : Prop where
  tx : T'.tx = T.tx.take off ++ T.tx.drop (off + n)
  pcs : ∀ q ∈ T'.L, PcOk T'.first T'.added q
  first : T'.first = T.first
  added : T'.added = T.added
  len : T'.L.length ≤ T.L.length + 2
  size : T'.size + n = T.size
  most : T'.most = T.most
  edits : T'.edits = T.edits + 1
theorem DelR.ok {T T' : Tb} {off n : Nat} (h : DelR T off n T') (hT : T.ok) (hl : T.L.length ≤ 90000) (he : T.edits ≤ 90000) (ho : off + n ≤ T.size) : T'.ok := by
  refine ⟨h.pcs, ?_, by rw [h.first]; exact hT.fl, by rw [h.added]; exact hT.al, by have := h.len; omega, by have := h.edits; omega, by have := h.size; have := hT.sz; omega, by rw [h.most]; exact hT.most⟩
  have h1 := h.size
  rw [h.tx, List.length_append, List.length_take, List.length_drop]
  have := hT.size
  omega
/-- Two cuts, and what is between them taken out. -/
theorem del_two {L L1 L2 : List Pc} {off n i j : Nat} (h1 : CutR f a L off i L1) (h2 : CutR f a L1 (off + n) j L2) (hL : (txs f a L).length ≥ off + n) :
    i ≤ j ∧ txs f a (L2.take i ++ L2.drop j) = (txs f a L).take off ++ (txs f a L).drop (off + n) := by
  have hb : begins f a L1 i = off := by rw [begins, h1.pre, List.length_take]; omega
  obtain ⟨hij, hk⟩ := h2.keep i h1.le (by omega)
  have htx : txs f a L1 = txs f a L := by rw [txs_split f a L1 i, h1.pre, h1.post, List.take_append_drop]
  exact ⟨hij, by rw [txs_append, hk, h1.pre, h2.post, htx]⟩
end Go.Proofs.YtcdoomlagmddcaaGreatDoor
