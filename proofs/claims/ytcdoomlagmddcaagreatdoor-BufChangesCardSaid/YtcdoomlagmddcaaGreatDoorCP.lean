/- Cutting pieces, plain. -/
import Derived.Test.YtcdoomlagmddcaaGreatDoorCK
namespace Go.Proofs.YtcdoomlagmddcaaGreatDoor
open Go Go.RowKit Go.Fol
set_option linter.unusedVariables false
set_option linter.unusedSimpArgs false
set_option maxRecDepth 100000
theorem pcs_set : ∀ (L : List Pc) (i : Nat) (a : Bool) (o n : Nat), i < L.length → (((pcs L).set (i * 3) (.bool a)).set (i * 3 + 1) (.int .i64 o)).set (i * 3 + 2) (.int .i64 n) = pcs (L.set i ⟨a, o, n⟩)
  | [], _, _, _, _, h => by simp at h
  | q :: L, 0, a, o, n, _ => by simp [pcs, flat_cons, pcf]
  | q :: L, i + 1, a, o, n, h => by
    have ih := pcs_set L i a o n (by simpa using h)
    simp only [pcs, flat_cons, pcf, List.set_cons_succ] at ih ⊢
    rw [← ih]
    rw [show (i + 1) * 3 = i * 3 + 1 + 1 + 1 by omega]
    simp
theorem txs_split (f a : List UInt8) (L : List Pc) (k : Nat) : txs f a L = txs f a (L.take k) ++ txs f a (L.drop k) := by
  rw [← txs_append, List.take_append_drop]
/-- Where the k-th piece begins. -/
def begins (f a : List UInt8) (L : List Pc) (k : Nat) : Nat := (txs f a (L.take k)).length
theorem begins_zero (f a : List UInt8) (L : List Pc) : begins f a L 0 = 0 := rfl
theorem begins_succ {f a : List UInt8} {L : List Pc} {k : Nat} {q : Pc} (hq : L[k]? = some q) (ho : PcOk f a q) : begins f a L (k + 1) = begins f a L k + q.n := by
  obtain ⟨h1, h2⟩ := List.getElem?_eq_some_iff.1 hq
  rw [begins, List.take_succ_eq_append_getElem h1, h2, txs_append, List.length_append, txs_one, ptx_len ho]
  rfl
theorem begins_all (f a : List UInt8) (L : List Pc) : begins f a L L.length = (txs f a L).length := by rw [begins, List.take_length]
theorem begins_mono {f a : List UInt8} {L : List Pc} {m k : Nat} (h : m ≤ k) : begins f a L m ≤ begins f a L k := by
  rw [begins, begins]
  have : L.take m = (L.take k).take m := by rw [List.take_take, Nat.min_eq_left h]
  rw [this, txs_split f a (L.take k) m, List.length_append]
  omega
theorem begins_le {f a : List UInt8} {L : List Pc} (hok : ∀ q ∈ L, PcOk f a q) {m k : Nat} (hm : m ≤ L.length) (h : k < m) : begins f a L k < begins f a L m := by
  obtain ⟨q, hq⟩ : ∃ q, L[k]? = some q := ⟨_, List.getElem?_eq_getElem (by omega)⟩
  have hqo := hok q (List.mem_of_getElem? hq)
  have := begins_succ hq hqo
  have h2 := begins_mono (f := f) (a := a) (L := L) (show k + 1 ≤ m by omega)
  have := hqo.1
  omega
/-- Where a place is: behind i pieces of L'. -/
structure CutR (f a : List UInt8) (L : List Pc) (off i : Nat) (L' : List Pc) : Prop where
  le : i ≤ L'.length
  pre : txs f a (L'.take i) = (txs f a L).take off
  post : txs f a (L'.drop i) = (txs f a L).drop off
  len : L'.length ≤ L.length + 1
  ok : ∀ q ∈ L', PcOk f a q
  keep : ∀ m, m ≤ L.length → begins f a L m ≤ off → m ≤ i ∧ L'.take m = L.take m
theorem cut_same {f a : List UInt8} {L : List Pc} (hok : ∀ q ∈ L, PcOk f a q) {k off : Nat} (hk : k ≤ L.length) (h : begins f a L k = off) : CutR f a L off k L := by
  refine ⟨hk, ?_, ?_, Nat.le_succ _, hok, fun m hm hb => ⟨?_, rfl⟩⟩
  rotate_left 2
  · by_cases hc : m ≤ k
    · exact hc
    · have := begins_le hok hm (show k < m by omega)
      omega
  · rw [txs_split f a L k, ← h, begins, List.take_left]
  · conv => rhs; rw [txs_split f a L k]
    rw [← h, begins, List.drop_left]
theorem cut_part {f a : List UInt8} {L : List Pc} (hok : ∀ q ∈ L, PcOk f a q) {k off m : Nat} {q : Pc} (hq : L[k]? = some q) (hm : off = begins f a L k + m) (h0 : 0 < m) (h1 : m < q.n) :
    CutR f a L off (k + 1) (((L.set k ⟨q.ad, q.off, m⟩).take (k + 1) ++ [⟨q.ad, q.off + m, q.n - m⟩]) ++ (L.set k ⟨q.ad, q.off, m⟩).drop (k + 1)) := by
  obtain ⟨hk, hqe⟩ := List.getElem?_eq_some_iff.1 hq
  have hqo := hok q (List.mem_of_getElem? hq)
  have e1 : (L.set k ⟨q.ad, q.off, m⟩).take (k + 1) = L.take k ++ [⟨q.ad, q.off, m⟩] := by
    have e0 : (L.take k).set k ⟨q.ad, q.off, m⟩ = L.take k := List.set_eq_of_length_le (by simp; omega)
    rw [List.take_succ_eq_append_getElem (by simpa using hk), List.take_set, e0]
    simp
  have e2 : (L.set k ⟨q.ad, q.off, m⟩).drop (k + 1) = L.drop (k + 1) := by
    rw [List.drop_set]; simp
  have hl : ((L.set k ⟨q.ad, q.off, m⟩).take (k + 1)).length = k + 1 := by simp; omega
  have hp : ptx f a ⟨q.ad, q.off, m⟩ = (ptx f a q).take m := by
    show (List.drop q.off _).take m = ((List.drop q.off _).take q.n).take m
    rw [List.take_take, Nat.min_eq_left (by omega)]
  have hp2 : ptx f a ⟨q.ad, q.off + m, q.n - m⟩ = (ptx f a q).drop m := by simp [ptx, List.drop_take, List.drop_drop]
  have hs : txs f a L = txs f a (L.take k) ++ (ptx f a q ++ txs f a (L.drop (k + 1))) := by
    rw [txs_split f a L k, List.drop_eq_getElem_cons hk, hqe, txs_cons]
  have hpl := ptx_len hqo
  refine ⟨by simp [hl], ?_, ?_, ?_, ?_, fun x hx hb => ?_⟩
  rotate_left 4
  · have hxk : x ≤ k := by
      by_cases hc : x ≤ k
      · exact hc
      · have h2 := begins_mono (f := f) (a := a) (L := L) (show k + 1 ≤ x by omega)
        have h3 := begins_succ hq hqo
        omega
    refine ⟨by omega, ?_⟩
    rw [e1, e2, List.append_assoc, List.append_assoc, List.take_append_of_le_length (by simp; omega), List.take_take, Nat.min_eq_left hxk]
  · rw [List.append_assoc, List.take_left' hl, e1, txs_append, txs_one, hp, hs, hm, begins, List.take_length_add_append, List.take_append_of_le_length (by omega)]
  · rw [List.append_assoc, List.drop_left' hl, e2, txs_append, txs_one, hp2, hs, hm, begins, List.drop_length_add_append, List.drop_append_of_le_length (by omega)]
  · rw [e1, e2]; simp; omega
  · intro x hx
    rw [e1, e2] at hx
    simp only [List.mem_append, List.mem_singleton] at hx
    have hqo2 := hqo.2
    rcases hx with ((hx | rfl) | rfl) | hx
    · exact hok x (List.mem_of_mem_take hx)
    · exact ⟨h0, by show q.off + m ≤ _; dsimp only; omega⟩
    · exact ⟨by show 0 < q.n - m; omega, by show q.off + m + (q.n - m) ≤ _; dsimp only; omega⟩
    · exact hok x (List.mem_of_mem_drop hx)
end Go.Proofs.YtcdoomlagmddcaaGreatDoor
