/- append to a slice without room, in words of what stands side by side. No program in sight. -/
import Derived.Test.YtchgkdhhfbppbaaRangeO
namespace Go.Fol
open Go Go.RowKit
set_option linter.unusedVariables false
set_option linter.unusedSimpArgs false
section
variable {w0 w : World} {R : List Asrt}
theorem Owns.appFull {P : Program} {t e : TypeId} {i : TypeInfo} {z : Value} {k bytes : Nat} (ht : P.underlying t = some (.slice e)) (hi : P.info? e = some i) (hz : i.zero = some z)
    (hsize : i.size = k) (hby : i.bytes = bytes) (hzs : z.cells.size = k) (hsz : 0 < k) {a : Option Addr} {x : Value} {n m : Nat} {xs vs : List Value}
    (H : Owns w0 w R) (hs : SrcV w k (.slice a n n) n xs) (hv : SrcV w k x m vs) (hm : 0 < m) (h1 : ∀ u ∈ vs, u.oneCell' = true) (h63 : n + m ≤ maxLen) (hbytes : (n + m) * bytes ≤ 140737488355328) :
    ∃ v' w', (∀ ty, (Builtin.append_ #[t, t] ty #[.slice a n n, x]).run P w = .ok v' w') ∧ Owns w0 w' (Asrt.row e k v' (n + m) (xs ++ vs) :: R) := by
  rcases hv with ⟨_, h0, _⟩ | ⟨ax, c, rfl, hmc, hcm, hl, hcx⟩
  · omega
  have fin : ∀ v' w', (Builtin.append_ #[t, t] 0 #[.slice a n n, .slice (some ax) m c]).run P w = .ok v' w' → w'.ownsRow w.heap.size e k v' (n + m) (xs ++ vs) → w.grownBy w' none →
      ∃ v' w', (∀ ty, (Builtin.append_ #[t, t] ty #[.slice a n n, .slice (some ax) m c]).run P w = .ok v' w') ∧ Owns w0 w' (Asrt.row e k v' (n + m) (xs ++ vs) :: R) := fun v' w' hr ho hg =>
    ⟨v', w', fun _ => hr, H.new ((Chg.refl [] w).grown hg (fun _ h _ => by cases h)) ⟨_, ⟨rfl, (row_base ho).1⟩, fun b hb => (row_base ho).2 b (by simpa using hb)⟩⟩
  rcases hs with ⟨hv0, rfl, rfl⟩ | ⟨as, cs, e1, _, _, hls, hcs⟩
  · cases hv0
    obtain ⟨v', w', hr, ho, hg, _⟩ := run_append_own (P := P) w w.heap.size t 0 e i z k bytes ht hi hz hsize hby hzs hsz (.slice none 0 0) 0 [] (World.ownsRow_nil w _ e k) ax m c vs hl hcx h1 h63 hbytes (Nat.le_refl _)
    exact fin v' w' hr ho hg
  · cases e1
    obtain ⟨v', w', hr, ho, hg⟩ := run_append_arg_grows (P := P) w t 0 e i z k bytes ht hi hz hsize hby hzs hsz as n n xs hls hcs ax m c vs hl hcx (by omega) h63 hbytes
    exact fin v' w' hr ho hg
end
end Go.Fol
