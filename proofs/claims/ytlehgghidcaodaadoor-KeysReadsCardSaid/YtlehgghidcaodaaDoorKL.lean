/- Keys and their text: plain laws. -/
import Derived.Test.YtlehgghidcaodaaDoorKD
namespace Go.Proofs.YtlehgghidcaodaaDoor
open Go Go.RowKit Go.Fol
set_option linter.unusedVariables false
set_option linter.unusedSimpArgs false
theorem name_free : ∀ c d : Fin 256, (nameL c.val).isPrefixOf (nameL d.val) = true → c = d := by decide +kernel
theorem pre_total {a b s t : List UInt8} (h1 : a.isPrefixOf s = true) (h2 : b.isPrefixOf s = true) : a.isPrefixOf b = true ∨ b.isPrefixOf a = true := by
  rw [List.isPrefixOf_iff_prefix] at *
  rw [List.isPrefixOf_iff_prefix]
  exact List.prefix_or_prefix_of_prefix h1 h2
theorem firstK_name {c : Nat} (hc : c < 256) (t : List UInt8) : firstK (nameL (c : Nat) ++ t) = some c := by
  have hp : (nameL (c : Nat)).isPrefixOf (nameL (c : Nat) ++ t) = true := by rw [List.isPrefixOf_iff_prefix]; exact List.prefix_append _ _
  refine firstK_some (fun d hd => ?_) hc hp
  apply Bool.eq_false_iff.2
  intro h
  rcases pre_total (t := []) h hp with h' | h'
  · have := name_free ⟨d, by omega⟩ ⟨c, hc⟩ h'
    simp at this
    omega
  · have := name_free ⟨c, hc⟩ ⟨d, by omega⟩ h'
    simp at this
    omega
theorem parse_text : ∀ (K : List Int), bytesN K → parseF (textL K) = some K
  | [], _ => rfl
  | c :: K, hb => by
    obtain ⟨h0, h1⟩ := hb c (by simp)
    obtain ⟨n, rfl⟩ : ∃ n : Nat, c = (n : Int) := ⟨c.toNat, by omega⟩
    have e : textL ((n : Int) :: K) = nameL (n : Int) ++ textL K := by simp [textL]
    have hne : textL ((n : Int) :: K) ≠ [] := by
      rw [e]
      intro h
      have := (nameL_len (n : Int)).1
      rw [List.append_eq_nil_iff] at h
      rw [h.1] at this
      simp at this
    rw [parseF_some hne (by rw [e]; exact firstK_name (by omega) _), e, List.drop_left, parse_text K (fun x hx => hb x (by simp [hx]))]
    rfl
end Go.Proofs.YtlehgghidcaodaaDoor
