/- What the decoder and the first character say of each other; plain words. -/
import Derived.Test.YtalaedpiimdcbaaSrcOneF
import Derived.Test.YtalaedpiimdcbaaSrcRunesF
namespace Go.Proofs.Ytalaedpiimdcbaa.Srcw
open Go.RowKit Go.Lib
set_option linter.unusedVariables false
set_option linter.unusedSimpArgs false

theorem decodeL_one (l : List UInt8) (h : l ≠ []) : ((oneL l).2 = 0 ↔ decodeL l = (65533, 1)) ∧ ((oneL l).2 ≠ 0 → oneL l = decodeL l) := by
  rw [oneL_decode l h]
  have hw := decodeL_width l
  by_cases c : decodeL l = (65533, 1)
  · rw [if_pos c]; exact ⟨⟨fun _ => c, fun _ => rfl⟩, fun h => absurd rfl h⟩
  · rw [if_neg c]; exact ⟨⟨fun h => by omega, fun h => absurd h c⟩, fun _ => rfl⟩

theorem validD_one (l : List UInt8) (h : l ≠ []) : validD l = if (oneL l).2 = 0 then false else validD (l.drop (oneL l).2) := by
  rw [validD_step l h]
  have hd := decodeL_one l h
  by_cases c : (oneL l).2 = 0
  · have e := hd.1.1 c
    rw [if_pos c, if_pos (by rw [e]; exact ⟨rfl, rfl⟩)]
  · have e := hd.2 c
    rw [if_neg c, if_neg (by
      rintro ⟨h1, h2⟩
      exact c (hd.1.2 (Prod.ext h1 h2))), e]
theorem validD_nil : validD [] = true := rfl

end Go.Proofs.Ytalaedpiimdcbaa.Srcw
