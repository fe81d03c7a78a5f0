import Derived.Test.YtdfmjmabdggcjaaPzU
namespace Go.Proofs.Ytdfmjmabdggcjaa.Pz
open Go.RowKit Go.Proofs.YtdfmjmabdggcjaaW.PrintWords
def incP (sd low : Int) (i : Nat) : List Int := (List.range 64).map fun q => if q < i then inc sd low q else 0
theorem incP_length (sd low : Int) (i : Nat) : (incP sd low i).length = 64 := by simp [incP]
theorem incP_succ (sd low : Int) (i : Nat) : incP sd low (i + 1) = (incP sd low i).set i (inc sd low i) := by
  apply List.ext_getElem
  · simp [incP]
  · intro q h1 h2
    simp only [incP, List.getElem_set, List.getElem_map, List.getElem_range]
    by_cases e : i = q
    · subst e; rw [if_pos (by omega), if_pos rfl]
    · rw [if_neg e]
      by_cases hq : q < i
      · rw [if_pos (by omega), if_pos hq]
      · rw [if_neg (by omega), if_neg hq]
theorem incP_zero (sd low : Int) : pageB (incP sd low 0) = List.replicate 256 0 := by
  have e : incP sd low 0 = rw_ 0 0 := by
    have : rw_ 0 0 = List.replicate 64 0 := by simp [rw_, hits]
    rw [this]
    unfold incP
    rw [List.eq_replicate_iff]
    exact ⟨by simp, fun x hx => by rw [List.mem_map] at hx; obtain ⟨q, _, rfl⟩ := hx; exact if_neg (by omega)⟩
  rw [e, rw_zero]
theorem incP_all (sd low : Int) : incP sd low 64 = incL sd low 64 := by
  unfold incP incL
  refine List.map_congr_left fun q hq => ?_
  rw [if_pos (List.mem_range.1 hq)]
end Go.Proofs.Ytdfmjmabdggcjaa.Pz
