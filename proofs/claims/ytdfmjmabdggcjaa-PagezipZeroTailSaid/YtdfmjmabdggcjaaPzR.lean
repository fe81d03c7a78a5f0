import Derived.Test.YtdfmjmabdggcjaaPzK
namespace Go.Proofs.Ytdfmjmabdggcjaa.Pz
open Go.RowKit Go.Proofs.YtdfmjmabdggcjaaW.PrintWords
/-! ### More of the plain law -/
theorem compS_size (p : ByteArray) (hp : p.size = 256) : 17 ≤ (compS p).size ∧ (compS p).size ≤ 257 := by
  unfold compS
  rw [if_pos hp]
  by_cases h : (packS p).length ≤ 256
  · rw [if_pos h, strOfNums_size]
    have := packS_length p
    omega
  · rw [if_neg h, zero_size]
    omega
theorem compS_len (p : ByteArray) (hp : p.size = 256) : (compS p).size = if 17 + (pst p 64).out.length ≤ 256 then 17 + (pst p 64).out.length else 257 := by
  unfold compS
  rw [if_pos hp, packS_length]
  by_cases h : 17 + (pst p 64).out.length ≤ 256
  · rw [if_pos h, if_pos h, strOfNums_size, packS_length]
  · rw [if_neg h, if_neg h, zero_size, hp]
/-- Two pages that begin alike, the second going on with zeros. -/
theorem zero_tail (p q : ByteArray) (hp : p.size = 256) (hq : q.size = 256) (k : Nat) (hk : k ≤ 64) (h1 : ∀ i, i < k → wordS q i = wordS p i) (h2 : ∀ i, k ≤ i → i < 64 → wordS q i = 0) :
    (compS q).size ≤ (compS p).size := by
  have ew : ∀ (s : ByteArray), ws s 64 = ws s k ++ (List.range (64 - k)).map (fun i => wordS s (k + i)) := by
    intro s
    unfold ws
    have : List.range 64 = List.range k ++ (List.range (64 - k)).map (fun i => k + i) := by
      rw [← List.range_add]
      congr 1
      omega
    rw [this, List.map_append, List.map_map]
    rfl
  have e1 : ws q k = ws p k := List.map_congr_left fun i hi => h1 i (List.mem_range.1 hi)
  have e2 : (List.range (64 - k)).map (fun i => wordS q (k + i)) = List.replicate (64 - k) 0 := by
    rw [List.eq_replicate_iff]
    refine ⟨by simp, fun x hx => ?_⟩
    rw [List.mem_map] at hx
    obtain ⟨i, hi, rfl⟩ := hx
    exact h2 _ (by omega) (by have := List.mem_range.1 hi; omega)
  have hle : (pst q 64).out.length ≤ (pst p 64).out.length := by
    unfold pst
    rw [ew q, ew p, e1, e2]
    exact tail_le _ _ _ _
  rw [compS_len p hp, compS_len q hq]
  split <;> split <;> omega
/-- What Decompress answers: the page whose compressed form it was given, or an error. -/
theorem decR_cases (s : ByteArray) : (∃ p, p.size = 256 ∧ compS p = s ∧ decR s = .returned (.tuple #[.string p, .int .i64 0])) ∨ decR s = .returned (.tuple #[.string ByteArray.empty, .int .i64 3]) := by
  unfold decR
  cases h : pre s with
  | none => exact .inr rfl
  | some p =>
    simp only
    by_cases hc : compE p = 0 ∧ compS p = s
    · rw [if_pos hc]
      exact .inl ⟨p, compE_zero hc.1, hc.2, rfl⟩
    · rw [if_neg hc]
      exact .inr rfl
end Go.Proofs.Ytdfmjmabdggcjaa.Pz
