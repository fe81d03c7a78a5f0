import Derived.Test.YtkpaglpophfeeaaDoorSp7
import Derived.Test.YtkpaglpophfeeaaDoorPAx9
namespace Go.Proofs.YtkpaglpophfeeaaDoor.Sp
open Go.RowKit Go.Proofs.YtkpaglpophfeeaaDoorW.PrintWords Go.Proofs.YtkpaglpophfeeaaDoorW.PrintLast Go.Proofs.YtkpaglpophfeeaaDoorW.PrintMore Go.Proofs.YtkpaglpophfeeaaDoor.PA
set_option linter.unusedVariables false
set_option linter.unusedSimpArgs false

/-! ### DecodeSet -/
def rsdt : List UInt8 := [82, 83, 68, 84]
def numAt (B : ByteArray) (i : Nat) : Int := numS (B.extract (4 * i) (4 * i + 4))
theorem num_at (B : ByteArray) (i b : Nat) (h : 4 * i + 4 ≤ b) : numS (B.extract (4 * i) b) = numAt B i := by
  unfold numAt numS
  rw [bt_extract B (4 * i) b 0 (by omega) (by omega), bt_extract B (4 * i) b 1 (by omega) (by omega), bt_extract B (4 * i) b 2 (by omega) (by omega), bt_extract B (4 * i) b 3 (by omega) (by omega), bt_extract B (4 * i) (4 * i + 4) 0 (by omega) (by omega), bt_extract B (4 * i) (4 * i + 4) 1 (by omega) (by omega), bt_extract B (4 * i) (4 * i + 4) 2 (by omega) (by omega), bt_extract B (4 * i) (4 * i + 4) 3 (by omega) (by omega)]
def dsLoop (B s : ByteArray) : Nat → Nat → Int → List S23 → List S23 × Int
  | 0, i, at_, acc => if at_ = (s.size : Int) then (acc, 0) else ([], 3)
  | m + 1, i, at_, acc =>
    if numAt B i = at_ then
      if (decS (s.extract at_.toNat s.size)).2.2.2.2.2 = 0 then
        if (decS (s.extract at_.toNat s.size)).1.toList = rsdt then ([], 3)
        else dsLoop B s m (i + 1) (at_ + (decS (s.extract at_.toNat s.size)).2.2.2.2.1) (acc ++ [⟨(decS (s.extract at_.toNat s.size)).1, (decS (s.extract at_.toNat s.size)).2.1, (decS (s.extract at_.toNat s.size)).2.2.1, (decS (s.extract at_.toNat s.size)).2.2.2.1⟩])
      else ([], (decS (s.extract at_.toNat s.size)).2.2.2.2.2)
    else ([], 3)
theorem dec_ok {s : ByteArray} (h : (decS s).2.2.2.2.2 = 0) : 16 ≤ (decS s).2.2.2.2.1 ∧ (decS s).2.2.2.2.1 ≤ (s.size : Int) ∧ (decS s).2.2.2.2.1 ≤ 65552 ∧ ((decS s).2.2.2.1.size : Int) + 16 = (decS s).2.2.2.2.1 ∧ 0 ≤ (decS s).2.1 ∧ (decS s).2.1 ≤ 255 := by
  have b8 := bt_range s 8
  have hn := nS_bd s
  unfold decS at h ⊢
  split at h
  · exact absurd h (by show ¬ (4 : Int) = 0; decide)
  · rename_i h16
    rw [if_neg h16]
    split at h
    · exact absurd h (by show ¬ (3 : Int) = 0; decide)
    · rename_i h1
      rw [if_neg h1]
      split at h
      · exact absurd h (by show ¬ (4 : Int) = 0; decide)
      · rename_i h2
        rw [if_neg h2]
        split at h
        · exact absurd h (by show ¬ (5 : Int) = 0; decide)
        · rename_i h3
          rw [if_neg h3]
          have h4 : ¬ nS s < 16 := fun e => h1 (.inr (.inl e))
          have h5 : ¬ 65552 < nS s := fun e => h1 (.inr (.inr e))
          refine ⟨by show 16 ≤ nS s; omega, by show nS s ≤ _; omega, by show nS s ≤ _; omega, ?_, b8.1, b8.2⟩
          show ((s.extract 16 (nS s).toNat).size : Int) + 16 = nS s
          rw [extract_size _ _ _ (by omega)]
          omega
theorem w4 {i : Nat} (h : i ≤ 1000) : wrap64 (4 * (i : Int)) = ((4 * i : Nat) : Int) ∧ wrap64 (((4 * i : Nat) : Int) + 4) = ((4 * i + 4 : Nat) : Int) ∧ wrap64 ((i : Int) + 1) = ((i + 1 : Nat) : Int) := by
  unfold wrap64; omega
theorem ds_loop (B s : ByteArray) (hs : s.size ≤ 9223372036854775807) (N : Nat) (hN : N ≤ 16) (hB : B.size = 4 * N) (z0 : ByteArray) (z1 : Int) (z2 : ByteArray) (m : Nat) : ∀ (k i : Nat) (at_ : Int) (acc : List S23), i + m = N → 0 ≤ at_ → at_ ≤ (s.size : Int) → acc.length = i → 70001 + m < k →
    sdt_DecodeSet.l0 k s at_ acc ((4 * i : Nat) : Int) z0 z1 z2 B = some (dsLoop B s m i at_ acc) := by
  induction m with
  | zero =>
    intro k i at_ acc hi a0 a1 hl hk
    obtain ⟨k, rfl⟩ : ∃ n, k = n + 1 := ⟨k - 1, by omega⟩
    rw [sdt_DecodeSet.l0, dsLoop, if_neg (by omega)]
    by_cases h : at_ = (s.size : Int)
    · rw [if_pos h, if_pos h]
    · rw [if_neg h, if_neg h]
  | succ m ih =>
    intro k i at_ acc hi a0 a1 hl hk
    obtain ⟨k, rfl⟩ : ∃ n, k = n + 1 := ⟨k - 1, by omega⟩
    have hi16 : i ≤ 1000 := by omega
    have hex : (s.extract at_.toNat s.size).size = s.size - at_.toNat := extract_size _ _ _ (Nat.le_refl _)
    rw [sdt_DecodeSet.l0, dsLoop, if_pos (by omega), if_pos (by omega), if_pos (by omega), Int.toNat_natCast, number_f _ (by rw [extract_size _ _ _ (Nat.le_refl _)]; omega) k (by omega), Option.bind_some, num_at B i B.size (by omega)]
    by_cases hn : numAt B i = at_
    · rw [if_pos hn, if_pos hn, if_pos a0, if_pos a1, decode_f _ (by omega) k (by omega), Option.bind_some]
      have hok := @dec_ok (s.extract at_.toNat s.size)
      generalize decS (s.extract at_.toNat s.size) = d at *
      by_cases he : d.2.2.2.2.2 = 0
      · have ho := hok he
        rw [if_pos he, if_pos he]
        by_cases hr : d.1.toList = ([82, 83, 68, 84] : List UInt8)
        · rw [if_pos hr, if_pos (show d.1.toList = rsdt from hr)]
        · rw [if_neg hr, if_neg (show ¬ d.1.toList = rsdt from hr), if_pos (by omega), w64 (n := at_ + d.2.2.2.2.1) (by omega) (by omega), (w4 hi16).2.1, show 4 * i + 4 = 4 * (i + 1) by omega]
          exact ih k (i + 1) _ _ (by omega) (by omega) (by omega) (by rw [List.length_append, hl]; rfl) (by omega)
      · rw [if_neg he, if_neg he]
    · rw [if_neg hn, if_neg hn]
theorem rds_loop (B s : ByteArray) (hs : s.size ≤ 9223372036854775807) (N : Nat) (hN : N ≤ 16) (hB : B.size = 4 * N) (z0 : ByteArray) (z1 : Int) (z2 : ByteArray) (m : Nat) : ∀ (k i : Nat) (at_ : Int) (acc : List S23), i + m = N → 0 ≤ at_ → at_ ≤ (s.size : Int) → acc.length = i → 70001 + m < k →
    platformfwref07_DecodeSet.l0 k s at_ (N : Int) acc (i : Int) z0 z1 z2 B = some (dsLoop B s m i at_ acc) := by
  induction m with
  | zero =>
    intro k i at_ acc hi a0 a1 hl hk
    obtain ⟨k, rfl⟩ : ∃ n, k = n + 1 := ⟨k - 1, by omega⟩
    rw [platformfwref07_DecodeSet.l0, dsLoop, if_neg (by omega)]
    by_cases h : at_ = (s.size : Int)
    · rw [if_pos h, if_pos h]
    · rw [if_neg h, if_neg h]
  | succ m ih =>
    intro k i at_ acc hi a0 a1 hl hk
    obtain ⟨k, rfl⟩ : ∃ n, k = n + 1 := ⟨k - 1, by omega⟩
    have hi16 : i ≤ 1000 := by omega
    have hex : (s.extract at_.toNat s.size).size = s.size - at_.toNat := extract_size _ _ _ (Nat.le_refl _)
    rw [platformfwref07_DecodeSet.l0, dsLoop, if_pos (by omega), (w4 hi16).1, (w4 hi16).2.1, if_pos (by omega), if_pos (by omega), if_pos (by omega), Int.toNat_natCast, Int.toNat_natCast, rnumber_f _ (by rw [extract_size _ _ _ (by omega)]; omega), Option.bind_some, num_at B i (4 * i + 4) (by omega)]
    by_cases hn : numAt B i = at_
    · rw [if_pos hn, if_pos hn, if_pos a0, if_pos a1, rdecode_f _ (by omega) k (by omega), Option.bind_some]
      have hok := @dec_ok (s.extract at_.toNat s.size)
      generalize decS (s.extract at_.toNat s.size) = d at *
      by_cases he : d.2.2.2.2.2 = 0
      · have ho := hok he
        rw [if_pos he, if_pos he]
        by_cases hr : d.1.toList = ([82, 83, 68, 84] : List UInt8)
        · rw [if_pos hr, if_pos (show d.1.toList = rsdt from hr)]
        · rw [if_neg hr, if_neg (show ¬ d.1.toList = rsdt from hr), if_pos (by omega), w64 (n := at_ + d.2.2.2.2.1) (by omega) (by omega), (w4 hi16).2.2]
          exact ih k (i + 1) _ _ (by omega) (by omega) (by omega) (by rw [List.length_append, hl]; rfl) (by omega)
      · rw [if_neg he, if_neg he]
    · rw [if_neg hn, if_neg hn]
def dirB (d : Dec) : Bool := decide (d.1.toList = ([82, 83, 68, 84] : List UInt8)) && (decide (d.2.1 = 1) && (decide (d.2.2.1.toList = ([80, 76, 65, 84, 70, 87] : List UInt8)) && (decide (0 < d.2.2.2.1.size) && (decide (d.2.2.2.1.size % 4 = 0) && decide (d.2.2.2.1.size / 4 ≤ 16)))))
def dsetS (s : ByteArray) : List S23 × Int :=
  if (decS s).2.2.2.2.2 = 0 then
    if dirB (decS s) = true then dsLoop (decS s).2.2.2.1 s ((decS s).2.2.2.1.size / 4) 0 (decS s).2.2.2.2.1 [] else ([], 3)
  else ([], (decS s).2.2.2.2.2)
theorem isDir_f (d : Dec) (hd : d.2.2.2.1.size ≤ 70000) : sdt_isDirectory.f d.1 d.2.1 d.2.2.1 d.2.2.2.1 = some (dirB d) := by
  unfold sdt_isDirectory.f dirB
  have hw : wrap64 ((d.2.2.2.1.size : Int) / 4) = (d.2.2.2.1.size : Int) / 4 := w64 (by omega) (by omega)
  rw [hw]
  have e1 : decide (0 < d.2.2.2.1.size) = decide ((d.2.2.2.1.size : Int) > 0) := decide_eq_decide.2 (by omega)
  have e2 : decide (d.2.2.2.1.size % 4 = 0) = decide ((d.2.2.2.1.size : Int) % 4 = 0) := decide_eq_decide.2 (by omega)
  have e3 : decide (d.2.2.2.1.size / 4 ≤ 16) = decide ((d.2.2.2.1.size : Int) / 4 ≤ 16) := decide_eq_decide.2 (by omega)
  rw [e1, e2, e3]
  exact ite_and (ite_and (ite_and (ite_and (ite_and rfl))))
theorem dset_f (s : ByteArray) (hs : s.size ≤ 9223372036854775807) (k : Nat) (hk : 70050 < k) : sdt_DecodeSet.f k s = some (dsetS s) := by
  unfold sdt_DecodeSet.f dsetS
  rw [decode_f s hs k (by omega), Option.bind_some]
  have hok := @dec_ok s
  generalize decS s = d at *
  by_cases he : d.2.2.2.2.2 = 0
  · have ho := hok he
    rw [if_pos he, if_pos he, isDir_f d (by omega), Option.bind_some]
    by_cases hd : dirB d = true
    · have h2 := hd
      unfold dirB at h2
      simp only [Bool.and_eq_true, decide_eq_true_eq] at h2
      rw [if_pos hd, if_pos hd]
      exact ds_loop d.2.2.2.1 s hs (d.2.2.2.1.size / 4) (by omega) (by omega) _ _ _ (d.2.2.2.1.size / 4) k 0 d.2.2.2.2.1 [] (by omega) (by omega) (by omega) rfl (by omega)
    · rw [if_neg hd, if_neg hd]
  · rw [if_neg he, if_neg he]
theorem rds_j0 (d : Dec) (s : ByteArray) (hs : s.size ≤ 9223372036854775807) (n0 : 0 ≤ d.2.2.2.2.1) (n1 : d.2.2.2.2.1 ≤ (s.size : Int)) (b : Bool) (hb : b = false → 0 < d.2.2.2.1.size ∧ d.2.2.2.1.size % 4 = 0 ∧ d.2.2.2.1.size / 4 ≤ 16) (k : Nat) (hk : 70050 < k) :
    platformfwref07_DecodeSet.j0 k s d.2.2.2.2.1 ((d.2.2.2.1.size / 4 : Nat) : Int) b d.1 d.2.1 d.2.2.1 d.2.2.2.1 = some (if b = true then ([], 3) else dsLoop d.2.2.2.1 s (d.2.2.2.1.size / 4) 0 d.2.2.2.2.1 []) := by
  obtain ⟨k, rfl⟩ : ∃ n, k = n + 1 := ⟨k - 1, by omega⟩
  rw [platformfwref07_DecodeSet.j0]
  cases b with
  | true => rw [if_pos rfl, if_pos rfl]
  | false =>
    have h := hb rfl
    rw [if_neg Bool.false_ne_true, if_neg Bool.false_ne_true]
    exact rds_loop d.2.2.2.1 s hs (d.2.2.2.1.size / 4) (by omega) (by omega) _ _ _ (d.2.2.2.1.size / 4) k 0 d.2.2.2.2.1 [] (by omega) (by omega) (by omega) rfl (by omega)
theorem rdset_f (s : ByteArray) (hs : s.size ≤ 9223372036854775807) (k : Nat) (hk : 70051 < k) : platformfwref07_DecodeSet.f k s = some (dsetS s) := by
  unfold platformfwref07_DecodeSet.f dsetS
  rw [rdecode_f s hs k (by omega), Option.bind_some]
  have hok := @dec_ok s
  generalize decS s = d at *
  by_cases he : d.2.2.2.2.2 = 0
  · have ho := hok he
    have hw : wrap64 ((d.2.2.2.1.size : Int) / 4) = ((d.2.2.2.1.size / 4 : Nat) : Int) := by unfold wrap64; omega
    have hT := rds_j0 d s hs (by omega) (by omega) true (fun h => by cases h) k (by omega)
    rw [if_pos rfl] at hT
    rw [if_pos he, if_pos he, hw, hT]
    unfold dirB
    by_cases h1 : d.1.toList = ([82, 83, 68, 84] : List UInt8)
    · rw [if_pos h1, decide_eq_true h1, Bool.true_and]
      by_cases h2 : d.2.1 = 1
      · rw [if_pos h2, decide_eq_true h2, Bool.true_and]
        by_cases h3 : d.2.2.1.toList = ([80, 76, 65, 84, 70, 87] : List UInt8)
        · rw [if_pos h3, decide_eq_true h3, Bool.true_and]
          by_cases h4 : ((d.2.2.2.1.size / 4 : Nat) : Int) = 0
          · rw [if_pos h4]
            by_cases h5 : 0 < d.2.2.2.1.size
            · rw [decide_eq_false (show ¬ d.2.2.2.1.size % 4 = 0 by omega)]; simp
            · rw [decide_eq_false h5]; simp
          · rw [if_neg h4, decide_eq_true (show 0 < d.2.2.2.1.size by omega), Bool.true_and]
            by_cases h5 : ((d.2.2.2.1.size : Int) % 4) = 0
            · rw [if_pos h5, decide_eq_true (show d.2.2.2.1.size % 4 = 0 by omega), Bool.true_and]
              by_cases h6 : d.2.2.2.1.size / 4 ≤ 16
              · have hF := rds_j0 d s hs (by omega) (by omega) false (fun _ => ⟨by omega, by omega, h6⟩) k (by omega)
                rw [if_neg Bool.false_ne_true] at hF
                rw [decide_eq_false (show ¬ ((d.2.2.2.1.size / 4 : Nat) : Int) > 16 by omega), hF, decide_eq_true h6, if_pos rfl]
              · rw [decide_eq_true (show ((d.2.2.2.1.size / 4 : Nat) : Int) > 16 by omega), hT, decide_eq_false h6, if_neg Bool.false_ne_true]
            · rw [if_neg h5, decide_eq_false (show ¬ d.2.2.2.1.size % 4 = 0 by omega)]; simp
        · rw [if_neg h3, decide_eq_false h3]; simp
      · rw [if_neg h2, decide_eq_false h2]; simp
    · rw [if_neg h1, decide_eq_false h1]; simp
  · rw [if_neg he, if_neg he]
/-! ### decodes -/
theorem tab_loop (l : List S23) (hl : l.length ≤ 1000000) (d : Nat) : ∀ (k : Nat) (i : Int), 0 ≤ i → (l.length : Int) - i = d → d < k → api_Table.l0 k l l i = some true := by
  induction d with
  | zero =>
    intro k i h0 hd hk
    obtain ⟨k, rfl⟩ : ∃ m, k = m + 1 := ⟨k - 1, by omega⟩
    rw [api_Table.l0, if_neg (by omega)]
  | succ d ih =>
    intro k i h0 hd hk
    obtain ⟨k, rfl⟩ : ∃ m, k = m + 1 := ⟨k - 1, by omega⟩
    rw [api_Table.l0, if_pos (by omega), if_pos h0, if_pos (by omega), if_neg (by simp), w1 h0 (n := l.length) (by omega) (by omega)]
    exact ih k (i + 1) (by omega) (by omega) (by omega)
theorem tab_eq (l : List S23) (hl : l.length ≤ 1000000) (k : Nat) (hk : l.length < k) : api_Table.f k l l = some true := by
  unfold api_Table.f
  rw [if_pos rfl]
  exact tab_loop l hl l.length k 0 (by omega) (by omega) hk
theorem dsLoop_len (B s : ByteArray) (m : Nat) : ∀ (i : Nat) (at_ : Int) (acc : List S23), (dsLoop B s m i at_ acc).1.length ≤ acc.length + m := by
  induction m with
  | zero =>
    intro i at_ acc
    rw [dsLoop]
    split
    · exact Nat.le_refl _
    · exact Nat.zero_le _
  | succ m ih =>
    intro i at_ acc
    rw [dsLoop]
    split
    · split
      · split
        · exact Nat.zero_le _
        · refine Nat.le_trans (ih _ _ _) ?_
          rw [List.length_append, List.length_singleton]; omega
      · exact Nat.zero_le _
    · exact Nat.zero_le _
theorem dset_len (s : ByteArray) : (dsetS s).1.length ≤ 16 := by
  unfold dsetS
  split
  · split
    · rename_i h
      unfold dirB at h
      simp only [Bool.and_eq_true, decide_eq_true_eq] at h
      have := dsLoop_len (decS s).2.2.2.1 s ((decS s).2.2.2.1.size / 4) 0 (decS s).2.2.2.2.1 []
      have h6 := h.2.2.2.2.2
      simp only [List.length_nil] at this
      omega
    · exact Nat.zero_le _
  · exact Nat.zero_le _
theorem decodes_f (s : ByteArray) (hs : s.size ≤ 9223372036854775807) (k : Nat) (hk : 70060 < k) : platformfwlaw07_decodes.f k s = some true := by
  unfold platformfwlaw07_decodes.f
  have hl := dset_len s
  rw [decode_f s hs k (by omega), Option.bind_some, rdecode_f s hs k (by omega), Option.bind_some, dset_f s hs k (by omega), Option.bind_some, rdset_f s hs k (by omega), Option.bind_some]
  generalize decS s = d at *
  generalize dsetS s = e at *
  rw [if_pos (by simp), if_pos rfl, if_pos rfl, tab_eq e.1 (by omega) k (by omega), Option.bind_some, if_pos rfl, beq_self_eq_true]
end Go.Proofs.YtkpaglpophfeeaaDoor.Sp
