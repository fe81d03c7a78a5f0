import Derived.Test.YtkpaglpophfeeaaDoorSp4
namespace Go.Proofs.YtkpaglpophfeeaaDoor.Sp
open Go.RowKit Go.Proofs.YtkpaglpophfeeaaDoorW.PrintWords Go.Proofs.YtkpaglpophfeeaaDoorW.PrintLast Go.Proofs.YtkpaglpophfeeaaDoorW.PrintMore Go.Proofs.YtkpaglpophfeeaaDoor.PA
set_option linter.unusedVariables false
set_option linter.unusedSimpArgs false

theorem bt_list (s : ByteArray) (i : Int) : bt s i = ((s.data.toList.getD i.toNat 0).toNat : Int) := by
  unfold bt
  by_cases h : i.toNat < s.size
  · rw [dif_pos h, List.getD_eq_getElem?_getD, List.getElem?_eq_getElem (by rw [size_data]; exact h)]
    rfl
  · rw [dif_neg h, List.getD_eq_getElem?_getD, List.getElem?_eq_none (by rw [size_data]; omega)]
    rfl
theorem bt_extract (s : ByteArray) (a b : Nat) (i : Int) (h0 : 0 ≤ i) (h : (a : Int) + i < b) : bt (s.extract a b) i = bt s (a + i) := by
  rw [bt_list, bt_list, Lib.extract_data]
  have e : ((a : Int) + i).toNat = a + i.toNat := by omega
  rw [e, List.getD_eq_getElem?_getD, List.getD_eq_getElem?_getD, List.getElem?_take_of_lt (by omega), List.getElem?_drop]
theorem extract_size (s : ByteArray) (a b : Nat) (h : b ≤ s.size) : (s.extract a b).size = b - a := by
  rw [ByteArray.size_extract, Nat.min_eq_left h]
/-! ### Decode -/
def trimS (s : ByteArray) : ByteArray := ⟨(Lib.trimRightB s.data.toList 0).toArray⟩
def nS (s : ByteArray) : Int := num4 (bt s 4) (bt s 5) (bt s 6) (bt s 7)
abbrev Dec := ByteArray × Int × ByteArray × ByteArray × Int × Int
def bad (e : Int) : Dec := ((⟨#[]⟩ : ByteArray), 0, (⟨#[]⟩ : ByteArray), (⟨#[]⟩ : ByteArray), 0, e)
def decS (s : ByteArray) : Dec :=
  if s.size < 16 then bad 4
  else if sigB (s.extract 0 4) = false ∨ nS s < 16 ∨ 65552 < nS s then bad 3
  else if (s.size : Int) < nS s then bad 4
  else if sumS (s.extract 0 (nS s).toNat) ≠ 0 then bad 5
  else (s.extract 0 4, bt s 8, trimS (s.extract 10 16), s.extract 16 (nS s).toNat, nS s, 0)
theorem nS_bd (s : ByteArray) : 0 ≤ nS s ∧ nS s ≤ 4294967295 := by
  have b0 := bt_range s 4
  have b1 := bt_range s 5
  have b2 := bt_range s 6
  have b3 := bt_range s 7
  unfold nS num4
  omega
theorem num_extract (s : ByteArray) (b : Nat) (h : 8 ≤ b) : numS (s.extract 4 b) = nS s := by
  unfold numS nS
  rw [bt_extract s 4 b 0 (by omega) (by omega), bt_extract s 4 b 1 (by omega) (by omega), bt_extract s 4 b 2 (by omega) (by omega), bt_extract s 4 b 3 (by omega) (by omega)]
  rfl
theorem trim_f (s : ByteArray) (h : s.size ≤ 9223372036854775807) : strings_TrimRight.f s (⟨#[0]⟩ : ByteArray) = some (trimS s) := by
  unfold strings_TrimRight.f trimS
  rw [if_pos ⟨rfl, h⟩]
theorem dec_j0 (s : ByteArray) (h16 : 16 ≤ s.size) (hs : s.size ≤ 9223372036854775807) (n : Int) (n0 : 0 ≤ n) (n1 : 16 ≤ n ∨ n < 16) (b : Bool) (hb : b = false → 16 ≤ n ∧ n ≤ 65552) (k : Nat) (hk : 70000 < k) :
    sdt_Decode.j0 k s n b = some (if b = true then bad 3 else if (s.size : Int) < n then bad 4 else if sumS (s.extract 0 n.toNat) ≠ 0 then bad 5 else (s.extract 0 4, bt s 8, trimS (s.extract 10 16), s.extract 16 n.toNat, n, 0)) := by
  obtain ⟨k, rfl⟩ : ∃ m, k = m + 1 := ⟨k - 1, by omega⟩
  rw [sdt_Decode.j0]
  cases b with
  | true => rw [if_pos rfl, if_pos rfl]; rfl
  | false =>
    have hn := hb rfl
    rw [if_neg Bool.false_ne_true, if_neg Bool.false_ne_true]
    by_cases hl : (s.size : Int) < n
    · rw [if_pos hl, if_pos hl]; rfl
    · have b8 := bt_range s 8
      rw [if_neg hl, if_neg hl, if_pos n0, if_pos (by omega), sum_f _ (by rw [extract_size _ _ _ (by omega)]; omega) k (by rw [extract_size _ _ _ (by omega)]; omega), Option.bind_some]
      by_cases hz : sumS (s.extract 0 n.toNat) = 0
      · rw [if_pos hz, if_neg (show ¬ (sumS (s.extract 0 n.toNat) ≠ 0) from fun h => h hz), if_pos (by omega), if_pos (by omega), trim_f _ (by rw [extract_size _ _ _ (by omega)]; omega), Option.bind_some, if_pos (by omega), if_pos (by omega), if_pos (by omega), if_pos hn.1, w64 b8.1 (by omega)]
      · rw [if_neg hz, if_pos hz]; rfl
theorem decode_f (s : ByteArray) (hs : s.size ≤ 9223372036854775807) (k : Nat) (hk : 70001 < k) : sdt_Decode.f k s = some (decS s) := by
  unfold sdt_Decode.f decS
  by_cases h16 : s.size < 16
  · rw [if_pos (by omega), if_pos h16]; rfl
  · have hb := nS_bd s
    rw [if_neg (by omega), if_neg h16, if_pos (by omega), number_f _ (by rw [extract_size _ _ _ (Nat.le_refl _)]; omega) k (by omega), Option.bind_some, num_extract s s.size (by omega), if_pos (by omega), sig_f _ (by rw [extract_size _ _ _ (by omega)]; omega) k (by rw [extract_size _ _ _ (by omega)]; omega), Option.bind_some]
    cases hg : sigB (s.extract 0 4)
    · rw [if_neg Bool.false_ne_true, dec_j0 s (by omega) hs _ hb.1 (by omega) true (fun h => by cases h) k (by omega), if_pos rfl, if_pos (.inl rfl)]
    · rw [if_pos rfl]
      by_cases h1 : nS s < 16
      · rw [if_pos h1, dec_j0 s (by omega) hs _ hb.1 (by omega) true (fun h => by cases h) k (by omega), if_pos rfl, if_pos (.inr (.inl h1))]
      · rw [if_neg h1]
        by_cases h2 : 65552 < nS s
        · rw [decide_eq_true (show nS s > 65552 from h2), dec_j0 s (by omega) hs _ hb.1 (by omega) true (fun h => by cases h) k (by omega), if_pos rfl, if_pos (.inr (.inr h2))]
        · rw [decide_eq_false (show ¬ nS s > 65552 from h2), dec_j0 s (by omega) hs _ hb.1 (by omega) false (fun _ => ⟨by omega, by omega⟩) k (by omega), if_neg Bool.false_ne_true, if_neg (show ¬ (true = false ∨ nS s < 16 ∨ 65552 < nS s) by rintro (h | h | h); cases h; exact h1 h; exact h2 h)]
/-! ### Decode of the reference -/
theorem snoc_of (s : ByteArray) (h : 0 < s.size) : ∃ (l : List UInt8) (x : UInt8), s.data.toList = l ++ [x] ∧ l.length = s.size - 1 ∧ bt s ((s.size : Int) - 1) = (x.toNat : Int) ∧ (s.extract 0 (s.size - 1)).data.toList = l := by
  obtain ⟨c, hc, hl⟩ := drop_bt s ((s.size : Int) - 1) (by omega) (by omega)
  rw [drop_end s ((s.size : Int) - 1 + 1) (by omega), show ((s.size : Int) - 1).toNat = s.size - 1 by omega] at hl
  refine ⟨s.data.toList.take (s.size - 1), c, ?_, ?_, hc, ?_⟩
  · rw [← hl, List.take_append_drop]
  · rw [List.length_take, size_data]; omega
  · rw [Lib.extract_data, List.drop_zero, Nat.sub_zero]
theorem trim_snoc (l : List UInt8) (x : UInt8) : Lib.trimRightB (l ++ [x]) 0 = if x = 0 then Lib.trimRightB l 0 else l ++ [x] := by
  unfold Lib.trimRightB
  rw [List.reverse_append, List.reverse_singleton, List.singleton_append, List.dropWhile_cons]
  by_cases h : x = 0
  · subst h; simp
  · rw [if_neg (by simpa using h), if_neg h]; simp
theorem trimS_step (s : ByteArray) (h : 0 < s.size) : trimS s = if bt s ((s.size : Int) - 1) = 0 then trimS (s.extract 0 (s.size - 1)) else s := by
  obtain ⟨l, x, h1, h2, h3, h4⟩ := snoc_of s h
  unfold trimS
  rw [h1, trim_snoc, h3, h4]
  by_cases hx : x = 0
  · subst hx; rfl
  · have : ¬ (x.toNat : Int) = 0 := fun e => hx (UInt8.toNat_inj.1 (by show x.toNat = 0; omega))
    rw [if_neg hx, if_neg this, ← h1]
theorem trimS_nil (s : ByteArray) (h : s.size = 0) : trimS s = s := by
  have : s.data.toList = [] := List.eq_nil_of_length_eq_zero (by rw [size_data]; exact h)
  unfold trimS
  rw [this]
  have e : s = ⟨#[]⟩ := by
    obtain ⟨d⟩ := s
    congr
    exact Array.toList_inj.1 this
  rw [e]; rfl
theorem rdec_l0 (s : ByteArray) (h16 : 16 ≤ s.size) (n : Int) (n0 : 16 ≤ n) (n1 : n ≤ (s.size : Int)) (d : Nat) : ∀ (k : Nat) (x : ByteArray), x.size = d → d ≤ 16 → d < k →
    platformfwref07_Decode.l0 k s n x = some (s.extract 0 4, bt s 8, trimS x, s.extract 16 n.toNat, n, 0) := by
  have b8 := bt_range s 8
  induction d with
  | zero =>
    intro k x hx hd hk
    obtain ⟨k, rfl⟩ : ∃ m, k = m + 1 := ⟨k - 1, by omega⟩
    rw [platformfwref07_Decode.l0]
    have : x.toList = [] := by rw [Lib.toList_data]; exact List.eq_nil_of_length_eq_zero (by rw [size_data]; exact hx)
    rw [if_pos this, if_pos (by omega), if_pos (by omega), if_pos (by omega), if_pos n0, if_pos n1, w64 b8.1 (by omega), trimS_nil x hx]
  | succ d ih =>
    intro k x hx hd hk
    obtain ⟨k, rfl⟩ : ∃ m, k = m + 1 := ⟨k - 1, by omega⟩
    rw [platformfwref07_Decode.l0]
    have hne : ¬ x.toList = [] := fun e => by
      rw [Lib.toList_data] at e
      have := size_data x
      rw [e] at this
      simp at this
      omega
    have hw : wrap64 ((x.size : Int) - 1) = (x.size : Int) - 1 := by unfold wrap64; omega
    rw [if_neg hne, hw, if_pos (by omega), if_pos (by omega), trimS_step x (by omega)]
    by_cases hz : bt x ((x.size : Int) - 1) = 0
    · rw [if_pos hz, if_pos hz, if_pos (by omega), show ((x.size : Int) - 1).toNat = x.size - 1 by omega]
      exact ih k _ (by rw [extract_size _ _ _ (by omega)]; omega) (by omega) (by omega)
    · rw [if_neg hz, if_neg hz, if_pos (by omega), if_pos (by omega), if_pos (by omega), if_pos n0, if_pos n1, w64 b8.1 (by omega)]
theorem rdec_j0 (s : ByteArray) (h16 : 16 ≤ s.size) (hs : s.size ≤ 9223372036854775807) (n : Int) (n0 : 0 ≤ n) (b : Bool) (hb : b = false → 16 ≤ n ∧ n ≤ 65552) (k : Nat) (hk : 70000 < k) :
    platformfwref07_Decode.j0 k s n b = some (if b = true then bad 3 else if (s.size : Int) < n then bad 4 else if sumS (s.extract 0 n.toNat) ≠ 0 then bad 5 else (s.extract 0 4, bt s 8, trimS (s.extract 10 16), s.extract 16 n.toNat, n, 0)) := by
  obtain ⟨k, rfl⟩ : ∃ m, k = m + 1 := ⟨k - 1, by omega⟩
  rw [platformfwref07_Decode.j0]
  cases b with
  | true => rw [if_pos rfl, if_pos rfl]; rfl
  | false =>
    have hn := hb rfl
    rw [if_neg Bool.false_ne_true, if_neg Bool.false_ne_true]
    by_cases hl : (s.size : Int) < n
    · rw [if_pos hl, if_pos hl]; rfl
    · rw [if_neg hl, if_neg hl, if_pos n0, if_pos (by omega), rsum_f _ (by rw [extract_size _ _ _ (by omega)]; omega) k (by rw [extract_size _ _ _ (by omega)]; omega), Option.bind_some]
      by_cases hz : sumS (s.extract 0 n.toNat) = 0
      · rw [if_pos hz, if_neg (show ¬ (sumS (s.extract 0 n.toNat) ≠ 0) from fun h => h hz), if_pos (by omega), if_pos (by omega), rdec_l0 s h16 n hn.1 (by omega) 6 k _ (by rw [extract_size _ _ _ (by omega)]) (by omega) (by omega)]
      · rw [if_neg hz, if_pos hz]; rfl
theorem rdecode_f (s : ByteArray) (hs : s.size ≤ 9223372036854775807) (k : Nat) (hk : 70001 < k) : platformfwref07_Decode.f k s = some (decS s) := by
  unfold platformfwref07_Decode.f decS
  by_cases h16 : s.size < 16
  · rw [if_pos (by omega), if_pos h16]; rfl
  · have hb := nS_bd s
    rw [if_neg (by omega), if_neg h16, if_pos (by omega), if_pos (by omega), rnumber_f _ (by rw [extract_size _ _ _ (by omega)]; omega), Option.bind_some, num_extract s 8 (by omega), if_pos (by omega), if_pos (by omega), rsig_f _ k (by omega), Option.bind_some]
    cases hg : sigB (s.extract 0 4)
    · rw [if_neg Bool.false_ne_true, rdec_j0 s (by omega) hs _ hb.1 true (fun h => by cases h) k (by omega), if_pos rfl, if_pos (.inl rfl)]
    · rw [if_pos rfl]
      by_cases h1 : nS s < 16
      · rw [if_pos h1, rdec_j0 s (by omega) hs _ hb.1 true (fun h => by cases h) k (by omega), if_pos rfl, if_pos (.inr (.inl h1))]
      · rw [if_neg h1]
        by_cases h2 : 65552 < nS s
        · rw [decide_eq_true (show nS s > 65552 from h2), rdec_j0 s (by omega) hs _ hb.1 true (fun h => by cases h) k (by omega), if_pos rfl, if_pos (.inr (.inr h2))]
        · rw [decide_eq_false (show ¬ nS s > 65552 from h2), rdec_j0 s (by omega) hs _ hb.1 false (fun _ => ⟨by omega, by omega⟩) k (by omega), if_neg Bool.false_ne_true, if_neg (show ¬ (true = false ∨ nS s < 16 ∨ 65552 < nS s) by rintro (h | h | h); cases h; exact h1 h; exact h2 h)]
end Go.Proofs.YtkpaglpophfeeaaDoor.Sp
