import Derived.Test.YtdfmjmabdggcjaaPzG
namespace Go.Proofs.Ytdfmjmabdggcjaa.Pz
open Go.RowKit Go.Proofs.YtdfmjmabdggcjaaW.PrintWords
set_option linter.unusedVariables false
set_option linter.unusedSimpArgs false
/-! ### The plain law of pagezip: what is packed is read back -/
theorem tb1_digit (ts : List Int) (hts : ∀ t ∈ ts, 0 ≤ t ∧ t ≤ 3) (i : Nat) : tb1 ts (i / 4) / 4 ^ (i % 4) % 4 = ts.getD i 0 := by
  have g0 := getD_tag hts (4 * (i / 4))
  have g1 := getD_tag hts (4 * (i / 4) + 1)
  have g2 := getD_tag hts (4 * (i / 4) + 2)
  have g3 := getD_tag hts (4 * (i / 4) + 3)
  unfold tb1
  have hr : i % 4 = 0 ∨ i % 4 = 1 ∨ i % 4 = 2 ∨ i % 4 = 3 := by omega
  rcases hr with hr | hr | hr | hr
  · rw [hr]
    have e : i = 4 * (i / 4) := by omega
    have e2 : ts.getD i 0 = ts.getD (4 * (i / 4)) 0 := by rw [← e]
    rw [e2]
    omega
  · rw [hr]
    have e : i = 4 * (i / 4) + 1 := by omega
    have e2 : ts.getD i 0 = ts.getD (4 * (i / 4) + 1) 0 := by rw [← e]
    rw [e2]
    omega
  · rw [hr]
    have e : i = 4 * (i / 4) + 2 := by omega
    have e2 : ts.getD i 0 = ts.getD (4 * (i / 4) + 2) 0 := by rw [← e]
    rw [e2]
    omega
  · rw [hr]
    have e : i = 4 * (i / 4) + 3 := by omega
    have e2 : ts.getD i 0 = ts.getD (4 * (i / 4) + 3) 0 := by rw [← e]
    rw [e2]
    omega
theorem tb_range (ts : List Int) (hts : ∀ t ∈ ts, 0 ≤ t ∧ t ≤ 3) : ∀ x ∈ tb ts, 0 ≤ x ∧ x < 256 := by
  intro x hx
  unfold tb at hx
  rw [List.mem_map] at hx
  obtain ⟨j, _, rfl⟩ := hx
  have g0 := getD_tag hts (4 * j)
  have g1 := getD_tag hts (4 * j + 1)
  have g2 := getD_tag hts (4 * j + 2)
  have g3 := getD_tag hts (4 * j + 3)
  unfold tb1
  omega
theorem packL_range {s : St} {k : Nat} (h : Good s k) : ∀ x ∈ packL s, 0 ≤ x ∧ x < 256 := by
  intro x hx
  simp only [packL, List.mem_cons, List.mem_append] at hx
  rcases hx with rfl | hx | hx
  · omega
  · exact tb_range _ h.tag x hx
  · exact h.byte x hx
theorem bytesOf_packS (p : ByteArray) : bytesOf (strOfNums (packS p)) = packS p := bytesOf_str _ (packL_range (good_pst p 64))
theorem bt_eq (s : ByteArray) (i : Nat) : bt s (i : Int) = (bytesOf s).getD i 0 := by
  rw [List.getD_eq_getElem?_getD, rdq]
theorem tagsS_pack (p : ByteArray) : tagsS (strOfNums (packS p)) = (pst p 64).ts := by
  have hg := good_pst p 64
  apply List.ext_getElem
  · simp [tagsS, hg.len]
  · intro i h1 h2
    have hi : i < 64 := by simpa [tagsS] using h1
    simp only [tagsS, List.getElem_map, List.getElem_range]
    unfold tagAt
    rw [bt_eq, bytesOf_packS]
    have h := rd_packL (pst p 64) (i / 4) (by omega)
    unfold rd at h
    rw [show (1 + ((i / 4 : Nat) : Int)).toNat = 1 + i / 4 by omega] at h
    show (packL (pst p 64)).getD (1 + i / 4) 0 / _ % 4 = _
    rw [h, tb1_digit _ hg.tag, List.getD_eq_getElem?_getD, List.getElem?_eq_getElem h2]
    rfl
theorem restS_pack (p : ByteArray) : restS (strOfNums (packS p)) = (pst p 64).out := by
  unfold restS
  rw [bytesOf_packS]
  unfold packS packL
  rw [show (17 : Nat) = 16 + 1 by rfl, List.drop_succ_cons, List.drop_left' (tb_length _)]
theorem unS_pack (p : ByteArray) : unS (strOfNums (packS p)) = some (ws p 64, []) := by
  unfold unS
  rw [tagsS_pack, restS_pack]
  obtain ⟨ts, es, h1, h2, h3, h4⟩ := un_run (ws := ws p 64) (by
    intro w hw
    unfold ws at hw
    rw [List.mem_map] at hw
    obtain ⟨k, _, rfl⟩ := hw
    exact wordS_range p k) st0 []
  rw [List.append_nil] at h4
  have e1 : (pst p 64).ts = ts := by unfold pst; rw [h1]; simp [st0]
  have e2 : (pst p 64).out = es := by unfold pst; rw [h1]; simp [st0]
  rw [e1, e2]
  exact h4
theorem pageB_wordS (s : ByteArray) (k : Nat) : [b0 (wordS s k), b1 (wordS s k), b2 (wordS s k), b3 (wordS s k)] = [bt s ((4 * k : Nat) : Int), bt s ((4 * k + 1 : Nat) : Int), bt s ((4 * k + 2 : Nat) : Int), bt s ((4 * k + 3 : Nat) : Int)] := by
  have r0 := bt_range s ((4 * k : Nat) : Int); have r1 := bt_range s ((4 * k + 1 : Nat) : Int); have r2 := bt_range s ((4 * k + 2 : Nat) : Int); have r3 := bt_range s ((4 * k + 3 : Nat) : Int)
  have hw : wordS s k = bt s ((4 * k : Nat) : Int) + 256 * bt s ((4 * k + 1 : Nat) : Int) + 65536 * bt s ((4 * k + 2 : Nat) : Int) + 16777216 * bt s ((4 * k + 3 : Nat) : Int) := rfl
  rw [hw]
  unfold b0 b1 b2 b3
  simp only [List.cons.injEq, and_true]
  omega
theorem pageB_ws (s : ByteArray) (k : Nat) (hk : 4 * k ≤ s.size) : pageB (ws s k) = (bytesOf s).take (4 * k) := by
  induction k with
  | zero => simp [ws, pageB]
  | succ k ih =>
    have hl : (bytesOf s).length = s.size := bytesOf_length s
    rw [show ws s (k + 1) = ws s k ++ [wordS s k] by simp [ws, List.range_succ], pageB_snoc, ih (by omega), pageB_wordS, bt_eq, bt_eq, bt_eq, bt_eq]
    apply List.ext_getElem?
    intro i
    rw [List.getElem?_append, List.length_take, hl, Nat.min_eq_left (by omega), List.getElem?_take, List.getElem?_take]
    by_cases h : i < 4 * k
    · rw [if_pos h, if_pos h, if_pos (by omega)]
    · rw [if_neg h]
      have g : ∀ j, j < s.size → (bytesOf s)[j]? = some ((bytesOf s).getD j 0) := by
        intro j hj
        rw [List.getD_eq_getElem?_getD, List.getElem?_eq_getElem (by omega)]
        rfl
      rcases (show i = 4 * k ∨ i = 4 * k + 1 ∨ i = 4 * k + 2 ∨ i = 4 * k + 3 ∨ 4 * k + 4 ≤ i by omega) with rfl | rfl | rfl | rfl | h2
      · rw [if_pos (by omega), g _ (by omega)]; simp
      · rw [if_pos (by omega), g _ (by omega)]; simp
      · rw [if_pos (by omega), g _ (by omega)]; simp
      · rw [if_pos (by omega), g _ (by omega)]; simp
      · rw [if_neg (by omega), List.getElem?_eq_none (by simp; omega)]
theorem page_back (p : ByteArray) (hp : p.size = 256) : strOfNums (pageB (ws p 64)) = p := by
  apply bytesOf_inj
  rw [pageB_ws p 64 (by omega), List.take_of_length_le (by rw [bytesOf_length]; omega), str_bytesOf]
theorem compE_zero {p : ByteArray} (h : compE p = 0) : p.size = 256 := by
  unfold compE at h
  by_cases hp : p.size = 256
  · exact hp
  · rw [if_neg hp] at h; omega
theorem bt_packS (p : ByteArray) : bt (strOfNums (packS p)) 0 = 1 := by
  have := bt_eq (strOfNums (packS p)) 0
  rw [bytesOf_packS] at this
  exact this
theorem packS_length (p : ByteArray) : (packS p).length = 17 + (pst p 64).out.length := packL_length _
theorem zero_cons (p : ByteArray) : bytesOf ((⟨#[0]⟩ : ByteArray) ++ p) = 0 :: bytesOf p := by
  rw [bytesOf_append]; rfl
theorem zero_size (p : ByteArray) : ((⟨#[0]⟩ : ByteArray) ++ p).size = p.size + 1 := by
  rw [← bytesOf_length, zero_cons, List.length_cons, bytesOf_length]
theorem zero_extract (p : ByteArray) : ((⟨#[0]⟩ : ByteArray) ++ p).extract 1 ((⟨#[0]⟩ : ByteArray) ++ p).size = p := by
  apply bytesOf_inj
  rw [bytesOf_extract, zero_cons, zero_size, List.drop_succ_cons, List.drop_zero, List.take_of_length_le (by rw [bytesOf_length]; omega)]
theorem zero_bt (p : ByteArray) : bt ((⟨#[0]⟩ : ByteArray) ++ p) 0 = 0 := by
  have := bt_eq ((⟨#[0]⟩ : ByteArray) ++ p) 0
  rw [zero_cons] at this
  exact this
/-- Every compressed page is read back. -/
theorem pre_comp (p : ByteArray) (hp : p.size = 256) : pre (compS p) = some p := by
  unfold compS
  rw [if_pos hp]
  by_cases h : (packS p).length ≤ 256
  · rw [if_pos h]
    unfold pre
    have hs : (strOfNums (packS p)).size = (packS p).length := strOfNums_size _
    rw [if_neg (by rw [hs]; omega), if_pos ⟨by rw [hs, packS_length]; omega, bt_packS p⟩, unS_pack]
    simp only
    rw [page_back p hp]
  · rw [if_neg h]
    unfold pre
    rw [if_pos ⟨by rw [zero_size]; omega, zero_bt p⟩, zero_extract]
theorem dec_comp (p : ByteArray) (hp : p.size = 256) : decR (compS p) = .returned (.tuple #[.string p, .int .i64 0]) := by
  unfold decR
  rw [pre_comp p hp]
  simp only
  simp only [compE, if_pos hp, and_self, if_true]
/-- What is read wholly or not, packed again it is the same only if nothing was left over. -/
theorem un_left {s : ByteArray} {wl : List Int} {x : Int} {r : List Int} (h1 : bt s 0 = 1) (hu : unS s = some (wl, x :: r)) (q : ByteArray) (hq : compE q = 0) : compS q ≠ s := by
  intro e
  have hs := compE_zero hq
  subst e
  unfold compS at h1 hu
  rw [if_pos hs] at h1 hu
  by_cases h : (packS q).length ≤ 256
  · rw [if_pos h, unS_pack] at hu
    injection hu with hu
    injection hu with _ hu
    cases hu
  · rw [if_neg h, zero_bt] at h1
    omega

/-! ### The reference's Decompress answers the same -/
def runpackR (s : ByteArray) : Ending :=
  match unS s with
  | none => .returned (.tuple #[.string ByteArray.empty, .bool false])
  | some (ws, _) => .returned (.tuple #[.string (strOfNums (pageB ws)), .bool true])
def rpre (s : ByteArray) : Option ByteArray :=
  if s.size = 257 ∧ bt s 0 = 0 then some (s.extract 1 s.size)
  else if 17 ≤ s.size ∧ bt s 0 = 1 then (match unS s with | some (ws, _) => some (strOfNums (pageB ws)) | none => none) else none
def decOf (s : ByteArray) : Option ByteArray → Ending
  | none => .returned (.tuple #[.string ByteArray.empty, .int .i64 3])
  | some p => if compE p = 0 ∧ compS p = s then .returned (.tuple #[.string p, .int .i64 0]) else .returned (.tuple #[.string ByteArray.empty, .int .i64 3])
theorem decR_of (s : ByteArray) : decR s = decOf s (pre s) := by
  unfold decR decOf
  cases pre s <;> rfl
theorem rdec_eq (s : ByteArray) : decOf s (rpre s) = decR s := by
  rw [decR_of]
  unfold rpre pre
  by_cases h0 : s.size = 257 ∧ bt s 0 = 0
  · rw [if_pos h0, if_pos h0]
  · rw [if_neg h0, if_neg h0]
    by_cases h1 : 17 ≤ s.size ∧ bt s 0 = 1
    · rw [if_pos h1, if_pos h1]
      cases hu : unS s with
      | none => rfl
      | some q =>
        obtain ⟨wl, r⟩ := q
        cases r with
        | nil => rfl
        | cons x r =>
          show (if compE _ = 0 ∧ compS _ = s then _ else _) = _
          exact if_neg (fun h => un_left h1.2 hu _ h.1 h.2)
    · rw [if_neg h1, if_neg h1]
end Go.Proofs.Ytdfmjmabdggcjaa.Pz
