import Derived.Test.YtkpaglpophfeeaaDoorPAx2
import Derived.Test.YtkpaglpophfeeaaDoorPAx5
import Derived.Lib.IndexBytes
namespace Go.Proofs.YtkpaglpophfeeaaDoor.Sp
open Go.RowKit Go.Proofs.YtkpaglpophfeeaaDoorW.PrintWords Go.Proofs.YtkpaglpophfeeaaDoorW.PrintLast Go.Proofs.YtkpaglpophfeeaaDoorW.PrintMore Go.Proofs.YtkpaglpophfeeaaDoor.PA
set_option linter.unusedVariables false
set_option linter.unusedSimpArgs false

/-! ### Bytes -/
def sumL : List UInt8 → Int
  | [] => 0
  | c :: l => (c.toNat : Int) + sumL l
def sumS (s : ByteArray) : Int := sumL s.data.toList % 256
theorem sumL_append : ∀ (a b : List UInt8), sumL (a ++ b) = sumL a + sumL b
  | [], b => by show sumL b = 0 + sumL b; omega
  | c :: a, b => by show (c.toNat : Int) + sumL (a ++ b) = (c.toNat : Int) + sumL a + sumL b; rw [sumL_append a b]; omega
theorem w1 {i : Int} {n : Nat} (h0 : 0 ≤ i) (h : i < (n : Int)) (hn : n ≤ 9223372036854775807) : wrap64 (i + 1) = i + 1 := by
  unfold wrap64; omega
theorem size_data (s : ByteArray) : s.data.toList.length = s.size := (Lib.size_eq s).symm
theorem drop_bt (s : ByteArray) (i : Int) (h0 : 0 ≤ i) (h : i < (s.size : Int)) : ∃ c : UInt8, bt s i = (c.toNat : Int) ∧ s.data.toList.drop i.toNat = c :: s.data.toList.drop (i + 1).toNat := by
  have hi : i.toNat < s.size := by omega
  have hl : i.toNat < s.data.toList.length := by rw [size_data]; exact hi
  refine ⟨s[i.toNat]'hi, by unfold bt; rw [dif_pos hi], ?_⟩
  rw [List.drop_eq_getElem_cons hl, show (i + 1).toNat = i.toNat + 1 by omega]
  rfl
theorem drop_end (s : ByteArray) (i : Int) (h : i = (s.size : Int)) : s.data.toList.drop i.toNat = [] := by
  rw [List.drop_eq_nil_iff, size_data]; omega
theorem sum_loop (s : ByteArray) (hn : s.size ≤ 9223372036854775807) (d : Nat) : ∀ (k : Nat) (i acc : Int), 0 ≤ i → (s.size : Int) - i = d → d < k → 0 ≤ acc → acc < 256 →
    sdt_Sum.l0 k s acc (s.size : Int) i = some ((acc + sumL (s.data.toList.drop i.toNat)) % 256) := by
  induction d with
  | zero =>
    intro k i acc h0 hd hk a0 a1
    obtain ⟨k, rfl⟩ : ∃ m, k = m + 1 := ⟨k - 1, by omega⟩
    simp only [sdt_Sum.l0]
    rw [if_neg (by omega), drop_end s i (by omega)]
    show some acc = some ((acc + 0) % 256)
    rw [show (acc + 0) % 256 = acc by omega]
  | succ d ih =>
    intro k i acc h0 hd hk a0 a1
    obtain ⟨k, rfl⟩ : ∃ m, k = m + 1 := ⟨k - 1, by omega⟩
    obtain ⟨c, hc, hl⟩ := drop_bt s i h0 (by omega)
    simp only [sdt_Sum.l0]
    rw [if_pos (by omega), if_pos h0, if_pos (by omega), w1 h0 (n := s.size) (by omega) hn, ih k (i + 1) _ (by omega) (by omega) (by omega) (by omega) (by omega), hl, hc]
    show some _ = some ((acc + ((c.toNat : Int) + sumL _)) % 256)
    congr 1
    omega
theorem sum_f (s : ByteArray) (hn : s.size ≤ 9223372036854775807) (k : Nat) (hk : s.size < k) : sdt_Sum.f k s = some (sumS s) := by
  unfold sdt_Sum.f sumS
  rw [sum_loop s hn s.size k 0 0 (by omega) (by omega) hk (by omega) (by omega)]
  rw [show (0 : Int).toNat = 0 by rfl, List.drop_zero]
  congr 1
  omega
/-! ### Signatures -/
def okc (x : Int) : Bool := (decide (65 ≤ x) && decide (x ≤ 90)) || (decide (48 ≤ x) && decide (x ≤ 57))
def oks (l : List UInt8) : Bool := l.all fun c => okc (c.toNat : Int)
def sigB (s : ByteArray) : Bool := oks s.data.toList && decide (s.size = 4)
theorem oks_cons (c : UInt8) (l : List UInt8) : oks (c :: l) = (okc (c.toNat : Int) && oks l) := rfl
theorem sig_loop (s : ByteArray) (hn : s.size ≤ 9223372036854775807) (d : Nat) : ∀ (k : Nat) (i : Int), 0 ≤ i → (s.size : Int) - i = d → d < k →
    sdt_signature.l0 k s (s.size : Int) i = some (oks (s.data.toList.drop i.toNat) && decide (s.size = 4)) := by
  induction d with
  | zero =>
    intro k i h0 hd hk
    obtain ⟨k, rfl⟩ : ∃ m, k = m + 1 := ⟨k - 1, by omega⟩
    simp only [sdt_signature.l0]
    rw [if_neg (by omega), drop_end s i (by omega)]
    show some _ = some (true && _)
    rw [Bool.true_and]
    congr 1
    rw [Bool.eq_iff_iff, decide_eq_true_eq, beq_iff_eq]
    omega
  | succ d ih =>
    intro k i h0 hd hk
    obtain ⟨k, rfl⟩ : ∃ m, k = m + 1 := ⟨k - 1, by omega⟩
    obtain ⟨c, hc, hl⟩ := drop_bt s i h0 (by omega)
    have hi := ih k (i + 1) (by omega) (by omega) (by omega)
    simp only [sdt_signature.l0]
    rw [if_pos (by omega), if_pos h0, if_pos (by omega), w1 h0 (n := s.size) (by omega) hn, hi, hl, oks_cons, hc]
    unfold okc
    by_cases c1 : (c.toNat : Int) ≥ 65
    · rw [if_pos c1, decide_eq_true (show (65 : Int) ≤ c.toNat from c1)]
      by_cases c2 : (c.toNat : Int) ≤ 90
      · rw [if_pos c2, decide_eq_true c2]; rfl
      · rw [if_neg c2, decide_eq_false c2, if_pos (by omega), if_neg (by omega), decide_eq_true (show (48 : Int) ≤ c.toNat by omega), decide_eq_false (show ¬ (c.toNat : Int) ≤ 57 by omega)]; rfl
    · rw [if_neg c1, decide_eq_false (show ¬ (65 : Int) ≤ c.toNat from c1)]
      by_cases c3 : (c.toNat : Int) ≥ 48
      · rw [if_pos c3, decide_eq_true (show (48 : Int) ≤ c.toNat from c3)]
        by_cases c4 : (c.toNat : Int) ≤ 57
        · rw [if_pos c4, decide_eq_true c4]; simp
        · rw [if_neg c4, decide_eq_false c4]; simp
      · rw [if_neg c3, decide_eq_false (show ¬ (48 : Int) ≤ c.toNat from c3)]; simp
theorem sig_f (s : ByteArray) (hn : s.size ≤ 9223372036854775807) (k : Nat) (hk : s.size < k) : sdt_signature.f k s = some (sigB s) := by
  unfold sdt_signature.f sigB
  rw [sig_loop s hn s.size k 0 (by omega) (by omega) hk, show (0 : Int).toNat = 0 by rfl, List.drop_zero]
theorem rsig_loop (s : ByteArray) (h4 : s.size = 4) (d : Nat) : ∀ (k : Nat) (i : Int), 0 ≤ i → (4 : Int) - i = d → d < k →
    platformfwref07_signature.l0 k s i = some (oks (s.data.toList.drop i.toNat)) := by
  induction d with
  | zero =>
    intro k i h0 hd hk
    obtain ⟨k, rfl⟩ : ∃ m, k = m + 1 := ⟨k - 1, by omega⟩
    simp only [platformfwref07_signature.l0]
    rw [if_neg (by omega), drop_end s i (by omega)]
    rfl
  | succ d ih =>
    intro k i h0 hd hk
    obtain ⟨k, rfl⟩ : ∃ m, k = m + 1 := ⟨k - 1, by omega⟩
    obtain ⟨c, hc, hl⟩ := drop_bt s i h0 (by omega)
    have hi := ih k (i + 1) (by omega) (by omega) (by omega)
    simp only [platformfwref07_signature.l0]
    rw [if_pos (by omega), if_pos h0, if_pos (by omega), w1 h0 (n := 4) (by omega) (by omega), hi, hl, oks_cons, hc]
    unfold okc
    by_cases c1 : (c.toNat : Int) < 65
    · rw [if_pos c1, decide_eq_false (show ¬ (65 : Int) ≤ c.toNat by omega)]
      by_cases c3 : (c.toNat : Int) < 48
      · rw [if_pos c3, decide_eq_false (show ¬ (48 : Int) ≤ c.toNat by omega)]; simp
      · rw [if_neg c3, decide_eq_true (show (48 : Int) ≤ c.toNat by omega)]
        by_cases c4 : (c.toNat : Int) > 57
        · rw [if_pos c4, decide_eq_false (show ¬ (c.toNat : Int) ≤ 57 by omega)]; simp
        · rw [if_neg c4, decide_eq_true (show (c.toNat : Int) ≤ 57 by omega)]; simp
    · rw [if_neg c1, decide_eq_true (show (65 : Int) ≤ c.toNat by omega)]
      by_cases c2 : (c.toNat : Int) > 90
      · rw [if_pos c2, decide_eq_false (show ¬ (c.toNat : Int) ≤ 90 by omega), if_neg (by omega), if_pos (by omega), decide_eq_false (show ¬ (c.toNat : Int) ≤ 57 by omega)]; simp
      · rw [if_neg c2, decide_eq_true (show (c.toNat : Int) ≤ 90 by omega)]; simp
theorem rsig_f (s : ByteArray) (k : Nat) (hk : 4 < k) : platformfwref07_signature.f k s = some (sigB s) := by
  unfold platformfwref07_signature.f sigB
  by_cases h4 : s.size = 4
  · rw [if_pos (by omega), rsig_loop s h4 4 k 0 (by omega) (by omega) hk, show (0 : Int).toNat = 0 by rfl, List.drop_zero, decide_eq_true h4, Bool.and_true]
  · rw [if_neg (by omega), decide_eq_false h4, Bool.and_false]
/-! ### Valid -/
def validB (a0 : ByteArray) (a1 : Int) (a2 a3 : ByteArray) : Bool := sigB a0 && (decide (0 ≤ a1) && (decide (a1 ≤ 255) && (decide (a2.size ≤ 6) && (!(decide (0 < a2.size) && decide (bt a2 ((a2.size : Int) - 1) = 0)) && decide (a3.size ≤ 65536)))))
theorem suffix0 (s : ByteArray) (hn : s.size ≤ 9223372036854775807) : strings_HasSuffix.f s (⟨#[0]⟩ : ByteArray) = some (decide (0 < s.size) && decide (bt s ((s.size : Int) - 1) = 0)) := by
  unfold strings_HasSuffix.f stringslite_HasSuffix.f
  have h1 : ((⟨#[0]⟩ : ByteArray).size : Int) = 1 := rfl
  rw [h1]
  by_cases h : 0 < s.size
  · have hw : wrap64 ((s.size : Int) - 1) = (s.size : Int) - 1 := by unfold wrap64; omega
    rw [if_pos (by omega), hw, if_pos (by omega), if_pos (by omega), decide_eq_true h, Bool.true_and]
    simp only [Option.bind_some]
    congr 1
    obtain ⟨c, hc, hl⟩ := drop_bt s ((s.size : Int) - 1) (by omega) (by omega)
    rw [drop_end s ((s.size : Int) - 1 + 1) (by omega)] at hl
    rw [Lib.toList_data, Lib.toList_data, Lib.extract_to_end, hl, hc, Bool.eq_iff_iff, beq_iff_eq, decide_eq_true_eq]
    show [c] = [0] ↔ _
    constructor
    · intro e; injection e with e; subst e; rfl
    · intro e
      have : c.toNat = 0 := by omega
      have : c = 0 := UInt8.toNat_inj.1 this
      rw [this]
  · rw [if_neg (by omega), decide_eq_false h, Bool.false_and]; rfl
theorem ite_and {p : Prop} [Decidable p] {b : Bool} {x : Option Bool} (h : x = some b) : (if p then x else some false) = some (decide p && b) := by
  subst h
  by_cases hp : p
  · rw [if_pos hp, decide_eq_true hp, Bool.true_and]
  · rw [if_neg hp, decide_eq_false hp, Bool.false_and]
theorem ite3 {p q r : Prop} [Decidable p] [Decidable q] [Decidable r] {x : Option Bool} {b : Bool} (h : x = some b) : (if p then if q then if r then x else some false else some false else some false) = some (decide p && (decide q && (decide r && b))) :=
  ite_and (ite_and (ite_and h))
theorem valid_f (a0 : ByteArray) (a1 : Int) (a2 a3 : ByteArray) (k : Nat) (h0 : a0.size ≤ 9223372036854775807) (h2 : a2.size ≤ 9223372036854775807) (hk : a0.size < k) : sdt_Valid.f k a0 a1 a2 a3 = some (validB a0 a1 a2 a3) := by
  unfold sdt_Valid.f validB
  rw [sig_f a0 h0 k hk, suffix0 a2 h2]
  simp only [Option.bind_some]
  cases sigB a0
  · rfl
  · rw [if_pos rfl, Bool.true_and]
    refine (ite3 (b := !(decide (0 < a2.size) && decide (bt a2 ((a2.size : Int) - 1) = 0)) && decide (a3.size ≤ 65536)) ?_).trans ?_
    rotate_left
    · rw [show decide ((a2.size : Int) ≤ 6) = decide (a2.size ≤ 6) from decide_eq_decide.2 (by omega)]
    · cases (decide (0 < a2.size) && decide (bt a2 ((a2.size : Int) - 1) = 0))
      · rw [if_neg (by decide)]
        congr 1
        rw [Bool.not_false, Bool.true_and]
        exact decide_eq_decide.2 (by omega)
      · rfl
theorem rvalid_f (a0 : ByteArray) (a1 : Int) (a2 a3 : ByteArray) (k : Nat) (h2 : a2.size ≤ 9223372036854775807) (hk : 4 < k) : platformfwref07_Valid.f k a0 a1 a2 a3 = some (validB a0 a1 a2 a3) := by
  unfold platformfwref07_Valid.f validB
  rw [rsig_f a0 k hk]
  simp only [Option.bind_some]
  cases sigB a0
  · rfl
  · rw [if_pos rfl, Bool.true_and]
    refine (ite3 (b := !(decide (0 < a2.size) && decide (bt a2 ((a2.size : Int) - 1) = 0)) && decide (a3.size ≤ 65536)) ?_).trans ?_
    rotate_left
    · rw [show decide ((a2.size : Int) ≤ 6) = decide (a2.size ≤ 6) from decide_eq_decide.2 (by omega)]
    · have hd : decide ((a3.size : Int) ≤ 65536) = decide (a3.size ≤ 65536) := decide_eq_decide.2 (by omega)
      by_cases h : 0 < a2.size
      · have hw : wrap64 ((a2.size : Int) - 1) = (a2.size : Int) - 1 := by unfold wrap64; omega
        have hne : ¬ a2.toList = [] := fun e => by
          rw [Lib.toList_data] at e
          have := size_data a2
          rw [e] at this
          simp at this
          omega
        rw [if_neg hne, hw, if_pos (by omega), if_pos (by omega), decide_eq_true h, Bool.true_and, hd]
        by_cases hb : bt a2 ((a2.size : Int) - 1) = 0
        · rw [if_pos hb, decide_eq_true hb]; rfl
        · rw [if_neg hb, decide_eq_false hb]; simp
      · have he : a2.toList = [] := by
          rw [Lib.toList_data]
          have := size_data a2
          exact List.eq_nil_of_length_eq_zero (by omega)
        rw [if_pos he, decide_eq_false h, hd]; simp
end Go.Proofs.YtkpaglpophfeeaaDoor.Sp
