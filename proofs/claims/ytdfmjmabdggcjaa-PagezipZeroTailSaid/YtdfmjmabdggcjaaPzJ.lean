import Derived.Test.YtdfmjmabdggcjaaPzP
import Derived.Test.YtdfmjmabdggcjaaPzF
namespace Go.Proofs.Ytdfmjmabdggcjaa.Pz
open Go.RowKit Go.Proofs.YtdfmjmabdggcjaaW.PrintWords
set_option linter.unusedVariables false
set_option linter.unusedSimpArgs false
/-! ### awake -/
def zpage : ByteArray := strOfNums (List.replicate 256 0)
theorem zpage_size : zpage.size = 256 := by unfold zpage; rw [strOfNums_size, List.length_replicate]
theorem bt_zpage (i : Nat) : bt zpage (i : Int) = 0 := by
  rw [bt_eq, zpage, bytesOf_str _ (by intro x hx; have := List.eq_of_mem_replicate hx; omega), List.getD_eq_getElem?_getD]
  rcases Nat.lt_or_ge i 256 with h | h
  · rw [List.getElem?_replicate, if_pos h]; rfl
  · rw [List.getElem?_eq_none (by rw [List.length_replicate]; exact h)]; rfl
theorem ws_zpage (k : Nat) : ws zpage k = List.replicate k 0 := by
  induction k with
  | zero => rfl
  | succ k ih =>
    rw [show ws zpage (k + 1) = ws zpage k ++ [wordS zpage k] by simp [ws, List.range_succ], ih, List.replicate_succ']
    have e : wordS zpage k = 0 := by
     have e0 := bt_zpage (4 * k); have e1 := bt_zpage (4 * k + 1); have e2 := bt_zpage (4 * k + 2); have e3 := bt_zpage (4 * k + 3)
     have hw : wordS zpage k = bt zpage ((4 * k : Nat) : Int) + 256 * bt zpage ((4 * k + 1 : Nat) : Int) + 65536 * bt zpage ((4 * k + 2 : Nat) : Int) + 16777216 * bt zpage ((4 * k + 3 : Nat) : Int) := rfl
     rw [hw, e0, e1, e2, e3]; rfl
    rw [e]
theorem run_zero_ts (n : Nat) : ∀ s : St, (run s (List.replicate n 0)).ts = s.ts ++ List.replicate n 0 := by
  induction n with
  | zero => intro s; simp [run]
  | succ n ih =>
    intro s
    rw [List.replicate_succ, run_cons, ih]
    simp [step, tagF]
theorem packS_zpage : packS zpage = 1 :: List.replicate 16 0 := by
  unfold packS pst packL
  rw [ws_zpage, run_zero_ts, run_zeros]
  decide
theorem compS_zpage : compS zpage = ⟨#[1]⟩ ++ strOfNums (List.replicate 16 0) := by
  unfold compS
  rw [if_pos zpage_size, packS_zpage, if_pos (by decide)]
  rfl
theorem dec_empty : decR ByteArray.empty = .returned (.tuple #[.string ByteArray.empty, .int .i64 3]) := by
  have h : pre ByteArray.empty = none := by
    unfold pre
    rw [if_neg (fun h => absurd h.1 (by decide)), if_neg (fun h => absurd h.1 (by decide))]
  unfold decR
  rw [h]
theorem conv16 (W : World) : (convert 31 9 (.slice (some ⟨W.heap.size, 0, none⟩) 16 16)).run Try.prog (W.alloc (.cells #[.int .u8 0, .int .u8 0, .int .u8 0, .int .u8 0, .int .u8 0, .int .u8 0, .int .u8 0, .int .u8 0, .int .u8 0, .int .u8 0, .int .u8 0, .int .u8 0, .int .u8 0, .int .u8 0, .int .u8 0, .int .u8 0] 5)) = .ok (.string (strOfNums (List.replicate 16 0))) (W.alloc (.cells #[.int .u8 0, .int .u8 0, .int .u8 0, .int .u8 0, .int .u8 0, .int .u8 0, .int .u8 0, .int .u8 0, .int .u8 0, .int .u8 0, .int .u8 0, .int .u8 0, .int .u8 0, .int .u8 0, .int .u8 0, .int .u8 0] 5)) :=
  own_string (P := Try.prog) (src := 31) (dst := 9) (e := 5) Try.underlying31 Try.underlying5 Try.underlying9 (own_lit W 0 5 .u8 (List.replicate 16 0) (Nat.zero_le _) (by decide))
set_option maxRecDepth 100000 in
theorem awake_calls (w : World) : Calls Try.prog 10 #[] w fun e w' => e = .returned (.bool true) ∧ Below w.heap.size w w' := by
  have h256 := make256
  have h16 := make16
  have hc16 := conv16
  have hOz := own_made w w.heap.size 5 .u8 256 (Nat.le_refl _) (by decide)
  have hcz : (convert 31 9 (.slice (some ⟨w.heap.size, 0, none⟩) 256 256)).run Try.prog (w.alloc (.cells zeros256 5)) = .ok (.string zpage) (w.alloc (.cells zeros256 5)) := own_string (P := Try.prog) (src := 31) (dst := 9) (e := 5) Try.underlying31 Try.underlying5 Try.underlying9 hOz
  have hcs := compS_zpage
  have hce : compE zpage = 0 := by unfold compE; rw [if_pos zpage_size]
  have hcl : (compS zpage).size ≤ 70000 := by
    rw [compS_zpage, ← bytesOf_length, bytesOf_append, List.length_append, bytesOf_length, bytesOf_length, strOfNums_size]
    decide
  have HC1 : Hid (∀ W : World, Calls Try.prog 11 #[.string zpage] W fun e w' => e = .returned (.tuple #[.string (compS zpage), .int .i64 0]) ∧ Below W.heap.size W w') := fun W => by
    have := compress_calls zpage W
    rwa [hce] at this
  have HC2 : Hid (∀ W : World, Calls Try.prog 14 #[.string (compS zpage)] W fun e w' => e = .returned (.tuple #[.string zpage, .int .i64 0]) ∧ Below W.heap.size W w') := fun W => by
    have := decompress_calls (compS zpage) hcl W
    rwa [dec_comp zpage zpage_size] at this
  have HC3 : Hid (∀ W : World, Calls Try.prog 11 #[.string ⟨#[120]⟩] W fun e w' => e = .returned (.tuple #[.string ByteArray.empty, .int .i64 1]) ∧ Below W.heap.size W w') := fun W => by
    have := compress_calls ⟨#[120]⟩ W
    rwa [show compS ⟨#[120]⟩ = ByteArray.empty by unfold compS; rw [if_neg (by decide)], show compE ⟨#[120]⟩ = 1 by unfold compE; rw [if_neg (by decide)]] at this
  have HC4 : Hid (∀ W : World, Calls Try.prog 14 #[.string ⟨#[]⟩] W fun e w' => e = .returned (.tuple #[.string ByteArray.empty, .int .i64 3]) ∧ Below W.heap.size W w') := fun W => by
    have := decompress_calls ByteArray.empty (by decide) W
    rwa [dec_empty] at this
  have hs16 : (strOfNums (List.replicate 16 0)).size ≤ 16 := by rw [strOfNums_size, List.length_replicate]; omega
  clear hOz hce hcl
  generalize zpage = z at *
  generalize compS z = cz at *
  generalize strOfNums (List.replicate 16 0) = s16 at *
  have heq : (cz.toList == (({ data := #[1] } : ByteArray) ++ s16).toList) = true := by rw [hcs]; simp
  clear hcs
  go_enter Try.func10, Try.ntmps10
  go_wp2_with fail
  clear h256 hcz
  refine (HC1.out _).mono ?_
  rintro e w1 ⟨rfl, hB1⟩
  have hb1 : Below w.heap.size w w1 := below_then ((Below.refl _ _).alloc (Nat.le_refl _) _) (by simp) hB1
  clear hB1
  go_wp2_with fail
  refine (HC2.out _).mono ?_
  rintro e w2 ⟨rfl, hB2⟩
  have hb2 : Below w.heap.size w w2 := below_then hb1 hb1.size hB2
  clear hb1 hB2
  go_wp2_with fail
  refine (HC3.out _).mono ?_
  rintro e w3 ⟨rfl, hB3⟩
  have hb3 : Below w.heap.size w w3 := below_then hb2 hb2.size hB3
  clear hb2 hB3
  go_wp2_with fail
  refine (HC4.out _).mono ?_
  rintro e w4 ⟨rfl, hB4⟩
  have hb4 : Below w.heap.size w w4 := below_then hb3 hb3.size hB4
  clear hb3 hB4
  go_wp2_with fail
  go_ret
  exact ⟨rfl, hb4.alloc hb4.size _⟩
end Go.Proofs.Ytdfmjmabdggcjaa.Pz
