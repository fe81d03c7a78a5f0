import Derived.Test.YtdfmjmabdggcjaaPzE
import Derived.Laws.StructEq
namespace Go.Proofs.Ytdfmjmabdggcjaa.Pz
open Go.RowKit Go.Proofs.YtdfmjmabdggcjaaW.PrintWords
set_option linter.unusedVariables false
set_option linter.unusedSimpArgs false
/-- What Decompress answers. -/
def pre (s : ByteArray) : Option ByteArray :=
  if s.size = 257 ∧ bt s 0 = 0 then some (s.extract 1 s.size)
  else if 17 ≤ s.size ∧ bt s 0 = 1 then (match unS s with | some (ws, []) => some (strOfNums (pageB ws)) | _ => none) else none
def decR (s : ByteArray) : Ending :=
  match pre s with
  | none => .returned (.tuple #[.string ByteArray.empty, .int .i64 3])
  | some p => if compE p = 0 ∧ compS p = s then .returned (.tuple #[.string p, .int .i64 0]) else .returned (.tuple #[.string ByteArray.empty, .int .i64 3])
theorem unpackE_form (s : ByteArray) : ∃ (p : ByteArray) (b : Bool), unpackE s = .returned (.tuple #[.string p, .bool b]) ∧ (¬ (s.size = 257 ∧ bt s 0 = 0) → pre s = if b = true then some p else none) := by
  unfold unpackE pre
  by_cases h : 17 ≤ s.size ∧ bt s 0 = 1
  · rw [if_pos h, if_pos h]
    unfold unpackR
    cases hu : unS s with
    | none => exact ⟨_, _, rfl, fun h => by rw [if_neg h]; rfl⟩
    | some q =>
      obtain ⟨ws, r⟩ := q
      refine ⟨_, _, rfl, fun h => ?_⟩
      rw [if_neg h]
      cases r <;> rfl
  · rw [if_neg h, if_neg h]
    exact ⟨_, _, rfl, fun h => by rw [if_neg h]; rfl⟩
theorem bytes_ne {a b : ByteArray} (h : a ≠ b) : (a.toList == b.toList) = false := by
  rw [beq_eq_false_iff_ne]
  intro e
  rw [ByteArray.toList_eq, ByteArray.toList_eq] at e
  apply h
  cases a; cases b
  simp only [Array.toList_inj] at e
  rw [e]
theorem decompress_calls (s : ByteArray) (hmax : s.size ≤ 70000) (w : World) : Calls Try.prog 14 #[.string s] w fun e w' => e = decR s ∧ Below w.heap.size w w' := by
  obtain ⟨p, b, hu, hp⟩ := unpackE_form s
  have HU : Hid (∀ W : World, Calls Try.prog 18 #[.string s] W fun e w' => e = .returned (.tuple #[.string p, .bool b]) ∧ Below W.heap.size W w') := by
    intro W
    rw [← hu]
    exact unpack_calls s hmax W
  clear hu
  have HCC : Hid (∀ q : ByteArray, ∀ W : World, Calls Try.prog 11 #[.string q] W fun e w' => e = .returned (.tuple #[.string (compS q), .int .i64 (compE q)]) ∧ Below W.heap.size W w') := compress_calls
  by_cases h0 : s.size = 257 ∧ bt s 0 = 0
  · obtain ⟨h257, h0⟩ := h0
    have hpre : pre s = some (s.extract 1 s.size) := by unfold pre; rw [if_pos ⟨h257, h0⟩]
    have hb1 : ((s.size : Int) == 257) = true := by simp; omega
    have hs0 : 0 < s.size := by omega
    have g0 : ((s[0]'hs0).toNat : Int) = bt s 0 := bt_at s 0 hs0
    have hb2 : (bt s 0 == 0) = true := by simpa using h0
    have hs1 : 257 ≤ s.size := by omega
    have hdec : decR s = if compE (s.extract 1 s.size) = 0 ∧ compS (s.extract 1 s.size) = s then .returned (.tuple #[.string (s.extract 1 s.size), .int .i64 0]) else .returned (.tuple #[.string ByteArray.empty, .int .i64 3]) := by
      unfold decR; rw [hpre]
    have HC := Lib.hid (HCC.out (s.extract 1 s.size))
    clear h257 h0 hpre hp HCC
    generalize compE (s.extract 1 s.size) = ce at hdec HC
    generalize compS (s.extract 1 s.size) = c at hdec HC
    by_cases hce : ce = 0
    · have hbe : (ce != 0) = false := by simpa using hce
      by_cases hc : c = s
      · have hbs : (c.toList == s.toList) = true := by rw [hc]; simp
        have Hfin := Lib.hid (hdec.trans (if_pos ⟨hce, hc⟩))
        clear hce hc hdec
        go_enter Try.func14, Try.ntmps14
        go_wp2_with fail
        refine (HU.out _).mono ?_
        rintro e w1 ⟨rfl, hB1⟩
        go_wp2_with fail
        refine (HC.out _).mono ?_
        rintro e w2 ⟨rfl, hB2⟩
        have hB : Below w.heap.size w w2 := below_then hB1 hB1.size hB2
        clear hB1 hB2
        go_wp2_with fail
        go_ret2
        exact ⟨by rw [Hfin.out]; rfl, hB⟩
      · have hbs : (c.toList == s.toList) = false := by exact bytes_ne hc
        have Hfin := Lib.hid (hdec.trans (if_neg (fun h => hc h.2)))
        clear hce hc hdec
        go_enter Try.func14, Try.ntmps14
        go_wp2_with fail
        refine (HU.out _).mono ?_
        rintro e w1 ⟨rfl, hB1⟩
        go_wp2_with fail
        refine (HC.out _).mono ?_
        rintro e w2 ⟨rfl, hB2⟩
        have hB : Below w.heap.size w w2 := below_then hB1 hB1.size hB2
        clear hB1 hB2
        go_wp2_with fail
        go_ret2
        exact ⟨by rw [Hfin.out]; rfl, hB⟩
    · have hbe : (ce != 0) = true := by simpa using hce
      have Hfin := Lib.hid (hdec.trans (if_neg (fun h => hce h.1)))
      clear hce hdec
      go_enter Try.func14, Try.ntmps14
      go_wp2_with fail
      refine (HU.out _).mono ?_
      rintro e w1 ⟨rfl, hB1⟩
      go_wp2_with fail
      refine (HC.out _).mono ?_
      rintro e w2 ⟨rfl, hB2⟩
      have hB : Below w.heap.size w w2 := below_then hB1 hB1.size hB2
      clear hB1 hB2
      go_wp2_with fail
      go_ret2
      exact ⟨by rw [Hfin.out]; rfl, hB⟩
  · have hp := hp h0
    cases b with
    | false =>
      have hdec : decR s = .returned (.tuple #[.string ByteArray.empty, .int .i64 3]) := by
        unfold decR; rw [hp]; rfl
      have Hfin := Lib.hid hdec
      clear hdec hp HCC
      by_cases h257 : s.size = 257
      · have hb1 : ((s.size : Int) == 257) = true := by simp; omega
        have hs0 : 0 < s.size := by omega
        have g0 : ((s[0]'hs0).toNat : Int) = bt s 0 := bt_at s 0 hs0
        have hb2 : (bt s 0 == 0) = false := by simpa using fun h => h0 ⟨h257, h⟩
        have hs1 : 257 ≤ s.size := by omega
        clear h0 h257
        go_enter Try.func14, Try.ntmps14
        go_wp2_with fail
        refine (HU.out _).mono ?_
        rintro e w1 ⟨rfl, hB1⟩
        go_wp2_with fail
        go_ret2
        exact ⟨by rw [Hfin.out]; rfl, hB1⟩
      · have hb1 : ((s.size : Int) == 257) = false := by simp; omega
        clear h0 h257
        go_enter Try.func14, Try.ntmps14
        go_wp2_with fail
        refine (HU.out _).mono ?_
        rintro e w1 ⟨rfl, hB1⟩
        go_wp2_with fail
        go_ret2
        exact ⟨by rw [Hfin.out]; rfl, hB1⟩
    | true =>
      have hdec : decR s = if compE p = 0 ∧ compS p = s then .returned (.tuple #[.string p, .int .i64 0]) else .returned (.tuple #[.string ByteArray.empty, .int .i64 3]) := by
        unfold decR; rw [hp]; rfl
      have HC := Lib.hid (HCC.out p)
      clear hp HCC
      generalize compE p = ce at hdec HC
      generalize compS p = c at hdec HC
      by_cases h257 : s.size = 257
      · have hb1 : ((s.size : Int) == 257) = true := by simp; omega
        have hs0 : 0 < s.size := by omega
        have g0 : ((s[0]'hs0).toNat : Int) = bt s 0 := bt_at s 0 hs0
        have hb2 : (bt s 0 == 0) = false := by simpa using fun h => h0 ⟨h257, h⟩
        have hs1 : 257 ≤ s.size := by omega
        clear h0 h257
        by_cases hce : ce = 0
        · have hbe : (ce != 0) = false := by simpa using hce
          by_cases hc : c = s
          · have hbs : (c.toList == s.toList) = true := by rw [hc]; simp
            have Hfin := Lib.hid (hdec.trans (if_pos ⟨hce, hc⟩))
            clear hce hc hdec
            go_enter Try.func14, Try.ntmps14
            go_wp2_with fail
            refine (HU.out _).mono ?_
            rintro e w1 ⟨rfl, hB1⟩
            go_wp2_with fail
            refine (HC.out _).mono ?_
            rintro e w2 ⟨rfl, hB2⟩
            have hB : Below w.heap.size w w2 := below_then hB1 hB1.size hB2
            clear hB1 hB2
            go_wp2_with fail
            go_ret2
            exact ⟨by rw [Hfin.out]; rfl, hB⟩
          · have hbs : (c.toList == s.toList) = false := by exact bytes_ne hc
            have Hfin := Lib.hid (hdec.trans (if_neg (fun h => hc h.2)))
            clear hce hc hdec
            go_enter Try.func14, Try.ntmps14
            go_wp2_with fail
            refine (HU.out _).mono ?_
            rintro e w1 ⟨rfl, hB1⟩
            go_wp2_with fail
            refine (HC.out _).mono ?_
            rintro e w2 ⟨rfl, hB2⟩
            have hB : Below w.heap.size w w2 := below_then hB1 hB1.size hB2
            clear hB1 hB2
            go_wp2_with fail
            go_ret2
            exact ⟨by rw [Hfin.out]; rfl, hB⟩
        · have hbe : (ce != 0) = true := by simpa using hce
          have Hfin := Lib.hid (hdec.trans (if_neg (fun h => hce h.1)))
          clear hce hdec
          go_enter Try.func14, Try.ntmps14
          go_wp2_with fail
          refine (HU.out _).mono ?_
          rintro e w1 ⟨rfl, hB1⟩
          go_wp2_with fail
          refine (HC.out _).mono ?_
          rintro e w2 ⟨rfl, hB2⟩
          have hB : Below w.heap.size w w2 := below_then hB1 hB1.size hB2
          clear hB1 hB2
          go_wp2_with fail
          go_ret2
          exact ⟨by rw [Hfin.out]; rfl, hB⟩
      · have hb1 : ((s.size : Int) == 257) = false := by simp; omega
        clear h0 h257
        by_cases hce : ce = 0
        · have hbe : (ce != 0) = false := by simpa using hce
          by_cases hc : c = s
          · have hbs : (c.toList == s.toList) = true := by rw [hc]; simp
            have Hfin := Lib.hid (hdec.trans (if_pos ⟨hce, hc⟩))
            clear hce hc hdec
            go_enter Try.func14, Try.ntmps14
            go_wp2_with fail
            refine (HU.out _).mono ?_
            rintro e w1 ⟨rfl, hB1⟩
            go_wp2_with fail
            refine (HC.out _).mono ?_
            rintro e w2 ⟨rfl, hB2⟩
            have hB : Below w.heap.size w w2 := below_then hB1 hB1.size hB2
            clear hB1 hB2
            go_wp2_with fail
            go_ret2
            exact ⟨by rw [Hfin.out]; rfl, hB⟩
          · have hbs : (c.toList == s.toList) = false := by exact bytes_ne hc
            have Hfin := Lib.hid (hdec.trans (if_neg (fun h => hc h.2)))
            clear hce hc hdec
            go_enter Try.func14, Try.ntmps14
            go_wp2_with fail
            refine (HU.out _).mono ?_
            rintro e w1 ⟨rfl, hB1⟩
            go_wp2_with fail
            refine (HC.out _).mono ?_
            rintro e w2 ⟨rfl, hB2⟩
            have hB : Below w.heap.size w w2 := below_then hB1 hB1.size hB2
            clear hB1 hB2
            go_wp2_with fail
            go_ret2
            exact ⟨by rw [Hfin.out]; rfl, hB⟩
        · have hbe : (ce != 0) = true := by simpa using hce
          have Hfin := Lib.hid (hdec.trans (if_neg (fun h => hce h.1)))
          clear hce hdec
          go_enter Try.func14, Try.ntmps14
          go_wp2_with fail
          refine (HU.out _).mono ?_
          rintro e w1 ⟨rfl, hB1⟩
          go_wp2_with fail
          refine (HC.out _).mono ?_
          rintro e w2 ⟨rfl, hB2⟩
          have hB : Below w.heap.size w w2 := below_then hB1 hB1.size hB2
          clear hB1 hB2
          go_wp2_with fail
          go_ret2
          exact ⟨by rw [Hfin.out]; rfl, hB⟩
end Go.Proofs.Ytdfmjmabdggcjaa.Pz
