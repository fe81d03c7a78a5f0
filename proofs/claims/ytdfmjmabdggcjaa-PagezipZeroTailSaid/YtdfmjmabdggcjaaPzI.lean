import Derived.Test.YtdfmjmabdggcjaaPzH
import Derived.Test.YtdfmjmabdggcjaaPzF
namespace Go.Proofs.Ytdfmjmabdggcjaa.Pz
open Go.RowKit Go.Proofs.YtdfmjmabdggcjaaW.PrintWords
set_option linter.unusedVariables false
set_option linter.unusedSimpArgs false
theorem refc_calls (s : ByteArray) (w : World) : Calls Try.prog 12 #[.string s] w fun e w' => e = .returned (.tuple #[.string (compS s), .int .i64 (compE s)]) ∧ Below w.heap.size w w' := by
  by_cases hs : s.size = 256
  · exact refc_main s hs w
  · unfold compS compE
    rw [if_neg hs, if_neg hs]
    have hne : ((s.size : Int) != 256) = true := by simp; omega
    go_enter Try.func12, Try.ntmps12
    go_wp2_with fail
    go_ret2
    exact ⟨rfl, Below.refl _ _⟩
theorem rdecompress_calls (s : ByteArray) (hmax : s.size ≤ 70000) (w : World) : Calls Try.prog 16 #[.string s] w fun e w' => e = decR s ∧ Below w.heap.size w w' := by
  have HCC : Hid (∀ q : ByteArray, ∀ W : World, Calls Try.prog 12 #[.string q] W fun e w' => e = .returned (.tuple #[.string (compS q), .int .i64 (compE q)]) ∧ Below W.heap.size W w') := refc_calls
  rw [← rdec_eq]
  by_cases h0 : s.size = 257 ∧ bt s 0 = 0
  · obtain ⟨h257, h0⟩ := h0
    have hpre : rpre s = some (s.extract 1 s.size) := by unfold rpre; rw [if_pos ⟨h257, h0⟩]
    have hb1 : ((s.size : Int) == 257) = true := by simp; omega
    have hs0 : 0 < s.size := by omega
    have g0 : ((s[0]'hs0).toNat : Int) = bt s 0 := bt_at s 0 hs0
    have hb2 : (bt s 0 == 0) = true := by simpa using h0
    have hs1 : 257 ≤ s.size := by omega
    have hdec : decOf s (rpre s) = if compE (s.extract 1 s.size) = 0 ∧ compS (s.extract 1 s.size) = s then .returned (.tuple #[.string (s.extract 1 s.size), .int .i64 0]) else .returned (.tuple #[.string ByteArray.empty, .int .i64 3]) := by
      rw [hpre]; rfl
    have HC := Lib.hid (HCC.out (s.extract 1 s.size))
    clear h257 h0 hpre HCC
    generalize compE (s.extract 1 s.size) = ce at hdec HC
    generalize compS (s.extract 1 s.size) = c at hdec HC
    by_cases hce : ce = 0
    · have hbe : (ce != 0) = false := by simpa using hce
      by_cases hc : c = s
      · have hbs : (c.toList == s.toList) = true := by rw [hc]; simp
        have Hfin := Lib.hid (hdec.trans (if_pos ⟨hce, hc⟩))
        clear hce hc hdec
        go_enter Try.func16, Try.ntmps16
        go_wp2_with fail
        refine (HC.out _).mono ?_
        rintro e w2 ⟨rfl, hB⟩
        go_wp2_with fail
        go_ret2
        exact ⟨by rw [Hfin.out]; rfl, hB⟩
      · have hbs : (c.toList == s.toList) = false := by exact bytes_ne hc
        have Hfin := Lib.hid (hdec.trans (if_neg (fun h => hc h.2)))
        clear hce hc hdec
        go_enter Try.func16, Try.ntmps16
        go_wp2_with fail
        refine (HC.out _).mono ?_
        rintro e w2 ⟨rfl, hB⟩
        go_wp2_with fail
        go_ret2
        exact ⟨by rw [Hfin.out]; rfl, hB⟩
    · have hbe : (ce != 0) = true := by simpa using hce
      have Hfin := Lib.hid (hdec.trans (if_neg (fun h => hce h.1)))
      clear hce hdec
      go_enter Try.func16, Try.ntmps16
      go_wp2_with fail
      refine (HC.out _).mono ?_
      rintro e w2 ⟨rfl, hB⟩
      go_wp2_with fail
      go_ret2
      exact ⟨by rw [Hfin.out]; rfl, hB⟩
  · by_cases hs0 : 0 < s.size
    · have g0 : ((s[0]'hs0).toNat : Int) = bt s 0 := bt_at s 0 hs0
      have hd0 : decide ((s.size : Int) > 0) = true := by simp; omega
      by_cases h1 : bt s 0 = 1
      · have hb3 : (bt s 0 == 1) = true := by simpa using h1
        by_cases h17 : 17 ≤ s.size
        · cases hu : unS s with
          | none =>
            have hdec : decOf s (rpre s) = .returned (.tuple #[.string ByteArray.empty, .int .i64 3]) := by
              unfold rpre; rw [if_neg h0, if_pos ⟨h17, h1⟩, hu]; rfl
            have HU : Hid (∀ W : World, Calls Try.prog 19 #[.string s] W fun e w' => e = .returned (.tuple #[.string ByteArray.empty, .bool false]) ∧ Below W.heap.size W w') := by
              intro W
              refine (runpack_main s h17 hmax W).mono ?_
              rintro e w' ⟨rfl, h⟩
              exact ⟨by unfold runpackR; rw [hu], h⟩
            clear hu h1 HCC
            by_cases h257 : s.size = 257
            · have hb1 : ((s.size : Int) == 257) = true := by simp; omega
              have hb2 : (bt s 0 == 0) = false := by simpa using fun h => h0 ⟨h257, h⟩
              have hs1 : 257 ≤ s.size := by omega
              clear h0 h257
              have Hfin := Lib.hid hdec
              clear hdec
              go_enter Try.func16, Try.ntmps16
              go_wp2_with fail
              refine (HU.out _).mono ?_
              rintro e w1 ⟨rfl, hB⟩
              go_wp2_with fail
              go_ret2
              exact ⟨by rw [Hfin.out]; rfl, hB⟩
            · have hb1 : ((s.size : Int) == 257) = false := by simp; omega
              clear h0 h257
              have Hfin := Lib.hid hdec
              clear hdec
              go_enter Try.func16, Try.ntmps16
              go_wp2_with fail
              refine (HU.out _).mono ?_
              rintro e w1 ⟨rfl, hB⟩
              go_wp2_with fail
              go_ret2
              exact ⟨by rw [Hfin.out]; rfl, hB⟩
          | some q =>
            obtain ⟨wl, r⟩ := q
            have hdec : decOf s (rpre s) = if compE (strOfNums (pageB wl)) = 0 ∧ compS (strOfNums (pageB wl)) = s then .returned (.tuple #[.string (strOfNums (pageB wl)), .int .i64 0]) else .returned (.tuple #[.string ByteArray.empty, .int .i64 3]) := by
              unfold rpre; rw [if_neg h0, if_pos ⟨h17, h1⟩, hu]; rfl
            have HU : Hid (∀ W : World, Calls Try.prog 19 #[.string s] W fun e w' => e = .returned (.tuple #[.string (strOfNums (pageB wl)), .bool true]) ∧ Below W.heap.size W w') := by
              intro W
              refine (runpack_main s h17 hmax W).mono ?_
              rintro e w' ⟨rfl, h⟩
              exact ⟨by unfold runpackR; rw [hu], h⟩
            clear hu h1
            have HC := Lib.hid (HCC.out (strOfNums (pageB wl)))
            clear HCC
            generalize strOfNums (pageB wl) = p at *
            generalize compE p = ce at hdec HC
            generalize compS p = c at hdec HC
            by_cases h257 : s.size = 257
            · have hb1 : ((s.size : Int) == 257) = true := by simp; omega
              have hb2 : (bt s 0 == 0) = false := by simpa using fun h => h0 ⟨h257, h⟩
              have hs1 : 257 ≤ s.size := by omega
              clear h0 h257
              by_cases hce : ce = 0
              · have hbe : (ce != 0) = false := by simpa using hce
                by_cases hc : c = s
                · have hbs : (c.toList == s.toList) = true := by rw [hc]; simp
                  have Hfin := Lib.hid (hdec.trans (if_pos ⟨hce, hc⟩))
                  clear hce hc hdec
                  go_enter Try.func16, Try.ntmps16
                  go_wp2_with fail
                  refine (HU.out _).mono ?_
                  rintro e w1 ⟨rfl, hB1⟩
                  go_wp2_with fail
                  refine (HC.out _).mono ?_
                  rintro e w2 ⟨rfl, hB2⟩
                  have hB : Below w.heap.size w w2 := below_then hB1 hB1.size hB2
                  clear hB1 hB2
                  go_wp2_with fail
                  go_ret2
                  exact ⟨by rw [Hfin.out]; rfl, hB⟩
                · have hbs : (c.toList == s.toList) = false := by exact bytes_ne hc
                  have Hfin := Lib.hid (hdec.trans (if_neg (fun h => hc h.2)))
                  clear hce hc hdec
                  go_enter Try.func16, Try.ntmps16
                  go_wp2_with fail
                  refine (HU.out _).mono ?_
                  rintro e w1 ⟨rfl, hB1⟩
                  go_wp2_with fail
                  refine (HC.out _).mono ?_
                  rintro e w2 ⟨rfl, hB2⟩
                  have hB : Below w.heap.size w w2 := below_then hB1 hB1.size hB2
                  clear hB1 hB2
                  go_wp2_with fail
                  go_ret2
                  exact ⟨by rw [Hfin.out]; rfl, hB⟩
              · have hbe : (ce != 0) = true := by simpa using hce
                have Hfin := Lib.hid (hdec.trans (if_neg (fun h => hce h.1)))
                clear hce hdec
                go_enter Try.func16, Try.ntmps16
                go_wp2_with fail
                refine (HU.out _).mono ?_
                rintro e w1 ⟨rfl, hB1⟩
                go_wp2_with fail
                refine (HC.out _).mono ?_
                rintro e w2 ⟨rfl, hB2⟩
                have hB : Below w.heap.size w w2 := below_then hB1 hB1.size hB2
                clear hB1 hB2
                go_wp2_with fail
                go_ret2
                exact ⟨by rw [Hfin.out]; rfl, hB⟩
            · have hb1 : ((s.size : Int) == 257) = false := by simp; omega
              clear h0 h257
              by_cases hce : ce = 0
              · have hbe : (ce != 0) = false := by simpa using hce
                by_cases hc : c = s
                · have hbs : (c.toList == s.toList) = true := by rw [hc]; simp
                  have Hfin := Lib.hid (hdec.trans (if_pos ⟨hce, hc⟩))
                  clear hce hc hdec
                  go_enter Try.func16, Try.ntmps16
                  go_wp2_with fail
                  refine (HU.out _).mono ?_
                  rintro e w1 ⟨rfl, hB1⟩
                  go_wp2_with fail
                  refine (HC.out _).mono ?_
                  rintro e w2 ⟨rfl, hB2⟩
                  have hB : Below w.heap.size w w2 := below_then hB1 hB1.size hB2
                  clear hB1 hB2
                  go_wp2_with fail
                  go_ret2
                  exact ⟨by rw [Hfin.out]; rfl, hB⟩
                · have hbs : (c.toList == s.toList) = false := by exact bytes_ne hc
                  have Hfin := Lib.hid (hdec.trans (if_neg (fun h => hc h.2)))
                  clear hce hc hdec
                  go_enter Try.func16, Try.ntmps16
                  go_wp2_with fail
                  refine (HU.out _).mono ?_
                  rintro e w1 ⟨rfl, hB1⟩
                  go_wp2_with fail
                  refine (HC.out _).mono ?_
                  rintro e w2 ⟨rfl, hB2⟩
                  have hB : Below w.heap.size w w2 := below_then hB1 hB1.size hB2
                  clear hB1 hB2
                  go_wp2_with fail
                  go_ret2
                  exact ⟨by rw [Hfin.out]; rfl, hB⟩
              · have hbe : (ce != 0) = true := by simpa using hce
                have Hfin := Lib.hid (hdec.trans (if_neg (fun h => hce h.1)))
                clear hce hdec
                go_enter Try.func16, Try.ntmps16
                go_wp2_with fail
                refine (HU.out _).mono ?_
                rintro e w1 ⟨rfl, hB1⟩
                go_wp2_with fail
                refine (HC.out _).mono ?_
                rintro e w2 ⟨rfl, hB2⟩
                have hB : Below w.heap.size w w2 := below_then hB1 hB1.size hB2
                clear hB1 hB2
                go_wp2_with fail
                go_ret2
                exact ⟨by rw [Hfin.out]; rfl, hB⟩
        · have hdec : decOf s (rpre s) = .returned (.tuple #[.string ByteArray.empty, .int .i64 3]) := by
            unfold rpre; rw [if_neg h0, if_neg (fun h => h17 h.1)]; rfl
          have HU : Hid (∀ W : World, Calls Try.prog 19 #[.string s] W fun e w' => e = .returned (.tuple #[.string ByteArray.empty, .bool false]) ∧ Below W.heap.size W w') := fun W => runpack_short s (by omega) W
          clear h1 HCC
          have hb1 : ((s.size : Int) == 257) = false := by simp; omega
          have Hfin := Lib.hid hdec
          clear hdec
          go_enter Try.func16, Try.ntmps16
          go_wp2_with fail
          refine (HU.out _).mono ?_
          rintro e w1 ⟨rfl, hB⟩
          go_wp2_with fail
          go_ret2
          exact ⟨by rw [Hfin.out]; rfl, hB⟩
      · have hb3 : (bt s 0 == 1) = false := by simpa using h1
        have hdec : decOf s (rpre s) = .returned (.tuple #[.string ByteArray.empty, .int .i64 3]) := by
          unfold rpre; rw [if_neg h0, if_neg (fun h => h1 h.2)]; rfl
        clear h1 HCC
        by_cases h257 : s.size = 257
        · have hb1 : ((s.size : Int) == 257) = true := by simp; omega
          have hb2 : (bt s 0 == 0) = false := by simpa using fun h => h0 ⟨h257, h⟩
          have hs1 : 257 ≤ s.size := by omega
          clear h0 h257
          have Hfin := Lib.hid hdec
          clear hdec
          go_enter Try.func16, Try.ntmps16
          go_wp2_with fail
          go_ret2
          exact ⟨by rw [Hfin.out]; rfl, Below.refl _ _⟩
        · have hb1 : ((s.size : Int) == 257) = false := by simp; omega
          clear h0 h257
          have Hfin := Lib.hid hdec
          clear hdec
          go_enter Try.func16, Try.ntmps16
          go_wp2_with fail
          go_ret2
          exact ⟨by rw [Hfin.out]; rfl, Below.refl _ _⟩
    · have hd0 : decide ((s.size : Int) > 0) = false := decide_eq_false (by omega)
      have hb1 : ((s.size : Int) == 257) = false := by simp; omega
      have hdec : decOf s (rpre s) = .returned (.tuple #[.string ByteArray.empty, .int .i64 3]) := by
        unfold rpre; rw [if_neg h0, if_neg (fun h => hs0 (by have := h.1; omega))]; rfl
      clear h0 HCC
      have Hfin := Lib.hid hdec
      clear hdec
      go_enter Try.func16, Try.ntmps16
      go_wp2_with fail
      go_ret2
      exact ⟨by rw [Hfin.out]; rfl, Below.refl _ _⟩
end Go.Proofs.Ytdfmjmabdggcjaa.Pz
