import Derived.Test.YtjdbhlmkcbgkjaaWkE
namespace Go.Proofs.Ytjdbhlmkcbgkjaa.Wk
open Go.RowKit Go.Proofs.YtjdbhlmkcbgkjaaW.PrintWords
set_option linter.unusedVariables false
set_option linter.unusedSimpArgs false

theorem put_ok {B C : St} (h : B.Ok) (k : Nat) (x : Int) (x0 : 0 ≤ x) (x1 : x ≤ 2305843009213693953) (hC : C = { B with on := upd B.on k true, hold := upd B.hold k x }) : C.Ok := by
  subst hC
  refine ⟨h.n, h.now0, h.now1, h.ev0, h.al0, h.al1, h.alz, fun i => ?_, fun i => ?_, fun i => ?_, h.rem0, h.rem1⟩
  · show 0 ≤ upd B.hold k x i
    unfold upd; split
    · exact x0
    · exact h.hd0 i
  · show upd B.hold k x i ≤ _
    unfold upd; split
    · exact x1
    · exact h.hd1 i
  · show upd B.on k true i = false → upd B.hold k x i = 0
    unfold upd; split
    · intro e; cases e
    · exact h.hdz i

theorem upd_same {α : Type} (f : Nat → α) (k : Nat) (x : α) (h : f k = x) : upd f k x = f := by
  funext i; unfold upd; split
  · subst i; exact h.symm
  · rfl

theorem set_self (cs : Array Value) (i : Nat) (v : Value) (h : cs[i]? = some v) : cs.setIfInBounds i v = cs := by
  have hi := (Array.getElem?_eq_some_iff.1 h).1
  apply Array.ext_getElem?
  intro k
  by_cases e : i = k
  · subst e; rw [Array.getElem?_setIfInBounds_self_of_lt hi, h]
  · rw [Array.getElem?_setIfInBounds_ne e]
theorem set3_third {B : St} {cs : Array Value} (h3 : LCells B cs) {j : Nat} (hj : j < B.n) (ho : B.on j = true) (hh : B.held j = true) (x : Int) (hx : 0 < x) : set3 cs j true x = cs.setIfInBounds (j * 3 + 2) (.int .u64 (x - 1)) := by
  unfold set3
  rw [set_self cs (j * 3) _ (by rw [h3.on j hj, ho]), decide_eq_true hx, set_self cs (j * 3 + 1) _ (by rw [h3.held j hj, hh]), if_pos hx]

/-- What the middle of Pulse does to the list. -/
theorem pulS_cases (B : St) (k : Nat) (t h : Int) (t0 : 0 ≤ t) (h0 : 0 ≤ h) :
    (B.on k = false ∧ pulS B k t h = { B with on := upd B.on k true, hold := upd B.hold k (t + h + 1) }) ∨
    (B.on k = true ∧ B.held k = false ∧ pulS B k t h = B) ∨
    (B.on k = true ∧ B.held k = true ∧ pulS B k t h = { B with on := upd B.on k true, hold := upd B.hold k (max (B.hv k) (t + h) + 1) }) := by
  unfold pulS St.held St.hv
  cases ho : B.on k with
  | false => left; simp
  | true =>
    right
    by_cases hh : 0 < B.hold k
    · right
      refine ⟨rfl, by simpa using hh, ?_⟩
      rw [if_pos rfl, if_pos hh, if_pos hh]
      have e : max (B.hold k) (t + h + 1) = max (B.hold k - 1) (t + h) + 1 := by omega
      rw [e, upd_same B.on k true ho]
    · left
      refine ⟨rfl, by simpa using hh, ?_⟩
      rw [if_pos rfl, if_neg hh]

set_option maxHeartbeats 1600000 in
set_option maxRecDepth 100000 in
theorem pulse_calls (p lb : Nat) (A : St) (k t h : Int) (k0 : -9223372036854775808 ≤ k) (k1 : k < 9223372036854775808) (t0 : 0 ≤ t) (t1 : t < 18446744073709551616) (h0 : 0 ≤ h) (h1 : h < 18446744073709551616) (w : World) (hA : A.Ok) (he : A.events ≤ 900000000) (hm : PMem w p lb A) :
    Calls Try.prog 23 #[.pointer (some ⟨p, 0, none⟩), .int .i64 k, .int .u64 t, .int .u64 h] w fun e w' => e = .returned (.int .i64 (A.Pulse k t h).1) ∧ PMem w' p lb (A.Pulse k t h).2 ∧ Fr [p, lb] w w' := by
  unfold St.Pulse
  by_cases hm1 : 1152921504606846976 < h
  · rw [if_pos (Or.inl hm1)]
    go_enter Try.func23, Try.ntmps23
    go_wp2_with fail
    go_ret
    exact ⟨rfl, hm, Fr.refl _ _⟩
  · have hS := start_calls p lb A k t k0 k1 t0 t1 w hA (by omega) hm
    cases hl : A.bad k t with
    | true =>
      rw [hl] at hS
      rw [if_pos rfl] at hS
      rw [if_pos (Or.inr rfl)]
      go_enter Try.func23, Try.ntmps23
      go_wp2_with fail
      refine hS.mono ?_
      clear hS hm
      rintro e w' ⟨rfl, hm', hf'⟩
      go_wp2_with fail
      go_ret
      exact ⟨rfl, hm', hf'⟩
    | false =>
      rw [hl] at hS
      rw [if_neg (by simp)] at hS
      rw [if_neg (by rintro (h | h) <;> simp_all)]
      obtain ⟨j, rfl, hj, _, hn1, hn2⟩ := bad_no hl
      have HB := Lib.hid (hA.adv t0 hn2)
      have hbB := adv_bounds A t
      have hnB := adv_n A t
      have hn := hA.n
      clear hl
      simp only [Int.toNat_natCast]
      generalize A.adv t = B at hS HB hbB hnB ⊢
      have hjB : j < B.n := by omega
      have hnB2 : B.n ≤ 32 := by omega
      have hev : B.events ≤ 1000000000 := by omega
      have Hev := Lib.hid hev
      clear hbB hnB hev
      have hv0 : 0 ≤ B.hv j := by unfold St.hv; split <;> omega
      have hv1 : B.hv j ≤ 2305843009213693952 := by have := HB.out.hd1 j; unfold St.hv; split <;> omega
      have HC : Hid ((pulS B j t h).Ok ∧ (pulS B j t h).events ≤ 1000000000) := by
        rcases pulS_cases B j t h t0 h0 with ⟨_, e⟩ | ⟨_, _, e⟩ | ⟨_, _, e⟩
        · exact ⟨put_ok HB.out j _ (by omega) (by omega) e, by rw [e]; exact Hev.out⟩
        · exact ⟨by rw [e]; exact HB.out, by rw [e]; exact Hev.out⟩
        · exact ⟨put_ok HB.out j _ (by omega) (by omega) e, by rw [e]; exact Hev.out⟩
      have hG := fun w (hm : PMem w p lb (pulS B j t h)) => advance_calls p lb (pulS B j t h) t t0 hn2 w HC.out.1 HC.out.2 hm
      have hcs := pulS_cases B j t h t0 h0
      clear HC
      generalize (pulS B j t h).adv t = D at hG ⊢
      generalize pulS B j t h = C at hG hcs
      rcases hcs with ⟨ho, e⟩ | ⟨ho, hh, e⟩ | ⟨ho, hh, e⟩
      · have He := Lib.hid e
        have Ho := Lib.hid ho
        clear e ho
        go_enter Try.func23, Try.ntmps23
        go_wp2_with fail
        refine hS.mono ?_
        clear hS hm
        rintro e w' ⟨rfl, ⟨⟨cap, h1⟩, cs, h2, h3⟩, hf'⟩
        have c0 : w'.cell? ⟨p, 0, none⟩ = some (.slice (some ⟨lb, 0, none⟩) B.n cap) := cellB h1 0
        have d0 : w'.cell? ⟨lb, j * 3, none⟩ = some (.bool false) := (cellB h2 _).trans ((h3.on j hjB).trans (by rw [Ho.out]))
        have d1 : w'.cell? ⟨lb, j * 3 + 1, none⟩ = some (.bool (B.held j)) := (cellB h2 _).trans (h3.held j hjB)
        have d2 : w'.cell? ⟨lb, j * 3 + 2, none⟩ = some (.int .u64 (B.hv j)) := (cellB h2 _).trans (h3.hv j hjB)
        have y0 := frozenB h2 (j * 3)
        have y1 := frozenB h2 (j * 3 + 1)
        have y2 := frozenB h2 (j * 3 + 2)
        have hpl : p ≠ lb := ne_of_type h1 h2 (by decide)
        go_wp2_with fail
        refine (hG _ ?_).mono ?_
        · rw [He.out]
          refine ⟨⟨cap, setB_ne (setB_ne (setB_ne h1 _ _ hpl.symm) _ _ hpl.symm) _ _ hpl.symm⟩, _, set3_heap h2 j true (t + h + 1) _ _ _ rfl ?_ ?_, h3.put j hjB true (t + h + 1) rfl rfl rfl⟩
          · rw [decide_eq_true (by omega)]
          · rw [if_pos (by omega)]; congr 1; omega
        · rintro e w'' ⟨rfl, hm'', hf''⟩
          have hF : Fr [p, lb] w w'' := (((hf'.setCell (Or.inl (by simp)) _).setCell (Or.inl (by simp)) _).setCell (Or.inl (by simp)) _).trans hf''
          clear hf'' hf' c0 d0 d1 d2 y0 y1 y2 h1 h2 h3 hG
          go_wp2_with fail
          go_ret
          exact ⟨rfl, hm'', hF⟩
      · have He := Lib.hid e
        have Ho := Lib.hid ho
        have Hh := Lib.hid hh
        clear e ho hh
        go_enter Try.func23, Try.ntmps23
        go_wp2_with fail
        refine hS.mono ?_
        clear hS hm
        rintro e w' ⟨rfl, ⟨⟨cap, h1⟩, cs, h2, h3⟩, hf'⟩
        have c0 : w'.cell? ⟨p, 0, none⟩ = some (.slice (some ⟨lb, 0, none⟩) B.n cap) := cellB h1 0
        have d0 : w'.cell? ⟨lb, j * 3, none⟩ = some (.bool true) := (cellB h2 _).trans ((h3.on j hjB).trans (by rw [Ho.out]))
        have d1 : w'.cell? ⟨lb, j * 3 + 1, none⟩ = some (.bool false) := (cellB h2 _).trans ((h3.held j hjB).trans (by rw [Hh.out]))
        go_wp2_with fail
        refine (hG _ ?_).mono ?_
        · rw [He.out]
          exact ⟨⟨cap, h1⟩, cs, h2, h3⟩
        · rintro e w'' ⟨rfl, hm'', hf''⟩
          have hF : Fr [p, lb] w w'' := hf'.trans hf''
          clear hf'' hf' c0 d0 d1 h1 h2 h3 hG
          go_wp2_with fail
          go_ret
          exact ⟨rfl, hm'', hF⟩
      · have He := Lib.hid e
        have Ho := Lib.hid ho
        have Hh := Lib.hid hh
        clear e ho hh
        go_enter Try.func23, Try.ntmps23
        go_wp2_with fail
        refine hS.mono ?_
        clear hS hm
        rintro e w' ⟨rfl, ⟨⟨cap, h1⟩, cs, h2, h3⟩, hf'⟩
        have c0 : w'.cell? ⟨p, 0, none⟩ = some (.slice (some ⟨lb, 0, none⟩) B.n cap) := cellB h1 0
        have d0 : w'.cell? ⟨lb, j * 3, none⟩ = some (.bool true) := (cellB h2 _).trans ((h3.on j hjB).trans (by rw [Ho.out]))
        have d1 : w'.cell? ⟨lb, j * 3 + 1, none⟩ = some (.bool true) := (cellB h2 _).trans ((h3.held j hjB).trans (by rw [Hh.out]))
        have d2 : w'.cell? ⟨lb, j * 3 + 2, none⟩ = some (.int .u64 (B.hv j)) := (cellB h2 _).trans (h3.hv j hjB)
        have y2 := frozenB h2 (j * 3 + 2)
        have hpl : p ≠ lb := ne_of_type h1 h2 (by decide)
        by_cases hle : B.hv j < t + h
        · have em : max (B.hv j) (t + h) = t + h := by omega
          have Em := Lib.hid em
          clear em
          go_wp2_with fail
          refine (hG _ ?_).mono ?_
          · rw [He.out, Em.out]
            refine ⟨⟨cap, setB_ne h1 _ _ hpl.symm⟩, _, ?_, h3.put j hjB true (t + h + 1) rfl rfl rfl⟩
            rw [set3_third h3 hjB Ho.out Hh.out _ (by omega)]
            rw [setB h2, show t + h + 1 - 1 = t + h by omega]
          · rintro e w'' ⟨rfl, hm'', hf''⟩
            have hF : Fr [p, lb] w w'' := (hf'.setCell (Or.inl (by simp)) _).trans hf''
            clear hf'' hf' c0 d0 d1 d2 y2 h1 h2 h3 hG
            go_wp2_with fail
            go_ret
            exact ⟨rfl, hm'', hF⟩
        · have em : max (B.hv j) (t + h) = B.hv j := by omega
          have Em := Lib.hid em
          clear em
          go_wp2_with fail
          refine (hG _ ?_).mono ?_
          · rw [He.out, Em.out]
            refine ⟨⟨cap, setB_ne h1 _ _ hpl.symm⟩, _, ?_, h3.put j hjB true (B.hv j + 1) rfl rfl rfl⟩
            rw [set3_third h3 hjB Ho.out Hh.out _ (by omega)]
            rw [setB h2, show B.hv j + 1 - 1 = B.hv j by omega]
          · rintro e w'' ⟨rfl, hm'', hf''⟩
            have hF : Fr [p, lb] w w'' := (hf'.setCell (Or.inl (by simp)) _).trans hf''
            clear hf'' hf' c0 d0 d1 d2 y2 h1 h2 h3 hG
            go_wp2_with fail
            go_ret
            exact ⟨rfl, hm'', hF⟩
end Go.Proofs.Ytjdbhlmkcbgkjaa.Wk
