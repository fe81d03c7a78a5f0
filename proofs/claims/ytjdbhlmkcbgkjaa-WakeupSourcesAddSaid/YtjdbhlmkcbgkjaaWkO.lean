import Derived.Test.YtjdbhlmkcbgkjaaWkN
namespace Go.Proofs.Ytjdbhlmkcbgkjaa.Wk
open Go.RowKit Go.Proofs.YtjdbhlmkcbgkjaaW.PrintWords
set_option linter.unusedVariables false
set_option linter.unusedSimpArgs false

/-! ### help.Mod, calls and their arguments, plainly -/
def umod (v n : Int) : Int := (v % 18446744073709551616) % n
theorem umod_nn (v n : Int) (h : 0 < n) : 0 ≤ umod v n := Int.emod_nonneg _ (by omega)
theorem umod_lt (v n : Int) (h : 0 < n) : umod v n < n := Int.emod_lt_of_pos _ h
structure Ar where
  source : Int
  now : Int
  other : Int
  events : Int
structure Ar.Ok (a : Ar) : Prop where
  s0 : -9223372036854775808 ≤ a.source
  s1 : a.source < 9223372036854775808
  n0 : 0 ≤ a.now
  n1 : a.now < 18446744073709551616
  o0 : 0 ≤ a.other
  o1 : a.other < 18446744073709551616
  e0 : -9223372036854775808 ≤ a.events
  e1 : a.events < 9223372036854775808
def Ar.val (a : Ar) : Value := .agg #[.int .i64 a.source, .int .u64 a.now, .int .u64 a.other, .int .i64 a.events]
def St.step (A : St) (kind : Int) (a : Ar) : Int × St :=
  if umod kind 9 = 0 ∨ umod kind 9 = 1 then A.Activate a.source a.now
  else if umod kind 9 = 2 then A.Deactivate a.source a.now
  else if umod kind 9 = 3 ∨ umod kind 9 = 4 then A.Pulse a.source a.now a.other
  else if umod kind 9 = 5 then A.SetAlarm a.now a.other
  else if umod kind 9 = 6 then A.Advance a.now
  else if umod kind 9 = 7 then A.Arm a.events a.now
  else (0, A.Disarm)

set_option maxHeartbeats 400000 in
theorem mod_calls (v n : Int) (v0 : -9223372036854775808 ≤ v) (v1 : v < 9223372036854775808) (n0 : 0 < n) (n1 : n < 9223372036854775808) (w : World) :
    Calls Try.prog 13 #[.int .i64 v, .int .i64 n] w fun e w' => e = .returned (.int .i64 (umod v n)) ∧ w' = w := by
  have hu0 := umod_nn v n n0
  have hu1 := umod_lt v n n0
  have e1 : IntKind.u64.wrap v = v % 18446744073709551616 := by rw [IntKind.wrap_u64]
  have e2 : IntKind.u64.wrap n = n := by rw [IntKind.wrap_u64]; omega
  have hv0 : 0 ≤ v % 18446744073709551616 := by omega
  have hv1 : v % 18446744073709551616 < 18446744073709551616 := by omega
  go_enter Try.func13, Try.ntmps13
  go_wp2_with fail
  go_ret
  refine ⟨?_, rfl⟩
  show Ending.returned (.int .i64 (wrap64 (v % 18446744073709551616 % n))) = _
  rw [IntWalk.wrap64_in _ ⟨by unfold umod at hu0; omega, by unfold umod at hu1; omega⟩]
  rfl

structure Cl where
  kind : Int
  source : Int
  wait : Int
  hold : Int
  events : Int
  raw : Bool
structure Cl.Ok (c : Cl) : Prop where
  k0 : -9223372036854775808 ≤ c.kind
  k1 : c.kind < 9223372036854775808
  s0 : -9223372036854775808 ≤ c.source
  s1 : c.source < 9223372036854775808
  w0 : 0 ≤ c.wait
  w1 : c.wait < 18446744073709551616
  h0 : 0 ≤ c.hold
  h1 : c.hold < 18446744073709551616
  e0 : -9223372036854775808 ≤ c.events
  e1 : c.events < 9223372036854775808
def Cl.val (c : Cl) : Value := .agg #[.int .i64 c.kind, .int .i64 c.source, .int .u64 c.wait, .int .u64 c.hold, .int .i64 c.events, .bool c.raw]
def Cl.at (c : Cl) (n now ev : Int) : Ar :=
  if c.raw = true then ⟨c.source, c.wait, c.hold, c.events⟩
  else ⟨if 0 < n then umod c.source n else 0, now + c.wait % 10, if umod c.kind 9 = 5 then now + c.wait % 10 + c.hold % 12 else c.hold % 12, if c.events.tmod 5 = 0 then c.events else ev⟩
theorem Cl.at_ok {c : Cl} (h : c.Ok) (n now ev : Int) (n1 : n < 9223372036854775808) (t0 : 0 ≤ now) (t1 : now ≤ 1152921504606846976) (e0 : -9223372036854775808 ≤ ev) (e1 : ev < 9223372036854775808) : (c.at n now ev).Ok := by
  obtain ⟨k0, k1, s0, s1, w0, w1, h0, h1, x0, x1⟩ := h
  unfold Cl.at
  split
  · exact ⟨s0, s1, w0, w1, h0, h1, x0, x1⟩
  · refine ⟨?_, ?_, ?_, ?_, ?_, ?_, ?_, ?_⟩ <;> dsimp only <;> first | omega | (split <;> first | omega | (rename_i hn; have := umod_nn c.source n hn; have := umod_lt c.source n hn; omega))

set_option maxHeartbeats 1600000 in
set_option maxRecDepth 100000 in
theorem at_calls (c : Cl) (hc : c.Ok) (n now ev : Int) (n0 : 0 ≤ n) (n1 : n < 9223372036854775808) (t0 : 0 ≤ now) (t1 : now ≤ 1152921504606846976) (w : World) :
    Calls Try.prog 14 #[c.val, .int .i64 n, .int .u64 now, .int .i64 ev] w fun e w' => e = .returned (c.at n now ev).val ∧ Fr [] w w' := by
  obtain ⟨kind, source, wait, hold, events, raw⟩ := c
  obtain ⟨k0, k1, s0, s1, w0, w1, h0, h1, x0, x1⟩ := hc
  simp only at k0 k1 s0 s1 w0 w1 h0 h1 x0 x1
  unfold Cl.val Ar.val Cl.at
  simp only
  cases raw with
  | true =>
    rw [if_pos rfl]
    go_enter Try.func14, Try.ntmps14
    go_wp2_with fail
    refine bodyPost_ret (v := .agg #[.int .i64 source, .int .u64 wait, .int .u64 hold, .int .i64 events]) (by simp [results, Try.results14, go_sem]) rfl ⟨rfl, ?_⟩
    repeat (first | exact Fr.refl _ _ | refine Fr.alloc ?_ _ | refine Fr.drew ?_ | refine Fr.setCell ?_ (Or.inr (by simp)) _)
  | false =>
    rw [if_neg (by simp)]
    have hw0 : 0 ≤ wait % 10 := by omega
    have hw1 : wait % 10 < 10 := by omega
    have hh0 : 0 ≤ hold % 12 := by omega
    have hh1 : hold % 12 < 12 := by omega
    have hM := fun W => mod_calls kind 9 k0 k1 (by omega) (by omega) W
    generalize umod kind 9 = m at hM ⊢
    have hend : ∀ (a b d e : Int) (w' : World), Fr [] w w' → (Ending.returned (Value.agg #[.int .i64 a, .int .u64 b, .int .u64 d, .int .i64 e]) = .returned (Value.agg #[.int .i64 a, .int .u64 b, .int .u64 d, .int .i64 e]) ∧ Fr [] w w') := fun _ _ _ _ _ h => ⟨rfl, h⟩
    have HE := Lib.hid hend
    clear hend
    have hS : ∀ W, 0 < n → Calls Try.prog 13 #[.int .i64 source, .int .i64 n] W fun e w' => e = .returned (.int .i64 (umod source n)) ∧ w' = W := fun W hn => mod_calls source n s0 s1 hn n1 W
    have hS2 : 0 < n → 0 ≤ umod source n ∧ umod source n < 9223372036854775808 := fun hn => by have := umod_nn source n hn; have := umod_lt source n hn; omega
    generalize umod source n = s at hS hS2 ⊢
    by_cases hn : 0 < n
    · rw [if_pos hn]
      have hS := fun W => hS W hn
      obtain ⟨hs0, hs1⟩ := hS2 hn
      clear hS2
      by_cases h5 : m = 5
      · rw [if_pos h5]
        have hb : (m == 5) = true := by simp [h5]
        clear h5
        by_cases he : events.tmod 5 = 0
        · rw [if_pos he]
          have hb2 : (events.tmod 5 == 0) = true := by simp [he]
          clear he
          go_enter Try.func14, Try.ntmps14
          go_wp2_with fail
          refine (hS _).mono ?_
          rintro e w' ⟨rfl, rfl⟩
          go_wp2_with fail
          refine (hM _).mono ?_
          rintro e w' ⟨rfl, rfl⟩
          go_wp2_with fail
          refine bodyPost_ret (v := .agg #[_, _, _, _]) (by simp [results, Try.results14, go_sem]; exact ⟨rfl, rfl, rfl, rfl⟩) rfl ?_
          refine ⟨rfl, ?_⟩
          repeat (first | exact Fr.refl _ _ | refine Fr.alloc ?_ _ | refine Fr.drew ?_ | refine Fr.setCell ?_ (Or.inr (by simp)) _)
        · rw [if_neg he]
          have hb2 : (events.tmod 5 == 0) = false := by simp [he]
          clear he
          go_enter Try.func14, Try.ntmps14
          go_wp2_with fail
          refine (hS _).mono ?_
          rintro e w' ⟨rfl, rfl⟩
          go_wp2_with fail
          refine (hM _).mono ?_
          rintro e w' ⟨rfl, rfl⟩
          go_wp2_with fail
          refine bodyPost_ret (v := .agg #[_, _, _, _]) (by simp [results, Try.results14, go_sem]; exact ⟨rfl, rfl, rfl, rfl⟩) rfl ?_
          refine ⟨rfl, ?_⟩
          repeat (first | exact Fr.refl _ _ | refine Fr.alloc ?_ _ | refine Fr.drew ?_ | refine Fr.setCell ?_ (Or.inr (by simp)) _)
      · rw [if_neg h5]
        have hb : (m == 5) = false := by simp [h5]
        clear h5
        by_cases he : events.tmod 5 = 0
        · rw [if_pos he]
          have hb2 : (events.tmod 5 == 0) = true := by simp [he]
          clear he
          go_enter Try.func14, Try.ntmps14
          go_wp2_with fail
          refine (hS _).mono ?_
          rintro e w' ⟨rfl, rfl⟩
          go_wp2_with fail
          refine (hM _).mono ?_
          rintro e w' ⟨rfl, rfl⟩
          go_wp2_with fail
          refine bodyPost_ret (v := .agg #[_, _, _, _]) (by simp [results, Try.results14, go_sem]; exact ⟨rfl, rfl, rfl, rfl⟩) rfl ?_
          refine ⟨rfl, ?_⟩
          repeat (first | exact Fr.refl _ _ | refine Fr.alloc ?_ _ | refine Fr.drew ?_ | refine Fr.setCell ?_ (Or.inr (by simp)) _)
        · rw [if_neg he]
          have hb2 : (events.tmod 5 == 0) = false := by simp [he]
          clear he
          go_enter Try.func14, Try.ntmps14
          go_wp2_with fail
          refine (hS _).mono ?_
          rintro e w' ⟨rfl, rfl⟩
          go_wp2_with fail
          refine (hM _).mono ?_
          rintro e w' ⟨rfl, rfl⟩
          go_wp2_with fail
          refine bodyPost_ret (v := .agg #[_, _, _, _]) (by simp [results, Try.results14, go_sem]; exact ⟨rfl, rfl, rfl, rfl⟩) rfl ?_
          refine ⟨rfl, ?_⟩
          repeat (first | exact Fr.refl _ _ | refine Fr.alloc ?_ _ | refine Fr.drew ?_ | refine Fr.setCell ?_ (Or.inr (by simp)) _)
    · rw [if_neg hn]
      clear hS hS2
      by_cases h5 : m = 5
      · rw [if_pos h5]
        have hb : (m == 5) = true := by simp [h5]
        clear h5
        by_cases he : events.tmod 5 = 0
        · rw [if_pos he]
          have hb2 : (events.tmod 5 == 0) = true := by simp [he]
          clear he
          go_enter Try.func14, Try.ntmps14
          go_wp2_with fail
          refine (hM _).mono ?_
          rintro e w' ⟨rfl, rfl⟩
          go_wp2_with fail
          refine bodyPost_ret (v := .agg #[_, _, _, _]) (by simp [results, Try.results14, go_sem]; exact ⟨rfl, rfl, rfl, rfl⟩) rfl ?_
          refine ⟨rfl, ?_⟩
          repeat (first | exact Fr.refl _ _ | refine Fr.alloc ?_ _ | refine Fr.drew ?_ | refine Fr.setCell ?_ (Or.inr (by simp)) _)
        · rw [if_neg he]
          have hb2 : (events.tmod 5 == 0) = false := by simp [he]
          clear he
          go_enter Try.func14, Try.ntmps14
          go_wp2_with fail
          refine (hM _).mono ?_
          rintro e w' ⟨rfl, rfl⟩
          go_wp2_with fail
          refine bodyPost_ret (v := .agg #[_, _, _, _]) (by simp [results, Try.results14, go_sem]; exact ⟨rfl, rfl, rfl, rfl⟩) rfl ?_
          refine ⟨rfl, ?_⟩
          repeat (first | exact Fr.refl _ _ | refine Fr.alloc ?_ _ | refine Fr.drew ?_ | refine Fr.setCell ?_ (Or.inr (by simp)) _)
      · rw [if_neg h5]
        have hb : (m == 5) = false := by simp [h5]
        clear h5
        by_cases he : events.tmod 5 = 0
        · rw [if_pos he]
          have hb2 : (events.tmod 5 == 0) = true := by simp [he]
          clear he
          go_enter Try.func14, Try.ntmps14
          go_wp2_with fail
          refine (hM _).mono ?_
          rintro e w' ⟨rfl, rfl⟩
          go_wp2_with fail
          refine bodyPost_ret (v := .agg #[_, _, _, _]) (by simp [results, Try.results14, go_sem]; exact ⟨rfl, rfl, rfl, rfl⟩) rfl ?_
          refine ⟨rfl, ?_⟩
          repeat (first | exact Fr.refl _ _ | refine Fr.alloc ?_ _ | refine Fr.drew ?_ | refine Fr.setCell ?_ (Or.inr (by simp)) _)
        · rw [if_neg he]
          have hb2 : (events.tmod 5 == 0) = false := by simp [he]
          clear he
          go_enter Try.func14, Try.ntmps14
          go_wp2_with fail
          refine (hM _).mono ?_
          rintro e w' ⟨rfl, rfl⟩
          go_wp2_with fail
          refine bodyPost_ret (v := .agg #[_, _, _, _]) (by simp [results, Try.results14, go_sem]; exact ⟨rfl, rfl, rfl, rfl⟩) rfl ?_
          refine ⟨rfl, ?_⟩
          repeat (first | exact Fr.refl _ _ | refine Fr.alloc ?_ _ | refine Fr.drew ?_ | refine Fr.setCell ?_ (Or.inr (by simp)) _)
end Go.Proofs.Ytjdbhlmkcbgkjaa.Wk
