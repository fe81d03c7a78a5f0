import Derived.Test.YtjdbhlmkcbgkjaaWkF
import Derived.Laws.MakeOwn
namespace Go.Proofs.Ytjdbhlmkcbgkjaa.Wk
open Go.RowKit Go.Proofs.YtjdbhlmkcbgkjaaW.PrintWords
set_option linter.unusedVariables false
set_option linter.unusedSimpArgs false

theorem make_calls0 (P : Program) (t e : TypeId) (z : Value) (size bytes : Nat) (ht : P.underlying t = some (.slice e)) (hinfo : (P.info? e).map (fun i => (i.zero, i.size, i.bytes)) = some (some z, size, bytes)) (hb : bytes ≤ 1000) (n : Nat) (hn : n ≤ 1000) (W : World) :
    (Instr.makeSlice t (.int .i64 n) (.int .i64 n)).run P W = .ok (.slice (some ⟨W.heap.size, 0, none⟩) n n) (W.alloc (.cells (madeCells z.cells (n * size)) e)) := by
  obtain ⟨i, hi, hz⟩ := Option.map_eq_some_iff.1 hinfo
  simp only [Prod.mk.injEq] at hz
  obtain ⟨hz0, hz1, hz2⟩ := hz
  have h := run_make (P := P) W t e i z ht hi hz0 .i64 .i64 n n (by omega) (by omega) (by
    rw [hz2]
    have := Nat.mul_le_mul hb hn
    rw [← Int.natCast_mul]
    omega) (by omega)
  rw [hz1] at h
  simpa using h

def St.new (n : Nat) : St := { n := n, on := fun _ => false, hold := fun _ => 0, now := 0, events := 0, alarm := 0, set := false, armed := false, rem := 0 }
theorem St.new_ok (n : Nat) (h : n ≤ 32) : (St.new n).Ok := ⟨h, Int.le_refl _, by show (0 : Int) ≤ _; omega, Int.le_refl _, Int.le_refl _, by show (0 : Int) ≤ _; omega, fun _ => rfl, fun _ => Int.le_refl _, fun _ => by show (0 : Int) ≤ _; omega, fun _ _ => rfl, by show _ ≤ (0 : Int); omega, by show (0 : Int) < _; omega⟩
theorem made_at (z : Array Value) (m i : Nat) (hi : i < m) : (madeCells z m)[i]? = some (z[i % z.size]!) := by
  simp [madeCells, hi]
theorem new_list (n : Nat) (cs : Array Value) (hcs : cs = madeCells #[.bool false, .bool false, .int .u64 0] (n * 3)) : LCells (St.new n) cs := by
  subst hcs
  refine ⟨fun i hi => ?_, fun i hi => ?_, fun i hi => ?_⟩
  · have hi : i < n := hi
    rw [made_at _ _ _ (by omega)]
    have e : i * 3 % (#[Value.bool false, .bool false, .int .u64 0] : Array Value).size = 0 := by simp
    rw [e]; rfl
  · have hi : i < n := hi
    rw [made_at _ _ _ (by omega)]
    have e : (i * 3 + 1) % (#[Value.bool false, .bool false, .int .u64 0] : Array Value).size = 1 := by simp
    rw [e]; rfl
  · have hi : i < n := hi
    rw [made_at _ _ _ (by omega)]
    have e : (i * 3 + 2) % (#[Value.bool false, .bool false, .int .u64 0] : Array Value).size = 2 := by simp
    rw [e]; rfl

theorem make58 (n : Nat) (hn : n ≤ 32) (W : World) : (Instr.makeSlice 58 (.int .i64 n) (.int .i64 n)).run Try.prog W = .ok (.slice (some ⟨W.heap.size, 0, none⟩) n n) (W.alloc (.cells (madeCells #[.bool false, .bool false, .int .u64 0] (n * 3)) 63)) :=
  make_calls0 Try.prog 58 63 (.agg #[.bool false, .bool false, .int .u64 0]) 3 16 (by kernel_rfl) (by kernel_rfl) (by omega) n (by omega) W

set_option maxHeartbeats 1600000 in
set_option maxRecDepth 100000 in
theorem new_calls (n : Nat) (hn : n ≤ 32) (w : World) :
    Calls Try.prog 11 #[.int .i64 n] w fun e w' => ∃ p lb, w.heap.size ≤ p ∧ w.heap.size ≤ lb ∧ e = .returned (.tuple #[.pointer (some ⟨p, 0, none⟩), .int .i64 0]) ∧ PMem w' p lb (St.new n) ∧ Fr [] w w' := by
  have hmk := make58 n hn
  obtain ⟨cs, hcs⟩ : ∃ cs, cs = madeCells #[.bool false, .bool false, .int .u64 0] (n * 3) := ⟨_, rfl⟩
  have Hcs := Lib.hid hcs
  rw [← hcs] at hmk
  clear hcs
  go_enter Try.func11, Try.ntmps11
  go_wp2_with fail
  go_ret2
  have g1 := heap_alloc_new w (.cells cs 63)
  refine ⟨w.heap.size + 1, w.heap.size, by omega, by omega, rfl, ⟨⟨n, ?_⟩, cs, allocB g1 _, new_list n cs Hcs.out⟩, ((Fr.refl _ _).alloc _).alloc _⟩
  have h := heap_alloc_new (w.alloc (.cells cs 63)) (.cells (pcells (St.new n) w.heap.size n) 60)
  rw [World.size_alloc] at h
  exact h
set_option maxHeartbeats 1600000 in
theorem new_bad (n : Int) (hn : n < 0 ∨ 32 < n) (hn0 : -9223372036854775808 ≤ n) (hn1 : n < 9223372036854775808) (w : World) :
    Calls Try.prog 11 #[.int .i64 n] w fun e w' => e = .returned (.tuple #[.pointer none, .int .i64 1]) ∧ w' = w := by
  rcases hn with hn | hn
  all_goals
    go_enter Try.func11, Try.ntmps11
    go_wp2_with fail
    go_ret2
    exact ⟨rfl, rfl⟩
end Go.Proofs.Ytjdbhlmkcbgkjaa.Wk
