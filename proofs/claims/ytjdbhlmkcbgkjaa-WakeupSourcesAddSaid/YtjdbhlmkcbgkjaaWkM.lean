import Derived.Test.YtjdbhlmkcbgkjaaWkL
namespace Go.Proofs.Ytjdbhlmkcbgkjaa.Wk
open Go.RowKit Go.Proofs.YtjdbhlmkcbgkjaaW.PrintWords
set_option linter.unusedVariables false
set_option linter.unusedSimpArgs false

theorem new_olist (n : Nat) (cs : Array Value) (hcs : cs = madeCells #[.bool false] (n * 1)) : OCells (St.new n) cs := by
  subst hcs
  intro i hi
  have hi : i < n := hi
  rw [made_at _ _ _ (by omega)]
  have e : i % (#[Value.bool false] : Array Value).size = 0 := by simp; omega
  rw [e]; rfl
theorem new_hlist (n : Nat) (cs : Array Value) (hcs : cs = madeCells #[.int .u64 0] (n * 1)) : HCells (St.new n) cs := by
  subst hcs
  intro i hi
  have hi : i < n := hi
  refine ⟨0, ?_, by omega, by omega, fun _ => rfl⟩
  rw [made_at _ _ _ (by omega)]
  have e : i % (#[Value.int .u64 0] : Array Value).size = 0 := by simp; omega
  rw [e]; rfl

theorem three_new (w : World) (a b : Array Value) (S T : TypeId) (f : Array Value) (U : TypeId) :
    (((w.alloc (.cells a S)).alloc (.cells b T)).alloc (.cells f U)).heap[w.heap.size]? = some (.cells a S (0, 0)) ∧
    (((w.alloc (.cells a S)).alloc (.cells b T)).alloc (.cells f U)).heap[w.heap.size + 1]? = some (.cells b T (0, 0)) ∧
    (((w.alloc (.cells a S)).alloc (.cells b T)).alloc (.cells f U)).heap[w.heap.size + 1 + 1]? = some (.cells f U (0, 0)) := by
  refine ⟨allocB (allocB (heap_alloc_new w _) _) _, ?_, ?_⟩
  · have h := heap_alloc_new (w.alloc (.cells a S)) (.cells b T)
    rw [World.size_alloc] at h
    exact allocB h _
  · have h := heap_alloc_new ((w.alloc (.cells a S)).alloc (.cells b T)) (.cells f U)
    rw [World.size_alloc, World.size_alloc] at h
    exact h

set_option maxHeartbeats 1600000 in
set_option maxRecDepth 100000 in
theorem rnew_calls (n : Nat) (hn : n ≤ 32) (w : World) :
    Calls Try.prog 12 #[.int .i64 n] w fun e w' => ∃ q ob hb, w.heap.size ≤ q ∧ w.heap.size ≤ ob ∧ w.heap.size ≤ hb ∧ e = .returned (.tuple #[.pointer (some ⟨q, 0, none⟩), .int .i64 0]) ∧ RMem w' q ob hb (St.new n) ∧ Fr [] w w' := by
  have hmk := make38 n hn
  have hmk2 := make39 n hn
  obtain ⟨cs, hcs⟩ : ∃ cs, cs = madeCells #[.bool false] (n * 1) := ⟨_, rfl⟩
  obtain ⟨ds, hds⟩ : ∃ cs, cs = madeCells #[.int .u64 0] (n * 1) := ⟨_, rfl⟩
  have Hcs := Lib.hid hcs
  have Hds := Lib.hid hds
  rw [← hcs] at hmk
  rw [← hds] at hmk2
  clear hcs hds
  go_enter Try.func12, Try.ntmps12
  go_wp2_with fail
  go_region
  all_goals
    go_wp2_with fail
    go_ret2
    first
    | (obtain ⟨g1, g2, g3⟩ := three_new w cs ds 4 32 (rcells (St.new n) w.heap.size (w.heap.size + 1) n n 0) 41
       exact ⟨w.heap.size + 1 + 1, w.heap.size, w.heap.size + 1, by omega, by omega, by omega, rfl, ⟨⟨n, n, 0, by omega, by omega, fun _ => rfl, g3⟩, ⟨cs, g1, new_olist n cs Hcs.out⟩, ds, g2, new_hlist n ds Hds.out⟩, ((((Fr.refl _ _).alloc _).alloc _).alloc _).drew⟩)
    | (obtain ⟨g1, g2, g3⟩ := three_new w ds cs 32 4 (rcells (St.new n) (w.heap.size + 1) w.heap.size n n 0) 41
       exact ⟨w.heap.size + 1 + 1, w.heap.size + 1, w.heap.size, by omega, by omega, by omega, rfl, ⟨⟨n, n, 0, by omega, by omega, fun _ => rfl, g3⟩, ⟨cs, g2, new_olist n cs Hcs.out⟩, ds, g1, new_hlist n ds Hds.out⟩, ((((Fr.refl _ _).alloc _).alloc _).alloc _).drew⟩)
set_option maxHeartbeats 1600000 in
theorem rnew_bad (n : Int) (hn : n < 0 ∨ 32 < n) (hn0 : -9223372036854775808 ≤ n) (hn1 : n < 9223372036854775808) (w : World) :
    Calls Try.prog 12 #[.int .i64 n] w fun e w' => e = .returned (.tuple #[.pointer none, .int .i64 1]) ∧ w' = w := by
  rcases hn with hn | hn
  all_goals
    go_enter Try.func12, Try.ntmps12
    go_wp2_with fail
    go_ret2
    exact ⟨rfl, rfl⟩
end Go.Proofs.Ytjdbhlmkcbgkjaa.Wk
