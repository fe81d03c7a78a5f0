import Derived.Test.YtbcgcbogcofbjaaEcF
import Derived.Laws.Tables
namespace Go.Proofs.Ytbcgcbogcofbjaa.Ec
open Go.RowKit Go.Proofs.Ytbcgcbogcofbjaa.G
set_option linter.unusedVariables false
set_option linter.unusedSimpArgs false
attribute [local go_sem ↓] Go.wp_at_zero Go.wp_at_succ

/-- A transaction. -/
structure Tr where
  cmd : Int
  addr : Int
  v : Int
  dl : Int
  ph : Int
  res : Int
  e : Int
def trv (T : Tr) : List Value := [.int .u8 T.cmd, .int .u8 T.addr, .int .u8 T.v, .int .u64 T.dl, .int .i64 T.ph, .int .u8 T.res, .int .i64 T.e]
def TB (w : World) (t : Nat) (ty : TypeId) (T : Tr) : Prop := ∃ cs : Array Value, w.heap[t]? = some (.cells cs ty (0, 0)) ∧ cs.toList = trv T

set_option maxHeartbeats 1600000 in
set_option maxRecDepth 100000 in
theorem read_calls (x s n : Int) (s0 : 0 ≤ s) (s1 : s < 18446744073709551616) (n0 : 0 ≤ n) (n1 : n < 18446744073709551616) (w : World) :
    Calls Try.prog 11 #[.int .u8 x, .int .u64 s, .int .u64 n] w fun e w' => e = .returned (.pointer (some ⟨w.heap.size, 0, none⟩)) ∧ TB w' w.heap.size 69 ⟨128, x, 0, after s n, 0, 0, 0⟩ ∧ Fr [] w w' ∧ w.heap.size < w'.heap.size := by
  go_enter Try.func11, Try.ntmps11
  go_wp2_with fail
  refine (after_calls s n s0 s1 n0 n1 _).mono ?_
  rintro e w2 ⟨rfl, rfl⟩
  go_wp2_with fail
  go_ret
  refine ⟨rfl, ⟨_, heap_alloc_new _ _, ?_⟩, (Fr.refl _ _).alloc _, ?_⟩
  · rfl
  · exact lt_of_heap (heap_alloc_new _ _)
theorem Blk.of_list' {w : World} {p : Nat} {T : TypeId} {cs : Array Value} {d n : Int} {hi : List Value} (h : w.heap[p]? = some (.cells cs T (0, 0))) (hl : hi.length = 9) (R : List Value) (hR : R.length = 256) (hg : ∀ i, i < 256 → R[i]? = some (.int .u8 0)) (e : cs.toList = .int .u64 d :: .int .u64 n :: (R ++ hi)) : Blk w p T d n (fun _ => 0) hi := by
  have hsz : cs.size = 267 := by
    rw [← Array.length_toList, e]; simp only [List.length_cons, List.length_append, hR, hl]
  refine ⟨⟨cs, h, hsz, fun k hk => ?_⟩, hl⟩
  rw [← Array.getElem?_toList, e]
  unfold cf lo
  match k, hk with
  | 0, _ => rfl
  | 1, _ => rfl
  | k + 2, hk =>
    rw [List.getElem?_cons_succ, List.getElem?_cons_succ, if_neg (by omega : ¬ k + 2 = 0), if_neg (by omega : ¬ k + 2 = 1)]
    by_cases h1 : k + 2 < 258
    · rw [if_pos h1, List.getElem?_append_left (by omega), hg k (by omega)]
    · rw [if_neg h1, List.getElem?_append_right (by omega), hR, show k + 2 - 258 = k - 256 by omega, List.getElem?_eq_getElem (by omega), List.getD_eq_getElem?_getD, List.getElem?_eq_getElem (by omega)]; rfl
theorem Blk.of_list {w : World} {p : Nat} {T : TypeId} {cs : Array Value} {d n : Int} {hi : List Value} (h : w.heap[p]? = some (.cells cs T (0, 0))) (hl : hi.length = 9) (e : cs.toList = .int .u64 d :: .int .u64 n :: (List.replicate 256 (.int .u8 0) ++ hi)) : Blk w p T d n (fun _ => 0) hi :=
  Blk.of_list' h hl _ List.length_replicate (fun i hi => by rw [List.getElem?_replicate, if_pos hi]) e
set_option maxRecDepth 100000
noncomputable def nc (d : Int) : Array Value := (Try.prog.built 66 [(0, .int .u64 d)]).getD #[]
theorem nc_list (d : Int) : (nc d).toList = .int .u64 d :: .int .u64 0 :: (List.replicate 256 (.int .u8 0) ++ phi (Ct.new d) (.slice none 0 0) (.slice none 0 0)) := by kernel_rfl
theorem nc_some (d : Int) : Try.prog.built 66 [(0, .int .u64 d)] = some (nc d) := by
  have h : (Try.prog.built 66 [(0, .int .u64 d)]).isSome = true := by kernel_rfl
  obtain ⟨c, hc⟩ := Option.isSome_iff_exists.1 h
  unfold nc
  rw [hc]; rfl
theorem nc_run (d : Int) (w : World) : (Instr.build 66 #[(0, .int .u64 d)]).run Try.prog w = .ok (.agg (nc d)) w := run_build w 66 _ _ (nc_some d)
noncomputable def ncr (d : Int) : Array Value := (Try.prog.built 72 [(0, .int .u64 d), (11, .int .i64 (-1))]).getD #[]
theorem ncr_list (d : Int) : (ncr d).toList = .int .u64 d :: .int .u64 0 :: (List.replicate 256 (.int .u8 0) ++ rhi (Ct.new d) (.slice none 0 0)) := by kernel_rfl
theorem ncr_some (d : Int) : Try.prog.built 72 [(0, .int .u64 d), (11, .int .i64 (-1))] = some (ncr d) := by
  have h : (Try.prog.built 72 [(0, .int .u64 d), (11, .int .i64 (-1))]).isSome = true := by kernel_rfl
  obtain ⟨c, hc⟩ := Option.isSome_iff_exists.1 h
  unfold ncr
  rw [hc]; rfl
theorem ncr_run (d : Int) (w : World) : (Instr.build 72 #[(0, .int .u64 d), (11, .int .i64 (-1))]).run Try.prog w = .ok (.agg (ncr d)) w := run_build w 72 _ _ (ncr_some d)
set_option maxHeartbeats 1600000 in
set_option maxRecDepth 100000 in
theorem new_bad (d : Int) (hd : 4294967296 < d) (w : World) :
    Calls Try.prog 9 #[.int .u64 d] w fun e w' => e = .returned (.tuple #[.pointer none, .int .i64 1]) ∧ w' = w := by
  go_enter Try.func9, Try.ntmps9
  go_wp2_with fail
  go_ret2
  exact ⟨rfl, rfl⟩
section
attribute [local go_sem ↓] nc_run ncr_run
attribute [-go_sem] Instr.build
set_option maxHeartbeats 1600000 in
set_option maxRecDepth 100000 in
theorem new_calls (d : Int) (hd : d ≤ 4294967296) (w : World) :
    Calls Try.prog 9 #[.int .u64 d] w fun e w' => e = .returned (.tuple #[.pointer (some ⟨w.heap.size, 0, none⟩), .int .i64 0]) ∧ PC w' w.heap.size [] (Ct.new d) ∧ Fr [] w w' ∧ w.heap.size < w'.heap.size := by
  go_enter Try.func9, Try.ntmps9
  go_wp2_with fail
  go_ret2
  exact ⟨rfl, ⟨_, _, [], [], rfl, Blk.of_list (heap_alloc_new _ _) rfl (nc_list d), SL.nil _ _, fun e => absurd e (by show ¬ (0 : Int) = 129; omega), fun _ => rfl, fun x hx => by cases hx⟩, (Fr.refl _ _).alloc _, lt_of_heap (heap_alloc_new _ _)⟩
set_option maxHeartbeats 1600000 in
set_option maxRecDepth 100000 in
theorem newC_calls (d : Int) (w : World) :
    Calls Try.prog 17 #[.int .u64 d] w fun e w' => e = .returned (.pointer (some ⟨w.heap.size, 0, none⟩)) ∧ RC w' w.heap.size [] (Ct.new d) ∧ Fr [] w w' ∧ w.heap.size < w'.heap.size := by
  go_enter Try.func17, Try.ntmps17
  go_wp2_with fail
  go_ret
  exact ⟨rfl, ⟨_, Blk.of_list (heap_alloc_new _ _) rfl (ncr_list d), SL.nil _ _⟩, (Fr.refl _ _).alloc _, lt_of_heap (heap_alloc_new _ _)⟩
end
set_option maxHeartbeats 1600000 in
set_option maxRecDepth 100000 in
theorem writeT_calls (x v s n : Int) (s0 : 0 ≤ s) (s1 : s < 18446744073709551616) (n0 : 0 ≤ n) (n1 : n < 18446744073709551616) (w : World) :
    Calls Try.prog 12 #[.int .u8 x, .int .u8 v, .int .u64 s, .int .u64 n] w fun e w' => e = .returned (.pointer (some ⟨w.heap.size, 0, none⟩)) ∧ TB w' w.heap.size 69 ⟨129, x, v, after s n, 0, 0, 0⟩ ∧ Fr [] w w' ∧ w.heap.size < w'.heap.size := by
  go_enter Try.func12, Try.ntmps12
  go_wp2_with fail
  refine (after_calls s n s0 s1 n0 n1 _).mono ?_
  rintro e w2 ⟨rfl, rfl⟩
  go_wp2_with fail
  go_ret
  refine ⟨rfl, ⟨_, heap_alloc_new _ _, ?_⟩, (Fr.refl _ _).alloc _, ?_⟩
  · rfl
  · exact lt_of_heap (heap_alloc_new _ _)
set_option maxHeartbeats 1600000 in
set_option maxRecDepth 100000 in
theorem query_calls (s n : Int) (s0 : 0 ≤ s) (s1 : s < 18446744073709551616) (n0 : 0 ≤ n) (n1 : n < 18446744073709551616) (w : World) :
    Calls Try.prog 32 #[.int .u64 s, .int .u64 n] w fun e w' => e = .returned (.pointer (some ⟨w.heap.size, 0, none⟩)) ∧ TB w' w.heap.size 69 ⟨132, 0, 0, after s n, 0, 0, 0⟩ ∧ Fr [] w w' ∧ w.heap.size < w'.heap.size := by
  go_enter Try.func32, Try.ntmps32
  go_wp2_with fail
  refine (after_calls s n s0 s1 n0 n1 _).mono ?_
  rintro e w2 ⟨rfl, rfl⟩
  go_wp2_with fail
  go_ret
  refine ⟨rfl, ⟨_, heap_alloc_new _ _, ?_⟩, (Fr.refl _ _).alloc _, ?_⟩
  · rfl
  · exact lt_of_heap (heap_alloc_new _ _)
end Go.Proofs.Ytbcgcbogcofbjaa.Ec
