import Derived.Test.YtjdbhlmkcbgkjaaWkG
namespace Go.Proofs.Ytjdbhlmkcbgkjaa.Wk
open Go.RowKit Go.Proofs.YtjdbhlmkcbgkjaaW.PrintWords
set_option linter.unusedVariables false
set_option linter.unusedSimpArgs false

theorem LCells.size {A : St} {cs : Array Value} (h : LCells A cs) : A.n * 3 ≤ cs.size := by
  cases hn : A.n with
  | zero => omega
  | succ m =>
    have := (Array.getElem?_eq_some_iff.1 (h.hv m (by omega))).1
    omega
theorem LCells.at {A : St} {cs : Array Value} (h : LCells A cs) (j : Nat) (hj : j < A.n * 3) : ∃ u, cs[j]? = some u ∧ u.oneCell' = true := by
  have hi : j / 3 < A.n := by omega
  have hr : j = j / 3 * 3 ∨ j = j / 3 * 3 + 1 ∨ j = j / 3 * 3 + 2 := by omega
  rcases hr with e | e | e
  · rw [e]; exact ⟨_, h.on _ hi, rfl⟩
  · rw [e]; exact ⟨_, h.held _ hi, rfl⟩
  · rw [e]; exact ⟨_, h.hv _ hi, rfl⟩
theorem LCells.take {A : St} {cs ds : Array Value} (h : LCells A cs) (e : ds.toList.take (A.n * 3) = cs.toList.take (A.n * 3)) : LCells A ds := by
  have hg : ∀ j, j < A.n * 3 → ds[j]? = cs[j]? := by
    intro j hj
    have h1 : (ds.toList.take (A.n * 3))[j]? = (cs.toList.take (A.n * 3))[j]? := by rw [e]
    rw [List.getElem?_take_of_lt hj, List.getElem?_take_of_lt hj] at h1
    simpa using h1
  exact ⟨fun i hi => (hg _ (by omega)).trans (h.on i hi), fun i hi => (hg _ (by omega)).trans (h.held i hi), fun i hi => (hg _ (by omega)).trans (h.hv i hi)⟩

set_option maxHeartbeats 1600000 in
set_option maxRecDepth 100000 in
theorem clone_calls (lb cap : Nat) (A : St) (hn : A.n ≤ 32) (w : World) (cs : Array Value) (h2 : w.heap[lb]? = some (.cells cs 63 (0, 0))) (h3 : LCells A cs) :
    Calls Try.prog 39 #[.slice (some ⟨lb, 0, none⟩) A.n cap] w fun e w' => ∃ g c ds, w.heap.size ≤ g ∧ e = .returned (.slice (some ⟨g, 0, none⟩) A.n c) ∧ w'.heap[g]? = some (.cells ds 63 (0, 0)) ∧ LCells A ds ∧ Fr [] w w' := by
  have H2 := Lib.hid h2
  clear h2
  have hsz := h3.size
  obtain ⟨n, hn'⟩ : ∃ n, n = A.n := ⟨_, rfl⟩
  have Hn := Lib.hid hn'
  rw [← hn'] at hn ⊢
  clear hn'
  have heq : ∀ w : World, (binOp .eql 58 (.slice (some ⟨lb, 0, none⟩) n cap) (.slice none 0 0)).run Try.prog w = .ok (.bool false) w := fun w => by
    simp only [binOp]
    rw [Sem.run_bind, run_equal_slice_nil w 58 63 _ _ _ Try.underlying58]
    rfl
  have hW2 : (w.alloc (.cells #[] 63)).heap[lb]? = some (.cells cs 63 (0, 0)) := allocB H2.out _
  have hnews : Hid (∀ j u, (cs.toList.take (A.n * 3))[j]? = some u → (w.alloc (.cells #[] 63)).cell? ((⟨lb, 0, none⟩ : Addr).add j) = some u) := by
    intro j u hu
    refine World.news_of_block hW2 j u ?_
    rw [List.getElem?_take] at hu
    split at hu
    · exact hu
    · cases hu
  have hone : Hid (∀ u ∈ cs.toList.take (A.n * 3), u.oneCell' = true) := by
    intro u hu
    obtain ⟨j, hj, rfl⟩ := List.mem_iff_getElem.1 hu
    have hj2 : j < A.n * 3 := by simp at hj; omega
    obtain ⟨u, h1, h2⟩ := h3.at j hj2
    have : (cs.toList.take (A.n * 3))[j] = u := by
      simp
      have := (Array.getElem?_eq_some_iff.1 h1)
      obtain ⟨hh, he⟩ := this
      exact he
    rw [this]; exact h2
  have hown : Hid ((w.alloc (.cells #[] 63)).ownsRow w.heap.size 63 3 (.slice (some ⟨w.heap.size, 0, none⟩) 0 0) 0 []) := World.ownsRow_made w #[] 0 (Nat.le_refl _) (by decide) rfl
  have hlen : Hid ((cs.toList.take (A.n * 3)).length = A.n * 3) := by
    show _ = _
    simp; omega
  have H3 := Lib.hid h3
  clear hW2 h3 hsz
  obtain ⟨i0, hi, hzz⟩ := Option.map_eq_some_iff.1 (show (Try.prog.info? 63).map (fun i => (i.zero, i.size, i.bytes)) = some (some (.agg #[.bool false, .bool false, .int .u64 0]), 3, 16) by kernel_rfl)
  simp only [Prod.mk.injEq] at hzz
  have Hi := Lib.hid hi
  have Hz := Lib.hid hzz
  clear hi hzz
  go_enter Try.func39, Try.ntmps39
  go_wp2_with (at_builtin; refine wpList_append_own_at (w.alloc (.cells #[] 63)) rfl (.tmp 5) (.tmp 6) 58 rfl w.heap.size 63 i0 (.agg #[.bool false, .bool false, .int .u64 0]) 3 16 Try.underlying58 Hi.out Hz.out.1 Hz.out.2.1 Hz.out.2.2 rfl (by omega) _ 0 [] rfl hown.out ⟨lb, 0, none⟩ n cap (cs.toList.take (A.n * 3)) rfl (by rw [hlen.out, Hn.out]) hnews.out hone.out (by simp only [maxLen]; omega) (by omega) (by simp) ?_; intro v1 w1 ho1 hg1 hnl1 hat1)
  go_ret
  have hF : Fr [] w w1 := ((Fr.refl [] w).alloc (.cells #[] 63)).grown hg1 (by
    intro k hk
    have : k = w.heap.size := by injection hk with hk; exact hk.symm
    right; omega)
  rcases ho1.2 with ⟨rfl, h0⟩ | ⟨g, c, cur, rfl, hgb, hgh, _, _, _, htk⟩
  · have := (hnl1.1 rfl).1
    cases this
  · refine ⟨g, c, cur, hgb, ?_, hgh, ?_, hF⟩
    · rw [Nat.zero_add]; rfl
    · refine H3.out.take ?_
      rw [← Hn.out]
      rw [Nat.zero_add, List.nil_append, ← Hn.out] at htk
      exact htk
end Go.Proofs.Ytjdbhlmkcbgkjaa.Wk
