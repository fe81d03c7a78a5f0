import Derived.Test.YtdfmjmabdggcjaaPzE
namespace Go.Proofs.Ytdfmjmabdggcjaa.Pz
open Go.RowKit Go.Proofs.YtdfmjmabdggcjaaW.PrintWords
set_option linter.unusedVariables false
set_option linter.unusedSimpArgs false
/-- append(v, y0, y1, ..) of literal elements. -/
theorem append_lit {P : Program} {ops : Array Oper} {rest : List Oper} {o : Oper} {a : Act} {Q : Exit → Act → World → Prop} {w0 W : World} (B base : Nat) (hgd : o.guard = none) (s x : Operand) (t e : TypeId) (k : IntKind) (bytes : Nat)
    (ho : o.op = .call { callee := .builtin .append, args := #[s, x], argTypes := #[t, t] })
    (ht : P.underlying t = some (.slice e)) (hinfo : (P.info? e).map (fun i => (i.zero, i.size, i.bytes)) = some (some (.int k 0), 1, bytes)) (hb0 : 0 < bytes)
    (v : Value) (xs ys : List Int) (m : Nat) (hm : m = ys.length) (hs : a.eval s = v) (hx : a.eval x = .slice (some ⟨W.heap.size, 0, none⟩) m m)
    (HO : W.ownsRow base e 1 v xs.length (nums k xs)) (HB : Below B w0 W) (hBb : B ≤ base) (hbase : base ≤ W.heap.size) (hl : (xs.length + m) * bytes ≤ 140737488355328)
    (h : ∀ v1 w1, w1.ownsRow base e 1 v1 (xs ++ ys).length (nums k (xs ++ ys)) → Below B w0 w1 → W.grownBy w1 v.ownBlock → wpList P ops Q rest (a.put o.dst v1) w1) :
    wpList P ops Q (o :: rest) a (W.alloc (.cells (nums k ys).toArray e)) := by
  subst hm
  obtain ⟨i0, hi, hzz⟩ := Option.map_eq_some_iff.1 hinfo
  simp only [Prod.mk.injEq] at hzz
  obtain ⟨hz0, hz1, hz2⟩ := hzz
  have hlen : xs.length + ys.length ≤ 140737488355328 := Nat.le_trans (Nat.le_mul_of_pos_right _ hb0) hl
  refine wpList_append_own_at (W.alloc (.cells (nums k ys).toArray e)) hgd s x t ho base e i0 (.int k 0) 1 bytes ht hi hz0 hz1 hz2 rfl (by omega) v xs.length (nums k xs) hs (HO.alloc _) ⟨W.heap.size, 0, none⟩ ys.length ys.length (nums k ys) hx (by simp [nums])
    (by simpa using World.news_of_block (cs := (nums k ys).toArray) (t := e) (fr := (0, 0)) (heap_alloc_new W _)) (by intro u hu; simp only [nums, List.mem_map] at hu; obtain ⟨q, _, rfl⟩ := hu; rfl) (by simp only [maxLen]; omega) hl (by simp; omega) ?_
  intro v1 w1 hown hg _ hat
  exact h v1 w1 (by simpa [nums] using hown) ((HB.alloc (by omega) _).grown hg (by simp; omega) (fun k hk => Nat.le_trans hBb (own_base HO k hk))) (World.grownBy.trans (World.grownBy_alloc W _ _) hg)

theorem grown_low {w w1 : World} {base n : Nat} {e : TypeId} {sz : Nat} {v : Value} {xs : List Value} {B : Nat} {o : Obj} (h : w.ownsRow base e sz v n xs) (hd : w.heap[B]? = some o) (hB : B < base) (hg : w.grownBy w1 v.ownBlock) : w1.heap[B]? = some o := by
  rw [hg.block B (Array.getElem?_eq_some_iff.1 hd).1 ?_]
  · exact hd
  · rcases h.2 with ⟨rfl, _⟩ | ⟨g, cap, cur, rfl, hgb, _⟩
    · simp [Value.ownBlock]
    · intro e
      have e : B = g := by simpa [Value.ownBlock] using e
      omega

end Go.Proofs.Ytdfmjmabdggcjaa.Pz
