import Derived.Test.YtjdbhlmkcbgkjaaWkSP
namespace Go.Proofs.Ytjdbhlmkcbgkjaa.Wk
open Go.RowKit Go.Proofs.YtjdbhlmkcbgkjaaW.PrintWords
set_option linter.unusedVariables false
set_option linter.unusedSimpArgs false

theorem ownsRow_fr {S : List Nat} {w w' : World} {base e size n : Nat} {v : Value} {xs : List Value} (h : w.ownsRow base e size v n xs) (hf : Fr S w w') (hS : ∀ g cs, w.heap[g]? = some (.cells cs e (0, 0)) → g ∉ S) : w'.ownsRow base e size v n xs := by
  refine ⟨h.1, ?_⟩
  rcases h.2 with hn | ⟨g, cap, cur, hv, hb, hgg, rest⟩
  · exact .inl hn
  · exact .inr ⟨g, cap, cur, hv, hb, (hf.block g (lt_of_heap hgg) (hS g cur hgg)).trans hgg, rest⟩
def ptrs (P : Nat → Nat) (n : Nat) : List Value := (List.range n).map fun s => .pointer (some ⟨P s, 0, none⟩)
theorem ptrs_at (P : Nat → Nat) (n s : Nat) (h : s < n) : (ptrs P n)[s]? = some (.pointer (some ⟨P s, 0, none⟩)) := by
  unfold ptrs; simp [h]
theorem ptrs_snoc (P : Nat → Nat) (n x : Nat) : ptrs P n ++ [.pointer (some ⟨x, 0, none⟩)] = ptrs (upd P n x) (n + 1) := by
  unfold ptrs
  rw [List.range_succ, List.map_append]
  congr 1
  · refine List.map_congr_left fun s hs => ?_
    have : s < n := by simpa using hs
    unfold upd; rw [if_neg (by omega)]
  · simp [upd]
structure Many (w0 w : World) (p lb : Nat) (A : St) (k : Nat) (P L : Nat → Nat) (M : Nat → St) (v : Value) : Prop where
  a : Only w0 w p lb A
  b : ∀ s, s < k → Only w0 w (P s) (L s) (M s)
  d1 : ∀ s, s < k → P s ≠ p ∧ L s ≠ lb
  d2 : ∀ s r, s < k → r < k → s ≠ r → P s ≠ P r ∧ L s ≠ L r
  own : w.ownsRow w0.heap.size 24 1 v k (ptrs P k)
theorem PMem.types {w : World} {p lb : Nat} {A : St} (h : PMem w p lb A) : ∃ c1 c2, w.heap[p]? = some (.cells c1 60 (0, 0)) ∧ w.heap[lb]? = some (.cells c2 63 (0, 0)) := by
  obtain ⟨⟨cap, h1⟩, cs, h2, _⟩ := h
  exact ⟨_, _, h1, h2⟩
theorem PMem.cross {w : World} {p lb q lc : Nat} {A B : St} (h : PMem w p lb A) (k : PMem w q lc B) : p ≠ lc ∧ lb ≠ q := by
  obtain ⟨c1, c2, h1, h2⟩ := h.types
  obtain ⟨c3, c4, h3, h4⟩ := k.types
  exact ⟨ne_of_type h1 h4 (by decide), ne_of_type h2 h3 (by decide)⟩
theorem own_notin {w : World} {p lb : Nat} {A : St} (h : PMem w p lb A) (g : Nat) (cs : Array Value) (hg : w.heap[g]? = some (.cells cs 24 (0, 0))) : g ∉ [p, lb] := by
  obtain ⟨c1, c2, h1, h2⟩ := h.types
  have := ne_of_type hg h1 (by decide)
  have := ne_of_type hg h2 (by decide)
  simp; omega
section
variable {w0 w w' : World} {p lb : Nat} {A C : St} {k : Nat} {P L : Nat → Nat} {M : Nat → St} {v : Value}
theorem Many.fr0 (h : Many w0 w p lb A k P L M v) (hf : Fr [] w w') : Many w0 w' p lb A k P L M v :=
  ⟨h.a.keep hf, fun s hs => (h.b s hs).keep hf, h.d1, h.d2, ownsRow_fr h.own hf (fun _ _ _ => by simp)⟩
theorem Many.didA {lb' : Nat} (h : Many w0 w p lb A k P L M v) (hl : lb' = lb ∨ w.heap.size ≤ lb') (hm : PMem w' p lb' C) (hf : Fr [p, lb] w w') : Many w0 w' p lb' C k P L M v := by
  have key : ∀ s, s < k → P s ∉ [p, lb] ∧ L s ∉ [p, lb] := fun s hs => by
    have h1 := h.d1 s hs
    have h2 := (h.b s hs).pm.cross h.a.pm
    simp; omega
  refine ⟨h.a.did hl hm hf, fun s hs => ?_, fun s hs => ?_, h.d2, ownsRow_fr h.own hf (own_notin h.a.pm)⟩
  · obtain ⟨k1, k2⟩ := key s hs
    have hb := h.b s hs
    exact ⟨hb.pm.keep hf k1 k2, (h.a.did hl hm hf).bel, hb.hp, hb.hl⟩
  · refine ⟨(h.d1 s hs).1, ?_⟩
    rcases hl with rfl | hl
    · exact (h.d1 s hs).2
    · obtain ⟨_, _, _, h2⟩ := (h.b s hs).pm.types
      have := lt_of_heap h2
      omega
theorem Many.didB {s l : Nat} (h : Many w0 w p lb A k P L M v) (hs : s < k) (hl : l = L s ∨ w.heap.size ≤ l) (hm : PMem w' (P s) l C) (hf : Fr [P s, L s] w w') : Many w0 w' p lb A k P (upd L s l) (upd M s C) v := by
  have hb := h.b s hs
  have hdid := hb.did hl hm hf
  have ka : p ∉ [P s, L s] ∧ lb ∉ [P s, L s] := by
    have h1 := h.d1 s hs
    have h2 := hb.pm.cross h.a.pm
    simp; omega
  have kb : ∀ r, r < k → r ≠ s → P r ∉ [P s, L s] ∧ L r ∉ [P s, L s] := fun r hr hne => by
    have h1 := h.d2 r s hr hs hne
    have h2 := (h.b r hr).pm.cross hb.pm
    simp; omega
  have lt : ∀ r, r < k → L r < w.heap.size := fun r hr => by
    obtain ⟨_, _, _, h2⟩ := (h.b r hr).pm.types
    exact lt_of_heap h2
  refine ⟨⟨h.a.pm.keep hf ka.1 ka.2, hdid.bel, h.a.hp, h.a.hl⟩, fun r hr => ?_, fun r hr => ?_, fun r t hr ht hne => ?_, ownsRow_fr h.own hf (own_notin hb.pm)⟩
  · by_cases e : r = s
    · subst e
      rw [upd_eq, upd_eq]
      exact hdid
    · have e1 : upd L s l r = L r := by unfold upd; rw [if_neg e]
      have e2 : upd M s C r = M r := by unfold upd; rw [if_neg e]
      rw [e1, e2]
      have := h.b r hr
      exact ⟨this.pm.keep hf (kb r hr e).1 (kb r hr e).2, hdid.bel, this.hp, this.hl⟩
  · refine ⟨(h.d1 r hr).1, ?_⟩
    unfold upd
    split
    · rcases hl with rfl | hl
      · exact (h.d1 s hs).2
      · obtain ⟨_, _, _, h2⟩ := h.a.pm.types
        have := lt_of_heap h2
        omega
    · exact (h.d1 r hr).2
  · refine ⟨(h.d2 r t hr ht hne).1, ?_⟩
    have g1 := lt r hr
    have g2 := lt t ht
    have g3 := (h.d2 r t hr ht hne).2
    unfold upd
    by_cases e1 : r = s
    · rw [if_pos e1, if_neg (by omega)]
      subst e1
      omega
    · rw [if_neg e1]
      by_cases e2 : t = s
      · rw [if_pos e2]
        subst e2
        omega
      · rw [if_neg e2]; exact g3
theorem Many.same (h : Many w0 w p lb A k P L M v) {N : Nat → St} (he : ∀ s, s < k → N s = M s) : Many w0 w p lb A k P L N v :=
  ⟨h.a, fun s hs => by rw [he s hs]; exact h.b s hs, h.d1, h.d2, h.own⟩
theorem Many.push {q lq : Nat} {N : St} {v' : Value} {w3 : World} (h : Many w0 w p lb A k P L M v) (hf : Fr [] w w3) (hq : w.heap.size ≤ q) (hlq : w.heap.size ≤ lq) (hm : PMem w3 q lq N)
    (hown : w'.ownsRow w0.heap.size 24 1 v' (k + 1) (ptrs P k ++ [.pointer (some ⟨q, 0, none⟩)])) (hg : (w3.alloc (.cells #[.pointer (some ⟨q, 0, none⟩)] 24)).grownBy w' v.ownBlock) : Many w0 w' p lb A (k + 1) (upd P k q) (upd L k lq) (upd M k N) v' := by
  have h3 := h.fr0 hf
  have hv : ∀ g, v.ownBlock = some g → ∃ cs, w3.heap[g]? = some (.cells cs 24 (0, 0)) := fun g hg => by
    rcases h3.own.2 with ⟨rfl, _⟩ | ⟨g', cap, cur, rfl, _, hh, _⟩
    · cases hg
    · have : g' = g := by simpa [Value.ownBlock] using hg
      subst this
      exact ⟨cur, hh⟩
  have hkeep : ∀ {i : Nat} {c : Array Value} {T : TypeId}, w3.heap[i]? = some (.cells c T (0, 0)) → T ≠ 24 → w'.heap[i]? = some (.cells c T (0, 0)) := fun {i c T} hi hT => by
    have h1 := allocB hi (.cells #[.pointer (some ⟨q, 0, none⟩)] 24)
    refine (hg.block i (lt_of_heap h1) (fun e => ?_)).trans h1
    obtain ⟨cs, h2⟩ := hv i e.symm
    exact ne_of_type hi h2 hT rfl
  have hpm : ∀ {x lx : Nat} {X : St}, PMem w3 x lx X → PMem w' x lx X := fun {x lx X} hx => by
    obtain ⟨⟨cap, h1⟩, cs, h2, h4⟩ := hx
    exact ⟨⟨cap, hkeep h1 (by decide)⟩, cs, hkeep h2 (by decide), h4⟩
  have hbel : Below w0.heap.size w0 w' := by
    have h4 : Below w0.heap.size w0 (w3.alloc (.cells #[.pointer (some ⟨q, 0, none⟩)] 24)) := h3.a.bel.alloc h3.a.bel.size _
    refine h4.grown hg (Nat.le_trans h3.a.bel.size (by simp)) (fun g e => ?_)
    rcases h3.own.2 with ⟨rfl, _⟩ | ⟨g', cap, cur, rfl, hb, _⟩
    · cases e
    · have : g' = g := by simpa [Value.ownBlock] using e
      omega
  have lt : ∀ r, r < k → P r < w.heap.size ∧ L r < w.heap.size := fun r hr => by
    obtain ⟨_, _, h1, h2⟩ := (h.b r hr).pm.types
    exact ⟨lt_of_heap h1, lt_of_heap h2⟩
  have lta : p < w.heap.size ∧ lb < w.heap.size := by
    obtain ⟨_, _, h1, h2⟩ := h.a.pm.types
    exact ⟨lt_of_heap h1, lt_of_heap h2⟩
  have hB := h.a.bel.size
  refine ⟨⟨hpm h3.a.pm, hbel, h.a.hp, h.a.hl⟩, fun s hs => ?_, fun s hs => ?_, fun s r hs hr hne => ?_, by rw [← ptrs_snoc]; exact hown⟩
  · by_cases e : s = k
    · subst e
      rw [upd_eq, upd_eq, upd_eq]
      exact ⟨hpm hm, hbel, by omega, by omega⟩
    · have e1 : upd P k q s = P s := by unfold upd; rw [if_neg e]
      have e2 : upd L k lq s = L s := by unfold upd; rw [if_neg e]
      have e3 : upd M k N s = M s := by unfold upd; rw [if_neg e]
      rw [e1, e2, e3]
      have := h3.b s (by omega)
      exact ⟨hpm this.pm, hbel, this.hp, this.hl⟩
  · unfold upd
    by_cases e : s = k
    · rw [if_pos e, if_pos e]; omega
    · rw [if_neg e, if_neg e]; exact h.d1 s (by omega)
  · unfold upd
    by_cases e : s = k
    · rw [if_pos e, if_pos e]
      have := lt r (by omega)
      rw [if_neg (by omega), if_neg (by omega)]
      omega
    · rw [if_neg e, if_neg e]
      by_cases e2 : r = k
      · rw [if_pos e2, if_pos e2]
        have := lt s (by omega)
        omega
      · rw [if_neg e2, if_neg e2]
        exact h.d2 s r (by omega) (by omega) hne
theorem Many.cell {g c s : Nat} (h : Many w0 w p lb A k P L M (.slice (some ⟨g, 0, none⟩) k c)) (hs : s < k) : w.cell? ⟨g, s, none⟩ = some (.pointer (some ⟨P s, 0, none⟩)) := by
  rcases h.own.2 with ⟨h0, _⟩ | ⟨g', cap, cur, hv, hb, hh, _, _, _, ht⟩
  · cases h0
  · simp at hv
    obtain ⟨rfl, rfl⟩ := hv
    rw [cellB hh s]
    have h1 := ptrs_at P k s hs
    rw [← ht] at h1
    rw [List.getElem?_take_of_lt (by omega)] at h1
    simpa using h1
theorem Many.form (h : Many w0 w p lb A k P L M v) (hk : 0 < k) : ∃ g c, v = .slice (some ⟨g, 0, none⟩) k c := by
  rcases h.own.2 with ⟨_, h0⟩ | ⟨g', cap, cur, hv, _⟩
  · omega
  · exact ⟨g', cap, hv⟩
end
end Go.Proofs.Ytjdbhlmkcbgkjaa.Wk
