import Derived.Test.YtbcgcbogcofbjaaEcBB
import Derived.Test.YtbcgcbogcofbjaaEcP6
import Derived.Test.YtbcgcbogcofbjaaEcR
namespace Go.Proofs.Ytbcgcbogcofbjaa.Ec
open Go.RowKit Go.Proofs.Ytbcgcbogcofbjaa.G
set_option linter.unusedVariables false
set_option linter.unusedSimpArgs false

/-! ### Both controllers and the transactions upon them -/
def ptrs (n : Nat) (f : Nat → Nat) : List Value := (List.range n).map fun i => .pointer (some ⟨f i, 0, none⟩)
theorem ptrs_len (n : Nat) (f : Nat → Nat) : (ptrs n f).length = n := by simp [ptrs]
theorem ptrs_get (n : Nat) (f : Nat → Nat) (i : Nat) (h : i < n) : (ptrs n f)[i]? = some (.pointer (some ⟨f i, 0, none⟩)) := by
  unfold ptrs
  rw [List.getElem?_map, List.getElem?_range h]; rfl
theorem ptrs_push (n : Nat) (f : Nat → Nat) (q : Nat) : ptrs n f ++ [.pointer (some ⟨q, 0, none⟩)] = ptrs (n + 1) (upd f n q) := by
  unfold ptrs
  rw [List.range_succ, List.map_append, List.map_singleton, upd_eq]
  congr 1
  refine List.map_congr_left fun i hi => ?_
  have := List.mem_range.1 hi
  rw [upd_ne f q (by omega)]
structure BigO (w0 w : World) (p r n : Nat) (O Q A B : List Nat) (D E : Ct) (va vb : Value) (qs xs : Nat → Nat) (S T : Nat → Tr) (a b : Nat → Int) : Prop where
  hp : w0.heap.size ≤ p
  hr : w0.heap.size ≤ r
  f : Fr [] w0 w
  c : PC w p O D
  d : RC w r Q E
  sa : SL w 30 va A (ptrs n qs)
  sb : SL w 56 vb B (ptrs n xs)
  nO : ∀ x ∈ O, w0.heap.size ≤ x
  nQ : ∀ x ∈ Q, w0.heap.size ≤ x
  nA : ∀ x ∈ A, w0.heap.size ≤ x
  nB : ∀ x ∈ B, w0.heap.size ≤ x
  dj : ∀ x ∈ O, x ∉ Q
  q : ∀ i, i < n → w0.heap.size ≤ qs i ∧ TB w (qs i) 69 (S i)
  x : ∀ i, i < n → w0.heap.size ≤ xs i ∧ XT w (xs i) (T i) (a i) (b i)
  dq : ∀ i j, i < n → j < n → i ≠ j → qs i ≠ qs j
  dx : ∀ i j, i < n → j < n → i ≠ j → xs i ≠ xs j
def Big (w0 w : World) (p r n : Nat) (D E : Ct) (va vb : Value) (qs xs : Nat → Nat) (S T : Nat → Tr) (a b : Nat → Int) : Prop := ∃ O Q A B, BigO w0 w p r n O Q A B D E va vb qs xs S T a b
def HasT (w : World) (y : Nat) (U : TypeId) : Prop := ∃ cs, w.heap[y]? = some (.cells cs U (0, 0))
theorem HasT.ne {w : World} {y z : Nat} {U V : TypeId} (h : HasT w y U) (k : HasT w z V) (e : U ≠ V) : y ≠ z := by
  obtain ⟨cs, h⟩ := h
  obtain ⟨ds, k⟩ := k
  exact ne_of_type h k e
theorem HasT.lt {w : World} {y : Nat} {U : TypeId} (h : HasT w y U) : y < w.heap.size := by
  obtain ⟨cs, h⟩ := h
  exact lt_of_heap h
def Kp (w w' : World) : Prop := ∀ (y : Nat) (cs : Array Value) (V : TypeId), V ≠ 66 → V ≠ 69 → V ≠ 72 → V ≠ 77 → V ≠ 5 → w.heap[y]? = some (.cells cs V (0, 0)) → w'.heap[y]? = some (.cells cs V (0, 0))
section
variable {w0 w w' : World} {p r n : Nat} {O Q A B : List Nat} {D E : Ct} {va vb : Value} {qs xs : Nat → Nat} {S T : Nat → Tr} {a b : Nat → Int}
theorem TB.hasT {q : Nat} {ty : TypeId} {T : Tr} (h : TB w q ty T) : HasT w q ty := by
  obtain ⟨cs, h1, _⟩ := h
  exact ⟨cs, h1⟩
theorem BigO.frame (h : BigO w0 w p r n O Q A B D E va vb qs xs S T a b) (hf : Fr [] w w') : BigO w0 w' p r n O Q A B D E va vb qs xs S T a b :=
  ⟨h.hp, h.hr, h.f.trans hf, h.c.keep hf (by simp) (by simp), h.d.keep hf (by simp) (by simp), h.sa.keep hf (by simp), h.sb.keep hf (by simp), h.nO, h.nQ, h.nA, h.nB, h.dj, fun i hi => ⟨(h.q i hi).1, (h.q i hi).2.keep hf (by simp)⟩, fun i hi => ⟨(h.x i hi).1, (h.x i hi).2.keep hf (by simp)⟩, h.dq, h.dx⟩
theorem BigO.chgL (h : BigO w0 w p r n O Q A B D E va vb qs xs S T a b) {F O' : List Nat} {D' : Ct} {S' : Nat → Tr} (hf : Fr F w w') (hF : ∀ y, y ∈ F → y = p ∨ y ∈ O ∨ ∃ i, i < n ∧ y = qs i) (hc : PC w' p O' D') (hs : Sub w O O') (hq : ∀ i, i < n → TB w' (qs i) 69 (S' i)) :
    BigO w0 w' p r n O' Q A B D' E va vb qs xs S' T a b := by
  have key : ∀ y, y ∈ F → (HasT w y 66 ∨ HasT w y 69 ∨ (HasT w y 5 ∧ y ∈ O)) ∧ w0.heap.size ≤ y := fun y hy => by
    rcases hF y hy with rfl | hy | ⟨i, hi, rfl⟩
    · exact ⟨.inl h.c.typed, h.hp⟩
    · exact ⟨.inr (.inr ⟨h.c.typedO hy, hy⟩), h.nO y hy⟩
    · exact ⟨.inr (.inl (h.q i hi).2.hasT), (h.q i hi).1⟩
  have nt : ∀ {z : Nat} {V : TypeId}, HasT w z V → V ≠ 66 → V ≠ 69 → V ≠ 5 → z ∉ F := fun hz h1 h2 h3 hm => by
    rcases (key _ hm).1 with g | g | g
    · exact hz.ne g h1 rfl
    · exact hz.ne g h2 rfl
    · exact hz.ne g.1 h3 rfl
  have hQF : ∀ x, x ∈ Q → x ∉ F := fun x hx hm => by
    have hx5 : HasT w x 5 := h.d.typedO' hx
    rcases (key x hm).1 with g | g | g
    · exact hx5.ne g (by decide) rfl
    · exact hx5.ne g (by decide) rfl
    · exact h.dj x g.2 hx
  have hsz := h.f.size
  refine ⟨h.hp, h.hr, h.f.new hf (fun y hy => .inr (key y hy).2), hc, h.d.keep hf (nt h.d.typed' (by decide) (by decide) (by decide)) hQF, h.sa.keep hf (fun x hx => nt (h.sa.typed hx) (by decide) (by decide) (by decide)), h.sb.keep hf (fun x hx => nt (h.sb.typed hx) (by decide) (by decide) (by decide)), fun x hx => ?_, h.nQ, h.nA, h.nB, fun x hx hx2 => ?_, fun i hi => ⟨(h.q i hi).1, hq i hi⟩, fun i hi => ⟨(h.x i hi).1, (h.x i hi).2.keep hf (nt (h.x i hi).2.block (by decide) (by decide) (by decide))⟩, h.dq, h.dx⟩
  · rcases hs x hx with g | g
    · exact h.nO x g
    · omega
  · rcases hs x hx with g | g
    · exact h.dj x g hx2
    · have hx5 : HasT w x 5 := h.d.typedO' hx2
      have := hx5.lt
      omega
theorem BigO.chgR (h : BigO w0 w p r n O Q A B D E va vb qs xs S T a b) {F Q' : List Nat} {E' : Ct} {T' : Nat → Tr} (hf : Fr F w w') (hF : ∀ y, y ∈ F → y = r ∨ y ∈ Q ∨ ∃ i, i < n ∧ y = xs i) (hc : RC w' r Q' E') (hs : Sub w Q Q') (hq : ∀ i, i < n → XT w' (xs i) (T' i) (a i) (b i)) :
    BigO w0 w' p r n O Q' A B D E' va vb qs xs S T' a b := by
  have key : ∀ y, y ∈ F → (HasT w y 72 ∨ HasT w y 77 ∨ (HasT w y 5 ∧ y ∈ Q)) ∧ w0.heap.size ≤ y := fun y hy => by
    rcases hF y hy with rfl | hy | ⟨i, hi, rfl⟩
    · exact ⟨.inl h.d.typed', h.hr⟩
    · exact ⟨.inr (.inr ⟨h.d.typedO' hy, hy⟩), h.nQ y hy⟩
    · exact ⟨.inr (.inl (h.x i hi).2.block), (h.x i hi).1⟩
  have nt : ∀ {z : Nat} {V : TypeId}, HasT w z V → V ≠ 72 → V ≠ 77 → V ≠ 5 → z ∉ F := fun hz h1 h2 h3 hm => by
    rcases (key _ hm).1 with g | g | g
    · exact hz.ne g h1 rfl
    · exact hz.ne g h2 rfl
    · exact hz.ne g.1 h3 rfl
  have hOF : ∀ x, x ∈ O → x ∉ F := fun x hx hm => by
    have hx5 : HasT w x 5 := h.c.typedO hx
    rcases (key x hm).1 with g | g | g
    · exact hx5.ne g (by decide) rfl
    · exact hx5.ne g (by decide) rfl
    · exact h.dj x hx g.2
  have hsz := h.f.size
  refine ⟨h.hp, h.hr, h.f.new hf (fun y hy => .inr (key y hy).2), h.c.keep hf (nt h.c.typed (by decide) (by decide) (by decide)) hOF, hc, h.sa.keep hf (fun x hx => nt (h.sa.typed hx) (by decide) (by decide) (by decide)), h.sb.keep hf (fun x hx => nt (h.sb.typed hx) (by decide) (by decide) (by decide)), h.nO, fun x hx => ?_, h.nA, h.nB, fun x hx hx2 => ?_, fun i hi => ⟨(h.q i hi).1, (h.q i hi).2.keep hf (nt (h.q i hi).2.hasT (by decide) (by decide) (by decide))⟩, fun i hi => ⟨(h.x i hi).1, hq i hi⟩, h.dq, h.dx⟩
  · rcases hs x hx with g | g
    · exact h.nQ x g
    · omega
  · rcases hs x hx2 with g | g
    · exact h.dj x hx g
    · have hx5 : HasT w x 5 := h.c.typedO hx
      have := hx5.lt
      omega
theorem BigO.kpL (h : BigO w0 w p r n O Q A B D E va vb qs xs S T a b) {F : List Nat} (hf : Fr F w w') (hF : ∀ y, y ∈ F → y = p ∨ y ∈ O ∨ ∃ i, i < n ∧ y = qs i) : Kp w w' := fun z cs V h1 h2 h3 h4 h5 hz => hf.atS hz (fun hm => by
  have hz : HasT w z V := ⟨cs, hz⟩
  rcases hF z hm with rfl | hy | ⟨i, hi, rfl⟩
  · exact hz.ne h.c.typed h1 rfl
  · exact hz.ne (h.c.typedO hy) h5 rfl
  · exact hz.ne (h.q i hi).2.hasT h2 rfl)
theorem BigO.kpR (h : BigO w0 w p r n O Q A B D E va vb qs xs S T a b) {F : List Nat} (hf : Fr F w w') (hF : ∀ y, y ∈ F → y = r ∨ y ∈ Q ∨ ∃ i, i < n ∧ y = xs i) : Kp w w' := fun z cs V h1 h2 h3 h4 h5 hz => hf.atS hz (fun hm => by
  have hz : HasT w z V := ⟨cs, hz⟩
  rcases hF z hm with rfl | hy | ⟨i, hi, rfl⟩
  · exact hz.ne h.d.typed' h3 rfl
  · exact hz.ne (h.d.typedO' hy) h5 rfl
  · exact hz.ne (h.x i hi).2.block h4 rfl)
theorem Kp.fr (hf : Fr [] w w') : Kp w w' := fun z cs V h1 h2 h3 h4 h5 hz => hf.at hz
theorem Big.frame (h : Big w0 w p r n D E va vb qs xs S T a b) (hf : Fr [] w w') : Big w0 w' p r n D E va vb qs xs S T a b := by
  obtain ⟨O, Q, A, B, h⟩ := h
  exact ⟨O, Q, A, B, h.frame hf⟩
theorem Big.left {P : Program} {f : FuncId} {args : Array Value} {D' : Ct} {X : Ending} (h : Big w0 w p r n D E va vb qs xs S T a b) (k : ∀ O, PC w p O D → Calls P f args w fun e w' => e = X ∧ (∃ O', PC w' p O' D' ∧ Sub w O O') ∧ Fr (p :: O) w w') :
    Calls P f args w fun e w' => e = X ∧ Big w0 w' p r n D' E va vb qs xs S T a b ∧ Kp w w' := by
  obtain ⟨O, Q, A, B, h⟩ := h
  refine (k O h.c).mono ?_
  rintro e w' ⟨rfl, ⟨O', hC', hs⟩, hf'⟩
  have key : ∀ y, y ∈ p :: O → y = p ∨ y ∈ O := fun y hy => List.mem_cons.1 hy
  refine ⟨rfl, ⟨O', Q, A, B, h.chgL hf' (fun y hy => (key y hy).imp id .inl) hC' hs (fun i hi => (h.q i hi).2.keep hf' (fun hm => ?_))⟩, h.kpL hf' (fun y hy => (key y hy).imp id .inl)⟩
  rcases key _ hm with g | g
  · exact (h.q i hi).2.hasT.ne h.c.typed (by decide) g
  · exact (h.q i hi).2.hasT.ne (h.c.typedO g) (by decide) rfl
theorem Big.right {P : Program} {f : FuncId} {args : Array Value} {E' : Ct} {X : Ending} (h : Big w0 w p r n D E va vb qs xs S T a b) (k : ∀ Q, RC w r Q E → Calls P f args w fun e w' => e = X ∧ (∃ Q', RC w' r Q' E' ∧ Sub w Q Q') ∧ Fr (r :: Q) w w') :
    Calls P f args w fun e w' => e = X ∧ Big w0 w' p r n D E' va vb qs xs S T a b ∧ Kp w w' := by
  obtain ⟨O, Q, A, B, h⟩ := h
  refine (k Q h.d).mono ?_
  rintro e w' ⟨rfl, ⟨Q', hC', hs⟩, hf'⟩
  have key : ∀ y, y ∈ r :: Q → y = r ∨ y ∈ Q := fun y hy => List.mem_cons.1 hy
  have hT : ∀ i, i < n → HasT w (xs i) 77 := fun i hi => (h.x i hi).2.block
  refine ⟨rfl, ⟨O, Q', A, B, h.chgR hf' (fun y hy => (key y hy).imp id .inl) hC' hs (fun i hi => (h.x i hi).2.keep hf' (fun hm => ?_))⟩, h.kpR hf' (fun y hy => (key y hy).imp id .inl)⟩
  rcases key _ hm with g | g
  · exact (hT i hi).ne h.d.typed' (by decide) g
  · exact (hT i hi).ne (h.d.typedO' g) (by decide) rfl
theorem Big.stepL {P : Program} {f : FuncId} {args : Array Value} {s' : St} {X : Ending} {i : Nat} (hi : i < n) (h : Big w0 w p r n D E va vb qs xs S T a b) (k : ∀ O, PT w (qs i) p O ⟨S i, D⟩ → Calls P f args w fun e w' => e = X ∧ (∃ O', PT w' (qs i) p O' s' ∧ Sub w O O') ∧ Fr (qs i :: p :: O) w w') :
    Calls P f args w fun e w' => e = X ∧ Big w0 w' p r n s'.C E va vb qs xs (upd S i s'.T) T a b ∧ Kp w w' := by
  obtain ⟨O, Q, A, B, h⟩ := h
  refine (k O ⟨h.c, (h.q i hi).2⟩).mono ?_
  rintro e w' ⟨rfl, ⟨O', hC', hs⟩, hf'⟩
  have key : ∀ y, y ∈ qs i :: p :: O → y = p ∨ y ∈ O ∨ ∃ i, i < n ∧ y = qs i := fun y hy => by
    rcases List.mem_cons.1 hy with g | g
    · exact .inr (.inr ⟨i, hi, g⟩)
    · rcases List.mem_cons.1 g with g | g
      · exact .inl g
      · exact .inr (.inl g)
  refine ⟨rfl, ⟨O', Q, A, B, h.chgL hf' key hC'.c hs (fun j hj => ?_)⟩, h.kpL hf' key⟩
  by_cases e : j = i
  · subst e; rw [upd_eq]; exact hC'.t
  · rw [upd_ne S s'.T e]
    refine (h.q j hj).2.keep hf' (fun hm => ?_)
    rcases List.mem_cons.1 hm with g | g
    · exact h.dq j i hj hi e g
    · rcases List.mem_cons.1 g with g | g
      · exact (h.q j hj).2.hasT.ne h.c.typed (by decide) g
      · exact (h.q j hj).2.hasT.ne (h.c.typedO g) (by decide) rfl
theorem Big.stepR {P : Program} {f : FuncId} {args : Array Value} {T' : Tr} {E' : Ct} {X : Ending} {i : Nat} (hi : i < n) (h : Big w0 w p r n D E va vb qs xs S T a b) (k : ∀ Q, RC w r Q E → XT w (xs i) (T i) (a i) (b i) → Calls P f args w fun e w' => e = X ∧ RC w' r Q E' ∧ XT w' (xs i) T' (a i) (b i) ∧ Fr [xs i, r] w w') :
    Calls P f args w fun e w' => e = X ∧ Big w0 w' p r n D E' va vb qs xs S (upd T i T') a b ∧ Kp w w' := by
  obtain ⟨O, Q, A, B, h⟩ := h
  refine (k Q h.d (h.x i hi).2).mono ?_
  rintro e w' ⟨rfl, hC', hX', hf'⟩
  have hT : ∀ i, i < n → HasT w (xs i) 77 := fun i hi => (h.x i hi).2.block
  have key : ∀ y, y ∈ [xs i, r] → y = r ∨ y ∈ Q ∨ ∃ i, i < n ∧ y = xs i := fun y hy => by
    rcases List.mem_cons.1 hy with g | g
    · exact .inr (.inr ⟨i, hi, g⟩)
    · simp at g; exact .inl g
  refine ⟨rfl, ⟨O, Q, A, B, h.chgR hf' key hC' (Sub.refl _ _) (fun j hj => ?_)⟩, h.kpR hf' key⟩
  by_cases e : j = i
  · subst e; rw [upd_eq]; exact hX'
  · rw [upd_ne T T' e]
    refine (h.x j hj).2.keep hf' (fun hm => ?_)
    rcases List.mem_cons.1 hm with g | g
    · exact h.dx j i hj hi e g
    · simp at g; exact (hT j hj).ne h.d.typed' (by decide) g
theorem Big.sl (h : Big w0 w p r n D E va vb qs xs S T a b) : ∃ aa ca ab cb, va = .slice aa n ca ∧ vb = .slice ab n cb := by
  obtain ⟨O, Q, A, B, h⟩ := h
  obtain ⟨aa, ca, h1, _⟩ := h.sa.form
  obtain ⟨ab, cb, h2, _⟩ := h.sb.form
  rw [ptrs_len] at h1 h2
  exact ⟨aa, ca, ab, cb, h1, h2⟩
theorem Big.atL (h : Big w0 w p r n D E va vb qs xs S T a b) {i : Nat} (hi : i < n) : ∃ g off cap, va = .slice (some ⟨g, off, none⟩) n cap ∧ w.cell? ⟨g, off + i, none⟩ = some (.pointer (some ⟨qs i, 0, none⟩)) := by
  obtain ⟨O, Q, A, B, h⟩ := h
  obtain ⟨g, off, cap, h1, _, _, h2⟩ := h.sa.at (i := i) (by rw [ptrs_len]; exact hi)
  rw [ptrs_len] at h1
  rw [ptrs_get n qs i hi] at h2
  exact ⟨g, off, cap, h1, h2⟩
theorem Big.atR (h : Big w0 w p r n D E va vb qs xs S T a b) {i : Nat} (hi : i < n) : ∃ g off cap, vb = .slice (some ⟨g, off, none⟩) n cap ∧ w.cell? ⟨g, off + i, none⟩ = some (.pointer (some ⟨xs i, 0, none⟩)) := by
  obtain ⟨O, Q, A, B, h⟩ := h
  obtain ⟨g, off, cap, h1, _, _, h2⟩ := h.sb.at (i := i) (by rw [ptrs_len]; exact hi)
  rw [ptrs_len] at h1
  rw [ptrs_get n xs i hi] at h2
  exact ⟨g, off, cap, h1, h2⟩
theorem Big.below (h : Big w0 w p r n D E va vb qs xs S T a b) : Below w0.heap.size w0 w := by
  obtain ⟨O, Q, A, B, h⟩ := h
  exact h.f.below (Below.refl _ _) (Nat.le_refl _) (by simp)
theorem Big.fr (h : Big w0 w p r n D E va vb qs xs S T a b) : Fr [] w0 w := by
  obtain ⟨O, Q, A, B, h⟩ := h
  exact h.f
/-! ### Two new transactions -/
/-- What may have become of the two slices on the way: A, B: their blocks at the start. -/
structure Pg (W U : World) (A B cA cB : List Nat) (va vb : Value) (xa xb : List Value) : Prop where
  f : Fr (A ++ B) W U
  sa : SL U 30 va cA xa
  sb : SL U 56 vb cB xb
  na : ∀ x, x ∈ cA → x ∈ A ∨ W.heap.size ≤ x
  nb : ∀ x, x ∈ cB → x ∈ B ∨ W.heap.size ≤ x
variable {W U U' : World} {cA cB oA oB : List Nat} {xa xb ya yb : List Value} {ua ub : Value}
theorem Pg.call (h : Pg W U A B cA cB va vb xa xb) (hf : Fr [] U U') : Pg W U' A B cA cB va vb xa xb :=
  ⟨h.f.trans (hf.mono (by simp)), h.sa.keep hf (by simp), h.sb.keep hf (by simp), h.na, h.nb⟩
theorem Pg.appA (h : Pg W U A B cA cB va vb xa xb) (hf : Fr cA U U') (hs : SL U' 30 ua oA ya) (ho : ∀ y, y ∈ oA → y ∈ cA ∨ U.heap.size ≤ y) : Pg W U' A B oA cB ua vb ya xb := by
  have hsz := h.f.size
  have na' : ∀ x, x ∈ oA → x ∈ A ∨ W.heap.size ≤ x := fun x hx => by
    rcases ho x hx with g | g
    · exact h.na x g
    · exact .inr (by omega)
  refine ⟨h.f.new hf (fun x hx => (h.na x hx).imp (fun g => List.mem_append_left _ g) id), hs, h.sb.keep hf (fun x hx hx2 => ?_), na', h.nb⟩
  obtain ⟨c1, h1⟩ := h.sb.typed hx
  obtain ⟨c2, h2⟩ := h.sa.typed hx2
  exact ne_of_type h1 h2 (by decide) rfl
theorem Pg.appB (h : Pg W U A B cA cB va vb xa xb) (hf : Fr cB U U') (hs : SL U' 56 ub oB yb) (ho : ∀ y, y ∈ oB → y ∈ cB ∨ U.heap.size ≤ y) : Pg W U' A B cA oB va ub xa yb := by
  have hsz := h.f.size
  have nb' : ∀ x, x ∈ oB → x ∈ B ∨ W.heap.size ≤ x := fun x hx => by
    rcases ho x hx with g | g
    · exact h.nb x g
    · exact .inr (by omega)
  refine ⟨h.f.new hf (fun x hx => (h.nb x hx).imp (fun g => List.mem_append_right _ g) id), h.sa.keep hf (fun x hx hx2 => ?_), hs, h.na, nb'⟩
  obtain ⟨c1, h1⟩ := h.sa.typed hx
  obtain ⟨c2, h2⟩ := h.sb.typed hx2
  exact ne_of_type h1 h2 (by decide) rfl
theorem Pg.keepA {y : Nat} {cs : Array Value} {V : TypeId} (h : Pg W U A B cA cB va vb xa xb) (hf : Fr cA U U') (hy : U.heap[y]? = some (.cells cs V (0, 0))) (hV : V ≠ 30) : U'.heap[y]? = some (.cells cs V (0, 0)) :=
  hf.atS hy (fun hm => by obtain ⟨c2, h2⟩ := h.sa.typed hm; exact ne_of_type hy h2 hV rfl)
theorem Pg.keepB {y : Nat} {cs : Array Value} {V : TypeId} (h : Pg W U A B cA cB va vb xa xb) (hf : Fr cB U U') (hy : U.heap[y]? = some (.cells cs V (0, 0))) (hV : V ≠ 56) : U'.heap[y]? = some (.cells cs V (0, 0)) :=
  hf.atS hy (fun hm => by obtain ⟨c2, h2⟩ := h.sb.typed hm; exact ne_of_type hy h2 hV rfl)
theorem Big.pg (h : Big w0 w p r n D E va vb qs xs S T a b) : ∃ A B, Pg w w A B A B va vb (ptrs n qs) (ptrs n xs) := by
  obtain ⟨O, Q, A, B, h⟩ := h
  exact ⟨A, B, Fr.refl _ _, h.sa, h.sb, fun x hx => .inl hx, fun x hx => .inl hx⟩
theorem BigO.push (h : BigO w0 w p r n O Q A B D E va vb qs xs S T a b) {ua ub : Value} {cA cB : List Nat} {q x : Nat} {s t : Tr} {a0 b0 : Int} (hg : Pg w w' A B cA cB ua ub (ptrs n qs ++ [.pointer (some ⟨q, 0, none⟩)]) (ptrs n xs ++ [.pointer (some ⟨x, 0, none⟩)])) (hq : w.heap.size ≤ q) (hx : w.heap.size ≤ x) (ht : TB w' q 69 s) (hX : XT w' x t a0 b0) :
    BigO w0 w' p r (n + 1) O Q cA cB D E ua ub (upd qs n q) (upd xs n x) (upd S n s) (upd T n t) (upd a n a0) (upd b n b0) := by
  have hsz := h.f.size
  have nt : ∀ {z : Nat} {V : TypeId}, HasT w z V → V ≠ 30 → V ≠ 56 → z ∉ A ++ B := fun hz h1 h2 hm => by
    rcases List.mem_append.1 hm with g | g
    · exact hz.ne (h.sa.typed g) h1 rfl
    · exact hz.ne (h.sb.typed g) h2 rfl
  refine ⟨h.hp, h.hr, h.f.new hg.f (fun y hy => .inr ?_), h.c.keep hg.f (nt h.c.typed (by decide) (by decide)) (fun y hy => nt (h.c.typedO hy) (by decide) (by decide)), h.d.keep hg.f (nt h.d.typed' (by decide) (by decide)) (fun y hy => nt (h.d.typedO' hy) (by decide) (by decide)), ?_, ?_, h.nO, h.nQ, fun y hy => ?_, fun y hy => ?_, h.dj, fun i hi => ?_, fun i hi => ?_, fun i j hi hj hij => ?_, fun i j hi hj hij => ?_⟩
  · rcases List.mem_append.1 hy with g | g
    · exact h.nA y g
    · exact h.nB y g
  · rw [← ptrs_push]; exact hg.sa
  · rw [← ptrs_push]; exact hg.sb
  · rcases hg.na y hy with g | g
    · exact h.nA y g
    · omega
  · rcases hg.nb y hy with g | g
    · exact h.nB y g
    · omega
  · by_cases e : i = n
    · subst e; rw [upd_eq, upd_eq]; exact ⟨by omega, ht⟩
    · rw [upd_ne qs q e, upd_ne S s e]
      have g := h.q i (by omega)
      exact ⟨g.1, g.2.keep hg.f (nt g.2.hasT (by decide) (by decide))⟩
  · by_cases e : i = n
    · subst e; rw [upd_eq, upd_eq, upd_eq, upd_eq]; exact ⟨by omega, hX⟩
    · rw [upd_ne xs x e, upd_ne T t e, upd_ne a a0 e, upd_ne b b0 e]
      have g := h.x i (by omega)
      exact ⟨g.1, g.2.keep hg.f (nt g.2.block (by decide) (by decide))⟩
  · by_cases e : i = n
    · subst e; rw [upd_eq, upd_ne qs q (by omega)]
      have := (h.q j (by omega)).2.hasT.lt
      omega
    · by_cases e2 : j = n
      · subst e2; rw [upd_eq, upd_ne qs q (by omega)]
        have := (h.q i (by omega)).2.hasT.lt
        omega
      · rw [upd_ne qs q e, upd_ne qs q e2]; exact h.dq i j (by omega) (by omega) hij
  · by_cases e : i = n
    · subst e; rw [upd_eq, upd_ne xs x (by omega)]
      have hT : HasT w (xs j) 77 := (h.x j (by omega)).2.block
      have := hT.lt
      omega
    · by_cases e2 : j = n
      · subst e2; rw [upd_eq, upd_ne xs x (by omega)]
        have hT : HasT w (xs i) 77 := (h.x i (by omega)).2.block
        have := hT.lt
        omega
      · rw [upd_ne xs x e, upd_ne xs x e2]; exact h.dx i j (by omega) (by omega) hij
/-- The plain side of all transactions. -/
structure Fine (n : Nat) (C : Ct) (T : Nat → Tr) (a b : Nat → Int) : Prop where
  ct : C.Ok
  tr : ∀ i, i < n → (T i).Ok
  iv : ∀ i, i < n → Iv (T i) (a i) (b i)
theorem Fine.ctrl {C C' : Ct} (h : Fine n C T a b) (k : C'.Ok) : Fine n C' T a b := ⟨k, h.tr, h.iv⟩
theorem Fine.push {C : Ct} {t : Tr} {a0 b0 : Int} (h : Fine n C T a b) (ht : t.Ok) (hi : Iv t a0 b0) : Fine (n + 1) C (upd T n t) (upd a n a0) (upd b n b0) := by
  refine ⟨h.ct, fun i hi2 => ?_, fun i hi2 => ?_⟩
  · by_cases e : i = n
    · subst e; rw [upd_eq]; exact ht
    · rw [upd_ne T t e]; exact h.tr i (by omega)
  · by_cases e : i = n
    · subst e; rw [upd_eq, upd_eq, upd_eq]; exact hi
    · rw [upd_ne T t e, upd_ne a a0 e, upd_ne b b0 e]; exact h.iv i (by omega)
theorem Fine.step {C : Ct} {i : Nat} (h : Fine n C T a b) (hi : i < n) {t : Int} (t0 : 0 ≤ t) (t1 : t < 18446744073709551616) : Fine n (stepS ⟨T i, C⟩ t).C (upd T i (stepS ⟨T i, C⟩ t).T) a b := by
  have g := step_ok (s := ⟨T i, C⟩) t0 t1 (h.tr i hi) h.ct
  refine ⟨g.2, fun j hj => ?_, fun j hj => ?_⟩
  · by_cases e : j = i
    · subst e; rw [upd_eq]; exact g.1
    · rw [upd_ne T _ e]; exact h.tr j hj
  · by_cases e : j = i
    · subst e; rw [upd_eq]; exact step_iv (h.iv j hj)
    · rw [upd_ne T _ e]; exact h.iv j hj
theorem new_iv {c x v s m : Int} (s0 : 0 ≤ s) (s1 : s < 18446744073709551616) (m0 : 0 ≤ m) (m1 : m < 18446744073709551616) : Iv ⟨c, x, v, after s m, 0, 0, 0⟩ s m :=
  ⟨fun _ => by show (0 : Int) ≠ 1; decide, fun _ => ⟨rfl, rfl⟩, .inl rfl, rfl, s0, s1, m0, m1⟩
end
end Go.Proofs.Ytbcgcbogcofbjaa.Ec
