import Derived.Test.YtbcgcbogcofbjaaEcBC
namespace Go.Proofs.Ytbcgcbogcofbjaa.Ec
open Go.RowKit Go.Proofs.Ytbcgcbogcofbjaa.G
set_option linter.unusedVariables false
set_option linter.unusedSimpArgs false

/-! ### New transactions, in whatever order -/
theorem readT' (x s n : Int) (s0 : 0 ≤ s) (s1 : s < 18446744073709551616) (n0 : 0 ≤ n) (n1 : n < 18446744073709551616) (w : World) :
    Calls Try.prog 11 #[.int .u8 x, .int .u64 s, .int .u64 n] w fun e w' => ∃ q, e = .returned (.pointer (some ⟨q, 0, none⟩)) ∧ w.heap.size ≤ q ∧ TB w' q 69 ⟨128, x, 0, after s n, 0, 0, 0⟩ ∧ Fr [] w w' :=
  (read_calls x s n s0 s1 n0 n1 w).mono fun e w' h => ⟨_, h.1, Nat.le_refl _, h.2.1, h.2.2.1⟩
theorem writeT' (x v s n : Int) (s0 : 0 ≤ s) (s1 : s < 18446744073709551616) (n0 : 0 ≤ n) (n1 : n < 18446744073709551616) (w : World) :
    Calls Try.prog 12 #[.int .u8 x, .int .u8 v, .int .u64 s, .int .u64 n] w fun e w' => ∃ q, e = .returned (.pointer (some ⟨q, 0, none⟩)) ∧ w.heap.size ≤ q ∧ TB w' q 69 ⟨129, x, v, after s n, 0, 0, 0⟩ ∧ Fr [] w w' :=
  (writeT_calls x v s n s0 s1 n0 n1 w).mono fun e w' h => ⟨_, h.1, Nat.le_refl _, h.2.1, h.2.2.1⟩
theorem queryT' (s n : Int) (s0 : 0 ≤ s) (s1 : s < 18446744073709551616) (n0 : 0 ≤ n) (n1 : n < 18446744073709551616) (w : World) :
    Calls Try.prog 32 #[.int .u64 s, .int .u64 n] w fun e w' => ∃ q, e = .returned (.pointer (some ⟨q, 0, none⟩)) ∧ w.heap.size ≤ q ∧ TB w' q 69 ⟨132, 0, 0, after s n, 0, 0, 0⟩ ∧ Fr [] w w' :=
  (query_calls s n s0 s1 n0 n1 w).mono fun e w' h => ⟨_, h.1, Nat.le_refl _, h.2.1, h.2.2.1⟩
theorem rRead' (x s n : Int) (w : World) :
    Calls Try.prog 33 #[.int .u8 x, .int .u64 s, .int .u64 n] w fun e w' => ∃ q, e = .returned (.pointer (some ⟨q, 0, none⟩)) ∧ w.heap.size ≤ q ∧ XB w' q (rtv ⟨128, x, 0, after s n, 0, 0, 0⟩ s n) ∧ Fr [] w w' :=
  (rRead_calls x s n w).mono fun e w' h => ⟨_, h.1, Nat.le_refl _, h.2.1, h.2.2.1⟩
theorem rWrite' (x v s n : Int) (w : World) :
    Calls Try.prog 34 #[.int .u8 x, .int .u8 v, .int .u64 s, .int .u64 n] w fun e w' => ∃ q, e = .returned (.pointer (some ⟨q, 0, none⟩)) ∧ w.heap.size ≤ q ∧ XB w' q (rtv ⟨129, x, v, after s n, 0, 0, 0⟩ s n) ∧ Fr [] w w' :=
  (rWrite_calls x v s n w).mono fun e w' h => ⟨_, h.1, Nat.le_refl _, h.2.1, h.2.2.1⟩
theorem rQuery' (s n : Int) (w : World) :
    Calls Try.prog 35 #[.int .u64 s, .int .u64 n] w fun e w' => ∃ q, e = .returned (.pointer (some ⟨q, 0, none⟩)) ∧ w.heap.size ≤ q ∧ XB w' q (rtv ⟨132, 0, 0, after s n, 0, 0, 0⟩ s n) ∧ Fr [] w w' :=
  (rQuery_calls s n w).mono fun e w' h => ⟨_, h.1, Nat.le_refl _, h.2.1, h.2.2.1⟩
/-- The two slices on the way, and the law's own block. -/
structure Mk (W U : World) (A B cA cB : List Nat) (va vb : Value) (xa xb : List Value) (z : Nat) (zc : Array Value) : Prop where
  g : Pg W U A B cA cB va vb xa xb
  z : U.heap[z]? = some (.cells zc 45 (0, 0))
section
variable {W U V U' : World} {A B cA cB oA oB : List Nat} {va vb ua ub : Value} {xa xb ya yb : List Value} {z : Nat} {zc : Array Value}
theorem Mk.call (h : Mk W U A B cA cB va vb xa xb z zc) (hf : Fr [] U V) : Mk W V A B cA cB va vb xa xb z zc := ⟨h.g.call hf, hf.at h.z⟩
theorem Mk.fr2 (h : Mk W U A B cA cB va vb xa xb z zc) (hV : Fr [] U V) (hf : Fr [] V U') : Fr [] U U' := hV.trans hf
theorem Mk.le (h : Mk W U A B cA cB va vb xa xb z zc) (hf : Fr [] U V) {q : Nat} (hq : V.heap.size ≤ q) : W.heap.size ≤ q := Nat.le_trans (Nat.le_trans h.g.f.size hf.size) hq
theorem Mk.appA (h : Mk W U A B cA cB va vb xa xb z zc) (hV : Fr [] U V) (hf : Fr cA V U') (hs : SL U' 30 ua oA ya) (ho : ∀ y, y ∈ oA → y ∈ cA ∨ V.heap.size ≤ y) : Mk W U' A B oA cB ua vb ya xb z zc :=
  ⟨(h.g.call hV).appA hf hs ho, (h.g.call hV).keepA hf (hV.at h.z) (by decide)⟩
theorem Mk.appB (h : Mk W U A B cA cB va vb xa xb z zc) (hV : Fr [] U V) (hf : Fr cB V U') (hs : SL U' 56 ub oB yb) (ho : ∀ y, y ∈ oB → y ∈ cB ∨ V.heap.size ≤ y) : Mk W U' A B cA oB va ub xa yb z zc :=
  ⟨(h.g.call hV).appB hf hs ho, (h.g.call hV).keepB hf (hV.at h.z) (by decide)⟩
theorem Mk.tbA (h : Mk W U A B cA cB va vb xa xb z zc) (hV : Fr [] U V) (hf : Fr cA V U') {q : Nat} {T : Tr} (ht : TB U q 69 T) : TB U' q 69 T := by
  obtain ⟨cs, h1, h2⟩ := ht
  exact ⟨cs, (h.g.call hV).keepA hf (hV.at h1) (by decide), h2⟩
theorem Mk.tbB (h : Mk W U A B cA cB va vb xa xb z zc) (hV : Fr [] U V) (hf : Fr cB V U') {q : Nat} {T : Tr} (ht : TB U q 69 T) : TB U' q 69 T := by
  obtain ⟨cs, h1, h2⟩ := ht
  exact ⟨cs, (h.g.call hV).keepB hf (hV.at h1) (by decide), h2⟩
theorem Mk.xbA (h : Mk W U A B cA cB va vb xa xb z zc) (hV : Fr [] U V) (hf : Fr cA V U') {q : Nat} {T : List Value} (ht : XB U q T) : XB U' q T := by
  obtain ⟨cs, h1, h2⟩ := ht
  exact ⟨cs, (h.g.call hV).keepA hf (hV.at h1) (by decide), h2⟩
theorem Mk.xbB (h : Mk W U A B cA cB va vb xa xb z zc) (hV : Fr [] U V) (hf : Fr cB V U') {q : Nat} {T : List Value} (ht : XB U q T) : XB U' q T := by
  obtain ⟨cs, h1, h2⟩ := ht
  exact ⟨cs, (h.g.call hV).keepB hf (hV.at h1) (by decide), h2⟩
theorem Mk.blkA (h : Mk W U A B cA cB va vb xa xb z zc) (hV : Fr [] U V) (hf : Fr cA V U') {q : Nat} {cs : Array Value} (ht : V.heap[q]? = some (.cells cs 56 (0, 0))) : U'.heap[q]? = some (.cells cs 56 (0, 0)) := (h.g.call hV).keepA hf ht (by decide)
theorem Mk.blkB (h : Mk W U A B cA cB va vb xa xb z zc) (hV : Fr [] U V) (hf : Fr cB V U') {q : Nat} {cs : Array Value} (ht : V.heap[q]? = some (.cells cs 30 (0, 0))) : U'.heap[q]? = some (.cells cs 30 (0, 0)) := (h.g.call hV).keepB hf ht (by decide)
theorem Mk.c1 {ki vi ri pa : Int} (h : Mk W U A B cA cB va vb xa xb z #[.int .i64 ki, .int .u8 vi, .int .u8 ri, .int .u64 pa]) (hV : Fr [] U V) : V.cell? ⟨z, 1, none⟩ = some (.int .u8 vi) := cellB (hV.at h.z) 1
theorem slice_len {w : World} {e : TypeId} {v : Value} {o : List Nat} {n : Nat} {f : Nat → Nat} {q : Nat} (h : SL w e v o (ptrs n f ++ [.pointer (some ⟨q, 0, none⟩)])) : ∃ a c, v = .slice a (n + 1) c := by
  obtain ⟨a, c, h1, _⟩ := h.form
  rw [List.length_append, ptrs_len] at h1
  exact ⟨a, c, h1⟩
end
theorem new_ok' (c x v s m : Int) (hc : c = 128 ∨ c = 129 ∨ c = 132) (hx : Byte x) (hv : Byte v) (s0 : 0 ≤ s) (s1 : s < 18446744073709551616) (m0 : 0 ≤ m) (m1 : m < 18446744073709551616) : Tr.Ok ⟨c, x, v, after s m, 0, 0, 0⟩ :=
  ⟨by show (0 : Int) ≤ 0; omega, by show (0 : Int) ≤ 5; omega, hc, hx, hv, byte0, (after_bd s0 s1 m0 m1).1, (after_bd s0 s1 m0 m1).2⟩
end Go.Proofs.Ytbcgcbogcofbjaa.Ec
