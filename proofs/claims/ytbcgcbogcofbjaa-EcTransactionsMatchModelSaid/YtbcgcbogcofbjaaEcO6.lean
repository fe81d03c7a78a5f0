import Derived.Test.YtbcgcbogcofbjaaEcY
import Derived.Deep.Slices
import Derived.OpenShut
namespace Go.Proofs.Ytbcgcbogcofbjaa.Ec
open Go.RowKit Go.Proofs.Ytbcgcbogcofbjaa.G Go.Deep Go.ChangeShapes Go.WideShapes
set_option linter.unusedVariables false
set_option linter.unusedSimpArgs false

/-! ### Both controllers, and a block of the law's own -/
def Bo (w0 w : World) (p r z : Nat) (cs : Array Value) (D E : Ct) : Prop :=
  w0.heap.size ≤ p ∧ w0.heap.size ≤ r ∧ Fr [] w0 w ∧ w.heap[z]? = some (.cells cs 45 (0, 0)) ∧ ∃ O Q, PC w p O D ∧ RC w r Q E ∧ (∀ x ∈ O, w0.heap.size ≤ x) ∧ (∀ x ∈ Q, w0.heap.size ≤ x) ∧ ∀ x ∈ O, x ∉ Q
theorem RC.typed {w : World} {p : Nat} {O : List Nat} {C : Ct} (h : RC w p O C) : ∃ cs, w.heap[p]? = some (.cells cs 72 (0, 0)) := by
  obtain ⟨qv, h⟩ := h
  exact h.blk.typed
theorem RC.typedO {w : World} {p : Nat} {O : List Nat} {C : Ct} (h : RC w p O C) {x : Nat} (hx : x ∈ O) : ∃ cs, w.heap[x]? = some (.cells cs 5 (0, 0)) := by
  obtain ⟨qv, h⟩ := h
  exact h.q.typed hx
theorem Bo.left {P : Program} {f : FuncId} {args : Array Value} {w0 w : World} {p r z : Nat} {cs : Array Value} {D D' E : Ct} {X : Ending} (h : Bo w0 w p r z cs D E) (k : ∀ O, PC w p O D → Calls P f args w fun e w' => e = X ∧ (∃ O', PC w' p O' D' ∧ Sub w O O') ∧ Fr (p :: O) w w') :
    Calls P f args w fun e w' => e = X ∧ Bo w0 w' p r z cs D' E := by
  obtain ⟨hp, hr, hf, hz, O, Q, hC, hR, hO, hQ, hd⟩ := h
  refine (k O hC).mono ?_
  rintro e w' ⟨rfl, ⟨O', hC', hs⟩, hf'⟩
  have hzz := hf.size
  obtain ⟨c1, h1⟩ := hC.typed
  obtain ⟨c2, h2⟩ := hR.typed
  have hrO : r ∉ p :: O := fun hx => by
    rcases List.mem_cons.1 hx with e | hx
    · exact ne_of_type h2 h1 (by decide) e
    · obtain ⟨ds, hds⟩ := hC.typedO hx
      exact ne_of_type h2 hds (by decide) rfl
  have hQO : ∀ x, x ∈ Q → x ∉ p :: O := fun x hx hx2 => by
    obtain ⟨ds, hds⟩ := hR.typedO hx
    rcases List.mem_cons.1 hx2 with e | hx2
    · exact ne_of_type hds h1 (by decide) e
    · exact hd x hx2 hx
  have hzO : z ∉ p :: O := fun hx => by
    rcases List.mem_cons.1 hx with e | hx
    · exact ne_of_type hz h1 (by decide) e
    · obtain ⟨ds, hds⟩ := hC.typedO hx
      exact ne_of_type hz hds (by decide) rfl
  refine ⟨rfl, hp, hr, hf.new hf' (fun x hx => ?_), hf'.atS hz hzO, O', Q, hC', hR.keep hf' hrO hQO, fun x hx => ?_, hQ, fun x hx hx2 => ?_⟩
  · rcases List.mem_cons.1 hx with rfl | hx
    · exact .inr hp
    · exact .inr (hO x hx)
  · rcases hs x hx with h | h
    · exact hO x h
    · omega
  · rcases hs x hx with h | h
    · exact hd x h hx2
    · obtain ⟨ds, hds⟩ := hR.typedO hx2
      have := lt_of_heap hds
      omega
theorem Bo.right {P : Program} {f : FuncId} {args : Array Value} {w0 w : World} {p r z : Nat} {cs : Array Value} {D E E' : Ct} {X : Ending} (h : Bo w0 w p r z cs D E) (k : ∀ Q, RC w r Q E → Calls P f args w fun e w' => e = X ∧ (∃ Q', RC w' r Q' E' ∧ Sub w Q Q') ∧ Fr (r :: Q) w w') :
    Calls P f args w fun e w' => e = X ∧ Bo w0 w' p r z cs D E' := by
  obtain ⟨hp, hr, hf, hz, O, Q, hC, hR, hO, hQ, hd⟩ := h
  refine (k Q hR).mono ?_
  rintro e w' ⟨rfl, ⟨Q', hR', hs⟩, hf'⟩
  have hzz := hf.size
  obtain ⟨c1, h1⟩ := hC.typed
  obtain ⟨c2, h2⟩ := hR.typed
  have hpQ : p ∉ r :: Q := fun hx => by
    rcases List.mem_cons.1 hx with e | hx
    · exact ne_of_type h1 h2 (by decide) e
    · obtain ⟨ds, hds⟩ := hR.typedO hx
      exact ne_of_type h1 hds (by decide) rfl
  have hOQ : ∀ x, x ∈ O → x ∉ r :: Q := fun x hx hx2 => by
    obtain ⟨ds, hds⟩ := hC.typedO hx
    rcases List.mem_cons.1 hx2 with e | hx2
    · exact ne_of_type hds h2 (by decide) e
    · exact hd x hx hx2
  have hzQ : z ∉ r :: Q := fun hx => by
    rcases List.mem_cons.1 hx with e | hx
    · exact ne_of_type hz h2 (by decide) e
    · obtain ⟨ds, hds⟩ := hR.typedO hx
      exact ne_of_type hz hds (by decide) rfl
  refine ⟨rfl, hp, hr, hf.new hf' (fun x hx => ?_), hf'.atS hz hzQ, O, Q', hC.keep hf' hpQ hOQ, hR', hO, fun x hx => ?_, fun x hx hx2 => ?_⟩
  · rcases List.mem_cons.1 hx with rfl | hx
    · exact .inr hr
    · exact .inr (hQ x hx)
  · rcases hs x hx with h | h
    · exact hQ x h
    · omega
  · rcases hs x hx2 with h | h
    · exact hd x hx h
    · obtain ⟨ds, hds⟩ := hC.typedO hx
      have := lt_of_heap hds
      omega
theorem Bo.frame {w0 w w' : World} {p r z : Nat} {cs : Array Value} {D E : Ct} (h : Bo w0 w p r z cs D E) (hf' : Fr [] w w') : Bo w0 w' p r z cs D E := by
  obtain ⟨hp, hr, hf, hz, O, Q, hC, hR, hO, hQ, hd⟩ := h
  exact ⟨hp, hr, hf.trans hf', hf'.at hz, O, Q, hC.keep hf' (by simp) (by simp), hR.keep hf' (by simp) (by simp), hO, hQ, hd⟩
theorem ref1 {P : Program} {f : FuncId} {args : Array Value} {w : World} {r : Nat} {Q : List Nat} {E' : Ct} {X : Ending} (h : Calls P f args w fun e w' => e = X ∧ RC w' r Q E' ∧ Fr [r] w w') : Calls P f args w fun e w' => e = X ∧ (∃ Q', RC w' r Q' E' ∧ Sub w Q Q') ∧ Fr (r :: Q) w w' :=
  h.mono (by rintro e w' ⟨he, h1, h2⟩; exact ⟨he, ⟨Q, h1, Sub.refl _ _⟩, h2.mono (by simp)⟩)
end Go.Proofs.Ytbcgcbogcofbjaa.Ec
