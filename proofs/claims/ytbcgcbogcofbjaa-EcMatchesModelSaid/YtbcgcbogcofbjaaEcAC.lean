import Derived.Test.YtbcgcbogcofbjaaEcU
import Derived.Test.YtbcgcbogcofbjaaEcP6
import Derived.BigQuiet
import Derived.BigRegion
namespace Go.Proofs.Ytbcgcbogcofbjaa.Ec
open Go.RowKit Go.Proofs.Ytbcgcbogcofbjaa.G
set_option linter.unusedVariables false
set_option linter.unusedSimpArgs false
attribute [local go_sem ↓] Go.wp_at_zero Go.wp_at_succ

def Bn (w0 w : World) (p r : Nat) (D E : Ct) : Prop :=
  w0.heap.size ≤ p ∧ w0.heap.size ≤ r ∧ Fr [] w0 w ∧ ∃ O Q, PC w p O D ∧ RC w r Q E ∧ (∀ x ∈ O, w0.heap.size ≤ x) ∧ (∀ x ∈ Q, w0.heap.size ≤ x) ∧ ∀ x ∈ O, x ∉ Q
theorem Bn.bo {w0 w w' : World} {p r z : Nat} {cs : Array Value} {D E : Ct} (h : Bn w0 w p r D E) (hf' : Fr [] w w') (hz : w'.heap[z]? = some (.cells cs 45 (0, 0))) : Bo w0 w' p r z cs D E := by
  obtain ⟨hp, hr, hf, O, Q, hC, hR, hO, hQ, hd⟩ := h
  exact ⟨hp, hr, hf.trans hf', hz, O, Q, hC.keep hf' (by simp) (by simp), hR.keep hf' (by simp) (by simp), hO, hQ, hd⟩
theorem Bo.bn {w0 w : World} {p r z : Nat} {cs : Array Value} {D E : Ct} (h : Bo w0 w p r z cs D E) : Bn w0 w p r D E := by
  obtain ⟨hp, hr, hf, hz, h⟩ := h
  exact ⟨hp, hr, hf, h⟩
theorem Oc.bn {w0 w w' : World} {p r : Nat} {C : Ct} (h : Oc w0 w p C) (hr : w0.heap.size ≤ r) (hR : RC w' r [] C) (hf' : Fr [] w w') : Bn w0 w' p r C C := by
  obtain ⟨hp, hf, O, hC, hO⟩ := h
  exact ⟨hp, hr, hf.trans hf', O, [], hC.keep hf' (by simp) (by simp), hR, hO, by simp, by simp⟩

set_option maxHeartbeats 800000 in
set_option maxRecDepth 100000 in
theorem regP_calls (p : Nat) (O : List Nat) (C : Ct) (i : Nat) (hi : i < 256) (w : World) (hC : PC w p O C) :
    Calls Try.prog 16 #[.pointer (some ⟨p, 0, none⟩), .int .u8 (i : Int)] w fun e w' => e = .returned (.int .u8 (C.regs i)) ∧ w' = w := by
  obtain ⟨qv, av, qo, ao, rfl, h⟩ := hC
  have hreg := h.blk.reg i hi
  have hii : (i : Int) < 256 := by omega
  have hi0 : (0 : Int) ≤ (i : Int) := by omega
  clear h
  generalize C.regs i = x at *
  go_enter Try.func16, Try.ntmps16
  go_wp2_with fail
  go_ret
  exact ⟨rfl, rfl⟩
set_option maxHeartbeats 800000 in
set_option maxRecDepth 100000 in
theorem regR_calls (p : Nat) (O : List Nat) (C : Ct) (i : Nat) (hi : i < 256) (w : World) (hC : RC w p O C) :
    Calls Try.prog 31 #[.pointer (some ⟨p, 0, none⟩), .int .u8 (i : Int)] w fun e w' => e = .returned (.int .u8 (C.regs i)) ∧ w' = w := by
  obtain ⟨qv, h⟩ := hC
  have hreg := h.blk.reg i hi
  have hii : (i : Int) < 256 := by omega
  have hi0 : (0 : Int) ≤ (i : Int) := by omega
  clear h
  generalize C.regs i = x at *
  go_enter Try.func31, Try.ntmps31
  go_wp2_with fail
  go_ret
  exact ⟨rfl, rfl⟩
theorem Bo.drew {w0 w : World} {p r z : Nat} {cs : Array Value} {D E : Ct} (h : Bo w0 w p r z cs D E) : Bo w0 w.drew p r z cs D E := h.frame (Fr.refl _ _).drew
theorem Bo.k1 {w0 w : World} {p r z : Nat} {ki vi ri pa : Int} {D E : Ct} (h : Bo w0 w p r z #[.int .i64 ki, .int .u8 vi, .int .u8 ri, .int .u64 pa] D E) : w.cell? ⟨z, 1, none⟩ = some (.int .u8 vi) := cellB h.2.2.2.1 1
theorem Bo.k2 {w0 w : World} {p r z : Nat} {ki vi ri pa : Int} {D E : Ct} (h : Bo w0 w p r z #[.int .i64 ki, .int .u8 vi, .int .u8 ri, .int .u64 pa] D E) : w.cell? ⟨z, 2, none⟩ = some (.int .u8 ri) := cellB h.2.2.2.1 2
theorem Bn.frame {w0 w w' : World} {p r : Nat} {D E : Ct} (h : Bn w0 w p r D E) (hf' : Fr [] w w') : Bn w0 w' p r D E := by
  obtain ⟨hp, hr, hf, O, Q, hC, hR, hO, hQ, hd⟩ := h
  exact ⟨hp, hr, hf.trans hf', O, Q, hC.keep hf' (by simp) (by simp), hR.keep hf' (by simp) (by simp), hO, hQ, hd⟩
theorem Bn.below {w0 w : World} {p r : Nat} {D E : Ct} (h : Bn w0 w p r D E) : Below w0.heap.size w0 w := h.2.2.1.below (Below.refl _ _) (Nat.le_refl _) (by simp)
theorem Bn.left {P : Program} {f : FuncId} {args : Array Value} {w0 w : World} {p r : Nat} {D D' E : Ct} {X : Ending} (h : Bn w0 w p r D E) (k : ∀ O, PC w p O D → Calls P f args w fun e w' => e = X ∧ (∃ O', PC w' p O' D' ∧ Sub w O O') ∧ Fr (p :: O) w w') :
    Calls P f args w fun e w' => e = X ∧ Bn w0 w' p r D' E := by
  obtain ⟨hp, hr, hf, O, Q, hC, hR, hO, hQ, hd⟩ := h
  refine (k O hC).mono ?_
  rintro e w' ⟨rfl, ⟨O', hC', hs⟩, hf'⟩
  have hzz := hf.size
  obtain ⟨c1, h1⟩ := hC.typed
  obtain ⟨c2, h2⟩ := hR.typed
  have hrO : r ∉ p :: O := fun hx => by
    rcases List.mem_cons.1 hx with e | hx
    · exact ne_of_type h2 h1 (by decide) e
    · obtain ⟨ds, hds⟩ := hC.typedO hx
      exact ne_of_type h2 hds (by decide) rfl
  have hQO : ∀ x, x ∈ Q → x ∉ p :: O := fun x hx hx2 => by
    obtain ⟨ds, hds⟩ := hR.typedO hx
    rcases List.mem_cons.1 hx2 with e | hx2
    · exact ne_of_type hds h1 (by decide) e
    · exact hd x hx2 hx
  refine ⟨rfl, hp, hr, hf.new hf' (fun x hx => ?_), O', Q, hC', hR.keep hf' hrO hQO, fun x hx => ?_, hQ, fun x hx hx2 => ?_⟩
  · rcases List.mem_cons.1 hx with rfl | hx
    · exact .inr hp
    · exact .inr (hO x hx)
  · rcases hs x hx with h | h
    · exact hO x h
    · omega
  · rcases hs x hx with h | h
    · exact hd x h hx2
    · obtain ⟨ds, hds⟩ := hR.typedO hx2
      have := lt_of_heap hds
      omega
theorem Bn.right {P : Program} {f : FuncId} {args : Array Value} {w0 w : World} {p r : Nat} {D E E' : Ct} {X : Ending} (h : Bn w0 w p r D E) (k : ∀ Q, RC w r Q E → Calls P f args w fun e w' => e = X ∧ (∃ Q', RC w' r Q' E' ∧ Sub w Q Q') ∧ Fr (r :: Q) w w') :
    Calls P f args w fun e w' => e = X ∧ Bn w0 w' p r D E' := by
  obtain ⟨hp, hr, hf, O, Q, hC, hR, hO, hQ, hd⟩ := h
  refine (k Q hR).mono ?_
  rintro e w' ⟨rfl, ⟨Q', hR', hs⟩, hf'⟩
  have hzz := hf.size
  obtain ⟨c1, h1⟩ := hC.typed
  obtain ⟨c2, h2⟩ := hR.typed
  have hpQ : p ∉ r :: Q := fun hx => by
    rcases List.mem_cons.1 hx with e | hx
    · exact ne_of_type h1 h2 (by decide) e
    · obtain ⟨ds, hds⟩ := hR.typedO hx
      exact ne_of_type h1 hds (by decide) rfl
  have hOQ : ∀ x, x ∈ O → x ∉ r :: Q := fun x hx hx2 => by
    obtain ⟨ds, hds⟩ := hC.typedO hx
    rcases List.mem_cons.1 hx2 with e | hx2
    · exact ne_of_type hds h2 (by decide) e
    · exact hd x hx hx2
  refine ⟨rfl, hp, hr, hf.new hf' (fun x hx => ?_), O, Q', hC.keep hf' hpQ hOQ, hR', hO, fun x hx => ?_, fun x hx hx2 => ?_⟩
  · rcases List.mem_cons.1 hx with rfl | hx
    · exact .inr hr
    · exact .inr (hQ x hx)
  · rcases hs x hx with h | h
    · exact hQ x h
    · omega
  · rcases hs x hx2 with h | h
    · exact hd x hx h
    · obtain ⟨ds, hds⟩ := hC.typedO hx
      have := lt_of_heap hds
      omega
end Go.Proofs.Ytbcgcbogcofbjaa.Ec
