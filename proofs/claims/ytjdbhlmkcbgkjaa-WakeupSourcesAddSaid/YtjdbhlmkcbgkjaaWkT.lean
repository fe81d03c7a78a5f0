import Derived.Test.YtjdbhlmkcbgkjaaWkS
import Derived.Deep.RegionHeld3
import Derived.Deep.DrawnRows
namespace Go.Proofs.Ytjdbhlmkcbgkjaa.Wk
open Go.RowKit Go.Proofs.YtjdbhlmkcbgkjaaW.PrintWords
set_option linter.unusedVariables false
set_option linter.unusedSimpArgs false

/-! ### Both sides in one memory -/
structure Both (w0 w : World) (p lb q ob hb : Nat) (A B : St) : Prop where
  pm : PMem w p lb A
  rm : RMem w q ob hb B
  bel : Below w0.heap.size w0 w
  hp : w0.heap.size ≤ p
  hl : w0.heap.size ≤ lb
  hq : w0.heap.size ≤ q
  ho : w0.heap.size ≤ ob
  hh : w0.heap.size ≤ hb
theorem Both.apart {w0 w : World} {p lb q ob hb : Nat} {A B : St} (h : Both w0 w p lb q ob hb A B) : p ≠ q ∧ p ≠ ob ∧ p ≠ hb ∧ lb ≠ q ∧ lb ≠ ob ∧ lb ≠ hb := by
  obtain ⟨⟨⟨cap, h1⟩, cs, h2, _⟩, ⟨⟨oc, hc, al, _, _, _, h3⟩, ⟨cs2, h4, _⟩, ds, h5, _⟩, _, _, _, _, _, _⟩ := h
  exact ⟨ne_of_type h1 h3 (by decide), ne_of_type h1 h4 (by decide), ne_of_type h1 h5 (by decide), ne_of_type h2 h3 (by decide), ne_of_type h2 h4 (by decide), ne_of_type h2 h5 (by decide)⟩
theorem Both.keep {w0 w w' : World} {p lb q ob hb : Nat} {A B : St} (h : Both w0 w p lb q ob hb A B) (hf : Fr [] w w') : Both w0 w' p lb q ob hb A B :=
  ⟨h.pm.keep hf (by simp) (by simp), h.rm.keep hf (by simp) (by simp) (by simp), hf.below h.bel h.bel.size (by simp), h.hp, h.hl, h.hq, h.ho, h.hh⟩
theorem Both.did {w0 w w' : World} {p lb lb' q ob hb : Nat} {A B C : St} (h : Both w0 w p lb q ob hb A B) (hl : lb' = lb ∨ w.heap.size ≤ lb') (hm : PMem w' p lb' C) (hf : Fr [p, lb] w w') : Both w0 w' p lb' q ob hb C B := by
  obtain ⟨h1, h2, h3, h4, h5, h6⟩ := h.apart
  refine ⟨hm, h.rm.keep hf (by simp; omega) (by simp; omega) (by simp; omega), hf.below h.bel h.bel.size ?_, h.hp, ?_, h.hq, h.ho, h.hh⟩
  · have := h.hp; have := h.hl; simp; omega
  · have := h.hl; have := h.bel.size; omega
theorem Both.wanted {w0 w w' : World} {p lb q ob hb : Nat} {A B C : St} (h : Both w0 w p lb q ob hb A B) (hm : RMem w' q ob hb C) (hf : Fr [q, ob, hb] w w') : Both w0 w' p lb q ob hb A C := by
  obtain ⟨h1, h2, h3, h4, h5, h6⟩ := h.apart
  refine ⟨h.pm.keep hf (by simp; omega) (by simp; omega), hm, hf.below h.bel h.bel.size ?_, h.hp, h.hl, h.hq, h.ho, h.hh⟩
  have := h.hq; have := h.ho; have := h.hh; simp; omega

/-! ### A list of calls that came in -/
def CallsAt (w : World) (a : Option Addr) (len : Nat) (L : Nat → Cl) : Prop :=
  ∃ b o, (0 < len → a = some ⟨b, o, none⟩) ∧ ∀ i, i < len → b < w.heap.size ∧ (L i).Ok ∧ w.cell? ⟨b, o + i * 6, none⟩ = some (.int .i64 (L i).kind) ∧ w.cell? ⟨b, o + i * 6 + 1, none⟩ = some (.int .i64 (L i).source) ∧ w.cell? ⟨b, o + i * 6 + 2, none⟩ = some (.int .u64 (L i).wait) ∧
    w.cell? ⟨b, o + i * 6 + 3, none⟩ = some (.int .u64 (L i).hold) ∧ w.cell? ⟨b, o + i * 6 + 4, none⟩ = some (.int .i64 (L i).events) ∧ w.cell? ⟨b, o + i * 6 + 5, none⟩ = some (.bool (L i).raw)
theorem CallsAt.below {w w' : World} {a : Option Addr} {len : Nat} {L : Nat → Cl} (h : CallsAt w a len L) (hb : Below w.heap.size w w') : CallsAt w' a len L := by
  obtain ⟨b, o, h1, h2⟩ := h
  refine ⟨b, o, h1, fun i hi => ?_⟩
  obtain ⟨g0, g1, c0, c1, c2, c3, c4, c5⟩ := h2 i hi
  have k : ∀ j, w'.cell? ⟨b, j, none⟩ = w.cell? ⟨b, j, none⟩ := fun j => hb.cell (p := ⟨b, j, none⟩) g0
  exact ⟨Nat.lt_of_lt_of_le g0 hb.size, g1, (k _).trans c0, (k _).trans c1, (k _).trans c2, (k _).trans c3, (k _).trans c4, (k _).trans c5⟩

def Cl.noraw (c : Cl) : Cl := { c with raw := false }
theorem Cl.Ok.noraw {c : Cl} (h : c.Ok) : c.noraw.Ok := ⟨h.k0, h.k1, h.s0, h.s1, h.w0, h.w1, h.h0, h.h1, h.e0, h.e1⟩
def St.call (A : St) (c : Cl) (n : Int) : Int × St := A.step c.kind (c.at n A.now A.events)
def startS (n : Nat) (L : Nat → Cl) : Nat → St
  | 0 => St.new n
  | i + 1 => ((startS n L i).call (L i).noraw n).2
theorem call_kept {A : St} (hA : A.Ok) (he : A.events ≤ 1000000000) {c : Cl} (hc : c.Ok) (n : Int) (n1 : n < 9223372036854775808) : Kept A (A.call c n).2 :=
  step_kept hA (Cl.at_ok hc n _ _ n1 hA.now0 hA.now1 (by have := hA.ev0; omega) (by omega)) he
theorem start_kept (n : Nat) (hn : n ≤ 32) (L : Nat → Cl) (len : Nat) (hlen : len ≤ 1000) (hL : ∀ i, i < len → (L i).Ok) : ∀ i, i ≤ len → (startS n L i).Ok ∧ (startS n L i).n = n ∧ (startS n L i).events ≤ i * 34
  | 0, _ => ⟨St.new_ok n hn, rfl, by show (0 : Int) ≤ _; omega⟩
  | i + 1, hi => by
    obtain ⟨h1, h2, h3⟩ := start_kept n hn L len hlen hL i (by omega)
    have hk := call_kept h1 (by omega) (hL i (by omega)).noraw n (by omega)
    refine ⟨hk.ok, hk.n.trans h2, ?_⟩
    have := hk.ev1
    show ((startS n L i).call (L i).noraw n).2.events ≤ _
    omega
end Go.Proofs.Ytjdbhlmkcbgkjaa.Wk
