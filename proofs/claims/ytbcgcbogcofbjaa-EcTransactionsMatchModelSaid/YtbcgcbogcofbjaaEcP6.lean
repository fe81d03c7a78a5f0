import Derived.Test.YtbcgcbogcofbjaaEcO6
import Derived.Deep.Slices
import Derived.OpenShut
namespace Go.Proofs.Ytbcgcbogcofbjaa.Ec
open Go.RowKit Go.Proofs.Ytbcgcbogcofbjaa.G Go.Deep Go.ChangeShapes Go.WideShapes
set_option linter.unusedVariables false
set_option linter.unusedSimpArgs false

structure Opr where
  kind : Int
  v : Int
  r : Int
  pass : Int
structure Opr.Ok (c : Opr) : Prop where
  k0 : -9223372036854775808 ≤ c.kind
  k1 : c.kind < 9223372036854775808
  v : Byte c.v
  r : Byte c.r
  p0 : 0 ≤ c.pass
  p1 : c.pass < 18446744073709551616
def OpsAt (w : World) (a : Option Addr) (len : Nat) (L : Nat → Opr) : Prop :=
  ∃ b o, (0 < len → a = some ⟨b, o, none⟩) ∧ ∀ i, i < len → b < w.heap.size ∧ (L i).Ok ∧ w.cell? ⟨b, o + i * 4, none⟩ = some (.int .i64 (L i).kind) ∧ w.cell? ⟨b, o + i * 4 + 1, none⟩ = some (.int .u8 (L i).v) ∧ w.cell? ⟨b, o + i * 4 + 2, none⟩ = some (.int .u8 (L i).r) ∧ w.cell? ⟨b, o + i * 4 + 3, none⟩ = some (.int .u64 (L i).pass)
/-! ### A slice of calls that came in, read -/
section
variable {H : Type} {enc : TypeId × Value → H} {P : Program} {w : World} {base : Nat} {spare : Nat → Bool} {held : Bool} {fuel : Nat}
theorem field_of {t : TypeId} {fs : Array Field} {cs : List Value} {x : DataW H × List MemPlace} (ht : P.underlying t = some (.struct fs)) (h : DataW.trod enc P w base spare held fuel t cs = some x)
    (j : Nat) (f : Field) (hf : fs[j]? = some f) (h1 : P.cellsOf f.type = 1) (ho : f.offset < P.cellsOf t) : ∃ v y n, cs[f.offset]? = some v ∧ DataW.trod enc P w base spare held n f.type [v] = some y := by
  obtain ⟨xs, n, _, _, hl, hxl, hat⟩ := DataW.trod_struct ht h
  have hj : j < xs.length := by rw [hxl]; exact (Array.getElem?_eq_some_iff.1 hf).1
  have hk := hat j f hf
  have hlt : f.offset < cs.length := by omega
  rw [h1, List.drop_eq_getElem_cons hlt, List.getElem?_eq_getElem hj] at hk
  exact ⟨cs[f.offset], xs[j], n, List.getElem?_eq_getElem hlt, hk⟩
theorem int_field {t : TypeId} {fs : Array Field} {cs : List Value} {x : DataW H × List MemPlace} (ht : P.underlying t = some (.struct fs)) (h : DataW.trod enc P w base spare held fuel t cs = some x)
    (j : Nat) (f : Field) (k : IntKind) (hf : fs[j]? = some f) (h1 : P.cellsOf f.type = 1) (ho : f.offset < P.cellsOf t) (hk : P.underlying f.type = some (.int k)) : ∃ z : Int, cs[f.offset]? = some (.int k z) ∧ (Lit.int k z).wf = true := by
  obtain ⟨v, y, n, hv, hy⟩ := field_of ht h j f hf h1 ho
  obtain ⟨z, hz, _, hw⟩ := DataW.trod_int hk hy
  obtain rfl : v = .int k z := by simpa using hz
  exact ⟨z, hv, hw⟩
theorem bool_field {t : TypeId} {fs : Array Field} {cs : List Value} {x : DataW H × List MemPlace} (ht : P.underlying t = some (.struct fs)) (h : DataW.trod enc P w base spare held fuel t cs = some x)
    (j : Nat) (f : Field) (hf : fs[j]? = some f) (h1 : P.cellsOf f.type = 1) (ho : f.offset < P.cellsOf t) (hk : P.underlying f.type = some .bool) : ∃ z : Bool, cs[f.offset]? = some (.bool z) := by
  obtain ⟨v, y, n, hv, hy⟩ := field_of ht h j f hf h1 ho
  obtain ⟨z, hz, _⟩ := DataW.trod_bool hk hy
  obtain rfl : v = .bool z := by simpa using hz
  exact ⟨z, hv⟩
theorem spot_none {a : Addr} {v : Value} (h : w.cell? a = some v) : a.spot = none := by
  unfold World.cell? at h
  split at h
  · cases hs : a.spot with
    | none => rfl
    | some s => rw [hs] at h; simp at h
  · cases h
theorem add_mk (b o n : Nat) : (⟨b, o, none⟩ : Addr).add n = ⟨b, o + n, none⟩ := by
  unfold Addr.add
  split
  · rename_i h; subst h; rfl
  · rfl
theorem ops_of_trod {a : Option Addr} {len cap : Nat} {x : DataW H × List MemPlace} (h : DataW.trod enc Try.prog w base spare held fuel 41 [.slice a len cap] = some x) :
    len ≤ 9223372036854775807 ∧ ∃ L, OpsAt w a len L := by
  rcases open_slice Try.underlying41 h with ⟨hcs, _⟩ | ⟨ad, l, c, m, n, D, Pl, hcs, hb, hl, hm, hmm, hx, hi⟩
  · simp at hcs
    obtain ⟨rfl, rfl, rfl⟩ := hcs
    exact ⟨by omega, fun _ => ⟨0, 0, 0, 0⟩, 0, 0, fun h => by omega, fun i h => by omega⟩
  · simp at hcs
    obtain ⟨rfl, rfl, rfl⟩ := hcs
    have hml : len ≤ m := by rw [hmm]; split <;> omega
    have hc45 : Try.prog.cellsOf 45 = 4 := by kernel_rfl
    have key : ∀ i, i < len → ∃ c : Opr, ad.block < w.heap.size ∧ ad.spot = none ∧ c.Ok ∧ w.cell? ⟨ad.block, ad.off + i * 4, none⟩ = some (.int .i64 c.kind) ∧ w.cell? ⟨ad.block, ad.off + i * 4 + 1, none⟩ = some (.int .u8 c.v) ∧ w.cell? ⟨ad.block, ad.off + i * 4 + 2, none⟩ = some (.int .u8 c.r) ∧ w.cell? ⟨ad.block, ad.off + i * 4 + 3, none⟩ = some (.int .u64 c.pass) := by
      intro i hil
      obtain ⟨cs', h1, h2⟩ := hi 0 (by omega)
      rw [hc45] at h1
      obtain ⟨_, hlen, hat⟩ := World.cells?_some h1
      have hs : ad.spot = none := by
        have h0 := hat 0 (by omega)
        rw [List.getElem?_eq_getElem (by omega)] at h0
        have := spot_none h0
        simpa [Addr.add] using this
      obtain ⟨bk, of, sp⟩ := ad
      simp only at hs
      subst hs
      obtain ⟨cs', h1, h2⟩ := hi i (by omega)
      rw [hc45] at h1
      obtain ⟨_, hlen, hat⟩ := World.cells?_some h1
      have hcell : ∀ j, j < 4 → w.cell? ⟨bk, of + i * 4 + j, none⟩ = cs'[j]? := fun j hj => by
        have := hat j hj
        rw [add_mk, add_mk] at this
        exact this
      obtain ⟨z0, e0, w0⟩ := int_field Try.underlying45 h2 0 _ .i64 rfl (by kernel_rfl) (of_decide_eq_true (by kernel_rfl)) Try.underlying3
      obtain ⟨z1, e1, w1⟩ := int_field Try.underlying45 h2 1 _ .u8 rfl (by kernel_rfl) (of_decide_eq_true (by kernel_rfl)) Try.underlying5
      obtain ⟨z2, e2, w2⟩ := int_field Try.underlying45 h2 2 _ .u8 rfl (by kernel_rfl) (of_decide_eq_true (by kernel_rfl)) Try.underlying5
      obtain ⟨z3, e3, w3⟩ := int_field Try.underlying45 h2 3 _ .u64 rfl (by kernel_rfl) (of_decide_eq_true (by kernel_rfl)) Try.underlying22
      have c0 := (hcell 0 (by omega)).trans e0
      simp [Lit.wf, IntKind.min, IntKind.max, IntKind.signed, IntKind.bits] at w0 w1 w2 w3
      refine ⟨⟨z0, z1, z2, z3⟩, World.block_lt_of_cell? w ⟨bk, of + i * 4 + 0, none⟩ c0, rfl, ⟨w0.1, by show z0 < _; omega, ⟨w1.1, by show z1 < _; omega⟩, ⟨w2.1, by show z2 < _; omega⟩, w3.1, by show z3 < _; omega⟩, c0, (hcell 1 (by omega)).trans e1, (hcell 2 (by omega)).trans e2, (hcell 3 (by omega)).trans e3⟩
    refine ⟨by unfold maxLen at hm; omega, ?_⟩
    have key2 : ∀ i, ∃ c : Opr, i < len → _ := fun i => by
      by_cases hil : i < len
      · obtain ⟨c, hc⟩ := key i hil
        exact ⟨c, fun _ => hc⟩
      · exact ⟨⟨0, 0, 0, 0⟩, fun h => absurd h hil⟩
    obtain ⟨L, hL⟩ := Classical.axiomOfChoice key2
    refine ⟨L, ad.block, ad.off, fun h0 => ?_, fun i hil => ?_⟩
    · have := (hL 0 h0).2.1
      obtain ⟨bk, of, sp⟩ := ad
      simp only at this
      rw [this]
    · obtain ⟨g0, _, g1⟩ := hL i hil
      exact ⟨g0, g1⟩
end
end Go.Proofs.Ytbcgcbogcofbjaa.Ec
