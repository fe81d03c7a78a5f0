import Derived.Test.YtbcgcbogcofbjaaEcN
import Derived.OpenShut
namespace Go.Proofs.Ytbcgcbogcofbjaa.Ec
open Go.RowKit Go.Proofs.Ytbcgcbogcofbjaa.G
set_option linter.unusedVariables false
set_option linter.unusedSimpArgs false
attribute [local go_sem ↓] Go.wp_at_zero Go.wp_at_succ

/-! ### A slice of bytes that came in -/
def BytesAt (w : World) (a : Option Addr) (len : Nat) (L : Nat → Int) : Prop :=
  ∃ b o, (0 < len → a = some ⟨b, o, none⟩) ∧ ∀ i, i < len → b < w.heap.size ∧ Byte (L i) ∧ w.cell? ⟨b, o + i, none⟩ = some (.int .u8 (L i))
theorem BytesAt.keep {w w' : World} {a : Option Addr} {len : Nat} {L : Nat → Int} (h : BytesAt w a len L) (hb : Fr [] w w') : BytesAt w' a len L := by
  obtain ⟨b, o, h1, h2⟩ := h
  refine ⟨b, o, h1, fun i hi => ?_⟩
  obtain ⟨g0, g1, c0⟩ := h2 i hi
  exact ⟨Nat.lt_of_lt_of_le g0 hb.size, g1, (hb.cell g0 (by simp)).trans c0⟩
section
variable {H : Type} {enc : TypeId × Value → H} {w : World} {base : Nat} {spare : Nat → Bool} {held : Bool} {fuel : Nat}
theorem addr_mk (b o n : Nat) : (⟨b, o, none⟩ : Addr).add n = ⟨b, o + n, none⟩ := by
  unfold Addr.add
  split
  · rename_i h; subst h; rfl
  · rfl
theorem spot_none' {a : Addr} {v : Value} (h : w.cell? a = some v) : a.spot = none := by
  unfold World.cell? at h
  split at h
  · cases hs : a.spot with
    | none => rfl
    | some s => rw [hs] at h; simp at h
  · cases h
theorem bytes_of_trod {a : Option Addr} {len cap : Nat} {x : DataW H × List MemPlace} (h : DataW.trod enc Try.prog w base spare held fuel 29 [.slice a len cap] = some x) :
    len ≤ 9223372036854775807 ∧ ∃ L, BytesAt w a len L := by
  rcases Go.ChangeShapes.open_ints (k := .u8) Try.underlying29 Try.underlying5 (by kernel_rfl) h with ⟨hcs, _⟩ | ⟨ad, l, c, zs, hcs, hb, hl, hm, hzs, hx, hi, hw⟩
  · simp at hcs
    obtain ⟨rfl, rfl, rfl⟩ := hcs
    exact ⟨by omega, fun _ => 0, 0, 0, fun h => by omega, fun i h => by omega⟩
  · simp at hcs
    obtain ⟨rfl, rfl, rfl⟩ := hcs
    refine ⟨by unfold maxLen at hm; omega, fun i => zs.getD i 0, ?_⟩
    have hml : len ≤ zs.length := by rw [hzs]; split <;> omega
    obtain ⟨bk, of, sp⟩ := ad
    refine ⟨bk, of, fun h0 => ?_, fun i hil => ?_⟩
    · have h00 := hi 0 (by omega)
      have := spot_none' h00
      simp [Addr.add] at this
      rw [this]
    · have hii := hi i (by omega)
      have hs := spot_none' (hi 0 (by omega))
      simp [Addr.add] at hs
      subst hs
      rw [addr_mk] at hii
      refine ⟨World.block_lt_of_cell? w ⟨bk, of + i, none⟩ hii, ?_, hii⟩
      have := hw (zs.getD i 0) (by rw [List.getD_eq_getElem?_getD, List.getElem?_eq_getElem (by omega)]; simp)
      simp [Lit.wf, IntKind.min, IntKind.max, IntKind.signed, IntKind.bits] at this
      have e : zs.getD i 0 = zs[i]?.getD 0 := List.getD_eq_getElem?_getD ..
      show 0 ≤ zs.getD i 0 ∧ zs.getD i 0 < 256
      rw [e]
      exact ⟨this.1, by have := this.2; omega⟩
end

/-! ### EcTimeout, the plain law -/
def toT (c v dl : Int) : Tr := ⟨c, 1, v, dl, 0, 0, 0⟩
def TI (dl : Int) (s : St) : Prop := s.T.ph = 1 ∧ s.T.dl = dl ∧ s.T.res = 0 ∧ s.C.busy = true ∧ s.C.due = 1000 ∧ s.C.now < 1000
def DI (s : St) : Prop := s.T.ph = 5 ∧ s.T.res = 0 ∧ s.T.e = 14
def J (dl n : Int) (s : St) : Prop := TI dl s ∨ (DI s ∧ dl ≤ n)
theorem DI.step {s : St} (h : DI s) (t : Int) : stepS s t = s := by
  unfold stepS endS
  rw [runS_5 h.1, if_neg (fun g => g.1 h.1)]
theorem TI.run {dl : Int} {s : St} (h : TI dl s) {t : Int} (ht : t < 1000) : TI dl (runS t 12 s) := by
  obtain ⟨h1, h2, h3, h4, h5, h6⟩ := h
  have hA : s.C.adv t = nowS s.C t := by
    unfold Ct.adv
    rw [if_neg]
    rintro ⟨_, h⟩
    rw [h5] at h
    omega
  have hb : actB s t = false := by unfold actB; rw [hA]; show (!s.C.busy && _) = false; rw [h4]; rfl
  have ha : actS s t = ⟨s.T, nowS s.C t⟩ := by unfold actS; rw [hA, if_pos (show (nowS s.C t).busy = true from h4)]
  rw [run_false (by omega) hb, ha]
  exact ⟨h1, h2, h3, h4, h5, by show max s.C.now t < 1000; omega⟩
theorem end_J {dl t : Int} {r : St} (h : TI dl r) : J dl t (endS r t) ∧ doneV (endS r t) = decide (dl ≤ t) ∧ (dl ≤ t → resV (endS r t) = 0 ∧ errV (endS r t) = 14) := by
  obtain ⟨h1, h2, h3, h4, h5, h6⟩ := h
  unfold endS
  by_cases hd : dl ≤ t
  · rw [if_pos ⟨by omega, by omega⟩]
    refine ⟨.inr ⟨⟨rfl, h3, rfl⟩, hd⟩, (decide_eq_true hd).symm, fun _ => ⟨?_, rfl⟩⟩
    show (if (5 : Int) = 5 then r.T.res else 0) = 0
    rw [if_pos rfl, h3]
  · rw [if_neg (fun h => hd (by omega))]
    refine ⟨.inl ⟨h1, h2, h3, h4, h5, h6⟩, ?_, fun h => absurd h hd⟩
    unfold doneV
    rw [decide_eq_false hd, decide_eq_false (by omega)]
theorem J.step {dl n t : Int} {s : St} (h : J dl n s) (hn : n ≤ t) (ht : t < 1000) : J dl t (stepS s t) ∧ doneV (stepS s t) = decide (dl ≤ t) ∧ (dl ≤ t → resV (stepS s t) = 0 ∧ errV (stepS s t) = 14) := by
  rcases h with h | ⟨h, hd⟩
  · exact end_J (h.run ht)
  · rw [h.step]
    refine ⟨.inr ⟨h, by omega⟩, ?_, fun _ => ⟨?_, ?_⟩⟩
    · unfold doneV; rw [decide_eq_true h.1, decide_eq_true (show dl ≤ t by omega)]
    · unfold resV; rw [if_pos h.1]; exact h.2.1
    · unfold errV; rw [if_pos h.1]; exact h.2.2
theorem start_run (v dl : Int) (c : Int) (hc : c = 128 ∨ c = 129) : TI dl (runS 0 12 ⟨toT c v dl, Ct.new 1000⟩) := by
  rcases hc with rfl | rfl
  · have : runS 0 12 ⟨toT 128 v dl, Ct.new 1000⟩ = ⟨⟨128, 1, v, dl, 1, 0, 0⟩, { Ct.new 1000 with busy := true, command := true, v := 128, due := 1000 }⟩ := by kernel_rfl
    rw [this]
    exact ⟨rfl, rfl, rfl, rfl, rfl, by show (0 : Int) < 1000; omega⟩
  · have : runS 0 12 ⟨toT 129 v dl, Ct.new 1000⟩ = ⟨⟨129, 1, v, dl, 1, 0, 0⟩, { Ct.new 1000 with busy := true, command := true, v := 129, due := 1000 }⟩ := by kernel_rfl
    rw [this]
    exact ⟨rfl, rfl, rfl, rfl, rfl, by show (0 : Int) < 1000; omega⟩
/-- What holds ahead of a round. -/
def K4 (dl n : Int) (s : St) : Prop := (n = 0 ∧ ∃ c v, (c = 128 ∨ c = 129) ∧ s = ⟨toT c v dl, Ct.new 1000⟩) ∨ ∃ m, m ≤ n ∧ J dl m s
theorem K4.step {dl t : Int} {s : St} (h : K4 dl t s) (ht : t < 1000) : J dl t (stepS s t) ∧ doneV (stepS s t) = decide (dl ≤ t) ∧ (dl ≤ t → resV (stepS s t) = 0 ∧ errV (stepS s t) = 14) := by
  rcases h with ⟨rfl, c, v, hc, rfl⟩ | ⟨m, hm, h⟩
  · exact end_J (start_run v dl c hc)
  · exact h.step hm ht
end Go.Proofs.Ytbcgcbogcofbjaa.Ec
