import Derived.Test.YtbcgcbogcofbjaaEcD
import Derived.BigRegion
namespace Go.Proofs.Ytbcgcbogcofbjaa.Ec
open Go.RowKit Go.Proofs.Ytbcgcbogcofbjaa.G
set_option linter.unusedVariables false
set_option linter.unusedSimpArgs false
attribute [local go_sem ↓] Go.wp_at_zero Go.wp_at_succ

theorem info5 : (Try.prog.info? 5).map (fun i => (i.zero, i.size, i.bytes)) = some (some (.int .u8 0), 1, 1) := by kernel_rfl
theorem src_one (w : World) (v : Value) (h : v.oneCell' = true) {B : Nat} (hB : w.heap[B]? = some (.cells #[v] 5 (0, 0))) : SrcAt w (.slice (some ⟨B, 0, none⟩) 1 1) [v] :=
  SrcAt.block hB 1 1 [v] rfl (fun j u hu => by simpa using hu) (fun u hu => by simp at hu; subst hu; exact h)

/-- The program's memory while its argument list is l. -/
structure PCa (w : World) (p : Nat) (C : Ct) (qv av : Value) (qo ao : List Nat) (l : List Int) : Prop where
  blk : Blk w p 66 C.delay C.now C.regs (phi C qv av)
  q : SL w 5 qv qo (bytes C.queue)
  a : SL w 5 av ao (bytes l)
  ap : ∀ x, x ∈ qo → x ∉ ao
theorem PCa.put {w w1 w2 : World} {p : Nat} {C : Ct} {qv av v1 : Value} {qo ao o1 : List Nat} {l : List Int} {x : Int} (h : PCa w p C qv av qo ao l) (hF : Fr ao w w1) (hs : SL w1 5 v1 o1 (bytes l ++ [.int .u8 x])) (ho : Sub w ao o1) (hb : Blk (w1.setCell ⟨p, 266, none⟩ v1) p 66 C.delay C.now C.regs (phi C qv v1)) (hf : Fr [] (w1.setCell ⟨p, 266, none⟩ v1) w2) (hpq : p ∉ qo) (hlt : ∀ x, x ∈ qo → x < w.heap.size) :
    ∃ av' ao', PCa w2 p C qv av' qo ao' (l ++ [x]) ∧ Sub w ao ao' ∧ Fr (p :: ao) w w2 := by
  have h1 : Fr [p] w1 (w1.setCell ⟨p, 266, none⟩ v1) := (Fr.refl _ _).setCell (Or.inl (by simp)) _
  obtain ⟨cs, hcs⟩ := hb.typed
  have hpo : p ∉ o1 := fun hx => by
    obtain ⟨ds, hds⟩ := hs.typed hx
    have hp1 : (w1.setCell ⟨p, 266, none⟩ v1).heap[p]? = some (.cells (ds.setIfInBounds 266 v1) 5 (0, 0)) := setB hds 266 v1
    rw [hcs] at hp1
    injection hp1 with hp1
    injection hp1 with _ hp2
    exact absurd hp2 (by decide)
  refine ⟨v1, o1, ⟨hb.keep hf (by simp), ?_, ?_, fun x hx hx1 => ?_⟩, ho, ?_⟩
  · refine ((h.q.keep hF (fun x hx => h.ap x hx)).keep h1 (fun x hx e => ?_)).keep hf (by simp)
    simp at e; subst e; exact hpq hx
  · have h2 : SL w1 5 v1 o1 (bytes (l ++ [x])) := by
      have : bytes (l ++ [x]) = bytes l ++ [.int .u8 x] := by simp [bytes]
      rw [this]; exact hs
    refine (h2.keep h1 (fun y hy e => ?_)).keep hf (by simp)
    simp at e; subst e; exact hpo hy
  · rcases ho x hx1 with h3 | h3
    · exact h.ap x hx h3
    · have := hlt x hx; omega
  · exact ((hF.mono (fun x hx => List.mem_cons_of_mem _ hx)).trans (h1.mono (by simp))).trans (hf.mono (by simp))

set_option maxHeartbeats 1600000 in
set_option maxRecDepth 100000 in
theorem effect_calls (p : Nat) (O : List Nat) (C : Ct) (hok : C.Ok) (w : World) (hC : PC w p O C) :
    Calls Try.prog 45 #[.pointer (some ⟨p, 0, none⟩)] w fun e w' => e = .returned (.tuple #[]) ∧ (∃ O', PC w' p O' (effS C) ∧ Sub w O O') ∧ Fr (p :: O) w w' := by
  have HC := Lib.hid hC
  obtain ⟨qv, av, qo, ao, rfl, h⟩ := hC
  have c1 : w.cell? ⟨p, 259, none⟩ = some (.bool C.command) := h.blk.cell 259 (by omega)
  have c2 : w.cell? ⟨p, 260, none⟩ = some (.int .u8 C.v) := h.blk.cell 260 (by omega)
  have c7 : w.cell? ⟨p, 265, none⟩ = some (.int .u8 C.cmd) := h.blk.cell 265 (by omega)
  have c8 : w.cell? ⟨p, 266, none⟩ = some av := h.blk.cell 266 (by omega)
  have y7 := h.blk.frozen 265
  have y8 := h.blk.frozen 266
  have H := Lib.hid h
  clear h
  obtain ⟨v0, v1⟩ := hok.v
  unfold effS
  by_cases hcm : C.command = true
  · rw [hcm] at c1
    rw [if_pos hcm]
    have hcc := Lib.hid (command_calls p (qo ++ ao) C hok C.v v0 v1 w HC.out)
    clear hcm
    go_enter Try.func45, Try.ntmps45
    go_wp2_with fail
    refine hcc.out.mono ?_
    rintro e w2 ⟨rfl, hC2, hf2⟩
    clear c1 c2 c7 c8 y7 y8
    have hC2 := Lib.hid hC2
    go_wp2_with fail
    refine bodyPost_ret (results_none rfl _ _ _) rfl ?_
    exact ⟨rfl, hC2.out, hf2⟩
  · rw [if_neg hcm]
    have hcm : C.command = false := by simpa using hcm
    rw [hcm] at c1
    have Hcm := Lib.hid hcm
    clear hcm
    rcases hok.cmd with hcd | hcd | hcd
    · rw [hcd] at c7
      rw [if_neg (by omega), if_neg (by omega)]
      clear hcd
      go_enter Try.func45, Try.ntmps45
      go_wp2_with fail
      go_end0
      exact ⟨rfl, ⟨_, HC.out, Sub.refl _ _⟩, Fr.refl _ _⟩
    · rw [hcd] at c7
      rw [if_pos hcd]
      have Hcd := Lib.hid hcd
      clear hcd
      obtain ⟨i, hi⟩ := Int.eq_ofNat_of_zero_le v0
      have hi2 : i < 256 := by omega
      have hreg := H.out.blk.reg i hi2
      rw [hi] at c2
      have Hi : Hid (C.v.toNat = i) := by rw [hi]; rfl
      clear hi v0 v1
      have hii : (i : Int) < 256 := by omega
      have hi0 : (0 : Int) ≤ (i : Int) := by omega
      have hrb := hok.r i
      obtain ⟨x, hx⟩ : ∃ x, C.regs i = x := ⟨_, rfl⟩
      rw [hx] at hreg hrb
      have Hx := Lib.hid hx
      clear hx
      go_enter Try.func45, Try.ntmps45
      go_upto_region 4 with (fail)
      go_still_tail 11, (by kernel_rfl)
      change wpList _ _ _ _ _ w.drew
      go_wp2_with fail
      refine (output_calls p _ C x _ (HC.out.keep (S := []) ((Fr.refl _ _).drew) (by simp) (by simp))).mono ?_
      rintro e w2 ⟨rfl, ⟨O2, hC2, hs2⟩, hf2⟩
      have hf2 := hf2.undrew
      obtain ⟨qv2, av2, qo2, ao2, rfl, h2⟩ := hC2
      have c7 : w2.cell? ⟨p, 265, none⟩ = some (.int .u8 128) := by rw [← Hcd.out]; exact h2.blk.cell 265 (by omega)
      have y7 := h2.blk.frozen 265
      have H2 := Lib.hid h2
      clear h2 c1 c2 c8 y8 hreg
      go_wp2_with fail
      go_end0
      have hf3 : Fr [p] w2 (w2.setCell ⟨p, 265, none⟩ (.int .u8 0)) := (Fr.refl _ _).setCell (Or.inl (by simp)) _
      obtain ⟨O3, hC3, hs3⟩ := H2.out.put (C' := { C with full := true, out := C.regs C.v.toNat, cmd := 0 }) (by
        have := H2.out.blk.setHi 265 (by omega) (by omega) (.int .u8 0) rfl
        rw [Hi.out, Hx.out]; exact this) hf3 rfl (fun e => absurd e (by show ¬ (0 : Int) = 129; omega))
      exact ⟨rfl, ⟨O3, hC3, Sub.trans (fun x hx => by
        rcases hs2 x hx with h | h
        · exact .inl h
        · exact .inr h) hs3 hf2.size⟩, fr1 (hf2.trans hf3)⟩
    · rw [hcd] at c7
      rw [if_neg (by omega), if_pos hcd]
      have hsa := H.out.a hcd
      have Hcd := Lib.hid hcd
      clear hcd
      obtain ⟨l, hl⟩ : ∃ l, C.arg.toList = l := ⟨_, rfl⟩
      rw [hl] at hsa
      have hl1 : l.length ≤ 1 := by rw [← hl]; cases C.arg <;> simp
      obtain ⟨a, cap, rfl, hcl, hcmx⟩ := hsa.form
      have hPA : PCa w p C qv (.slice a (bytes l).length cap) qo ao l := ⟨H.out.blk, H.out.q, hsa, H.out.ap⟩
      have HPA := Lib.hid hPA
      have Hl := Lib.hid hl
      have hps := H.out.blk.lt
      have hbl : (bytes l).length ≤ 1 := by rw [bytes_len]; exact hl1
      clear hsa hl hPA HC
      go_enter Try.func45, Try.ntmps45
      go_upto_region 7 with (fail)
      go_cut [] (fun wx => ∃ av' ao', PCa wx p C qv av' qo ao' (l ++ [C.v]) ∧ Sub w ao ao' ∧ Fr (p :: ao) w wx)
      case first =>
        go_region_law (first
          | (refine step_append_sl (by rfl) (.tmp 41) (.tmp 47) 29 (by rfl) 5 (.int .u8 0) 1 Try.underlying29 info5 rfl (xs := bytes l) (ov := ao) (by rfl) (by rfl) (HPA.out.a.keep (S := []) (by (repeat (first | exact Fr.refl _ _ | refine Fr.drew ?_ | refine Fr.alloc ?_ _))) (by simp)) (src_one _ (.int .u8 C.v) rfl (by (repeat (first | with_reducible exact heap_alloc_new _ _ | with_reducible refine drewB ?_)))) (by simp; omega) (by simp; omega) ?_; intro v1 w1 o1 hs1 hf1 ho1; have hF1 : Fr ao w w1 := Fr.trans (by (repeat (first | exact Fr.refl _ _ | refine Fr.drew ?_ | refine Fr.alloc ?_ _))) hf1; have hB1 := Lib.hid (H.out.blk.keep hF1 H.out.notp.2); have hO1 : Hid (Sub w ao o1) := Lib.hid (fun x hx => (ho1 x hx).imp id (fun h => by simp at h; omega)); clear ho1; have c8' : w1.cell? ⟨p, 266, none⟩ = some (.slice a (bytes l).length cap) := hB1.out.cell 266 (by omega); have y8' := hB1.out.frozen 266; obtain ⟨a1, cap1, hv1, hl1, hm1⟩ := hs1.form; rw [show (bytes l ++ [Value.int IntKind.u8 C.v]).length = (bytes l).length + 1 by simp] at hv1 hl1; subst hv1; have Hs1 := Lib.hid hs1; clear hs1))
        all_goals
          go_wp2_with fail
          go_meet
          exact PCa.put HPA.out hF1 Hs1.out hO1.out (hB1.out.setHi 266 (by omega) (by omega) _ rfl) (by (repeat (first | exact Fr.refl _ _ | refine Fr.drew ?_))) H.out.notp.1 (fun x hx => by obtain ⟨cs, hcs⟩ := H.out.q.typed hx; exact lt_of_heap hcs)
      case rest =>
        obtain ⟨av2, ao2, hP2, hS2, hF2⟩ := hcut
        have hqlt : ∀ x, x ∈ qo → x < w.heap.size := fun x hx => by obtain ⟨cs, hcs⟩ := H.out.q.typed hx; exact lt_of_heap hcs
        have hFr : Fr (p :: (qo ++ ao)) w wc := hF2.mono (fun x hx => by
          rcases List.mem_cons.1 hx with h | h
          · simp [h]
          · exact List.mem_cons_of_mem _ (List.mem_append_right _ h))
        have hSub : Sub w (qo ++ ao) (qo ++ ao2) := fun x hx => by
          rcases List.mem_append.1 hx with h | h
          · exact .inl (List.mem_append_left _ h)
          · exact (hS2 x h).imp (List.mem_append_right _) id
        have HFr := Lib.hid hFr
        have HSub := Lib.hid hSub
        clear c1 c2 c7 c8 y7 y8 HPA H hF2 hS2 hFr hSub hqlt
        cases ha : C.arg with
        | none =>
          obtain rfl : l = [] := by rw [← Hl.out, ha]; rfl
          have hD : argS C = { C with arg := some C.v } := by unfold argS; rw [ha]
          have HD := Lib.hid hD
          clear hD
          obtain ⟨a2, cap2, rfl, _, _⟩ := hP2.a.form
          have c8 : wc.cell? ⟨p, 266, none⟩ = some (.slice a2 1 cap2) := hP2.blk.cell 266 (by omega)
          have HP2 := Lib.hid hP2
          clear hP2 ha
          go_wp2_with fail
          go_end0
          exact ⟨rfl, by rw [HD.out]; exact ⟨qo ++ ao2, ⟨qv, _, qo, ao2, rfl, HP2.out.blk, HP2.out.q, fun _ => HP2.out.a, fun e => absurd Hcd.out e, HP2.out.ap⟩, HSub.out⟩, HFr.out⟩
        | some y =>
          obtain rfl : l = [y] := by rw [← Hl.out, ha]; rfl
          have hD : argS C = { C with regs := upd C.regs y.toNat C.v, cmd := 0, arg := none } := by unfold argS; rw [ha]
          have HD := Lib.hid hD
          clear hD
          obtain ⟨g, off, cap2, rfl, rfl, hle, f0⟩ := hP2.a.at (i := 0) (by simp [bytes])
          obtain ⟨g', off', cap3, e1, hg0, hle2, f2⟩ := hP2.a.at (i := 1) (by simp [bytes])
          simp at e1
          obtain ⟨⟨rfl, rfl⟩, rfl⟩ := e1
          obtain ⟨y0, y1⟩ := hok.arg y ha
          obtain ⟨i, rfl⟩ := Int.eq_ofNat_of_zero_le y0
          have hi2 : i < 256 := by omega
          have c8 : wc.cell? ⟨p, 266, none⟩ = some (.slice (some ⟨g, off, none⟩) 2 cap2) := hP2.blk.cell 266 (by omega)
          have e0 : wc.cell? ⟨g, off, none⟩ = some (.int .u8 (i : Int)) := f0
          have e2 : wc.cell? ⟨g, off + 1, none⟩ = some (.int .u8 C.v) := f2
          have hreg := hP2.blk.reg i hi2
          have yreg := hP2.blk.frozen (2 + i)
          have hcap : 2 ≤ cap2 := by simpa [bytes] using hle
          clear f0 f2 hle hle2 hg0
          have HP2 := Lib.hid hP2
          clear hP2 ha
          go_upto_region 9 with (fail)
          go_still_tail 16, (by kernel_rfl)
          change wpList _ _ _ _ _ wc.drew
          have hreg' : wc.drew.cell? ⟨p, 2 + i, none⟩ = some (.int .u8 (C.regs i)) := hreg
          have yreg' : wc.drew.frozen? ⟨p, 2 + i, none⟩ = false := yreg
          have c7 : wc.cell? ⟨p, 265, none⟩ = some (.int .u8 C.cmd) := HP2.out.blk.cell 265 (by omega)
          have y7 := HP2.out.blk.frozen 265
          have hne : 2 + i ≠ 265 := by omega
          go_wp2_with fail
          go_end0
          have hf9 : Fr [p] wc ((wc.setCell ⟨p, 2 + i, none⟩ (.int .u8 C.v)).setCell ⟨p, 265, none⟩ (.int .u8 0)).drew := (((Fr.refl _ _).setCell (Or.inl (by simp)) _).setCell (Or.inl (by simp)) _).drew
          refine ⟨rfl, ⟨qo, ?_, fun x hx => HSub.out x (List.mem_append_left _ hx)⟩, HFr.out.trans (hf9.mono (by simp))⟩
          rw [HD.out]
          have hb := (((HP2.out.blk.setReg i hi2 C.v).setHi 265 (by omega) (by omega) (.int .u8 0) rfl).keep (S := []) ((Fr.refl _ _).drew) (by simp))
          obtain ⟨cs, hcs⟩ := HP2.out.blk.typed
          exact ⟨qv, _, qo, [], by simp, hb, HP2.out.q.keep hf9 (fun x hx e => by simp at e; exact HP2.out.q.ne_block hcs (by decide) x hx e), fun e => absurd e (by show ¬ (0 : Int) = 129; omega), fun _ => rfl, fun _ _ => by simp⟩
end Go.Proofs.Ytbcgcbogcofbjaa.Ec
