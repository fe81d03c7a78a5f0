import Derived.Test.YtbcgcbogcofbjaaEcX
namespace Go.Proofs.Ytbcgcbogcofbjaa.Ec
open Go.RowKit Go.Proofs.Ytbcgcbogcofbjaa.G
set_option linter.unusedVariables false
set_option linter.unusedSimpArgs false
attribute [local go_sem ↓] Go.wp_at_zero Go.wp_at_succ

theorem bytes_snoc (l : List Int) (x : Int) : bytes (l ++ [x]) = bytes l ++ [.int .u8 x] := by simp [bytes]
theorem PCq.push {w w1 : World} {p : Nat} {C : Ct} {qv av v1 : Value} {qo ao o1 : List Nat} {x : Int} (h : PCq w p C qv av qo ao) (hF : Fr qo w w1) (hs : SL w1 5 v1 o1 (bytes C.queue ++ [.int .u8 x])) (ho : Sub w qo o1) :
    ∃ O', PC (w1.setCell ⟨p, 264, none⟩ v1) p O' { C with queue := C.queue ++ [x] } ∧ Sub w (qo ++ ao) O' ∧ Fr (p :: (qo ++ ao)) w (w1.setCell ⟨p, 264, none⟩ v1) := by
  have hb1 := h.blk.keep hF h.notp.1
  have h1 : Fr [p] w1 (w1.setCell ⟨p, 264, none⟩ v1) := (Fr.refl _ _).setCell (Or.inl (by simp)) _
  obtain ⟨cs, hcs⟩ := hb1.typed
  have hpo : p ∉ o1 := fun hx => hs.ne_block hcs (by decide) p hx rfl
  have hao : ∀ y, y ∈ ao → y < w.heap.size := fun y hy => by
    by_cases e : C.cmd = 129
    · obtain ⟨ds, hds⟩ := (h.a e).typed hy
      exact lt_of_heap hds
    · rw [h.az e] at hy; simp at hy
  refine ⟨o1 ++ ao, ⟨v1, av, o1, ao, rfl, hb1.setHi 264 (by omega) (by omega) v1 rfl, ?_, fun e => ?_, h.az, fun y hy hy2 => ?_⟩, fun y hy => ?_, ?_⟩
  · have h2 : SL w1 5 v1 o1 (bytes (C.queue ++ [x])) := by rw [bytes_snoc]; exact hs
    exact h2.keep h1 (fun y hy e => by simp at e; subst e; exact hpo hy)
  · exact ((h.a e).keep hF (fun y hy hq => h.ap y hq hy)).keep h1 (fun y hy e => by simp at e; subst e; exact h.notp.2 hy)
  · rcases ho y hy with h3 | h3
    · exact h.ap y h3 hy2
    · have := hao y hy2; omega
  · rcases List.mem_append.1 hy with hy | hy
    · rcases ho y hy with h3 | h3
      · exact .inl (List.mem_append_left _ h3)
      · exact .inr h3
    · exact .inl (List.mem_append_right _ hy)
  · exact (hF.mono (fun y hy => List.mem_cons_of_mem _ (List.mem_append_left _ hy))).trans (h1.mono (by simp))
theorem RCq.push {w w1 : World} {p : Nat} {C : Ct} {qv v1 : Value} {O o1 : List Nat} {x : Int} (h : RCq w p C qv O) (hF : Fr O w w1) (hs : SL w1 5 v1 o1 (bytes C.queue ++ [.int .u8 x])) (ho : Sub w O o1) :
    ∃ O', RC (w1.setCell ⟨p, 264, none⟩ v1) p O' { C with queue := C.queue ++ [x] } ∧ Sub w O O' ∧ Fr (p :: O) w (w1.setCell ⟨p, 264, none⟩ v1) := by
  have hb1 := h.blk.keep hF h.notp
  have h1 : Fr [p] w1 (w1.setCell ⟨p, 264, none⟩ v1) := (Fr.refl _ _).setCell (Or.inl (by simp)) _
  obtain ⟨cs, hcs⟩ := hb1.typed
  have hpo : p ∉ o1 := fun hx => hs.ne_block hcs (by decide) p hx rfl
  refine ⟨o1, ⟨v1, hb1.setHi 264 (by omega) (by omega) v1 rfl, ?_⟩, ho, ?_⟩
  · have h2 : SL w1 5 v1 o1 (bytes (C.queue ++ [x])) := by rw [bytes_snoc]; exact hs
    exact h2.keep h1 (fun y hy e => by simp at e; subst e; exact hpo hy)
  · exact (hF.mono (fun y hy => List.mem_cons_of_mem _ hy)).trans (h1.mono (by simp))

set_option maxHeartbeats 1600000 in
set_option maxRecDepth 100000 in
theorem raise_calls (p : Nat) (O : List Nat) (C : Ct) (hok : C.Ok) (x : Int) (x0 : 0 ≤ x) (x1 : x < 256) (w : World) (hC : PC w p O C) :
    Calls Try.prog 26 #[.pointer (some ⟨p, 0, none⟩), .int .u8 x] w fun e w' => e = .returned (.int .i64 (raiseE C x)) ∧ (∃ O', PC w' p O' (raiseS C x) ∧ Sub w O O') ∧ Fr (p :: O) w w' := by
  have HC := Lib.hid hC
  obtain ⟨qv, av, qo, ao, a, cap, rfl, rfl, h⟩ := hC.form
  have c6 : w.cell? ⟨p, 264, none⟩ = some (.slice a C.queue.length cap) := h.blk.cell 264 (by omega)
  have y6 := h.blk.frozen 264
  have hql := hok.ql
  have H := Lib.hid h
  have hps := h.blk.lt
  clear h hC
  by_cases hx : x = 0
  · have he : raiseE C x = 1 := by unfold raiseE; rw [if_pos hx]
    have hs : raiseS C x = C := by unfold raiseS; rw [he, if_neg (by decide)]
    rw [he, hs]
    subst hx
    clear he hs
    go_enter Try.func26, Try.ntmps26
    go_wp2_with fail
    go_ret
    exact ⟨rfl, ⟨_, HC.out, Sub.refl _ _⟩, Fr.refl _ _⟩
  · have hxb : (x == 0) = false := by simp [hx]
    by_cases hl : 16 ≤ C.queue.length
    · have he : raiseE C x = 8 := by unfold raiseE; rw [if_neg hx, if_pos hl]
      have hs : raiseS C x = C := by unfold raiseS; rw [he, if_neg (by decide)]
      have hlb : decide ((16 : Int) ≤ (C.queue.length : Int)) = true := decide_eq_true (by omega)
      rw [he, hs]
      clear he hs
      go_enter Try.func26, Try.ntmps26
      go_wp2_with fail
      go_ret
      exact ⟨rfl, ⟨_, HC.out, Sub.refl _ _⟩, Fr.refl _ _⟩
    · have he : raiseE C x = 0 := by unfold raiseE; rw [if_neg hx, if_neg hl]
      have hs : raiseS C x = { C with queue := C.queue ++ [x] } := by unfold raiseS; rw [he, if_pos rfl]
      have hlb : decide ((16 : Int) ≤ (C.queue.length : Int)) = false := decide_eq_false (by omega)
      rw [he]
      have Hs := Lib.hid hs
      clear he hs
      go_enter Try.func26, Try.ntmps26
      go_wp2_with (at_builtin; go_loud (refine wpList_append_sl rfl (.tmp 19) (.tmp 21) 29 rfl 5 (.int .u8 0) 1 Try.underlying29 info5 rfl (xs := bytes C.queue) (ov := qo) (by rfl) (by rfl) (by exact H.out.q.keep (S := []) ((Fr.refl _ _).alloc _) (by simp)) (src_one _ (.int .u8 x) rfl (heap_alloc_new _ _)) (by simp [bytes_len]; omega) (by simp [bytes_len]; omega) ?_; intro v1 w1 o1 hs1 hf1 ho1; have hF1 : Fr qo w w1 := Fr.trans ((Fr.refl _ _).alloc _) hf1; have hB1 := Lib.hid (H.out.blk.keep hF1 H.out.notp.1); have hO1 : Hid (Sub w qo o1) := Lib.hid (fun y hy => (ho1 y hy).imp id (fun h => by simp at h; omega)); clear ho1; have c6' : w1.cell? ⟨p, 264, none⟩ = some (.slice a C.queue.length cap) := hB1.out.cell 264 (by omega); have y6' := hB1.out.frozen 264; obtain ⟨a1, cap1, hv1, hl1, hm1⟩ := hs1.form; rw [show (bytes C.queue ++ [Value.int IntKind.u8 x]).length = C.queue.length + 1 by simp [bytes_len]] at hv1 hl1; subst hv1; have Hs1 := Lib.hid hs1; clear hs1))
      go_ret
      obtain ⟨O', h1, h2, h3⟩ := H.out.push hF1 Hs1.out hO1.out
      exact ⟨rfl, ⟨O', by rw [Hs.out]; exact h1, h2⟩, h3⟩
set_option maxHeartbeats 1600000 in
set_option maxRecDepth 100000 in
theorem rraise_calls (p : Nat) (O : List Nat) (C : Ct) (hok : C.Ok) (x : Int) (x0 : 0 ≤ x) (x1 : x < 256) (w : World) (hC : RC w p O C) :
    Calls Try.prog 27 #[.pointer (some ⟨p, 0, none⟩), .int .u8 x] w fun e w' => e = .returned (.int .i64 (raiseE C x)) ∧ (∃ O', RC w' p O' (raiseS C x) ∧ Sub w O O') ∧ Fr (p :: O) w w' := by
  have HC := Lib.hid hC
  obtain ⟨qv, h⟩ := hC
  obtain ⟨a, cap, rfl⟩ := h.form
  have c6 : w.cell? ⟨p, 264, none⟩ = some (.slice a C.queue.length cap) := h.blk.cell 264 (by omega)
  have y6 := h.blk.frozen 264
  have hql := hok.ql
  have H := Lib.hid h
  have hps := h.blk.lt
  clear h
  by_cases hx : x = 0
  · have he : raiseE C x = 1 := by unfold raiseE; rw [if_pos hx]
    have hs : raiseS C x = C := by unfold raiseS; rw [he, if_neg (by decide)]
    rw [he, hs]
    subst hx
    clear he hs
    go_enter Try.func27, Try.ntmps27
    go_wp2_with fail
    go_ret
    exact ⟨rfl, ⟨_, HC.out, Sub.refl _ _⟩, Fr.refl _ _⟩
  · have hxb : (x == 0) = false := by simp [hx]
    by_cases hl : 16 ≤ C.queue.length
    · have he : raiseE C x = 8 := by unfold raiseE; rw [if_neg hx, if_pos hl]
      have hs : raiseS C x = C := by unfold raiseS; rw [he, if_neg (by decide)]
      have hlb : decide ((16 : Int) ≤ (C.queue.length : Int)) = true := decide_eq_true (by omega)
      rw [he, hs]
      clear he hs
      go_enter Try.func27, Try.ntmps27
      go_wp2_with fail
      go_ret
      exact ⟨rfl, ⟨_, HC.out, Sub.refl _ _⟩, Fr.refl _ _⟩
    · have he : raiseE C x = 0 := by unfold raiseE; rw [if_neg hx, if_neg hl]
      have hs : raiseS C x = { C with queue := C.queue ++ [x] } := by unfold raiseS; rw [he, if_pos rfl]
      have hlb : decide ((16 : Int) ≤ (C.queue.length : Int)) = false := decide_eq_false (by omega)
      rw [he]
      have Hs := Lib.hid hs
      clear he hs
      go_enter Try.func27, Try.ntmps27
      go_wp2_with (at_builtin; first
        | (refine wpList_append_sl rfl (.tmp 20) (.tmp 22) 29 rfl 5 (.int .u8 0) 1 Try.underlying29 info5 rfl (xs := bytes C.queue) (ov := o1) (by rfl) (by rfl) (Hs1.out.keep (S := []) ((Fr.refl _ _).alloc _) (by simp)) (src_one _ (.int .u8 x) rfl (heap_alloc_new _ _)) (by simp [bytes_len]; omega) (by simp [bytes_len]; omega) ?_; intro v2 w2 o2 hs2 hf2 ho2; have hF2 : Fr [] w w2 := (hF1.out.trans ((Fr.refl _ _).alloc _)).new hf2 (fun y hy => .inr (hO1.out y hy)); have hF2' : Fr O w w2 := hF2.mono (by simp); have hB2 := Lib.hid (H.out.blk.keep hF2' H.out.notp); have hO2 : Hid (Sub w O o2) := Lib.hid (fun y hy => .inr (by rcases ho2 y hy with h | h; exact hO1.out y h; have := hF1.out.size; simp at h; omega)); clear ho2; have c6' : w2.cell? ⟨p, 264, none⟩ = some (.slice a C.queue.length cap) := hB2.out.cell 264 (by omega); have y6' := hB2.out.frozen 264; obtain ⟨a2, cap2, hv2, hl2, hm2⟩ := hs2.form; rw [show (bytes C.queue ++ [Value.int IntKind.u8 x]).length = C.queue.length + 1 by simp [bytes_len]] at hv2 hl2; subst hv2; have Hs2 := Lib.hid hs2; clear hs2)
        | (refine wpList_append_sl rfl (.const (.slice none 0 0)) (.tmp 19) 29 rfl 5 (.int .u8 0) 1 Try.underlying29 info5 rfl (xs := []) (ov := []) (news := bytes C.queue) (by rfl) (by rfl) (SL.nil _ _) (by exact H.out.q.src (bytes_one _)) (by simp [bytes_len]; omega) (by simp [bytes_len]; omega) ?_; intro v1 w1 o1 hs1 hf1 ho1; have hF1 : Hid (Fr [] w w1) := Lib.hid hf1; have hO1 : Hid (∀ y, y ∈ o1 → w.heap.size ≤ y) := Lib.hid (fun y hy => by rcases ho1 y hy with h | h; simp at h; exact h); clear ho1; rw [List.nil_append] at hs1; have c6' : w1.cell? ⟨p, 264, none⟩ = some (.slice a C.queue.length cap) := (H.out.blk.keep hf1 (by simp)).cell 264 (by omega); have y6' := (H.out.blk.keep hf1 (by simp)).frozen 264; obtain ⟨a1, cap1, hv1, hl1, hm1⟩ := hs1.form; rw [bytes_len] at hv1 hl1; subst hv1; have Hs1 := Lib.hid (show SL w1 5 (.slice a1 C.queue.length cap1) o1 (bytes C.queue) by exact hs1); clear hs1 hf1))
      go_ret
      obtain ⟨O', h1, h2, h3⟩ := H.out.push hF2' Hs2.out hO2.out
      exact ⟨rfl, ⟨O', by rw [Hs.out]; exact h1, h2⟩, h3⟩
end Go.Proofs.Ytbcgcbogcofbjaa.Ec
