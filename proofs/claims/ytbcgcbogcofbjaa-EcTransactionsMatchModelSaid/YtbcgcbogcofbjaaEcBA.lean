import Derived.Test.YtbcgcbogcofbjaaEcM
import Derived.Test.YtbcgcbogcofbjaaEcK
namespace Go.Proofs.Ytbcgcbogcofbjaa.Ec
open Go.RowKit Go.Proofs.Ytbcgcbogcofbjaa.G
set_option linter.unusedVariables false
set_option linter.unusedSimpArgs false
attribute [local go_sem ↓] Go.wp_at_zero Go.wp_at_succ

/-! ### A transaction of the reference, read as the program's state -/
def phR (x : Int) : Int := if x = 3 then 4 else if x = 4 then 3 else x
def rtv (T : Tr) (s n : Int) : List Value := [.int .u8 T.cmd, .int .u8 T.addr, .int .u8 T.v, .int .u64 s, .int .u64 n, .int .i64 (phR T.ph), .int .u8 T.res, .int .i64 T.e]
def XB (w : World) (q : Nat) (cs : List Value) : Prop := ∃ c : Array Value, w.heap[q]? = some (.cells c 77 (0, 0)) ∧ c.toList = cs
theorem XB.keep {S : List Nat} {w w' : World} {q : Nat} {cs : List Value} (h : XB w q cs) (hf : Fr S w w') (hS : q ∉ S) : XB w' q cs := by
  obtain ⟨c, h1, h2⟩ := h
  exact ⟨c, hf.atS h1 hS, h2⟩
theorem XB.cell {w : World} {q : Nat} {cs : List Value} (h : XB w q cs) (j : Nat) : w.cell? ⟨q, j, none⟩ = cs[j]? := by
  obtain ⟨c, h1, rfl⟩ := h
  rw [cellB h1 j, ← Array.getElem?_toList]
theorem XB.frozen {w : World} {q : Nat} {cs : List Value} (h : XB w q cs) (j : Nat) : w.frozen? ⟨q, j, none⟩ = false := by
  obtain ⟨c, h1, _⟩ := h
  exact frozenB h1 j
theorem XB.set {w : World} {q : Nat} {cs cs' : List Value} (h : XB w q cs) (j : Nat) (v : Value) (e : cs' = cs.set j v) : XB (w.setCell ⟨q, j, none⟩ v) q cs' := by
  obtain ⟨c, h1, rfl⟩ := h
  exact ⟨_, setB h1 j v, by rw [Array.toList_setIfInBounds, e]⟩
theorem XB.lt {w : World} {q : Nat} {cs : List Value} (h : XB w q cs) : q < w.heap.size := by
  obtain ⟨c, h1, _⟩ := h
  exact lt_of_heap h1
theorem RC.typed' {w : World} {p : Nat} {O : List Nat} {C : Ct} (h : RC w p O C) : ∃ cs, w.heap[p]? = some (.cells cs 72 (0, 0)) := by
  obtain ⟨qv, h⟩ := h
  exact h.blk.typed
theorem RC.typedO' {w : World} {p : Nat} {O : List Nat} {C : Ct} (h : RC w p O C) {x : Nat} (hx : x ∈ O) : ∃ cs, w.heap[x]? = some (.cells cs 5 (0, 0)) := by
  obtain ⟨qv, h⟩ := h
  exact h.q.typed hx
/-- The reference's controller and one transaction. -/
structure RX (w : World) (q p : Nat) (O : List Nat) (C : Ct) (cs : List Value) : Prop where
  c : RC w p O C
  t : XB w q cs
section
variable {w w' : World} {q p : Nat} {O : List Nat} {C C' : Ct} {cs cs' : List Value}
theorem RX.ne (h : RX w q p O C cs) : q ≠ p := by
  obtain ⟨c, h1, _⟩ := h.t
  obtain ⟨d, h2⟩ := h.c.typed'
  exact ne_of_type h1 h2 (by decide)
theorem RX.notin (h : RX w q p O C cs) : q ∉ O := fun hx => by
  obtain ⟨c, h1, _⟩ := h.t
  obtain ⟨d, h2⟩ := h.c.typedO' hx
  exact ne_of_type h1 h2 (by decide) rfl
theorem RX.step (h : RX w q p O C cs) (hC : RC w' p O C') (hf : Fr [p] w w') : RX w' q p O C' cs :=
  ⟨hC, h.t.keep hf (by simpa using h.ne)⟩
theorem RX.set (h : RX w q p O C cs) (j : Nat) (v : Value) (e : cs' = cs.set j v) : RX (w.setCell ⟨q, j, none⟩ v) q p O C cs' :=
  ⟨h.c.keep (S := [q]) ((Fr.refl _ _).setCell (Or.inl (by simp)) _) (by simpa using h.ne.symm) (fun x hx hx2 => h.notin (by simp at hx2; subst hx2; exact hx)), h.t.set j v e⟩
theorem RX.keep {S : List Nat} (h : RX w q p O C cs) (hf : Fr S w w') (hq : q ∉ S) (hp : p ∉ S) (hO : ∀ x, x ∈ O → x ∉ S) : RX w' q p O C cs := ⟨h.c.keep hf hp hO, h.t.keep hf hq⟩
end
theorem fqp {q p : Nat} {w w' w2 : World} (h : Fr [q, p] w w') (k : Fr [p] w' w2) : Fr [q, p] w w2 := h.trans (k.mono (by simp))
theorem fq2 {q p : Nat} {w w' : World} (h : Fr [q, p] w w') (j : Nat) (v : Value) : Fr [q, p] w (w'.setCell ⟨q, j, none⟩ v) := h.setCell (Or.inl (by simp)) _

set_option maxHeartbeats 1600000 in
set_option maxRecDepth 100000 in
theorem rRead_calls (x s n : Int) (w : World) :
    Calls Try.prog 33 #[.int .u8 x, .int .u64 s, .int .u64 n] w fun e w' => e = .returned (.pointer (some ⟨w.heap.size, 0, none⟩)) ∧ XB w' w.heap.size (rtv ⟨128, x, 0, after s n, 0, 0, 0⟩ s n) ∧ Fr [] w w' ∧ w.heap.size < w'.heap.size := by
  go_enter Try.func33, Try.ntmps33
  go_wp2_with fail
  go_ret
  exact ⟨rfl, ⟨_, heap_alloc_new _ _, rfl⟩, (Fr.refl _ _).alloc _, lt_of_heap (heap_alloc_new _ _)⟩
set_option maxHeartbeats 1600000 in
set_option maxRecDepth 100000 in
theorem rWrite_calls (x v s n : Int) (w : World) :
    Calls Try.prog 34 #[.int .u8 x, .int .u8 v, .int .u64 s, .int .u64 n] w fun e w' => e = .returned (.pointer (some ⟨w.heap.size, 0, none⟩)) ∧ XB w' w.heap.size (rtv ⟨129, x, v, after s n, 0, 0, 0⟩ s n) ∧ Fr [] w w' ∧ w.heap.size < w'.heap.size := by
  go_enter Try.func34, Try.ntmps34
  go_wp2_with fail
  go_ret
  exact ⟨rfl, ⟨_, heap_alloc_new _ _, rfl⟩, (Fr.refl _ _).alloc _, lt_of_heap (heap_alloc_new _ _)⟩
set_option maxHeartbeats 1600000 in
set_option maxRecDepth 100000 in
theorem rQuery_calls (s n : Int) (w : World) :
    Calls Try.prog 35 #[.int .u64 s, .int .u64 n] w fun e w' => e = .returned (.pointer (some ⟨w.heap.size, 0, none⟩)) ∧ XB w' w.heap.size (rtv ⟨132, 0, 0, after s n, 0, 0, 0⟩ s n) ∧ Fr [] w w' ∧ w.heap.size < w'.heap.size := by
  go_enter Try.func35, Try.ntmps35
  go_wp2_with fail
  go_ret
  exact ⟨rfl, ⟨_, heap_alloc_new _ _, rfl⟩, (Fr.refl _ _).alloc _, lt_of_heap (heap_alloc_new _ _)⟩
def nextV (ph cmd : Int) : Int := if ph = 0 then (if cmd = 132 then 3 else 1) else if ph = 1 then (if cmd = 129 then 2 else 3) else 4
set_option maxHeartbeats 1600000 in
set_option maxRecDepth 100000 in
theorem next_calls (q : Nat) (ph cmd : Int) (h0 : 0 ≤ ph) (h2 : ph ≤ 2) (w : World) (c0 : w.cell? ⟨q, 0, none⟩ = some (.int .u8 cmd)) (c5 : w.cell? ⟨q, 5, none⟩ = some (.int .i64 ph)) :
    Calls Try.prog 48 #[.pointer (some ⟨q, 0, none⟩)] w fun e w' => e = .returned (.int .i64 (nextV ph cmd)) ∧ w' = w := by
  have hph : ph = 0 ∨ ph = 1 ∨ ph = 2 := by omega
  rcases hph with rfl | rfl | rfl
  · by_cases hc : cmd = 132
    · have hn : nextV 0 cmd = 3 := by unfold nextV; rw [if_pos rfl, if_pos hc]
      rw [hn]
      have hb : (cmd != 132) = false := by simp [hc]
      clear hn hc
      go_enter Try.func48, Try.ntmps48
      go_wp2_with fail
      go_ret
      exact ⟨rfl, rfl⟩
    · have hn : nextV 0 cmd = 1 := by unfold nextV; rw [if_pos rfl, if_neg hc]
      rw [hn]
      have hb : (cmd != 132) = true := by simp [hc]
      clear hn
      go_enter Try.func48, Try.ntmps48
      go_wp2_with fail
      go_ret
      exact ⟨rfl, rfl⟩
  · by_cases hc : cmd = 129
    · have hn : nextV 1 cmd = 2 := by unfold nextV; rw [if_neg (by omega), if_pos rfl, if_pos hc]
      rw [hn]
      have hb : (cmd == 129) = true := by simp [hc]
      clear hn hc
      go_enter Try.func48, Try.ntmps48
      go_wp2_with fail
      go_ret
      exact ⟨rfl, rfl⟩
    · have hn : nextV 1 cmd = 3 := by unfold nextV; rw [if_neg (by omega), if_pos rfl, if_neg hc]
      rw [hn]
      have hb : (cmd == 129) = false := by simp [hc]
      clear hn
      go_enter Try.func48, Try.ntmps48
      go_wp2_with fail
      go_ret
      exact ⟨rfl, rfl⟩
  · have hn : nextV 2 cmd = 4 := rfl
    rw [hn]
    clear hn
    go_enter Try.func48, Try.ntmps48
    go_wp2_with fail
    go_ret
    exact ⟨rfl, rfl⟩
theorem phR_0 : phR 0 = 0 := rfl
theorem phR_1 : phR 1 = 1 := rfl
theorem phR_2 : phR 2 = 2 := rfl
theorem phR_3 : phR 3 = 4 := rfl
theorem phR_4 : phR 4 = 3 := rfl
theorem next0 {T : Tr} : phR (if T.cmd = 132 then 4 else 1) = nextV 0 T.cmd := by unfold nextV; rw [if_pos rfl]; split <;> rfl
theorem next1 {T : Tr} (hc : T.cmd = 128 ∨ T.cmd = 129) : phR (if T.cmd = 128 then 4 else 2) = nextV 1 T.cmd := by
  unfold nextV; rw [if_neg (by decide : ¬ (1 : Int) = 0), if_pos rfl]
  rcases hc with h | h
  · rw [if_pos h, if_neg (show ¬ T.cmd = 129 by omega)]; rfl
  · rw [if_neg (show ¬ T.cmd = 128 by omega), if_pos h]; rfl

set_option maxHeartbeats 3200000 in
set_option maxRecDepth 100000 in
theorem ract_calls (q p : Nat) (O : List Nat) (s : St) (hT : s.T.Ok) (hinv : s.T.cmd = 132 → s.T.ph ≠ 1) (h5 : s.T.ph ≠ 5) (hok : s.C.Ok) (t : Int) (t0 : 0 ≤ t) (t1 : t < 18446744073709551616) (a b : Int) (w : World) (h : RX w q p O s.C (rtv s.T a b)) :
    Calls Try.prog 43 #[.pointer (some ⟨q, 0, none⟩), .pointer (some ⟨p, 0, none⟩), .int .u64 t] w fun e w' => e = .returned (.bool (actB s t)) ∧ RX w' q p O (actS s t).C (rtv (actS s t).T a b) ∧ Fr [q, p] w w' := by
  have hst := Lib.hid (rstatus_calls p O s.C hok t t0 t1 w h.c)
  have HP := Lib.hid h
  have hokA := adv_ok hok t0 t1
  have hS : actS s t = if (s.C.adv t).busy = true then ⟨s.T, s.C.adv t⟩
    else if s.T.ph = 0 then
      if (s.C.adv t).full = true then ⟨s.T, readS ((s.C.adv t).adv t)⟩
      else ⟨{ s.T with ph := if s.T.cmd = 132 then 4 else 1 }, writeS (s.C.adv t) t s.T.cmd true⟩
    else if s.T.ph = 1 then ⟨{ s.T with ph := if s.T.cmd = 128 then 4 else 2 }, writeS (s.C.adv t) t s.T.addr false⟩
    else if s.T.ph = 2 then ⟨{ s.T with ph := 3 }, writeS (s.C.adv t) t s.T.v false⟩
    else if s.T.ph = 3 then ⟨{ s.T with ph := 5 }, s.C.adv t⟩
    else if s.T.ph = 4 then
      if (s.C.adv t).full = true then ⟨{ s.T with ph := 5, res := readV ((s.C.adv t).adv t) }, readS ((s.C.adv t).adv t)⟩
      else ⟨s.T, s.C.adv t⟩
    else ⟨s.T, s.C.adv t⟩ := rfl
  have hB : actB s t = (!(s.C.adv t).busy && decide (s.T.ph ≤ 2)) := rfl
  generalize s.C.adv t = D at *
  have HS := Lib.hid hS
  have HB := Lib.hid hB
  have HT := Lib.hid hT
  have HI := Lib.hid hinv
  have H5 := Lib.hid h5
  have HokA := Lib.hid hokA
  have hsv : statusV D = bitS D.full 1 + bitS D.busy 2 + bitS (!D.queue.isEmpty) 32 := rfl
  have HSV := Lib.hid hsv
  generalize actS s t = S' at *
  generalize actB s t = B' at *
  clear hS hB hT hokA hsv h hok hinv h5
  go_enter Try.func43, Try.ntmps43
  go_wp2_with fail
  refine hst.out.mono ?_
  rintro e w2 ⟨rfl, hC2, hf2⟩
  have hP2 := HP.out.step hC2 hf2
  have HP2 := Lib.hid hP2
  have HF2 : Hid (Fr [q, p] w w2) := Lib.hid (hf2.mono (by simp))
  clear hst HP hC2 hf2
  obtain ⟨x, hx⟩ : ∃ x, statusV D = x := ⟨_, rfl⟩
  have Hx := Lib.hid (hx.symm.trans HSV.out)
  rw [hx]
  clear hx HSV
  have d0 : w2.cell? ⟨q, 0, none⟩ = some (.int .u8 s.T.cmd) := hP2.t.cell 0
  have d1 : w2.cell? ⟨q, 1, none⟩ = some (.int .u8 s.T.addr) := hP2.t.cell 1
  have d2 : w2.cell? ⟨q, 2, none⟩ = some (.int .u8 s.T.v) := hP2.t.cell 2
  have d5 : w2.cell? ⟨q, 5, none⟩ = some (.int .i64 (phR s.T.ph)) := hP2.t.cell 5
  have z5 := hP2.t.frozen 5
  have z6 := hP2.t.frozen 6
  clear hP2
  obtain ⟨fb, hfb⟩ : ∃ b, D.full = b := ⟨_, rfl⟩
  obtain ⟨bb, hbb⟩ : ∃ b, D.busy = b := ⟨_, rfl⟩
  obtain ⟨nb, hnb⟩ : ∃ b, (!D.queue.isEmpty) = b := ⟨_, rfl⟩
  rw [hfb, hbb, hnb] at Hx
  rw [hfb, hbb] at HS
  rw [hbb] at HB
  clear hfb hbb hnb
  cases bb
  · have Hs0 := HS.out.trans (if_neg (by decide))
    have hph : s.T.ph = 0 ∨ s.T.ph = 1 ∨ s.T.ph = 2 ∨ s.T.ph = 3 ∨ s.T.ph = 4 := by
      have := HT.out.p0
      have := HT.out.p5
      have := H5.out
      omega
    clear HS
    rcases hph with hph | hph | hph | hph | hph
    · have Hph := Lib.hid hph
      have Hb : Hid (B' = true) := Lib.hid (by rw [HB.out]; simp [hph])
      rw [if_pos hph] at Hs0
      rw [hph] at d5
      clear hph HB
      cases fb
      · rw [if_neg (by decide)] at Hs0
        have Hs := Lib.hid Hs0
        clear Hs0
        cases nb
        all_goals
          have hx := Hx.out
          simp [bitS] at hx
          subst hx
          rw [phR_0] at d5
          go_wp2_with fail
          refine (rwriteCommand_calls p O D HokA.out t t0 t1 s.T.cmd w2 HP2.out.c).mono ?_
          rintro e w3 ⟨rfl, hC3, hf3⟩
          have hP3 := HP2.out.step hC3 hf3
          have HF3 : Hid (Fr [q, p] w w3) := Lib.hid (fqp HF2.out hf3)
          have e0 : w3.cell? ⟨q, 0, none⟩ = some (.int .u8 s.T.cmd) := hP3.t.cell 0
          have e5 : w3.cell? ⟨q, 5, none⟩ = some (.int .i64 (phR s.T.ph)) := hP3.t.cell 5
          have e6 : w3.cell? ⟨q, 6, none⟩ = some (.int .u8 s.T.res) := hP3.t.cell 6
          have x5 := hP3.t.frozen 5
          have x6 := hP3.t.frozen 6
          rw [Hph.out] at e5
          have HP3 := Lib.hid hP3
          clear hP3 hC3 hf3 d0 d1 d2 d5 z5 z6
          rw [phR_0] at e5
          go_wp2_with fail
          refine (next_calls q 0 s.T.cmd (by omega) (by omega) w3 e0 e5).mono ?_
          rintro e w4 ⟨rfl, rfl⟩
          have HN : Hid (phR (if s.T.cmd = 132 then 4 else 1) = nextV 0 s.T.cmd) := Lib.hid (next0)
          generalize nextV 0 s.T.cmd = nv at *
          go_wp2_with fail
          go_ret
          exact ⟨by rw [Hb.out]; rfl, by rw [Hs.out]; exact HP3.out.set 5 _ (by rw [← HN.out]; rfl), fq2 HF3.out _ _⟩
      · rw [if_pos rfl] at Hs0
        have Hs := Lib.hid Hs0
        clear Hs0
        cases nb
        all_goals
          have hx := Hx.out
          simp [bitS] at hx
          subst hx
          rw [phR_0] at d5
          go_wp2_with fail
          refine (rreadData_calls p O D HokA.out t t0 t1 w2 HP2.out.c).mono ?_
          rintro e w3 ⟨rfl, hC3, hf3⟩
          have hP3 := HP2.out.step hC3 hf3
          have HF3 : Hid (Fr [q, p] w w3) := Lib.hid (fqp HF2.out hf3)
          have e0 : w3.cell? ⟨q, 0, none⟩ = some (.int .u8 s.T.cmd) := hP3.t.cell 0
          have e5 : w3.cell? ⟨q, 5, none⟩ = some (.int .i64 (phR s.T.ph)) := hP3.t.cell 5
          have e6 : w3.cell? ⟨q, 6, none⟩ = some (.int .u8 s.T.res) := hP3.t.cell 6
          have x5 := hP3.t.frozen 5
          have x6 := hP3.t.frozen 6
          rw [Hph.out] at e5
          have HP3 := Lib.hid hP3
          clear hP3 hC3 hf3 d0 d1 d2 d5 z5 z6
          go_wp2_with fail
          go_ret
          exact ⟨by rw [Hb.out]; rfl, by rw [Hs.out]; exact HP3.out, HF3.out⟩
    · have Hph := Lib.hid hph
      have Hb : Hid (B' = true) := Lib.hid (by rw [HB.out]; simp [hph])
      rw [if_neg (by omega)] at Hs0
      rw [if_pos hph] at Hs0
      rw [hph] at d5
      clear hph HB
      have Hs := Lib.hid Hs0
      clear Hs0
      cases fb <;> cases nb
      all_goals
        have hx := Hx.out
        simp [bitS] at hx
        subst hx
        rw [phR_1] at d5
        go_wp2_with fail
        refine (rwriteData_calls p O D HokA.out t t0 t1 s.T.addr w2 HP2.out.c).mono ?_
        rintro e w3 ⟨rfl, hC3, hf3⟩
        have hP3 := HP2.out.step hC3 hf3
        have HF3 : Hid (Fr [q, p] w w3) := Lib.hid (fqp HF2.out hf3)
        have e0 : w3.cell? ⟨q, 0, none⟩ = some (.int .u8 s.T.cmd) := hP3.t.cell 0
        have e5 : w3.cell? ⟨q, 5, none⟩ = some (.int .i64 (phR s.T.ph)) := hP3.t.cell 5
        have e6 : w3.cell? ⟨q, 6, none⟩ = some (.int .u8 s.T.res) := hP3.t.cell 6
        have x5 := hP3.t.frozen 5
        have x6 := hP3.t.frozen 6
        rw [Hph.out] at e5
        have HP3 := Lib.hid hP3
        clear hP3 hC3 hf3 d0 d1 d2 d5 z5 z6
        rw [phR_1] at e5
        go_wp2_with fail
        refine (next_calls q 1 s.T.cmd (by omega) (by omega) w3 e0 e5).mono ?_
        rintro e w4 ⟨rfl, rfl⟩
        have HN : Hid (phR (if s.T.cmd = 128 then 4 else 2) = nextV 1 s.T.cmd) := Lib.hid (next1 (by rcases HT.out.cmd with h | h | h; exact .inl h; exact .inr h; exact absurd Hph.out (HI.out h)))
        generalize nextV 1 s.T.cmd = nv at *
        go_wp2_with fail
        go_ret
        exact ⟨by rw [Hb.out]; rfl, by rw [Hs.out]; exact HP3.out.set 5 _ (by rw [← HN.out]; rfl), fq2 HF3.out _ _⟩
    · have Hph := Lib.hid hph
      have Hb : Hid (B' = true) := Lib.hid (by rw [HB.out]; simp [hph])
      rw [if_neg (by omega)] at Hs0
      rw [if_neg (by omega)] at Hs0
      rw [if_pos hph] at Hs0
      rw [hph] at d5
      clear hph HB
      have Hs := Lib.hid Hs0
      clear Hs0
      cases fb <;> cases nb
      all_goals
        have hx := Hx.out
        simp [bitS] at hx
        subst hx
        rw [phR_2] at d5
        go_wp2_with fail
        refine (rwriteData_calls p O D HokA.out t t0 t1 s.T.v w2 HP2.out.c).mono ?_
        rintro e w3 ⟨rfl, hC3, hf3⟩
        have hP3 := HP2.out.step hC3 hf3
        have HF3 : Hid (Fr [q, p] w w3) := Lib.hid (fqp HF2.out hf3)
        have e0 : w3.cell? ⟨q, 0, none⟩ = some (.int .u8 s.T.cmd) := hP3.t.cell 0
        have e5 : w3.cell? ⟨q, 5, none⟩ = some (.int .i64 (phR s.T.ph)) := hP3.t.cell 5
        have e6 : w3.cell? ⟨q, 6, none⟩ = some (.int .u8 s.T.res) := hP3.t.cell 6
        have x5 := hP3.t.frozen 5
        have x6 := hP3.t.frozen 6
        rw [Hph.out] at e5
        have HP3 := Lib.hid hP3
        clear hP3 hC3 hf3 d0 d1 d2 d5 z5 z6
        rw [phR_2] at e5
        go_wp2_with fail
        refine (next_calls q 2 s.T.cmd (by omega) (by omega) w3 e0 e5).mono ?_
        rintro e w4 ⟨rfl, rfl⟩
        have HN : Hid (phR 3 = nextV 2 s.T.cmd) := Lib.hid (rfl)
        generalize nextV 2 s.T.cmd = nv at *
        go_wp2_with fail
        go_ret
        exact ⟨by rw [Hb.out]; rfl, by rw [Hs.out]; exact HP3.out.set 5 _ (by rw [← HN.out]; rfl), fq2 HF3.out _ _⟩
    · have Hph := Lib.hid hph
      have Hb : Hid (B' = false) := Lib.hid (by rw [HB.out]; simp [hph])
      rw [if_neg (by omega)] at Hs0
      rw [if_neg (by omega)] at Hs0
      rw [if_neg (by omega)] at Hs0
      rw [if_pos hph] at Hs0
      rw [hph] at d5
      clear hph HB
      have Hs := Lib.hid Hs0
      clear Hs0
      cases fb <;> cases nb
      all_goals
        have hx := Hx.out
        simp [bitS] at hx
        subst hx
        rw [phR_3] at d5
        go_wp2_with fail
        go_ret
        exact ⟨by rw [Hb.out]; rfl, by rw [Hs.out]; exact HP2.out.set 5 (.int .i64 5) rfl, fq2 HF2.out _ _⟩
    · have Hph := Lib.hid hph
      have Hb : Hid (B' = false) := Lib.hid (by rw [HB.out]; simp [hph])
      rw [if_neg (by omega)] at Hs0
      rw [if_neg (by omega)] at Hs0
      rw [if_neg (by omega)] at Hs0
      rw [if_neg (by omega)] at Hs0
      rw [if_pos hph] at Hs0
      rw [hph] at d5
      clear hph HB
      cases fb
      · rw [if_neg (by decide)] at Hs0
        have Hs := Lib.hid Hs0
        clear Hs0
        cases nb
        all_goals
          have hx := Hx.out
          simp [bitS] at hx
          subst hx
          rw [phR_4] at d5
          go_wp2_with fail
          go_ret
          exact ⟨by rw [Hb.out]; rfl, by rw [Hs.out]; exact HP2.out, HF2.out⟩
      · rw [if_pos rfl] at Hs0
        have Hs := Lib.hid Hs0
        clear Hs0
        obtain ⟨y, hy⟩ : ∃ y, readV (D.adv t) = y := ⟨_, rfl⟩
        have Hy := Lib.hid hy
        clear hy
        cases nb
        all_goals
          have hx := Hx.out
          simp [bitS] at hx
          subst hx
          rw [phR_4] at d5
          go_wp2_with fail
          refine (rreadData_calls p O D HokA.out t t0 t1 w2 HP2.out.c).mono ?_
          rintro e w3 ⟨rfl, hC3, hf3⟩
          have hP3 := HP2.out.step hC3 hf3
          have HF3 : Hid (Fr [q, p] w w3) := Lib.hid (fqp HF2.out hf3)
          have e0 : w3.cell? ⟨q, 0, none⟩ = some (.int .u8 s.T.cmd) := hP3.t.cell 0
          have e5 : w3.cell? ⟨q, 5, none⟩ = some (.int .i64 (phR s.T.ph)) := hP3.t.cell 5
          have e6 : w3.cell? ⟨q, 6, none⟩ = some (.int .u8 s.T.res) := hP3.t.cell 6
          have x5 := hP3.t.frozen 5
          have x6 := hP3.t.frozen 6
          rw [Hph.out] at e5
          have HP3 := Lib.hid hP3
          clear hP3 hC3 hf3 d0 d1 d2 d5 z5 z6
          go_wp2_with fail
          go_ret
          exact ⟨by rw [Hb.out]; rfl, by rw [Hs.out]; exact (HP3.out.set 6 (.int .u8 (readV (D.adv t))) rfl).set 5 (.int .i64 5) rfl, fq2 (fq2 HF3.out _ _) _ _⟩
  · have Hs : Hid (S' = ⟨s.T, D⟩) := Lib.hid (HS.out.trans (if_pos rfl))
    have Hb : Hid (B' = false) := HB
    clear HS HB
    cases fb <;> cases nb
    all_goals
      have hx := Hx.out
      simp [bitS] at hx
      subst hx
      go_wp2_with fail
      go_ret
      exact ⟨by rw [Hb.out]; rfl, by rw [Hs.out]; exact HP2.out, HF2.out⟩
end Go.Proofs.Ytbcgcbogcofbjaa.Ec
