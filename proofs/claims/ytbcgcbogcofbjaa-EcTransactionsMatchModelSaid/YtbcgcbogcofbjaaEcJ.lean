import Derived.Test.YtbcgcbogcofbjaaEcG
import Derived.Test.YtbcgcbogcofbjaaEcH
import Derived.Test.YtbcgcbogcofbjaaEcI
namespace Go.Proofs.Ytbcgcbogcofbjaa.Ec
open Go.RowKit Go.Proofs.Ytbcgcbogcofbjaa.G
set_option linter.unusedVariables false
set_option linter.unusedSimpArgs false
attribute [local go_sem ↓] Go.wp_at_zero Go.wp_at_succ

structure Tr.Ok (T : Tr) : Prop where
  p0 : 0 ≤ T.ph
  p5 : T.ph ≤ 5
  cmd : T.cmd = 128 ∨ T.cmd = 129 ∨ T.cmd = 132
  a : Byte T.addr
  v : Byte T.v
  r : Byte T.res
  d0 : 0 ≤ T.dl
  d1 : T.dl < 18446744073709551616
structure St where
  T : Tr
  C : Ct
def actS (s : St) (t : Int) : St :=
  if (s.C.adv t).busy = true then ⟨s.T, s.C.adv t⟩
  else if s.T.ph = 0 then
    if (s.C.adv t).full = true then ⟨s.T, readS ((s.C.adv t).adv t)⟩
    else ⟨{ s.T with ph := if s.T.cmd = 132 then 4 else 1 }, writeS (s.C.adv t) t s.T.cmd true⟩
  else if s.T.ph = 1 then ⟨{ s.T with ph := if s.T.cmd = 128 then 4 else 2 }, writeS (s.C.adv t) t s.T.addr false⟩
  else if s.T.ph = 2 then ⟨{ s.T with ph := 3 }, writeS (s.C.adv t) t s.T.v false⟩
  else if s.T.ph = 3 then ⟨{ s.T with ph := 5 }, s.C.adv t⟩
  else if s.T.ph = 4 then
    if (s.C.adv t).full = true then ⟨{ s.T with ph := 5, res := readV ((s.C.adv t).adv t) }, readS ((s.C.adv t).adv t)⟩
    else ⟨s.T, s.C.adv t⟩
  else ⟨s.T, s.C.adv t⟩
def actB (s : St) (t : Int) : Bool := !(s.C.adv t).busy && decide (s.T.ph ≤ 2)

theorem TB.keep {S : List Nat} {w w' : World} {t : Nat} {ty : TypeId} {T : Tr} (h : TB w t ty T) (hf : Fr S w w') (hS : t ∉ S) : TB w' t ty T := by
  obtain ⟨cs, h1, h2⟩ := h
  exact ⟨cs, hf.atS h1 hS, h2⟩
theorem TB.cell {w : World} {t : Nat} {ty : TypeId} {T : Tr} (h : TB w t ty T) (j : Nat) : w.cell? ⟨t, j, none⟩ = (trv T)[j]? := by
  obtain ⟨cs, h1, h2⟩ := h
  rw [cellB h1 j, ← Array.getElem?_toList, h2]
theorem TB.frozen {w : World} {t : Nat} {ty : TypeId} {T : Tr} (h : TB w t ty T) (j : Nat) : w.frozen? ⟨t, j, none⟩ = false := by
  obtain ⟨cs, h1, h2⟩ := h
  exact frozenB h1 j
theorem TB.set {w : World} {t : Nat} {ty : TypeId} {T T' : Tr} (h : TB w t ty T) (j : Nat) (v : Value) (e : trv T' = (trv T).set j v) : TB (w.setCell ⟨t, j, none⟩ v) t ty T' := by
  obtain ⟨cs, h1, h2⟩ := h
  exact ⟨_, setB h1 j v, by rw [Array.toList_setIfInBounds, h2, e]⟩
/-- The pair's memory. -/
structure PT (w : World) (q p : Nat) (O : List Nat) (s : St) : Prop where
  c : PC w p O s.C
  t : TB w q 69 s.T
theorem PC.typed {w : World} {p : Nat} {O : List Nat} {C : Ct} (h : PC w p O C) : ∃ cs, w.heap[p]? = some (.cells cs 66 (0, 0)) := by
  obtain ⟨qv, av, qo, ao, rfl, h⟩ := h
  exact h.blk.typed
theorem PC.typedO {w : World} {p : Nat} {O : List Nat} {C : Ct} (h : PC w p O C) {x : Nat} (hx : x ∈ O) : ∃ cs, w.heap[x]? = some (.cells cs 5 (0, 0)) := by
  obtain ⟨qv, av, qo, ao, rfl, h⟩ := h
  rcases List.mem_append.1 hx with hx | hx
  · exact h.q.typed hx
  · by_cases e : C.cmd = 129
    · exact (h.a e).typed hx
    · rw [h.az e] at hx; simp at hx
theorem TB.notin {w : World} {q p : Nat} {O : List Nat} {C : Ct} {T : Tr} (h : TB w q 69 T) (hC : PC w p O C) : q ∉ p :: O := fun hx => by
  obtain ⟨cs, h1, h2⟩ := h
  rcases List.mem_cons.1 hx with e | hx
  · obtain ⟨ds, hd⟩ := hC.typed
    exact ne_of_type h1 hd (by decide) e
  · obtain ⟨ds, hd⟩ := hC.typedO hx
    exact ne_of_type h1 hd (by decide) rfl
/-- A call upon the controller, as the pair sees it. -/
theorem PT.step {w w' : World} {q p : Nat} {O O' : List Nat} {s : St} {C' : Ct} (h : PT w q p O s) (hC : PC w' p O' C') (hs : Sub w O O') (hf : Fr (p :: O) w w') : PT w' q p O' ⟨s.T, C'⟩ := ⟨hC, h.t.keep hf (h.t.notin h.c)⟩
theorem PT.frame {w w' : World} {q p : Nat} {O : List Nat} (hf : Fr (p :: O) w w') : Fr (q :: p :: O) w w' := hf.mono (fun x hx => List.mem_cons_of_mem _ hx)
theorem PT.set {w : World} {q p : Nat} {O : List Nat} {s : St} (h : PT w q p O s) (j : Nat) (v : Value) {T' : Tr} (e : trv T' = (trv s.T).set j v) : PT (w.setCell ⟨q, j, none⟩ v) q p O ⟨T', s.C⟩ :=
  ⟨h.c.keep (S := [q]) ((Fr.refl _ _).setCell (Or.inl (by simp)) _) (fun hx => h.t.notin h.c (by simp at hx; subst hx; simp)) (fun x hx hx2 => h.t.notin h.c (by simp at hx2; subst hx2; exact List.mem_cons_of_mem _ hx)), h.t.set j v e⟩
theorem Fr.step2 {q p : Nat} {O O' : List Nat} {w w' w2 : World} (h : Fr (q :: p :: O) w w') (hs : Sub w O O') (k : Fr (q :: p :: O') w' w2) : Fr (q :: p :: O) w w2 :=
  h.new k (fun x hx => by
    rcases List.mem_cons.1 hx with rfl | hx
    · exact .inl (by simp)
    rcases List.mem_cons.1 hx with rfl | hx
    · exact .inl (by simp)
    · rcases hs x hx with h1 | h1
      · exact .inl (List.mem_cons_of_mem _ (List.mem_cons_of_mem _ h1))
      · exact .inr h1)
theorem status_bits (D : Ct) : 0 ≤ statusV D ∧ statusV D < 256 := by
  unfold statusV bitS
  split <;> split <;> split <;> omega
theorem act_ok {s : St} (hT : s.T.Ok) (hC : s.C.Ok) {t : Int} (t0 : 0 ≤ t) (t1 : t < 18446744073709551616) : (actS s t).T.Ok ∧ (actS s t).C.Ok := by
  have hA := adv_ok hC t0 t1
  have hAA := adv_ok hA t0 t1
  unfold actS
  have hcmd : Byte s.T.cmd := by rcases hT.cmd with h | h | h <;> rw [h] <;> exact ⟨by omega, by omega⟩
  split
  · exact ⟨hT, hA⟩
  · split
    · split
      · exact ⟨hT, read_ok hAA⟩
      · exact ⟨⟨by show 0 ≤ (if _ then (4 : Int) else 1); split <;> omega, by show (if _ then (4 : Int) else 1) ≤ 5; split <;> omega, hT.cmd, hT.a, hT.v, hT.r, hT.d0, hT.d1⟩, write_ok hA t0 t1 hcmd true⟩
    · split
      · exact ⟨⟨by show 0 ≤ (if _ then (4 : Int) else 2); split <;> omega, by show (if _ then (4 : Int) else 2) ≤ 5; split <;> omega, hT.cmd, hT.a, hT.v, hT.r, hT.d0, hT.d1⟩, write_ok hA t0 t1 hT.a false⟩
      · split
        · exact ⟨⟨by show (0 : Int) ≤ 3; omega, by show (3 : Int) ≤ 5; omega, hT.cmd, hT.a, hT.v, hT.r, hT.d0, hT.d1⟩, write_ok hA t0 t1 hT.v false⟩
        · split
          · exact ⟨⟨by show (0 : Int) ≤ 5; omega, by show (5 : Int) ≤ 5; omega, hT.cmd, hT.a, hT.v, hT.r, hT.d0, hT.d1⟩, hA⟩
          · split
            · split
              · refine ⟨⟨by show (0 : Int) ≤ 5; omega, by show (5 : Int) ≤ 5; omega, hT.cmd, hT.a, hT.v, ?_, hT.d0, hT.d1⟩, read_ok hAA⟩
                show Byte (readV _)
                unfold readV; split
                · exact hAA.o
                · exact byte0
              · exact ⟨hT, hA⟩
            · exact ⟨hT, hA⟩

set_option maxHeartbeats 3200000 in
set_option maxRecDepth 100000 in
theorem act_calls (q p : Nat) (O : List Nat) (s : St) (hT : s.T.Ok) (hok : s.C.Ok) (t : Int) (t0 : 0 ≤ t) (t1 : t < 18446744073709551616) (w : World) (h : PT w q p O s) :
    Calls Try.prog 38 #[.pointer (some ⟨q, 0, none⟩), .pointer (some ⟨p, 0, none⟩), .int .u64 t] w fun e w' => e = .returned (.bool (actB s t)) ∧ (∃ O', PT w' q p O' (actS s t) ∧ Sub w O O') ∧ Fr (q :: p :: O) w w' := by
  have hst := Lib.hid (status_calls p O s.C hok t t0 t1 w h.c)
  have HP := Lib.hid h
  have hokA := adv_ok hok t0 t1
  have hS : actS s t = if (s.C.adv t).busy = true then ⟨s.T, s.C.adv t⟩
    else if s.T.ph = 0 then
      if (s.C.adv t).full = true then ⟨s.T, readS ((s.C.adv t).adv t)⟩
      else ⟨{ s.T with ph := if s.T.cmd = 132 then 4 else 1 }, writeS (s.C.adv t) t s.T.cmd true⟩
    else if s.T.ph = 1 then ⟨{ s.T with ph := if s.T.cmd = 128 then 4 else 2 }, writeS (s.C.adv t) t s.T.addr false⟩
    else if s.T.ph = 2 then ⟨{ s.T with ph := 3 }, writeS (s.C.adv t) t s.T.v false⟩
    else if s.T.ph = 3 then ⟨{ s.T with ph := 5 }, s.C.adv t⟩
    else if s.T.ph = 4 then
      if (s.C.adv t).full = true then ⟨{ s.T with ph := 5, res := readV ((s.C.adv t).adv t) }, readS ((s.C.adv t).adv t)⟩
      else ⟨s.T, s.C.adv t⟩
    else ⟨s.T, s.C.adv t⟩ := rfl
  have hB : actB s t = (!(s.C.adv t).busy && decide (s.T.ph ≤ 2)) := rfl
  generalize s.C.adv t = D at *
  have HS := Lib.hid hS
  have HB := Lib.hid hB
  have HT := Lib.hid hT
  have HokA := Lib.hid hokA
  have hsv : statusV D = bitS D.full 1 + bitS D.busy 2 + bitS (!D.queue.isEmpty) 32 := rfl
  have HSV := Lib.hid hsv
  generalize actS s t = S' at *
  generalize actB s t = B' at *
  clear hS hB hT hokA hsv h hok
  go_enter Try.func38, Try.ntmps38
  go_wp2_with fail
  refine hst.out.mono ?_
  rintro e w2 ⟨rfl, ⟨O2, hC2, hs2⟩, hf2⟩
  have hP2 := HP.out.step hC2 hs2 hf2
  have HP2 := Lib.hid hP2
  have HF2 := Lib.hid hf2
  have HS2 := Lib.hid hs2
  clear hst HP hC2 hs2 hf2
  obtain ⟨x, hx⟩ : ∃ x, statusV D = x := ⟨_, rfl⟩
  have Hx := Lib.hid (hx.symm.trans HSV.out)
  rw [hx]
  clear hx HSV
  have d0 : w2.cell? ⟨q, 0, none⟩ = some (.int .u8 s.T.cmd) := hP2.t.cell 0
  have d1 : w2.cell? ⟨q, 1, none⟩ = some (.int .u8 s.T.addr) := hP2.t.cell 1
  have d2 : w2.cell? ⟨q, 2, none⟩ = some (.int .u8 s.T.v) := hP2.t.cell 2
  have d4 : w2.cell? ⟨q, 4, none⟩ = some (.int .i64 s.T.ph) := hP2.t.cell 4
  have d5 : w2.cell? ⟨q, 5, none⟩ = some (.int .u8 s.T.res) := hP2.t.cell 5
  have z4 := hP2.t.frozen 4
  have z5 := hP2.t.frozen 5
  clear hP2
  obtain ⟨fb, hfb⟩ : ∃ b, D.full = b := ⟨_, rfl⟩
  obtain ⟨bb, hbb⟩ : ∃ b, D.busy = b := ⟨_, rfl⟩
  obtain ⟨nb, hnb⟩ : ∃ b, (!D.queue.isEmpty) = b := ⟨_, rfl⟩
  rw [hfb, hbb, hnb] at Hx
  rw [hfb, hbb] at HS
  rw [hbb] at HB
  clear hfb hbb hnb
  cases bb
  · have Hs0 := HS.out.trans (if_neg (by decide))
    have hph : s.T.ph = 0 ∨ s.T.ph = 1 ∨ s.T.ph = 2 ∨ s.T.ph = 3 ∨ s.T.ph = 4 ∨ s.T.ph = 5 := by
      have := HT.out.p0
      have := HT.out.p5
      omega
    clear HS
    rcases hph with hph | hph | hph | hph | hph | hph
    · have Hph := Lib.hid hph
      have Hb : Hid (B' = true) := Lib.hid (by rw [HB.out]; simp [hph])
      rw [if_pos hph] at Hs0
      rw [hph] at d4
      clear hph HB
      cases fb
      · rw [if_neg (by decide)] at Hs0
        have Hs := Lib.hid Hs0
        clear Hs0
        by_cases hc : s.T.cmd = 132
        · have Hc := Lib.hid hc
          have hcb : (s.T.cmd == 132) = true := by simp [hc]
          clear hc
          cases nb
          all_goals
            have hx := Hx.out
            simp [bitS] at hx
            subst hx
            go_wp2_with fail
            refine (writeCommand_calls p O2 D HokA.out t t0 t1 s.T.cmd w2 HP2.out.c).mono ?_
            rintro e w3 ⟨rfl, ⟨O3, hC3, hs3⟩, hf3⟩
            have hP3 := HP2.out.step hC3 hs3 hf3
            have HS3 := Lib.hid (Sub.trans HS2.out hs3 HF2.out.size)
            have HF3 : Hid (Fr (q :: p :: O) w w3) := Lib.hid (PT.frame (Fr.step HF2.out HS2.out hf3))
            have e0 : w3.cell? ⟨q, 0, none⟩ = some (.int .u8 s.T.cmd) := hP3.t.cell 0
            have e4 : w3.cell? ⟨q, 4, none⟩ = some (.int .i64 s.T.ph) := hP3.t.cell 4
            have e5 : w3.cell? ⟨q, 5, none⟩ = some (.int .u8 s.T.res) := hP3.t.cell 5
            have x4 := hP3.t.frozen 4
            have x5 := hP3.t.frozen 5
            have HP3 := Lib.hid hP3
            clear hP3 hC3 hs3 hf3 d0 d1 d2 d4 d5 z4 z5
            go_wp2_with fail
            go_ret
            exact ⟨by rw [Hb.out]; rfl, ⟨O3, by rw [Hs.out, if_pos Hc.out]; exact ((HP3.out.set 4 (.int .i64 1) (T' := { s.T with ph := 1 }) rfl).set 4 (.int .i64 4) (T' := { s.T with ph := 4 }) rfl), HS3.out⟩, (Fr.setCell (Fr.setCell HF3.out (Or.inl (by simp)) _) (Or.inl (by simp)) _)⟩
        · have Hc := Lib.hid hc
          have hcb : (s.T.cmd == 132) = false := by simp [hc]
          clear hc
          cases nb
          all_goals
            have hx := Hx.out
            simp [bitS] at hx
            subst hx
            go_wp2_with fail
            refine (writeCommand_calls p O2 D HokA.out t t0 t1 s.T.cmd w2 HP2.out.c).mono ?_
            rintro e w3 ⟨rfl, ⟨O3, hC3, hs3⟩, hf3⟩
            have hP3 := HP2.out.step hC3 hs3 hf3
            have HS3 := Lib.hid (Sub.trans HS2.out hs3 HF2.out.size)
            have HF3 : Hid (Fr (q :: p :: O) w w3) := Lib.hid (PT.frame (Fr.step HF2.out HS2.out hf3))
            have e0 : w3.cell? ⟨q, 0, none⟩ = some (.int .u8 s.T.cmd) := hP3.t.cell 0
            have e4 : w3.cell? ⟨q, 4, none⟩ = some (.int .i64 s.T.ph) := hP3.t.cell 4
            have e5 : w3.cell? ⟨q, 5, none⟩ = some (.int .u8 s.T.res) := hP3.t.cell 5
            have x4 := hP3.t.frozen 4
            have x5 := hP3.t.frozen 5
            have HP3 := Lib.hid hP3
            clear hP3 hC3 hs3 hf3 d0 d1 d2 d4 d5 z4 z5
            go_wp2_with fail
            go_ret
            exact ⟨by rw [Hb.out]; rfl, ⟨O3, by rw [Hs.out, if_neg Hc.out]; exact (HP3.out.set 4 (.int .i64 1) (T' := { s.T with ph := 1 }) rfl), HS3.out⟩, (Fr.setCell HF3.out (Or.inl (by simp)) _)⟩
      · rw [if_pos rfl] at Hs0
        have Hs := Lib.hid Hs0
        clear Hs0
        cases nb
        all_goals
          have hx := Hx.out
          simp [bitS] at hx
          subst hx
          go_wp2_with fail
          refine (readData_calls p O2 D HokA.out t t0 t1 w2 HP2.out.c).mono ?_
          rintro e w3 ⟨rfl, ⟨O3, hC3, hs3⟩, hf3⟩
          have hP3 := HP2.out.step hC3 hs3 hf3
          have HS3 := Lib.hid (Sub.trans HS2.out hs3 HF2.out.size)
          have HF3 : Hid (Fr (q :: p :: O) w w3) := Lib.hid (PT.frame (Fr.step HF2.out HS2.out hf3))
          have e0 : w3.cell? ⟨q, 0, none⟩ = some (.int .u8 s.T.cmd) := hP3.t.cell 0
          have e4 : w3.cell? ⟨q, 4, none⟩ = some (.int .i64 s.T.ph) := hP3.t.cell 4
          have e5 : w3.cell? ⟨q, 5, none⟩ = some (.int .u8 s.T.res) := hP3.t.cell 5
          have x4 := hP3.t.frozen 4
          have x5 := hP3.t.frozen 5
          have HP3 := Lib.hid hP3
          clear hP3 hC3 hs3 hf3 d0 d1 d2 d4 d5 z4 z5
          go_wp2_with fail
          go_ret
          exact ⟨by rw [Hb.out]; rfl, ⟨O3, by rw [Hs.out]; exact HP3.out, HS3.out⟩, HF3.out⟩
    · have Hph := Lib.hid hph
      have Hb : Hid (B' = true) := Lib.hid (by rw [HB.out]; simp [hph])
      rw [if_neg (by omega)] at Hs0
      rw [if_pos hph] at Hs0
      rw [hph] at d4
      clear hph HB
      have Hs := Lib.hid Hs0
      clear Hs0
      by_cases hc : s.T.cmd = 128
      · have Hc := Lib.hid hc
        have hcb : (s.T.cmd == 128) = true := by simp [hc]
        clear hc
        cases fb <;> cases nb
        all_goals
          have hx := Hx.out
          simp [bitS] at hx
          subst hx
          go_wp2_with fail
          refine (writeData_calls p O2 D HokA.out t t0 t1 s.T.addr w2 HP2.out.c).mono ?_
          rintro e w3 ⟨rfl, ⟨O3, hC3, hs3⟩, hf3⟩
          have hP3 := HP2.out.step hC3 hs3 hf3
          have HS3 := Lib.hid (Sub.trans HS2.out hs3 HF2.out.size)
          have HF3 : Hid (Fr (q :: p :: O) w w3) := Lib.hid (PT.frame (Fr.step HF2.out HS2.out hf3))
          have e0 : w3.cell? ⟨q, 0, none⟩ = some (.int .u8 s.T.cmd) := hP3.t.cell 0
          have e4 : w3.cell? ⟨q, 4, none⟩ = some (.int .i64 s.T.ph) := hP3.t.cell 4
          have e5 : w3.cell? ⟨q, 5, none⟩ = some (.int .u8 s.T.res) := hP3.t.cell 5
          have x4 := hP3.t.frozen 4
          have x5 := hP3.t.frozen 5
          have HP3 := Lib.hid hP3
          clear hP3 hC3 hs3 hf3 d0 d1 d2 d4 d5 z4 z5
          go_wp2_with fail
          go_ret
          exact ⟨by rw [Hb.out]; rfl, ⟨O3, by rw [Hs.out, if_pos Hc.out]; exact ((HP3.out.set 4 (.int .i64 2) (T' := { s.T with ph := 2 }) rfl).set 4 (.int .i64 4) (T' := { s.T with ph := 4 }) rfl), HS3.out⟩, (Fr.setCell (Fr.setCell HF3.out (Or.inl (by simp)) _) (Or.inl (by simp)) _)⟩
      · have Hc := Lib.hid hc
        have hcb : (s.T.cmd == 128) = false := by simp [hc]
        clear hc
        cases fb <;> cases nb
        all_goals
          have hx := Hx.out
          simp [bitS] at hx
          subst hx
          go_wp2_with fail
          refine (writeData_calls p O2 D HokA.out t t0 t1 s.T.addr w2 HP2.out.c).mono ?_
          rintro e w3 ⟨rfl, ⟨O3, hC3, hs3⟩, hf3⟩
          have hP3 := HP2.out.step hC3 hs3 hf3
          have HS3 := Lib.hid (Sub.trans HS2.out hs3 HF2.out.size)
          have HF3 : Hid (Fr (q :: p :: O) w w3) := Lib.hid (PT.frame (Fr.step HF2.out HS2.out hf3))
          have e0 : w3.cell? ⟨q, 0, none⟩ = some (.int .u8 s.T.cmd) := hP3.t.cell 0
          have e4 : w3.cell? ⟨q, 4, none⟩ = some (.int .i64 s.T.ph) := hP3.t.cell 4
          have e5 : w3.cell? ⟨q, 5, none⟩ = some (.int .u8 s.T.res) := hP3.t.cell 5
          have x4 := hP3.t.frozen 4
          have x5 := hP3.t.frozen 5
          have HP3 := Lib.hid hP3
          clear hP3 hC3 hs3 hf3 d0 d1 d2 d4 d5 z4 z5
          go_wp2_with fail
          go_ret
          exact ⟨by rw [Hb.out]; rfl, ⟨O3, by rw [Hs.out, if_neg Hc.out]; exact (HP3.out.set 4 (.int .i64 2) (T' := { s.T with ph := 2 }) rfl), HS3.out⟩, (Fr.setCell HF3.out (Or.inl (by simp)) _)⟩
    · have Hph := Lib.hid hph
      have Hb : Hid (B' = true) := Lib.hid (by rw [HB.out]; simp [hph])
      rw [if_neg (by omega)] at Hs0
      rw [if_neg (by omega)] at Hs0
      rw [if_pos hph] at Hs0
      rw [hph] at d4
      clear hph HB
      have Hs := Lib.hid Hs0
      clear Hs0
      cases fb <;> cases nb
      all_goals
        have hx := Hx.out
        simp [bitS] at hx
        subst hx
        go_wp2_with fail
        refine (writeData_calls p O2 D HokA.out t t0 t1 s.T.v w2 HP2.out.c).mono ?_
        rintro e w3 ⟨rfl, ⟨O3, hC3, hs3⟩, hf3⟩
        have hP3 := HP2.out.step hC3 hs3 hf3
        have HS3 := Lib.hid (Sub.trans HS2.out hs3 HF2.out.size)
        have HF3 : Hid (Fr (q :: p :: O) w w3) := Lib.hid (PT.frame (Fr.step HF2.out HS2.out hf3))
        have e0 : w3.cell? ⟨q, 0, none⟩ = some (.int .u8 s.T.cmd) := hP3.t.cell 0
        have e4 : w3.cell? ⟨q, 4, none⟩ = some (.int .i64 s.T.ph) := hP3.t.cell 4
        have e5 : w3.cell? ⟨q, 5, none⟩ = some (.int .u8 s.T.res) := hP3.t.cell 5
        have x4 := hP3.t.frozen 4
        have x5 := hP3.t.frozen 5
        have HP3 := Lib.hid hP3
        clear hP3 hC3 hs3 hf3 d0 d1 d2 d4 d5 z4 z5
        go_wp2_with fail
        go_ret
        exact ⟨by rw [Hb.out]; rfl, ⟨O3, by rw [Hs.out]; exact (HP3.out.set 4 (.int .i64 3) (T' := { s.T with ph := 3 }) rfl), HS3.out⟩, (Fr.setCell HF3.out (Or.inl (by simp)) _)⟩
    · have Hph := Lib.hid hph
      have Hb : Hid (B' = false) := Lib.hid (by rw [HB.out]; simp [hph])
      rw [if_neg (by omega)] at Hs0
      rw [if_neg (by omega)] at Hs0
      rw [if_neg (by omega)] at Hs0
      rw [if_pos hph] at Hs0
      rw [hph] at d4
      clear hph HB
      have Hs := Lib.hid Hs0
      clear Hs0
      cases fb <;> cases nb
      all_goals
        have hx := Hx.out
        simp [bitS] at hx
        subst hx
        go_wp2_with fail
        go_ret
        exact ⟨by rw [Hb.out]; rfl, ⟨O2, by rw [Hs.out]; exact HP2.out.set 4 (.int .i64 5) (T' := { s.T with ph := 5 }) rfl, HS2.out⟩, Fr.setCell (PT.frame HF2.out) (Or.inl (by simp)) _⟩
    · have Hph := Lib.hid hph
      have Hb : Hid (B' = false) := Lib.hid (by rw [HB.out]; simp [hph])
      rw [if_neg (by omega)] at Hs0
      rw [if_neg (by omega)] at Hs0
      rw [if_neg (by omega)] at Hs0
      rw [if_neg (by omega)] at Hs0
      rw [if_pos hph] at Hs0
      rw [hph] at d4
      clear hph HB
      cases fb
      · rw [if_neg (by decide)] at Hs0
        have Hs := Lib.hid Hs0
        clear Hs0
        cases nb
        all_goals
          have hx := Hx.out
          simp [bitS] at hx
          subst hx
          go_wp2_with fail
          go_ret
          exact ⟨by rw [Hb.out]; rfl, ⟨O2, by rw [Hs.out]; exact HP2.out, HS2.out⟩, PT.frame HF2.out⟩
      · rw [if_pos rfl] at Hs0
        have Hs := Lib.hid Hs0
        clear Hs0
        obtain ⟨y, hy⟩ : ∃ y, readV (D.adv t) = y := ⟨_, rfl⟩
        have Hy := Lib.hid hy
        clear hy
        cases nb
        all_goals
          have hx := Hx.out
          simp [bitS] at hx
          subst hx
          go_wp2_with fail
          refine (readData_calls p O2 D HokA.out t t0 t1 w2 HP2.out.c).mono ?_
          rintro e w3 ⟨rfl, ⟨O3, hC3, hs3⟩, hf3⟩
          have hP3 := HP2.out.step hC3 hs3 hf3
          have HS3 := Lib.hid (Sub.trans HS2.out hs3 HF2.out.size)
          have HF3 : Hid (Fr (q :: p :: O) w w3) := Lib.hid (PT.frame (Fr.step HF2.out HS2.out hf3))
          have e0 : w3.cell? ⟨q, 0, none⟩ = some (.int .u8 s.T.cmd) := hP3.t.cell 0
          have e4 : w3.cell? ⟨q, 4, none⟩ = some (.int .i64 s.T.ph) := hP3.t.cell 4
          have e5 : w3.cell? ⟨q, 5, none⟩ = some (.int .u8 s.T.res) := hP3.t.cell 5
          have x4 := hP3.t.frozen 4
          have x5 := hP3.t.frozen 5
          have HP3 := Lib.hid hP3
          clear hP3 hC3 hs3 hf3 d0 d1 d2 d4 d5 z4 z5
          go_wp2_with fail
          go_ret
          exact ⟨by rw [Hb.out]; rfl, ⟨O3, by rw [Hs.out]; exact ((HP3.out.set 5 (.int .u8 (readV (D.adv t))) (T' := { s.T with res := readV (D.adv t) }) rfl).set 4 (.int .i64 5) (T' := { s.T with ph := 5, res := readV (D.adv t) }) rfl), HS3.out⟩, (Fr.setCell (Fr.setCell HF3.out (Or.inl (by simp)) _) (Or.inl (by simp)) _)⟩
    · have Hph := Lib.hid hph
      have Hb : Hid (B' = false) := Lib.hid (by rw [HB.out]; simp [hph])
      rw [if_neg (by omega)] at Hs0
      rw [if_neg (by omega)] at Hs0
      rw [if_neg (by omega)] at Hs0
      rw [if_neg (by omega)] at Hs0
      rw [if_neg (by omega)] at Hs0
      rw [hph] at d4
      clear hph HB
      have Hs := Lib.hid Hs0
      clear Hs0
      cases fb <;> cases nb
      all_goals
        have hx := Hx.out
        simp [bitS] at hx
        subst hx
        go_wp2_with fail
        go_ret
        exact ⟨by rw [Hb.out]; rfl, ⟨O2, by rw [Hs.out]; exact HP2.out, HS2.out⟩, PT.frame HF2.out⟩
  · have Hs : Hid (S' = ⟨s.T, D⟩) := Lib.hid (HS.out.trans (if_pos rfl))
    have Hb : Hid (B' = false) := HB
    clear HS HB
    cases fb <;> cases nb
    all_goals
      have hx := Hx.out
      simp [bitS] at hx
      subst hx
      go_wp2_with fail
      go_ret
      exact ⟨by rw [Hb.out]; rfl, ⟨O2, by rw [Hs.out]; exact HP2.out, HS2.out⟩, PT.frame HF2.out⟩
end Go.Proofs.Ytbcgcbogcofbjaa.Ec
