import Derived.Test.YtbcgcbogcofbjaaEcK
namespace Go.Proofs.Ytbcgcbogcofbjaa.Ec
open Go.RowKit Go.Proofs.Ytbcgcbogcofbjaa.G
set_option linter.unusedVariables false
set_option linter.unusedSimpArgs false
set_option linter.unusedSectionVars false

def actD (T : Tr) (D : Ct) (t : Int) : St :=
  if D.busy = true then ⟨T, D⟩
  else if T.ph = 0 then
    if D.full = true then ⟨T, readS (D.adv t)⟩
    else ⟨{ T with ph := if T.cmd = 132 then 4 else 1 }, writeS D t T.cmd true⟩
  else if T.ph = 1 then ⟨{ T with ph := if T.cmd = 128 then 4 else 2 }, writeS D t T.addr false⟩
  else if T.ph = 2 then ⟨{ T with ph := 3 }, writeS D t T.v false⟩
  else if T.ph = 3 then ⟨{ T with ph := 5 }, D⟩
  else if T.ph = 4 then
    if D.full = true then ⟨{ T with ph := 5, res := readV (D.adv t) }, readS (D.adv t)⟩
    else ⟨T, D⟩
  else ⟨T, D⟩
theorem actS_eq (T : Tr) (C : Ct) (t : Int) : actS ⟨T, C⟩ t = actD T (C.adv t) t := rfl
theorem actB_eq (T : Tr) (C : Ct) (t : Int) : actB ⟨T, C⟩ t = (!(C.adv t).busy && decide (T.ph ≤ 2)) := rfl
theorem adv_idle {C : Ct} (h : C.busy = false) (t : Int) : C.adv t = nowS C t := by
  unfold Ct.adv; rw [if_neg (fun g => by rw [h] at g; cases g.1)]
theorem nowS_t {C : Ct} {t : Int} (h : C.now ≤ t) : nowS C t = { C with now := t } := by
  unfold nowS; rw [show max C.now t = t by omega]
theorem adv_wait {C : Ct} {t : Int} (hn : C.now ≤ t) (hd : t < C.due) : C.adv t = { C with now := t } := by
  unfold Ct.adv; rw [if_neg (fun g => by have := g.2; omega), nowS_t hn]
theorem adv_due {C : Ct} {t : Int} (hb : C.busy = true) (hn : C.now ≤ t) (hd : C.due ≤ t) : C.adv t = effS { C with now := t, busy := false } := by
  unfold Ct.adv; rw [if_pos ⟨hb, by omega⟩, nowS_t hn]
theorem after_sum {t n : Int} (h : t + n < 18446744073709551615) : after t n = t + n := by
  unfold after; rw [if_neg (by omega)]
theorem wrS {D : Ct} {t : Int} (hb : D.busy = false) (hn : D.now = t) (h : t + D.delay < 18446744073709551615) (v : Int) (b : Bool) :
    writeS D t v b = { D with busy := true, command := b, v := v, due := t + D.delay } := by
  have hA : D.adv t = D := by
    rw [adv_idle hb, nowS_t (by omega)]
    subst hn; rfl
  unfold writeS
  rw [hA, if_neg (by rw [hb]; decide), hn, after_sum h]
  subst hn; rfl
theorem run_t {t : Int} {s s' : St} (n : Nat) (h5 : s.T.ph ≠ 5) (hb : actB s t = true) (ha : actS s t = s') : runS t (n + 1) s = runS t n s' := by
  show (if s.T.ph = 5 then s else if actB s t = true then runS t n (actS s t) else actS s t) = _
  rw [if_neg h5, if_pos hb, ha]
theorem run_f {t : Int} {s s' : St} (n : Nat) (h5 : s.T.ph ≠ 5) (hb : actB s t = false) (ha : actS s t = s') : runS t (n + 1) s = s' := by
  show (if s.T.ph = 5 then s else if actB s t = true then runS t n (actS s t) else actS s t) = _
  rw [if_neg h5, if_neg (by rw [hb]; decide), ha]
theorem run_wait {t : Int} {T : Tr} {C : Ct} (n : Nat) (h5 : T.ph ≠ 5) (hb : C.busy = true) (hn : C.now ≤ t) (hd : t < C.due) : runS t (n + 1) ⟨T, C⟩ = ⟨T, { C with now := t }⟩ := by
  refine run_f n h5 ?_ ?_
  · rw [actB_eq, adv_wait hn hd]; show (!C.busy && _) = false; rw [hb]; rfl
  · rw [actS_eq, adv_wait hn hd]; unfold actD; rw [if_pos hb]

structure Idl (d : Int) (R : Nat → Int) (t : Int) (C : Ct) : Prop where
  b : C.busy = false
  f : C.full = false
  d : C.delay = d
  r : C.regs = R
  n : C.now ≤ t
section
variable (d : Int) (R : Nat → Int) (q : List Int) (x v dl : Int)
def w1 (now due o c : Int) (a : Option Int) : St := ⟨⟨129, x, v, dl, 1, 0, 0⟩, ⟨d, now, R, true, true, 129, due, false, o, q, c, a⟩⟩
def w2 (now due o : Int) : St := ⟨⟨129, x, v, dl, 2, 0, 0⟩, ⟨d, now, R, true, false, x, due, false, o, q, 129, none⟩⟩
def w3 (now due o : Int) : St := ⟨⟨129, x, v, dl, 3, 0, 0⟩, ⟨d, now, R, true, false, v, due, false, o, q, 129, some x⟩⟩
def w5 (now due o : Int) : St := ⟨⟨129, x, v, dl, 5, 0, 0⟩, ⟨d, now, upd R x.toNat v, false, false, v, due, false, o, q, 0, none⟩⟩
def r1 (now due o c : Int) (a : Option Int) : St := ⟨⟨128, x, v, dl, 1, 0, 0⟩, ⟨d, now, R, true, true, 128, due, false, o, q, c, a⟩⟩
def r2 (now due o : Int) : St := ⟨⟨128, x, v, dl, 4, 0, 0⟩, ⟨d, now, R, true, false, x, due, false, o, q, 128, none⟩⟩
def r5 (now due : Int) : St := ⟨⟨128, x, v, dl, 5, R x.toNat, 0⟩, ⟨d, now, R, false, false, x, due, false, R x.toNat, q, 0, none⟩⟩
end
section
variable {d : Int} {R : Nat → Int} {q : List Int} {x v dl : Int} {t now due o c : Int} {a : Option Int} (hd0 : 0 ≤ d) (hd8 : d < 8) (hn : now ≤ t) (ht : t < 2000)
include hd0 hd8 hn ht
theorem run_w3 (n : Nat) (hd : due ≤ t) : runS t (n + 1) (w3 d R q x v dl now due o) = w5 d R q x v dl t due o := by
  have hA : (w3 d R q x v dl now due o).C.adv t = ⟨d, t, upd R x.toNat v, false, false, v, due, false, o, q, 0, none⟩ := (adv_due rfl hn hd).trans rfl
  refine run_f n (by show (3 : Int) ≠ 5; omega) ?_ ?_
  · show (!((w3 d R q x v dl now due o).C.adv t).busy && _) = false
    rw [hA]; rfl
  · show actD _ ((w3 d R q x v dl now due o).C.adv t) t = _
    rw [hA]; rfl
theorem run_w2 (n : Nat) (hd : due ≤ t) : runS t (n + 1) (w2 d R q x v dl now due o) = runS t n (w3 d R q x v dl t (t + d) o) := by
  have hA : (w2 d R q x v dl now due o).C.adv t = ⟨d, t, R, false, false, x, due, false, o, q, 129, some x⟩ := (adv_due rfl hn hd).trans rfl
  refine run_t n (by show (2 : Int) ≠ 5; omega) ?_ ?_
  · show (!((w2 d R q x v dl now due o).C.adv t).busy && _) = true
    rw [hA]; rfl
  · show actD _ ((w2 d R q x v dl now due o).C.adv t) t = _
    rw [hA]
    show (⟨_, writeS _ t v false⟩ : St) = _
    rw [wrS rfl rfl (by show t + d < _; omega)]; rfl
theorem run_w1 (n : Nat) (hd : due ≤ t) : runS t (n + 1) (w1 d R q x v dl now due o c a) = runS t n (w2 d R q x v dl t (t + d) o) := by
  have hA : (w1 d R q x v dl now due o c a).C.adv t = ⟨d, t, R, false, true, 129, due, false, o, q, 129, none⟩ := (adv_due rfl hn hd).trans rfl
  refine run_t n (by show (1 : Int) ≠ 5; omega) ?_ ?_
  · show (!((w1 d R q x v dl now due o c a).C.adv t).busy && _) = true
    rw [hA]; rfl
  · show actD _ ((w1 d R q x v dl now due o c a).C.adv t) t = _
    rw [hA]
    show (⟨_, writeS _ t x false⟩ : St) = _
    rw [wrS rfl rfl (by show t + d < _; omega)]; rfl
theorem run_r2 (n : Nat) (hd : due ≤ t) : runS t (n + 1) (r2 d R q x v dl now due o) = r5 d R q x v dl t due := by
  have hA : (r2 d R q x v dl now due o).C.adv t = ⟨d, t, R, false, false, x, due, true, R x.toNat, q, 0, none⟩ := (adv_due rfl hn hd).trans rfl
  refine run_f n (by show (4 : Int) ≠ 5; omega) ?_ ?_
  · show (!((r2 d R q x v dl now due o).C.adv t).busy && _) = false
    rw [hA]; rfl
  · show actD _ ((r2 d R q x v dl now due o).C.adv t) t = _
    rw [hA]
    have hB : (⟨d, t, R, false, false, x, due, true, R x.toNat, q, 0, none⟩ : Ct).adv t = ⟨d, t, R, false, false, x, due, true, R x.toNat, q, 0, none⟩ := by
      rw [adv_idle rfl, nowS_t (Int.le_refl _)]
    show (⟨_, readS ((⟨d, t, R, false, false, x, due, true, R x.toNat, q, 0, none⟩ : Ct).adv t)⟩ : St) = _
    rw [hB]; rfl
theorem run_r1 (n : Nat) (hd : due ≤ t) : runS t (n + 1) (r1 d R q x v dl now due o c a) = runS t n (r2 d R q x v dl t (t + d) o) := by
  have hA : (r1 d R q x v dl now due o c a).C.adv t = ⟨d, t, R, false, true, 128, due, false, o, q, 128, none⟩ := (adv_due rfl hn hd).trans rfl
  refine run_t n (by show (1 : Int) ≠ 5; omega) ?_ ?_
  · show (!((r1 d R q x v dl now due o c a).C.adv t).busy && _) = true
    rw [hA]; rfl
  · show actD _ ((r1 d R q x v dl now due o c a).C.adv t) t = _
    rw [hA]
    show (⟨_, writeS _ t x false⟩ : St) = _
    rw [wrS rfl rfl (by show t + d < _; omega)]; rfl
end
theorem run_0 {d : Int} {R : Nat → Int} {t : Int} {C : Ct} {cm x v dl : Int} (hd0 : 0 ≤ d) (hd8 : d < 8) (ht : t < 2000) (h : Idl d R t C) (hc : cm ≠ 132) (n : Nat) :
    runS t (n + 1) ⟨⟨cm, x, v, dl, 0, 0, 0⟩, C⟩ = runS t n ⟨⟨cm, x, v, dl, 1, 0, 0⟩, ⟨d, t, R, true, true, cm, t + d, false, C.out, C.queue, C.cmd, C.arg⟩⟩ := by
  have hA : C.adv t = { C with now := t } := by rw [adv_idle h.b, nowS_t h.n]
  refine run_t n (by show (0 : Int) ≠ 5; omega) ?_ ?_
  · rw [actB_eq, hA]; show (!C.busy && _) = true; rw [h.b]; rfl
  · rw [actS_eq, hA]
    unfold actD
    rw [if_neg (by show ¬ C.busy = true; rw [h.b]; decide), if_pos rfl, if_neg (by show ¬ C.full = true; rw [h.f]; decide)]
    have hb := h.d
    rw [wrS (D := { C with now := t }) (t := t) h.b rfl (by show t + C.delay < _; omega)]
    show (⟨⟨cm, x, v, dl, if cm = 132 then 4 else 1, 0, 0⟩, ⟨C.delay, t, C.regs, true, true, cm, t + C.delay, C.full, C.out, C.queue, C.cmd, C.arg⟩⟩ : St) = _
    rw [if_neg hc, h.d, h.r, h.f]

/-! ### What holds ahead of a step at time t -/
def PW (d : Int) (R : Nat → Int) (x v n0 : Int) (t : Int) (s : St) : Prop :=
  (t = n0 ∧ ∃ C, Idl d R t C ∧ s = ⟨⟨129, x, v, n0 + 1000, 0, 0, 0⟩, C⟩) ∨
  ∃ now due o q, now ≤ t ∧ t ≤ due + 4 ∧ ((∃ c a, s = w1 d R q x v (n0 + 1000) now due o c a ∧ due ≤ n0 + 11) ∨ (s = w2 d R q x v (n0 + 1000) now due o ∧ due ≤ n0 + 22) ∨ (s = w3 d R q x v (n0 + 1000) now due o ∧ due ≤ n0 + 33))
def PR (d : Int) (R : Nat → Int) (x n0 : Int) (t : Int) (s : St) : Prop :=
  (t = n0 ∧ ∃ C, Idl d R t C ∧ s = ⟨⟨128, x, 0, n0 + 1000, 0, 0, 0⟩, C⟩) ∨
  ∃ now due o q, now ≤ t ∧ t ≤ due + 4 ∧ ((∃ c a, s = r1 d R q x 0 (n0 + 1000) now due o c a ∧ due ≤ n0 + 11) ∨ (s = r2 d R q x 0 (n0 + 1000) now due o ∧ due ≤ n0 + 22))
/-- A step's outcome. -/
def Outc (n0 t : Int) (P : Int → St → Prop) (D : Int → St → Prop) (r : St) : Prop :=
  (r.T.ph = 5 ∧ r.T.e = 0 ∧ D t r) ∨ (r.T.ph ≠ 5 ∧ r.T.dl = n0 + 1000 ∧ t < n0 + 33 ∧ ∀ t', t ≤ t' → t' ≤ t + 4 → P t' r)
def DW (d : Int) (R : Nat → Int) (x v : Int) (t : Int) (r : St) : Prop := Idl d (upd R x.toNat v) t r.C
def DR (d : Int) (R : Nat → Int) (x : Int) (t : Int) (r : St) : Prop := Idl d R t r.C ∧ r.T.res = R x.toNat
section
variable {d : Int} {R : Nat → Int} {x v n0 t : Int} (hd0 : 0 ≤ d) (hd8 : d < 8) (ht : t < 2000)
include hd0 hd8 ht
theorem go_w3 (q : List Int) (now due o : Int) (hn : now ≤ t) (h4 : t ≤ due + 4) (hdu : due ≤ n0 + 33) (n : Nat) : Outc n0 t (PW d R x v n0) (DW d R x v) (runS t (n + 1) (w3 d R q x v (n0 + 1000) now due o)) := by
  by_cases hd : due ≤ t
  · rw [run_w3 hd0 hd8 hn ht n hd]
    exact .inl ⟨rfl, rfl, rfl, rfl, rfl, rfl, Int.le_refl _⟩
  · have e : runS t (n + 1) (w3 d R q x v (n0 + 1000) now due o) = w3 d R q x v (n0 + 1000) t due o := run_wait n (by show (3 : Int) ≠ 5; omega) rfl hn (by show t < due; omega)
    rw [e]
    exact .inr ⟨by show (3 : Int) ≠ 5; omega, rfl, by omega, fun t' h1 h2 => .inr ⟨t, due, o, q, h1, by omega, .inr (.inr ⟨rfl, hdu⟩)⟩⟩
theorem go_w2 (q : List Int) (now due o : Int) (hn : now ≤ t) (h4 : t ≤ due + 4) (hdu : due ≤ n0 + 22) (n : Nat) : Outc n0 t (PW d R x v n0) (DW d R x v) (runS t (n + 2) (w2 d R q x v (n0 + 1000) now due o)) := by
  by_cases hd : due ≤ t
  · rw [run_w2 hd0 hd8 hn ht (n + 1) hd]
    exact go_w3 hd0 hd8 ht q t (t + d) o (Int.le_refl _) (by omega) (by omega) n
  · have e : runS t (n + 2) (w2 d R q x v (n0 + 1000) now due o) = w2 d R q x v (n0 + 1000) t due o := run_wait (n + 1) (by show (2 : Int) ≠ 5; omega) rfl hn (by show t < due; omega)
    rw [e]
    exact .inr ⟨by show (2 : Int) ≠ 5; omega, rfl, by omega, fun t' h1 h2 => .inr ⟨t, due, o, q, h1, by omega, .inr (.inl ⟨rfl, hdu⟩)⟩⟩
theorem go_w1 (q : List Int) (now due o c : Int) (a : Option Int) (hn : now ≤ t) (h4 : t ≤ due + 4) (hdu : due ≤ n0 + 11) (n : Nat) : Outc n0 t (PW d R x v n0) (DW d R x v) (runS t (n + 3) (w1 d R q x v (n0 + 1000) now due o c a)) := by
  by_cases hd : due ≤ t
  · rw [run_w1 hd0 hd8 hn ht (n + 2) hd]
    exact go_w2 hd0 hd8 ht q t (t + d) o (Int.le_refl _) (by omega) (by omega) n
  · have e : runS t (n + 3) (w1 d R q x v (n0 + 1000) now due o c a) = w1 d R q x v (n0 + 1000) t due o c a := run_wait (n + 2) (by show (1 : Int) ≠ 5; omega) rfl hn (by show t < due; omega)
    rw [e]
    exact .inr ⟨by show (1 : Int) ≠ 5; omega, rfl, by omega, fun t' h1 h2 => .inr ⟨t, due, o, q, h1, by omega, .inl ⟨c, a, rfl, hdu⟩⟩⟩
theorem go_r2 (q : List Int) (now due o : Int) (hn : now ≤ t) (h4 : t ≤ due + 4) (hdu : due ≤ n0 + 22) (n : Nat) : Outc n0 t (PR d R x n0) (DR d R x) (runS t (n + 1) (r2 d R q x 0 (n0 + 1000) now due o)) := by
  by_cases hd : due ≤ t
  · rw [run_r2 hd0 hd8 hn ht n hd]
    exact .inl ⟨rfl, rfl, ⟨rfl, rfl, rfl, rfl, Int.le_refl _⟩, rfl⟩
  · have e : runS t (n + 1) (r2 d R q x 0 (n0 + 1000) now due o) = r2 d R q x 0 (n0 + 1000) t due o := run_wait n (by show (4 : Int) ≠ 5; omega) rfl hn (by show t < due; omega)
    rw [e]
    exact .inr ⟨by show (4 : Int) ≠ 5; omega, rfl, by omega, fun t' h1 h2 => .inr ⟨t, due, o, q, h1, by omega, .inr ⟨rfl, hdu⟩⟩⟩
theorem go_r1 (q : List Int) (now due o c : Int) (a : Option Int) (hn : now ≤ t) (h4 : t ≤ due + 4) (hdu : due ≤ n0 + 11) (n : Nat) : Outc n0 t (PR d R x n0) (DR d R x) (runS t (n + 2) (r1 d R q x 0 (n0 + 1000) now due o c a)) := by
  by_cases hd : due ≤ t
  · rw [run_r1 hd0 hd8 hn ht (n + 1) hd]
    exact go_r2 hd0 hd8 ht q t (t + d) o (Int.le_refl _) (by omega) (by omega) n
  · have e : runS t (n + 2) (r1 d R q x 0 (n0 + 1000) now due o c a) = r1 d R q x 0 (n0 + 1000) t due o c a := run_wait (n + 1) (by show (1 : Int) ≠ 5; omega) rfl hn (by show t < due; omega)
    rw [e]
    exact .inr ⟨by show (1 : Int) ≠ 5; omega, rfl, by omega, fun t' h1 h2 => .inr ⟨t, due, o, q, h1, by omega, .inl ⟨c, a, rfl, hdu⟩⟩⟩
theorem go_W {s : St} (h : PW d R x v n0 t s) : Outc n0 t (PW d R x v n0) (DW d R x v) (runS t 12 s) := by
  rcases h with ⟨rfl, C, hI, rfl⟩ | ⟨now, due, o, q, hn, h4, ⟨c, a, rfl, hdu⟩ | ⟨rfl, hdu⟩ | ⟨rfl, hdu⟩⟩
  · rw [run_0 hd0 hd8 ht hI (by omega) 11]
    exact go_w1 hd0 hd8 ht C.queue t (t + d) C.out C.cmd C.arg (Int.le_refl _) (by omega) (by omega) 8
  · exact go_w1 hd0 hd8 ht q now due o c a hn h4 hdu 9
  · exact go_w2 hd0 hd8 ht q now due o hn h4 hdu 10
  · exact go_w3 hd0 hd8 ht q now due o hn h4 hdu 11
theorem go_R {s : St} (h : PR d R x n0 t s) : Outc n0 t (PR d R x n0) (DR d R x) (runS t 12 s) := by
  rcases h with ⟨rfl, C, hI, rfl⟩ | ⟨now, due, o, q, hn, h4, ⟨c, a, rfl, hdu⟩ | ⟨rfl, hdu⟩⟩
  · rw [run_0 hd0 hd8 ht hI (by omega) 11]
    exact go_r1 hd0 hd8 ht C.queue t (t + d) C.out C.cmd C.arg (Int.le_refl _) (by omega) (by omega) 9
  · exact go_r1 hd0 hd8 ht q now due o c a hn h4 hdu 10
  · exact go_r2 hd0 hd8 ht q now due o hn h4 hdu 11
end
/-- What a step owes the loop of finish. -/
def Owes (n0 : Int) (P : Int → St → Prop) (D : Int → St → Prop) : Prop :=
  ∀ t s, P t s → n0 ≤ t → t ≤ n0 + 37 → (doneV (stepS s t) = true ∧ errV (stepS s t) = 0 ∧ D t (stepS s t)) ∨ (doneV (stepS s t) = false ∧ t < n0 + 33 ∧ ∀ t', t ≤ t' → t' ≤ t + 4 → P t' (stepS s t))
theorem Outc.owes {n0 t : Int} {P D : Int → St → Prop} {s : St} (h : Outc n0 t P D (runS t 12 s)) : (doneV (stepS s t) = true ∧ errV (stepS s t) = 0 ∧ D t (stepS s t)) ∨ (doneV (stepS s t) = false ∧ t < n0 + 33 ∧ ∀ t', t ≤ t' → t' ≤ t + 4 → P t' (stepS s t)) := by
  unfold stepS
  generalize runS t 12 s = r at *
  rcases h with ⟨h5, he, hD⟩ | ⟨h5, hdl, ht, hP⟩
  · have e : endS r t = r := by unfold endS; rw [if_neg (fun g => g.1 h5)]
    rw [e]
    exact .inl ⟨by unfold doneV; rw [decide_eq_true h5], by unfold errV; rw [if_pos h5, he], hD⟩
  · have e : endS r t = r := by unfold endS; rw [if_neg (fun g => by have := g.2; omega)]
    rw [e]
    exact .inr ⟨by unfold doneV; rw [decide_eq_false h5], ht, hP⟩
theorem owes_W {d : Int} {R : Nat → Int} {x v n0 : Int} (hd0 : 0 ≤ d) (hd8 : d < 8) (hn : n0 ≤ 1000) : Owes n0 (PW d R x v n0) (DW d R x v) := fun t s h h1 h2 => (go_W hd0 hd8 (by omega) h).owes
theorem owes_R {d : Int} {R : Nat → Int} {x n0 : Int} (hd0 : 0 ≤ d) (hd8 : d < 8) (hn : n0 ≤ 1000) : Owes n0 (PR d R x n0) (DR d R x) := fun t s h h1 h2 => (go_R hd0 hd8 (by omega) h).owes
end Go.Proofs.Ytbcgcbogcofbjaa.Ec
