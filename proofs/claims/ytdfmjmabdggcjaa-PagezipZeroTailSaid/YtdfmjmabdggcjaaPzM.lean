import Derived.Test.YtdfmjmabdggcjaaWWords
import Derived.Laws.BitsAllLaws
namespace Go.Proofs.Ytdfmjmabdggcjaa.Pz
open Go.RowKit Go.Proofs.YtdfmjmabdggcjaaW.PrintWords
set_option linter.unusedSimpArgs false
set_option linter.unusedVariables false
/-! ### The plain law -/
abbrev Dict := Nat → Int
def slotN (w : Int) : Nat := (w / 65536 % 16).toNat
def tagF (d : Dict) (w : Int) : Int := if w = 0 then 0 else if w = d (slotN w) then 1 else if w / 65536 = d (slotN w) / 65536 then 2 else 3
def recF (d : Dict) (w : Int) : Dict := if w = 0 then d else fun j => if j = slotN w then w else d j
def b0 (w : Int) : Int := w % 256
def b1 (w : Int) : Int := w / 256 % 256
def b2 (w : Int) : Int := w / 65536 % 256
def b3 (w : Int) : Int := w / 16777216 % 256
def emit (t w : Int) : List Int :=
  if t = 0 then [] else if t = 1 then [w / 65536 % 16] else if t = 2 then [w / 65536 % 16, b0 w, b1 w] else [b0 w, b1 w, b2 w, b3 w]
structure St where
  d : Dict
  ts : List Int
  out : List Int
def step (s : St) (w : Int) : St := ⟨recF s.d w, s.ts ++ [tagF s.d w], s.out ++ emit (tagF s.d w) w⟩
def st0 : St := ⟨fun _ => 0, [], []⟩
def run (s : St) (ws : List Int) : St := ws.foldl step s

theorem run_append (s : St) (xs ys : List Int) : run s (xs ++ ys) = run (run s xs) ys := by simp [run, List.foldl_append]
theorem run_cons (s : St) (x : Int) (ys : List Int) : run s (x :: ys) = run (step s x) ys := rfl

def W (w : Int) : Prop := 0 ≤ w ∧ w < 4294967296
theorem tag_range (d : Dict) (w : Int) : 0 ≤ tagF d w ∧ tagF d w ≤ 3 := by
  unfold tagF; split <;> (try split) <;> (try split) <;> omega

def sz (t : Int) : Nat := if t = 0 then 0 else if t = 1 then 1 else if t = 2 then 3 else 4
theorem emit_length (t w : Int) : (emit t w).length = sz t := by
  unfold emit sz; split <;> (try split) <;> (try split) <;> rfl

/-- One word read back out of the tag and what is left. -/
def unW (d : Dict) (t : Int) (r : List Int) : Option Int :=
  if t = 0 then some 0
  else if t = 3 then some (r.getD 0 0 + 256 * r.getD 1 0 + 65536 * r.getD 2 0 + 16777216 * r.getD 3 0)
  else if 16 ≤ r.getD 0 0 then none
  else if t = 2 then some (d (r.getD 0 0).toNat / 65536 * 65536 + r.getD 1 0 + 256 * r.getD 2 0)
  else some (d (r.getD 0 0).toNat)
/-- The loop of unpack over the tags: the words and what is left. -/
def un (d : Dict) : List Int → List Int → Option (List Int × List Int)
  | [], r => some ([], r)
  | t :: ts, r =>
    if r.length < sz t then none
    else match unW d t (r.take (sz t)) with
      | none => none
      | some w => match un (recF d w) ts (r.drop (sz t)) with
        | none => none
        | some (ws, r') => some (w :: ws, r')

def DictOk (d : Dict) : Prop := ∀ j, j < 16 → W (d j) ∧ (d j = 0 ∨ slotN (d j) = j)
theorem slot_lt (w : Int) : slotN w < 16 := by unfold slotN; omega
theorem recF_ok {d : Dict} (h : DictOk d) {w : Int} (hw : W w) : DictOk (recF d w) := by
  unfold recF
  split
  · exact h
  · intro j hj
    show W (if j = slotN w then w else d j) ∧ ((if j = slotN w then w else d j) = 0 ∨ slotN (if j = slotN w then w else d j) = j)
    by_cases e : j = slotN w
    · rw [if_pos e]; exact ⟨hw, .inr e.symm⟩
    · rw [if_neg e]; exact h j hj

theorem unW_emit {d : Dict} {w : Int} (hw : W w) : unW d (tagF d w) (emit (tagF d w) w) = some w := by
  have hs : ((w / 65536 % 16).toNat) = slotN w := rfl
  obtain ⟨h0, h1⟩ := hw
  have ht : tagF d w = if w = 0 then 0 else if w = d (slotN w) then 1 else if w / 65536 = d (slotN w) / 65536 then 2 else 3 := rfl
  by_cases e0 : w = 0
  · rw [if_pos e0] at ht; rw [ht]; simp [unW, e0]
  · rw [if_neg e0] at ht
    by_cases e1 : w = d (slotN w)
    · rw [if_pos e1] at ht; rw [ht]
      have : ¬ (16 ≤ w / 65536 % 16) := by omega
      simp only [unW, emit]
      simp [this, hs]
      exact e1.symm
    · rw [if_neg e1] at ht
      by_cases e2 : w / 65536 = d (slotN w) / 65536
      · rw [if_pos e2] at ht; rw [ht]
        have : ¬ (16 ≤ w / 65536 % 16) := by omega
        simp only [unW, emit]
        simp [this, hs, ← e2, b0, b1]
        omega
      · rw [if_neg e2] at ht; rw [ht]
        simp only [unW, emit]
        simp [b0, b1, b2, b3]
        omega

theorem un_run {ws : List Int} (hW : ∀ w ∈ ws, W w) : ∀ (s : St) (r : List Int), ∃ ts es, run s ws = ⟨(run s ws).d, s.ts ++ ts, s.out ++ es⟩ ∧ ts.length = ws.length ∧ (∀ t ∈ ts, 0 ≤ t ∧ t ≤ 3) ∧ un s.d ts (es ++ r) = some (ws, r) := by
  induction ws with
  | nil => intro s r; exact ⟨[], [], by simp [run], rfl, by simp, by simp [un]⟩
  | cons w ws ih =>
    intro s r
    obtain ⟨ts, es, h1, h2, h3, h4⟩ := ih (fun x hx => hW x (by simp [hx])) (step s w) r
    refine ⟨tagF s.d w :: ts, emit (tagF s.d w) w ++ es, ?_, by simp [h2], ?_, ?_⟩
    · rw [run_cons, h1]; simp [step]
    · intro t ht
      simp only [List.mem_cons] at ht
      rcases ht with rfl | ht
      · exact tag_range _ _
      · exact h3 t ht
    · have hl := emit_length (tagF s.d w) w
      have hlt : ¬ ((emit (tagF s.d w) w ++ es ++ r).length < sz (tagF s.d w)) := by simp [hl]
      have htk : (emit (tagF s.d w) w ++ es ++ r).take (sz (tagF s.d w)) = emit (tagF s.d w) w := by
        rw [List.append_assoc, List.take_left' hl]
      have hdr : (emit (tagF s.d w) w ++ es ++ r).drop (sz (tagF s.d w)) = es ++ r := by
        rw [List.append_assoc, List.drop_left' hl]
      rw [un, if_neg hlt, htk, hdr, unW_emit (hW w (by simp))]
      show (match un (step s w).d ts (es ++ r) with | none => none | some (ws, r') => some (w :: ws, r')) = _
      rw [h4]
set_option linter.unusedSimpArgs false
theorem out_mono (s : St) (ws : List Int) : s.out.length ≤ (run s ws).out.length := by
  induction ws generalizing s with
  | nil => simp [run]
  | cons w ws ih =>
    rw [run_cons]
    refine Nat.le_trans ?_ (ih (step s w))
    simp [step]

theorem run_zeros (s : St) (n : Nat) : (run s (List.replicate n 0)).out = s.out := by
  induction n generalizing s with
  | zero => rfl
  | succ n ih =>
    rw [List.replicate_succ, run_cons, ih]
    simp [step, tagF, emit]

theorem tail_le (s : St) (xs ys : List Int) (n : Nat) : (run s (xs ++ List.replicate n 0)).out.length ≤ (run s (xs ++ ys)).out.length := by
  rw [run_append, run_append, run_zeros]
  exact out_mono _ _

/-- words of rising upper halves -/
def Rising : Int → List Int → Prop
  | _, [] => True
  | u, w :: ws => u < w / 65536 ∧ Rising (w / 65536) ws
theorem rising_out (ws : List Int) : ∀ (s : St) (u : Int), 0 ≤ u → (∀ j, s.d j / 65536 ≤ u) → Rising u ws → (run s ws).out.length = s.out.length + 4 * ws.length := by
  induction ws with
  | nil => intro s u _ _ _; simp [run]
  | cons w ws ih =>
    intro s u hu hd hr
    obtain ⟨h1, h2⟩ := hr
    have hd' := hd (slotN w)
    have t3 : tagF s.d w = 3 := by
      unfold tagF
      rw [if_neg (by omega), if_neg (by intro e; rw [← e] at hd'; omega), if_neg (by omega)]
    rw [run_cons, ih (step s w) (w / 65536) (by omega) ?_ h2]
    · simp [step, t3, emit_length, sz]; omega
    · intro j
      show recF s.d w j / 65536 ≤ _
      unfold recF
      split
      · omega
      · show (if j = slotN w then w else s.d j) / 65536 ≤ _
        split
        · omega
        · have := hd j; omega

theorem rep_after {w : Int} (hw : w ≠ 0) (ws : List Int) : ∀ (s : St), s.d (slotN w) = w → (∀ x ∈ ws, x = 0 ∨ x = w) → (run s ws).out.length = s.out.length + ws.countP (· ≠ 0) := by
  induction ws with
  | nil => intro s _ _; simp [run]
  | cons x ws ih =>
    intro s hd h
    rcases h x (by simp) with rfl | rfl
    · rw [run_cons, ih (step s 0) (by simp [step, recF, hd]) (fun y hy => h y (by simp [hy]))]
      simp [step, tagF, emit, List.countP_cons]
    · have t1 : tagF s.d x = 1 := by unfold tagF; rw [if_neg hw, if_pos hd.symm]
      rw [run_cons, ih (step s x) (by simp [step, recF, hw]) (fun y hy => h y (by simp [hy]))]
      simp [step, t1, emit, List.countP_cons, hw]; omega

theorem rep_from {w : Int} (hw : w ≠ 0) (ws : List Int) : ∀ (s : St), (∀ j, s.d j = 0) → (∀ x ∈ ws, x = 0 ∨ x = w) →
    (run s ws).out.length = s.out.length + (if ws.countP (· ≠ 0) = 0 then 0 else (if w / 65536 = 0 then 3 else 4) + (ws.countP (· ≠ 0) - 1)) := by
  induction ws with
  | nil => intro s _ _; simp [run]
  | cons x ws ih =>
    intro s hd h
    rcases h x (by simp) with rfl | rfl
    · rw [run_cons, ih (step s 0) (by intro j; simp [step, recF, hd]) (fun y hy => h y (by simp [hy]))]
      simp [step, tagF, emit, List.countP_cons]
    · rw [run_cons, rep_after hw ws (step s x) (by simp [step, recF, hw]) (fun y hy => h y (by simp [hy]))]
      have hc : (x :: ws).countP (· ≠ 0) = ws.countP (· ≠ 0) + 1 := by simp [List.countP_cons, hw]
      rw [hc, if_neg (by omega)]
      have ht : tagF s.d x = if x / 65536 = 0 then 2 else 3 := by
        unfold tagF
        rw [if_neg hw, hd, if_neg hw]
        rfl
      simp only [step, ht, List.length_append, emit_length]
      split <;> simp [sz] <;> omega
/-! ### Bits -/
theorem or_low (i a c : Nat) (ha : a < 2 ^ i) (hc : c % 2 ^ i = 0) : a ||| c = a + c := by
  have h : c = 2 ^ i * (c / 2 ^ i) := by have := Nat.div_add_mod c (2 ^ i); omega
  have h2 := Nat.two_pow_add_eq_or_of_lt ha (c / 2 ^ i)
  rw [Nat.or_comm, h, ← h2, Nat.add_comm]
theorem u32_or8 (a c : Int) (ha0 : 0 ≤ a) (ha : a < 256) (hc0 : 0 ≤ c) (hc : c % 256 = 0) (h2 : c < 4294967296) : bits .or .u32 a c = a + c := by
  rw [u32_or a c ha0 (by omega) hc0 h2, or_low 8 a.toNat c.toNat (by omega) (by omega)]
  omega
theorem u32_or16 (a c : Int) (ha0 : 0 ≤ a) (ha : a < 65536) (hc0 : 0 ≤ c) (hc : c % 65536 = 0) (h2 : c < 4294967296) : bits .or .u32 a c = a + c := by
  rw [u32_or a c ha0 (by omega) hc0 h2, or_low 16 a.toNat c.toNat (by omega) (by omega)]
  omega
theorem u32_or24 (a c : Int) (ha0 : 0 ≤ a) (ha : a < 16777216) (hc0 : 0 ≤ c) (hc : c % 16777216 = 0) (h2 : c < 4294967296) : bits .or .u32 a c = a + c := by
  rw [u32_or a c ha0 (by omega) hc0 h2, or_low 24 a.toNat c.toNat (by omega) (by omega)]
  omega
/-- The word that four bytes make. -/
def wordQ (q : ByteArray) : Int := bt q 0 + 256 * bt q 1 + 65536 * bt q 2 + 16777216 * bt q 3
theorem wordQ_range (q : ByteArray) : 0 ≤ wordQ q ∧ wordQ q < 4294967296 := by
  have r0 := bt_range q 0; have r1 := bt_range q 1; have r2 := bt_range q 2; have r3 := bt_range q 3
  unfold wordQ
  omega
theorem word_or (b0 b1 b2 b3 : Int) (r0 : 0 ≤ b0 ∧ b0 ≤ 255) (r1 : 0 ≤ b1 ∧ b1 ≤ 255) (r2 : 0 ≤ b2 ∧ b2 ≤ 255) (r3 : 0 ≤ b3 ∧ b3 ≤ 255) :
    bits BinOp.or IntKind.u32 (bits BinOp.or IntKind.u32 (bits BinOp.or IntKind.u32 (b0 % 4294967296) (b1 % 4294967296 * 256 % 4294967296)) (b2 % 4294967296 * 65536 % 4294967296))
      (b3 % 4294967296 * 16777216 % 4294967296) = b0 + 256 * b1 + 65536 * b2 + 16777216 * b3 := by
  rw [show b0 % 4294967296 = b0 by omega, show b1 % 4294967296 * 256 % 4294967296 = 256 * b1 by omega, show b2 % 4294967296 * 65536 % 4294967296 = 65536 * b2 by omega,
    show b3 % 4294967296 * 16777216 % 4294967296 = 16777216 * b3 by omega]
  rw [u32_or8 b0 (256 * b1) (by omega) (by omega) (by omega) (by omega) (by omega),
    u32_or16 (b0 + 256 * b1) (65536 * b2) (by omega) (by omega) (by omega) (by omega) (by omega),
    u32_or24 (b0 + 256 * b1 + 65536 * b2) (16777216 * b3) (by omega) (by omega) (by omega) (by omega) (by omega)]
theorem wordQ_or (q : ByteArray) (h0 : 0 < q.size) (h1 : 1 < q.size) (h2 : 2 < q.size) (h3 : 3 < q.size) :
    bits BinOp.or IntKind.u32 (bits BinOp.or IntKind.u32 (bits BinOp.or IntKind.u32 ((q[0]'h0).toNat % 4294967296) ((q[1]'h1).toNat % 4294967296 * 256 % 4294967296)) ((q[2]'h2).toNat % 4294967296 * 65536 % 4294967296))
      ((q[3]'h3).toNat % 4294967296 * 16777216 % 4294967296) = wordQ q := by
  have e0 : ((q[0]'h0).toNat : Int) = bt q 0 := bt_at q 0 h0
  have e1 : ((q[1]'h1).toNat : Int) = bt q 1 := bt_at q 1 h1
  have e2 : ((q[2]'h2).toNat : Int) = bt q 2 := bt_at q 2 h2
  have e3 : ((q[3]'h3).toNat : Int) = bt q 3 := bt_at q 3 h3
  rw [e0, e1, e2, e3]
  exact word_or _ _ _ _ (bt_range q 0) (bt_range q 1) (bt_range q 2) (bt_range q 3)

/-! ### The packed form, step by step -/
def wordS (s : ByteArray) (k : Nat) : Int := bt s (4 * k) + 256 * bt s (4 * k + 1) + 65536 * bt s (4 * k + 2) + 16777216 * bt s (4 * k + 3)
theorem wordS_range (s : ByteArray) (k : Nat) : 0 ≤ wordS s k ∧ wordS s k < 4294967296 := by
  have r0 := bt_range s (4 * k); have r1 := bt_range s (4 * k + 1); have r2 := bt_range s (4 * k + 2); have r3 := bt_range s (4 * k + 3)
  unfold wordS
  omega
theorem bt_extract (s : ByteArray) (a b j : Nat) (hb : b ≤ s.size) (hj : a + j < b) : bt (s.extract a b) (j : Int) = bt s ((a + j : Nat) : Int) := by
  have h1 : (s.extract a b).size = b - a := by rw [ByteArray.size_extract]; omega
  unfold bt
  rw [dif_pos (by rw [h1]; omega), dif_pos (by omega)]
  simp only [Int.toNat_natCast]
  rw [ByteArray.getElem_extract]
theorem wordQ_extract (s : ByteArray) (k : Nat) (hs : s.size = 256) (hk : k < 64) : wordQ (s.extract (4 * k) (4 * k + 4)) = wordS s k := by
  unfold wordQ wordS
  have e0 := bt_extract s (4 * k) (4 * k + 4) 0 (by omega) (by omega)
  have e1 := bt_extract s (4 * k) (4 * k + 4) 1 (by omega) (by omega)
  have e2 := bt_extract s (4 * k) (4 * k + 4) 2 (by omega) (by omega)
  have e3 := bt_extract s (4 * k) (4 * k + 4) 3 (by omega) (by omega)
  simp only [Int.natCast_zero, Int.natCast_one, Int.natCast_add, Int.natCast_mul, Nat.add_zero] at e0 e1 e2 e3
  rw [e0, e1, show (2 : Int) = ((2 : Nat) : Int) from rfl, e2, show (3 : Int) = ((3 : Nat) : Int) from rfl, e3]
  rfl
def tb1 (ts : List Int) (j : Nat) : Int := ts.getD (4 * j) 0 + 4 * ts.getD (4 * j + 1) 0 + 16 * ts.getD (4 * j + 2) 0 + 64 * ts.getD (4 * j + 3) 0
def tb (ts : List Int) : List Int := (List.range 16).map (tb1 ts)
def packL (s : St) : List Int := 1 :: (tb s.ts ++ s.out)
def ws (s : ByteArray) (k : Nat) : List Int := (List.range k).map (wordS s)
def pst (s : ByteArray) (k : Nat) : St := run st0 (ws s k)
theorem pst_zero (s : ByteArray) : pst s 0 = st0 := rfl
theorem pst_succ (s : ByteArray) (k : Nat) : pst s (k + 1) = step (pst s k) (wordS s k) := by
  simp [pst, ws, List.range_succ, run_append, run]
theorem packL_zero : packL st0 = 1 :: List.replicate 16 0 := by decide
structure Good (s : St) (k : Nat) : Prop where
  len : s.ts.length = k
  tag : ∀ t ∈ s.ts, 0 ≤ t ∧ t ≤ 3
  dict : DictOk s.d
  byte : ∀ x ∈ s.out, 0 ≤ x ∧ x < 256
  outlen : s.out.length ≤ 4 * k
theorem emit_byte {t w : Int} (ht : 0 ≤ t) (hw : W w) : ∀ x ∈ emit t w, 0 ≤ x ∧ x < 256 := by
  obtain ⟨h0, h1⟩ := hw
  intro x hx
  unfold emit b0 b1 b2 b3 at hx
  split at hx
  · cases hx
  · split at hx
    · simp at hx; omega
    · split at hx
      · simp at hx; omega
      · simp at hx; omega
theorem sz_le (t : Int) : sz t ≤ 4 := by unfold sz; split <;> (try split) <;> (try split) <;> omega
theorem good_step {s : St} {k : Nat} (h : Good s k) {w : Int} (hw : W w) : Good (step s w) (k + 1) := by
  refine ⟨by simp [step, h.len], ?_, recF_ok h.dict hw, ?_, ?_⟩
  · intro t ht
    simp only [step, List.mem_append, List.mem_singleton] at ht
    rcases ht with ht | rfl
    · exact h.tag t ht
    · exact tag_range _ _
  · intro x hx
    simp only [step, List.mem_append] at hx
    rcases hx with hx | hx
    · exact h.byte x hx
    · exact emit_byte (tag_range _ _).1 hw x hx
  · simp only [step, List.length_append, emit_length]
    have := h.outlen
    have := sz_le (tagF s.d w)
    omega
theorem good_zero : Good st0 0 := ⟨rfl, by simp [st0], fun j _ => ⟨by simp [st0, W], .inl rfl⟩, by simp [st0], by simp [st0]⟩
theorem good_pst (s : ByteArray) (k : Nat) : Good (pst s k) k := by
  induction k with
  | zero => exact good_zero
  | succ k ih => rw [pst_succ]; exact good_step ih (wordS_range s k)

theorem getD_snoc (ts : List Int) (t : Int) (i : Nat) : (ts ++ [t]).getD i 0 = if i = ts.length then t else ts.getD i 0 := by
  rcases Nat.lt_trichotomy i ts.length with h | h | h
  · rw [if_neg (by omega)]; simp [List.getD_eq_getElem?_getD, List.getElem?_append_left h]
  · subst h; simp
  · rw [if_neg (by omega)]
    simp [List.getD_eq_getElem?_getD, List.getElem?_eq_none (show ts.length ≤ i by omega), List.getElem?_eq_none (show (ts ++ [t]).length ≤ i by simp; omega)]
theorem getD_tag {ts : List Int} (h : ∀ t ∈ ts, 0 ≤ t ∧ t ≤ 3) (i : Nat) : 0 ≤ ts.getD i 0 ∧ ts.getD i 0 ≤ 3 := by
  rw [List.getD_eq_getElem?_getD]
  rcases Nat.lt_or_ge i ts.length with h1 | h1
  · rw [List.getElem?_eq_getElem h1]; exact h _ (List.getElem_mem h1)
  · rw [List.getElem?_eq_none h1]; simp
theorem getD_past {ts : List Int} (i : Nat) (h : ts.length ≤ i) : ts.getD i 0 = 0 := by
  rw [List.getD_eq_getElem?_getD, List.getElem?_eq_none h]; rfl
theorem tb1_other (ts : List Int) (t : Int) (j : Nat) (hj : j ≠ ts.length / 4) : tb1 (ts ++ [t]) j = tb1 ts j := by
  unfold tb1
  simp only [getD_snoc]
  rw [if_neg (by omega), if_neg (by omega), if_neg (by omega), if_neg (by omega)]
theorem u8_or_low (i a c : Nat) (ha : a < 2 ^ i) (hc : c % 2 ^ i = 0) (h1 : a < 256) (h2 : c < 256) : bits .or .u8 (a : Int) (c : Int) = (a : Int) + c := by
  rw [u8_or_nat a c h1 h2, or_low i a c ha hc]
  omega
theorem tb1_here (ts : List Int) (t : Int) (hts : ∀ t ∈ ts, 0 ≤ t ∧ t ≤ 3) (ht : 0 ≤ t ∧ t ≤ 3) :
    bits .or .u8 (tb1 ts (ts.length / 4)) (t * 2 ^ (2 * (ts.length % 4)) % 256) = tb1 (ts ++ [t]) (ts.length / 4) := by
  have g0 := getD_tag hts (4 * (ts.length / 4))
  have g1 := getD_tag hts (4 * (ts.length / 4) + 1)
  have g2 := getD_tag hts (4 * (ts.length / 4) + 2)
  have g3 := getD_tag hts (4 * (ts.length / 4) + 3)
  have p0 := getD_past (ts := ts) (4 * (ts.length / 4))
  have p1 := getD_past (ts := ts) (4 * (ts.length / 4) + 1)
  have p2 := getD_past (ts := ts) (4 * (ts.length / 4) + 2)
  have p3 := getD_past (ts := ts) (4 * (ts.length / 4) + 3)
  unfold tb1
  simp only [getD_snoc]
  generalize ts.getD (4 * (ts.length / 4)) 0 = x0 at *
  generalize ts.getD (4 * (ts.length / 4) + 1) 0 = x1 at *
  generalize ts.getD (4 * (ts.length / 4) + 2) 0 = x2 at *
  generalize ts.getD (4 * (ts.length / 4) + 3) 0 = x3 at *
  obtain ⟨T, rfl⟩ := Int.eq_ofNat_of_zero_le ht.1
  obtain ⟨X0, rfl⟩ := Int.eq_ofNat_of_zero_le g0.1
  obtain ⟨X1, rfl⟩ := Int.eq_ofNat_of_zero_le g1.1
  obtain ⟨X2, rfl⟩ := Int.eq_ofNat_of_zero_le g2.1
  obtain ⟨X3, rfl⟩ := Int.eq_ofNat_of_zero_le g3.1
  have hr : ts.length % 4 = 0 ∨ ts.length % 4 = 1 ∨ ts.length % 4 = 2 ∨ ts.length % 4 = 3 := by omega
  rcases hr with hr | hr | hr | hr
  · rw [hr]
    have z0 := p0 (by omega); have z1 := p1 (by omega); have z2 := p2 (by omega); have z3 := p3 (by omega)
    rw [if_pos (by omega), if_neg (by omega), if_neg (by omega), if_neg (by omega)]
    have h := u8_or_low 0 0 T (by omega) (by omega) (by omega) (by omega)
    rw [show (X0 : Int) + 4 * X1 + 16 * X2 + 64 * X3 = ((0 : Nat) : Int) by omega, show (T : Int) * 2 ^ (2 * 0) % 256 = (T : Int) by omega, h]
    omega
  · rw [hr]
    have z1 := p1 (by omega); have z2 := p2 (by omega); have z3 := p3 (by omega)
    rw [if_neg (by omega), if_pos (by omega), if_neg (by omega), if_neg (by omega)]
    have h := u8_or_low 2 X0 (4 * T) (by omega) (by omega) (by omega) (by omega)
    rw [show (X0 : Int) + 4 * X1 + 16 * X2 + 64 * X3 = ((X0 : Nat) : Int) by omega, show (T : Int) * 2 ^ (2 * 1) % 256 = ((4 * T : Nat) : Int) by omega, h]
    omega
  · rw [hr]
    have z2 := p2 (by omega); have z3 := p3 (by omega)
    rw [if_neg (by omega), if_neg (by omega), if_pos (by omega), if_neg (by omega)]
    have h := u8_or_low 4 (X0 + 4 * X1) (16 * T) (by omega) (by omega) (by omega) (by omega)
    rw [show (X0 : Int) + 4 * X1 + 16 * X2 + 64 * X3 = ((X0 + 4 * X1 : Nat) : Int) by omega, show (T : Int) * 2 ^ (2 * 2) % 256 = ((16 * T : Nat) : Int) by omega, h]
    omega
  · rw [hr]
    have z3 := p3 (by omega)
    rw [if_neg (by omega), if_neg (by omega), if_neg (by omega), if_pos (by omega)]
    have h := u8_or_low 6 (X0 + 4 * X1 + 16 * X2) (64 * T) (by omega) (by omega) (by omega) (by omega)
    rw [show (X0 : Int) + 4 * X1 + 16 * X2 + 64 * X3 = ((X0 + 4 * X1 + 16 * X2 : Nat) : Int) by omega, show (T : Int) * 2 ^ (2 * 3) % 256 = ((64 * T : Nat) : Int) by omega, h]
    omega
theorem tb_length (ts : List Int) : (tb ts).length = 16 := by simp [tb]
theorem packL_length (s : St) : (packL s).length = 17 + s.out.length := by simp [packL, tb_length]; omega
theorem rd_packL (s : St) (j : Nat) (hj : j < 16) : rd (packL s) (1 + (j : Int)) = tb1 s.ts j := by
  unfold rd packL
  rw [show (1 + (j : Int)).toNat = j + 1 by omega]
  rw [List.getD_cons_succ]
  rw [List.getD_eq_getElem?_getD, List.getElem?_append_left (by rw [tb_length]; exact hj)]
  simp [tb, hj]
/-- What a round does to the packed form. -/
theorem packL_step (s : St) (k : Nat) (h : Good s k) (hk : k < 64) (w t : Int) (ht : t = tagF s.d w) :
    (packL s).set (1 + k / 4) (bits .or .u8 (rd (packL s) (1 + (k : Int) / 4)) (t * 2 ^ (2 * (k % 4)) % 256)) ++ emit t w = packL (step s w) := by
  subst ht
  have hl := h.len
  subst hl
  rw [show ((s.ts.length : Int) / 4) = ((s.ts.length / 4 : Nat) : Int) by omega, rd_packL s _ (by omega), tb1_here s.ts _ h.tag (tag_range _ _)]
  unfold packL step
  simp only
  rw [show 1 + s.ts.length / 4 = (s.ts.length / 4) + 1 by omega, List.set_cons_succ, List.cons_append]
  congr 1
  rw [List.set_append_left _ _ (by rw [tb_length]; omega), List.append_assoc]
  congr 1
  apply List.ext_getElem
  · simp [tb]
  · intro i h1 h2
    simp only [List.getElem_set, tb, List.getElem_map, List.getElem_range]
    by_cases e : s.ts.length / 4 = i
    · rw [if_pos e, e]
    · rw [if_neg e, tb1_other _ _ _ (by omega)]
theorem list4 (l : List Int) (h : l.length = 4) : l = [l.getD 0 0, l.getD 1 0, l.getD 2 0, l.getD 3 0] := by
  match l, h with
  | [a, b, c, d], _ => rfl
theorem wordQ_digits (q : ByteArray) : b0 (wordQ q) = bt q 0 ∧ b1 (wordQ q) = bt q 1 ∧ b2 (wordQ q) = bt q 2 ∧ b3 (wordQ q) = bt q 3 := by
  have r0 := bt_range q 0; have r1 := bt_range q 1; have r2 := bt_range q 2; have r3 := bt_range q 3
  unfold b0 b1 b2 b3 wordQ
  omega
theorem emit3_bytes (q : ByteArray) (hq : q.size = 4) : emit 3 (wordQ q) = bytesOf q := by
  obtain ⟨e0, e1, e2, e3⟩ := wordQ_digits q
  have h0 := rd_bytesOf q 0
  have h1 := rd_bytesOf q 1
  have h2 := rd_bytesOf q 2
  have h3 := rd_bytesOf q 3
  unfold rd at h0 h1 h2 h3
  rw [list4 (bytesOf q) (by rw [bytesOf_length, hq])]
  simp only [emit]
  simp
  rw [e0, e1, e2, e3, ← h0, ← h1, ← h2, ← h3]
  simp
theorem emit2_bytes (q : ByteArray) : emit 2 (wordQ q) = [wordQ q / 65536 % 16, bt q 0, bt q 1] := by
  obtain ⟨e0, e1, e2, e3⟩ := wordQ_digits q
  simp only [emit]
  simp
  exact ⟨e0, e1⟩

/-! ### Reading back -/
theorem and_high (x : Nat) (h : x < 4294967296) : x &&& 4294901760 = x / 65536 * 65536 := by
  have e1 : (4294901760 : Nat) = 65535 <<< 16 := by decide
  have e2 : x / 65536 * 65536 = (x >>> 16) <<< 16 := by rw [Nat.shiftRight_eq_div_pow, Nat.shiftLeft_eq]
  rw [e1, e2]
  apply Nat.eq_of_testBit_eq
  intro i
  rw [Nat.testBit_and, Nat.testBit_shiftLeft, Nat.testBit_shiftLeft, Nat.testBit_shiftRight]
  by_cases h16 : 16 ≤ i
  · simp only [h16, decide_true, Bool.true_and]
    rw [show 16 + (i - 16) = i by omega]
    by_cases h32 : i < 32
    · have : Nat.testBit 65535 (i - 16) = true := by
        rw [show (65535 : Nat) = 2 ^ 16 - 1 by decide, Nat.testBit_two_pow_sub_one]
        simp; omega
      rw [this, Bool.and_true]
    · have : x.testBit i = false := Nat.testBit_lt_two_pow (Nat.lt_of_lt_of_le h (by
        calc 4294967296 = 2 ^ 32 := by decide
          _ ≤ 2 ^ i := Nat.pow_le_pow_right (by decide) (by omega)))
      rw [this, Bool.false_and]
  · simp [h16]
theorem u32_and_high (x : Int) (h0 : 0 ≤ x) (h1 : x < 4294967296) : bits .and .u32 x 4294901760 = x / 65536 * 65536 := by
  rw [u32_and x 4294901760 h0 h1 (by decide) (by decide)]
  rw [show (4294901760 : Int).toNat = 4294901760 by decide, and_high _ (by omega)]
  omega
theorem high_or (x b c : Int) (h0 : 0 ≤ x) (h1 : x < 4294967296) (b0 : 0 ≤ b ∧ b ≤ 255) (c0 : 0 ≤ c ∧ c ≤ 255) :
    bits .or .u32 (bits .or .u32 (x / 65536 * 65536) (b % 4294967296)) (c % 4294967296 * 256 % 4294967296) = x / 65536 * 65536 + b + 256 * c := by
  rw [show b % 4294967296 = b by omega, show c % 4294967296 * 256 % 4294967296 = 256 * c by omega]
  obtain ⟨X, rfl⟩ := Int.eq_ofNat_of_zero_le h0
  obtain ⟨B, rfl⟩ := Int.eq_ofNat_of_zero_le b0.1
  obtain ⟨C, rfl⟩ := Int.eq_ofNat_of_zero_le c0.1
  have e1 : ((X : Int) / 65536 * 65536) = ((X / 65536 * 65536 : Nat) : Int) := by omega
  have e2 : (256 * (C : Int)) = ((256 * C : Nat) : Int) := by omega
  rw [e1, e2, u32_or_nat _ _ (by omega) (by omega)]
  have h3 : X / 65536 * 65536 ||| B = X / 65536 * 65536 + B := by rw [Nat.or_comm, or_low 16 B _ (by omega) (by omega)]; omega
  rw [u32_or_nat _ _ (by rw [h3]; omega) (by omega), Nat.or_assoc, or_low 8 B (256 * C) (by omega) (by omega), Nat.or_comm, or_low 16 _ _ (by omega) (by omega)]
  omega
/-- The tag of word i, read out of a byte. -/
theorem tag_bits (y : Int) (r : Nat) (hr : r < 4) (h0 : 0 ≤ y) (h1 : y ≤ 255) : bits .and .u8 (y / 2 ^ (2 * r)) 3 = y / 4 ^ r % 4 := by
  obtain ⟨Y, rfl⟩ := Int.eq_ofNat_of_zero_le h0
  have key : ∀ n : Nat, n < 256 → bits .and .u8 (n : Int) 3 = (n : Int) % 4 := by
    intro n hn
    have := u8_and_nat n 3 hn (by decide)
    rw [show ((3 : Nat) : Int) = 3 from rfl] at this
    rw [this, show (3 : Nat) = 2 ^ 2 - 1 by decide, Nat.and_two_pow_sub_one_eq_mod]
    omega
  have hr' : r = 0 ∨ r = 1 ∨ r = 2 ∨ r = 3 := by omega
  rcases hr' with rfl | rfl | rfl | rfl
  · rw [show ((Y : Int) / 2 ^ (2 * 0)) = ((Y : Nat) : Int) by omega, key _ (by omega)]; omega
  · rw [show ((Y : Int) / 2 ^ (2 * 1)) = ((Y / 4 : Nat) : Int) by omega, key _ (by omega)]; omega
  · rw [show ((Y : Int) / 2 ^ (2 * 2)) = ((Y / 16 : Nat) : Int) by omega, key _ (by omega)]; omega
  · rw [show ((Y : Int) / 2 ^ (2 * 3)) = ((Y / 64 : Nat) : Int) by omega, key _ (by omega)]; omega
end Go.Proofs.Ytdfmjmabdggcjaa.Pz
