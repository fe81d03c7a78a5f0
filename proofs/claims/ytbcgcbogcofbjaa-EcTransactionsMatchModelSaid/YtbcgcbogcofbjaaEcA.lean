import Derived.Test.YtbcgcbogcofbjaaG
namespace Go.Proofs.Ytbcgcbogcofbjaa.Ec
open Go.RowKit Go.Proofs.Ytbcgcbogcofbjaa.G
set_option linter.unusedVariables false
set_option linter.unusedSimpArgs false

/-! ### The plain state of a controller -/
structure Ct where
  delay : Int
  now : Int
  regs : Nat → Int
  busy : Bool
  command : Bool
  v : Int
  due : Int
  full : Bool
  out : Int
  queue : List Int
  cmd : Int
  arg : Option Int
def Byte (x : Int) : Prop := 0 ≤ x ∧ x < 256
structure Ct.Ok (C : Ct) : Prop where
  d0 : 0 ≤ C.delay
  d1 : C.delay < 18446744073709551616
  n0 : 0 ≤ C.now
  n1 : C.now < 18446744073709551616
  r : ∀ i, Byte (C.regs i)
  v : Byte C.v
  t0 : 0 ≤ C.due
  t1 : C.due < 18446744073709551616
  o : Byte C.out
  q : ∀ x ∈ C.queue, Byte x
  ql : C.queue.length ≤ 16
  cmd : C.cmd = 0 ∨ C.cmd = 128 ∨ C.cmd = 129
  arg : ∀ a, C.arg = some a → Byte a
  argz : C.cmd ≠ 129 → C.arg = none

def after (t n : Int) : Int := if 18446744073709551615 - t < n then 18446744073709551615 else t + n
theorem after_bd {t n : Int} (t0 : 0 ≤ t) (t1 : t < 18446744073709551616) (n0 : 0 ≤ n) (n1 : n < 18446744073709551616) : 0 ≤ after t n ∧ after t n < 18446744073709551616 := by
  unfold after; split <;> omega
def outS (C : Ct) (x : Int) : Ct := { C with full := true, out := x }
def cmdS (C : Ct) (v : Int) : Ct :=
  if v = 128 ∨ v = 129 then { C with cmd := v, arg := none }
  else if v = 132 then { C with cmd := 0, arg := none, full := true, out := C.queue.headD 0, queue := C.queue.tail }
  else { C with cmd := 0, arg := none }
def argS (C : Ct) : Ct := match C.arg with
  | none => { C with arg := some C.v }
  | some a => { C with regs := upd C.regs a.toNat C.v, cmd := 0, arg := none }
def effS (C : Ct) : Ct :=
  if C.command = true then cmdS C C.v
  else if C.cmd = 128 then { C with full := true, out := C.regs C.v.toNat, cmd := 0 }
  else if C.cmd = 129 then argS C
  else C
def nowS (C : Ct) (t : Int) : Ct := { C with now := max C.now t }
def Ct.adv (C : Ct) (t : Int) : Ct := if C.busy = true ∧ C.due ≤ max C.now t then effS { nowS C t with busy := false } else nowS C t
def writeS (C : Ct) (t v : Int) (b : Bool) : Ct :=
  if (C.adv t).busy = true then C.adv t else { C.adv t with busy := true, command := b, v := v, due := after (C.adv t).now C.delay }
def bitS (b : Bool) (k : Int) : Int := if b = true then k else 0
def statusV (C : Ct) : Int := bitS C.full 1 + bitS C.busy 2 + bitS (!C.queue.isEmpty) 32
def readV (C : Ct) : Int := if C.full = true then C.out else 0
def readS (C : Ct) : Ct := { C with full := false }
def raiseE (C : Ct) (q : Int) : Int := if q = 0 then 1 else if 16 ≤ C.queue.length then 8 else 0
def raiseS (C : Ct) (q : Int) : Ct := if raiseE C q = 0 then { C with queue := C.queue ++ [q] } else C
def setS (C : Ct) (i : Nat) (x : Int) : Ct := { C with regs := upd C.regs i x }
def Ct.new (d : Int) : Ct := { delay := d, now := 0, regs := fun _ => 0, busy := false, command := false, v := 0, due := 0, full := false, out := 0, queue := [], cmd := 0, arg := none }

theorem byte0 : Byte 0 := ⟨by omega, by omega⟩
theorem upd_byte {r : Nat → Int} (h : ∀ i, Byte (r i)) (j : Nat) {x : Int} (hx : Byte x) : ∀ i, Byte (upd r j x i) := fun i => by
  unfold upd; split
  · exact hx
  · exact h i
theorem cmd_ok {C : Ct} (h : C.Ok) (v : Int) : (cmdS C v).Ok := by
  unfold cmdS
  split
  · rename_i hv
    exact ⟨h.d0, h.d1, h.n0, h.n1, h.r, h.v, h.t0, h.t1, h.o, h.q, h.ql, by show v = 0 ∨ v = 128 ∨ v = 129; omega, (fun a ha => by cases ha), fun _ => rfl⟩
  · split
    · refine ⟨h.d0, h.d1, h.n0, h.n1, h.r, h.v, h.t0, h.t1, ?_, fun x hx => h.q x (List.mem_of_mem_tail hx), ?_, .inl rfl, (fun a ha => by cases ha), fun _ => rfl⟩
      · show Byte (C.queue.headD 0)
        cases hq : C.queue with
        | nil => exact byte0
        | cons x r => exact h.q x (by rw [hq]; simp)
      · show C.queue.tail.length ≤ 16
        have := h.ql
        simp; omega
    · exact ⟨h.d0, h.d1, h.n0, h.n1, h.r, h.v, h.t0, h.t1, h.o, h.q, h.ql, .inl rfl, (fun a ha => by cases ha), fun _ => rfl⟩
theorem eff_ok {C : Ct} (h : C.Ok) : (effS C).Ok := by
  unfold effS
  split
  · exact cmd_ok h _
  · split
    · rename_i h1 h2
      exact ⟨h.d0, h.d1, h.n0, h.n1, h.r, h.v, h.t0, h.t1, h.r _, h.q, h.ql, .inl rfl, h.arg, fun _ => h.argz (by omega)⟩
    · split
      · rename_i h1 h2 h3
        unfold argS
        split
        · exact ⟨h.d0, h.d1, h.n0, h.n1, h.r, h.v, h.t0, h.t1, h.o, h.q, h.ql, h.cmd, (fun a ha => by injection ha with ha; subst ha; exact h.v), fun g => absurd h3 g⟩
        · exact ⟨h.d0, h.d1, h.n0, h.n1, upd_byte h.r _ h.v, h.v, h.t0, h.t1, h.o, h.q, h.ql, .inl rfl, (fun a ha => by cases ha), fun _ => rfl⟩
      · exact h
theorem now_ok {C : Ct} (h : C.Ok) {t : Int} (t0 : 0 ≤ t) (t1 : t < 18446744073709551616) : (nowS C t).Ok :=
  ⟨h.d0, h.d1, by show 0 ≤ max C.now t; have := h.n0; omega, by show max C.now t < _; have := h.n1; omega, h.r, h.v, h.t0, h.t1, h.o, h.q, h.ql, h.cmd, h.arg, h.argz⟩
theorem busy_ok {C : Ct} (h : C.Ok) (b : Bool) : Ct.Ok { C with busy := b } := ⟨h.d0, h.d1, h.n0, h.n1, h.r, h.v, h.t0, h.t1, h.o, h.q, h.ql, h.cmd, h.arg, h.argz⟩
theorem adv_ok {C : Ct} (h : C.Ok) {t : Int} (t0 : 0 ≤ t) (t1 : t < 18446744073709551616) : (C.adv t).Ok := by
  unfold Ct.adv
  split
  · exact eff_ok (busy_ok (now_ok h t0 t1) false)
  · exact now_ok h t0 t1
theorem write_ok {C : Ct} (h : C.Ok) {t v : Int} (t0 : 0 ≤ t) (t1 : t < 18446744073709551616) (hv : Byte v) (b : Bool) : (writeS C t v b).Ok := by
  have g := adv_ok h t0 t1
  unfold writeS
  split
  · exact g
  · have ha := after_bd g.n0 g.n1 h.d0 h.d1
    exact ⟨g.d0, g.d1, g.n0, g.n1, g.r, hv, ha.1, ha.2, g.o, g.q, g.ql, g.cmd, g.arg, g.argz⟩
theorem read_ok {C : Ct} (h : C.Ok) : (readS C).Ok := ⟨h.d0, h.d1, h.n0, h.n1, h.r, h.v, h.t0, h.t1, h.o, h.q, h.ql, h.cmd, h.arg, h.argz⟩
theorem raise_ok {C : Ct} (h : C.Ok) {q : Int} (hq : Byte q) : (raiseS C q).Ok := by
  unfold raiseS
  split
  · rename_i he
    have hl : ¬ 16 ≤ C.queue.length := by
      intro hl
      unfold raiseE at he
      split at he
      · omega
      · omega
    refine ⟨h.d0, h.d1, h.n0, h.n1, h.r, h.v, h.t0, h.t1, h.o, fun x hx => ?_, by show (C.queue ++ [q]).length ≤ 16; simp; omega, h.cmd, h.arg, h.argz⟩
    rcases List.mem_append.1 hx with hx | hx
    · exact h.q x hx
    · simp at hx; subst hx; exact hq
  · exact h
theorem set_ok {C : Ct} (h : C.Ok) (i : Nat) {x : Int} (hx : Byte x) : (setS C i x).Ok := ⟨h.d0, h.d1, h.n0, h.n1, upd_byte h.r i hx, h.v, h.t0, h.t1, h.o, h.q, h.ql, h.cmd, h.arg, h.argz⟩
theorem new_ok {d : Int} (d0 : 0 ≤ d) (d1 : d < 18446744073709551616) : (Ct.new d).Ok :=
  ⟨d0, d1, Int.le_refl _, by show (0 : Int) < _; omega, fun _ => byte0, byte0, Int.le_refl _, by show (0 : Int) < _; omega, byte0, (fun x hx => by cases hx), by show 0 ≤ 16; omega, .inl rfl, fun a ha => (by cases ha), fun _ => rfl⟩

/-! ### The memory of both controllers: 258 cells alike, nine more -/
def lo (d n : Int) (r : Nat → Int) (k : Nat) : Value := if k = 0 then .int .u64 d else if k = 1 then .int .u64 n else .int .u8 (r (k - 2))
def cf (d n : Int) (r : Nat → Int) (hi : List Value) (k : Nat) : Value := if k < 258 then lo d n r k else hi.getD (k - 258) undef
structure Blk (w : World) (p : Nat) (T : TypeId) (d n : Int) (r : Nat → Int) (hi : List Value) : Prop where
  b : ∃ cs, w.heap[p]? = some (.cells cs T (0, 0)) ∧ cs.size = 267 ∧ ∀ k, k < 267 → cs[k]? = some (cf d n r hi k)
  l : hi.length = 9
section
variable {w w' : World} {p : Nat} {T : TypeId} {d n : Int} {r : Nat → Int} {hi : List Value}
theorem Blk.cell (h : Blk w p T d n r hi) (k : Nat) (hk : k < 267) : w.cell? ⟨p, k, none⟩ = some (cf d n r hi k) := by
  obtain ⟨cs, h1, h2, h3⟩ := h.b
  exact (cellB h1 k).trans (h3 k hk)
theorem Blk.frozen (h : Blk w p T d n r hi) (k : Nat) : w.frozen? ⟨p, k, none⟩ = false := by
  obtain ⟨cs, h1, _⟩ := h.b
  exact frozenB h1 k
theorem Blk.lt (h : Blk w p T d n r hi) : p < w.heap.size := by
  obtain ⟨cs, h1, _⟩ := h.b
  exact lt_of_heap h1
theorem Blk.typed (h : Blk w p T d n r hi) : ∃ cs, w.heap[p]? = some (.cells cs T (0, 0)) := by
  obtain ⟨cs, h1, _⟩ := h.b
  exact ⟨cs, h1⟩
theorem Blk.reg (h : Blk w p T d n r hi) (i : Nat) (hi' : i < 256) : w.cell? ⟨p, 2 + i, none⟩ = some (.int .u8 (r i)) := by
  rw [h.cell (2 + i) (by omega)]
  unfold cf lo
  rw [if_pos (by omega), if_neg (by omega), if_neg (by omega), Nat.add_sub_cancel_left]
theorem Blk.keep {S : List Nat} (h : Blk w p T d n r hi) (hf : Fr S w w') (hS : p ∉ S) : Blk w' p T d n r hi := by
  obtain ⟨⟨cs, h1, h2⟩, hl⟩ := h
  exact ⟨⟨cs, hf.atS h1 hS, h2⟩, hl⟩
theorem Blk.store (h : Blk w p T d n r hi) (j : Nat) (hj : j < 267) (v : Value) {d' n' : Int} {r' : Nat → Int} {hi' : List Value} (hl : hi'.length = 9) (he : ∀ k, k < 267 → cf d' n' r' hi' k = if k = j then v else cf d n r hi k) : Blk (w.setCell ⟨p, j, none⟩ v) p T d' n' r' hi' := by
  obtain ⟨⟨cs, h1, h2, h3⟩, _⟩ := h
  refine ⟨⟨_, setB h1 j v, by simp [h2], fun k hk => ?_⟩, hl⟩
  rw [he k hk]
  by_cases e : k = j
  · subst e
    rw [if_pos rfl, Array.getElem?_setIfInBounds_self_of_lt (by omega)]
  · rw [if_neg e, Array.getElem?_setIfInBounds_ne (by omega)]
    exact h3 k hk
theorem Blk.setHi (h : Blk w p T d n r hi) (j : Nat) (hj : j < 267) (hj0 : 258 ≤ j) (v : Value) {hi' : List Value} (e : hi' = hi.set (j - 258) v) : Blk (w.setCell ⟨p, j, none⟩ v) p T d n r hi' := by
  subst e
  refine h.store j hj v (by rw [List.length_set]; exact h.l) fun k hk => ?_
  unfold cf
  by_cases hk2 : k < 258
  · rw [if_pos hk2, if_neg (by omega), if_pos hk2]
  · rw [if_neg hk2]
    by_cases e : k = j
    · subst e
      have := h.l
      rw [if_pos rfl, List.getD_eq_getElem?_getD, List.getElem?_set_self (by omega)]; rfl
    · rw [if_neg e, if_neg hk2, List.getD_eq_getElem?_getD, List.getD_eq_getElem?_getD, List.getElem?_set_ne (by omega)]
theorem Blk.setNow (h : Blk w p T d n r hi) (m : Int) : Blk (w.setCell ⟨p, 1, none⟩ (.int .u64 m)) p T d m r hi := by
  refine h.store 1 (by omega) _ h.l fun k hk => ?_
  unfold cf lo
  by_cases hk2 : k < 258
  · rw [if_pos hk2]
    by_cases e : k = 1
    · subst e; rfl
    · rw [if_neg e, if_neg e, if_pos hk2, if_neg e]
  · rw [if_neg hk2, if_neg (by omega), if_neg hk2]
theorem Blk.setReg (h : Blk w p T d n r hi) (i : Nat) (hi' : i < 256) (x : Int) : Blk (w.setCell ⟨p, 2 + i, none⟩ (.int .u8 x)) p T d n (upd r i x) hi := by
  refine h.store (2 + i) (by omega) _ h.l fun k hk => ?_
  unfold cf lo
  by_cases hk2 : k < 258
  · rw [if_pos hk2]
    by_cases e : k = 2 + i
    · subst e
      rw [if_pos rfl, if_neg (by omega), if_neg (by omega), Nat.add_sub_cancel_left, upd_eq]
    · rw [if_neg e, if_pos hk2]
      by_cases e0 : k = 0
      · rw [if_pos e0, if_pos e0]
      · rw [if_neg e0, if_neg e0]
        by_cases e1 : k = 1
        · rw [if_pos e1, if_pos e1]
        · rw [if_neg e1, if_neg e1, upd_ne r x (by omega)]
  · rw [if_neg hk2, if_neg (by omega), if_neg hk2]
end
def bytes (l : List Int) : List Value := l.map (Value.int .u8)
theorem bytes_len (l : List Int) : (bytes l).length = l.length := by simp [bytes]
theorem bytes_one (l : List Int) : ∀ u ∈ bytes l, u.oneCell' = true := by
  intro u hu
  unfold bytes at hu
  obtain ⟨x, _, rfl⟩ := List.mem_map.1 hu
  rfl
def phi (C : Ct) (qv av : Value) : List Value := [.bool C.busy, .bool C.command, .int .u8 C.v, .int .u64 C.due, .bool C.full, .int .u8 C.out, qv, .int .u8 C.cmd, av]
def addrV (a : Option Int) : Int := match a with | none => -1 | some x => x
def rhi (C : Ct) (qv : Value) : List Value := [.bool C.busy, .int .u8 C.v, .bool C.command, .int .u64 C.due, .bool C.full, .int .u8 C.out, qv, .int .u8 C.cmd, .int .i64 (addrV C.arg)]
structure PCq (w : World) (p : Nat) (C : Ct) (qv av : Value) (qo ao : List Nat) : Prop where
  blk : Blk w p 66 C.delay C.now C.regs (phi C qv av)
  q : SL w 5 qv qo (bytes C.queue)
  a : C.cmd = 129 → SL w 5 av ao (bytes C.arg.toList)
  az : C.cmd ≠ 129 → ao = []
  ap : ∀ x, x ∈ qo → x ∉ ao
def PC (w : World) (p : Nat) (O : List Nat) (C : Ct) : Prop := ∃ qv av qo ao, O = qo ++ ao ∧ PCq w p C qv av qo ao
structure RCq (w : World) (p : Nat) (C : Ct) (qv : Value) (O : List Nat) : Prop where
  blk : Blk w p 72 C.delay C.now C.regs (rhi C qv)
  q : SL w 5 qv O (bytes C.queue)
def RC (w : World) (p : Nat) (O : List Nat) (C : Ct) : Prop := ∃ qv, RCq w p C qv O
theorem PCq.keep {S : List Nat} {w w' : World} {p : Nat} {C : Ct} {qv av : Value} {qo ao : List Nat} (h : PCq w p C qv av qo ao) (hf : Fr S w w') (hp : p ∉ S) (hO : ∀ x, x ∈ qo ++ ao → x ∉ S) : PCq w' p C qv av qo ao :=
  ⟨h.blk.keep hf hp, h.q.keep hf (fun x hx => hO x (List.mem_append_left _ hx)), fun e => (h.a e).keep hf (fun x hx => hO x (List.mem_append_right _ hx)), h.az, h.ap⟩
theorem PC.keep {S : List Nat} {w w' : World} {p : Nat} {O : List Nat} {C : Ct} (h : PC w p O C) (hf : Fr S w w') (hp : p ∉ S) (hO : ∀ x, x ∈ O → x ∉ S) : PC w' p O C := by
  obtain ⟨qv, av, qo, ao, rfl, h⟩ := h
  exact ⟨qv, av, qo, ao, rfl, h.keep hf hp hO⟩
theorem RC.keep {S : List Nat} {w w' : World} {p : Nat} {O : List Nat} {C : Ct} (h : RC w p O C) (hf : Fr S w w') (hp : p ∉ S) (hO : ∀ x, x ∈ O → x ∉ S) : RC w' p O C := by
  obtain ⟨qv, h⟩ := h
  exact ⟨qv, h.blk.keep hf hp, h.q.keep hf hO⟩
theorem PCq.notp {w : World} {p : Nat} {C : Ct} {qv av : Value} {qo ao : List Nat} (h : PCq w p C qv av qo ao) : p ∉ qo ∧ p ∉ ao := by
  obtain ⟨cs, hcs⟩ := h.blk.typed
  refine ⟨fun hx => h.q.ne_block hcs (by decide) p hx rfl, fun hx => ?_⟩
  by_cases e : C.cmd = 129
  · exact (h.a e).ne_block hcs (by decide) p hx rfl
  · rw [h.az e] at hx; simp at hx
theorem RCq.notp {w : World} {p : Nat} {C : Ct} {qv : Value} {O : List Nat} (h : RCq w p C qv O) : p ∉ O := by
  obtain ⟨cs, hcs⟩ := h.blk.typed
  exact fun hx => h.q.ne_block hcs (by decide) p hx rfl
end Go.Proofs.Ytbcgcbogcofbjaa.Ec
