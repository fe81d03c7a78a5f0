import Derived.Test.YtjdbhlmkcbgkjaaProg
import Derived.Test.YtjdbhlmkcbgkjaaWWords
import Derived.StillTailTactics
import Derived.Deep.DeepFit
import Derived.Outline
import Derived.WalkSpells
import Derived.Deep.RegionLaw
import Derived.Deep.RegionHeld3
import Derived.Deep.DeepCutAuto
import Derived.Lib.Hide
import Derived.WalkLawsBesides
namespace Go.Proofs.Ytjdbhlmkcbgkjaa.Wk
open Go.RowKit Go.Proofs.YtjdbhlmkcbgkjaaW.PrintWords
set_option linter.unusedVariables false
set_option linter.unusedSimpArgs false

/-! ### The plain state of a set of wake sources. hold is the hold plus 1, or 0 where there is none. -/
structure St where
  n : Nat
  on : Nat → Bool
  hold : Nat → Int
  now : Int
  events : Int
  alarm : Int
  set : Bool
  armed : Bool
  rem : Int

def upd {α : Type} (f : Nat → α) (i : Nat) (x : α) : Nat → α := fun j => if j = i then x else f j

/-- Numbers in range; canonical where a source is off or no alarm is set. -/
structure St.Ok (A : St) : Prop where
  n : A.n ≤ 32
  now0 : 0 ≤ A.now
  now1 : A.now ≤ 1152921504606846976
  ev0 : 0 ≤ A.events
  al0 : 0 ≤ A.alarm
  al1 : A.alarm ≤ 1152921504606846976
  alz : A.set = false → A.alarm = 0
  hd0 : ∀ i, 0 ≤ A.hold i
  hd1 : ∀ i, A.hold i ≤ 2305843009213693953
  hdz : ∀ i, A.on i = false → A.hold i = 0
  rem0 : -9223372036854775808 ≤ A.rem
  rem1 : A.rem < 9223372036854775808

/-! ### The frame: blocks outside S are as they were. -/
structure Fr (S : List Nat) (w w' : World) : Prop where
  os : w'.os = w.os
  tape : w'.tape = w.tape
  output : w'.output = w.output
  size : w.heap.size ≤ w'.heap.size
  block : ∀ k, k < w.heap.size → k ∉ S → w'.heap[k]? = w.heap[k]?

theorem Fr.refl (S : List Nat) (w : World) : Fr S w w := ⟨rfl, rfl, rfl, Nat.le_refl _, fun _ _ _ => rfl⟩
theorem Fr.trans {S : List Nat} {a b c : World} (h : Fr S a b) (k : Fr S b c) : Fr S a c :=
  ⟨k.os.trans h.os, k.tape.trans h.tape, k.output.trans h.output, Nat.le_trans h.size k.size, fun i hi hn => (k.block i (Nat.lt_of_lt_of_le hi h.size) hn).trans (h.block i hi hn)⟩
theorem Fr.mono {S T : List Nat} {a b : World} (h : Fr S a b) (hS : ∀ x, x ∈ S → x ∈ T) : Fr T a b := ⟨h.os, h.tape, h.output, h.size, fun k hk hn => h.block k hk (fun e => hn (hS k e))⟩
theorem Fr.alloc {S : List Nat} {a w : World} (h : Fr S a w) (o : Obj) : Fr S a (w.alloc o) :=
  h.trans ⟨rfl, rfl, rfl, by simp, fun k hk _ => Below.heap_alloc _ _ _ hk⟩
theorem Fr.drew {S : List Nat} {a w : World} (h : Fr S a w) : Fr S a w.drew := ⟨h.os, h.tape, h.output, h.size, h.block⟩
theorem Fr.drewN {S : List Nat} {a w : World} (h : Fr S a w) (n : Nat) : Fr S a (w.drewN n) := ⟨h.os, h.tape, h.output, h.size, h.block⟩
/-- A store into a block of S, or into one that is new since a. -/
theorem Fr.setCell {S : List Nat} {a w : World} (h : Fr S a w) {p : Addr} (hp : p.block ∈ S ∨ a.heap.size ≤ p.block) (u : Value) : Fr S a (w.setCell p u) :=
  ⟨h.os, h.tape, h.output, Nat.le_trans h.size (by simp [World.setCell]), fun k hk hn => (Below.heap_setCell _ _ _ _ (by
    intro e
    rcases hp with hp | hp
    · exact hn (e ▸ hp)
    · omega)).trans (h.block k hk hn)⟩
theorem Fr.below {S : List Nat} {B : Nat} {a w w' : World} (h : Fr S w w') (hb : Below B a w) (hB : B ≤ w.heap.size) (hS : ∀ x, x ∈ S → B ≤ x) : Below B a w' :=
  hb.trans ⟨h.os, h.tape, h.output, h.size, fun k hk => h.block k (by omega) (fun e => by have := hS k e; omega)⟩
theorem Fr.grown {S : List Nat} {a w w' : World} {row : Option Nat} (h : Fr S a w) (hg : w.grownBy w' row) (hr : ∀ k, row = some k → k ∈ S ∨ a.heap.size ≤ k) : Fr S a w' :=
  ⟨hg.os.trans h.os, hg.tape.trans h.tape, hg.output.trans h.output, Nat.le_trans h.size hg.size, fun i hi hn => (hg.block i (Nat.lt_of_lt_of_le hi h.size) (fun e => by
    rcases hr i e.symm with h1 | h1
    · exact hn h1
    · omega)).trans (h.block i hi hn)⟩

theorem cellB {w : World} {B : Nat} {cs : Array Value} {T : TypeId} (h : w.heap[B]? = some (.cells cs T (0, 0))) (j : Nat) : w.cell? ⟨B, j, none⟩ = cs[j]? := by
  simp [World.cell?, h]
theorem frozenB {w : World} {B : Nat} {cs : Array Value} {T : TypeId} (h : w.heap[B]? = some (.cells cs T (0, 0))) (j : Nat) : w.frozen? ⟨B, j, none⟩ = false := by
  simp [World.frozen?, h]
theorem setB {w : World} {B : Nat} {cs : Array Value} {T : TypeId} (h : w.heap[B]? = some (.cells cs T (0, 0))) (j : Nat) (v : Value) :
    (w.setCell ⟨B, j, none⟩ v).heap[B]? = some (.cells (cs.setIfInBounds j v) T (0, 0)) := by
  simp only [World.setCell, Array.getElem?_modify, h, if_true, Option.map_some]
  rfl
theorem setB_ne {w : World} {B : Nat} {o : Option Obj} (h : w.heap[B]? = o) (a : Addr) (v : Value) (hne : a.block ≠ B) : (w.setCell a v).heap[B]? = o := by
  rw [Below.heap_setCell _ _ _ _ (Ne.symm hne)]; exact h
theorem allocB {w : World} {B : Nat} {o : Obj} (h : w.heap[B]? = some o) (x : Obj) : (w.alloc x).heap[B]? = some o := by
  rw [Below.heap_alloc _ _ _ (Array.getElem?_eq_some_iff.1 h).1]; exact h
theorem lt_of_heap {w : World} {B : Nat} {o : Obj} (h : w.heap[B]? = some o) : B < w.heap.size := (Array.getElem?_eq_some_iff.1 h).1
theorem ne_of_type {w : World} {B C : Nat} {cs ds : Array Value} {T U : TypeId} {f g : Nat × Nat} (h : w.heap[B]? = some (.cells cs T f)) (k : w.heap[C]? = some (.cells ds U g)) (hT : T ≠ U) : B ≠ C := by
  rintro rfl
  rw [h] at k
  injection k with k
  injection k with h1 h2
  exact hT h2

/-! ### The program's memory: p is the struct, lb the list. -/
def St.held (A : St) (i : Nat) : Bool := decide (0 < A.hold i)
def St.hv (A : St) (i : Nat) : Int := if 0 < A.hold i then A.hold i - 1 else 0
def pcells (A : St) (lb cap : Nat) : Array Value := #[.slice (some ⟨lb, 0, none⟩) A.n cap, .int .u64 A.now, .int .i64 A.events, .int .u64 A.alarm, .bool A.set, .bool A.armed, .int .i64 A.rem]
structure LCells (A : St) (cs : Array Value) : Prop where
  on : ∀ i, i < A.n → cs[i * 3]? = some (.bool (A.on i))
  held : ∀ i, i < A.n → cs[i * 3 + 1]? = some (.bool (A.held i))
  hv : ∀ i, i < A.n → cs[i * 3 + 2]? = some (.int .u64 (A.hv i))
structure PMem (w : World) (p lb : Nat) (A : St) : Prop where
  obj : ∃ cap, w.heap[p]? = some (.cells (pcells A lb cap) 60 (0, 0))
  list : ∃ cs, w.heap[lb]? = some (.cells cs 63 (0, 0)) ∧ LCells A cs

/-- The reference's memory: q is the struct, ob and hb its two lists. -/
def rcells (A : St) (ob hb oc hc : Nat) (al : Int) : Array Value := #[.slice (some ⟨ob, 0, none⟩) A.n oc, .slice (some ⟨hb, 0, none⟩) A.n hc, .int .u64 al, .bool A.set, .int .i64 A.events, .bool A.armed, .int .i64 A.rem, .int .u64 A.now]
structure RMem (w : World) (q ob hb : Nat) (A : St) : Prop where
  obj : ∃ oc hc al, 0 ≤ al ∧ al ≤ 1152921504606846976 ∧ (A.set = true → al = A.alarm) ∧ w.heap[q]? = some (.cells (rcells A ob hb oc hc al) 41 (0, 0))
  olist : ∃ cs, w.heap[ob]? = some (.cells cs 4 (0, 0)) ∧ ∀ i, i < A.n → cs[i]? = some (.bool (A.on i))
  hlist : ∃ cs, w.heap[hb]? = some (.cells cs 32 (0, 0)) ∧ ∀ i, i < A.n → ∃ h, cs[i]? = some (.int .u64 h) ∧ 0 ≤ h ∧ h ≤ 2305843009213693953 ∧ (A.on i = true → h = A.hold i)

theorem PMem.keep {S : List Nat} {w w' : World} {p lb : Nat} {A : St} (h : PMem w p lb A) (hf : Fr S w w') (hp : p ∉ S) (hl : lb ∉ S) : PMem w' p lb A := by
  obtain ⟨⟨cap, h1⟩, cs, h2, h3⟩ := h
  exact ⟨⟨cap, (hf.block p (lt_of_heap h1) hp).trans h1⟩, cs, (hf.block lb (lt_of_heap h2) hl).trans h2, h3⟩
theorem RMem.keep {S : List Nat} {w w' : World} {q ob hb : Nat} {A : St} (h : RMem w q ob hb A) (hf : Fr S w w') (hq : q ∉ S) (ho : ob ∉ S) (hh : hb ∉ S) : RMem w' q ob hb A := by
  obtain ⟨⟨oc, hc, al, a0, a1, a2, h1⟩, ⟨cs, h2, h3⟩, ds, h4, h5⟩ := h
  exact ⟨⟨oc, hc, al, a0, a1, a2, (hf.block q (lt_of_heap h1) hq).trans h1⟩, ⟨cs, (hf.block ob (lt_of_heap h2) ho).trans h2, h3⟩, ds, (hf.block hb (lt_of_heap h4) hh).trans h4, h5⟩

/-! ### late, bad, start, startAll -/
def St.late (A : St) (t : Int) : Bool := decide (t < A.now) || decide (1152921504606846976 < t)
set_option maxHeartbeats 400000 in
theorem late_calls0 (q : Nat) (now t : Int) (n0 : 0 ≤ now) (n1 : now ≤ 1152921504606846976) (t0 : 0 ≤ t) (t1 : t < 18446744073709551616) (w : World) (hc : w.cell? ⟨q, 7, none⟩ = some (.int .u64 now)) :
    Calls Try.prog 42 #[.pointer (some ⟨q, 0, none⟩), .int .u64 t] w fun e w' => e = .returned (.bool (decide (t < now) || decide (1152921504606846976 < t))) ∧ w' = w := by
  go_enter Try.func42, Try.ntmps42
  go_wp2_with fail
  all_goals (go_ret; simp_all)
end Go.Proofs.Ytjdbhlmkcbgkjaa.Wk
