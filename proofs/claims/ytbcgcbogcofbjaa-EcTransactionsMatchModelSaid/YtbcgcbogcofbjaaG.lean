import Derived.Test.YtbcgcbogcofbjaaProg
import Derived.StillTailTactics
import Derived.Deep.DeepFit
import Derived.Outline
import Derived.WalkSpells
import Derived.Deep.RegionLaw
import Derived.Deep.RegionHeld3
import Derived.Deep.DeepCutAuto
import Derived.Deep.DrawnRows
import Derived.Deep.AppendSrc
import Derived.Deep.Upon
import Derived.ArgAppend
import Derived.Lib.Hide
import Derived.WalkLawsBesides
import Derived.Maps.AppendAt
import Derived.Deep.AppendLies
import Derived.Laws.MakeOwn
namespace Go.Proofs.Ytbcgcbogcofbjaa.G
open Go.RowKit
set_option linter.unusedVariables false
set_option linter.unusedSimpArgs false

/-! ### The frame: blocks outside S are as they were. -/
structure Fr (S : List Nat) (w w' : World) : Prop where
  os : w'.os = w.os
  tape : w'.tape = w.tape
  output : w'.output = w.output
  size : w.heap.size ≤ w'.heap.size
  block : ∀ k, k < w.heap.size → k ∉ S → w'.heap[k]? = w.heap[k]?
theorem Fr.refl (S : List Nat) (w : World) : Fr S w w := ⟨rfl, rfl, rfl, Nat.le_refl _, fun _ _ _ => rfl⟩
theorem Fr.trans {S : List Nat} {a b c : World} (h : Fr S a b) (k : Fr S b c) : Fr S a c :=
  ⟨k.os.trans h.os, k.tape.trans h.tape, k.output.trans h.output, Nat.le_trans h.size k.size, fun i hi hn => (k.block i (Nat.lt_of_lt_of_le hi h.size) hn).trans (h.block i hi hn)⟩
theorem Fr.mono {S T : List Nat} {a b : World} (h : Fr S a b) (hS : ∀ x, x ∈ S → x ∈ T) : Fr T a b := ⟨h.os, h.tape, h.output, h.size, fun k hk hn => h.block k hk (fun e => hn (hS k e))⟩
theorem Fr.alloc {S : List Nat} {a w : World} (h : Fr S a w) (o : Obj) : Fr S a (w.alloc o) :=
  h.trans ⟨rfl, rfl, rfl, by simp, fun k hk _ => Below.heap_alloc _ _ _ hk⟩
theorem Fr.drew {S : List Nat} {a w : World} (h : Fr S a w) : Fr S a w.drew := ⟨h.os, h.tape, h.output, h.size, h.block⟩
theorem Fr.drewN {S : List Nat} {a w : World} (h : Fr S a w) (n : Nat) : Fr S a (w.drewN n) := ⟨h.os, h.tape, h.output, h.size, h.block⟩
theorem Fr.undrew {S : List Nat} {w w' : World} (h : Fr S w.drew w') : Fr S w w' := (Fr.refl S w).drew.trans h
/-- A store into a block of S, or into one that is new since a. -/
theorem Fr.setCell {S : List Nat} {a w : World} (h : Fr S a w) {p : Addr} (hp : p.block ∈ S ∨ a.heap.size ≤ p.block) (u : Value) : Fr S a (w.setCell p u) :=
  ⟨h.os, h.tape, h.output, Nat.le_trans h.size (by simp [World.setCell]), fun k hk hn => (Below.heap_setCell _ _ _ _ (by
    intro e
    rcases hp with hp | hp
    · exact hn (e ▸ hp)
    · omega)).trans (h.block k hk hn)⟩
theorem Fr.below {S : List Nat} {B : Nat} {a w w' : World} (h : Fr S w w') (hb : Below B a w) (hB : B ≤ w.heap.size) (hS : ∀ x, x ∈ S → B ≤ x) : Below B a w' :=
  hb.trans ⟨h.os, h.tape, h.output, h.size, fun k hk => h.block k (by omega) (fun e => by have := hS k e; omega)⟩
theorem Fr.of_below {w w' : World} (h : Below w.heap.size w w') : Fr [] w w' := ⟨h.os, h.tape, h.output, h.size, fun k hk _ => h.block k hk⟩
theorem Fr.grown {S : List Nat} {a w w' : World} {row : Option Nat} (h : Fr S a w) (hg : w.grownBy w' row) (hr : ∀ k, row = some k → k ∈ S ∨ a.heap.size ≤ k) : Fr S a w' :=
  ⟨hg.os.trans h.os, hg.tape.trans h.tape, hg.output.trans h.output, Nat.le_trans h.size hg.size, fun i hi hn => (hg.block i (Nat.lt_of_lt_of_le hi h.size) (fun e => by
    rcases hr i e.symm with h1 | h1
    · exact hn h1
    · omega)).trans (h.block i hi hn)⟩
/-- A part that changes new blocks, and blocks of S, alone. -/
theorem Fr.new {S T : List Nat} {a w w' : World} (h : Fr S a w) (k : Fr T w w') (hT : ∀ x, x ∈ T → x ∈ S ∨ a.heap.size ≤ x) : Fr S a w' :=
  ⟨k.os.trans h.os, k.tape.trans h.tape, k.output.trans h.output, Nat.le_trans h.size k.size, fun i hi hn => (k.block i (Nat.lt_of_lt_of_le hi h.size) (fun e => by
    rcases hT i e with h1 | h1
    · exact hn h1
    · omega)).trans (h.block i hi hn)⟩

theorem cellB {w : World} {B : Nat} {cs : Array Value} {T : TypeId} (h : w.heap[B]? = some (.cells cs T (0, 0))) (j : Nat) : w.cell? ⟨B, j, none⟩ = cs[j]? := by
  simp [World.cell?, h]
theorem frozenB {w : World} {B : Nat} {cs : Array Value} {T : TypeId} (h : w.heap[B]? = some (.cells cs T (0, 0))) (j : Nat) : w.frozen? ⟨B, j, none⟩ = false := by
  simp [World.frozen?, h]
theorem setB {w : World} {B : Nat} {cs : Array Value} {T : TypeId} (h : w.heap[B]? = some (.cells cs T (0, 0))) (j : Nat) (v : Value) :
    (w.setCell ⟨B, j, none⟩ v).heap[B]? = some (.cells (cs.setIfInBounds j v) T (0, 0)) := by
  simp only [World.setCell, Array.getElem?_modify, h, if_true, Option.map_some]
  rfl
theorem setB_ne {w : World} {B : Nat} {o : Option Obj} (h : w.heap[B]? = o) (a : Addr) (v : Value) (hne : a.block ≠ B) : (w.setCell a v).heap[B]? = o := by
  rw [Below.heap_setCell _ _ _ _ (Ne.symm hne)]; exact h
theorem allocB {w : World} {B : Nat} {o : Obj} (h : w.heap[B]? = some o) (x : Obj) : (w.alloc x).heap[B]? = some o := by
  rw [Below.heap_alloc _ _ _ (Array.getElem?_eq_some_iff.1 h).1]; exact h
theorem drewB {w : World} {B : Nat} {o : Option Obj} (h : w.heap[B]? = o) : w.drew.heap[B]? = o := h
theorem alloc_at (w : World) {B : Nat} (o : Obj) (h : w.heap.size = B) : (w.alloc o).heap[B]? = some o := by subst h; exact heap_alloc_new w o
theorem lt_of_heap {w : World} {B : Nat} {o : Obj} (h : w.heap[B]? = some o) : B < w.heap.size := (Array.getElem?_eq_some_iff.1 h).1
theorem ne_of_type {w : World} {B C : Nat} {cs ds : Array Value} {T U : TypeId} {f g : Nat × Nat} (h : w.heap[B]? = some (.cells cs T f)) (k : w.heap[C]? = some (.cells ds U g)) (hT : T ≠ U) : B ≠ C := by
  rintro rfl
  rw [h] at k
  injection k with k
  injection k with h1 h2
  exact hT h2
theorem Fr.at {w w' : World} (h : Fr [] w w') {B : Nat} {o : Obj} (hB : w.heap[B]? = some o) : w'.heap[B]? = some o := (h.block B (lt_of_heap hB) (by simp)).trans hB
theorem Fr.atS {S : List Nat} {w w' : World} (h : Fr S w w') {B : Nat} {o : Obj} (hB : w.heap[B]? = some o) (hS : B ∉ S) : w'.heap[B]? = some o := (h.block B (lt_of_heap hB) hS).trans hB
theorem Fr.cell {S : List Nat} {w w' : World} (hf : Fr S w w') {b o : Nat} (hb : b < w.heap.size) (hS : b ∉ S) : w'.cell? ⟨b, o, none⟩ = w.cell? ⟨b, o, none⟩ := World.cell?_of_block (a := ⟨b, o, none⟩) (hf.block b hb hS)
def upd {α : Type} (f : Nat → α) (i : Nat) (x : α) : Nat → α := fun j => if j = i then x else f j
theorem upd_eq {α : Type} (f : Nat → α) (j : Nat) (x : α) : (upd f j x) j = x := by unfold upd; rw [if_pos rfl]
theorem upd_ne {α : Type} (f : Nat → α) {i j : Nat} (x : α) (h : j ≠ i) : (upd f i x) j = f j := by unfold upd; rw [if_neg h]

/-! ### A slice that lies in blocks of its own; o: its block, or none. -/
def SL (w : World) (e : TypeId) (v : Value) (o : List Nat) (xs : List Value) : Prop :=
  (v = .slice none 0 0 ∧ o = [] ∧ xs = []) ∨ ∃ g off cap cs, v = .slice (some ⟨g, off, none⟩) xs.length cap ∧ o = [g] ∧ w.heap[g]? = some (.cells cs e (0, 0)) ∧ xs.length ≤ cap ∧ off + cap ≤ cs.size ∧ cap ≤ maxLen ∧ ∀ i, i < xs.length → cs[off + i]? = xs[i]?
theorem SL.nil (w : World) (e : TypeId) : SL w e (.slice none 0 0) [] [] := .inl ⟨rfl, rfl, rfl⟩
theorem SL.keep {S : List Nat} {w w' : World} {e : TypeId} {v : Value} {o : List Nat} {xs : List Value} (h : SL w e v o xs) (hf : Fr S w w') (hS : ∀ x, x ∈ o → x ∉ S) : SL w' e v o xs := by
  rcases h with h | ⟨g, off, cap, cs, h1, rfl, h3, h4⟩
  · exact .inl h
  · exact .inr ⟨g, off, cap, cs, h1, rfl, hf.atS h3 (hS g (by simp)), h4⟩
theorem SL.form {w : World} {e : TypeId} {v : Value} {o : List Nat} {xs : List Value} (h : SL w e v o xs) : ∃ a cap, v = .slice a xs.length cap ∧ xs.length ≤ cap ∧ cap ≤ maxLen := by
  rcases h with ⟨rfl, _, rfl⟩ | ⟨g, off, cap, cs, rfl, _, _, h4, _, h6, _⟩
  · exact ⟨none, 0, rfl, Nat.le_refl _, by simp [maxLen]⟩
  · exact ⟨_, cap, rfl, h4, h6⟩
theorem SL.at {w : World} {e : TypeId} {v : Value} {o : List Nat} {xs : List Value} (h : SL w e v o xs) {i : Nat} (hi : i < xs.length) : ∃ g off cap, v = .slice (some ⟨g, off, none⟩) xs.length cap ∧ o = [g] ∧ xs.length ≤ cap ∧ w.cell? ⟨g, off + i, none⟩ = xs[i]? := by
  rcases h with ⟨_, _, rfl⟩ | ⟨g, off, cap, cs, h1, h2, h3, h4, _, _, h7⟩
  · simp at hi
  · exact ⟨g, off, cap, h1, h2, h4, (cellB h3 _).trans (h7 i hi)⟩
theorem SL.typed {w : World} {e : TypeId} {v : Value} {o : List Nat} {xs : List Value} (h : SL w e v o xs) {x : Nat} (hx : x ∈ o) : ∃ cs, w.heap[x]? = some (.cells cs e (0, 0)) := by
  rcases h with ⟨_, rfl, _⟩ | ⟨g, off, cap, cs, _, rfl, h3, _⟩
  · simp at hx
  · simp at hx; subst hx; exact ⟨cs, h3⟩
theorem SL.ne_block {w : World} {e : TypeId} {v : Value} {o : List Nat} {xs : List Value} (h : SL w e v o xs) {B : Nat} {cs : Array Value} {T : TypeId} (hB : w.heap[B]? = some (.cells cs T (0, 0))) (hT : e ≠ T) : ∀ x, x ∈ o → x ≠ B := by
  intro x hx
  obtain ⟨ds, hd⟩ := h.typed hx
  exact ne_of_type hd hB hT
/-- The first element taken off. -/
theorem SL.tail {w : World} {e : TypeId} {o : List Nat} {x : Value} {xs : List Value} {g off cap : Nat} (h : SL w e (.slice (some ⟨g, off, none⟩) (xs.length + 1) cap) o (x :: xs)) : ∀ a : Option Addr, (a = if cap = 1 then some ⟨g, off, none⟩ else some ⟨g, off + 1, none⟩) → SL w e (.slice a xs.length (cap - 1)) o xs := by
  rintro a rfl
  rcases h with ⟨h, _⟩ | ⟨g', off', cap', cs, h1, h2, h3, h4, h5, h6, h7⟩
  · cases h
  · simp at h1
    obtain ⟨⟨rfl, rfl⟩, rfl⟩ := h1
    simp at h4
    by_cases hc : cap = 1
    · rw [if_pos hc]
      exact .inr ⟨g, off, cap - 1, cs, rfl, h2, h3, by omega, by omega, by omega, fun i hi => by omega⟩
    · rw [if_neg hc]
      refine .inr ⟨g, off + 1, cap - 1, cs, rfl, h2, h3, by omega, by omega, by omega, fun i hi => ?_⟩
      have := h7 (i + 1) (by simp; omega)
      rw [show off + 1 + i = off + (i + 1) by omega, this]
      rfl

/-- What is appended: nothing at all, or cells at an address. -/
structure SrcAt (w : World) (v : Value) (news : List Value) : Prop where
  val : ∃ a c, v = .slice a news.length c ∧ (0 < news.length → ∃ ad, a = some ad ∧ ∀ j u, news[j]? = some u → w.cell? (ad.add j) = some u)
  one : ∀ u ∈ news, u.oneCell' = true
theorem SL.src {w : World} {e : TypeId} {v : Value} {o : List Nat} {xs : List Value} (h : SL w e v o xs) (h1 : ∀ u ∈ xs, u.oneCell' = true) : SrcAt w v xs := by
  refine ⟨?_, h1⟩
  rcases h with ⟨rfl, _, rfl⟩ | ⟨g, off, cap, cs, rfl, _, h3, h4, h5, h6, h7⟩
  · exact ⟨none, 0, rfl, fun h => by simp at h⟩
  · refine ⟨_, _, rfl, fun _ => ⟨_, rfl, fun j u hu => ?_⟩⟩
    have hj : j < xs.length := (List.getElem?_eq_some_iff.1 hu).1
    rw [Addr.add_lit, cellB h3, h7 j hj, hu]
theorem SrcAt.block {w : World} {B : Nat} {cs : Array Value} {T : TypeId} (h : w.heap[B]? = some (.cells cs T (0, 0))) (n c : Nat) (news : List Value) (hn : news.length = n) (hc : ∀ (j : Nat) (u : Value), news[j]? = some u → cs[j]? = some u) (h1 : ∀ u ∈ news, u.oneCell' = true) : SrcAt w (.slice (some ⟨B, 0, none⟩) n c) news :=
  ⟨⟨_, _, by rw [hn], fun _ => ⟨_, rfl, fun j u hu => by rw [Addr.add_lit, cellB h, Nat.zero_add]; exact hc j u hu⟩⟩, h1⟩

theorem heap_setCells {w : World} {B : Nat} {cs : Array Value} {T : TypeId} : ∀ (news : List Value) (k : Nat) (cs : Array Value) (w : World), w.heap[B]? = some (.cells cs T (0, 0)) → k + news.length ≤ cs.size →
    ∃ ds : Array Value, (w.setCells B k news).heap[B]? = some (.cells ds T (0, 0)) ∧ ds.size = cs.size ∧ (∀ j, j < k → ds[j]? = cs[j]?) ∧ (∀ j, j < news.length → ds[k + j]? = news[j]?) ∧ Fr [B] w (w.setCells B k news)
  | [], k, cs, w, h, _ => ⟨cs, h, rfl, fun _ _ => rfl, fun j hj => by simp at hj, Fr.refl _ _⟩
  | v :: r, k, cs, w, h, hk => by
    simp at hk
    have h1 := setB h k v
    obtain ⟨ds, a, b, c, d, e⟩ := heap_setCells (B := B) (T := T) (w := w) (cs := cs) r (k + 1) (cs.setIfInBounds k v) (w.setCell ⟨B, k, none⟩ v) h1 (by simp; omega)
    refine ⟨ds, a, by rw [b]; simp, fun j hj => ?_, fun j hj => ?_, ((Fr.refl _ _).setCell (Or.inl (by simp)) _).trans e⟩
    · rw [c j (by omega), Array.getElem?_setIfInBounds_ne (by omega)]
    · rcases j with _ | j
      · rw [Nat.add_zero, c k (by omega), Array.getElem?_setIfInBounds_self_of_lt (by omega)]; rfl
      · simp at hj
        rw [show k + (j + 1) = k + 1 + j by omega, d j hj]; rfl

theorem SL.append {P : Program} {w : World} {e : TypeId} {v : Value} {o : List Nat} {xs : List Value} (h : SL w e v o xs) (t ty : TypeId) (z : Value) (bytes : Nat) (ht : P.underlying t = some (.slice e)) (hinfo : (P.info? e).map (fun i => (i.zero, i.size, i.bytes)) = some (some z, 1, bytes)) (hzs : z.cells.size = 1)
    {src : Value} {news : List Value} (hs : SrcAt w src news) (h63 : xs.length + news.length ≤ 1000000000) (hb : (xs.length + news.length) * bytes ≤ 100000000000000) :
    ∃ v' w' o', (Builtin.append_ #[t, t] ty #[v, src]).run P w = .ok v' w' ∧ SL w' e v' o' (xs ++ news) ∧ Fr o w w' ∧ (∀ x, x ∈ o' → x ∈ o ∨ w.heap.size ≤ x) := by
  obtain ⟨i0, hi, hzz⟩ := Option.map_eq_some_iff.1 hinfo
  simp only [Prod.mk.injEq] at hzz
  obtain ⟨hz0, hz1, hz2⟩ := hzz
  obtain ⟨⟨a, c, rfl, hat⟩, h1⟩ := hs
  rcases Nat.eq_zero_or_pos news.length with hn | hn
  · have hnil : news = [] := List.eq_nil_of_length_eq_zero hn
    subst hnil
    obtain ⟨av, cap, rfl, hle, _⟩ := h.form
    have hsrc : Src P i0.size t (.slice a 0 c) 0 [] w := by
      have key : ∀ W : World, (Builtin.firstCells i0.size 0 (.slice a 0 c)).run P W = .ok ([] : List Value).toArray W := fun W => by
        cases a with
        | none => simp [Builtin.firstCells]
        | some ad => exact run_firstCells_some (P := P) W i0.size 0 ad 0 c [] (by simp) (by simp)
      exact ⟨.inl ⟨e, ht⟩, fun W => by simp [Builtin.lenOf], key w, key w.drew, by simp, by simp⟩
    have hr := run_append_nothing (P := P) w t t ty e i0 ht hi av xs.length cap hle (.slice a 0 c) hsrc
    exact ⟨_, w, o, hr, by simpa using h, Fr.refl _ _, fun x hx => .inl hx⟩
  · obtain ⟨ad, rfl, hnews⟩ := hat hn
    rcases h with ⟨rfl, rfl, rfl⟩ | ⟨g, off, cap, cs, rfl, rfl, h3, h4, h5, h6, h7⟩
    · have hb' : news.length * bytes ≤ 100000000000000 := by simpa using hb
      simp at h63
      have hr := run_append_nil (P := P) w t ty e i0 z ht hi hz0 ad news.length c news (by rw [hz1]; omega) hnews hn (by omega) (by rw [hz2]; omega)
      have hge := grownCap_ge w news.length 0 e
      have hcm := grownCap_le_maxLen w news.length 0 e (by simp only [maxLen]; omega)
      have hh := heap_alloc_new w.drew (.cells (news.toArray ++ Builtin.zeroCells z.cells (grownCap w news.length 0 e - news.length)) e)
      refine ⟨_, _, [w.heap.size], hr, .inr ⟨w.heap.size, 0, _, _, rfl, rfl, hh, hge, ?_, hcm, fun i hi => ?_⟩, ((Fr.refl _ _).drew).alloc _, fun x hx => ?_⟩
      · simp only [Array.size_append, List.size_toArray, size_zeroCells, hzs]; omega
      · simp at hi
        rw [Nat.zero_add, Array.getElem?_append_left (by simpa using hi)]
        simp
      · simp at hx; subst hx; exact .inr (Nat.le_refl _)
    · by_cases hroom : xs.length + news.length ≤ cap
      · have hk : off + xs.length + news.length ≤ cs.size := by omega
        have hr := run_append_room_cells (P := P) w t ty e i0 ht hi g off xs.length cap ad news.length c news (by rw [hz1]; omega) hnews h1 hroom
          (fun j hj => by rw [cellB h3, hz1, Nat.mul_one]; rw [Array.getElem?_eq_getElem (by omega)]; rfl) (fun j hj => frozenB h3 _)
        rw [hz1, Nat.mul_one] at hr
        obtain ⟨ds, q1, q2, q3, q4, q5⟩ := heap_setCells (B := g) (T := e) (w := w) (cs := cs) news (off + xs.length) cs w h3 hk
        refine ⟨_, _, [g], hr, .inr ⟨g, off, cap, ds, by rw [List.length_append], rfl, q1, by rw [List.length_append]; exact hroom, by omega, h6, fun i hi => ?_⟩, q5, fun x hx => .inl hx⟩
        · rw [List.length_append] at hi
          by_cases hlt : i < xs.length
          · rw [q3 _ (by omega), h7 i hlt, List.getElem?_append_left hlt]
          · rw [show off + i = off + xs.length + (i - xs.length) by omega, q4 _ (by omega), List.getElem?_append_right (by omega)]
      · obtain ⟨v', w', hr, hown, hg⟩ := run_append_arg_grows (P := P) w t ty e i0 z 1 bytes ht hi hz0 hz1 hz2 hzs (by omega) ⟨g, off, none⟩ xs.length cap xs (by omega)
          (fun j u hu => by rw [Addr.add_lit, cellB h3]; rw [h7 j (List.getElem?_eq_some_iff.1 hu).1, hu]) ad news.length c news (by omega) hnews (by omega) (by simp only [maxLen]; omega) (by omega)
        rcases hown.2 with ⟨_, h0⟩ | ⟨g', cap', cur, rfl, hgb, hgh, hle, hml, hsz, htk⟩
        · omega
        · refine ⟨_, w', [g'], hr, .inr ⟨g', 0, cap', cur, by rw [List.length_append], rfl, hgh, by rw [List.length_append]; exact hle, by omega, hml, fun i hi => ?_⟩, (Fr.refl _ _).grown hg (by intro k hk; cases hk), fun x hx => ?_⟩
          · rw [List.length_append] at hi
            have h9 : (cur.toList.take ((xs.length + news.length) * 1))[i]? = (xs ++ news)[i]? := by rw [htk]
            rw [List.getElem?_take_of_lt (by omega)] at h9
            rw [Nat.zero_add, ← h9]
            simp
          · simp at hx; subst hx; exact .inr hgb

theorem wp_append_sl {P : Program} {w : World} {o : Oper} {a : Act} {K : Act → World → Prop} {Q : Exit → Act → World → Prop} (s x : Operand) (t : TypeId)
    (ho : o.op = .call { callee := .builtin .append, args := #[s, x], argTypes := #[t, t] }) (e : TypeId) (z : Value) (bytes : Nat) (ht : P.underlying t = some (.slice e)) (hinfo : (P.info? e).map (fun i => (i.zero, i.size, i.bytes)) = some (some z, 1, bytes)) (hzs : z.cells.size = 1)
    {v src : Value} {ov : List Nat} {xs news : List Value} (hs : a.eval s = v) (hx : a.eval x = src) (h : SL w e v ov xs) (hsrc : SrcAt w src news) (h63 : xs.length + news.length ≤ 1000000000) (hb : (xs.length + news.length) * bytes ≤ 100000000000000)
    (hK : ∀ v' w' o', SL w' e v' o' (xs ++ news) → Fr ov w w' → (∀ x, x ∈ o' → x ∈ ov ∨ w.heap.size ≤ x) → K (a.put o.dst v') w') : o.wp P a w K Q := by
  obtain ⟨v', w', o', hr, h1, h2, h3⟩ := h.append (P := P) t o.type z bytes ht hinfo hzs hsrc h63 hb
  unfold Oper.wp execOp
  simp only [ho, resolve, invoke, builtin, Sem.run_bind, Sem.run_pure, Result.andThen_ok, List.map_toArray, List.map_cons, List.map_nil, hs, hx, hr]
  exact hK v' w' o' h1 h2 h3
theorem wpList_append_sl {P : Program} {w : World} {ops : Array Oper} {rest : List Oper} {o : Oper} {a : Act} {Q : Exit → Act → World → Prop} (hgd : o.guard = none) (s x : Operand) (t : TypeId)
    (ho : o.op = .call { callee := .builtin .append, args := #[s, x], argTypes := #[t, t] }) (e : TypeId) (z : Value) (bytes : Nat) (ht : P.underlying t = some (.slice e)) (hinfo : (P.info? e).map (fun i => (i.zero, i.size, i.bytes)) = some (some z, 1, bytes)) (hzs : z.cells.size = 1)
    {v src : Value} {ov : List Nat} {xs news : List Value} (hs : a.eval s = v) (hx : a.eval x = src) (h : SL w e v ov xs) (hsrc : SrcAt w src news) (h63 : xs.length + news.length ≤ 1000000000) (hb : (xs.length + news.length) * bytes ≤ 100000000000000)
    (hK : ∀ v' w' o', SL w' e v' o' (xs ++ news) → Fr ov w w' → (∀ x, x ∈ o' → x ∈ ov ∨ w.heap.size ≤ x) → wpList P ops Q rest (a.put o.dst v') w') : wpList P ops Q (o :: rest) a w :=
  wpList_plain hgd fun _ hK' => wp_append_sl s x t ho e z bytes ht hinfo hzs hs hx h hsrc h63 hb fun v' w' o' h1 h2 h3 => hK' _ _ (hK v' w' o' h1 h2 h3)
theorem step_append_sl {P : Program} {w : World} {ops : Array Oper} {o : Oper} {a : Act} {K : Act → World → Prop} {Q : Exit → Act → World → Prop} {E : Prop} (hgd : o.guard = none) (s x : Operand) (t : TypeId)
    (ho : o.op = .call { callee := .builtin .append, args := #[s, x], argTypes := #[t, t] }) (e : TypeId) (z : Value) (bytes : Nat) (ht : P.underlying t = some (.slice e)) (hinfo : (P.info? e).map (fun i => (i.zero, i.size, i.bytes)) = some (some z, 1, bytes)) (hzs : z.cells.size = 1)
    {v src : Value} {ov : List Nat} {xs news : List Value} (hs : a.eval s = v) (hx : a.eval x = src) (h : SL w e v ov xs) (hsrc : SrcAt w src news) (h63 : xs.length + news.length ≤ 1000000000) (hb : (xs.length + news.length) * bytes ≤ 100000000000000)
    (hK : ∀ v' w' o', SL w' e v' o' (xs ++ news) → Fr ov w w' → (∀ x, x ∈ o' → x ∈ ov ∨ w.heap.size ≤ x) → K (a.put o.dst v') w') : if Region.wanted o (yielded ops a.tmps) = true then Oper.wp P o a w K Q else E := by
  have hw : Region.wanted o (yielded ops a.tmps) = true := by simp [Region.wanted, hgd]
  rw [if_pos hw]
  exact wp_append_sl s x t ho e z bytes ht hinfo hzs hs hx h hsrc h63 hb hK
end Go.Proofs.Ytbcgcbogcofbjaa.G
