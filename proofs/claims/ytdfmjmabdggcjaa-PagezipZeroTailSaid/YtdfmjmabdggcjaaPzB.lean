import Derived.Test.YtdfmjmabdggcjaaPzA
import Derived.WalkSpells
import Derived.Deep.RegionLaw
import Derived.Deep.RegionHeld3
import Derived.Test.YtdfmjmabdggcjaaPzM
import Derived.Lib.Hide
import Derived.WalkLawsBesides
namespace Go.Proofs.Ytdfmjmabdggcjaa.Pz
open Go.RowKit Go.Proofs.YtdfmjmabdggcjaaW.PrintWords
set_option linter.unusedVariables false
set_option linter.unusedSimpArgs false

theorem cellB {w : World} {B : Nat} {cs : Array Value} {T : TypeId} (h : w.heap[B]? = some (.cells cs T (0, 0))) (j : Nat) : w.cell? ⟨B, j, none⟩ = cs[j]? := by
  simp [World.cell?, h]
theorem frozenB {w : World} {B : Nat} {cs : Array Value} {T : TypeId} (h : w.heap[B]? = some (.cells cs T (0, 0))) (j : Nat) : w.frozen? ⟨B, j, none⟩ = false := by
  simp [World.frozen?, h]
theorem setB {w : World} {B : Nat} {cs : Array Value} {T : TypeId} (h : w.heap[B]? = some (.cells cs T (0, 0))) (j : Nat) (v : Value) :
    (w.setCell ⟨B, j, none⟩ v).heap[B]? = some (.cells (cs.setIfInBounds j v) T (0, 0)) := by
  simp only [World.setCell, Array.getElem?_modify, h, if_true, Option.map_some]
  rfl
def dcells (d : Nat → Int) : Array Value := ((List.range 16).map fun j => Value.int .u32 (d j)).toArray
theorem dcells_at (d : Nat → Int) (j : Nat) (hj : j < 16) : (dcells d)[j]? = some (.int .u32 (d j)) := by
  simp [dcells, hj]
theorem dcells_set (d : Nat → Int) (j : Nat) (hj : j < 16) (x : Int) : (dcells d).setIfInBounds j (.int .u32 x) = dcells (fun i => if i = j then x else d i) := by
  simp only [dcells, List.setIfInBounds_toArray]
  congr 1
  apply List.ext_getElem
  · simp
  · intro i h1 h2
    simp only [List.getElem_set, List.getElem_map, List.getElem_range]
    by_cases e : j = i
    · subst e; simp
    · rw [if_neg e, if_neg (Ne.symm e)]



theorem make17 (W : World) : (Instr.makeSlice 31 (.int .i64 17) (.int .i64 17)).run Try.prog W = .ok (.slice (some ⟨W.heap.size, 0, none⟩) 17 17) (W.alloc (.cells #[.int .u8 0, .int .u8 0, .int .u8 0, .int .u8 0, .int .u8 0, .int .u8 0, .int .u8 0, .int .u8 0, .int .u8 0, .int .u8 0, .int .u8 0, .int .u8 0, .int .u8 0, .int .u8 0, .int .u8 0, .int .u8 0, .int .u8 0] 5)) := by kernel_rfl

theorem below_alloc_at {B : Nat} {w W : World} (h : Below B w W) (o : Obj) (hB : B ≤ W.heap.size) : Below B w (W.alloc o) := h.alloc hB o
theorem own_ne {w : World} {base g n cap : Nat} {e T : TypeId} {sz : Nat} {xs : List Value} {B : Nat} {cs : Array Value} {fr : Nat × Nat} (h : w.ownsRow base e sz (.slice (some ⟨g, 0, none⟩) n cap) n xs) (hd : w.heap[B]? = some (.cells cs T fr)) (hT : e ≠ T) : g ≠ B := by
  rintro rfl
  rcases h.2 with ⟨h', _⟩ | ⟨g', cap', cur, h', _, hh, _⟩
  · cases h'
  · have : g = g' := by injection h' with h'; injection h' with h'; injection h' with h'
    subst this
    rw [hd] at hh
    injection hh with hh
    injection hh with h1 h2
    exact hT h2.symm
theorem heap_setCell_ne (w : World) (a : Addr) (v : Value) (B : Nat) (h : a.block ≠ B) : (w.setCell a v).heap[B]? = w.heap[B]? := by
  simp only [World.setCell, Array.getElem?_modify]
  rw [if_neg h]
theorem grown_block {w w1 : World} {base n : Nat} {e T : TypeId} {sz : Nat} {v : Value} {xs : List Value} {B : Nat} {cs : Array Value} {fr : Nat × Nat} (h : w.ownsRow base e sz v n xs) (hd : w.heap[B]? = some (.cells cs T fr)) (hT : e ≠ T) (hg : w.grownBy w1 v.ownBlock) :
    w1.heap[B]? = some (.cells cs T fr) := by
  have hB : B < w.heap.size := (Array.getElem?_eq_some_iff.1 hd).1
  rw [hg.block B hB ?_]
  · exact hd
  · rcases h.2 with ⟨rfl, _⟩ | ⟨g, cap, cur, rfl, _, hh, _⟩
    · simp [Value.ownBlock]
    · intro e
      have e : B = g := by simpa [Value.ownBlock] using e
      subst e
      rw [hd] at hh
      injection hh with hh
      injection hh with h1 h2
      exact hT h2.symm
/-- append(v, y0, y1, ..) of literal elements. -/
theorem append_many {P : Program} {ops : Array Oper} {rest : List Oper} {o : Oper} {a : Act} {Q : Exit → Act → World → Prop} {w0 W : World} (base : Nat) (hgd : o.guard = none) (s x : Operand) (t e : TypeId) (k : IntKind) (bytes : Nat)
    (ho : o.op = .call { callee := .builtin .append, args := #[s, x], argTypes := #[t, t] })
    (ht : P.underlying t = some (.slice e)) (hinfo : (P.info? e).map (fun i => (i.zero, i.size, i.bytes)) = some (some (.int k 0), 1, bytes)) (hb0 : 0 < bytes)
    (v : Value) (xs ys : List Int) (m : Nat) (hm : m = ys.length) (hs : a.eval s = v) (hx : a.eval x = .slice (some ⟨W.heap.size, 0, none⟩) m m)
    (HO : W.ownsRow base e 1 v xs.length (nums k xs)) (HB : Below base w0 W) (hbase : base ≤ W.heap.size) (hl : (xs.length + m) * bytes ≤ 140737488355328)
    (h : ∀ v1 w1, w1.ownsRow base e 1 v1 (xs ++ ys).length (nums k (xs ++ ys)) → Below base w0 w1 → W.grownBy w1 v.ownBlock → wpList P ops Q rest (a.put o.dst v1) w1) :
    wpList P ops Q (o :: rest) a (W.alloc (.cells (nums k ys).toArray e)) := by
  subst hm
  obtain ⟨i0, hi, hzz⟩ := Option.map_eq_some_iff.1 hinfo
  simp only [Prod.mk.injEq] at hzz
  obtain ⟨hz0, hz1, hz2⟩ := hzz
  have hlen : xs.length + ys.length ≤ 140737488355328 := Nat.le_trans (Nat.le_mul_of_pos_right _ hb0) hl
  refine wpList_append_own_at (W.alloc (.cells (nums k ys).toArray e)) hgd s x t ho base e i0 (.int k 0) 1 bytes ht hi hz0 hz1 hz2 rfl (by omega) v xs.length (nums k xs) hs (HO.alloc _) ⟨W.heap.size, 0, none⟩ ys.length ys.length (nums k ys) hx (by simp [nums])
    (by simpa using World.news_of_block (cs := (nums k ys).toArray) (t := e) (fr := (0, 0)) (heap_alloc_new W _)) (by intro u hu; simp only [nums, List.mem_map] at hu; obtain ⟨q, _, rfl⟩ := hu; rfl) (by simp only [maxLen]; omega) hl (by simp; omega) ?_
  intro v1 w1 hown hg _ hat
  exact h v1 w1 (by simpa [nums] using hown) ((HB.alloc hbase _).grown hg (by simp; omega) (own_base HO)) (World.grownBy.trans (World.grownBy_alloc W _ _) hg)

/-- append of literal elements at a step of a region that draws: the literal lies in block B. -/
theorem step_append_lit {P : Program} {ops : Array Oper} {o : Oper} {a : Act} {K : Act → World → Prop} {Q : Exit → Act → World → Prop} {E : Prop} {w0 W : World} (base : Nat) (hgd : o.guard = none) (s x : Operand) (t e : TypeId) (k : IntKind) (bytes : Nat)
    (ho : o.op = .call { callee := .builtin .append, args := #[s, x], argTypes := #[t, t] })
    (ht : P.underlying t = some (.slice e)) (hinfo : (P.info? e).map (fun i => (i.zero, i.size, i.bytes)) = some (some (.int k 0), 1, bytes)) (hb0 : 0 < bytes)
    (v : Value) (xs ys : List Int) (m B : Nat) (hm : m = ys.length) (hm0 : 0 < m) (hs : a.eval s = v) (hx : a.eval x = .slice (some ⟨B, 0, none⟩) m m)
    (hB : W.heap[B]? = some (.cells (nums k ys).toArray e (0, 0)))
    (HO : W.ownsRow base e 1 v xs.length (nums k xs)) (HB : Below base w0 W) (hbase : base ≤ W.heap.size) (hl : (xs.length + m) * bytes ≤ 140737488355328)
    (h : ∀ v1 w1, w1.ownsRow base e 1 v1 (xs ++ ys).length (nums k (xs ++ ys)) → Below base w0 w1 → W.grownBy w1 v.ownBlock → K (a.put o.dst v1) w1) :
    if Region.wanted o (yielded ops a.tmps) = true then Oper.wp P o a W K Q else E := by
  subst hm
  obtain ⟨i0, hi, hzz⟩ := Option.map_eq_some_iff.1 hinfo
  simp only [Prod.mk.injEq] at hzz
  obtain ⟨hz0, hz1, hz2⟩ := hzz
  have hlen : xs.length + ys.length ≤ 140737488355328 := Nat.le_trans (Nat.le_mul_of_pos_right _ hb0) hl
  refine step_append_lies W hgd s x t ho base e i0 (.int k 0) 1 bytes ht hi hz0 hz1 hz2 rfl (by omega) v xs.length (nums k xs) hs HO ⟨B, 0, none⟩ ys.length ys.length (nums k ys) hx (by simp [nums])
    (by simpa using World.news_of_block hB) (by intro u hu; simp only [nums, List.mem_map] at hu; obtain ⟨q, _, rfl⟩ := hu; rfl) hm0 (by simp only [maxLen]; omega) hl hbase _ rfl ?_
  intro g cap w1 hown hg _ hat
  have hlen2 : (xs ++ ys).length = xs.length + ys.length := by simp
  exact h _ w1 (by rw [hlen2]; simpa [nums] using hown) (HB.grown hg hbase (own_base HO)) hg

/-- record, over the whole dictionary. -/
theorem record_calls (b : Nat) (d : Dict) (x : Int) (h0 : 0 ≤ x) (h1 : x < 4294967296) (w : World) (hd : w.heap[b]? = some (.cells (dcells d) 45 (0, 0))) :
    Calls Try.prog 22 #[.pointer (some ⟨b, 0, none⟩), .int .u32 x] w fun e w' => e = .returned (.tuple #[]) ∧ w'.heap[b]? = some (.cells (dcells (recF d x)) 45 (0, 0)) ∧ w.grownBy w' (some b) := by
  by_cases hx : x = 0
  · subst hx
    refine (record_no b w).mono ?_
    rintro e w' ⟨rfl, rfl⟩
    exact ⟨rfl, by simpa [recF] using hd, World.grownBy.refl _ _⟩
  · have hsl : (x / 65536 % 16).toNat < 16 := by omega
    refine (record_yes b x _ h0 h1 (by simpa using hx) w ((cellB hd _).trans (dcells_at _ _ hsl)) (frozenB hd _)).mono ?_
    rintro e w' ⟨rfl, rfl⟩
    refine ⟨rfl, ?_, ?_⟩
    · show (w.setCell _ _).heap[b]? = _
      rw [setB hd, dcells_set _ _ hsl]
      unfold recF
      rw [if_neg hx]
      rfl
    · refine ⟨rfl, rfl, rfl, by simp, fun k hk hne => ?_⟩
      show (w.setCell _ _).heap[k]? = _
      exact heap_setCell_ne _ _ _ _ (fun e => hne (by rw [← e]))

/-- What the loop of pack holds after k rounds. -/
structure PackRel (s : ByteArray) (w : World) (v : Value) (k : Nat) (wr : World) : Prop where
  own : wr.ownsRow w.heap.size 5 1 v (packL (pst s k)).length (nums .u8 (packL (pst s k)))
  dict : wr.heap[w.heap.size + 1]? = some (.cells (dcells (pst s k).d) 45 (0, 0))
  below : Below w.heap.size w wr
  size : w.heap.size + 1 < wr.heap.size
theorem pack_next {s : ByteArray} {w : World} {k : Nat} {x : Int} {st : St} {v : Value} {w4 w5 : World} (hst : pst s (k + 1) = step st x)
    (ho : w4.ownsRow w.heap.size 5 1 v (packL (step st x)).length (nums .u8 (packL (step st x)))) (hd : w4.heap[w.heap.size + 1]? = some (.cells (dcells st.d) 45 (0, 0))) (hb : Below w.heap.size w w4) (hz : w.heap.size + 1 < w4.heap.size)
    (hd5 : w5.heap[w.heap.size + 1]? = some (.cells (dcells (recF st.d x)) 45 (0, 0))) (hg : w4.grownBy w5 (some (w.heap.size + 1))) : PackRel s w v (k + 1) w5 := by
  refine ⟨?_, ?_, hb.grown hg (by omega) (by intro j hj; injection hj with hj; omega), Nat.lt_of_lt_of_le hz hg.size⟩
  · rw [hst]
    refine ho.kept hg ?_
    rcases ho.2 with ⟨rfl, _⟩ | ⟨g, cap, cur, rfl, _⟩
    · exact .inl rfl
    · refine .inr fun e => ?_
      have : g = w.heap.size + 1 := by simpa [Value.ownBlock] using e
      exact own_ne ho hd (by decide) this
  · rw [hst]; exact hd5

set_option maxHeartbeats 1600000 in
set_option maxRecDepth 100000 in
theorem pack_calls (s : ByteArray) (hs : s.size = 256) (w : World) :
    Calls Try.prog 17 #[.string s] w fun e w' => ∃ v, e = .returned v ∧ w'.ownsRow w.heap.size 5 1 v (packL (pst s 64)).length (nums .u8 (packL (pst s 64))) ∧ Below w.heap.size w w' := by
  have Hs := Lib.hid hs
  have hs' : s.size ≤ 256 := by omega
  have hs'' : 256 ≤ s.size := by omega
  clear hs
  have hmk := make17
  go_enter Try.func17, Try.ntmps17
  go_wp2_with fail
  clear hmk
  go_loopw [3, 12] (fun v c wr => ∃ k : Nat, k ≤ 64 ∧ c = .int .i64 k ∧ PackRel s w v k wr)
      (fun _ c _ => 64 - (intOf c).toNat)
  case atStart =>
    refine ⟨0, by omega, rfl, ?_⟩
    refine ⟨?_, ?_, ?_, by simp⟩
    · rw [pst_zero, packL_zero]
      exact (own_lit w w.heap.size 5 .u8 (1 :: List.replicate 16 0) (Nat.le_refl _) (by decide)).alloc _
    · have h := heap_alloc_new (w.alloc (.cells (nums .u8 (1 :: List.replicate 16 0)).toArray 5)) (.cells (dcells st0.d) 45)
      rw [World.size_alloc] at h
      exact h
    · exact ((Below.refl _ _).alloc (Nat.le_refl _) _).alloc (by simp) _
  case round =>
    obtain ⟨k, hk, rfl, hrel⟩ := hrel
    by_cases hlt : k < 64
    · have Hgd := Lib.hid (good_pst s k)
      have Hst := Lib.hid (pst_succ s k)
      obtain ⟨hL, hd, hb, hsz⟩ := hrel
      generalize pst s k = st at hL hd Hgd Hst
      have hl17 : 17 ≤ (packL st).length := by rw [packL_length]; omega
      have hl300 : (packL st).length ≤ 300 := by rw [packL_length]; have := Hgd.out.outlen; omega
      obtain ⟨g, cap, rfl, hgb, hgl⟩ := hL.form (by omega)
      go_wp2_with fail
      have hq0 : (s.extract (4 * k) (4 * k + 4)).size = 4 := by rw [ByteArray.size_extract]; omega
      obtain ⟨q, hq⟩ : ∃ q : ByteArray, q = s.extract (4 * k) (4 * k + 4) := ⟨_, rfl⟩
      rw [← hq] at hq0 ⊢
      have Hq := Lib.hid hq
      clear hq
      go_quiet (fail)
      go_wp2_with fail
      rw [wordQ_or q (by omega) (by omega) (by omega) (by omega)]
      have hxr := wordQ_range q
      obtain ⟨x, hx⟩ : ∃ x, x = wordQ q := ⟨_, rfl⟩
      rw [← hx] at hxr ⊢
      have Hx := Lib.hid hx
      clear hx
      obtain ⟨hx0, hx1⟩ := hxr
      have hsl : (x / 65536 % 16).toNat < 16 := by omega
      have hdr := Hgd.out.dict _ hsl
      refine (tag_calls _ x (st.d (x / 65536 % 16).toNat) (by omega) (by omega) hdr.1.1 hdr.1.2 _ ?_).mono ?_
      · show wr.cell? _ = _
        rw [cellB hd, dcells_at _ _ hsl]
      rintro e w' ⟨rfl, n, rfl⟩
      have ht : 0 ≤ tagF st.d x ∧ tagF st.d x ≤ 3 := tag_range _ _
      obtain ⟨t, hte⟩ : ∃ t, t = tagF st.d x := ⟨_, rfl⟩
      rw [show tagV x (st.d (x / 65536 % 16).toNat) = t from hte.symm]
      rw [← hte] at ht
      have Hte := Lib.hid hte
      clear hte hdr
      obtain ⟨ht0, ht1⟩ := ht
      obtain ⟨w2, hw2⟩ : ∃ w2, w2 = (wr.drewN nq).drewN n := ⟨_, rfl⟩
      rw [← hw2]
      have hL2 : w2.ownsRow w.heap.size 5 1 (Value.slice (some ⟨g, 0, none⟩) (packL st).length cap) (packL st).length (nums IntKind.u8 (packL st)) := by rw [hw2]; exact hL
      have hd2 : w2.heap[w.heap.size + 1]? = some (Obj.cells (dcells st.d) 45) := by rw [hw2]; exact hd
      have hb2 : Below w.heap.size w w2 := by rw [hw2]; exact pw_below_drewN (pw_below_drewN hb _) _
      have hgl2 : g < w2.heap.size := by rw [hw2]; exact hgl
      have hsz2 : w.heap.size + 1 < w2.heap.size := by rw [hw2]; exact hsz
      clear hL hd hb hgl hw2 hsz
      have c1 := own_at hL2 (1 + (k : Int) / 4) (by omega) (by omega)
      rw [show (1 + (k : Int) / 4).toNat = 1 + k / 4 by omega] at c1
      obtain ⟨c1, f1⟩ := c1
      go_wp2_with fail
      go_region
      have hs3 := own_store hL2 (1 + (k : Int) / 4) (bits BinOp.or IntKind.u8 (rd (packL st) (1 + (k : Int) / 4)) (t * 2 ^ (2 * (k % 4)) % 256))
      rw [show (1 + (k : Int) / 4).toNat = 1 + k / 4 by omega] at hs3
      have hne := own_ne hL2 hd2 (by decide)
      have hd3 := (heap_setCell_ne w2 ⟨g, 1 + k / 4, none⟩ (.int .u8 (bits BinOp.or IntKind.u8 (rd (packL st) (1 + (k : Int) / 4)) (t * 2 ^ (2 * (k % 4)) % 256))) _ hne).trans hd2
      have hb3 := hb2.setCell (p := ⟨g, 1 + k / 4, none⟩) hgb (.int .u8 (bits BinOp.or IntKind.u8 (rd (packL st) (1 + (k : Int) / 4)) (t * 2 ^ (2 * (k % 4)) % 256)))
      have hps : (packL st).set (1 + k / 4) _ ++ emit t x = packL (step st x) := packL_step st k Hgd.out hlt x t Hte.out
      obtain ⟨L3, hL3⟩ : ∃ L3, L3 = (packL st).set (1 + k / 4) (bits BinOp.or IntKind.u8 (rd (packL st) (1 + (k : Int) / 4)) (t * 2 ^ (2 * (k % 4)) % 256)) := ⟨_, rfl⟩
      rw [← hL3] at hps hs3
      have hlen3 : (packL st).length = L3.length := by rw [hL3, List.length_set]
      obtain ⟨w3, hw3⟩ : ∃ w3, w3 = (w2.setCell ⟨g, 1 + k / 4, none⟩ (.int .u8 (bits BinOp.or IntKind.u8 (rd (packL st) (1 + (k : Int) / 4)) (t * 2 ^ (2 * (k % 4)) % 256)))).drew := ⟨_, rfl⟩
      rw [← hw3]
      have ho3 : w3.ownsRow w.heap.size 5 1 (Value.slice (some ⟨g, 0, none⟩) (packL st).length cap) L3.length (nums IntKind.u8 L3) := by rw [hw3, ← hlen3]; exact hs3.1
      have hd3' : w3.heap[w.heap.size + 1]? = some (Obj.cells (dcells st.d) 45) := by rw [hw3]; exact hd3
      have hb3' : Below w.heap.size w w3 := by rw [hw3]; exact below_drew hb3
      have hsz3 : w.heap.size + 1 < w3.heap.size := by rw [hw3]; simpa using hsz2
      have Hps := Lib.hid hps
      have Hlen3 := Lib.hid hlen3
      have hl400 : L3.length ≤ 300 := by omega
      clear hps hlen3 hL3 hw3 hs3 hd3 hb3 c1 f1 hL2 hd2 hb2 hsz2 hgl2 hne hl17 hl300
      generalize (packL st).length = n3 at ho3 Hlen3 ⊢
      have Hwx : Hid (wordS s k = x) := by rw [Hx.out, Hq.out]; exact (wordQ_extract s k Hs.out hlt).symm
      have hst' : pst s (k + 1) = step st x := by rw [Hst.out, Hwx.out]
      have Hst' := Lib.hid hst'
      clear hst'
      rcases (show t = 0 ∨ t = 1 ∨ t = 2 ∨ t = 3 by omega) with rfl | rfl | rfl | rfl
      · go_wp2_with fail
        refine (record_calls _ st.d x hx0 hx1 _ hd3').mono ?_
        rintro e w5 ⟨rfl, hd5, hg5⟩
        have R : PackRel s w (.slice (some ⟨g, 0, none⟩) n3 cap) (k + 1) w5 := by
          refine pack_next Hst'.out ?_ hd3' hb3' hsz3 hd5 hg5
          have e := Hps.out
          simp only [emit, if_true, List.append_nil] at e
          rw [← e]; exact ho3
        clear hd5 hg5 ho3 hd3' hb3'
        go_wp2_with fail
        go_roundw
        case rel => exact ⟨k + 1, by omega, by go_num, R⟩
        case measure => simp [intOf]; omega
      · go_wp2_with fail
        refine (slot_calls x hx0 hx1 _).mono ?_
        rintro e w' ⟨rfl, rfl⟩
        go_wp2_with (at_builtin; refine append_many w.heap.size rfl (.tmp 58) (.tmp 62) 31 5 .u8 1 rfl Try.underlying31 (by kernel_rfl) (by decide) _ L3 [x / 65536 % 16] 1 rfl rfl rfl ho3 hb3' (by omega) (by omega) ?_; intro v4 w4 ho4 hb4 hg4)
        have hd4 := grown_block ho3 hd3' (by decide) hg4
        refine (record_calls _ st.d x hx0 hx1 _ hd4).mono ?_
        rintro e w5 ⟨rfl, hd5, hg5⟩
        have R : PackRel s w v4 (k + 1) w5 := by
          refine pack_next Hst'.out ?_ hd4 hb4 (Nat.lt_of_lt_of_le hsz3 hg4.size) hd5 hg5
          rw [← Hps.out]; exact ho4
        clear hd5 hg5 ho3 hd3' hb3' ho4 hb4 hg4 hd4
        go_wp2_with fail
        go_roundw
        case rel => exact ⟨k + 1, by omega, by go_num, R⟩
        case measure => simp [intOf]; omega
      · go_wp2_with fail
        have hsz3' : w.heap.size + 1 < w3.heap.size := hsz3
        have h0q : 0 < q.size := by omega
        have h1q : 1 < q.size := by omega
        go_region_law (first | (refine step_append_lit w.heap.size rfl (.tmp 66) (.tmp 74) 31 5 .u8 1 rfl Try.underlying31 (by kernel_rfl) (by decide) _ L3 [IntKind.u8.wrap (x / 65536 % 16), ((q[0]'h0q).toNat : Int), ((q[1]'h1q).toNat : Int)] 3 _ rfl (by decide) rfl rfl (heap_alloc_new w3 _) (ho3.alloc _) (below_drew (below_alloc_at hb3' _ (by omega))) (by simp; omega) (by omega) ?_; intro v4 w4 ho4 hb4 hg4) | (go_simp; go_at_call 21; refine (slot_calls _ hx0 hx1 _).mono ?_; rintro e w' ⟨rfl, rfl⟩))
        all_goals
          have hd4 := grown_block (w := (w3.alloc _).drew) (ho3.alloc _) ((heap_alloc_old w3 _ hsz3').trans hd3') (by decide) hg4
          have hsz4 : w.heap.size + 1 < w4.heap.size := Nat.lt_of_lt_of_le (by simp; omega) hg4.size
          have eb0 : ((q[0]'h0q).toNat : Int) = bt q 0 := bt_at q 0 h0q
          have eb1 : ((q[1]'h1q).toNat : Int) = bt q 1 := bt_at q 1 h1q
          have ew : IntKind.u8.wrap (x / 65536 % 16) = x / 65536 % 16 := by rw [IntKind.wrap_u8]; omega
          rw [eb0, eb1, ew] at ho4
          clear eb0 eb1 ew
          go_wp2_with fail
          refine (record_calls _ st.d x hx0 hx1 _ hd4).mono ?_
          rintro e w5 ⟨rfl, hd5, hg5⟩
          have R : PackRel s w v4 (k + 1) w5 := by
            refine pack_next Hst'.out ?_ hd4 hb4 hsz4 hd5 hg5
            rw [← Hps.out]
            have e : emit 2 x = [x / 65536 % 16, bt q 0, bt q 1] := by rw [Hx.out]; exact emit2_bytes q
            rw [e]; exact ho4
          clear hd5 hg5 ho4 hb4 hg4 hd4 ho3 hd3' hb3'
          go_wp2_with fail
          go_roundw
          case rel => exact ⟨k + 1, by omega, by go_num, R⟩
          case measure => simp [intOf]; omega
      · go_wp2_with (at_builtin; refine print_append_str w.heap.size rfl (.tmp 78) (.tmp 79) 31 9 5 rfl Try.underlying31 Try.underlying9 (by kernel_rfl) _ L3 q rfl rfl ho3 hb3' (by omega) (by omega) ?_; intro v4 w4 ho4 hb4 hg4)
        have hd4 := grown_block ho3 hd3' (by decide) hg4
        refine (record_calls _ st.d x hx0 hx1 _ hd4).mono ?_
        rintro e w5 ⟨rfl, hd5, hg5⟩
        have R : PackRel s w v4 (k + 1) w5 := by
          refine pack_next Hst'.out ?_ hd4 hb4 (Nat.lt_of_lt_of_le hsz3 hg4.size) hd5 hg5
          rw [← Hps.out]
          have e : emit 3 x = bytesOf q := by rw [Hx.out]; exact emit3_bytes q hq0
          rw [e]; exact ho4
        clear hd5 hg5 ho3 hd3' hb3' ho4 hb4 hg4 hd4
        go_wp2_with fail
        go_roundw
        case rel => exact ⟨k + 1, by omega, by go_num, R⟩
        case measure => simp [intOf]; omega
    · have hk64 : k = 64 := by omega
      have Hk := Lib.hid hk64
      have R : PackRel s w u3 64 wr := by rw [← hk64]; exact hrel
      clear hrel hk64
      go_wp2_with fail
      go_ret
      exact ⟨_, rfl, R.own, R.below⟩
end Go.Proofs.Ytdfmjmabdggcjaa.Pz
