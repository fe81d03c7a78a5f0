import Derived.Test.YtdfmjmabdggcjaaPzL
import Derived.Test.YtdfmjmabdggcjaaPzQ
namespace Go.Proofs.Ytdfmjmabdggcjaa.Pz
open Go.RowKit Go.Proofs.YtdfmjmabdggcjaaW.PrintWords
set_option linter.unusedVariables false
set_option linter.unusedSimpArgs false
theorem rtake (s : ByteArray) (a j n : Nat) (ha : a ≤ s.size) (hj : j < n) (hs : a + j < s.size) : ((bytesOf (s.extract a s.size)).take n).getD j 0 = bt s ((a + j : Nat) : Int) := by
  rw [List.getD_eq_getElem?_getD, List.getElem?_take, if_pos hj, rdq, bt_extract s a s.size j (Nat.le_refl _) hs]
theorem rsize (s : ByteArray) (a : Nat) (ha : a ≤ s.size) : (s.extract a s.size).size = s.size - a := by rw [ByteArray.size_extract]; omega
theorem rdrop (s : ByteArray) (a n : Nat) (h : a + n ≤ s.size) : bytesOf (s.extract (a + n) s.size) = (bytesOf (s.extract a s.size)).drop n := by
  rw [bytesOf_extract, bytesOf_extract, List.take_of_length_le (by rw [List.length_drop, bytesOf_length]; omega), List.take_of_length_le (by rw [List.length_drop, bytesOf_length]; omega), List.drop_drop]
/-- What the reference's loop holds in memory. -/
structure RuMem (w : World) (pv : Value) (wl : List Int) (d : Dict) (wr : World) : Prop where
  own : wr.ownsRow (w.heap.size + 1) 5 1 pv (pageB wl).length (nums .u8 (pageB wl))
  dict : wr.heap[w.heap.size]? = some (.cells (dcells d) 42 (0, 0))
  below : Below w.heap.size w wr
  size : w.heap.size < wr.heap.size
theorem RuMem.drawn {w wr : World} {pv : Value} {wl : List Int} {d : Dict} (h : RuMem w pv wl d wr) : RuMem w pv wl d wr.drew :=
  ⟨h.own, h.dict, below_drew h.below, h.size⟩
theorem RuMem.stored {w wr : World} {pv : Value} {wl : List Int} {d : Dict} (h : RuMem w pv wl d wr) {x : Int} (hx : x ≠ 0) (h0 : 0 ≤ x) (h1 : x < 4294967296) : RuMem w pv wl (recF d x) (wr.setCell ⟨w.heap.size, (x / 65536 % 16).toNat, none⟩ (.int .u32 x)) := by
  have hsl : (x / 65536 % 16).toNat < 16 := by omega
  refine ⟨ownsRow_setCell_below h.own (by simp) _, ?_, h.below.setCell (by simp) _, by simpa using h.size⟩
  rw [setB h.dict, dcells_set _ _ hsl]
  unfold recF
  rw [if_neg hx]
  rfl
structure RuW (s : ByteArray) (w : World) (pv av : Value) (k : Nat) (wr : World) (d : Dict) (wl : List Int) (a : Nat) : Prop where
  at_ : av = .int .i64 a
  le : a ≤ s.size
  ge : 17 ≤ a
  rel : UnRel s k d wl (s.extract a s.size)
  mem : RuMem w pv wl d wr
theorem recF_zero (d : Dict) : recF d 0 = d := by simp [recF]
theorem RuMem.next {w w2 w5 : World} {pv v5 : Value} {wl : List Int} {d : Dict} {x : Int} (h : RuMem w pv wl d w2) (ho : w5.ownsRow (w.heap.size + 1) 5 1 v5 (pageB (wl ++ [x])).length (nums .u8 (pageB (wl ++ [x])))) (hb : Below w.heap.size w w5) (hg : w2.grownBy w5 pv.ownBlock) : RuMem w v5 (wl ++ [x]) d w5 :=
  ⟨ho, grown_low h.own h.dict (by omega) hg, hb, Nat.lt_of_lt_of_le h.size hg.size⟩
theorem ex_drop (s : ByteArray) (a n : Nat) (t : Int) (hn : n = sz t) (h : a + n ≤ s.size) : bytesOf (s.extract (a + n) s.size) = (bytesOf (s.extract a s.size)).drop (sz t) := by
  rw [rdrop s a n h, hn]

set_option maxHeartbeats 16000000 in
set_option maxRecDepth 100000 in
theorem runpack_main (s : ByteArray) (hs : 17 ≤ s.size) (hmax : s.size ≤ 70000) (w : World) :
    Calls Try.prog 19 #[.string s] w fun e w' => e = runpackR s ∧ Below w.heap.size w w' := by
  have h2 : decide ((s.size : Int) < 17) = false := by simp; omega
  go_enter Try.func19, Try.ntmps19
  go_wp2_with fail
  clear h2
  go_loopw [5, 6, 7] (fun pv av c wr => ∃ k : Nat, k ≤ 64 ∧ c = .int .i64 k ∧ ∃ d wl a, RuW s w pv av k wr d wl a)
      (fun _ _ c _ => 64 - (intOf c).toNat)
  case atStart =>
    refine ⟨0, by omega, rfl, st0.d, [], 17, rfl, hs, Nat.le_refl _, unRel_zero s _ ?_, own_nil _ _ _ _, heap_alloc_new w (.cells (dcells st0.d) 42), (Below.refl _ _).alloc (Nat.le_refl _) _, by simp⟩
    rw [bytesOf_extract, restS, List.take_of_length_le]
    rw [List.length_drop, bytesOf_length]
    omega
  case round =>
    obtain ⟨k, hk, rfl, d, wl, a, rfl, hal, hag, hU, hM⟩ := hrel
    have HU := Lib.hid hU
    clear hU
    by_cases hlt : k < 64
    · have hk4 : 1 + k / 4 < s.size := by omega
      have g1 : ((s[1 + k / 4]'hk4).toNat : Int) = bt s ((1 + k / 4 : Nat) : Int) := bt_at s ((1 + k / 4 : Nat) : Int) hk4
      have htag := tag_of s k
      have hbr := bt_range s ((1 + k / 4 : Nat) : Int)
      generalize bt s ((1 + k / 4 : Nat) : Int) = y at g1 htag hbr
      obtain ⟨hb0, hb1⟩ := hbr
      have htr := tagAt_range s k
      obtain ⟨t, ht⟩ : ∃ t, t = tagAt s k := ⟨_, rfl⟩
      rw [← ht] at htag htr
      obtain ⟨ht0, ht1⟩ := htr
      have Ht := Lib.hid ht
      clear ht
      have hpl : (pageB wl).length ≤ 256 := by rw [pageB_length, HU.out.len]; omega
      have hD := HU.out.dict
      have HD := Lib.hid hD
      clear hD
      have ja : 0 ≤ (a : Int) := by omega
      have HSZ := Lib.hid (rsize s a hal)
      rcases (show t = 0 ∨ t = 1 ∨ t = 2 ∨ t = 3 by omega) with rfl | rfl | rfl | rfl
      · have hidx : ∀ w, (Instr.index 52 (.agg #[.int .i64 0, .int .i64 1, .int .i64 3, .int .i64 4]) (.int .u8 0)).run Try.prog w = .ok (.int .i64 0) w := fun _ => by kernel_rfl
        have hdec : decide ((s.size : Int) - a < 0) = false := by simp; omega
        have HN : Hid (UnRel s (k + 1) (recF d 0) (wl ++ [0]) (s.extract (a + 0) s.size)) := (unRel_next HU.out hlt (by rw [← Ht.out]; simp [sz]) (x := 0) (by rw [← Ht.out]; simp [unW]) (ex_drop s a 0 _ (by rw [← Ht.out]; rfl) (by omega))).1
        have hM2 := hM
        rw [← recF_zero d] at hM2
        clear hM
        have hpg : pageB (wl ++ [(0 : Int)]) = pageB wl ++ [0, 0, 0, 0] := pageB_snoc wl 0
        have Hpg := Lib.hid hpg
        clear hpg
        go_wp2_with (at_builtin; go_must (refine append_lit w.heap.size (w.heap.size + 1) rfl (.tmp 119) (.tmp 131) 31 5 .u8 1 rfl Try.underlying31 (by kernel_rfl) (by decide) u5 (pageB wl) [0, 0, 0, 0] 4 rfl rfl rfl hM2.own hM2.below (by omega) (by have := hM2.size; omega) (by omega) ?_); intro v5 w5 ho5 hb5 hg5; rw [← Hpg.out] at ho5)
        have hM5 := RuMem.next hM2 ho5 hb5 hg5
        clear ho5 hb5 hg5 hM2
        go_wp2_with fail
        go_roundw
        case rel => exact ⟨k + 1, by omega, by go_num, recF d 0, _, a + 0, by go_num, by omega, by omega, HN.out, hM5⟩
        case measure => simp [intOf]; omega
      · have hidx : ∀ w, (Instr.index 52 (.agg #[.int .i64 0, .int .i64 1, .int .i64 3, .int .i64 4]) (.int .u8 1)).run Try.prog w = .ok (.int .i64 1) w := fun _ => by kernel_rfl
        by_cases hsh : s.size - a < 1
        · have hdec : decide ((s.size : Int) - a < 1) = true := by simp; omega
          have hnone := unRel_short HU.out hlt (by rw [rsize s a hal, ← Ht.out]; simp [sz]; omega)
          clear hsh
          have hfin : runpackR s = .returned (.tuple #[.string ByteArray.empty, .bool false]) := by unfold runpackR; rw [hnone]
          have Hfin := Lib.hid hfin
          have hB := hM.below
          clear hfin hnone hM
          go_wp2_with fail
          go_ret2
          exact ⟨by rw [Hfin.out]; rfl, hB⟩
        · have hdec : decide ((s.size : Int) - a < 1) = false := by simp; omega
          have l0 : a < s.size := by omega
          have c0 : ((s[a]'l0).toNat : Int) = bt s ((a : Nat) : Int) := bt_at s ((a : Nat) : Int) l0
          have r0 := bt_range s ((a : Nat) : Int)
          have q0 := rtake s a 0 1 hal (by decide) l0
          rw [Nat.add_zero] at q0
          generalize bt s ((a : Nat) : Int) = y0 at c0 r0 q0
          obtain ⟨r0, r0'⟩ := r0
          have i0 : (a : Int) < (s.size : Int) := by omega
          by_cases h16 : 15 < y0
          · have hd16 : decide (15 < y0) = true := by simpa using h16
            have hnone := unRel_bad HU.out hlt (by rw [rsize s a hal, ← Ht.out]; simp [sz]; omega) (by rw [← Ht.out]; show unW d 1 (List.take 1 _) = none; simp only [unW]; rw [q0]; simp; omega)
            clear h16 hsh q0
            have hfin : runpackR s = .returned (.tuple #[.string ByteArray.empty, .bool false]) := by unfold runpackR; rw [hnone]
            have Hfin := Lib.hid hfin
            have hB := hM.below
            clear hfin hnone hM
            go_wp2_with fail
            go_ret2
            exact ⟨by rw [Hfin.out]; rfl, hB⟩
          · have hd16 : decide (15 < y0) = false := by simpa using h16
            have hyn : y0 < 16 := by omega
            have hxW := (HD.out y0.toNat (by omega)).1
            obtain ⟨x, hx⟩ : ∃ x, x = d y0.toNat := ⟨_, rfl⟩
            have HN : Hid (UnRel s (k + 1) (recF d x) (wl ++ [x]) (s.extract (a + 1) s.size)) := (unRel_next HU.out hlt (by rw [rsize s a hal, ← Ht.out]; simp [sz]; omega) (x := x) (by rw [← Ht.out]; show unW d 1 (List.take 1 _) = some x; simp only [unW]; rw [q0, hx]; simp; omega) (ex_drop s a 1 _ (by rw [← Ht.out]; rfl) (by omega))).1
            have cX : wr.cell? ⟨w.heap.size, y0.toNat, none⟩ = some (.int .u32 x) := by rw [hx]; exact (cellB hM.dict _).trans (dcells_at _ _ (by omega))
            rw [← hx] at hxW
            obtain ⟨hx0, hx1⟩ := hxW
            clear hx h16 hsh q0
            have hpg : pageB (wl ++ [x]) = pageB wl ++ [x % 256, x / 256 % 256, x / 65536 % 256, x / 16777216] := by
              rw [pageB_snoc]
              unfold b0 b1 b2 b3
              rw [show x / 16777216 % 256 = x / 16777216 by omega]
            have Hpg := Lib.hid hpg
            clear hpg
            by_cases hxz : x = 0
            · have hbx : (x != 0) = false := by simpa using hxz
              have hM2 : RuMem w u5 wl (recF d x) wr := by rw [hxz, recF_zero]; exact hM
              clear hM hxz
              go_wp2_with (at_builtin; go_must (refine append_lit w.heap.size (w.heap.size + 1) rfl (.tmp 119) (.tmp 131) 31 5 .u8 1 rfl Try.underlying31 (by kernel_rfl) (by decide) u5 (pageB wl) [x % 256, x / 256 % 256, x / 65536 % 256, x / 16777216] 4 rfl rfl rfl hM2.own hM2.below (by omega) (by have := hM2.size; omega) (by omega) ?_); intro v5 w5 ho5 hb5 hg5; rw [← Hpg.out] at ho5)
              have hM5 := RuMem.next hM2 ho5 hb5 hg5
              clear ho5 hb5 hg5 hM2
              go_wp2_with fail
              go_roundw
              case rel => exact ⟨k + 1, by omega, by go_num, recF d x, _, a + 1, by go_num, by omega, by omega, HN.out, hM5⟩
              case measure => simp [intOf]; omega
            · have hbx : (x != 0) = true := by simpa using hxz
              have hM2 := hM.stored hxz hx0 hx1
              have hsl : (x / 65536 % 16).toNat < 16 := by omega
              have cS : wr.cell? ⟨w.heap.size, (x / 65536 % 16).toNat, none⟩ = some (.int .u32 (d (x / 65536 % 16).toNat)) := (cellB hM.dict _).trans (dcells_at _ _ hsl)
              have fS : wr.frozen? ⟨w.heap.size, (x / 65536 % 16).toNat, none⟩ = false := frozenB hM.dict _
              clear hM hxz
              go_upto_region 24 with (fail)
              generalize wr.setCell ⟨w.heap.size, (x / 65536 % 16).toNat, none⟩ (.int .u32 x) = w3 at hM2 ⊢
              go_wp2_with (at_builtin; go_must (refine append_lit w.heap.size (w.heap.size + 1) rfl (.tmp 119) (.tmp 131) 31 5 .u8 1 rfl Try.underlying31 (by kernel_rfl) (by decide) u5 (pageB wl) [x % 256, x / 256 % 256, x / 65536 % 256, x / 16777216] 4 rfl rfl rfl hM2.own hM2.below (by omega) (by have := hM2.size; omega) (by omega) ?_); intro v5 w5 ho5 hb5 hg5; rw [← Hpg.out] at ho5)
              have hM5 := RuMem.next hM2 ho5 hb5 hg5
              clear ho5 hb5 hg5 hM2
              go_wp2_with fail
              go_roundw
              case rel => exact ⟨k + 1, by omega, by go_num, recF d x, _, a + 1, by go_num, by omega, by omega, HN.out, hM5⟩
              case measure => simp [intOf]; omega
      · have hidx : ∀ w, (Instr.index 52 (.agg #[.int .i64 0, .int .i64 1, .int .i64 3, .int .i64 4]) (.int .u8 2)).run Try.prog w = .ok (.int .i64 3) w := fun _ => by kernel_rfl
        by_cases hsh : s.size - a < 3
        · have hdec : decide ((s.size : Int) - a < 3) = true := by simp; omega
          have hnone := unRel_short HU.out hlt (by rw [rsize s a hal, ← Ht.out]; simp [sz]; omega)
          clear hsh
          have hfin : runpackR s = .returned (.tuple #[.string ByteArray.empty, .bool false]) := by unfold runpackR; rw [hnone]
          have Hfin := Lib.hid hfin
          have hB := hM.below
          clear hfin hnone hM
          go_wp2_with fail
          go_ret2
          exact ⟨by rw [Hfin.out]; rfl, hB⟩
        · have hdec : decide ((s.size : Int) - a < 3) = false := by simp; omega
          have l0 : a < s.size := by omega
          have c0 : ((s[a]'l0).toNat : Int) = bt s ((a : Nat) : Int) := bt_at s ((a : Nat) : Int) l0
          have r0 := bt_range s ((a : Nat) : Int)
          have q0 := rtake s a 0 3 hal (by decide) l0
          rw [Nat.add_zero] at q0
          have l1 : a + 1 < s.size := by omega
          have c1 : ((s[a + 1]'l1).toNat : Int) = bt s ((a + 1 : Nat) : Int) := bt_at s ((a + 1 : Nat) : Int) l1
          have r1 := bt_range s ((a + 1 : Nat) : Int)
          have q1 := rtake s a 1 3 hal (by decide) l1
          have l2 : a + 2 < s.size := by omega
          have c2 : ((s[a + 2]'l2).toNat : Int) = bt s ((a + 2 : Nat) : Int) := bt_at s ((a + 2 : Nat) : Int) l2
          have r2 := bt_range s ((a + 2 : Nat) : Int)
          have q2 := rtake s a 2 3 hal (by decide) l2
          generalize bt s ((a : Nat) : Int) = y0 at c0 r0 q0
          obtain ⟨r0, r0'⟩ := r0
          have i0 : (a : Int) < (s.size : Int) := by omega
          generalize bt s ((a + 1 : Nat) : Int) = y1 at c1 r1 q1
          obtain ⟨r1, r1'⟩ := r1
          have i1 : (a : Int) + 1 < (s.size : Int) := by omega
          have z1 : 0 ≤ (a : Int) + 1 := by omega
          generalize bt s ((a + 2 : Nat) : Int) = y2 at c2 r2 q2
          obtain ⟨r2, r2'⟩ := r2
          have i2 : (a : Int) + 2 < (s.size : Int) := by omega
          have z2 : 0 ≤ (a : Int) + 2 := by omega
          have Hns : Hid (¬ (s.extract a s.size).size < sz (tagAt s k)) := by
            show ¬ _
            rw [rsize s a hal, ← Ht.out]; simp [sz]; omega
          by_cases h16 : 15 < y0
          · have hd16 : decide (15 < y0) = true := by simpa using h16
            have hnone := unRel_bad HU.out hlt Hns.out (by rw [← Ht.out]; show unW d 2 (List.take 3 _) = none; simp only [unW]; rw [q0]; simp; omega)
            clear h16 hsh q0 q1 q2
            have hfin : runpackR s = .returned (.tuple #[.string ByteArray.empty, .bool false]) := by unfold runpackR; rw [hnone]
            have Hfin := Lib.hid hfin
            have hB := hM.below
            clear hfin hnone hM
            go_wp2_with fail
            go_ret2
            exact ⟨by rw [Hfin.out]; rfl, hB⟩
          · have hd16 : decide (15 < y0) = false := by simpa using h16
            have hyn : y0 < 16 := by omega
            have hvW := (HD.out y0.toNat (by omega)).1
            obtain ⟨v, hv⟩ : ∃ v, v = d y0.toNat := ⟨_, rfl⟩
            have cX : wr.cell? ⟨w.heap.size, y0.toNat, none⟩ = some (.int .u32 v) := by rw [hv]; exact (cellB hM.dict _).trans (dcells_at _ _ (by omega))
            rw [← hv] at hvW
            obtain ⟨hv0, hv1⟩ := hvW
            have hval : unW d 2 ((bytesOf (s.extract a s.size)).take (sz 2)) = some (v / 65536 * 65536 + y1 + y2 * 256) ∧ 0 ≤ v / 65536 * 65536 + y1 + y2 * 256 ∧ v / 65536 * 65536 + y1 + y2 * 256 < 4294967296 := by
              refine ⟨?_, by omega, by omega⟩
              show unW d 2 (List.take 3 _) = _
              simp only [unW]
              rw [q0, q1, q2, ← hv, Int.mul_comm 256 y2]
              simp; omega
            clear hv h16 hsh q0 q1 q2
            go_wp2_with fail
            go_region
            obtain ⟨x, hx⟩ : ∃ x, x = v / 65536 * 65536 + y1 + y2 * 256 := ⟨_, rfl⟩
            rw [← hx] at hval ⊢
            have hM := hM.drawn
            have HN : Hid (UnRel s (k + 1) (recF d x) (wl ++ [x]) (s.extract (a + 3) s.size)) := (unRel_next HU.out hlt Hns.out (x := x) (by rw [← Ht.out]; exact hval.1) (ex_drop s a 3 _ (by rw [← Ht.out]; rfl) (by omega))).1
            obtain ⟨hval, hx0, hx1⟩ := hval
            clear hx hval
            generalize wr.drew = w1 at hM ⊢
            have hpg : pageB (wl ++ [x]) = pageB wl ++ [x % 256, x / 256 % 256, x / 65536 % 256, x / 16777216] := by
              rw [pageB_snoc]
              unfold b0 b1 b2 b3
              rw [show x / 16777216 % 256 = x / 16777216 by omega]
            have Hpg := Lib.hid hpg
            clear hpg
            by_cases hxz : x = 0
            · have hbx : (x != 0) = false := by simpa using hxz
              have hM2 : RuMem w u5 wl (recF d x) w1 := by rw [hxz, recF_zero]; exact hM
              clear hM hxz
              go_wp2_with (at_builtin; go_must (refine append_lit w.heap.size (w.heap.size + 1) rfl (.tmp 119) (.tmp 131) 31 5 .u8 1 rfl Try.underlying31 (by kernel_rfl) (by decide) u5 (pageB wl) [x % 256, x / 256 % 256, x / 65536 % 256, x / 16777216] 4 rfl rfl rfl hM2.own hM2.below (by omega) (by have := hM2.size; omega) (by omega) ?_); intro v5 w5 ho5 hb5 hg5; rw [← Hpg.out] at ho5)
              have hM5 := RuMem.next hM2 ho5 hb5 hg5
              clear ho5 hb5 hg5 hM2
              go_wp2_with fail
              go_roundw
              case rel => exact ⟨k + 1, by omega, by go_num, recF d x, _, a + 3, by go_num, by omega, by omega, HN.out, hM5⟩
              case measure => simp [intOf]; omega
            · have hbx : (x != 0) = true := by simpa using hxz
              have hM2 := hM.stored hxz hx0 hx1
              have hsl : (x / 65536 % 16).toNat < 16 := by omega
              have cS : w1.cell? ⟨w.heap.size, (x / 65536 % 16).toNat, none⟩ = some (.int .u32 (d (x / 65536 % 16).toNat)) := (cellB hM.dict _).trans (dcells_at _ _ hsl)
              have fS : w1.frozen? ⟨w.heap.size, (x / 65536 % 16).toNat, none⟩ = false := frozenB hM.dict _
              clear hM hxz
              go_upto_region 24 with (fail)
              generalize w1.setCell ⟨w.heap.size, (x / 65536 % 16).toNat, none⟩ (.int .u32 x) = w3 at hM2 ⊢
              go_wp2_with (at_builtin; go_must (refine append_lit w.heap.size (w.heap.size + 1) rfl (.tmp 119) (.tmp 131) 31 5 .u8 1 rfl Try.underlying31 (by kernel_rfl) (by decide) u5 (pageB wl) [x % 256, x / 256 % 256, x / 65536 % 256, x / 16777216] 4 rfl rfl rfl hM2.own hM2.below (by omega) (by have := hM2.size; omega) (by omega) ?_); intro v5 w5 ho5 hb5 hg5; rw [← Hpg.out] at ho5)
              have hM5 := RuMem.next hM2 ho5 hb5 hg5
              clear ho5 hb5 hg5 hM2
              go_wp2_with fail
              go_roundw
              case rel => exact ⟨k + 1, by omega, by go_num, recF d x, _, a + 3, by go_num, by omega, by omega, HN.out, hM5⟩
              case measure => simp [intOf]; omega
      · have hidx : ∀ w, (Instr.index 52 (.agg #[.int .i64 0, .int .i64 1, .int .i64 3, .int .i64 4]) (.int .u8 3)).run Try.prog w = .ok (.int .i64 4) w := fun _ => by kernel_rfl
        by_cases hsh : s.size - a < 4
        · have hdec : decide ((s.size : Int) - a < 4) = true := by simp; omega
          have hnone := unRel_short HU.out hlt (by rw [rsize s a hal, ← Ht.out]; simp [sz]; omega)
          clear hsh
          have hfin : runpackR s = .returned (.tuple #[.string ByteArray.empty, .bool false]) := by unfold runpackR; rw [hnone]
          have Hfin := Lib.hid hfin
          have hB := hM.below
          clear hfin hnone hM
          go_wp2_with fail
          go_ret2
          exact ⟨by rw [Hfin.out]; rfl, hB⟩
        · have hdec : decide ((s.size : Int) - a < 4) = false := by simp; omega
          have l0 : a < s.size := by omega
          have c0 : ((s[a]'l0).toNat : Int) = bt s ((a : Nat) : Int) := bt_at s ((a : Nat) : Int) l0
          have r0 := bt_range s ((a : Nat) : Int)
          have q0 := rtake s a 0 4 hal (by decide) l0
          rw [Nat.add_zero] at q0
          have l1 : a + 1 < s.size := by omega
          have c1 : ((s[a + 1]'l1).toNat : Int) = bt s ((a + 1 : Nat) : Int) := bt_at s ((a + 1 : Nat) : Int) l1
          have r1 := bt_range s ((a + 1 : Nat) : Int)
          have q1 := rtake s a 1 4 hal (by decide) l1
          have l2 : a + 2 < s.size := by omega
          have c2 : ((s[a + 2]'l2).toNat : Int) = bt s ((a + 2 : Nat) : Int) := bt_at s ((a + 2 : Nat) : Int) l2
          have r2 := bt_range s ((a + 2 : Nat) : Int)
          have q2 := rtake s a 2 4 hal (by decide) l2
          have l3 : a + 3 < s.size := by omega
          have c3 : ((s[a + 3]'l3).toNat : Int) = bt s ((a + 3 : Nat) : Int) := bt_at s ((a + 3 : Nat) : Int) l3
          have r3 := bt_range s ((a + 3 : Nat) : Int)
          have q3 := rtake s a 3 4 hal (by decide) l3
          generalize bt s ((a : Nat) : Int) = y0 at c0 r0 q0
          obtain ⟨r0, r0'⟩ := r0
          have i0 : (a : Int) < (s.size : Int) := by omega
          generalize bt s ((a + 1 : Nat) : Int) = y1 at c1 r1 q1
          obtain ⟨r1, r1'⟩ := r1
          have i1 : (a : Int) + 1 < (s.size : Int) := by omega
          have z1 : 0 ≤ (a : Int) + 1 := by omega
          generalize bt s ((a + 2 : Nat) : Int) = y2 at c2 r2 q2
          obtain ⟨r2, r2'⟩ := r2
          have i2 : (a : Int) + 2 < (s.size : Int) := by omega
          have z2 : 0 ≤ (a : Int) + 2 := by omega
          generalize bt s ((a + 3 : Nat) : Int) = y3 at c3 r3 q3
          obtain ⟨r3, r3'⟩ := r3
          have i3 : (a : Int) + 3 < (s.size : Int) := by omega
          have z3 : 0 ≤ (a : Int) + 3 := by omega
          have Hns : Hid (¬ (s.extract a s.size).size < sz (tagAt s k)) := by
            show ¬ _
            rw [rsize s a hal, ← Ht.out]; simp [sz]; omega
          have hval : unW d 3 ((bytesOf (s.extract a s.size)).take (sz 3)) = some (y0 + y1 * 256 + y2 * 65536 + y3 * 16777216) ∧ 0 ≤ y0 + y1 * 256 + y2 * 65536 + y3 * 16777216 ∧ y0 + y1 * 256 + y2 * 65536 + y3 * 16777216 < 4294967296 := by
            refine ⟨?_, by omega, by omega⟩
            show unW d 3 (List.take 4 _) = _
            simp only [unW]
            rw [q0, q1, q2, q3]
            simp; omega
          clear hsh q0 q1 q2 q3
          go_wp2_with fail
          go_region
          obtain ⟨x, hx⟩ : ∃ x, x = y0 + y1 * 256 + y2 * 65536 + y3 * 16777216 := ⟨_, rfl⟩
          rw [← hx] at hval ⊢
          have hM := hM.drawn
          have HN : Hid (UnRel s (k + 1) (recF d x) (wl ++ [x]) (s.extract (a + 4) s.size)) := (unRel_next HU.out hlt Hns.out (x := x) (by rw [← Ht.out]; exact hval.1) (ex_drop s a 4 _ (by rw [← Ht.out]; rfl) (by omega))).1
          obtain ⟨hval, hx0, hx1⟩ := hval
          clear hx hval
          generalize wr.drew = w1 at hM ⊢
          have hpg : pageB (wl ++ [x]) = pageB wl ++ [x % 256, x / 256 % 256, x / 65536 % 256, x / 16777216] := by
            rw [pageB_snoc]
            unfold b0 b1 b2 b3
            rw [show x / 16777216 % 256 = x / 16777216 by omega]
          have Hpg := Lib.hid hpg
          clear hpg
          by_cases hxz : x = 0
          · have hbx : (x != 0) = false := by simpa using hxz
            have hM2 : RuMem w u5 wl (recF d x) w1 := by rw [hxz, recF_zero]; exact hM
            clear hM hxz
            go_wp2_with (at_builtin; go_must (refine append_lit w.heap.size (w.heap.size + 1) rfl (.tmp 119) (.tmp 131) 31 5 .u8 1 rfl Try.underlying31 (by kernel_rfl) (by decide) u5 (pageB wl) [x % 256, x / 256 % 256, x / 65536 % 256, x / 16777216] 4 rfl rfl rfl hM2.own hM2.below (by omega) (by have := hM2.size; omega) (by omega) ?_); intro v5 w5 ho5 hb5 hg5; rw [← Hpg.out] at ho5)
            have hM5 := RuMem.next hM2 ho5 hb5 hg5
            clear ho5 hb5 hg5 hM2
            go_wp2_with fail
            go_roundw
            case rel => exact ⟨k + 1, by omega, by go_num, recF d x, _, a + 4, by go_num, by omega, by omega, HN.out, hM5⟩
            case measure => simp [intOf]; omega
          · have hbx : (x != 0) = true := by simpa using hxz
            have hM2 := hM.stored hxz hx0 hx1
            have hsl : (x / 65536 % 16).toNat < 16 := by omega
            have cS : w1.cell? ⟨w.heap.size, (x / 65536 % 16).toNat, none⟩ = some (.int .u32 (d (x / 65536 % 16).toNat)) := (cellB hM.dict _).trans (dcells_at _ _ hsl)
            have fS : w1.frozen? ⟨w.heap.size, (x / 65536 % 16).toNat, none⟩ = false := frozenB hM.dict _
            clear hM hxz
            go_upto_region 24 with (fail)
            generalize w1.setCell ⟨w.heap.size, (x / 65536 % 16).toNat, none⟩ (.int .u32 x) = w3 at hM2 ⊢
            go_wp2_with (at_builtin; go_must (refine append_lit w.heap.size (w.heap.size + 1) rfl (.tmp 119) (.tmp 131) 31 5 .u8 1 rfl Try.underlying31 (by kernel_rfl) (by decide) u5 (pageB wl) [x % 256, x / 256 % 256, x / 65536 % 256, x / 16777216] 4 rfl rfl rfl hM2.own hM2.below (by omega) (by have := hM2.size; omega) (by omega) ?_); intro v5 w5 ho5 hb5 hg5; rw [← Hpg.out] at ho5)
            have hM5 := RuMem.next hM2 ho5 hb5 hg5
            clear ho5 hb5 hg5 hM2
            go_wp2_with fail
            go_roundw
            case rel => exact ⟨k + 1, by omega, by go_num, recF d x, _, a + 4, by go_num, by omega, by omega, HN.out, hM5⟩
            case measure => simp [intOf]; omega
    · have hk64 : k = 64 := by omega
      have hfin : runpackR s = .returned (.tuple #[.string (strOfNums (pageB wl)), .bool true]) := by
        unfold runpackR
        rw [unRel_end (d := d) (wl := wl) (r := s.extract a s.size) (by have := HU.out; rwa [hk64] at this)]
      have Hfin := Lib.hid hfin
      have Hk := Lib.hid hk64
      clear hfin hk64
      have hcv := own_string (P := Try.prog) (src := 31) (dst := 9) (e := 5) Try.underlying31 Try.underlying5 Try.underlying9 hM.own
      have hB := hM.below
      go_wp2_with fail
      go_ret2
      exact ⟨by rw [Hfin.out]; rfl, hB⟩
theorem runpack_short (s : ByteArray) (hs : s.size < 17) (w : World) :
    Calls Try.prog 19 #[.string s] w fun e w' => e = .returned (.tuple #[.string ByteArray.empty, .bool false]) ∧ Below w.heap.size w w' := by
  have h' : decide ((s.size : Int) < 17) = true := by simp; omega
  go_enter Try.func19, Try.ntmps19
  go_wp2_with fail
  go_ret2
  exact ⟨rfl, Below.refl _ _⟩
end Go.Proofs.Ytdfmjmabdggcjaa.Pz
