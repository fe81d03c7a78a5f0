import Derived.Test.YtdfmjmabdggcjaaPzL
import Derived.Test.YtdfmjmabdggcjaaPzQ
namespace Go.Proofs.Ytdfmjmabdggcjaa.Pz
open Go.RowKit Go.Proofs.YtdfmjmabdggcjaaW.PrintWords
set_option linter.unusedVariables false
set_option linter.unusedSimpArgs false
theorem make16 (W : World) : (Instr.makeSlice 31 (.int .i64 16) (.int .i64 16)).run Try.prog W = .ok (.slice (some ⟨W.heap.size, 0, none⟩) 16 16) (W.alloc (.cells #[.int .u8 0, .int .u8 0, .int .u8 0, .int .u8 0, .int .u8 0, .int .u8 0, .int .u8 0, .int .u8 0, .int .u8 0, .int .u8 0, .int .u8 0, .int .u8 0, .int .u8 0, .int .u8 0, .int .u8 0, .int .u8 0] 5)) := by kernel_rfl

/-- What the reference's loop holds after k rounds. -/
structure RefRel (s : ByteArray) (w : World) (v : Value) (k : Nat) (wr : World) : Prop where
  own : wr.ownsRow (w.heap.size + 2) 5 1 v (pst s k).out.length (nums .u8 (pst s k).out)
  tags : wr.heap[w.heap.size + 1]? = some (.cells (nums .u8 (tb (pst s k).ts)).toArray 5 (0, 0))
  dict : wr.heap[w.heap.size]? = some (.cells (dcells (pst s k).d) 42 (0, 0))
  below : Below w.heap.size w wr
  size : w.heap.size + 1 < wr.heap.size

theorem tb_zero (ts : List Int) : tb (ts ++ [0]) = tb ts := by
  unfold tb
  refine List.map_congr_left fun j _ => ?_
  have g : ∀ i, (ts ++ [0]).getD i 0 = ts.getD i 0 := by
    intro i
    rw [getD_snoc]
    split
    · rename_i h; rw [getD_past _ (by omega)]
    · rfl
  simp only [tb1, g]
theorem tb1_lt (ts : List Int) (hts : ∀ t ∈ ts, 0 ≤ t ∧ t ≤ 3) (j : Nat) : 0 ≤ tb1 ts j ∧ tb1 ts j ≤ 255 := by
  have g0 := getD_tag hts (4 * j)
  have g1 := getD_tag hts (4 * j + 1)
  have g2 := getD_tag hts (4 * j + 2)
  have g3 := getD_tag hts (4 * j + 3)
  unfold tb1
  omega
theorem tb1_add (ts : List Int) (t : Int) (hts : ∀ t ∈ ts, 0 ≤ t ∧ t ≤ 3) (ht : 0 ≤ t ∧ t ≤ 3) :
    (tb1 ts (ts.length / 4) + t * 2 ^ (2 * (ts.length % 4)) % 256) % 256 = tb1 (ts ++ [t]) (ts.length / 4) := by
  have g0 := getD_tag hts (4 * (ts.length / 4))
  have g1 := getD_tag hts (4 * (ts.length / 4) + 1)
  have g2 := getD_tag hts (4 * (ts.length / 4) + 2)
  have g3 := getD_tag hts (4 * (ts.length / 4) + 3)
  have p0 := getD_past (ts := ts) (4 * (ts.length / 4))
  have p1 := getD_past (ts := ts) (4 * (ts.length / 4) + 1)
  have p2 := getD_past (ts := ts) (4 * (ts.length / 4) + 2)
  have p3 := getD_past (ts := ts) (4 * (ts.length / 4) + 3)
  unfold tb1
  simp only [getD_snoc]
  have hr : ts.length % 4 = 0 ∨ ts.length % 4 = 1 ∨ ts.length % 4 = 2 ∨ ts.length % 4 = 3 := by omega
  rcases hr with hr | hr | hr | hr
  · rw [hr, if_pos (by omega), if_neg (by omega), if_neg (by omega), if_neg (by omega)]
    have := p0 (by omega); have := p1 (by omega); have := p2 (by omega); have := p3 (by omega)
    omega
  · rw [hr, if_neg (by omega), if_pos (by omega), if_neg (by omega), if_neg (by omega)]
    have := p1 (by omega); have := p2 (by omega); have := p3 (by omega)
    omega
  · rw [hr, if_neg (by omega), if_neg (by omega), if_pos (by omega), if_neg (by omega)]
    have := p2 (by omega); have := p3 (by omega)
    omega
  · rw [hr, if_neg (by omega), if_neg (by omega), if_neg (by omega), if_pos (by omega)]
    have := p3 (by omega)
    omega
theorem tb_set (ts : List Int) (t y : Int) (hts : ∀ t ∈ ts, 0 ≤ t ∧ t ≤ 3) (ht : 0 ≤ t ∧ t ≤ 3) (hl : ts.length < 64) (hy : y = tb1 (ts ++ [t]) (ts.length / 4)) :
    (nums .u8 (tb ts)).toArray.setIfInBounds (ts.length / 4) (.int .u8 y) = (nums .u8 (tb (ts ++ [t]))).toArray := by
  rw [List.setIfInBounds_toArray]
  congr 1
  rw [show (nums .u8 (tb ts)).set (ts.length / 4) (.int .u8 y) = nums .u8 ((tb ts).set (ts.length / 4) y) by simp [nums, List.map_set]]
  congr 1
  apply List.ext_getElem
  · simp [tb]
  · intro i h1 h2
    simp only [List.getElem_set, tb, List.getElem_map, List.getElem_range]
    by_cases e : ts.length / 4 = i
    · rw [if_pos e, hy, e]
    · rw [if_neg e, tb1_other _ _ _ (by omega)]
/-- A round of the reference: what was appended, the tag stored, the dictionary set. -/
theorem RefRel.next {s : ByteArray} {w w4 : World} {k : Nat} {st : St} {x y : Int} {v4 : Value} (hg : Good st k) (hk : k < 64) (hst : pst s (k + 1) = step st x)
    (ho : w4.ownsRow (w.heap.size + 2) 5 1 v4 (st.out ++ emit (tagF st.d x) x).length (nums .u8 (st.out ++ emit (tagF st.d x) x)))
    (hT : w4.heap[w.heap.size + 1]? = some (.cells (nums .u8 (tb st.ts)).toArray 5 (0, 0))) (hD : w4.heap[w.heap.size]? = some (.cells (dcells st.d) 42 (0, 0))) (hb : Below w.heap.size w w4) (hz : w.heap.size + 1 < w4.heap.size)
    (hx : x ≠ 0) (hx0 : 0 ≤ x) (hx1 : x < 4294967296) (hy : y = (tb1 st.ts (k / 4) + tagF st.d x * 2 ^ (2 * (k % 4)) % 256) % 256) :
    RefRel s w v4 (k + 1) ((w4.setCell ⟨w.heap.size + 1, k / 4, none⟩ (.int .u8 y)).setCell ⟨w.heap.size, (x / 65536 % 16).toNat, none⟩ (.int .u32 x)) := by
  have hl := hg.len
  subst hl
  rw [tb1_add st.ts _ hg.tag (tag_range _ _)] at hy
  have hsl : (x / 65536 % 16).toNat < 16 := by omega
  have e1 : (w4.setCell ⟨w.heap.size + 1, st.ts.length / 4, none⟩ (.int .u8 y)).heap[w.heap.size]? = some (.cells (dcells st.d) 42 (0, 0)) := (heap_setCell_ne _ _ _ _ (by simp)).trans hD
  refine ⟨?_, ?_, ?_, ?_, ?_⟩
  · rw [hst]
    show World.ownsRow (World.setCell _ _ _) _ _ _ _ _ _
    exact ownsRow_setCell_below (ownsRow_setCell_below ho (by simp) _) (by simp) _
  · rw [hst]
    show (World.setCell _ _ _).heap[_]? = _
    rw [heap_setCell_ne _ _ _ _ (by simp), setB hT, tb_set st.ts (tagF st.d x) y hg.tag (tag_range _ _) hk hy]
    rfl
  · rw [hst]
    show (World.setCell _ _ _).heap[_]? = _
    rw [setB e1, dcells_set _ _ hsl]
    simp only [step, recF, if_neg hx]
    rfl
  · exact (hb.setCell (by simp) _).setCell (by simp) _
  · show w.heap.size + 1 < (World.setCell _ _ _).heap.size
    simpa using hz

set_option maxHeartbeats 16000000 in
set_option maxRecDepth 100000 in
theorem refc_main (s : ByteArray) (hs : s.size = 256) (w : World) :
    Calls Try.prog 12 #[.string s] w fun e w' => e = .returned (.tuple #[.string (compS s), .int .i64 (compE s)]) ∧ Below w.heap.size w w' := by
  have hne : ((s.size : Int) != 256) = false := by simp; omega
  have Hs := Lib.hid hs
  have hmk := make16
  have hs1 : s.size ≤ 256 := by omega
  have hs2 : 256 ≤ s.size := by omega
  clear hs
  go_enter Try.func12, Try.ntmps12
  go_wp2_with fail
  clear hmk hne
  go_loopw [6, 7] (fun v c wr => ∃ k : Nat, k ≤ 64 ∧ c = .int .i64 k ∧ RefRel s w v k wr)
      (fun _ c _ => 64 - (intOf c).toNat)
  case atStart =>
    refine ⟨0, by omega, rfl, own_nil _ _ _ _, ?_, ?_, ?_, by simp⟩
    · have h := heap_alloc_new (w.alloc (.cells (dcells st0.d) 42)) (.cells (nums .u8 (List.replicate 16 0)).toArray 5)
      rw [World.size_alloc] at h
      exact h
    · exact (heap_alloc_old (w.alloc (.cells (dcells st0.d) 42)) _ (by simp)).trans (heap_alloc_new w _)
    · exact ((Below.refl _ _).alloc (Nat.le_refl _) _).alloc (by simp) _
  case round =>
    obtain ⟨k, hk, rfl, hrel⟩ := hrel
    by_cases hlt : k < 64
    · have Hgd := Lib.hid (good_pst s k)
      have Hst := Lib.hid (pst_succ s k)
      obtain ⟨hO, hT, hD, hb, hsz⟩ := hrel
      generalize pst s k = st at hO hT hD Hgd Hst
      have l0 : 4 * k < s.size := by omega
      have l1 : 4 * k + 1 < s.size := by omega
      have l2 : 4 * k + 2 < s.size := by omega
      have l3 : 4 * k + 3 < s.size := by omega
      have c0 : ((s[4 * k]'l0).toNat : Int) = bt s ((4 * k : Nat) : Int) := bt_at s ((4 * k : Nat) : Int) l0
      have c1 : ((s[4 * k + 1]'l1).toNat : Int) = bt s ((4 * k + 1 : Nat) : Int) := bt_at s ((4 * k + 1 : Nat) : Int) l1
      have c2 : ((s[4 * k + 2]'l2).toNat : Int) = bt s ((4 * k + 2 : Nat) : Int) := bt_at s ((4 * k + 2 : Nat) : Int) l2
      have c3 : ((s[4 * k + 3]'l3).toNat : Int) = bt s ((4 * k + 3 : Nat) : Int) := bt_at s ((4 * k + 3 : Nat) : Int) l3
      have r0 := bt_range s ((4 * k : Nat) : Int)
      have r1 := bt_range s ((4 * k + 1 : Nat) : Int)
      have r2 := bt_range s ((4 * k + 2 : Nat) : Int)
      have r3 := bt_range s ((4 * k + 3 : Nat) : Int)
      have hw : wordS s k = bt s ((4 * k : Nat) : Int) + 256 * bt s ((4 * k + 1 : Nat) : Int) + 65536 * bt s ((4 * k + 2 : Nat) : Int) + 16777216 * bt s ((4 * k + 3 : Nat) : Int) := rfl
      generalize bt s ((4 * k : Nat) : Int) = y0 at c0 r0 hw
      generalize bt s ((4 * k + 1 : Nat) : Int) = y1 at c1 r1 hw
      generalize bt s ((4 * k + 2 : Nat) : Int) = y2 at c2 r2 hw
      generalize bt s ((4 * k + 3 : Nat) : Int) = y3 at c3 r3 hw
      have Hw := Lib.hid hw
      clear hw
      obtain ⟨r0, r0'⟩ := r0
      obtain ⟨r1, r1'⟩ := r1
      obtain ⟨r2, r2'⟩ := r2
      obtain ⟨r3, r3'⟩ := r3
      have i0 : 4 * (k : Int) < (s.size : Int) := by omega
      have i1 : 4 * (k : Int) + 1 < (s.size : Int) := by omega
      have i2 : 4 * (k : Int) + 2 < (s.size : Int) := by omega
      have i3 : 4 * (k : Int) + 3 < (s.size : Int) := by omega
      have z0 : 0 ≤ 4 * (k : Int) := by omega
      have z1 : 0 ≤ 4 * (k : Int) + 1 := by omega
      have z2 : 0 ≤ 4 * (k : Int) + 2 := by omega
      have z3 : 0 ≤ 4 * (k : Int) + 3 := by omega
      go_wp2_with fail
      go_region
      obtain ⟨x, hx⟩ : ∃ x, x = y0 + y1 * 256 + y2 * 65536 + y3 * 16777216 := ⟨_, rfl⟩
      have hx0 : 0 ≤ x := by omega
      have hx1 : x < 4294967296 := by omega
      have hwx : wordS s k = x := by rw [Hw.out]; omega
      rw [hwx] at Hst
      clear hwx Hw
      rw [← hx]
      clear hx
      have hsl : (x / 65536 % 16).toNat < 16 := by omega
      have hk16 : k / 4 < 16 := by omega
      have cD : wr.cell? ⟨w.heap.size, (x / 65536 % 16).toNat, none⟩ = some (.int .u32 (st.d (x / 65536 % 16).toNat)) := (cellB hD _).trans (dcells_at _ _ hsl)
      have hTt : (nums IntKind.u8 (tb st.ts)).toArray[k / 4]? = some (.int .u8 (tb1 st.ts (k / 4))) := by simp [nums, tb, hk16]
      have cT : wr.cell? ⟨w.heap.size + 1, k / 4, none⟩ = some (.int .u8 (tb1 st.ts (k / 4))) := (cellB hT _).trans hTt
      clear hTt
      have ht := tagV x (st.d (x / 65536 % 16).toNat)
      have hte : tagF st.d x = tagV x (st.d (x / 65536 % 16).toNat) := rfl
      have Hte := Lib.hid hte
      clear hte
      have hdr := (Hgd.out.dict _ hsl).1
      have Hdd := Lib.hid (show st.d (x / 65536 % 16).toNat = st.d (x / 65536 % 16).toNat from rfl)
      have hfT : wr.frozen? ⟨w.heap.size + 1, k / 4, none⟩ = false := frozenB hT _
      have hfD : wr.frozen? ⟨w.heap.size, (x / 65536 % 16).toNat, none⟩ = false := frozenB hD _
      obtain ⟨d', hd'⟩ : ∃ d', d' = st.d (x / 65536 % 16).toNat := ⟨_, rfl⟩
      rw [← hd'] at cD Hte hdr
      have hdd := hd'
      obtain ⟨hd0, hd1⟩ := hdr
      clear Hdd ht hd'
      have hO : wr.drew.ownsRow (w.heap.size + 2) 5 1 u6 st.out.length (nums .u8 st.out) := hO
      have hT : wr.drew.heap[w.heap.size + 1]? = some (Obj.cells (nums IntKind.u8 (tb st.ts)).toArray 5) := hT
      have hD : wr.drew.heap[w.heap.size]? = some (Obj.cells (dcells st.d) 42) := hD
      have hb : Below w.heap.size w wr.drew := below_drew hb
      have hsz : w.heap.size + 1 < wr.drew.heap.size := hsz
      clear cT cD hfT hfD
      have cD : wr.drew.cell? ⟨w.heap.size, (x / 65536 % 16).toNat, none⟩ = some (.int .u32 d') := by rw [hdd]; exact (cellB hD _).trans (dcells_at _ _ hsl)
      generalize wr.drew = w1 at hO hT hD hb hsz cD ⊢
      have hout : st.out.length ≤ 256 := by have := Hgd.out.outlen; omega
      have Hdd := Lib.hid hdd
      clear hdd
      by_cases hz : x = 0
      · have hb0 : (x == 0) = true := by simpa using hz
        have hst' : pst s (k + 1) = ⟨st.d, st.ts ++ [0], st.out⟩ := by rw [Hst.out, hz]; simp [step, recF, tagF, emit]
        have R : RefRel s w u6 (k + 1) w1 := by
          refine ⟨?_, ?_, ?_, hb, hsz⟩
          · rw [hst']; exact hO
          · rw [hst']; simp only [tb_zero]; exact hT
          · rw [hst']; exact hD
        clear hz hst' hO hT hD hb
        go_wp2_with fail
        go_roundw
        case rel => exact ⟨k + 1, by omega, by go_num, R⟩
        case measure => simp [intOf]; omega
      · have hb0 : (x == 0) = false := by simpa using hz
        have Hz := Lib.hid hz
        have HTt : Hid ((nums IntKind.u8 (tb st.ts)).toArray[k / 4]? = some (.int .u8 (tb1 st.ts (k / 4)))) := by
          have : (nums IntKind.u8 (tb st.ts)).toArray[k / 4]? = some (.int .u8 (tb1 st.ts (k / 4))) := by simp [nums, tb, hk16]
          exact this
        have HDt : Hid ((dcells st.d)[(x / 65536 % 16).toNat]? = some (.int .u32 d')) := by rw [Hdd.out]; exact dcells_at _ _ hsl
        have htb := tb1_lt st.ts Hgd.out.tag (k / 4)
        obtain ⟨htb0, htb1⟩ := htb
        by_cases h1 : d' = x
        · have hb1 : (d' == x) = true := by simpa using h1
          have htag : tagF st.d x = 1 := by rw [Hte.out, tagV, if_neg hz, if_pos h1.symm]
          have Ht := Lib.hid htag
          have He : Hid (emit (tagF st.d x) x = [x / 65536 % 16]) := by rw [htag]; rfl
          clear h1 htag hz
          go_wp2_with (at_builtin; go_must (refine append_lit w.heap.size (w.heap.size + 2) rfl (.tmp 73) (.tmp 76) 31 5 .u8 1 rfl Try.underlying31 (by kernel_rfl) (by decide) u6 st.out [x / 65536 % 16] 1 rfl rfl rfl hO hb (by omega) (by omega) (by omega) ?_); intro v4 w4 hO4 hb4 hg4; have hT4 := grown_low hO hT (by omega) hg4; have hD4 := grown_low hO hD (by omega) hg4; have cT4 := (cellB hT4 (k / 4)).trans HTt.out; have cD4 := (cellB hD4 (x / 65536 % 16).toNat).trans HDt.out; have fT4 := frozenB hT4 (k / 4); have fD4 := frozenB hD4 (x / 65536 % 16).toNat; have hz4 : w.heap.size + 1 < w4.heap.size := Nat.lt_of_lt_of_le hsz hg4.size)
          go_roundw
          case rel => exact ⟨k + 1, by omega, by go_num, RefRel.next Hgd.out hlt Hst.out (by rw [He.out]; exact hO4) hT4 hD4 hb4 hz4 Hz.out hx0 hx1 (by rw [Ht.out]; generalize (2 : Int) ^ (2 * (k % 4)) = P; omega)⟩
          case measure => simp [intOf]; omega
        · have hb1 : (d' == x) = false := by simpa using h1
          by_cases h2 : x / 65536 = d' / 65536
          · have hb2 : (d' / 65536 == x / 65536) = true := by simpa using h2.symm
            have htag : tagF st.d x = 2 := by rw [Hte.out, tagV, if_neg hz, if_neg (fun e => h1 e.symm), if_pos h2]
            have Ht := Lib.hid htag
            have He : Hid (emit (tagF st.d x) x = [x / 65536 % 16, x % 256, x / 256 % 256]) := by rw [htag]; rfl
            clear h1 h2 htag hz
            go_wp2_with (at_builtin; go_must (refine append_lit w.heap.size (w.heap.size + 2) rfl (.tmp 86) (.tmp 94) 31 5 .u8 1 rfl Try.underlying31 (by kernel_rfl) (by decide) u6 st.out [x / 65536 % 16, x % 256, x / 256 % 256] 3 rfl rfl rfl hO hb (by omega) (by omega) (by omega) ?_); intro v4 w4 hO4 hb4 hg4; have hT4 := grown_low hO hT (by omega) hg4; have hD4 := grown_low hO hD (by omega) hg4; have cT4 := (cellB hT4 (k / 4)).trans HTt.out; have cD4 := (cellB hD4 (x / 65536 % 16).toNat).trans HDt.out; have fT4 := frozenB hT4 (k / 4); have fD4 := frozenB hD4 (x / 65536 % 16).toNat; have hz4 : w.heap.size + 1 < w4.heap.size := Nat.lt_of_lt_of_le hsz hg4.size)
            go_roundw
            case rel => exact ⟨k + 1, by omega, by go_num, RefRel.next Hgd.out hlt Hst.out (by rw [He.out]; exact hO4) hT4 hD4 hb4 hz4 Hz.out hx0 hx1 (by rw [Ht.out]; generalize (2 : Int) ^ (2 * (k % 4)) = P; omega)⟩
            case measure => simp [intOf]; omega
          · have hb2 : (d' / 65536 == x / 65536) = false := by simpa using fun e => h2 e.symm
            have htag : tagF st.d x = 3 := by rw [Hte.out, tagV, if_neg hz, if_neg (fun e => h1 e.symm), if_neg h2]
            have Ht := Lib.hid htag
            have He : Hid (emit (tagF st.d x) x = [x % 256, x / 256 % 256, x / 65536 % 256, x / 16777216]) := by
              rw [htag]
              simp only [emit, b0, b1, b2, b3]
              rw [show x / 16777216 % 256 = x / 16777216 by omega]
              rfl
            clear h1 h2 htag hz
            go_wp2_with (at_builtin; go_must (refine append_lit w.heap.size (w.heap.size + 2) rfl (.tmp 53) (.tmp 65) 31 5 .u8 1 rfl Try.underlying31 (by kernel_rfl) (by decide) u6 st.out [x % 256, x / 256 % 256, x / 65536 % 256, x / 16777216] 4 rfl rfl rfl hO hb (by omega) (by omega) (by omega) ?_); intro v4 w4 hO4 hb4 hg4; have hT4 := grown_low hO hT (by omega) hg4; have hD4 := grown_low hO hD (by omega) hg4; have cT4 := (cellB hT4 (k / 4)).trans HTt.out; have cD4 := (cellB hD4 (x / 65536 % 16).toNat).trans HDt.out; have fT4 := frozenB hT4 (k / 4); have fD4 := frozenB hD4 (x / 65536 % 16).toNat; have hz4 : w.heap.size + 1 < w4.heap.size := Nat.lt_of_lt_of_le hsz hg4.size)
            go_roundw
            case rel => exact ⟨k + 1, by omega, by go_num, RefRel.next Hgd.out hlt Hst.out (by rw [He.out]; exact hO4) hT4 hD4 hb4 hz4 Hz.out hx0 hx1 (by rw [Ht.out]; generalize (2 : Int) ^ (2 * (k % 4)) = P; omega)⟩
            case measure => simp [intOf]; omega
    · have hk64 : k = 64 := by omega
      have Hk := Lib.hid hk64
      have R : RefRel s w u6 64 wr := by rw [← hk64]; exact hrel
      clear hrel hk64
      have hfin : compS s = if (17 + (pst s 64).out.length) ≤ 256 then ⟨#[1]⟩ ++ strOfNums (tb (pst s 64).ts) ++ strOfNums (pst s 64).out else ⟨#[0]⟩ ++ s := by
        unfold compS packS
        rw [if_pos Hs.out, packL_length]
        by_cases h : 17 + (pst s 64).out.length ≤ 256
        · rw [if_pos h, if_pos h]
          have hg := good_pst s 64
          apply bytesOf_inj
          rw [bytesOf_append, bytesOf_append, bytesOf_str _ (tb_range _ hg.tag), bytesOf_str _ hg.byte, bytesOf_str _ (packL_range hg)]
          rfl
        · rw [if_neg h, if_neg h]
      have hol : (pst s 64).out.length ≤ 256 := by have := (good_pst s 64).outlen; omega
      generalize hst64 : pst s 64 = st at hfin hol
      have hO := R.own
      have hT := R.tags
      have hb := R.below
      rw [hst64] at hO hT
      clear R hst64
      have hcv := own_string (P := Try.prog) (src := 31) (dst := 9) (e := 5) Try.underlying31 Try.underlying5 Try.underlying9 hO
      have hOT : wr.ownsRow (w.heap.size + 1) 5 1 (.slice (some ⟨w.heap.size + 1, 0, none⟩) 16 16) 16 (nums .u8 (tb st.ts)) :=
        ⟨by simp [nums, tb_length], .inr ⟨w.heap.size + 1, 16, (nums .u8 (tb st.ts)).toArray, rfl, Nat.le_refl _, hT, Nat.le_refl _, by decide, by simp [nums, tb_length], by
          rw [List.take_of_length_le (by simp [nums, tb_length])]⟩⟩
      have hcT := own_string (P := Try.prog) (src := 31) (dst := 9) (e := 5) Try.underlying31 Try.underlying5 Try.underlying9 hOT
      obtain ⟨A, c, hv⟩ := own_slice hO
      subst hv
      clear hOT hT hO
      have h16 : (strOfNums (tb st.ts)).size ≤ 16 := by rw [strOfNums_size, tb_length]; omega
      have h256 : (strOfNums st.out).size ≤ 256 := by rw [strOfNums_size]; exact hol
      generalize strOfNums (tb st.ts) = S1 at *
      generalize strOfNums st.out = S2 at *
      generalize st.out.length = n at *
      have HE : Hid (compE s = 0) := by unfold compE; rw [if_pos Hs.out]; rfl
      by_cases hl : 17 + n ≤ 256
      · have hdec : decide (256 < 17 + (n : Int)) = false := by simp; omega
        rw [if_pos hl] at hfin
        have Hfin := Lib.hid hfin
        clear hl hfin
        go_wp2_with fail
        go_ret2
        exact ⟨by rw [Hfin.out, HE.out]; rfl, hb⟩
      · have hdec : decide (256 < 17 + (n : Int)) = true := by simp; omega
        rw [if_neg hl] at hfin
        have Hfin := Lib.hid hfin
        clear hl hfin
        go_wp2_with fail
        go_ret2
        exact ⟨by rw [Hfin.out, HE.out]; rfl, hb⟩
end Go.Proofs.Ytdfmjmabdggcjaa.Pz
