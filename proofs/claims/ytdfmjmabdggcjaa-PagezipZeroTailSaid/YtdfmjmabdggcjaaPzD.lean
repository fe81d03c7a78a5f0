import Derived.Test.YtdfmjmabdggcjaaPzC
namespace Go.Proofs.Ytdfmjmabdggcjaa.Pz
open Go.RowKit Go.Proofs.YtdfmjmabdggcjaaW.PrintWords
set_option linter.unusedVariables false
set_option linter.unusedSimpArgs false
theorem blk_below {w w' : World} (h : Below w.heap.size w w') {B : Nat} {o : Obj} (hB : w.heap[B]? = some o) : w'.heap[B]? = some o := by
  rw [h.block B (Array.getElem?_eq_some_iff.1 hB).1]; exact hB

theorem unpack_short (s : ByteArray) (hs : s.size < 17) (w : World) :
    Calls Try.prog 18 #[.string s] w fun e w' => e = .returned (.tuple #[.string ByteArray.empty, .bool false]) ∧ Below w.heap.size w w' := by
  have h' : decide ((s.size : Int) < 17) = true := by simp; omega
  go_enter Try.func18, Try.ntmps18
  go_wp2_with fail
  go_ret2
  exact ⟨rfl, Below.refl _ _⟩
theorem unpack_head (s : ByteArray) (hs : 17 ≤ s.size) (h0 : bt s 0 ≠ 1) (w : World) :
    Calls Try.prog 18 #[.string s] w fun e w' => e = .returned (.tuple #[.string ByteArray.empty, .bool false]) ∧ Below w.heap.size w w' := by
  have g0 : ((s[0]'(by omega)).toNat : Int) = bt s 0 := bt_at s 0 (by simp; omega)
  have h1 : (bt s 0 != 1) = true := by simpa using h0
  have h2 : decide ((s.size : Int) < 17) = false := by simp; omega
  go_enter Try.func18, Try.ntmps18
  go_wp2_with fail
  go_ret2
  exact ⟨rfl, Below.refl _ _⟩

/-- What the loop of unpack holds in memory. -/
structure UnMem (w : World) (pv : Value) (wl : List Int) (d : Dict) (wr : World) : Prop where
  own : wr.ownsRow w.heap.size 5 1 pv (pageB wl).length (nums .u8 (pageB wl))
  dict : wr.heap[w.heap.size]? = some (.cells (dcells d) 45 (0, 0))
  below : Below w.heap.size w wr
  size : w.heap.size < wr.heap.size
theorem UnMem.after {w wr wn : World} {pv : Value} {wl : List Int} {d : Dict} (h : UnMem w pv wl d wr) (hb : Below wr.heap.size wr wn) : UnMem w pv wl d wn :=
  ⟨pw_own_below h.own hb, blk_below hb h.dict, below_then h.below (by have := h.size; omega) hb, Nat.lt_of_lt_of_le h.size hb.size⟩
theorem UnMem.drawn {w wr : World} {pv : Value} {wl : List Int} {d : Dict} (h : UnMem w pv wl d wr) (n : Nat) : UnMem w pv wl d (wr.drewN n) :=
  ⟨h.own, h.dict, pw_below_drewN h.below n, h.size⟩
structure UnW (s : ByteArray) (w : World) (rv pv : Value) (k : Nat) (wr : World) (d : Dict) (wl : List Int) (r : ByteArray) : Prop where
  rel : UnRel s k d wl r
  rest : rv = .string r
  rsize : r.size ≤ s.size
  mem : UnMem w pv wl d wr
/-- The page grows by a word, and the dictionary is set. -/
theorem UnMem.next {w w4 w5 : World} {v4 : Value} {wl : List Int} {d : Dict} {x : Int} (ho : w4.ownsRow w.heap.size 5 1 v4 (pageB (wl ++ [x])).length (nums .u8 (pageB (wl ++ [x])))) (hd : w4.heap[w.heap.size]? = some (.cells (dcells d) 45 (0, 0)))
    (hb : Below w.heap.size w w4) (hz : w.heap.size < w4.heap.size)
    (hd5 : w5.heap[w.heap.size]? = some (.cells (dcells (recF d x)) 45 (0, 0))) (hg : w4.grownBy w5 (some w.heap.size)) : UnMem w v4 (wl ++ [x]) (recF d x) w5 := by
  refine ⟨ho.kept hg ?_, hd5, hb.grown hg (by omega) (by intro j hj; injection hj with hj; omega), Nat.lt_of_lt_of_le hz hg.size⟩
  rcases ho.2 with ⟨rfl, _⟩ | ⟨g, cap, cur, rfl, hge, _⟩
  · exact .inl rfl
  · exact .inr fun e => own_ne ho hd (by decide) (by simpa [Value.ownBlock] using e)
set_option maxHeartbeats 1600000 in
set_option maxRecDepth 100000 in
theorem unpack_main (s : ByteArray) (hs : 17 ≤ s.size) (hmax : s.size ≤ 70000) (h0 : bt s 0 = 1) (w : World) :
    Calls Try.prog 18 #[.string s] w fun e w' => e = unpackR s ∧ Below w.heap.size w w' := by
  have g0 : ((s[0]'(by omega)).toNat : Int) = bt s 0 := bt_at s 0 (by simp; omega)
  rw [h0] at g0
  clear h0
  have hp : (17 : Int) ≤ s.size := by omega
  have h2 : decide ((s.size : Int) < 17) = false := by simp; omega
  go_enter Try.func18, Try.ntmps18
  go_wp2_with fail
  go_quiet (fail)
  go_wp2_with fail
  have hr0 : bytesOf (s.extract 17 s.size) = restS s := by
    rw [bytesOf_extract, restS, List.take_of_length_le]
    rw [List.length_drop, bytesOf_length]
    omega
  have hr0s : (s.extract 17 s.size).size ≤ s.size := by rw [ByteArray.size_extract]; omega
  obtain ⟨r0, hr0e⟩ : ∃ r0, r0 = s.extract 17 s.size := ⟨_, rfl⟩
  obtain ⟨tg, htg⟩ : ∃ tg, tg = s.extract 1 17 := ⟨_, rfl⟩
  rw [← hr0e] at hr0 hr0s
  rw [← hr0e, ← htg]
  have htgs : tg.size = 16 := by rw [htg, ByteArray.size_extract]; omega
  have Htg : Hid (∀ k, k < 64 → bt tg ((k / 4 : Nat) : Int) = bt s ((1 + k / 4 : Nat) : Int)) := by rw [htg]; exact fun k hk => bt_tag s hs k hk
  have Htgs : Hid (tg.size = 16) := htgs
  have htg1 : 16 ≤ tg.size := by omega
  have htg2 : tg.size ≤ 16 := by omega
  clear g0 hr0e htg htgs h2
  go_loopw [5, 7, 24] (fun rv pv c wr => ∃ k : Nat, k ≤ 64 ∧ c = .int .i64 k ∧ ∃ d wl r, UnW s w rv pv k wr d wl r)
      (fun _ _ c _ => 64 - (intOf c).toNat)
  case atStart =>
    refine ⟨0, by omega, rfl, st0.d, [], r0, ⟨unRel_zero s r0 hr0, rfl, hr0s, ⟨own_nil _ _ _ _, ?_, ?_, by simp⟩⟩⟩
    · have h := heap_alloc_new (w.drewN nq) (.cells (dcells st0.d) 45)
      exact h
    · exact (pw_below_drewN (Below.refl _ _) nq).alloc (Nat.le_refl _) _
  case round =>
    obtain ⟨k, hk, rfl, d, wl, r, hrel⟩ := hrel
    obtain ⟨hU, rfl, hrs, hM⟩ := hrel
    have HU := Lib.hid hU
    clear hU
    by_cases hlt : k < 64
    · have hk4 : k / 4 < tg.size := by omega
      have g1 : ((tg[k / 4]'hk4).toNat : Int) = bt tg ((k / 4 : Nat) : Int) := bt_at tg ((k / 4 : Nat) : Int) hk4
      rw [Htg.out k hlt] at g1
      have htag := tag_of s k
      have hbr := bt_range s ((1 + k / 4 : Nat) : Int)
      generalize bt s ((1 + k / 4 : Nat) : Int) = y at g1 htag hbr
      obtain ⟨hb0, hb1⟩ := hbr
      have htr := tagAt_range s k
      obtain ⟨t, ht⟩ : ∃ t, t = tagAt s k := ⟨_, rfl⟩
      rw [← ht] at htag htr
      obtain ⟨ht0, ht1⟩ := htr
      have Ht := Lib.hid ht
      clear ht
      obtain ⟨n, hn⟩ : ∃ n, n = sz t := ⟨_, rfl⟩
      have hn4 : n ≤ 4 := by rw [hn]; exact sz_le t
      have hpl : (pageB wl).length ≤ 256 := by rw [pageB_length, HU.out.len]; omega
      have HS : Hid (∀ W : World, Calls Try.prog 23 #[.int .u8 t] W fun e w' => e = .returned (.int .i64 (n : Int)) ∧ Below W.heap.size W w') := by rw [hn]; exact size_calls t ht0 ht1
      have Hn := Lib.hid hn
      clear hn
      by_cases hsh : r.size < n
      · have hfin : unpackR s = .returned (.tuple #[.string ByteArray.empty, .bool false]) := by
          unfold unpackR
          rw [unRel_short HU.out hlt (by rw [← Ht.out, ← Hn.out]; exact hsh)]
        have Hfin := Lib.hid hfin
        clear hfin
        have hdec : decide ((r.size : Int) < n) = true := by simp; omega
        go_wp2_with fail
        refine (HS.out _).mono ?_
        rintro e w1 ⟨rfl, hb1⟩
        have hM1 := hM.after hb1
        clear hM hb1
        go_wp2_with fail
        go_ret2
        exact ⟨by rw [Hfin.out]; rfl, hM1.below⟩
      · have hnr : n ≤ r.size := by omega
        have hdec : decide ((r.size : Int) < n) = false := by simp; omega
        go_wp2_with fail
        refine (HS.out _).mono ?_
        rintro e w1 ⟨rfl, hb1⟩
        have hM1 := hM.after hb1
        clear hM hb1
        go_wp2_with fail
        refine (HS.out _).mono ?_
        rintro e w2 ⟨rfl, hb2⟩
        have hM2 := hM1.after hb2
        clear hM1 hb2
        go_wp2_with fail
        have hqs : (r.extract 0 n).size = n := by rw [ByteArray.size_extract]; omega
        have hqb : bytesOf (r.extract 0 n) = (bytesOf r).take (sz (tagAt s k)) := by
          rw [bytesOf_extract, List.drop_zero, Hn.out, Ht.out]; rfl
        obtain ⟨q, hq⟩ : ∃ q, q = r.extract 0 n := ⟨_, rfl⟩
        rw [← hq] at hqs hqb ⊢
        have Hqb := Lib.hid hqb
        clear hq hqb
        refine (word_calls _ d HU.out.dict t ht0 ht1 q (by rw [hqs, Hn.out]) _ hM2.dict).mono ?_
        clear hqs
        rintro e w3 ⟨he, m, rfl⟩
        have hM3 := hM2.drawn m
        clear hM2
        generalize w2.drewN m = w3 at hM3 ⊢
        have hsh' : ¬ r.size < sz (tagAt s k) := by rw [← Ht.out, ← Hn.out]; omega
        have Hsh := Lib.hid hsh'
        clear hsh'
        cases hu : unW d t (bytesOf q) with
        | none =>
          have hfin : unpackR s = .returned (.tuple #[.string ByteArray.empty, .bool false]) := by
            unfold unpackR
            rw [unRel_bad HU.out hlt Hsh.out (by rw [← Hqb.out, ← Ht.out]; exact hu)]
          have Hfin := Lib.hid hfin
          have he' : e = .returned (.tuple #[.int .u32 0, .bool false]) := by rw [he, wordR, hu]
          subst he'
          clear hfin hu he
          go_wp2_with fail
          go_ret2
          exact ⟨by rw [Hfin.out]; rfl, hM3.below⟩
        | some x =>
          have hnext : ∀ r', bytesOf r' = (bytesOf r).drop (sz (tagAt s k)) → UnRel s (k + 1) (recF d x) (wl ++ [x]) r' ∧ W x := fun r' hr' => unRel_next HU.out hlt Hsh.out (by rw [← Hqb.out, ← Ht.out]; exact hu) hr'
          have Hnext := Lib.hid hnext
          have hWx : W x := unW_W HU.out.dict (fun y hy => bytesOf_range q y hy) hu
          obtain ⟨hx0, hx1⟩ := hWx
          have he' : e = .returned (.tuple #[.int .u32 x, .bool true]) := by rw [he, wordR, hu]
          subst he'
          clear hnext hu he
          go_wp2_with fail
          refine (HS.out _).mono ?_
          rintro e w4 ⟨rfl, hb4⟩
          have hM4 := hM3.after hb4
          clear hM3 hb4
          have hrb : bytesOf (r.extract n r.size) = (bytesOf r).drop (sz (tagAt s k)) := by
            rw [bytesOf_extract, ← Ht.out, ← Hn.out, List.take_of_length_le]
            rw [List.length_drop, bytesOf_length]
            omega
          have hrs2 : (r.extract n r.size).size ≤ s.size := by rw [ByteArray.size_extract]; omega
          have Hrb := Lib.hid hrb
          have Hrs2 := Lib.hid hrs2
          have hpg : pageB (wl ++ [x]) = pageB wl ++ [x % 256, x / 256 % 256, x / 65536 % 256, x / 16777216] := by rw [pageB_snoc]; unfold b0 b1 b2 b3; rw [show x / 16777216 % 256 = x / 16777216 by omega]
          have Hpg := Lib.hid hpg
          clear hrb hrs2 hpg
          go_wp2_with (at_builtin; go_must (refine append_many w.heap.size rfl (.tmp 56) (.tmp 68) 31 5 .u8 1 rfl Try.underlying31 (by kernel_rfl) (by decide) u7 (pageB wl) [x % 256, x / 256 % 256, x / 65536 % 256, x / 16777216] 4 rfl rfl rfl hM4.own hM4.below (by have := hM4.size; omega) (by omega) ?_); intro v5 w5 ho5 hb5 hg5)
          have hd5 := grown_block hM4.own hM4.dict (by decide) hg5
          have hz5 : w.heap.size < w5.heap.size := Nat.lt_of_lt_of_le hM4.size hg5.size
          rw [← Hpg.out] at ho5
          refine (record_calls _ d x hx0 hx1 _ hd5).mono ?_
          rintro e w6 ⟨rfl, hd6, hg6⟩
          have hM6 : UnMem w v5 (wl ++ [x]) (recF d x) w6 := UnMem.next ho5 hd5 hb5 hz5 hd6 hg6
          have R : UnW s w (.string (r.extract n r.size)) v5 (k + 1) w6 (recF d x) (wl ++ [x]) (r.extract n r.size) := ⟨(Hnext.out _ Hrb.out).1, rfl, Hrs2.out, hM6⟩
          clear ho5 hb5 hg5 hd5 hd6 hg6 hM6 hM4 hz5
          go_wp2_with fail
          go_roundw
          case rel => exact ⟨k + 1, by omega, by go_num, _, _, _, R⟩
          case measure => simp [intOf]; omega
    · have hk64 : k = 64 := by omega
      have hfin : unpackR s = .returned (.tuple #[.string (strOfNums (pageB wl)), .bool ((r.size : Int) == 0)]) := by
        unfold unpackR
        rw [unRel_end (d := d) (wl := wl) (r := r) (by have := HU.out; rwa [hk64] at this)]
        have e : (bytesOf r).isEmpty = ((r.size : Int) == 0) := by
          rw [Bool.eq_iff_iff, List.isEmpty_iff, beq_iff_eq, ← List.length_eq_zero_iff, bytesOf_length]
          omega
        simp only [e]
      have Hfin := Lib.hid hfin
      have Hk := Lib.hid hk64
      clear hfin hk64
      have hcv := own_string (P := Try.prog) (src := 31) (dst := 9) (e := 5) Try.underlying31 Try.underlying5 Try.underlying9 hM.own
      go_wp2_with fail
      go_ret2
      exact ⟨by rw [Hfin.out]; rfl, hM.below⟩
/-- unpack. -/
def unpackE (s : ByteArray) : Ending := if 17 ≤ s.size ∧ bt s 0 = 1 then unpackR s else .returned (.tuple #[.string ByteArray.empty, .bool false])
theorem unpack_calls (s : ByteArray) (hmax : s.size ≤ 70000) (w : World) : Calls Try.prog 18 #[.string s] w fun e w' => e = unpackE s ∧ Below w.heap.size w w' := by
  unfold unpackE
  by_cases h1 : 17 ≤ s.size
  · by_cases h2 : bt s 0 = 1
    · rw [if_pos ⟨h1, h2⟩]
      exact unpack_main s h1 hmax h2 w
    · rw [if_neg (fun h => h2 h.2)]
      exact unpack_head s h1 h2 w
  · rw [if_neg (fun h => h1 h.1)]
    exact unpack_short s (by omega) w
end Go.Proofs.Ytdfmjmabdggcjaa.Pz
