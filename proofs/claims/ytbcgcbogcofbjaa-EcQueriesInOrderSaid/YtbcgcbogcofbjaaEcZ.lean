import Derived.Test.YtbcgcbogcofbjaaEcQ
namespace Go.Proofs.Ytbcgcbogcofbjaa.Ec
open Go.RowKit Go.Proofs.Ytbcgcbogcofbjaa.G
set_option linter.unusedVariables false
set_option linter.unusedSimpArgs false
attribute [local go_sem ↓] Go.wp_at_zero Go.wp_at_succ

theorem Bq.append {w0 w w1 : World} {p : Nat} {C : Ct} {want : List Int} {v1 : Value} {O wo o1 : List Nat} {y : Int} {wv : Value} (hp : w0.heap.size ≤ p) (hf : Fr [] w0 w) (hC : PC w p O C) (hS : SL w 5 wv wo (bytes want)) (hO : ∀ x ∈ O, w0.heap.size ≤ x) (hwo : ∀ x ∈ wo, w0.heap.size ≤ x) (hdj : ∀ x ∈ wo, x ∉ O)
    (hF : Fr wo w w1) (hs : SL w1 5 v1 o1 (bytes want ++ [.int .u8 y])) (ho : Sub w wo o1) : Bq w0 w1 p C v1 (want ++ [y]) := by
  have hz := hf.size
  obtain ⟨cs, hcs⟩ := hC.typed
  refine ⟨hp, hf.new hF (fun x hx => .inr (hwo x hx)), O, o1, hC.keep hF (fun hx => hS.ne_block hcs (by decide) p hx rfl) (fun x hx hx2 => hdj x hx2 hx), by rw [bytes_snoc]; exact hs, hO, fun x hx => ?_, fun x hx hx2 => ?_⟩
  · rcases ho x hx with h | h
    · exact hwo x h
    · omega
  · rcases ho x hx with h | h
    · exact hdj x h hx2
    · obtain ⟨ds, hds⟩ := hC.typedO hx2
      have := lt_of_heap hds
      omega

set_option maxHeartbeats 3200000 in
set_option maxRecDepth 100000 in
theorem queries_calls (x : Int) (x0 : 0 ≤ x) (x1 : x < 18446744073709551616) (a : Option Addr) (len cap : Nat) (hmax : len ≤ 9223372036854775807) (L : Nat → Int) (w : World) (hL : BytesAt w a len L) :
    Calls Try.prog 7 #[.int .u64 x, .slice a len cap] w fun e w' => e = .returned (.bool true) ∧ Below w.heap.size w w' := by
  have ha := Lib.hid (fun w => awake_calls w)
  have hn := Lib.hid (oNew (x % 8) (by omega) w w (Fr.refl _ _))
  obtain ⟨bb, oo, h1, h2⟩ := hL
  have H1 := Lib.hid h1
  have H2 := Lib.hid h2
  have hd0 : 0 ≤ x % 8 := by omega
  have hd8 : x % 8 < 8 := by omega
  clear h1 h2
  go_enter Try.func7, Try.ntmps7
  go_wp2_with fail
  refine hn.out.mono ?_
  rintro e w1 ⟨rfl, hC1⟩
  generalize w.heap.size = p at hC1 ⊢
  clear hn
  have HC1 := Lib.hid hC1
  clear hC1
  generalize x % 8 = d at *
  go_wp2_with fail
  refine (ha.out w1).mono ?_
  rintro e w2 ⟨rfl, hf⟩
  have hS0 : Hid ((Ct.new d).Ok ∧ Idl d (fun _ => 0) 0 (Ct.new d) ∧ Bq w w2 p (Ct.new d) (.slice none (Ct.new d).queue.length 0) (Ct.new d).queue) := Lib.hid ⟨new_ok hd0 (by omega), ⟨rfl, rfl, rfl, rfl, Int.le_refl _⟩, (HC1.out.frame hf).bq⟩
  clear HC1 ha hf
  go_wp2_with fail
  go_loopw [7, 8] (fun wv c wr => ∃ (k : Nat) (b : Option Addr) (cp : Nat) (C : Ct), k ≤ len ∧ k ≤ 30 ∧ c = .int .i64 k ∧ wv = .slice b C.queue.length cp ∧ C.queue.length ≤ 16 ∧ Hid (C.Ok ∧ Idl d (fun _ => 0) 0 C ∧ Bq w wr p C (.slice b C.queue.length cp) C.queue))
    (fun wv c _ => 40 - (intOf c).toNat)
  case atStart => exact ⟨0, none, 0, Ct.new d, by omega, by omega, rfl, rfl, by show 0 ≤ 16; omega, hS0⟩
  case round =>
    clear hS0
    obtain ⟨k, b, cp, C, hk, hk30, rfl, rfl, hql, HR⟩ := hrel
    by_cases hkl : k < len
    · by_cases hk3 : k < 30
      · obtain ⟨g0, ⟨g1, g2⟩, g3⟩ := H2.out k hkl
        obtain rfl := H1.out (by omega)
        obtain ⟨y, hy⟩ : ∃ y, L k = y := ⟨_, rfl⟩
        rw [hy] at g1 g2 g3
        clear hy
        have hra := HR.out.2.2.call (fun O hP => raise_calls p O C HR.out.1 y g1 g2 wr hP)
        have c3 : wr.cell? ⟨bb, oo + k, none⟩ = some (.int .u8 y) := (HR.out.2.2.2.1.cell g0 (by simp)).trans g3
        have G3 := Lib.hid g3
        clear g3
        by_cases hy0 : y = 0
        · have he : raiseE C y = 1 := by unfold raiseE; rw [if_pos hy0]
          have hs : raiseS C y = C := by unfold raiseS; rw [he, if_neg (by decide)]
          rw [he, hs] at hra
          subst hy0
          have Hra := Lib.hid hra
          clear hra he hs
          go_wp2_with fail
          refine Hra.out.mono ?_
          rintro e w5 ⟨rfl, hB5⟩
          have c5 : w5.cell? ⟨bb, oo + k, none⟩ = some (.int .u8 0) := (hB5.2.1.cell g0 (by simp)).trans G3.out
          have HB5 : Hid (C.Ok ∧ Idl d (fun _ => 0) 0 C ∧ Bq w w5 p C (.slice b C.queue.length cp) C.queue) := Lib.hid ⟨HR.out.1, HR.out.2.1, hB5⟩
          clear hB5 Hra c3 HR
          go_wp2_with fail
          go_roundw
          case rel => exact ⟨k + 1, b, cp, C, by omega, by omega, by go_num, rfl, hql, HB5⟩
          case measure => simp [intOf]; omega
        · have hyb : (y == 0) = false := by simp [hy0]
          have hyc : (y != 0) = true := by simp [hy0]
          by_cases hl : 16 ≤ C.queue.length
          · have he : raiseE C y = 8 := by unfold raiseE; rw [if_neg hy0, if_pos hl]
            have hs : raiseS C y = C := by unfold raiseS; rw [he, if_neg (by decide)]
            have hlb : decide ((C.queue.length : Int) < 16) = false := decide_eq_false (by omega)
            rw [he, hs] at hra
            have Hra := Lib.hid hra
            clear hra he hs hy0
            go_wp2_with fail
            refine Hra.out.mono ?_
            rintro e w5 ⟨rfl, hB5⟩
            have c5 : w5.cell? ⟨bb, oo + k, none⟩ = some (.int .u8 y) := (hB5.2.1.cell g0 (by simp)).trans G3.out
            have HB5 : Hid (C.Ok ∧ Idl d (fun _ => 0) 0 C ∧ Bq w w5 p C (.slice b C.queue.length cp) C.queue) := Lib.hid ⟨HR.out.1, HR.out.2.1, hB5⟩
            clear hB5 Hra c3 HR
            go_wp2_with fail
            go_roundw
            case rel => exact ⟨k + 1, b, cp, C, by omega, by omega, by go_num, rfl, hql, HB5⟩
            case measure => simp [intOf]; omega
          · have he : raiseE C y = 0 := by unfold raiseE; rw [if_neg hy0, if_neg hl]
            have hs : raiseS C y = { C with queue := C.queue ++ [y] } := by unfold raiseS; rw [he, if_pos rfl]
            have hlb : decide ((C.queue.length : Int) < 16) = true := decide_eq_true (by omega)
            have hokR := raise_ok HR.out.1 (q := y) ⟨g1, g2⟩
            rw [he, hs] at hra
            rw [hs] at hokR
            have HokR := Lib.hid hokR
            have Hra := Lib.hid hra
            have HI := Lib.hid HR.out.2.1
            clear hra he hs hy0 hokR
            go_wp2_with fail
            refine Hra.out.mono ?_
            rintro e w5 ⟨rfl, hB5⟩
            have c5 : w5.cell? ⟨bb, oo + k, none⟩ = some (.int .u8 y) := (hB5.2.1.cell g0 (by simp)).trans G3.out
            obtain ⟨hp, hf5, O, wo, hC5, hS5, hO, hwo, hdj⟩ := hB5
            have X1 := Lib.hid hp
            have X2 := Lib.hid hf5
            have X3 := Lib.hid hC5
            have X4 := Lib.hid hS5
            have X5 := Lib.hid hO
            have X6 := Lib.hid hwo
            have X7 := Lib.hid hdj
            clear hp hf5 hC5 hS5 hO hwo hdj Hra c3 HR
            go_wp2_with (at_builtin; go_loud (refine wpList_append_sl rfl (.tmp 69) (.tmp 74) 29 rfl 5 (.int .u8 0) 1 Try.underlying29 info5 rfl (xs := bytes C.queue) (ov := wo) (by rfl) (by rfl) (X4.out.keep (S := []) ((Fr.refl _ _).alloc _) (by simp)) (src_one _ (.int .u8 y) rfl (heap_alloc_new _ _)) (by simp [bytes_len]; omega) (by simp [bytes_len]; omega) ?_; intro v1 w6 o1 hs1 hf1 ho1; have hF1 : Fr wo w5 w6 := Fr.trans ((Fr.refl _ _).alloc _) hf1; have hO1 : Hid (Sub w5 wo o1) := Lib.hid (fun z hz => (ho1 z hz).imp id (fun h => by simp at h; omega)); clear ho1; obtain ⟨a1, cap1, hv1, hl1, hm1⟩ := hs1.form; rw [show (bytes C.queue ++ [Value.int IntKind.u8 y]).length = C.queue.length + 1 by simp [bytes_len]] at hv1 hl1; subst hv1; have HB6 : Hid (Bq w w6 p { C with queue := C.queue ++ [y] } (.slice a1 (C.queue ++ [y]).length cap1) (C.queue ++ [y])) := Lib.hid (by rw [List.length_append]; exact Bq.append X1.out X2.out X3.out X4.out X5.out X6.out X7.out hF1 hs1 hO1.out); have c6 : w6.cell? ⟨bb, oo + k, none⟩ = some (.int .u8 y) := (HB6.out.2.1.cell g0 (by simp)).trans G3.out; clear hs1 hF1 hf1 hO1))
            go_roundw
            case rel => exact ⟨k + 1, a1, cap1, { C with queue := C.queue ++ [y] }, by omega, by omega, by go_num, by show Value.slice a1 (C.queue.length + 1) cap1 = .slice a1 (C.queue ++ [y]).length cap1; simp, by show (C.queue ++ [y]).length ≤ 16; simp; omega, Lib.hid ⟨HokR.out, ⟨HI.out.b, HI.out.f, HI.out.d, HI.out.r, HI.out.n⟩, HB6.out⟩⟩
            case measure => simp [intOf]; omega
      · have hk30' : k = 30 := by omega
        obtain ⟨want, hwt⟩ : ∃ l, C.queue = l := ⟨_, rfl⟩
        have H20 : Hid (C.Ok ∧ Idl d (fun _ => 0) 0 C ∧ C.queue = want.drop 0 ∧ Bq w wr p C (.slice b want.length cp) want) := Lib.hid ⟨HR.out.1, HR.out.2.1, by rw [hwt]; rfl, by have := HR.out.2.2; rw [hwt] at this; exact this⟩
        rw [hwt] at hql
        clear HR H1 H2
        go_wp2_with fail
        try rw [hwt]
        clear hwt
        go_loopw [10, 11] (fun nv c wq => ∃ (k : Nat) (n : Int) (C : Ct), k ≤ want.length + 1 ∧ c = .int .i64 k ∧ nv = .int .u64 n ∧ 0 ≤ n ∧ n ≤ 37 * k ∧ Hid (C.Ok ∧ Idl d (fun _ => 0) n C ∧ C.queue = want.drop k ∧ Bq w wq p C (.slice b want.length cp) want))
          (fun nv c _ => 40 - (intOf c).toNat)
        case atStart => exact ⟨0, 0, C, by omega, rfl, rfl, by omega, by omega, H20⟩
        case round =>
          clear H20
          obtain ⟨k, n, C, hk, rfl, rfl, hn0, hn1, HR⟩ := hrel
          by_cases hlt : k ≤ want.length
          · have hle : decide ((k : Int) ≤ (want.length : Int)) = true := decide_eq_true (by omega)
            have hst := HR.out.2.2.2.call (fun O hP => status_calls p O C HR.out.1 n hn0 (by omega) wr hP)
            have hA : C.adv n = { C with now := n } := by rw [adv_idle HR.out.2.1.b, nowS_t HR.out.2.1.n]
            have hIdl : Idl d (fun _ => 0) n { C with now := n } := ⟨HR.out.2.1.b, HR.out.2.1.f, HR.out.2.1.d, HR.out.2.1.r, Int.le_refl _⟩
            have hok1 := adv_ok HR.out.1 hn0 (show n < 18446744073709551616 by omega)
            have hqq : ({ C with now := n } : Ct).queue = want.drop k := HR.out.2.2.1
            have hsv : statusV { C with now := n } = bitS (!(want.drop k).isEmpty) 32 := by
              have e1 : ({ C with now := n } : Ct).full = false := hIdl.f
              have e2 : ({ C with now := n } : Ct).busy = false := hIdl.b
              unfold statusV
              rw [e1, e2, hqq]
              unfold bitS
              simp
            rw [hA] at hst hok1
            rw [hsv] at hst
            have HI1 := Lib.hid hIdl
            have Hok1 := Lib.hid hok1
            have Hqq := Lib.hid hqq
            clear hA hIdl hok1 hqq hsv HR
            generalize { C with now := n } = C1 at *
            by_cases hkl : k < want.length
            · have hdrop := List.drop_eq_getElem_cons hkl
              obtain ⟨y, hy⟩ : ∃ y, want[k] = y := ⟨_, rfl⟩
              rw [hy] at hdrop
              have hget : (bytes want)[k]? = some (.int .u8 y) := by unfold bytes; rw [List.getElem?_map, List.getElem?_eq_getElem hkl, hy]; rfl
              rw [hdrop] at hst Hqq
              have hst2 : Calls Try.prog 29 #[.pointer (some ⟨p, 0, none⟩), .int .u64 n] wr fun e w' => e = .returned (.int .u8 32) ∧ Bq w w' p C1 (.slice b want.length cp) want := hst
              have Hst := Lib.hid hst2
              have Hget := Lib.hid hget
              have hlt2 : decide ((k : Int) < (want.length : Int)) = true := decide_eq_true (by omega)
              have heq2 : ((k : Int) == (want.length : Int)) = false := by simp; omega
              clear hst hst2 hdrop hy hget
              go_wp2_with fail
              refine Hst.out.mono ?_
              rintro e w5 ⟨rfl, hB5⟩
              have hq := hB5.query n 1000 hn0 (by omega) (by omega) (by omega)
              rw [after_sum (show n + 1000 < 18446744073709551615 by omega)] at hq
              have Hq := Lib.hid hq
              clear hq hB5 Hst
              go_wp2_with fail
              refine Hq.out.mono ?_
              rintro e w6 ⟨q, rfl, hI⟩
              have hfin := qFinish hI Hok1.out hd0 hd8 hn0 (by omega) HI1.out
              rw [Hqq.out] at hfin
              have hfin2 : Calls Try.prog 15 #[.pointer (some ⟨q, 0, none⟩), .pointer (some ⟨p, 0, none⟩), .int .u64 n, .slice none 0 0] w6 fun e w' => ∃ (C' : Ct) (t' : Int), e = .returned (.tuple #[.int .u8 y, .int .i64 0, .int .u64 t', .bool true]) ∧ n ≤ t' ∧ t' ≤ n + 37 ∧ Idl d (fun _ => 0) t' C' ∧ C'.queue = want.drop (k + 1) ∧ C'.Ok ∧ Bq w w' p C' (.slice b want.length cp) want := hfin
              have Hfin := Lib.hid hfin2
              clear hfin hfin2 hI Hq
              go_wp2_with fail
              refine Hfin.out.mono ?_
              rintro e w7 ⟨C2, t2, rfl, ht0, ht1, hI2, hq2, hok2, hB2⟩
              have H2n := Lib.hid (show C2.Ok ∧ Idl d (fun _ => 0) t2 C2 ∧ C2.queue = want.drop (k + 1) ∧ Bq w w7 p C2 (.slice b want.length cp) want from ⟨hok2, hI2, hq2, hB2⟩)
              obtain ⟨_, _, O, wo, _, hS, _⟩ := hB2
              obtain ⟨g, off, cap', hv, _, hle3, hcell⟩ := hS.at (i := k) (by rw [bytes_len]; exact hkl)
              rw [Hget.out] at hcell
              injection hv with hv1 hv2 hv3
              subst hv1
              have hcap : want.length ≤ cp := by rw [bytes_len] at hle3; omega
              clear hI2 hq2 hok2 hS hv2 hv3 hle3 Hfin
              go_wp2_with fail
              go_roundw
              case rel => first | exact ⟨k + 1, t2, C2, by omega, by go_num, rfl, by omega, by omega, H2n⟩ | ((repeat apply Exists.intro); exact ⟨⟨k + 1, t2, C2, by omega, by go_num, rfl, by omega, by omega, H2n⟩, rfl⟩)
              case measure => simp [intOf]; omega
            · have hkw : k = want.length := by omega
              have hdrop : want.drop k = [] := by rw [hkw]; simp
              rw [hdrop] at hst Hqq
              have hst2 : Calls Try.prog 29 #[.pointer (some ⟨p, 0, none⟩), .int .u64 n] wr fun e w' => e = .returned (.int .u8 0) ∧ Bq w w' p C1 (.slice b want.length cp) want := hst
              have Hst := Lib.hid hst2
              have hlt2 : decide ((k : Int) < (want.length : Int)) = false := decide_eq_false (by omega)
              have heq2 : ((k : Int) == (want.length : Int)) = true := by simp; omega
              have hdr1 : want.drop (k + 1) = [] := by rw [hkw]; simp
              have Hdr1 := Lib.hid hdr1
              clear hst hst2 hdrop hdr1 hkw
              go_wp2_with fail
              refine Hst.out.mono ?_
              rintro e w5 ⟨rfl, hB5⟩
              have hq := hB5.query n 1000 hn0 (by omega) (by omega) (by omega)
              rw [after_sum (show n + 1000 < 18446744073709551615 by omega)] at hq
              have Hq := Lib.hid hq
              clear hq hB5 Hst
              go_wp2_with fail
              refine Hq.out.mono ?_
              rintro e w6 ⟨q, rfl, hI⟩
              have hfin := qFinish hI Hok1.out hd0 hd8 hn0 (by omega) HI1.out
              rw [Hqq.out] at hfin
              have hfin2 : Calls Try.prog 15 #[.pointer (some ⟨q, 0, none⟩), .pointer (some ⟨p, 0, none⟩), .int .u64 n, .slice none 0 0] w6 fun e w' => ∃ (C' : Ct) (t' : Int), e = .returned (.tuple #[.int .u8 0, .int .i64 0, .int .u64 t', .bool true]) ∧ n ≤ t' ∧ t' ≤ n + 37 ∧ Idl d (fun _ => 0) t' C' ∧ C'.queue = [] ∧ C'.Ok ∧ Bq w w' p C' (.slice b want.length cp) want := hfin
              have Hfin := Lib.hid hfin2
              clear hfin hfin2 hI Hq
              go_wp2_with fail
              refine Hfin.out.mono ?_
              rintro e w7 ⟨C2, t2, rfl, ht0, ht1, hI2, hq2, hok2, hB2⟩
              have H2n := Lib.hid (show C2.Ok ∧ Idl d (fun _ => 0) t2 C2 ∧ C2.queue = want.drop (k + 1) ∧ Bq w w7 p C2 (.slice b want.length cp) want from ⟨hok2, hI2, hq2.trans Hdr1.out.symm, hB2⟩)
              clear hI2 hq2 hok2 hB2 Hfin
              go_wp2_with fail
              go_roundw
              case rel => first | exact ⟨k + 1, t2, C2, by omega, by go_num, rfl, by omega, by omega, H2n⟩ | ((repeat apply Exists.intro); exact ⟨⟨k + 1, t2, C2, by omega, by go_num, rfl, by omega, by omega, H2n⟩, rfl⟩)
              case measure => simp [intOf]; omega
          · have hle : decide ((k : Int) ≤ (want.length : Int)) = false := decide_eq_false (by omega)
            have hb : Hid (Below w.heap.size w wr) := Lib.hid (HR.out.2.2.2.2.1.below (Below.refl _ _) (Nat.le_refl _) (by simp))
            clear HR
            go_wp2_with fail
            go_ret
            exact ⟨rfl, hb.out⟩
    · have hkn : k = len := by omega
      subst hkn
      obtain ⟨want, hwt⟩ : ∃ l, C.queue = l := ⟨_, rfl⟩
      have H20 : Hid (C.Ok ∧ Idl d (fun _ => 0) 0 C ∧ C.queue = want.drop 0 ∧ Bq w wr p C (.slice b want.length cp) want) := Lib.hid ⟨HR.out.1, HR.out.2.1, by rw [hwt]; rfl, by have := HR.out.2.2; rw [hwt] at this; exact this⟩
      rw [hwt] at hql
      clear HR H1 H2
      go_wp2_with fail
      try rw [hwt]
      clear hwt
      go_loopw [10, 11] (fun nv c wq => ∃ (k : Nat) (n : Int) (C : Ct), k ≤ want.length + 1 ∧ c = .int .i64 k ∧ nv = .int .u64 n ∧ 0 ≤ n ∧ n ≤ 37 * k ∧ Hid (C.Ok ∧ Idl d (fun _ => 0) n C ∧ C.queue = want.drop k ∧ Bq w wq p C (.slice b want.length cp) want))
        (fun nv c _ => 40 - (intOf c).toNat)
      case atStart => exact ⟨0, 0, C, by omega, rfl, rfl, by omega, by omega, H20⟩
      case round =>
        clear H20
        obtain ⟨k, n, C, hk, rfl, rfl, hn0, hn1, HR⟩ := hrel
        by_cases hlt : k ≤ want.length
        · have hle : decide ((k : Int) ≤ (want.length : Int)) = true := decide_eq_true (by omega)
          have hst := HR.out.2.2.2.call (fun O hP => status_calls p O C HR.out.1 n hn0 (by omega) wr hP)
          have hA : C.adv n = { C with now := n } := by rw [adv_idle HR.out.2.1.b, nowS_t HR.out.2.1.n]
          have hIdl : Idl d (fun _ => 0) n { C with now := n } := ⟨HR.out.2.1.b, HR.out.2.1.f, HR.out.2.1.d, HR.out.2.1.r, Int.le_refl _⟩
          have hok1 := adv_ok HR.out.1 hn0 (show n < 18446744073709551616 by omega)
          have hqq : ({ C with now := n } : Ct).queue = want.drop k := HR.out.2.2.1
          have hsv : statusV { C with now := n } = bitS (!(want.drop k).isEmpty) 32 := by
            have e1 : ({ C with now := n } : Ct).full = false := hIdl.f
            have e2 : ({ C with now := n } : Ct).busy = false := hIdl.b
            unfold statusV
            rw [e1, e2, hqq]
            unfold bitS
            simp
          rw [hA] at hst hok1
          rw [hsv] at hst
          have HI1 := Lib.hid hIdl
          have Hok1 := Lib.hid hok1
          have Hqq := Lib.hid hqq
          clear hA hIdl hok1 hqq hsv HR
          generalize { C with now := n } = C1 at *
          by_cases hkl : k < want.length
          · have hdrop := List.drop_eq_getElem_cons hkl
            obtain ⟨y, hy⟩ : ∃ y, want[k] = y := ⟨_, rfl⟩
            rw [hy] at hdrop
            have hget : (bytes want)[k]? = some (.int .u8 y) := by unfold bytes; rw [List.getElem?_map, List.getElem?_eq_getElem hkl, hy]; rfl
            rw [hdrop] at hst Hqq
            have hst2 : Calls Try.prog 29 #[.pointer (some ⟨p, 0, none⟩), .int .u64 n] wr fun e w' => e = .returned (.int .u8 32) ∧ Bq w w' p C1 (.slice b want.length cp) want := hst
            have Hst := Lib.hid hst2
            have Hget := Lib.hid hget
            have hlt2 : decide ((k : Int) < (want.length : Int)) = true := decide_eq_true (by omega)
            have heq2 : ((k : Int) == (want.length : Int)) = false := by simp; omega
            clear hst hst2 hdrop hy hget
            go_wp2_with fail
            refine Hst.out.mono ?_
            rintro e w5 ⟨rfl, hB5⟩
            have hq := hB5.query n 1000 hn0 (by omega) (by omega) (by omega)
            rw [after_sum (show n + 1000 < 18446744073709551615 by omega)] at hq
            have Hq := Lib.hid hq
            clear hq hB5 Hst
            go_wp2_with fail
            refine Hq.out.mono ?_
            rintro e w6 ⟨q, rfl, hI⟩
            have hfin := qFinish hI Hok1.out hd0 hd8 hn0 (by omega) HI1.out
            rw [Hqq.out] at hfin
            have hfin2 : Calls Try.prog 15 #[.pointer (some ⟨q, 0, none⟩), .pointer (some ⟨p, 0, none⟩), .int .u64 n, .slice none 0 0] w6 fun e w' => ∃ (C' : Ct) (t' : Int), e = .returned (.tuple #[.int .u8 y, .int .i64 0, .int .u64 t', .bool true]) ∧ n ≤ t' ∧ t' ≤ n + 37 ∧ Idl d (fun _ => 0) t' C' ∧ C'.queue = want.drop (k + 1) ∧ C'.Ok ∧ Bq w w' p C' (.slice b want.length cp) want := hfin
            have Hfin := Lib.hid hfin2
            clear hfin hfin2 hI Hq
            go_wp2_with fail
            refine Hfin.out.mono ?_
            rintro e w7 ⟨C2, t2, rfl, ht0, ht1, hI2, hq2, hok2, hB2⟩
            have H2n := Lib.hid (show C2.Ok ∧ Idl d (fun _ => 0) t2 C2 ∧ C2.queue = want.drop (k + 1) ∧ Bq w w7 p C2 (.slice b want.length cp) want from ⟨hok2, hI2, hq2, hB2⟩)
            obtain ⟨_, _, O, wo, _, hS, _⟩ := hB2
            obtain ⟨g, off, cap', hv, _, hle3, hcell⟩ := hS.at (i := k) (by rw [bytes_len]; exact hkl)
            rw [Hget.out] at hcell
            injection hv with hv1 hv2 hv3
            subst hv1
            have hcap : want.length ≤ cp := by rw [bytes_len] at hle3; omega
            clear hI2 hq2 hok2 hS hv2 hv3 hle3 Hfin
            go_wp2_with fail
            go_roundw
            case rel => first | exact ⟨k + 1, t2, C2, by omega, by go_num, rfl, by omega, by omega, H2n⟩ | ((repeat apply Exists.intro); exact ⟨⟨k + 1, t2, C2, by omega, by go_num, rfl, by omega, by omega, H2n⟩, rfl⟩)
            case measure => simp [intOf]; omega
          · have hkw : k = want.length := by omega
            have hdrop : want.drop k = [] := by rw [hkw]; simp
            rw [hdrop] at hst Hqq
            have hst2 : Calls Try.prog 29 #[.pointer (some ⟨p, 0, none⟩), .int .u64 n] wr fun e w' => e = .returned (.int .u8 0) ∧ Bq w w' p C1 (.slice b want.length cp) want := hst
            have Hst := Lib.hid hst2
            have hlt2 : decide ((k : Int) < (want.length : Int)) = false := decide_eq_false (by omega)
            have heq2 : ((k : Int) == (want.length : Int)) = true := by simp; omega
            have hdr1 : want.drop (k + 1) = [] := by rw [hkw]; simp
            have Hdr1 := Lib.hid hdr1
            clear hst hst2 hdrop hdr1 hkw
            go_wp2_with fail
            refine Hst.out.mono ?_
            rintro e w5 ⟨rfl, hB5⟩
            have hq := hB5.query n 1000 hn0 (by omega) (by omega) (by omega)
            rw [after_sum (show n + 1000 < 18446744073709551615 by omega)] at hq
            have Hq := Lib.hid hq
            clear hq hB5 Hst
            go_wp2_with fail
            refine Hq.out.mono ?_
            rintro e w6 ⟨q, rfl, hI⟩
            have hfin := qFinish hI Hok1.out hd0 hd8 hn0 (by omega) HI1.out
            rw [Hqq.out] at hfin
            have hfin2 : Calls Try.prog 15 #[.pointer (some ⟨q, 0, none⟩), .pointer (some ⟨p, 0, none⟩), .int .u64 n, .slice none 0 0] w6 fun e w' => ∃ (C' : Ct) (t' : Int), e = .returned (.tuple #[.int .u8 0, .int .i64 0, .int .u64 t', .bool true]) ∧ n ≤ t' ∧ t' ≤ n + 37 ∧ Idl d (fun _ => 0) t' C' ∧ C'.queue = [] ∧ C'.Ok ∧ Bq w w' p C' (.slice b want.length cp) want := hfin
            have Hfin := Lib.hid hfin2
            clear hfin hfin2 hI Hq
            go_wp2_with fail
            refine Hfin.out.mono ?_
            rintro e w7 ⟨C2, t2, rfl, ht0, ht1, hI2, hq2, hok2, hB2⟩
            have H2n := Lib.hid (show C2.Ok ∧ Idl d (fun _ => 0) t2 C2 ∧ C2.queue = want.drop (k + 1) ∧ Bq w w7 p C2 (.slice b want.length cp) want from ⟨hok2, hI2, hq2.trans Hdr1.out.symm, hB2⟩)
            clear hI2 hq2 hok2 hB2 Hfin
            go_wp2_with fail
            go_roundw
            case rel => first | exact ⟨k + 1, t2, C2, by omega, by go_num, rfl, by omega, by omega, H2n⟩ | ((repeat apply Exists.intro); exact ⟨⟨k + 1, t2, C2, by omega, by go_num, rfl, by omega, by omega, H2n⟩, rfl⟩)
            case measure => simp [intOf]; omega
        · have hle : decide ((k : Int) ≤ (want.length : Int)) = false := decide_eq_false (by omega)
          have hb : Hid (Below w.heap.size w wr) := Lib.hid (HR.out.2.2.2.2.1.below (Below.refl _ _) (Nat.le_refl _) (by simp))
          clear HR
          go_wp2_with fail
          go_ret
          exact ⟨rfl, hb.out⟩
end Go.Proofs.Ytbcgcbogcofbjaa.Ec
