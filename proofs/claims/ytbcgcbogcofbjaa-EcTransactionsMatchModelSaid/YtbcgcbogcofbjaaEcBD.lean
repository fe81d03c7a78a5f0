import Derived.Test.YtbcgcbogcofbjaaEcBE
import Derived.Test.YtbcgcbogcofbjaaEcU
import Derived.BigQuiet
import Derived.BigRegion
import Derived.Deep.RegionHeld3
import Derived.Deep.DeepCutAuto
import Derived.Deep.CutBlock
namespace Go.Proofs.Ytbcgcbogcofbjaa.Ec
open Go.RowKit Go.Proofs.Ytbcgcbogcofbjaa.G
set_option linter.unusedVariables false
set_option linter.unusedSimpArgs false
attribute [local go_sem ↓] Go.wp_at_zero Go.wp_at_succ

theorem info30 : (Try.prog.info? 30).map (fun i => (i.zero, i.size, i.bytes)) = some (some (.pointer none), 1, 8) := by kernel_rfl
theorem info56 : (Try.prog.info? 56).map (fun i => (i.zero, i.size, i.bytes)) = some (some (.pointer none), 1, 8) := by kernel_rfl
theorem src_ptr (w : World) (v : Value) (T : TypeId) (h : v.oneCell' = true) {B : Nat} (hB : w.heap[B]? = some (.cells #[v] T (0, 0))) : SrcAt w (.slice (some ⟨B, 0, none⟩) 1 1) [v] :=
  SrcAt.block hB 1 1 [v] rfl (fun j u hu => by
    match j with
    | 0 => simpa using hu
    | j + 1 => simp at hu) (fun u hu => by simp at hu; subst hu; exact h)
/-- The state of the loop. -/
structure Lp (w W : World) (p r : Nat) (C : Ct) (va vb : Value) (n : Nat) : Prop where
  out : ∃ (qs xs : Nat → Nat) (T : Nat → Tr) (ca cb : Nat → Int), Big w W p r n C C va vb qs xs T T ca cb ∧ Fine n C T ca cb
theorem Lp.new {w W : World} {p r : Nat} {C : Ct} (hok : C.Ok) (h : Oc w W p C) (hr : w.heap.size ≤ r) (hR : RC W r [] C) : Lp w W p r C (.slice none 0 0) (.slice none 0 0) 0 := by
  obtain ⟨hp, hf, O, hC, hO⟩ := h
  exact ⟨⟨fun _ => 0, fun _ => 0, fun _ => ⟨0, 0, 0, 0, 0, 0, 0⟩, fun _ => 0, fun _ => 0, ⟨O, [], [], [], hp, hr, hf, hC, hR, SL.nil _ _, SL.nil _ _, hO, by simp, by simp, by simp, by simp, fun i hi => by omega, fun i hi => by omega, fun i j hi => by omega, fun i j hi => by omega⟩, ⟨hok, fun i hi => by omega, fun i hi => by omega⟩⟩⟩
theorem Oc.frame' {w W W' : World} {p : Nat} {C : Ct} (h : Oc w W p C) (hf : Fr [] W W') : Oc w W' p C := by
  obtain ⟨hp, hf0, O, hC, hO⟩ := h
  exact ⟨hp, hf0.trans hf, O, hC.keep hf (by simp) (by simp), hO⟩
theorem Lp.frame {w W W' : World} {p r n : Nat} {C : Ct} {va vb : Value} (h : Lp w W p r C va vb n) (hf : Fr [] W W') : Lp w W' p r C va vb n := by
  obtain ⟨qs, xs, T, ca, cb, h1, h2⟩ := h.out
  exact ⟨⟨qs, xs, T, ca, cb, h1.frame hf, h2⟩⟩
theorem Lp.fr {w W : World} {p r n : Nat} {C : Ct} {va vb : Value} (h : Lp w W p r C va vb n) : Fr [] w W := by
  obtain ⟨qs, xs, T, ca, cb, h1, h2⟩ := h.out
  exact h1.fr
theorem Lp.below {w W : World} {p r n : Nat} {C : Ct} {va vb : Value} (h : Lp w W p r C va vb n) : Below w.heap.size w W := by
  obtain ⟨qs, xs, T, ca, cb, h1, h2⟩ := h.out
  exact h1.below
theorem Lp.sl {w W : World} {p r n : Nat} {C : Ct} {va vb : Value} (h : Lp w W p r C va vb n) : ∃ aa ca ab cb, va = .slice aa n ca ∧ vb = .slice ab n cb := by
  obtain ⟨qs, xs, T, ca, cb, h1, h2⟩ := h.out
  exact h1.sl
theorem Lp.push {w W U : World} {p r n : Nat} {O Q A B cA cB : List Nat} {C : Ct} {va vb ua ub : Value} {qs xs : Nat → Nat} {T : Nat → Tr} {ca cb : Nat → Int} {q x z : Nat} {zc : Array Value} {s : Tr} {a0 b0 : Int} (hb : BigO w W p r n O Q A B C C va vb qs xs T T ca cb) (hF : Fine n C T ca cb)
    (hg : Mk W U A B cA cB ua ub (ptrs n qs ++ [.pointer (some ⟨q, 0, none⟩)]) (ptrs n xs ++ [.pointer (some ⟨x, 0, none⟩)]) z zc) (hq : W.heap.size ≤ q) (hx : W.heap.size ≤ x) (ht : TB U q 69 s) (hX : XB U x (rtv s a0 b0)) (he : s.e = 0) (hok : s.Ok) (hI : Iv s a0 b0) : Lp w U p r C ua ub (n + 1) :=
  ⟨⟨_, _, _, _, _, ⟨O, Q, cA, cB, hb.push hg.g hq hx ht (.inl ⟨he, hX⟩)⟩, hF.push hok hI⟩⟩

set_option maxHeartbeats 3200000 in
set_option maxRecDepth 100000 in
theorem trans_calls (x : Int) (x0 : 0 ≤ x) (x1 : x < 18446744073709551616) (ka : Option Addr) (klen kcap : Nat) (kmax : klen ≤ 9223372036854775807) (KL : Nat → Int) (v : Int) (v0 : 0 ≤ v) (v1 : v < 256) (y : Int) (y0 : 0 ≤ y) (y1 : y < 18446744073709551616) (a : Option Addr) (len cap : Nat) (hmax : len ≤ 9223372036854775807) (L : Nat → Opr) (w : World) (hK : BytesAt w ka klen KL) (hL : OpsAt w a len L) :
    Calls Try.prog 8 #[.int .u64 x, .slice ka klen kcap, .int .u8 v, .int .u64 y, .slice a len cap] w fun e w' => e = .returned (.bool true) ∧ Below w.heap.size w w' := by
  have ha := Lib.hid (fun w => awake_calls w)
  have hn := Lib.hid (oNew (x % 4) (by omega) w w (Fr.refl _ _))
  obtain ⟨bb, oo, h1, h2⟩ := hL
  have H1 := Lib.hid h1
  have H2 := Lib.hid h2
  obtain ⟨kb, ko, h3, h4⟩ := hK
  have H3 := Lib.hid h3
  have H4 := Lib.hid h4
  have hd0 : 0 ≤ x % 4 := by omega
  have hd8 : x % 4 < 4 := by omega
  have ht0 : 0 ≤ y % 30 := by omega
  have ht1 : y % 30 < 30 := by omega
  clear h1 h2 h3 h4
  go_enter Try.func8, Try.ntmps8
  go_wp2_with fail
  refine hn.out.mono ?_
  rintro e w1 ⟨rfl, hC1⟩
  generalize w.heap.size = p at hC1 ⊢
  clear hn
  have HC1 := Lib.hid hC1
  clear hC1
  generalize x % 4 = d at *
  generalize y % 30 = tmo at *
  go_wp2_with fail
  refine (ha.out w1).mono ?_
  rintro e w2 ⟨rfl, hf⟩
  have HC2 := Lib.hid (HC1.out.frame hf)
  clear HC1 ha hf
  have hnc := Lib.hid (newC_calls d w2)
  go_wp2_with fail
  refine hnc.out.mono ?_
  rintro e w3 ⟨rfl, hR, hf3, hs3⟩
  have hS0 : Hid (Lp w w3 p w2.heap.size (Ct.new d) (.slice none 0 0) (.slice none 0 0) 0) := Lib.hid (Lp.new (new_ok hd0 (by omega)) (HC2.out.frame' hf3) HC2.out.2.1.size hR)
  clear hnc hR hf3 hs3 HC2
  generalize w2.heap.size = r at *
  go_wp2_with fail
  go_loopw [14, 15, 16, 17] (fun sa sb nv c wr => ∃ (k n : Nat) (m : Int) (C : Ct) (aa : Option Addr) (la : Nat) (ab : Option Addr) (lb : Nat), k ≤ len ∧ k ≤ 80 ∧ n ≤ 6 ∧ sa = .slice aa n la ∧ sb = .slice ab n lb ∧ c = .int .i64 k ∧ nv = .int .u64 m ∧ 0 ≤ m ∧ m ≤ 2 * k ∧ Hid (Lp w wr p r C (.slice aa n la) (.slice ab n lb) n))
    (fun _ _ _ c _ => 100 - (intOf c).toNat)
  case atStart => exact ⟨0, 0, 0, Ct.new d, none, 0, none, 0, by omega, by omega, by omega, rfl, rfl, rfl, rfl, by omega, by omega, hS0⟩
  case round =>
    clear hS0
    obtain ⟨k, n, m, C, aa, la, ab, lb, hk, hk80, hn6, rfl, rfl, rfl, rfl, hm0, hm1, HR⟩ := hrel
    by_cases hkl : k < len
    · by_cases hk9 : k < 80
      · obtain ⟨g0, ok, q0, q1, q2, q3⟩ := H2.out k hkl
        obtain rfl := H1.out (by omega)
        have hfr := HR.out.fr
        have k0 : wr.cell? ⟨bb, oo + k * 4, none⟩ = some (.int .i64 (L k).kind) := (hfr.cell g0 (by simp)).trans q0
        have k1 : wr.cell? ⟨bb, oo + k * 4 + 1, none⟩ = some (.int .u8 (L k).v) := (hfr.cell g0 (by simp)).trans q1
        have k2 : wr.cell? ⟨bb, oo + k * 4 + 2, none⟩ = some (.int .u8 (L k).r) := (hfr.cell g0 (by simp)).trans q2
        have k3 : wr.cell? ⟨bb, oo + k * 4 + 3, none⟩ = some (.int .u64 (L k).pass) := (hfr.cell g0 (by simp)).trans q3
        obtain ⟨i0, i1, ⟨v0', v1'⟩, ⟨r0, r1⟩, p0, p1⟩ := ok
        generalize (L k).kind = ki at *
        generalize (L k).v = vi at *
        generalize (L k).r = ri at *
        generalize (L k).pass = pa at *
        clear q0 q1 q2 q3 hfr
        go_upto_region 13 with (fail)
        have hB : Lp w (wr.alloc (.cells #[.int .i64 ki, .int .u8 vi, .int .u8 ri, .int .u64 pa] 45)) p r C (.slice aa n la) (.slice ab n lb) n := HR.out.frame ((Fr.refl _ _).alloc _)
        have hZ : (wr.alloc (.cells #[.int .i64 ki, .int .u8 vi, .int .u8 ri, .int .u64 pa] 45)).heap[wr.heap.size]? = some (.cells #[.int .i64 ki, .int .u8 vi, .int .u8 ri, .int .u64 pa] 45 (0, 0)) := heap_alloc_new _ _
        have HB := Lib.hid hB
        have HZ := Lib.hid hZ
        clear HR H1 k0 k1 k2 k3 hB hZ
        generalize wr.alloc (.cells #[.int .i64 ki, .int .u8 vi, .int .u8 ri, .int .u64 pa] 45) = W at *
        generalize wr.heap.size = z at *
        have z3 : W.cell? ⟨z, 3, none⟩ = some (.int .u64 pa) := cellB HZ.out 3
        go_upto_region 14 with (fail)
        clear z3
        go_cut [83] (fun s83 wx => ∃ b : Bool, s83 = .bool b ∧ wx = W ∧ Hid (b = true → k < klen ∧ n < 6))
        case first =>
          as_aux_lemma =>
            by_cases hkk : k < klen
            · obtain ⟨t0, ⟨t1, t2⟩, t3⟩ := H4.out k hkk
              obtain rfl := H3.out (by omega)
              have c0 : W.cell? ⟨kb, ko + k, none⟩ = some (.int .u8 (KL k)) := (HB.out.fr.cell t0 (by simp)).trans t3
              generalize KL k = kk at *
              clear t3 t0 H3
              by_cases hz0 : kk % 3 = 0
              · have hzb : (kk % 3 == 0) = true := by simp [hz0]
                clear hz0
                by_cases hn : n < 6
                · have hnb : decide ((n : Int) < 6) = true := decide_eq_true (by omega)
                  go_wp2_with fail
                  go_meet
                  exact ⟨true, rfl, rfl, Lib.hid (fun _ => ⟨hkk, hn⟩)⟩
                · have hnb : decide ((n : Int) < 6) = false := decide_eq_false (by omega)
                  go_wp2_with fail
                  go_meet
                  exact ⟨false, rfl, rfl, Lib.hid (fun h => by cases h)⟩
              · have hzb : (kk % 3 == 0) = false := by simp [hz0]
                go_wp2_with fail
                go_meet
                exact ⟨false, rfl, rfl, Lib.hid (fun h => by cases h)⟩
            · go_wp2_with fail
              go_meet
              exact ⟨false, rfl, rfl, Lib.hid (fun h => by cases h)⟩
        case rest =>
          obtain ⟨bv, rfl, rfl, HBV⟩ := hcut
          go_upto_if 83 with (fail)
          go_cut [14, 15] (fun s14 s15 wx => ∃ (n : Nat) (aa : Option Addr) (la : Nat) (ab : Option Addr) (lb : Nat), n ≤ 6 ∧ s14 = .slice aa n la ∧ s15 = .slice ab n lb ∧ Hid (Lp w wx p r C (.slice aa n la) (.slice ab n lb) n) ∧ Hid (wx.heap[z]? = some (.cells #[.int .i64 ki, .int .u8 vi, .int .u8 ri, .int .u64 pa] 45 (0, 0))))
          case first =>
            cases bv
            · go_wp2_with fail
              go_meet
              exact ⟨n, aa, la, ab, lb, hn6, rfl, rfl, HB, HZ⟩
            · obtain ⟨hkk, hn⟩ := HBV.out rfl
              obtain ⟨t0, ⟨t1, t2⟩, t3⟩ := H4.out k hkk
              obtain rfl := H3.out (by omega)
              have c0 : wc.cell? ⟨kb, ko + k, none⟩ = some (.int .u8 (KL k)) := (HB.out.fr.cell t0 (by simp)).trans t3
              generalize KL k = kk at *
              clear t3 t0 H3 HBV H4 H2
              have z1 : wc.cell? ⟨z, 1, none⟩ = some (.int .u8 vi) := cellB HZ.out 1
              have z2 : wc.cell? ⟨z, 2, none⟩ = some (.int .u8 ri) := cellB HZ.out 2
              go_wp2_with fail
              refine (valueF_calls ri r0 r1 _).mono ?_
              rintro e w4 ⟨rfl, rfl⟩
              have HVB := Lib.hid (valF_byte (v := ri) ⟨r0, r1⟩)
              have HVV := Lib.hid (show Byte vi from ⟨v0', v1'⟩)
              have hnow0 : 0 ≤ m + pa % 3 := by omega
              have hnow1 : m + pa % 3 < 18446744073709551616 := by omega
              have htm1 : tmo < 18446744073709551616 := by omega
              generalize valF ri = rv at *
              have hg0 : ∃ (O Q A B : List Nat) (qs xs : Nat → Nat) (T : Nat → Tr) (ca cb : Nat → Int), BigO w w4 p r n O Q A B C C (.slice aa n la) (.slice ab n lb) qs xs T T ca cb ∧ Fine n C T ca cb := by
                obtain ⟨qs, xs, T, ca, cb, ⟨O, Q, A, B, hbo⟩, hF⟩ := HB.out.out
                exact ⟨O, Q, A, B, qs, xs, T, ca, cb, hbo, hF⟩
              obtain ⟨O, Q, A, B, qs, xs, T, ca, cb, hbo, hF⟩ := hg0
              have HBO := Lib.hid hbo
              have HF := Lib.hid hF
              have HG : Hid (Mk w4 w4 A B A B (.slice aa n la) (.slice ab n lb) (ptrs n qs) (ptrs n xs) z _) := Lib.hid ⟨⟨Fr.refl _ _, hbo.sa, hbo.sb, fun x hx => .inl hx, fun x hx => .inl hx⟩, HZ.out⟩
              clear hbo hF HB HZ
              have hcs : kk / 3 % 3 = 0 ∨ kk / 3 % 3 = 1 ∨ kk / 3 % 3 = 2 := by omega
              rcases hcs with hc | hc | hc
              · as_aux_lemma =>
                  have hb0 : (kk / 3 % 3 == 0) = true := by simp [hc]
                  clear hc
                  go_wp2_with (first
                    | (go_at_call 11; (with_reducible refine (readT' rv (m + pa % 3) tmo hnow0 hnow1 ht0 htm1 _).mono ?_); rintro e wa ⟨q, rfl, hq, hT, hf⟩; have hV := HG.out.fr2 (by with_reducible (first | exact Fr.refl _ _ | exact (Fr.refl _ _).alloc _ | exact ((Fr.refl _ _).alloc _).alloc _ | exact (Fr.refl _ _).drew | exact ((Fr.refl _ _).drew).alloc _ | exact (((Fr.refl _ _).drew).alloc _).alloc _)) hf; replace hq := HG.out.le (by with_reducible (first | exact Fr.refl _ _ | exact (Fr.refl _ _).alloc _ | exact ((Fr.refl _ _).alloc _).alloc _ | exact (Fr.refl _ _).drew | exact ((Fr.refl _ _).drew).alloc _ | exact (((Fr.refl _ _).drew).alloc _).alloc _)) hq; replace HG := Lib.hid (HG.out.call hV); have HQ := Lib.hid hT; (try (replace HX := Lib.hid (HX.out.keep hV (by simp)))); (try (replace KB := Lib.hid (hV.at KB.out))); (try (have KB : Hid (wa.heap[_]? = some (.cells #[.pointer (some ⟨xq, 0, none⟩)] 56 (0, 0))) := Lib.hid (hf.at (by with_reducible (first | exact heap_alloc_new _ _ | exact allocB (heap_alloc_new _ _) _))))); clear hT hf hV)
                    | (go_at_call 33; (with_reducible refine (rRead' rv (m + pa % 3) tmo _).mono ?_); rintro e wb ⟨xq, rfl, hx, hT, hf⟩; have hV := HG.out.fr2 (by with_reducible (first | exact Fr.refl _ _ | exact (Fr.refl _ _).alloc _ | exact ((Fr.refl _ _).alloc _).alloc _ | exact (Fr.refl _ _).drew | exact ((Fr.refl _ _).drew).alloc _ | exact (((Fr.refl _ _).drew).alloc _).alloc _)) hf; replace hx := HG.out.le (by with_reducible (first | exact Fr.refl _ _ | exact (Fr.refl _ _).alloc _ | exact ((Fr.refl _ _).alloc _).alloc _ | exact (Fr.refl _ _).drew | exact ((Fr.refl _ _).drew).alloc _ | exact (((Fr.refl _ _).drew).alloc _).alloc _)) hx; replace HG := Lib.hid (HG.out.call hV); have HX := Lib.hid hT; (try (replace HQ := Lib.hid (HQ.out.keep hV (by simp)))); (try (replace KA := Lib.hid (hV.at KA.out))); (try (have KA : Hid (wb.heap[_]? = some (.cells #[.pointer (some ⟨q, 0, none⟩)] 30 (0, 0))) := Lib.hid (hf.at (by with_reducible (first | exact heap_alloc_new _ _ | exact allocB (heap_alloc_new _ _) _))))); clear hT hf hV)
                    | (at_builtin; (refine wpList_append_sl rfl (.tmp 107) (.tmp 112) 54 rfl 30 (.pointer none) 8 Try.underlying54 info30 rfl (by rfl) (by rfl) (HG.out.call (by with_reducible (first | exact Fr.refl _ _ | exact (Fr.refl _ _).alloc _ | exact ((Fr.refl _ _).alloc _).alloc _ | exact (Fr.refl _ _).drew | exact ((Fr.refl _ _).drew).alloc _ | exact (((Fr.refl _ _).drew).alloc _).alloc _))).g.sa (src_ptr _ _ 30 rfl (by with_reducible (first | exact heap_alloc_new _ _ | exact allocB (heap_alloc_new _ _) _ | exact KA.out | exact allocB KA.out _ | exact allocB (allocB KA.out _) _))) (by simp [ptrs_len]; omega) (by simp [ptrs_len]; omega) ?_; intro v1 wcA o1 hs1 hf ho; (try (replace HQ := Lib.hid (HG.out.tbA (by with_reducible (first | exact Fr.refl _ _ | exact (Fr.refl _ _).alloc _ | exact ((Fr.refl _ _).alloc _).alloc _ | exact (Fr.refl _ _).drew | exact ((Fr.refl _ _).drew).alloc _ | exact (((Fr.refl _ _).drew).alloc _).alloc _)) hf HQ.out))); (try (replace HX := Lib.hid (HG.out.xbA (by with_reducible (first | exact Fr.refl _ _ | exact (Fr.refl _ _).alloc _ | exact ((Fr.refl _ _).alloc _).alloc _ | exact (Fr.refl _ _).drew | exact ((Fr.refl _ _).drew).alloc _ | exact (((Fr.refl _ _).drew).alloc _).alloc _)) hf HX.out))); (try (replace KB := Lib.hid (HG.out.blkA (by with_reducible (first | exact Fr.refl _ _ | exact (Fr.refl _ _).alloc _ | exact ((Fr.refl _ _).alloc _).alloc _ | exact (Fr.refl _ _).drew | exact ((Fr.refl _ _).drew).alloc _ | exact (((Fr.refl _ _).drew).alloc _).alloc _)) hf (by with_reducible (first | exact KB.out | exact allocB KB.out _ | exact allocB (allocB KB.out _) _))))); (try (have KB : Hid (wcA.heap[_]? = some (.cells #[.pointer (some ⟨xq, 0, none⟩)] 56 (0, 0))) := Lib.hid (HG.out.blkA (by with_reducible (first | exact Fr.refl _ _ | exact (Fr.refl _ _).alloc _ | exact ((Fr.refl _ _).alloc _).alloc _ | exact (Fr.refl _ _).drew | exact ((Fr.refl _ _).drew).alloc _ | exact (((Fr.refl _ _).drew).alloc _).alloc _)) hf (by with_reducible (first | exact heap_alloc_new _ _ | exact allocB (heap_alloc_new _ _) _))))); replace HG := Lib.hid (HG.out.appA (by with_reducible (first | exact Fr.refl _ _ | exact (Fr.refl _ _).alloc _ | exact ((Fr.refl _ _).alloc _).alloc _ | exact (Fr.refl _ _).drew | exact ((Fr.refl _ _).drew).alloc _ | exact (((Fr.refl _ _).drew).alloc _).alloc _)) hf hs1 ho); obtain ⟨a1, c1, rfl⟩ := slice_len hs1; clear hf ho hs1))
                    | (at_builtin; (refine wpList_append_sl rfl (.tmp 114) (.tmp 119) 55 rfl 56 (.pointer none) 8 Try.underlying55 info56 rfl (by rfl) (by rfl) (HG.out.call (by with_reducible (first | exact Fr.refl _ _ | exact (Fr.refl _ _).alloc _ | exact ((Fr.refl _ _).alloc _).alloc _ | exact (Fr.refl _ _).drew | exact ((Fr.refl _ _).drew).alloc _ | exact (((Fr.refl _ _).drew).alloc _).alloc _))).g.sb (src_ptr _ _ 56 rfl (by with_reducible (first | exact heap_alloc_new _ _ | exact allocB (heap_alloc_new _ _) _ | exact KB.out | exact allocB KB.out _ | exact allocB (allocB KB.out _) _))) (by simp [ptrs_len]; omega) (by simp [ptrs_len]; omega) ?_; intro v2 wcB o2 hs2 hf ho; (try (replace HQ := Lib.hid (HG.out.tbB (by with_reducible (first | exact Fr.refl _ _ | exact (Fr.refl _ _).alloc _ | exact ((Fr.refl _ _).alloc _).alloc _ | exact (Fr.refl _ _).drew | exact ((Fr.refl _ _).drew).alloc _ | exact (((Fr.refl _ _).drew).alloc _).alloc _)) hf HQ.out))); (try (replace HX := Lib.hid (HG.out.xbB (by with_reducible (first | exact Fr.refl _ _ | exact (Fr.refl _ _).alloc _ | exact ((Fr.refl _ _).alloc _).alloc _ | exact (Fr.refl _ _).drew | exact ((Fr.refl _ _).drew).alloc _ | exact (((Fr.refl _ _).drew).alloc _).alloc _)) hf HX.out))); (try (replace KA := Lib.hid (HG.out.blkB (by with_reducible (first | exact Fr.refl _ _ | exact (Fr.refl _ _).alloc _ | exact ((Fr.refl _ _).alloc _).alloc _ | exact (Fr.refl _ _).drew | exact ((Fr.refl _ _).drew).alloc _ | exact (((Fr.refl _ _).drew).alloc _).alloc _)) hf (by with_reducible (first | exact KA.out | exact allocB KA.out _ | exact allocB (allocB KA.out _) _))))); (try (have KA : Hid (wcB.heap[_]? = some (.cells #[.pointer (some ⟨q, 0, none⟩)] 30 (0, 0))) := Lib.hid (HG.out.blkB (by with_reducible (first | exact Fr.refl _ _ | exact (Fr.refl _ _).alloc _ | exact ((Fr.refl _ _).alloc _).alloc _ | exact (Fr.refl _ _).drew | exact ((Fr.refl _ _).drew).alloc _ | exact (((Fr.refl _ _).drew).alloc _).alloc _)) hf (by with_reducible (first | exact heap_alloc_new _ _ | exact allocB (heap_alloc_new _ _) _))))); replace HG := Lib.hid (HG.out.appB (by with_reducible (first | exact Fr.refl _ _ | exact (Fr.refl _ _).alloc _ | exact ((Fr.refl _ _).alloc _).alloc _ | exact (Fr.refl _ _).drew | exact ((Fr.refl _ _).drew).alloc _ | exact (((Fr.refl _ _).drew).alloc _).alloc _)) hf hs2 ho); obtain ⟨a2, c2, rfl⟩ := slice_len hs2; clear hf ho hs2)))
                  all_goals
                    have H14 := Lib.hid (Lp.push HBO.out HF.out HG.out hq hx HQ.out HX.out rfl (new_ok' _ _ _ _ _ (.inl rfl) HVB.out byte0 hnow0 hnow1 ht0 htm1) (new_iv hnow0 hnow1 ht0 htm1))
                    go_meet
                    exact ⟨n + 1, _, _, _, _, by omega, rfl, rfl, H14, Lib.hid HG.out.z⟩
              · as_aux_lemma =>
                  have hb0 : (kk / 3 % 3 == 0) = false := by simp [hc]
                  have hb1 : (kk / 3 % 3 == 1) = true := by simp [hc]
                  clear hc
                  go_upto_region 21 with (fail)
                  go_region_held3 (fun V => V.cell? ⟨z, 1, none⟩ = some (.int .u8 vi))
                    (first | (with_reducible exact HG.out.c1 (Fr.refl _ _)) | (exact HG.out.c1 (by with_reducible (first | exact Fr.refl _ _ | exact (Fr.refl _ _).alloc _ | exact ((Fr.refl _ _).alloc _).alloc _ | exact (Fr.refl _ _).drew | exact ((Fr.refl _ _).drew).alloc _ | exact (((Fr.refl _ _).drew).alloc _).alloc _))))
                    (first
                      | (go_at_call 12; (with_reducible refine (writeT' rv vi (m + pa % 3) tmo hnow0 hnow1 ht0 htm1 _).mono ?_); rintro e wa ⟨q, rfl, hq, hT, hf⟩; have hV := HG.out.fr2 (by with_reducible (first | exact Fr.refl _ _ | exact (Fr.refl _ _).alloc _ | exact ((Fr.refl _ _).alloc _).alloc _ | exact (Fr.refl _ _).drew | exact ((Fr.refl _ _).drew).alloc _ | exact (((Fr.refl _ _).drew).alloc _).alloc _)) hf; replace hq := HG.out.le (by with_reducible (first | exact Fr.refl _ _ | exact (Fr.refl _ _).alloc _ | exact ((Fr.refl _ _).alloc _).alloc _ | exact (Fr.refl _ _).drew | exact ((Fr.refl _ _).drew).alloc _ | exact (((Fr.refl _ _).drew).alloc _).alloc _)) hq; replace HG := Lib.hid (HG.out.call hV); have HQ := Lib.hid hT; (try (replace HX := Lib.hid (HX.out.keep hV (by simp)))); (try (replace KB := Lib.hid (hV.at KB.out))); (try (have KB : Hid (wa.heap[_]? = some (.cells #[.pointer (some ⟨xq, 0, none⟩)] 56 (0, 0))) := Lib.hid (hf.at (by with_reducible (first | exact heap_alloc_new _ _ | exact allocB (heap_alloc_new _ _) _))))); clear hT hf hV)
                      | (go_at_call 34; (with_reducible refine (rWrite' rv vi (m + pa % 3) tmo _).mono ?_); rintro e wb ⟨xq, rfl, hx, hT, hf⟩; have hV := HG.out.fr2 (by with_reducible (first | exact Fr.refl _ _ | exact (Fr.refl _ _).alloc _ | exact ((Fr.refl _ _).alloc _).alloc _ | exact (Fr.refl _ _).drew | exact ((Fr.refl _ _).drew).alloc _ | exact (((Fr.refl _ _).drew).alloc _).alloc _)) hf; replace hx := HG.out.le (by with_reducible (first | exact Fr.refl _ _ | exact (Fr.refl _ _).alloc _ | exact ((Fr.refl _ _).alloc _).alloc _ | exact (Fr.refl _ _).drew | exact ((Fr.refl _ _).drew).alloc _ | exact (((Fr.refl _ _).drew).alloc _).alloc _)) hx; replace HG := Lib.hid (HG.out.call hV); have HX := Lib.hid hT; (try (replace HQ := Lib.hid (HQ.out.keep hV (by simp)))); (try (replace KA := Lib.hid (hV.at KA.out))); (try (have KA : Hid (wb.heap[_]? = some (.cells #[.pointer (some ⟨q, 0, none⟩)] 30 (0, 0))) := Lib.hid (hf.at (by with_reducible (first | exact heap_alloc_new _ _ | exact allocB (heap_alloc_new _ _) _))))); clear hT hf hV)
                      | (refine step_append_sl rfl (.tmp 123) (.tmp 130) 54 rfl 30 (.pointer none) 8 Try.underlying54 info30 rfl (by rfl) (by rfl) (HG.out.call (by with_reducible (first | exact Fr.refl _ _ | exact (Fr.refl _ _).alloc _ | exact ((Fr.refl _ _).alloc _).alloc _ | exact (Fr.refl _ _).drew | exact ((Fr.refl _ _).drew).alloc _ | exact (((Fr.refl _ _).drew).alloc _).alloc _))).g.sa (src_ptr _ _ 30 rfl (by with_reducible (first | exact heap_alloc_new _ _ | exact allocB (heap_alloc_new _ _) _ | exact KA.out | exact allocB KA.out _ | exact allocB (allocB KA.out _) _))) (by simp [ptrs_len]; omega) (by simp [ptrs_len]; omega) ?_; intro v1 wcA o1 hs1 hf ho; (try (replace HQ := Lib.hid (HG.out.tbA (by with_reducible (first | exact Fr.refl _ _ | exact (Fr.refl _ _).alloc _ | exact ((Fr.refl _ _).alloc _).alloc _ | exact (Fr.refl _ _).drew | exact ((Fr.refl _ _).drew).alloc _ | exact (((Fr.refl _ _).drew).alloc _).alloc _)) hf HQ.out))); (try (replace HX := Lib.hid (HG.out.xbA (by with_reducible (first | exact Fr.refl _ _ | exact (Fr.refl _ _).alloc _ | exact ((Fr.refl _ _).alloc _).alloc _ | exact (Fr.refl _ _).drew | exact ((Fr.refl _ _).drew).alloc _ | exact (((Fr.refl _ _).drew).alloc _).alloc _)) hf HX.out))); (try (replace KB := Lib.hid (HG.out.blkA (by with_reducible (first | exact Fr.refl _ _ | exact (Fr.refl _ _).alloc _ | exact ((Fr.refl _ _).alloc _).alloc _ | exact (Fr.refl _ _).drew | exact ((Fr.refl _ _).drew).alloc _ | exact (((Fr.refl _ _).drew).alloc _).alloc _)) hf (by with_reducible (first | exact KB.out | exact allocB KB.out _ | exact allocB (allocB KB.out _) _))))); (try (have KB : Hid (wcA.heap[_]? = some (.cells #[.pointer (some ⟨xq, 0, none⟩)] 56 (0, 0))) := Lib.hid (HG.out.blkA (by with_reducible (first | exact Fr.refl _ _ | exact (Fr.refl _ _).alloc _ | exact ((Fr.refl _ _).alloc _).alloc _ | exact (Fr.refl _ _).drew | exact ((Fr.refl _ _).drew).alloc _ | exact (((Fr.refl _ _).drew).alloc _).alloc _)) hf (by with_reducible (first | exact heap_alloc_new _ _ | exact allocB (heap_alloc_new _ _) _))))); replace HG := Lib.hid (HG.out.appA (by with_reducible (first | exact Fr.refl _ _ | exact (Fr.refl _ _).alloc _ | exact ((Fr.refl _ _).alloc _).alloc _ | exact (Fr.refl _ _).drew | exact ((Fr.refl _ _).drew).alloc _ | exact (((Fr.refl _ _).drew).alloc _).alloc _)) hf hs1 ho); obtain ⟨a1, c1, rfl⟩ := slice_len hs1; clear hf ho hs1)
                      | (refine step_append_sl rfl (.tmp 132) (.tmp 139) 55 rfl 56 (.pointer none) 8 Try.underlying55 info56 rfl (by rfl) (by rfl) (HG.out.call (by with_reducible (first | exact Fr.refl _ _ | exact (Fr.refl _ _).alloc _ | exact ((Fr.refl _ _).alloc _).alloc _ | exact (Fr.refl _ _).drew | exact ((Fr.refl _ _).drew).alloc _ | exact (((Fr.refl _ _).drew).alloc _).alloc _))).g.sb (src_ptr _ _ 56 rfl (by with_reducible (first | exact heap_alloc_new _ _ | exact allocB (heap_alloc_new _ _) _ | exact KB.out | exact allocB KB.out _ | exact allocB (allocB KB.out _) _))) (by simp [ptrs_len]; omega) (by simp [ptrs_len]; omega) ?_; intro v2 wcB o2 hs2 hf ho; (try (replace HQ := Lib.hid (HG.out.tbB (by with_reducible (first | exact Fr.refl _ _ | exact (Fr.refl _ _).alloc _ | exact ((Fr.refl _ _).alloc _).alloc _ | exact (Fr.refl _ _).drew | exact ((Fr.refl _ _).drew).alloc _ | exact (((Fr.refl _ _).drew).alloc _).alloc _)) hf HQ.out))); (try (replace HX := Lib.hid (HG.out.xbB (by with_reducible (first | exact Fr.refl _ _ | exact (Fr.refl _ _).alloc _ | exact ((Fr.refl _ _).alloc _).alloc _ | exact (Fr.refl _ _).drew | exact ((Fr.refl _ _).drew).alloc _ | exact (((Fr.refl _ _).drew).alloc _).alloc _)) hf HX.out))); (try (replace KA := Lib.hid (HG.out.blkB (by with_reducible (first | exact Fr.refl _ _ | exact (Fr.refl _ _).alloc _ | exact ((Fr.refl _ _).alloc _).alloc _ | exact (Fr.refl _ _).drew | exact ((Fr.refl _ _).drew).alloc _ | exact (((Fr.refl _ _).drew).alloc _).alloc _)) hf (by with_reducible (first | exact KA.out | exact allocB KA.out _ | exact allocB (allocB KA.out _) _))))); (try (have KA : Hid (wcB.heap[_]? = some (.cells #[.pointer (some ⟨q, 0, none⟩)] 30 (0, 0))) := Lib.hid (HG.out.blkB (by with_reducible (first | exact Fr.refl _ _ | exact (Fr.refl _ _).alloc _ | exact ((Fr.refl _ _).alloc _).alloc _ | exact (Fr.refl _ _).drew | exact ((Fr.refl _ _).drew).alloc _ | exact (((Fr.refl _ _).drew).alloc _).alloc _)) hf (by with_reducible (first | exact heap_alloc_new _ _ | exact allocB (heap_alloc_new _ _) _))))); replace HG := Lib.hid (HG.out.appB (by with_reducible (first | exact Fr.refl _ _ | exact (Fr.refl _ _).alloc _ | exact ((Fr.refl _ _).alloc _).alloc _ | exact (Fr.refl _ _).drew | exact ((Fr.refl _ _).drew).alloc _ | exact (((Fr.refl _ _).drew).alloc _).alloc _)) hf hs2 ho); obtain ⟨a2, c2, rfl⟩ := slice_len hs2; clear hf ho hs2))
                  all_goals
                    go_wp2_with fail

                    have H14 := Lib.hid (Lp.push HBO.out HF.out HG.out hq hx HQ.out HX.out rfl (new_ok' _ _ _ _ _ (.inr (.inl rfl)) HVB.out HVV.out hnow0 hnow1 ht0 htm1) (new_iv hnow0 hnow1 ht0 htm1))
                    go_meet
                    exact ⟨n + 1, _, _, _, _, by omega, rfl, rfl, H14, Lib.hid HG.out.z⟩
                    
              · as_aux_lemma =>
                  have hb0 : (kk / 3 % 3 == 0) = false := by simp [hc]
                  have hb1 : (kk / 3 % 3 == 1) = false := by simp [hc]
                  clear hc
                  go_wp2_with (first
                    | (go_at_call 32; (with_reducible refine (queryT' (m + pa % 3) tmo hnow0 hnow1 ht0 htm1 _).mono ?_); rintro e wa ⟨q, rfl, hq, hT, hf⟩; have hV := HG.out.fr2 (by with_reducible (first | exact Fr.refl _ _ | exact (Fr.refl _ _).alloc _ | exact ((Fr.refl _ _).alloc _).alloc _ | exact (Fr.refl _ _).drew | exact ((Fr.refl _ _).drew).alloc _ | exact (((Fr.refl _ _).drew).alloc _).alloc _)) hf; replace hq := HG.out.le (by with_reducible (first | exact Fr.refl _ _ | exact (Fr.refl _ _).alloc _ | exact ((Fr.refl _ _).alloc _).alloc _ | exact (Fr.refl _ _).drew | exact ((Fr.refl _ _).drew).alloc _ | exact (((Fr.refl _ _).drew).alloc _).alloc _)) hq; replace HG := Lib.hid (HG.out.call hV); have HQ := Lib.hid hT; (try (replace HX := Lib.hid (HX.out.keep hV (by simp)))); (try (replace KB := Lib.hid (hV.at KB.out))); (try (have KB : Hid (wa.heap[_]? = some (.cells #[.pointer (some ⟨xq, 0, none⟩)] 56 (0, 0))) := Lib.hid (hf.at (by with_reducible (first | exact heap_alloc_new _ _ | exact allocB (heap_alloc_new _ _) _))))); clear hT hf hV)
                    | (go_at_call 35; (with_reducible refine (rQuery' (m + pa % 3) tmo _).mono ?_); rintro e wb ⟨xq, rfl, hx, hT, hf⟩; have hV := HG.out.fr2 (by with_reducible (first | exact Fr.refl _ _ | exact (Fr.refl _ _).alloc _ | exact ((Fr.refl _ _).alloc _).alloc _ | exact (Fr.refl _ _).drew | exact ((Fr.refl _ _).drew).alloc _ | exact (((Fr.refl _ _).drew).alloc _).alloc _)) hf; replace hx := HG.out.le (by with_reducible (first | exact Fr.refl _ _ | exact (Fr.refl _ _).alloc _ | exact ((Fr.refl _ _).alloc _).alloc _ | exact (Fr.refl _ _).drew | exact ((Fr.refl _ _).drew).alloc _ | exact (((Fr.refl _ _).drew).alloc _).alloc _)) hx; replace HG := Lib.hid (HG.out.call hV); have HX := Lib.hid hT; (try (replace HQ := Lib.hid (HQ.out.keep hV (by simp)))); (try (replace KA := Lib.hid (hV.at KA.out))); (try (have KA : Hid (wb.heap[_]? = some (.cells #[.pointer (some ⟨q, 0, none⟩)] 30 (0, 0))) := Lib.hid (hf.at (by with_reducible (first | exact heap_alloc_new _ _ | exact allocB (heap_alloc_new _ _) _))))); clear hT hf hV)
                    | (at_builtin; (refine wpList_append_sl rfl (.tmp 93) (.tmp 97) 54 rfl 30 (.pointer none) 8 Try.underlying54 info30 rfl (by rfl) (by rfl) (HG.out.call (by with_reducible (first | exact Fr.refl _ _ | exact (Fr.refl _ _).alloc _ | exact ((Fr.refl _ _).alloc _).alloc _ | exact (Fr.refl _ _).drew | exact ((Fr.refl _ _).drew).alloc _ | exact (((Fr.refl _ _).drew).alloc _).alloc _))).g.sa (src_ptr _ _ 30 rfl (by with_reducible (first | exact heap_alloc_new _ _ | exact allocB (heap_alloc_new _ _) _ | exact KA.out | exact allocB KA.out _ | exact allocB (allocB KA.out _) _))) (by simp [ptrs_len]; omega) (by simp [ptrs_len]; omega) ?_; intro v1 wcA o1 hs1 hf ho; (try (replace HQ := Lib.hid (HG.out.tbA (by with_reducible (first | exact Fr.refl _ _ | exact (Fr.refl _ _).alloc _ | exact ((Fr.refl _ _).alloc _).alloc _ | exact (Fr.refl _ _).drew | exact ((Fr.refl _ _).drew).alloc _ | exact (((Fr.refl _ _).drew).alloc _).alloc _)) hf HQ.out))); (try (replace HX := Lib.hid (HG.out.xbA (by with_reducible (first | exact Fr.refl _ _ | exact (Fr.refl _ _).alloc _ | exact ((Fr.refl _ _).alloc _).alloc _ | exact (Fr.refl _ _).drew | exact ((Fr.refl _ _).drew).alloc _ | exact (((Fr.refl _ _).drew).alloc _).alloc _)) hf HX.out))); (try (replace KB := Lib.hid (HG.out.blkA (by with_reducible (first | exact Fr.refl _ _ | exact (Fr.refl _ _).alloc _ | exact ((Fr.refl _ _).alloc _).alloc _ | exact (Fr.refl _ _).drew | exact ((Fr.refl _ _).drew).alloc _ | exact (((Fr.refl _ _).drew).alloc _).alloc _)) hf (by with_reducible (first | exact KB.out | exact allocB KB.out _ | exact allocB (allocB KB.out _) _))))); (try (have KB : Hid (wcA.heap[_]? = some (.cells #[.pointer (some ⟨xq, 0, none⟩)] 56 (0, 0))) := Lib.hid (HG.out.blkA (by with_reducible (first | exact Fr.refl _ _ | exact (Fr.refl _ _).alloc _ | exact ((Fr.refl _ _).alloc _).alloc _ | exact (Fr.refl _ _).drew | exact ((Fr.refl _ _).drew).alloc _ | exact (((Fr.refl _ _).drew).alloc _).alloc _)) hf (by with_reducible (first | exact heap_alloc_new _ _ | exact allocB (heap_alloc_new _ _) _))))); replace HG := Lib.hid (HG.out.appA (by with_reducible (first | exact Fr.refl _ _ | exact (Fr.refl _ _).alloc _ | exact ((Fr.refl _ _).alloc _).alloc _ | exact (Fr.refl _ _).drew | exact ((Fr.refl _ _).drew).alloc _ | exact (((Fr.refl _ _).drew).alloc _).alloc _)) hf hs1 ho); obtain ⟨a1, c1, rfl⟩ := slice_len hs1; clear hf ho hs1))
                    | (at_builtin; (refine wpList_append_sl rfl (.tmp 99) (.tmp 103) 55 rfl 56 (.pointer none) 8 Try.underlying55 info56 rfl (by rfl) (by rfl) (HG.out.call (by with_reducible (first | exact Fr.refl _ _ | exact (Fr.refl _ _).alloc _ | exact ((Fr.refl _ _).alloc _).alloc _ | exact (Fr.refl _ _).drew | exact ((Fr.refl _ _).drew).alloc _ | exact (((Fr.refl _ _).drew).alloc _).alloc _))).g.sb (src_ptr _ _ 56 rfl (by with_reducible (first | exact heap_alloc_new _ _ | exact allocB (heap_alloc_new _ _) _ | exact KB.out | exact allocB KB.out _ | exact allocB (allocB KB.out _) _))) (by simp [ptrs_len]; omega) (by simp [ptrs_len]; omega) ?_; intro v2 wcB o2 hs2 hf ho; (try (replace HQ := Lib.hid (HG.out.tbB (by with_reducible (first | exact Fr.refl _ _ | exact (Fr.refl _ _).alloc _ | exact ((Fr.refl _ _).alloc _).alloc _ | exact (Fr.refl _ _).drew | exact ((Fr.refl _ _).drew).alloc _ | exact (((Fr.refl _ _).drew).alloc _).alloc _)) hf HQ.out))); (try (replace HX := Lib.hid (HG.out.xbB (by with_reducible (first | exact Fr.refl _ _ | exact (Fr.refl _ _).alloc _ | exact ((Fr.refl _ _).alloc _).alloc _ | exact (Fr.refl _ _).drew | exact ((Fr.refl _ _).drew).alloc _ | exact (((Fr.refl _ _).drew).alloc _).alloc _)) hf HX.out))); (try (replace KA := Lib.hid (HG.out.blkB (by with_reducible (first | exact Fr.refl _ _ | exact (Fr.refl _ _).alloc _ | exact ((Fr.refl _ _).alloc _).alloc _ | exact (Fr.refl _ _).drew | exact ((Fr.refl _ _).drew).alloc _ | exact (((Fr.refl _ _).drew).alloc _).alloc _)) hf (by with_reducible (first | exact KA.out | exact allocB KA.out _ | exact allocB (allocB KA.out _) _))))); (try (have KA : Hid (wcB.heap[_]? = some (.cells #[.pointer (some ⟨q, 0, none⟩)] 30 (0, 0))) := Lib.hid (HG.out.blkB (by with_reducible (first | exact Fr.refl _ _ | exact (Fr.refl _ _).alloc _ | exact ((Fr.refl _ _).alloc _).alloc _ | exact (Fr.refl _ _).drew | exact ((Fr.refl _ _).drew).alloc _ | exact (((Fr.refl _ _).drew).alloc _).alloc _)) hf (by with_reducible (first | exact heap_alloc_new _ _ | exact allocB (heap_alloc_new _ _) _))))); replace HG := Lib.hid (HG.out.appB (by with_reducible (first | exact Fr.refl _ _ | exact (Fr.refl _ _).alloc _ | exact ((Fr.refl _ _).alloc _).alloc _ | exact (Fr.refl _ _).drew | exact ((Fr.refl _ _).drew).alloc _ | exact (((Fr.refl _ _).drew).alloc _).alloc _)) hf hs2 ho); obtain ⟨a2, c2, rfl⟩ := slice_len hs2; clear hf ho hs2)))
                  all_goals
                    have H14 := Lib.hid (Lp.push HBO.out HF.out HG.out hq hx HQ.out HX.out rfl (new_ok' _ _ _ _ _ (.inr (.inr rfl)) byte0 byte0 hnow0 hnow1 ht0 htm1) (new_iv hnow0 hnow1 ht0 htm1))
                    go_meet
                    exact ⟨n + 1, _, _, _, _, by omega, rfl, rfl, H14, Lib.hid HG.out.z⟩
          case rest =>
            obtain ⟨n, aa, la, ab, lb, hn6, rfl, rfl, HB, HZ⟩ := hcut
            have z0 : wc.cell? ⟨z, 0, none⟩ = some (.int .i64 ki) := cellB HZ.out 0
            have hnow0 : 0 ≤ m + pa % 3 := by omega
            have hnow1 : m + pa % 3 < 18446744073709551616 := by omega
            have hnow2 : m + pa % 3 ≤ 2 * k + 2 := by omega
            generalize m + pa % 3 = now at *
            clear H4 HBV
            go_upto_if 144 with (fail)
            go_cut [] (fun wx => ∃ C : Ct, Hid (Lp w wx p r C (.slice aa n la) (.slice ab n lb) n) ∧ Hid (wx.heap[z]? = some (.cells #[.int .i64 ki, .int .u8 vi, .int .u8 ri, .int .u64 pa] 45 (0, 0))))
            case first =>
              clear z0
              by_cases h7 : ki.tmod 7 = 6
              · have hb7 : (ki.tmod 7 == 6) = true := by simp [h7]
                clear h7
                obtain ⟨qs, xs, T, ca, cb, hb, hF⟩ := HB.out.out
                have hx0 : 0 ≤ v % 4 := by omega
                have hx1 : v % 4 < 256 := by omega
                have hok := write_ok hF.ct (t := now) (v := v % 4) hnow0 hnow1 ⟨hx0, hx1⟩ false
                have h1 := Lib.hid (hb.left (fun O hP => writeData_calls p O C hF.ct now hnow0 hnow1 (v % 4) _ hP))
                have H2' := Lib.hid (fun W (hb : Big w W p r n (writeS C now (v % 4) false) C (.slice aa n la) (.slice ab n lb) qs xs T T ca cb) => hb.right (fun Q hR => ref1 (rwriteData_calls r Q C hF.ct now hnow0 hnow1 (v % 4) _ hR)))
                have HF := Lib.hid (hF.ctrl hok)
                have HZ0 := HZ
                clear hb hF hok HB HZ
                go_wp2_with fail
                refine h1.out.mono ?_
                rintro e w5 ⟨rfl, hb5, hk5⟩
                have h2 := Lib.hid (H2'.out _ hb5)
                have HZ5 := Lib.hid (hk5 _ _ _ (by decide) (by decide) (by decide) (by decide) (by decide) HZ0.out)
                clear h1 hb5 hk5 HZ0 H2'
                go_wp2_with fail
                refine h2.out.mono ?_
                rintro e w6 ⟨rfl, hb6, hk6⟩
                have HB6 : Hid (Lp w w6 p r (writeS C now (v % 4) false) (.slice aa n la) (.slice ab n lb) n) := Lib.hid ⟨⟨qs, xs, T, ca, cb, hb6, HF.out⟩⟩
                have HZ6 := Lib.hid (hk6 _ _ _ (by decide) (by decide) (by decide) (by decide) (by decide) HZ5.out)
                clear hb6 hk6 h2 HZ5
                go_wp2_with fail
                go_meet
                exact ⟨_, HB6, HZ6⟩
              · have hb7 : (ki.tmod 7 == 6) = false := by simp [h7]
                clear h7
                go_wp2_with fail
                go_meet
                exact ⟨C, HB, HZ⟩
            case rest =>
              clear z0 HB HZ
              obtain ⟨C, HB, HZ⟩ := hcut
              have z0 : wc.cell? ⟨z, 0, none⟩ = some (.int .i64 ki) := cellB HZ.out 0
              go_upto_region 25 with (fail)
              go_cut [171] (fun s171 wx => s171 = .bool false ∧ ∃ C : Ct, Hid (Lp w wx p r C (.slice aa n la) (.slice ab n lb) n) ∧ Hid (wx.heap[z]? = some (.cells #[.int .i64 ki, .int .u8 vi, .int .u8 ri, .int .u64 pa] 45 (0, 0))))
              case first =>
                by_cases h7 : ki.tmod 5 = 4
                · have hb7 : (ki.tmod 5 == 4) = true := by simp [h7]
                  clear h7
                  obtain ⟨qs, xs, T, ca, cb, hb, hF⟩ := HB.out.out
                  have hx0 : 0 ≤ 1 + v % 8 := by omega
                  have hx1 : 1 + v % 8 < 256 := by omega
                  have hok := raise_ok hF.ct (q := 1 + v % 8) ⟨hx0, hx1⟩
                  have h1 := Lib.hid (hb.left (fun O hP => raise_calls p O C hF.ct (1 + v % 8) hx0 hx1 _ hP))
                  have H2' := Lib.hid (fun W (hb : Big w W p r n (raiseS C (1 + v % 8)) C (.slice aa n la) (.slice ab n lb) qs xs T T ca cb) => hb.right (fun Q hR => rraise_calls r Q C hF.ct (1 + v % 8) hx0 hx1 _ hR))
                  have HF := Lib.hid (hF.ctrl hok)
                  have HZ0 := HZ
                  clear hb hF hok HB HZ
                  generalize raiseE C (1 + v % 8) = re at *
                  go_wp2_with fail
                  refine h1.out.mono ?_
                  rintro e w5 ⟨rfl, hb5, hk5⟩
                  have h2 := Lib.hid (H2'.out _ hb5)
                  have HZ5 := Lib.hid (hk5 _ _ _ (by decide) (by decide) (by decide) (by decide) (by decide) HZ0.out)
                  clear h1 hb5 hk5 HZ0 H2' z0
                  go_wp2_with fail
                  refine h2.out.mono ?_
                  rintro e w6 ⟨rfl, hb6, hk6⟩
                  have HB6 : Hid (Lp w w6 p r (raiseS C (1 + v % 8)) (.slice aa n la) (.slice ab n lb) n) := Lib.hid ⟨⟨qs, xs, T, ca, cb, hb6, HF.out⟩⟩
                  have HZ6 := Lib.hid (hk6 _ _ _ (by decide) (by decide) (by decide) (by decide) (by decide) HZ5.out)
                  clear hb6 hk6 h2 HZ5
                  go_wp2_with fail
                  go_meet
                  exact ⟨rfl, _, HB6, HZ6⟩
                · have hb7 : (ki.tmod 5 == 4) = false := by simp [h7]
                  clear h7
                  go_wp2_with fail
                  go_meet
                  exact ⟨rfl, C, HB, HZ⟩
              case rest =>
                clear z0 HB HZ
                obtain ⟨rfl, C, HB, HZ⟩ := hcut
                have z0 : wc.cell? ⟨z, 0, none⟩ = some (.int .i64 ki) := cellB HZ.out 0
                by_cases hnz : n = 0
                · subst hnz
                  clear z0
                  go_wp2_with fail
                  go_roundw
                  case rel => exact ⟨k + 1, 0, now, C, aa, la, ab, lb, by omega, by omega, hn6, rfl, rfl, by go_num, rfl, hnow0, by omega, HB⟩
                  case measure => simp [intOf]; omega
                · as_aux_lemma =>
                    have hmod := Lib.hid (fun W => mod_calls ki n i0 i1 (by omega) (by omega) W)
                    obtain ⟨j, hj⟩ : ∃ j : Nat, umod ki n = (j : Int) := Int.eq_ofNat_of_zero_le (by unfold umod; exact Int.emod_nonneg _ (by omega))
                    have hjn : j < n := by have : umod ki n < n := by unfold umod; exact Int.emod_lt_of_pos _ (by omega)
                                           omega
                    rw [hj] at hmod
                    clear hj
                    obtain ⟨qs, xs, T, ca, cb, hb, hF⟩ := HB.out.out
                    obtain ⟨g1, of1, cp1, hv1, hc1⟩ := hb.atL hjn
                    obtain ⟨g2, of2, cp2, hv2, hc2⟩ := hb.atR hjn
                    obtain ⟨rfl, rfl⟩ : aa = some ⟨g1, of1, none⟩ ∧ la = cp1 := by injection hv1 with h1 h2 h3; exact ⟨h1, h3⟩
                    obtain ⟨rfl, rfl⟩ : ab = some ⟨g2, of2, none⟩ ∧ lb = cp2 := by injection hv2 with h1 h2 h3; exact ⟨h1, h3⟩
                    clear hv1 hv2
                    have hsl := Lib.hid (fun W D E S T' (h : Big w W p r n D E (.slice (some ⟨g1, of1, none⟩) n la) (.slice (some ⟨g2, of2, none⟩) n lb) qs xs S T' ca cb) => by
                      obtain ⟨g, o, c, e1, e2⟩ := h.atR hjn
                      obtain ⟨⟨rfl, rfl⟩, _⟩ : (g2 = g ∧ of2 = o) ∧ lb = c := by simpa using e1
                      exact (e2 : W.cell? ⟨g2, of2 + j, none⟩ = some (.pointer (some ⟨xs j, 0, none⟩))))
                    have h1 := Lib.hid (hb.stepL hjn (fun O hP => step_calls (qs j) p O ⟨T j, C⟩ (hF.tr j hjn) hF.ct now hnow0 hnow1 _ hP))
                    have H2' := Lib.hid (fun W (hb : Big w W p r n (stepS ⟨T j, C⟩ now).C C (.slice (some ⟨g1, of1, none⟩) n la) (.slice (some ⟨g2, of2, none⟩) n lb) qs xs (upd T j (stepS ⟨T j, C⟩ now).T) T ca cb) => hb.stepR hjn (fun Q hR hX => rstep_calls (xs j) r Q ⟨T j, C⟩ (ca j) (cb j) (hF.tr j hjn) (hF.iv j hjn) hF.ct now hnow0 hnow1 _ hR hX))
                    have HF := Lib.hid (hF.step hjn hnow0 hnow1)
                    clear hb hF HB hnz
                    generalize stepS ⟨T j, C⟩ now = SS at *
                    generalize resV SS = rv at *
                    generalize doneV SS = dv at *
                    generalize errV SS = ev at *
                    go_wp2_with fail
                    refine (hmod.out _).mono ?_
                    rintro e w4 ⟨rfl, rfl⟩
                    clear hmod z0
                    go_wp2_with fail
                    refine h1.out.mono ?_
                    rintro e w5 ⟨rfl, hb5, hk5⟩
                    have h2 := Lib.hid (H2'.out _ hb5)
                    have hc2 := hsl.out _ _ _ _ _ hb5
                    clear h1 hb5 hk5 H2' hc1 hsl
                    go_wp2_with fail
                    refine h2.out.mono ?_
                    rintro e w6 ⟨rfl, hb6, hk6⟩
                    have HB6 : Hid (Lp w w6 p r SS.C (.slice (some ⟨g1, of1, none⟩) n la) (.slice (some ⟨g2, of2, none⟩) n lb) n) := Lib.hid ⟨⟨qs, xs, _, ca, cb, hb6, HF.out⟩⟩
                    clear hb6 hk6 h2 hc2
                    go_wp2_with fail
                    go_roundw
                    case rel => exact ⟨k + 1, n, now, SS.C, _, la, _, lb, by omega, by omega, hn6, rfl, rfl, by go_num, rfl, hnow0, by omega, HB6⟩
                    case measure => simp [intOf]; omega
      · obtain rfl : k = 80 := by omega
        go_wp2_with fail
        go_ret
        exact ⟨rfl, HR.out.below⟩
    · obtain rfl : k = len := by omega
      go_wp2_with fail
      go_ret
      exact ⟨rfl, HR.out.below⟩
end Go.Proofs.Ytbcgcbogcofbjaa.Ec
