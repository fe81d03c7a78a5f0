import Derived.Test.YtdfmjmabdggcjaaPzT
namespace Go.Proofs.Ytdfmjmabdggcjaa.Pz
open Go.RowKit Go.Proofs.YtdfmjmabdggcjaaW.PrintWords
set_option linter.unusedSimpArgs false
/-! ### Pages written word by word -/
theorem pageB_cons (w : Int) (l : List Int) : pageB (w :: l) = [b0 w, b1 w, b2 w, b3 w] ++ pageB l := by simp [pageB]
theorem set_past (w a : Int) (l : List Int) (q j : Nat) : ([b0 w, b1 w, b2 w, b3 w] ++ l).set (4 * (q + 1) + j) a = [b0 w, b1 w, b2 w, b3 w] ++ l.set (4 * q + j) a := by
  rw [List.set_append_right _ _ (by simp; omega)]
  congr 2
  simp; omega
theorem pageB_set (x : Int) : ∀ (l : List Int) (q : Nat), q < l.length → ((((pageB l).set (4 * q + 0) (b0 x)).set (4 * q + 1) (b1 x)).set (4 * q + 2) (b2 x)).set (4 * q + 3) (b3 x) = pageB (l.set q x)
  | [], q, h => absurd h (by simp)
  | w :: l, 0, _ => by
    rw [pageB_cons, List.set_cons_zero, pageB_cons]
    simp
  | w :: l, q + 1, h => by
    rw [pageB_cons, List.set_cons_succ, pageB_cons, set_past, set_past, set_past, set_past, pageB_set x l q (by simpa using h)]
theorem pageB_range (l : List Int) : ∀ x ∈ pageB l, 0 ≤ x ∧ x < 256 := by
  intro x hx
  unfold pageB at hx
  rw [List.mem_flatMap] at hx
  obtain ⟨w, _, hw⟩ := hx
  unfold b0 b1 b2 b3 at hw
  simp at hw
  omega
theorem pageB_getD (l : List Int) : ∀ (i : Nat), i < l.length → (pageB l).getD (4 * i) 0 = b0 (l.getD i 0) ∧ (pageB l).getD (4 * i + 1) 0 = b1 (l.getD i 0) ∧ (pageB l).getD (4 * i + 2) 0 = b2 (l.getD i 0) ∧ (pageB l).getD (4 * i + 3) 0 = b3 (l.getD i 0) := by
  induction l with
  | nil => intro i h; exact absurd h (by simp)
  | cons w l ih =>
    intro i h
    rw [pageB_cons]
    cases i with
    | zero => exact ⟨rfl, rfl, rfl, rfl⟩
    | succ i =>
      have := ih i (by simpa using h)
      have e : ∀ j, ([b0 w, b1 w, b2 w, b3 w] ++ pageB l).getD (4 * (i + 1) + j) 0 = (pageB l).getD (4 * i + j) 0 := by
        intro j
        rw [List.getD_eq_getElem?_getD, List.getD_eq_getElem?_getD, List.getElem?_append_right (by simp; omega)]
        congr 2
        simp; omega
      have e0 := e 0
      rw [Nat.add_zero, Nat.add_zero] at e0
      rw [e0, e 1, e 2, e 3, List.getD_cons_succ]
      exact this
theorem page_size (l : List Int) (h : l.length = 64) : (strOfNums (pageB l)).size = 256 := by rw [strOfNums_size, pageB_length, h]
/-- The words of such a page. -/
theorem ws_page (l : List Int) (h : l.length = 64) (hW : ∀ x ∈ l, W x) : ws (strOfNums (pageB l)) 64 = l := by
  apply List.ext_getElem
  · simp [ws, h]
  · intro i h1 h2
    simp only [ws, List.getElem_map, List.getElem_range]
    have hi : i < l.length := h2
    have hw : W (l[i]) := hW _ (List.getElem_mem h2)
    obtain ⟨g0, g1, g2, g3⟩ := pageB_getD l i hi
    have e : l.getD i 0 = l[i] := by rw [List.getD_eq_getElem?_getD, List.getElem?_eq_getElem h2]; rfl
    rw [e] at g0 g1 g2 g3
    rw [wordS_eq, bt_eq, bt_eq, bt_eq, bt_eq, bytesOf_str _ (pageB_range l), g0, g1, g2, g3]
    unfold b0 b1 b2 b3
    unfold W at hw
    omega
/-! ### RepeatedWord -/
def hits : Nat → List Bool
  | 0 => List.replicate 64 false
  | i + 1 => (hits i).set (5 * i % 64) true
def rw_ (w : Int) (i : Nat) : List Int := (hits i).map fun b => if b then w else 0
theorem hits_length (i : Nat) : (hits i).length = 64 := by
  induction i with
  | zero => rfl
  | succ i ih => simp [hits, ih]
theorem rw_length (w : Int) (i : Nat) : (rw_ w i).length = 64 := by simp [rw_, hits_length]
theorem rw_succ (w : Int) (i : Nat) : rw_ w (i + 1) = (rw_ w i).set (5 * i % 64) w := by
  simp [rw_, hits, List.map_set]
theorem rw_zero (w : Int) : pageB (rw_ w 0) = List.replicate 256 0 := by
  have : rw_ w 0 = List.replicate 64 0 := by simp [rw_, hits]
  rw [this]
  have h : ∀ n : Nat, pageB (List.replicate n 0) = List.replicate (4 * n) 0 := by
    intro n
    induction n with
    | zero => rfl
    | succ n ih =>
      rw [List.replicate_succ, pageB_cons, ih, show 4 * (n + 1) = 4 + 4 * n by omega, ← List.replicate_append_replicate]
      rfl
  exact h 64
theorem hits_count : ∀ i : Fin 65, (hits i.val).countP id = i.val := by decide +kernel
theorem rw_count {w : Int} (hw : w ≠ 0) (i : Nat) (hi : i ≤ 64) : (rw_ w i).countP (· ≠ 0) = i := by
  unfold rw_
  rw [List.countP_map]
  have h : (hits i).countP id = i := hits_count ⟨i, by omega⟩
  refine Eq.trans ?_ h
  congr 1
  funext b
  cases b <;> simp [hw]
theorem rw_len {w : Int} (hw : w ≠ 0) (hW : W w) (m : Nat) (hm : m ≤ 64) :
    (compS (strOfNums (pageB (rw_ w m)))).size = if m = 0 then 17 else if w / 65536 = 0 then 19 + m else 20 + m := by
  have hall : ∀ x ∈ rw_ w m, x = 0 ∨ x = w := by
    intro x hx
    unfold rw_ at hx
    rw [List.mem_map] at hx
    obtain ⟨b, _, rfl⟩ := hx
    cases b <;> simp
  have hws : ws (strOfNums (pageB (rw_ w m))) 64 = rw_ w m := ws_page _ (rw_length w m) (fun x hx => by
    rcases hall x hx with rfl | rfl
    · exact ⟨by omega, by omega⟩
    · exact hW)
  have ho : (pst (strOfNums (pageB (rw_ w m))) 64).out.length = if m = 0 then 0 else (if w / 65536 = 0 then 3 else 4) + (m - 1) := by
    unfold pst
    rw [hws, rep_from hw _ st0 (fun _ => rfl) hall, rw_count hw m hm]
    simp [st0]
  rw [compS_len _ (page_size _ (rw_length w m)), ho]
  by_cases h0 : m = 0
  · rw [if_pos h0, if_pos h0]; rfl
  · rw [if_neg h0, if_neg h0]
    by_cases h1 : w / 65536 = 0
    · rw [if_pos h1, if_pos h1, if_pos (by omega)]; omega
    · rw [if_neg h1, if_neg h1, if_pos (by omega)]; omega
/-- The word x is being written at place q of the page l, byte by byte: after j bytes. -/
def inB (x : Int) (l : List Int) (q : Nat) : Nat → List Int
  | 0 => pageB l
  | j + 1 => (inB x l q j).set (4 * q + j) (x / 2 ^ (8 * j) % 256)
theorem inB_four (x : Int) (l : List Int) (q : Nat) (hq : q < l.length) : inB x l q 4 = pageB (l.set q x) := by
  rw [← pageB_set x l q hq]
  simp only [inB]
  unfold b0 b1 b2 b3
  rw [show x / 2 ^ (8 * 0) % 256 = x % 256 by omega, show x / 2 ^ (8 * 1) % 256 = x / 256 % 256 by omega, show x / 2 ^ (8 * 2) % 256 = x / 65536 % 256 by omega, show x / 2 ^ (8 * 3) % 256 = x / 16777216 % 256 by omega]
/-! ### Incompressible -/
def inc (sd low : Int) (i : Nat) : Int := ((i : Int) + 1 + sd) * 65536 + low + i
def incL (sd low : Int) (n : Nat) : List Int := (List.range n).map (inc sd low)
theorem inc_W (sd low : Int) (h0 : 0 ≤ sd) (h1 : sd < 60000) (l0 : 0 ≤ low) (l1 : low < 65536) (i : Nat) (hi : i < 64) : W (inc sd low i) := by
  unfold inc W
  omega
theorem rising_from (sd low : Int) (n : Nat) : ∀ k : Nat, Rising ((k : Int) + sd + (low + k - 1) / 65536) ((List.range n).map fun i => inc sd low (k + i)) := by
  induction n with
  | zero => intro k; simp [Rising]
  | succ n ih =>
    intro k
    rw [List.range_succ_eq_map, List.map_cons, List.map_map]
    refine ⟨?_, ?_⟩
    · unfold inc; simp; omega
    · have h := ih (k + 1)
      have e1 : (((k + 1 : Nat) : Int) + sd + (low + ((k + 1 : Nat) : Int) - 1) / 65536) = inc sd low (k + 0) / 65536 := by
        unfold inc; simp; omega
      rw [e1] at h
      have e2 : ((fun i => inc sd low (k + i)) ∘ Nat.succ) = fun i => inc sd low (k + 1 + i) := by
        funext i
        show inc sd low (k + (i + 1)) = _
        rw [show k + (i + 1) = k + 1 + i by omega]
      rw [e2]
      exact h
theorem rising_zero : ∀ (L : List Int) (u : Int), Rising u L → (∀ w ∈ L, 0 < w / 65536) → Rising 0 L
  | [], _, _, _ => trivial
  | w :: _, _, h, hw => ⟨hw w (by simp), h.2⟩
theorem incomp (sd low : Int) (h0 : 0 ≤ sd) (h1 : sd < 60000) (l0 : 0 ≤ low) (l1 : low < 65536) :
    compS (strOfNums (pageB (incL sd low 64))) = ⟨#[0]⟩ ++ strOfNums (pageB (incL sd low 64)) := by
  have hl : (incL sd low 64).length = 64 := by simp [incL]
  have hws : ws (strOfNums (pageB (incL sd low 64))) 64 = incL sd low 64 := ws_page _ hl (fun x hx => by
    unfold incL at hx
    rw [List.mem_map] at hx
    obtain ⟨i, hi, rfl⟩ := hx
    exact inc_W sd low h0 h1 l0 l1 i (List.mem_range.1 hi))
  have hr := rising_from sd low 64 0
  have e : ((List.range 64).map fun i => inc sd low (0 + i)) = incL sd low 64 := by
    unfold incL
    refine List.map_congr_left fun i _ => ?_
    rw [Nat.zero_add]
  rw [e] at hr
  have ho : (pst (strOfNums (pageB (incL sd low 64))) 64).out.length = 256 := by
    unfold pst
    rw [hws]
    rw [rising_out _ st0 0 (Int.le_refl _) (fun j => by simp [st0]) (rising_zero _ _ hr (fun w hw => by
      unfold incL at hw
      rw [List.mem_map] at hw
      obtain ⟨i, _, rfl⟩ := hw
      unfold inc
      omega))]
    simp [st0, incL]
  unfold compS
  rw [if_pos (page_size _ hl), packS_length, ho, if_neg (by omega)]
end Go.Proofs.Ytdfmjmabdggcjaa.Pz
