import Derived.Test.YtdfmjmabdggcjaaPzM
import Derived.Lib.Strings
namespace Go.Proofs.Ytdfmjmabdggcjaa.Pz
open Go.RowKit Go.Proofs.YtdfmjmabdggcjaaW.PrintWords
set_option linter.unusedSimpArgs false
set_option linter.unusedVariables false
theorem rdq (q : ByteArray) (j : Nat) : (bytesOf q)[j]?.getD 0 = bt q (j : Int) := by
  rw [← List.getD_eq_getElem?_getD]
  have := rd_bytesOf q (j : Int)
  unfold rd at this
  rwa [Int.toNat_natCast] at this
theorem bytesOf_extract (s : ByteArray) (a b : Nat) : bytesOf (s.extract a b) = ((bytesOf s).drop a).take (b - a) := by
  unfold bytesOf
  rw [Lib.extract_data, List.map_take, List.map_drop]
theorem bytesOf_range (s : ByteArray) : ∀ x ∈ bytesOf s, 0 ≤ x ∧ x < 256 := by
  intro x hx
  unfold bytesOf at hx
  rw [List.mem_map] at hx
  obtain ⟨b, _, rfl⟩ := hx
  have := b.toNat_lt
  omega
theorem bytesOf_inj {a b : ByteArray} (h : bytesOf a = bytesOf b) : a = b := by
  unfold bytesOf at h
  have h2 : a.data.toList = b.data.toList := by
    refine List.map_inj_right (f := fun b : UInt8 => (b.toNat : Int)) (fun x y e => ?_) |>.1 h
    have : x.toNat = y.toNat := by omega
    exact UInt8.toNat_inj.1 this
  have h3 : a.data = b.data := Array.toList_inj.1 h2
  cases a; cases b; simp_all
theorem bytesOf_str (xs : List Int) (h : ∀ x ∈ xs, 0 ≤ x ∧ x < 256) : bytesOf (strOfNums xs) = xs := by
  unfold bytesOf
  rw [strOfNums_data, List.map_map]
  conv => rhs; rw [← List.map_id xs]
  refine List.map_congr_left fun x hx => ?_
  have := h x hx
  simp only [Function.comp, id]
  rw [UInt8.toNat_ofNat']
  omega
theorem str_bytesOf (s : ByteArray) : strOfNums (bytesOf s) = s := bytesOf_inj (bytesOf_str _ (bytesOf_range s))
theorem bytesOf_empty : bytesOf ByteArray.empty = [] := rfl
theorem bytesOf_append (a b : ByteArray) : bytesOf (a ++ b) = bytesOf a ++ bytesOf b := by
  unfold bytesOf
  rw [ByteArray.data_append, Array.toList_append, List.map_append]

/-! ### Reading back, word by word -/
theorem unW_W {d : Dict} (hd : DictOk d) {t : Int} {r : List Int} (hr : ∀ x ∈ r, 0 ≤ x ∧ x < 256) {x : Int} (h : unW d t r = some x) : W x := by
  have g : ∀ j, 0 ≤ r.getD j 0 ∧ r.getD j 0 < 256 := by
    intro j
    rw [List.getD_eq_getElem?_getD]
    rcases Nat.lt_or_ge j r.length with h1 | h1
    · rw [List.getElem?_eq_getElem h1]; exact hr _ (List.getElem_mem h1)
    · rw [List.getElem?_eq_none h1]; simp
  have g0 := g 0; have g1 := g 1; have g2 := g 2; have g3 := g 3
  unfold unW at h
  unfold W
  split at h
  · injection h with h; omega
  · split at h
    · injection h with h; omega
    · split at h
      · cases h
      · have hv := (hd (r.getD 0 0).toNat (by omega)).1
        unfold W at hv
        split at h
        · injection h with h; omega
        · injection h with h; omega
def tagAt (s : ByteArray) (i : Nat) : Int := bt s ((1 + i / 4 : Nat) : Int) / 4 ^ (i % 4) % 4
def tagsS (s : ByteArray) : List Int := (List.range 64).map (tagAt s)
theorem tagAt_range (s : ByteArray) (i : Nat) : 0 ≤ tagAt s i ∧ tagAt s i ≤ 3 := by
  unfold tagAt
  omega
theorem tags_drop (s : ByteArray) (k : Nat) (hk : k < 64) : (tagsS s).drop k = tagAt s k :: (tagsS s).drop (k + 1) := by
  rw [List.drop_eq_getElem_cons (by simp [tagsS]; exact hk)]
  simp [tagsS]
def restS (s : ByteArray) : List Int := (bytesOf s).drop 17
def unS (s : ByteArray) : Option (List Int × List Int) := un st0.d (tagsS s) (restS s)
def cont (wl : List Int) (o : Option (List Int × List Int)) : Option (List Int × List Int) := o.map fun p => (wl ++ p.1, p.2)
def pageB (wl : List Int) : List Int := wl.flatMap fun w => [b0 w, b1 w, b2 w, b3 w]
theorem pageB_snoc (wl : List Int) (w : Int) : pageB (wl ++ [w]) = pageB wl ++ [b0 w, b1 w, b2 w, b3 w] := by simp [pageB]
theorem pageB_length (wl : List Int) : (pageB wl).length = 4 * wl.length := by
  induction wl with
  | nil => rfl
  | cons w ws ih =>
    rw [show pageB (w :: ws) = [b0 w, b1 w, b2 w, b3 w] ++ pageB ws by simp [pageB], List.length_append, ih]
    simp; omega
/-- What unpack answers. -/
def unpackR (s : ByteArray) : Ending :=
  match unS s with
  | none => .returned (.tuple #[.string ByteArray.empty, .bool false])
  | some (ws, r) => .returned (.tuple #[.string (strOfNums (pageB ws)), .bool r.isEmpty])
/-- What the loop of unpack holds after k rounds, but for memory. -/
structure UnRel (s : ByteArray) (k : Nat) (d : Dict) (wl : List Int) (r : ByteArray) : Prop where
  dict : DictOk d
  len : wl.length = k
  words : ∀ w ∈ wl, W w
  eq : unS s = cont wl (un d ((tagsS s).drop k) (bytesOf r))
theorem unRel_zero (s : ByteArray) (r : ByteArray) (hr : bytesOf r = restS s) : UnRel s 0 st0.d [] r := by
  refine ⟨good_zero.dict, rfl, by simp, ?_⟩
  rw [List.drop_zero, hr]
  simp [cont, unS]
theorem unRel_short {s : ByteArray} {k : Nat} {d : Dict} {wl : List Int} {r : ByteArray} (h : UnRel s k d wl r) (hk : k < 64) (hs : r.size < sz (tagAt s k)) : unS s = none := by
  rw [h.eq, tags_drop s k hk, un, if_pos (by rw [bytesOf_length]; exact hs)]
  rfl
theorem unRel_bad {s : ByteArray} {k : Nat} {d : Dict} {wl : List Int} {r : ByteArray} (h : UnRel s k d wl r) (hk : k < 64) (hs : ¬ r.size < sz (tagAt s k)) (hu : unW d (tagAt s k) ((bytesOf r).take (sz (tagAt s k))) = none) : unS s = none := by
  rw [h.eq, tags_drop s k hk, un, if_neg (by rw [bytesOf_length]; exact hs), hu]
  rfl
theorem unRel_next {s : ByteArray} {k : Nat} {d : Dict} {wl : List Int} {r r' : ByteArray} (h : UnRel s k d wl r) (hk : k < 64) (hs : ¬ r.size < sz (tagAt s k)) {x : Int} (hu : unW d (tagAt s k) ((bytesOf r).take (sz (tagAt s k))) = some x)
    (hr : bytesOf r' = (bytesOf r).drop (sz (tagAt s k))) : UnRel s (k + 1) (recF d x) (wl ++ [x]) r' ∧ W x := by
  have hW : W x := unW_W h.dict (fun y hy => bytesOf_range r y (List.mem_of_mem_take hy)) hu
  refine ⟨⟨recF_ok h.dict hW, by simp [h.len], ?_, ?_⟩, hW⟩
  · intro w hw
    rw [List.mem_append, List.mem_singleton] at hw
    rcases hw with hw | rfl
    · exact h.words w hw
    · exact hW
  · rw [h.eq, tags_drop s k hk, un, if_neg (by rw [bytesOf_length]; exact hs), hu, hr]
    simp only
    cases un (recF d x) ((tagsS s).drop (k + 1)) ((bytesOf r).drop (sz (tagAt s k))) with
    | none => rfl
    | some p => simp [cont]
theorem unRel_end {s : ByteArray} {d : Dict} {wl : List Int} {r : ByteArray} (h : UnRel s 64 d wl r) : unS s = some (wl, bytesOf r) := by
  rw [h.eq, List.drop_eq_nil_of_le (by simp [tagsS])]
  simp [un, cont]
theorem bt_tag (s : ByteArray) (hs : 17 ≤ s.size) (k : Nat) (hk : k < 64) : bt (s.extract 1 17) ((k / 4 : Nat) : Int) = bt s ((1 + k / 4 : Nat) : Int) := bt_extract s 1 17 (k / 4) hs (by omega)
theorem tag_of (s : ByteArray) (k : Nat) : bits .and .u8 (bt s ((1 + k / 4 : Nat) : Int) / 2 ^ (2 * (k % 4))) 3 = tagAt s k := by
  have r := bt_range s ((1 + k / 4 : Nat) : Int)
  rw [tag_bits _ _ (by omega) r.1 r.2]
  rfl
end Go.Proofs.Ytdfmjmabdggcjaa.Pz
