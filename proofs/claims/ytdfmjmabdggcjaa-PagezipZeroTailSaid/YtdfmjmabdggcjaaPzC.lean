import Derived.Test.YtdfmjmabdggcjaaPzB
import Derived.Test.YtdfmjmabdggcjaaPzN
namespace Go.Proofs.Ytdfmjmabdggcjaa.Pz
open Go.RowKit Go.Proofs.YtdfmjmabdggcjaaW.PrintWords
set_option linter.unusedVariables false
set_option linter.unusedSimpArgs false

theorem size_calls (t : Int) (h0 : 0 ≤ t) (h1 : t ≤ 3) (w : World) :
    Calls Try.prog 23 #[.int .u8 t] w fun e w' => e = .returned (.int .i64 (sz t)) ∧ Below w.heap.size w w' := by
  rcases (show t = 0 ∨ t = 1 ∨ t = 2 ∨ t = 3 by omega) with rfl | rfl | rfl | rfl
  all_goals
    go_enter Try.func23, Try.ntmps23
    go_wp2_with fail
    go_ret
    exact ⟨rfl, (Below.refl _ _).alloc (Nat.le_refl _) _⟩

/-- What word answers. -/
def wordR (d : Dict) (t : Int) (q : ByteArray) : Ending :=
  match unW d t (bytesOf q) with
  | some x => .returned (.tuple #[.int .u32 x, .bool true])
  | none => .returned (.tuple #[.int .u32 0, .bool false])
theorem word_calls (b : Nat) (d : Dict) (hd : DictOk d) (t : Int) (h0 : 0 ≤ t) (h1 : t ≤ 3) (q : ByteArray) (hq : q.size = sz t) (w : World) (hw : w.heap[b]? = some (.cells (dcells d) 45 (0, 0))) :
    Calls Try.prog 24 #[.pointer (some ⟨b, 0, none⟩), .int .u8 t, .string q] w fun e w' => e = wordR d t q ∧ ∃ n, w' = w.drewN n := by
  rcases (show t = 0 ∨ t = 1 ∨ t = 2 ∨ t = 3 by omega) with rfl | rfl | rfl | rfl
  · go_enter Try.func24, Try.ntmps24
    go_wp2_with fail
    go_ret2
    exact ⟨rfl, 0, rfl⟩
  · have hq' : 1 ≤ q.size := by rw [hq]; decide
    have HQ := Lib.hid hq
    clear hq
    have g0 : ((q[0]'(by omega)).toNat : Int) = bt q 0 := bt_at q 0 (by simp; omega)
    have r0 := bt_range q 0
    have e0 := rdq q 0
    simp only [Int.natCast_zero] at e0
    obtain ⟨x, hx⟩ : ∃ x, x = bt q 0 := ⟨_, rfl⟩
    rw [← hx] at r0 g0 e0
    obtain ⟨r0, r0'⟩ := r0
    by_cases h16 : 16 ≤ x
    · have hfin : wordR d 1 q = .returned (.tuple #[.int .u32 0, .bool false]) := by simp [wordR, unW, e0, h16]
      rw [hfin]
      clear hfin hx e0
      go_enter Try.func24, Try.ntmps24
      go_wp2_with fail
      go_ret2
      exact ⟨rfl, 0, rfl⟩
    · have hfin : wordR d 1 q = .returned (.tuple #[.int .u32 (d x.toNat), .bool true]) := by simp [wordR, unW, e0, h16]
      rw [hfin]
      clear hfin hx e0
      have hc : w.cell? ⟨b, x.toNat, none⟩ = some (.int .u32 (d x.toNat)) := (cellB hw _).trans (dcells_at _ _ (by omega))
      generalize d x.toNat = v at *
      have h16' : x < 16 := by omega
      go_enter Try.func24, Try.ntmps24
      go_wp2_with fail
      go_quiet (fail)
      go_wp2_with fail
      go_ret2
      exact ⟨rfl, nq, rfl⟩
  · have hq' : 3 ≤ q.size := by rw [hq]; decide
    have HQ := Lib.hid hq
    clear hq
    have g0 : ((q[0]'(by omega)).toNat : Int) = bt q 0 := bt_at q 0 (by simp; omega)
    have g1 : ((q[1]'(by omega)).toNat : Int) = bt q 1 := bt_at q 1 (by simp; omega)
    have g2 : ((q[2]'(by omega)).toNat : Int) = bt q 2 := bt_at q 2 (by simp; omega)
    have r0 := bt_range q 0
    have r1 := bt_range q 1
    have r2 := bt_range q 2
    have e0 := rdq q 0
    have e1 := rdq q 1
    have e2 := rdq q 2
    simp only [Int.natCast_zero, Int.natCast_one] at e0 e1
    rw [show ((2 : Nat) : Int) = 2 from rfl] at e2
    obtain ⟨x, hx⟩ : ∃ x, x = bt q 0 := ⟨_, rfl⟩
    obtain ⟨y, hy⟩ : ∃ y, y = bt q 1 := ⟨_, rfl⟩
    obtain ⟨z, hz⟩ : ∃ z, z = bt q 2 := ⟨_, rfl⟩
    rw [← hx] at r0 g0 e0
    rw [← hy] at r1 g1 e1
    rw [← hz] at r2 g2 e2
    by_cases h16 : 16 ≤ x
    · have hfin : wordR d 2 q = .returned (.tuple #[.int .u32 0, .bool false]) := by simp [wordR, unW, e0, h16]
      rw [hfin]
      clear hfin hx e0 hy hz e1 e2
      obtain ⟨r0, r0'⟩ := r0
      go_enter Try.func24, Try.ntmps24
      go_wp2_with fail
      go_ret2
      exact ⟨rfl, 0, rfl⟩
    · have hv := (hd x.toNat (by omega)).1
      have hfin : wordR d 2 q = .returned (.tuple #[.int .u32 (d x.toNat / 65536 * 65536 + y + 256 * z), .bool true]) := by simp [wordR, unW, e0, e1, e2, h16]
      rw [hfin]
      clear hfin hx e0 hy hz e1 e2
      obtain ⟨r0, r0'⟩ := r0
      obtain ⟨r1, r1'⟩ := r1
      obtain ⟨r2, r2'⟩ := r2
      obtain ⟨v0, v1⟩ := hv
      have hc : w.cell? ⟨b, x.toNat, none⟩ = some (.int .u32 (d x.toNat)) := (cellB hw _).trans (dcells_at _ _ (by omega))
      generalize d x.toNat = v at *
      have h16' : x < 16 := by omega
      have hand := u32_and_high v v0 v1
      have hor : bits .or .u32 (bits .or .u32 (v / 65536 * 65536) y) (z * 256) = v / 65536 * 65536 + y + 256 * z := by
        have := high_or v y z v0 v1 ⟨r1, r1'⟩ ⟨r2, r2'⟩
        rwa [show y % 4294967296 = y by omega, show z % 4294967296 * 256 % 4294967296 = z * 256 by omega] at this
      have Hor := Lib.hid hor
      clear hor
      go_enter Try.func24, Try.ntmps24
      go_wp2_with fail
      go_quiet (fail)
      go_wp2_with fail
      go_quiet (fail)
      go_wp2_with fail
      go_ret2
      exact ⟨by rw [← Hor.out]; rfl, _, World.drewN_drewN _ _ _⟩
  · have hq' : 4 ≤ q.size := by rw [hq]; decide
    have HQ := Lib.hid hq
    clear hq
    have e0 := rdq q 0
    have e1 := rdq q 1
    have e2 := rdq q 2
    have e3 := rdq q 3
    have hfin : wordR d 3 q = .returned (.tuple #[.int .u32 (wordQ q), .bool true]) := by
      simp [wordR, unW, e0, e1, e2, e3, wordQ]
    rw [hfin, ← wordQ_or q (by omega) (by omega) (by omega) (by omega)]
    clear hfin e0 e1 e2 e3
    have hq4 : q.size = 4 := HQ.out
    go_enter Try.func24, Try.ntmps24
    go_wp2_with fail
    go_quiet (fail)
    go_wp2_with fail
    go_ret2
    exact ⟨rfl, _, rfl⟩
end Go.Proofs.Ytdfmjmabdggcjaa.Pz
