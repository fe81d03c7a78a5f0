import Derived.Test.YtdfmjmabdggcjaaProg
import Derived.Test.YtdfmjmabdggcjaaWWords
import Derived.StillTailTactics
import Derived.Deep.DeepFit
import Derived.Outline
namespace Go.Proofs.Ytdfmjmabdggcjaa.Pz
open Go.RowKit Go.Proofs.YtdfmjmabdggcjaaW.PrintWords
set_option linter.unusedVariables false
set_option linter.unusedSimpArgs false


theorem quiet_same {P : Program} {f : FuncId} {args : Array Value} {w : World} {n : Nat} {v : Value}
    (h : Calls P f args (w.drewN n) fun e w' => e = .returned v ∧ w.drewN n = w') : Calls P f args (w.drewN n) fun e w'' => e = .returned v ∧ ∃ m, w'' = w.drewN m :=
  h.mono fun _ _ ⟨he, hm⟩ => ⟨he, n, hm.symm⟩
set_option maxHeartbeats 400000 in
theorem slot_calls (x : Int) (h0 : 0 ≤ x) (h1 : x < 4294967296) (w : World) :
    Calls Try.prog 21 #[.int .u32 x] w fun e w' => e = .returned (.int .i64 (x / 65536 % 16)) ∧ w = w' := by
  go_enter Try.func21, Try.ntmps21
  go_wp2
  go_ret
  exact ⟨rfl, rfl⟩


def tagV (x d : Int) : Int := if x = 0 then 0 else if x = d then 1 else if x / 65536 = d / 65536 then 2 else 3
set_option maxHeartbeats 400000 in
theorem tag_calls (b : Nat) (x d : Int) (h0 : 0 ≤ x) (h1 : x < 4294967296) (k0 : 0 ≤ d) (k1 : d < 4294967296) (w : World)
    (hc : w.cell? ⟨b, (x / 65536 % 16).toNat, none⟩ = some (.int .u32 d)) :
    Calls Try.prog 20 #[.pointer (some ⟨b, 0, none⟩), .int .u32 x] w fun e w' => e = .returned (.int .u8 (tagV x d)) ∧ ∃ n, w' = w.drewN n := by
  go_enter Try.func20, Try.ntmps20
  go_wp2_with fail
  go_quiet ((go_at_call 21; exact quiet_same (slot_calls _ (by omega) (by omega) _)))
  go_wp2_with fail
  all_goals (go_ret; exact ⟨by simp_all [tagV], _, rfl⟩)

set_option maxHeartbeats 400000 in
theorem record_no (b : Nat) (w : World) :
    Calls Try.prog 22 #[.pointer (some ⟨b, 0, none⟩), .int .u32 0] w fun e w' => e = .returned (.tuple #[]) ∧ w = w' := by
  go_enter Try.func22, Try.ntmps22
  go_wp2
  go_end0
  exact ⟨rfl, rfl⟩

set_option maxHeartbeats 400000 in
theorem record_yes (b : Nat) (x : Int) (d : Value) (h0 : 0 ≤ x) (h1 : x < 4294967296) (hx : (x == 0) = false) (w : World)
    (hc : w.cell? ⟨b, (x / 65536 % 16).toNat, none⟩ = some d) (hf : w.frozen? ⟨b, (x / 65536 % 16).toNat, none⟩ = false) :
    Calls Try.prog 22 #[.pointer (some ⟨b, 0, none⟩), .int .u32 x] w fun e w' => e = .returned (.tuple #[]) ∧ w' = (w.setCell ⟨b, (x / 65536 % 16).toNat, none⟩ (.int .u32 x)).drew := by
  go_enter Try.func22, Try.ntmps22
  go_wp2_with fail
  go_region_with ((go_at_call 21; refine (slot_calls _ (by omega) (by omega) _).mono ?_; rintro e w' ⟨rfl, rfl⟩))
  all_goals (go_wp2; go_end0; exact ⟨rfl, rfl⟩)
end Go.Proofs.Ytdfmjmabdggcjaa.Pz
