import Derived.Test.YtdfmjmabdggcjaaPzR
namespace Go.Proofs.Ytdfmjmabdggcjaa.Pz
open Go.RowKit Go.Proofs.YtdfmjmabdggcjaaW.PrintWords
/-! ### ZeroTail: a page that goes on with zeros -/
def cutz (p : ByteArray) (K : Nat) : ByteArray := p.extract 0 (4 * K) ++ strOfNums (List.replicate (256 - 4 * K) 0)
theorem bytesOf_cutz (p : ByteArray) (K : Nat) : bytesOf (cutz p K) = (bytesOf p).take (4 * K) ++ List.replicate (256 - 4 * K) 0 := by
  unfold cutz
  rw [bytesOf_append, bytesOf_extract, List.drop_zero, Nat.sub_zero, bytesOf_str _ (by intro x hx; have := List.eq_of_mem_replicate hx; omega)]
theorem cutz_size (p : ByteArray) (hp : p.size = 256) (K : Nat) (hK : K ≤ 64) : (cutz p K).size = 256 := by
  rw [← bytesOf_length, bytesOf_cutz, List.length_append, List.length_take, List.length_replicate, bytesOf_length]
  omega
theorem bt_cutz (p : ByteArray) (hp : p.size = 256) (K : Nat) (hK : K ≤ 64) (i : Nat) : bt (cutz p K) (i : Int) = if i < 4 * K then bt p (i : Int) else 0 := by
  rw [bt_eq, bytesOf_cutz, List.getD_eq_getElem?_getD, List.getElem?_append, List.length_take, bytesOf_length, Nat.min_eq_left (by omega)]
  by_cases h : i < 4 * K
  · rw [if_pos h, if_pos h, bt_eq, List.getD_eq_getElem?_getD, List.getElem?_take, if_pos h]
  · rw [if_neg h, if_neg h, List.getElem?_replicate]
    split <;> rfl
theorem wordS_eq (s : ByteArray) (k : Nat) : wordS s k = bt s ((4 * k : Nat) : Int) + 256 * bt s ((4 * k + 1 : Nat) : Int) + 65536 * bt s ((4 * k + 2 : Nat) : Int) + 16777216 * bt s ((4 * k + 3 : Nat) : Int) := rfl
theorem cutz_shorter (p : ByteArray) (hp : p.size = 256) (K : Nat) (hK : K ≤ 64) : (compS (cutz p K)).size ≤ (compS p).size := by
  refine zero_tail p (cutz p K) hp (cutz_size p hp K hK) K hK (fun i hi => ?_) (fun i hi h64 => ?_)
  · rw [wordS_eq, wordS_eq, bt_cutz p hp K hK, bt_cutz p hp K hK, bt_cutz p hp K hK, bt_cutz p hp K hK, if_pos (by omega), if_pos (by omega), if_pos (by omega), if_pos (by omega)]
  · rw [wordS_eq, bt_cutz p hp K hK, bt_cutz p hp K hK, bt_cutz p hp K hK, bt_cutz p hp K hK, if_neg (by omega), if_neg (by omega), if_neg (by omega), if_neg (by omega)]
    rfl
end Go.Proofs.Ytdfmjmabdggcjaa.Pz
