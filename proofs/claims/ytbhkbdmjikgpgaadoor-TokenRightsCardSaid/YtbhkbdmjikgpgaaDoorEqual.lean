/-
  token.Equal by contract: whether two texts are the same, and how long the first one is; the condition: both lengths are such as a text's can be.
  Printed by a program of this repository (wip/tok1.py).
-/
import Derived.Test.YtbhkbdmjikgpgaaDoorChecked
import Derived.Test.YtbhkbdmjikgpgaaDoorMem2
import Derived.Laws.BitsAllLaws
import Derived.LoopTactic
import Derived.Lib.Hide
namespace Go.Proofs.YtbhkbdmjikgpgaaDoor
open Go.RowKit

theorem i64_xor_nat (a b : Nat) (ha : a < 9223372036854775808) (hb : b < 9223372036854775808) : bits .xor .i64 (a : Int) (b : Int) = ((a ^^^ b : Nat) : Int) := by
  have hx : a ^^^ b < 2 ^ 63 := Nat.xor_lt_two_pow (by omega) (by omega)
  show IntKind.i64.wrap ((BitVec.ofInt 64 (a : Int) ^^^ BitVec.ofInt 64 (b : Int)).toNat : Int) = _
  rw [BitVec.toNat_xor, ofInt_u64 a (by omega), ofInt_u64 b (by omega), IntKind.wrap_i64]
  omega
/-- The byte at a place, 0 outside. -/
def byteAt (b : ByteArray) (k : Nat) : UInt8 := b.data.toList.getD k 0
theorem byteAt_in (b : ByteArray) (k : Nat) (h : k < b.size) : byteAt b k = b[k] := by
  unfold byteAt
  rw [List.getD_eq_getElem?_getD, Array.getElem?_toList, Array.getElem?_eq_getElem (by simpa using h)]
  rfl
theorem byteAt_out (b : ByteArray) (k : Nat) (h : b.size ≤ k) : byteAt b k = 0 := by
  unfold byteAt
  rw [List.getD_eq_getElem?_getD, Array.getElem?_toList, Array.getElem?_eq_none (by simpa using h)]
  rfl
/-- What has been seen of both so far is the same. -/
def Alike (a b : ByteArray) (k : Nat) : Prop := a.size = b.size ∧ ∀ j, j < k → byteAt a j = byteAt b j
theorem alike_all (a b : ByteArray) : Alike a b a.size ↔ a = b := by
  constructor
  · rintro ⟨h1, h2⟩
    refine ByteArray.ext (Array.ext (by simpa using h1) fun i hi1 hi2 => ?_)
    have := h2 i (by simpa using hi1)
    rw [byteAt_in a i (by simpa using hi1), byteAt_in b i (by simpa using hi2)] at this
    exact this
  · rintro rfl; exact ⟨rfl, fun _ _ => rfl⟩
theorem xor_zero_iff (a b : Nat) : a ^^^ b = 0 ↔ a = b := by
  constructor
  · intro h
    refine Nat.eq_of_testBit_eq fun i => ?_
    have := congrArg (fun x => x.testBit i) h
    simp only [Nat.testBit_xor, Nat.zero_testBit] at this
    cases h1 : a.testBit i <;> cases h2 : b.testBit i <;> simp_all
  · rintro rfl; exact Nat.xor_self a
theorem or_zero_iff (a b : Nat) : a ||| b = 0 ↔ a = 0 ∧ b = 0 := by
  constructor
  · intro h
    refine ⟨Nat.eq_of_testBit_eq fun i => ?_, Nat.eq_of_testBit_eq fun i => ?_⟩ <;>
    · have := congrArg (fun x => x.testBit i) h
      simp only [Nat.testBit_or, Nat.zero_testBit] at this
      cases h1 : a.testBit i <;> cases h2 : b.testBit i <;> simp_all
  · rintro ⟨rfl, rfl⟩; rfl
theorem alike_next {a b : ByteArray} {k d : Nat} (h : d = 0 ↔ Alike a b k) : (d ||| ((byteAt a k).toNat ^^^ (byteAt b k).toNat)) = 0 ↔ Alike a b (k + 1) := by
  rw [or_zero_iff, xor_zero_iff, h]
  unfold Alike
  constructor
  · rintro ⟨⟨h1, h2⟩, h3⟩
    refine ⟨h1, fun j hj => ?_⟩
    rcases Nat.lt_succ_iff_lt_or_eq.1 hj with h | rfl
    · exact h2 j h
    · exact UInt8.toNat_inj.1 h3
  · rintro ⟨h1, h2⟩
    exact ⟨⟨h1, fun j hj => h2 j (by omega)⟩, congrArg _ (h2 k (by omega))⟩

set_option maxHeartbeats 1000000 in
theorem equal_any (a b : ByteArray) (w : World) (ha : a.size ≤ maxLen) (hb : b.size ≤ maxLen) :
    Calls Tryd.prog 9 #[.string a, .string b] w fun e w' => e = .returned (.tuple #[.bool (decide (a = b)), .int .i64 a.size]) ∧ w = w' := by
  unfold maxLen at ha hb
  have h0 : bits .xor .i64 (a.size : Int) (b.size : Int) = ((a.size ^^^ b.size : Nat) : Int) := i64_xor_nat _ _ (by omega) (by omega)
  have hd0 : a.size ^^^ b.size < 9223372036854775808 := Nat.xor_lt_two_pow (n := 63) (by omega) (by omega)
  go_enter Tryd.func9, Tryd.ntmps9
  go_wp2
  clear h0
  go_loop [6, 7, 17] (fun d n i => ∃ k q : Nat, k ≤ a.size ∧ i = .int .i64 k ∧ n = .int .i64 k ∧ d = .int .i64 q ∧ q < 9223372036854775808 ∧ (q = 0 ↔ Alike a b k)) (fun _ _ i => a.size - (intOf i).toNat)
  case atStart => exact ⟨0, _, Nat.zero_le _, rfl, rfl, rfl, hd0, by rw [xor_zero_iff]; exact ⟨fun h => ⟨h, fun j hj => by omega⟩, fun h => h.1⟩⟩
  case round =>
    obtain ⟨k, q, hk, rfl, rfl, rfl, hq, hal⟩ := hrel
    clear hd0
    by_cases hlt : k < a.size
    · have hn := Lib.hid (alike_next hal)
      have hx8 : (byteAt a k).toNat ^^^ (byteAt b k).toNat < 256 := Nat.xor_lt_two_pow (n := 8) (byteAt a k).toNat_lt (byteAt b k).toNat_lt
      have hor := i64_or_nat q ((byteAt a k).toNat ^^^ (byteAt b k).toNat) hq (by omega)
      have hol : (q ||| ((byteAt a k).toNat ^^^ (byteAt b k).toNat)) < 9223372036854775808 := Nat.or_lt_two_pow (n := 63) hq (by omega)
      have hxo := u8_xor_nat (byteAt a k).toNat (byteAt b k).toNat (byteAt a k).toNat_lt (byteAt b k).toNat_lt
      have e1 := byteAt_in a k hlt
      have HAL := Lib.hid hal
      clear hal
      by_cases hlb : k < b.size
      · have e2 := byteAt_in b k hlb
        rw [e1, e2] at hxo hx8 hor hol
        rw [e1, e2] at hn
        clear e1 e2
        generalize hX : a[k].toNat ^^^ b[k].toNat = X at *
        clear hX
        generalize hO : (q ||| X) = O at *
        clear hO
        go_wp2
        go_round
        case rel => exact ⟨k + 1, O, by omega, by go_num, by go_num, rfl, hol, hn.out⟩
        case measure => simp [intOf]; omega
      · have e2 := byteAt_out b k (by omega)
        rw [e1, e2] at hxo hx8 hor hol
        rw [e1, e2] at hn
        clear e1 e2
        simp only [show (0 : UInt8).toNat = 0 from rfl, Int.natCast_zero] at hxo hx8 hor hol hn
        generalize hX : a[k].toNat ^^^ 0 = X at *
        clear hX
        generalize hO : (q ||| X) = O at *
        clear hO
        go_wp2
        go_round
        case rel => exact ⟨k + 1, O, by omega, by go_num, by go_num, rfl, hol, hn.out⟩
        case measure => simp [intOf]; omega
    · obtain rfl : k = a.size := by omega
      rw [alike_all] at hal
      by_cases hz : q = 0
      · have he : decide (a = b) = true := decide_eq_true (hal.1 hz)
        have HE := Lib.hid he
        clear he hal
        subst hz
        go_wp2
        go_ret2
        exact ⟨by rw [HE.out]; rfl, rfl⟩
      · have he : decide (a = b) = false := decide_eq_false fun h => hz (hal.2 h)
        have HE := Lib.hid he
        have hz2 : ((q : Int) == 0) = false := beq_eq_false_iff_ne.2 (by omega)
        clear he hal hz
        go_wp2
        go_ret2
        exact ⟨congrArg (fun x => Ending.returned (.tuple #[.bool x, .int .i64 a.size])) HE.out.symm, rfl⟩
end Go.Proofs.YtbhkbdmjikgpgaaDoor
