/-
  Words and laws: what stays but for some blocks (Keeps); slices that are read (Sl, Bytes); bits of disjoint numbers; over whatever program.
  Printed by a program of this repository (wip/mem2.py).
-/
import Derived.Test.YtkbopcgijaejjaaDoorMem
import Derived.OpenShut
import Derived.Deep.QuietTactic
namespace Go.Proofs.YtkbopcgijaejjaaDoor
open Go.RowKit

/-- But for the blocks S, what was there is as it was; the streams are as they were; no block has gone. -/
structure Keeps (w w' : World) (S : Nat → Prop) : Prop where
  os : w'.os = w.os
  tape : w'.tape = w.tape
  output : w'.output = w.output
  size : w.heap.size ≤ w'.heap.size
  block : ∀ k, k < w.heap.size → ¬ S k → w'.heap[k]? = w.heap[k]?
section
variable {w w1 w2 w' : World} {S S1 S2 : Nat → Prop}
theorem Keeps.refl (w : World) (S : Nat → Prop) : Keeps w w S := ⟨rfl, rfl, rfl, Nat.le_refl _, fun _ _ _ => rfl⟩
/-- Two steps: what the second one may write is the first's to write, or new. -/
theorem Keeps.trans (h : Keeps w w1 S) (k : Keeps w1 w2 S2) (hs : ∀ b, b < w.heap.size → S2 b → S b) : Keeps w w2 S :=
  ⟨k.os.trans h.os, k.tape.trans h.tape, k.output.trans h.output, Nat.le_trans h.size k.size, fun i hi hn => (k.block i (Nat.lt_of_lt_of_le hi h.size) (fun h2 => hn (hs i hi h2))).trans (h.block i hi hn)⟩
theorem Keeps.mono (h : Keeps w w1 S) (hs : ∀ b, b < w.heap.size → S b → S2 b) : Keeps w w1 S2 := ⟨h.os, h.tape, h.output, h.size, fun i hi hn => h.block i hi fun h1 => hn (hs i hi h1)⟩
theorem Keeps.of_below {B : Nat} (h : Below B w w1) (hs : ∀ b, B ≤ b → b < w.heap.size → S b) : Keeps w w1 S :=
  ⟨h.os, h.tape, h.output, h.size, fun i hi hn => h.block i (Nat.lt_of_not_le fun hB => hn (hs i hB hi))⟩
theorem Keeps.of_grown {row : Option Nat} (h : w.grownBy w1 row) (hs : ∀ b, row = some b → S b) : Keeps w w1 S :=
  ⟨h.os, h.tape, h.output, h.size, fun i hi hn => h.block i hi fun e => hn (hs i e.symm)⟩
theorem Keeps.drewN (w : World) (n : Nat) (S : Nat → Prop) : Keeps w (w.drewN n) S := ⟨rfl, rfl, rfl, Nat.le_refl _, fun _ _ _ => rfl⟩
theorem Keeps.drew (w : World) (S : Nat → Prop) : Keeps w w.drew S := ⟨rfl, rfl, rfl, Nat.le_refl _, fun _ _ _ => rfl⟩
theorem Keeps.alloc (w : World) (o : Obj) (S : Nat → Prop) : Keeps w (w.alloc o) S := ⟨rfl, rfl, rfl, by simp, fun i hi _ => Below.heap_alloc _ _ _ hi⟩
theorem Keeps.setCell (w : World) (a : Addr) (u : Value) (hs : S a.block) : Keeps w (w.setCell a u) S :=
  ⟨rfl, rfl, rfl, by simp, fun i _ hn => Below.heap_setCell _ _ _ _ (fun e => hn (e ▸ hs))⟩
theorem Keeps.below {B : Nat} (h : Keeps w w1 S) (hB : B ≤ w.heap.size) (hs : ∀ b, S b → B ≤ b) : Below B w w1 :=
  ⟨h.os, h.tape, h.output, h.size, fun k hk => h.block k (by omega) fun h1 => by have := hs k h1; omega⟩
theorem Keeps.cell (h : Keeps w w1 S) {a : Addr} (hlt : a.block < w.heap.size) (hn : ¬ S a.block) : w1.cell? a = w.cell? a := World.cell?_of_block (h.block _ hlt hn)
theorem Keeps.frozen (h : Keeps w w1 S) {a : Addr} (hlt : a.block < w.heap.size) (hn : ¬ S a.block) : w1.frozen? a = w.frozen? a := World.frozen?_of_block (h.block _ hlt hn)
end

/-- A slice value that is read: its cells. (An empty one may stand at whatever address.) -/
def Sl (w : World) (size : Nat) (v : Value) (n : Nat) (cs : List Value) : Prop :=
  cs.length = n * size ∧ ((∃ a c, v = .slice a n c ∧ n = 0 ∧ c ≤ maxLen ∧ (a = none → c = 0)) ∨ ∃ (b o c : Nat), v = .slice (some ⟨b, o, none⟩) n c ∧ n ≤ c ∧ c ≤ maxLen ∧ b < w.heap.size ∧ ∀ j u, cs[j]? = some u → w.cell? ⟨b, o + j, none⟩ = some u)
section
variable {w w' : World} {size n : Nat} {v : Value} {cs : List Value}
theorem Sl.same (h : Sl w size v n cs) (hz : w.heap.size ≤ w'.heap.size) (hs : ∀ k, k < w.heap.size → v.ownBlock = some k → w'.heap[k]? = w.heap[k]?) : Sl w' size v n cs := by
  refine ⟨h.1, ?_⟩
  rcases h.2 with h0 | ⟨b, o, c, rfl, h1, h2, h3, h4⟩
  · exact .inl h0
  · exact .inr ⟨b, o, c, rfl, h1, h2, by omega, fun j u hj => (World.cell?_of_block (hs b h3 rfl)).trans (h4 j u hj)⟩
theorem Sl.keeps {S : Nat → Prop} (h : Sl w size v n cs) (hk : Keeps w w' S) (hs : ∀ k, k < w.heap.size → v.ownBlock = some k → ¬ S k) : Sl w' size v n cs :=
  h.same hk.size fun k hlt hv => hk.block k hlt (hs k hlt hv)
theorem Sl.alloc (h : Sl w size v n cs) (ob : Obj) : Sl (w.alloc ob) size v n cs := h.same (by simp) fun _ hlt _ => Below.heap_alloc _ _ _ hlt
theorem Sl.below (h : Sl w size v n cs) (hb : Below w.heap.size w w') : Sl w' size v n cs := h.same hb.size fun k hlt _ => hb.block k hlt
theorem Sl.ofMid {base : Nat} {e : TypeId} {xs : List Value} (h : Mid w base e size v n xs) : Sl w size v n xs := by
  refine ⟨h.1, ?_⟩
  rcases h.form with ⟨rfl, rfl, _⟩ | ⟨g, o, cap, rfl, hb, hlt, hn, hm⟩
  · exact .inl ⟨none, 0, rfl, rfl, Nat.zero_le _, fun _ => rfl⟩
  · exact .inr ⟨g, o, cap, rfl, hn, hm, hlt, h.cell⟩
/-- What append asks of what it appends. -/
theorem Sl.src {P : Program} {tx e' : TypeId} (hk : P.underlying tx = some (.slice e')) (h : Sl w size v n cs) (h1 : ∀ u ∈ cs, u.oneCell' = true) : Src P size tx v n cs w := by
  rcases h.2 with ⟨a, c, rfl, rfl, _, h0⟩ | ⟨b, o, c, rfl, _, _, _, h4⟩
  · have : cs = [] := List.eq_nil_of_length_eq_zero (by simpa using h.1)
    subst this
    cases a with
    | none => rw [h0 rfl]; exact Src.ofNil w hk 0
    | some a => exact Src.ofSlice w hk a 0 c [] (by simp) (fun j u hj => by simp at hj) (fun u hu => by cases hu)
  · exact Src.ofSlice w hk ⟨b, o, none⟩ n c cs h.1 (fun j u hj => by rw [Addr.add_lit]; exact h4 j u hj) h1
theorem Sl.len (h : Sl w size v n cs) : ∃ a c, v = .slice a n c ∧ n ≤ c ∧ c ≤ maxLen ∧ (a = none → c = 0) := by
  rcases h.2 with ⟨a, c, rfl, rfl, h1, h0⟩ | ⟨b, o, c, rfl, h1, h2, _⟩
  · exact ⟨a, c, rfl, Nat.zero_le _, h1, h0⟩
  · exact ⟨_, c, rfl, h1, h2, fun h => by cases h⟩
/-- One that is not empty stands at a plain address. -/
theorem Sl.plain (h : Sl w size v n cs) (hn : 0 < n) : ∃ (b o c : Nat), v = .slice (some ⟨b, o, none⟩) n c ∧ n ≤ c ∧ c ≤ maxLen ∧ b < w.heap.size ∧ ∀ j u, cs[j]? = some u → w.cell? ⟨b, o + j, none⟩ = some u := by
  rcases h.2 with ⟨a, c, rfl, h0, _⟩ | h1
  · omega
  · exact h1
end

/-- A byte's cell. -/
abbrev B8 (x : Int) : Value := .int .u8 x
/-- A slice value that reads as these bytes. -/
def Bytes (w : World) (v : Value) (xs : List Int) : Prop := Sl w 1 v xs.length (xs.map B8)
theorem one_B8 (xs : List Int) : ∀ u ∈ xs.map B8, u.oneCell' = true := fun u hu => by
  obtain ⟨_, _, rfl⟩ := List.mem_map.1 hu; rfl
theorem Bytes.plain {w : World} {v : Value} {xs : List Int} (h : Bytes w v xs) (hn : 0 < xs.length) :
    ∃ b o c, v = .slice (some ⟨b, o, none⟩) xs.length c ∧ xs.length ≤ c ∧ c ≤ maxLen ∧ b < w.heap.size ∧ ∀ j x, xs[j]? = some x → w.cell? ⟨b, o + j, none⟩ = some (.int .u8 x) := by
  obtain ⟨b, o, c, h0, h1, h2, h3, h4⟩ := Sl.plain h hn
  exact ⟨b, o, c, h0, h1, h2, h3, fun j x hj => h4 j _ (by rw [List.getElem?_map, hj]; rfl)⟩

theorem i64_or_nat (a b : Nat) (ha : a < 9223372036854775808) (hb : b < 9223372036854775808) : bits .or .i64 (a : Int) (b : Int) = ((a ||| b : Nat) : Int) := by
  have hx : a ||| b < 2 ^ 63 := Nat.or_lt_two_pow (by omega) (by omega)
  show IntKind.i64.wrap ((BitVec.ofInt 64 (a : Int) ||| BitVec.ofInt 64 (b : Int)).toNat : Int) = _
  rw [BitVec.toNat_or, ofInt_u64 a (by omega), ofInt_u64 b (by omega), IntKind.wrap_i64]
  omega
/-- The bits of a multiple of 2 to the k, and of what is below that, together. -/
theorem i64_or_low (k A B : Nat) (hA : A * 2 ^ k < 9223372036854775808) (hB : B < 2 ^ k) (h63 : B < 9223372036854775808) : bits .or .i64 ((A * 2 ^ k : Nat) : Int) (B : Int) = ((A * 2 ^ k + B : Nat) : Int) := by
  rw [i64_or_nat _ _ hA h63]
  have h := Nat.two_pow_add_eq_or_of_lt hB A
  rw [Nat.mul_comm] at h
  rw [h]
/-- Four bytes, the highest first. -/
theorem be32_bits (b0 b1 b2 b3 : Int) (l0 : 0 ≤ b0) (u0 : b0 ≤ 255) (l1 : 0 ≤ b1) (u1 : b1 ≤ 255) (l2 : 0 ≤ b2) (u2 : b2 ≤ 255) (l3 : 0 ≤ b3) (u3 : b3 ≤ 255) :
    bits .or .i64 (bits .or .i64 (bits .or .i64 (b0 * 16777216) (b1 * 65536)) (b2 * 256)) b3 = b0 * 16777216 + b1 * 65536 + b2 * 256 + b3 := by
  obtain ⟨n0, rfl⟩ := Int.eq_ofNat_of_zero_le l0
  obtain ⟨n1, rfl⟩ := Int.eq_ofNat_of_zero_le l1
  obtain ⟨n2, rfl⟩ := Int.eq_ofNat_of_zero_le l2
  obtain ⟨n3, rfl⟩ := Int.eq_ofNat_of_zero_le l3
  have h1 := i64_or_low 24 n0 (n1 * 65536) (by omega) (by omega) (by omega)
  have h2 := i64_or_low 16 (n0 * 256 + n1) (n2 * 256) (by omega) (by omega) (by omega)
  have h3 := i64_or_low 8 (n0 * 65536 + n1 * 256 + n2) n3 (by omega) (by omega) (by omega)
  simp only [show (2 : Nat) ^ 24 = 16777216 from by decide, show (2 : Nat) ^ 16 = 65536 from by decide, show (2 : Nat) ^ 8 = 256 from by decide] at h1 h2 h3
  have e0 : (n0 : Int) * 16777216 = ((n0 * 16777216 : Nat) : Int) := by omega
  have e1 : (n1 : Int) * 65536 = ((n1 * 65536 : Nat) : Int) := by omega
  have e2 : (n2 : Int) * 256 = ((n2 * 256 : Nat) : Int) := by omega
  rw [e0, e1, e2, h1, show n0 * 16777216 + n1 * 65536 = (n0 * 256 + n1) * 65536 from by omega, h2, show (n0 * 256 + n1) * 65536 + n2 * 256 = (n0 * 65536 + n1 * 256 + n2) * 256 from by omega, h3]
  omega
end Go.Proofs.YtkbopcgijaejjaaDoor
