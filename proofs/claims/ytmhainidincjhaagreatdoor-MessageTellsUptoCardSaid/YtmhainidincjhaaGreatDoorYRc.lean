/-
 What the laws stand on, part Rc: contracts and plain laws of FEnc, FQText, LTold, LTells, LTells2; the conditions are each law's own.
-/
import Derived.Test.YtmhainidincjhaaGreatDoorYRb
import Derived.Test.YtmhainidincjhaaGreatDoorYL
import Derived.Test.YtmhainidincjhaaGreatDoorYX
set_option linter.unusedVariables false
set_option linter.unusedSimpArgs false
set_option maxRecDepth 100000
set_option maxHeartbeats 16000000
namespace Go.Proofs.YtmhainidincjhaaGreatDoor
open Go.RowKit Go.Extern.Stop Go.Stop Go.Extern
theorem BytesN.srcM {W : World} {a : Option Addr} {n c : Nat} {l : List Nat} {P : Program} (h : BytesN W (.slice a n c) l) (hu : P.underlying 32 = some (.slice 5)) (hn : n = l.length) : Src P 1 32 (.slice a n c) n (l.map BN) W := by
 subst hn
 exact Sl.src (P := P) hu h (one_BN l)
theorem f9one (a : Option Addr) (n c x : Nat) (w : World) (h : RD w a n c x) : Calls Tryz.prog 81 #[.slice a n c] w fun e w' => e = .returned (.bool (decide (x = 1))) ∧ w' = w := by
 have hl := h.len
 rcases Nat.lt_or_ge 1 n with h1 | h1
 ·
  have hx : x ≠ 1 := fun e => by have := h.1; rw [e, nd_one] at this; omega
  have e0 : ((n : Int) == 1) = false := beq_eq_false_iff_ne.2 (by omega)
  rw [decide_eq_false hx]
  clear h hx
  go_enter Tryz.func81, Tryz.ntmps81
  go_wp2_with fail
  go_ret
  exact ⟨rfl, rfl⟩
 ·
  rcases Nat.eq_zero_or_pos n with h0 | h0
  ·
   subst h0
   have hx : x ≠ 1 := fun e => by have := h.1; rw [e, nd_one] at this; omega
   rw [decide_eq_false hx]
   clear h hx
   go_enter Tryz.func81, Tryz.ntmps81
   go_wp2_with fail
   go_ret
   exact ⟨rfl, rfl⟩
  ·
   obtain rfl : n = 1 := by omega
   obtain ⟨b, o, rfl, hb, hc⟩ := h.2.get 0 (by omega)
   have hx : x < 65536 := by have := lt_nd x; rw [← h.1] at this; simpa using this
   rw [Nat.pow_zero, Nat.div_one, Nat.mod_eq_of_lt hx, Nat.add_zero] at hc
   clear h
   by_cases h1 : x = 1
   ·
    subst h1
    go_enter Tryz.func81, Tryz.ntmps81
    go_wp2_with fail
    go_ret
    exact ⟨rfl, rfl⟩
   ·
    have e0 : ((x : Int) == 1) = false := beq_eq_false_iff_ne.2 (by omega)
    rw [decide_eq_false h1]
    go_enter Tryz.func81, Tryz.ntmps81
    go_wp2_with fail
    go_ret
    exact ⟨rfl, rfl⟩
theorem f9part_big (a : Option Addr) (n c x : Nat) (w : World) (h : RD w a n c x) (hn : n ≤ 4294967296) (hk : 255 < ndig 256 x) : Calls Tryz.prog 82 #[.slice a n c] w
  fun e w' => e = .returned (.tuple #[.slice none 0 0, .int .i64 (ndig 256 x : Nat), .bool false]) ∧ Below w.heap.size w w' := by
 have HBY := Lib.hid (f2bytes a n c x w h hn)
 obtain ⟨K, hK⟩ : ∃ K, ndig 256 x = K := ⟨_, rfl⟩
 rw [hK] at hk HBY ⊢
 clear h hK
 go_enter Tryz.func82, Tryz.ntmps82
 go_wp2_with fail
 refine HBY.out.mono ?_
 rintro e w1 ⟨a1, c1, rfl, hm, hb⟩
 have hcl : K ≤ c1 ∧ c1 ≤ 9223372036854775807 := by
  obtain ⟨a', c', e, h1, h2, h3⟩ := Sl.len (Sl.ofMid hm)
  cases e
  exact ⟨h1, by unfold maxLen at h2; omega⟩
 have HB := Lib.hid hb
 clear hm hb
 go_wp2_with fail
 go_ret3
 exact ⟨rfl, HB.out⟩
theorem f9part_ok (a : Option Addr) (n c x : Nat) (w : World) (h : RD w a n c x) (hn : n ≤ 4294967296) (hk : ndig 256 x ≤ 255) : Calls Tryz.prog 82 #[.slice a n c] w
  fun e w' => ∃ a5 c5, e = .returned (.tuple #[.slice a5 (1 + ndig 256 x) c5, .int .i64 (ndig 256 x : Nat), .bool true]) ∧ BytesN w' (.slice a5 (1 + ndig 256 x) c5) (ndig 256 x :: dig 256 x) ∧ Below w.heap.size w w' := by
 obtain ⟨i0, hi, hz0, hz1, hz2⟩ := info_parts Tryz.info_bytes
 have HBY := Lib.hid (f2bytes a n c x w h hn)
 obtain ⟨K, hK⟩ : ∃ K, ndig 256 x = K := ⟨_, rfl⟩
 have HDL := Lib.hid (show K = (dig 256 x).length by rw [dig_len, hK])
 rw [hK] at hk HBY ⊢
 clear h hK
 go_enter Tryz.func82, Tryz.ntmps82
 go_wp2_with fail
 refine HBY.out.mono ?_
 rintro e w1 ⟨a1, c1, rfl, hm, hb⟩
 have HS := Lib.hid (show BytesN w1 (.slice a1 K c1) (dig 256 x) from by have h9 := Sl.ofMid hm; unfold BytesN; rw [← HDL.out]; exact h9)
 have hcl : K ≤ c1 ∧ c1 ≤ 9223372036854775807 := by
  obtain ⟨a', c', e, h1, h2, h3⟩ := Sl.len (Sl.ofMid hm)
  cases e
  exact ⟨h1, by unfold maxLen at h2; omega⟩
 have HY := Lib.hid ((BS.start w1).lit K)
 have HB := Lib.hid hb
 have ew : IntKind.u8.wrap ((K : Nat) : Int) = (K : Int) := by unfold IntKind.wrap; simp [IntKind.bits, IntKind.signed]; omega
 clear hm hb
 go_upto_region 5 with fail
 obtain ⟨p2, hp2⟩ : ∃ p2, w1.heap.size = p2 := ⟨_, rfl⟩
 rw [hp2] at HY
 (try simp only [hp2])
 replace HS := Lib.hid (HS.out.below (belowBox w1 (.cells #[BN K] 5)))
 clear hp2
 generalize w1.alloc (.cells #[BN K] 5) = w3 at HY HS ⊢
 have HM3 := Lib.hid HY.out.mid
 have HW3 := Lib.hid HY.out.st.bel.size
 have HS3 := Lib.hid (BytesN.srcM (P := Tryz.prog) HS.out Tryz.underlying32 HDL.out)
 go_wp2_with (at_builtin; refine wpList_append_mid (v := .slice (some ⟨p2, 0, none⟩) 1 1) rfl _ _ 32 32 rfl i0 (.int .u8 0) 1 Tryz.underlying32 hi hz0 hz1 hz2 rfl rfl HM3.out _ rfl (K) _ HS3.out (by unfold maxLen; omega) (by omega) HW3.out ?_; intro a5 c5 w5 hmo hgo hbo; have HP := Lib.hid (HY.out.push0 (ys := dig 256 x) hmo hgo hbo); clear hmo hgo hbo HM3 HW3 HS3; go_wp2_with fail)
 go_ret3
 exact ⟨a5, c5, rfl, HP.out.bytes, bthen HB.out HP.out.st.bel⟩
theorem f9enc_zero (sg : Bool) (a b : Option Addr) (n c m d x y : Nat) (w : World) (h : RD w a n c x) (h2 : RD w b m d y) (hx0 : n = 0) :
  Calls Tryz.prog 29 #[.agg #[.bool sg, .slice a n c, .slice b m d]] w fun e w' => ∃ a5 c5, e = .returned (.tuple #[.slice a5 1 c5, .agg #[.int .i64 0, .string ⟨#[]⟩, .int .i64 0]]) ∧ BytesN w' (.slice a5 1 c5) [0] ∧ Below w.heap.size w w' := by
 subst hx0
 obtain ⟨W0, hW0⟩ : ∃ W0, W0 = ((w.alloc (.cells #[.bool sg, .slice a 0 c, .slice b m d] 60)).alloc (.cells #[.int .i64 0, .string ⟨#[]⟩, .int .i64 0] 74)) := ⟨_, rfl⟩
 have hbs : BS w [⟨w.heap.size, 60, [.bool sg, .slice a 0 c, .slice b m d]⟩, ⟨w.heap.size + 1, 74, [.int .i64 0, .string ⟨#[]⟩, .int .i64 0]⟩] [] ((w.alloc (.cells #[.bool sg, .slice a 0 c, .slice b m d] 60)).alloc (.cells #[.int .i64 0, .string ⟨#[]⟩, .int .i64 0] 74)) :=
   (((BS.start w).alloc (p := w.heap.size) rfl 60 [.bool sg, .slice a 0 c, .slice b m d] rfl).alloc (p := w.heap.size + 1) (by simp) 74 [.int .i64 0, .string ⟨#[]⟩, .int .i64 0] rfl)
 rw [← hW0] at hbs
 have HW0 := Lib.hid hW0
 have HN := Lib.hid hbs
 clear hW0 hbs
 have HX := Lib.hid (show RT W0 a 0 c x from by rw [HW0.out]; exact ((h.rt.below (belowBox _ _) trivial).below (belowBox _ _) trivial))
 clear h
 have HD := Lib.hid (show RT W0 b m d y from by rw [HW0.out]; exact ((h2.rt.below (belowBox _ _) trivial).below (belowBox _ _) trivial))
 clear h2
 go_enter Tryz.func29, Tryz.ntmps29
 go_upto_region 2 with fail
 rw [← HW0.out]
 have HY := Lib.hid (show YB w [⟨w.heap.size, 60, [.bool sg, .slice a 0 c, .slice b m d]⟩, ⟨w.heap.size + 1, 74, [.int .i64 0, .string ⟨#[]⟩, .int .i64 0]⟩] [] (some ⟨W0.heap.size, 0, none⟩) 1 1 [0] (W0.alloc (.cells #[.int .u8 0] 5)) from HN.out.lit 0)
 have ⟨k10, f10, k11, f11, k12, f12⟩ := HY.out.st.cf3 1 rfl
 have HE := Lib.hid (((HY.out.set 1 0 rfl rfl (fun _ => by simp) (.int .i64 0)).set 1 1 rfl rfl (fun _ => by simp) (.string ⟨#[]⟩)).set 1 2 rfl rfl (fun _ => by simp) (.int .i64 0))
 have ⟨j0, j1, j2⟩ := HE.out.st.cg3 1 rfl
 go_wp2_with fail
 refine bodyPost_ret (v := .tuple #[.slice (some ⟨W0.heap.size, 0, none⟩) 1 1, .agg #[.int .i64 0, .string ⟨#[]⟩, .int .i64 0]]) (by simp [results, Tryz.results29, go_sem, j0, j1, j2]) rfl ?_
 exact ⟨_, _, rfl, HE.out.bytes, HE.out.st.bel⟩
theorem f9enc_whole_nbig (sg : Bool) (a b : Option Addr) (n c m d x y : Nat) (w : World) (h : RD w a n c x) (h2 : RD w b m d y) (hx0 : 0 < n) (t : Nat) (kx : Nat)
  (HON : Hid (∀ W, RT W b m d y → Calls Tryz.prog 81 #[.slice b m d] W fun e w' => e = .returned (.bool true) ∧ Below W.heap.size W w')) (HT : Hid ((t : Int) = 1 + if sg then 1 else 0)) (ht0 : 1 ≤ t) (ht1 : t ≤ 2)
  (HPX : Hid (∀ W, RT W a n c x → Calls Tryz.prog 82 #[.slice a n c] W fun e w' => e = .returned (.tuple #[.slice none 0 0, .int .i64 (kx : Nat), .bool false]) ∧ Below W.heap.size W w')) :
  Calls Tryz.prog 29 #[.agg #[.bool sg, .slice a n c, .slice b m d]] w fun e w' => e = .returned (.tuple #[.slice none 0 0, .agg #[.int .i64 3, .string ⟨#[110, 117, 109, 98, 101, 114]⟩, .int .i64 (kx : Nat)]]) ∧ Below w.heap.size w w' := by
 have hl := h.len
 obtain ⟨i0, hi, hz0, hz1, hz2⟩ := info_parts Tryz.info_bytes
 have e0 : ((n : Int) == 0) = false := beq_eq_false_iff_ne.2 (by omega)
 obtain ⟨W0, hW0⟩ : ∃ W0, W0 = ((w.alloc (.cells #[.bool sg, .slice a n c, .slice b m d] 60)).alloc (.cells #[.int .i64 0, .string ⟨#[]⟩, .int .i64 0] 74)) := ⟨_, rfl⟩
 have hbs : BS w [⟨w.heap.size, 60, [.bool sg, .slice a n c, .slice b m d]⟩, ⟨w.heap.size + 1, 74, [.int .i64 0, .string ⟨#[]⟩, .int .i64 0]⟩] [] ((w.alloc (.cells #[.bool sg, .slice a n c, .slice b m d] 60)).alloc (.cells #[.int .i64 0, .string ⟨#[]⟩, .int .i64 0] 74)) :=
   (((BS.start w).alloc (p := w.heap.size) rfl 60 [.bool sg, .slice a n c, .slice b m d] rfl).alloc (p := w.heap.size + 1) (by simp) 74 [.int .i64 0, .string ⟨#[]⟩, .int .i64 0] rfl)
 rw [← hW0] at hbs
 have HW0 := Lib.hid hW0
 have HN := Lib.hid hbs
 clear hW0 hbs
 have HX := Lib.hid (show RT W0 a n c x from by rw [HW0.out]; exact ((h.rt.below (belowBox _ _) trivial).below (belowBox _ _) trivial))
 clear h
 have HD := Lib.hid (show RT W0 b m d y from by rw [HW0.out]; exact ((h2.rt.below (belowBox _ _) trivial).below (belowBox _ _) trivial))
 clear h2
 go_enter Tryz.func29, Tryz.ntmps29
 go_wp2_with fail
 rw [← HW0.out]
 refine (HON.out _ HD.out).mono ?_
 rintro e w1 ⟨rfl, hb⟩
 replace HX := Lib.hid (show RT w1 a n c x from HX.out.below hb HX.out.lt)
 replace HD := Lib.hid (show RT w1 b m d y from HD.out.below hb HD.out.lt)
 replace HN := Lib.hid (HN.out.call hb)
 clear hb 
 have ⟨k00, f00, k01, f01, k02, f02⟩ := HN.out.cf3 0 rfl
 have ⟨k10, f10, k11, f11, k12, f12⟩ := HN.out.cf3 1 rfl
 go_upto_if 25 with fail
 clear k00 f00 k01 f01 k02 f02 k10 f10 k11 f11 k12 f12
 go_cut [4] (fun v4 wx => v4 = .int .i64 (t : Nat) ∧ BS w [⟨w.heap.size, 60, [.bool sg, .slice a n c, .slice b m d]⟩, ⟨w.heap.size + 1, 74, [.int .i64 0, .string ⟨#[]⟩, .int .i64 0]⟩] [] wx ∧ RT wx a n c x ∧ RT wx b m d y)
 case first =>
  cases sg with
  | true =>
   have k00 := HN.out.cell 0 0 rfl rfl
   go_wp2_with fail
   go_meet
   exact ⟨by rw [HT.out]; rfl, HN.out, HX.out, HD.out⟩
  | false =>
   have k00 := HN.out.cell 0 0 rfl rfl
   go_wp2_with fail
   go_meet
   exact ⟨by rw [HT.out]; rfl, HN.out, HX.out, HD.out⟩
 case rest =>
  obtain ⟨w2, rfl⟩ : ∃ w2 : World, w2 = wc := ⟨_, rfl⟩
  obtain ⟨rfl, hn0, hx8, hd8⟩ := hcut
  have HN := Lib.hid hn0
  clear hn0
  have HX := Lib.hid hx8
  have HD := Lib.hid hd8
  clear hx8 hd8
  have ew : IntKind.u8.wrap ((t : Nat) : Int) = (t : Int) := by unfold IntKind.wrap; simp [IntKind.bits, IntKind.signed]; omega
  have ⟨k00, f00, k01, f01, k02, f02⟩ := HN.out.cf3 0 rfl
  have ⟨k10, f10, k11, f11, k12, f12⟩ := HN.out.cf3 1 rfl
  go_upto_region 9 with fail
  clear k00 f00 k01 f01 k02 f02 k10 f10 k11 f11 k12 f12
  have HY := Lib.hid (HN.out.lit t)
  obtain ⟨p2, hp2⟩ : ∃ p2, w2.heap.size = p2 := ⟨_, rfl⟩
  rw [hp2] at HY
  (try simp only [hp2])
  replace HX := Lib.hid (show RT (w2.alloc (.cells #[BN t] 5)) a n c x from HX.out.below (belowBox w2 (.cells #[BN t] 5)) trivial)
  replace HD := Lib.hid (show RT (w2.alloc (.cells #[BN t] 5)) b m d y from HD.out.below (belowBox w2 (.cells #[BN t] 5)) trivial)
  clear hp2 HN
  generalize w2.alloc (.cells #[BN t] 5) = w30 at HY HX HD ⊢
  have ⟨k00, f00, k01, f01, k02, f02⟩ := HY.out.st.cf3 0 rfl
  have ⟨k10, f10, k11, f11, k12, f12⟩ := HY.out.st.cf3 1 rfl
  go_wp2_with fail
  clear k00 f00 k01 f01 k02 f02 k10 f10 k11 f11 k12 f12
  refine (HPX.out _ HX.out).mono ?_
  rintro e w3 ⟨rfl, hb⟩
  replace HX := Lib.hid (show RT w3 a n c x from HX.out.below hb trivial)
  replace HD := Lib.hid (show RT w3 b m d y from HD.out.below hb trivial)
  replace HY := Lib.hid (HY.out.call hb)
  clear hb
  have ⟨k00, f00, k01, f01, k02, f02⟩ := HY.out.st.cf3 0 rfl
  have ⟨k10, f10, k11, f11, k12, f12⟩ := HY.out.st.cf3 1 rfl
  have HE := Lib.hid (((HY.out.set 1 0 rfl rfl (fun _ => by simp) (.int .i64 3)).set 1 1 rfl rfl (fun _ => by simp) (.string ⟨#[110, 117, 109, 98, 101, 114]⟩)).set 1 2 rfl rfl (fun _ => by simp) (.int .i64 (kx : Nat)))
  have ⟨j0, j1, j2⟩ := HE.out.st.cg3 1 rfl
  go_wp2_with fail
  refine bodyPost_ret (v := .tuple #[.slice none 0 0, .agg #[.int .i64 3, .string ⟨#[110, 117, 109, 98, 101, 114]⟩, .int .i64 (kx : Nat)]]) (by simp [results, Tryz.results29, go_sem, j0, j1, j2]) rfl ?_
  exact ⟨rfl, HE.out.st.bel⟩
theorem f9enc_whole_ok (sg : Bool) (a b : Option Addr) (n c m d x y : Nat) (w : World) (h : RD w a n c x) (h2 : RD w b m d y) (hx0 : 0 < n) (t : Nat) (kx : Nat) (lx : List Nat)
  (HON : Hid (∀ W, RT W b m d y → Calls Tryz.prog 81 #[.slice b m d] W fun e w' => e = .returned (.bool true) ∧ Below W.heap.size W w')) (HT : Hid ((t : Int) = 1 + if sg then 1 else 0)) (ht0 : 1 ≤ t) (ht1 : t ≤ 2)
  (HPX : Hid (∀ W, RT W a n c x → Calls Tryz.prog 82 #[.slice a n c] W fun e w' => ∃ a5 c5, e = .returned (.tuple #[.slice a5 (1 + kx) c5, .int .i64 (kx : Nat), .bool true]) ∧ BytesN w' (.slice a5 (1 + kx) c5) lx ∧ Below W.heap.size W w')) (HLX : Hid (1 + kx = lx.length)) (hkx : kx ≤ 255) :
  Calls Tryz.prog 29 #[.agg #[.bool sg, .slice a n c, .slice b m d]] w fun e w' => ∃ a5 c5, e = .returned (.tuple #[.slice a5 (1 + (1 + kx)) c5, .agg #[.int .i64 0, .string ⟨#[]⟩, .int .i64 0]]) ∧ BytesN w' (.slice a5 (1 + (1 + kx)) c5) ([t] ++ lx) ∧ Below w.heap.size w w' := by
 have hl := h.len
 obtain ⟨i0, hi, hz0, hz1, hz2⟩ := info_parts Tryz.info_bytes
 have e0 : ((n : Int) == 0) = false := beq_eq_false_iff_ne.2 (by omega)
 obtain ⟨W0, hW0⟩ : ∃ W0, W0 = ((w.alloc (.cells #[.bool sg, .slice a n c, .slice b m d] 60)).alloc (.cells #[.int .i64 0, .string ⟨#[]⟩, .int .i64 0] 74)) := ⟨_, rfl⟩
 have hbs : BS w [⟨w.heap.size, 60, [.bool sg, .slice a n c, .slice b m d]⟩, ⟨w.heap.size + 1, 74, [.int .i64 0, .string ⟨#[]⟩, .int .i64 0]⟩] [] ((w.alloc (.cells #[.bool sg, .slice a n c, .slice b m d] 60)).alloc (.cells #[.int .i64 0, .string ⟨#[]⟩, .int .i64 0] 74)) :=
   (((BS.start w).alloc (p := w.heap.size) rfl 60 [.bool sg, .slice a n c, .slice b m d] rfl).alloc (p := w.heap.size + 1) (by simp) 74 [.int .i64 0, .string ⟨#[]⟩, .int .i64 0] rfl)
 rw [← hW0] at hbs
 have HW0 := Lib.hid hW0
 have HN := Lib.hid hbs
 clear hW0 hbs
 have HX := Lib.hid (show RT W0 a n c x from by rw [HW0.out]; exact ((h.rt.below (belowBox _ _) trivial).below (belowBox _ _) trivial))
 clear h
 have HD := Lib.hid (show RT W0 b m d y from by rw [HW0.out]; exact ((h2.rt.below (belowBox _ _) trivial).below (belowBox _ _) trivial))
 clear h2
 go_enter Tryz.func29, Tryz.ntmps29
 go_wp2_with fail
 rw [← HW0.out]
 refine (HON.out _ HD.out).mono ?_
 rintro e w1 ⟨rfl, hb⟩
 replace HX := Lib.hid (show RT w1 a n c x from HX.out.below hb HX.out.lt)
 replace HD := Lib.hid (show RT w1 b m d y from HD.out.below hb HD.out.lt)
 replace HN := Lib.hid (HN.out.call hb)
 clear hb 
 have ⟨k00, f00, k01, f01, k02, f02⟩ := HN.out.cf3 0 rfl
 have ⟨k10, f10, k11, f11, k12, f12⟩ := HN.out.cf3 1 rfl
 go_upto_if 25 with fail
 clear k00 f00 k01 f01 k02 f02 k10 f10 k11 f11 k12 f12
 go_cut [4] (fun v4 wx => v4 = .int .i64 (t : Nat) ∧ BS w [⟨w.heap.size, 60, [.bool sg, .slice a n c, .slice b m d]⟩, ⟨w.heap.size + 1, 74, [.int .i64 0, .string ⟨#[]⟩, .int .i64 0]⟩] [] wx ∧ RT wx a n c x ∧ RT wx b m d y)
 case first =>
  cases sg with
  | true =>
   have k00 := HN.out.cell 0 0 rfl rfl
   go_wp2_with fail
   go_meet
   exact ⟨by rw [HT.out]; rfl, HN.out, HX.out, HD.out⟩
  | false =>
   have k00 := HN.out.cell 0 0 rfl rfl
   go_wp2_with fail
   go_meet
   exact ⟨by rw [HT.out]; rfl, HN.out, HX.out, HD.out⟩
 case rest =>
  obtain ⟨w2, rfl⟩ : ∃ w2 : World, w2 = wc := ⟨_, rfl⟩
  obtain ⟨rfl, hn0, hx8, hd8⟩ := hcut
  have HN := Lib.hid hn0
  clear hn0
  have HX := Lib.hid hx8
  have HD := Lib.hid hd8
  clear hx8 hd8
  have ew : IntKind.u8.wrap ((t : Nat) : Int) = (t : Int) := by unfold IntKind.wrap; simp [IntKind.bits, IntKind.signed]; omega
  have ⟨k00, f00, k01, f01, k02, f02⟩ := HN.out.cf3 0 rfl
  have ⟨k10, f10, k11, f11, k12, f12⟩ := HN.out.cf3 1 rfl
  go_upto_region 9 with fail
  clear k00 f00 k01 f01 k02 f02 k10 f10 k11 f11 k12 f12
  have HY := Lib.hid (HN.out.lit t)
  obtain ⟨p2, hp2⟩ : ∃ p2, w2.heap.size = p2 := ⟨_, rfl⟩
  rw [hp2] at HY
  (try simp only [hp2])
  replace HX := Lib.hid (show RT (w2.alloc (.cells #[BN t] 5)) a n c x from HX.out.below (belowBox w2 (.cells #[BN t] 5)) trivial)
  replace HD := Lib.hid (show RT (w2.alloc (.cells #[BN t] 5)) b m d y from HD.out.below (belowBox w2 (.cells #[BN t] 5)) trivial)
  clear hp2 HN
  generalize w2.alloc (.cells #[BN t] 5) = w30 at HY HX HD ⊢
  have ⟨k00, f00, k01, f01, k02, f02⟩ := HY.out.st.cf3 0 rfl
  have ⟨k10, f10, k11, f11, k12, f12⟩ := HY.out.st.cf3 1 rfl
  go_wp2_with fail
  clear k00 f00 k01 f01 k02 f02 k10 f10 k11 f11 k12 f12
  refine (HPX.out _ HX.out).mono ?_
  rintro e w3 ⟨a6, c6, rfl, hs, hb⟩
  replace HX := Lib.hid (show RT w3 a n c x from HX.out.below hb trivial)
  replace HD := Lib.hid (show RT w3 b m d y from HD.out.below hb trivial)
  replace HY := Lib.hid (HY.out.call hb)
  clear hb
  have HS := Lib.hid hs
  clear hs
  have hcl := HS.out.len.2
  have hcl2 := HY.out.bytes.len.2
  have HM3 := Lib.hid HY.out.mid
  have HW3 := Lib.hid HY.out.st.bel.size
  have HS3 := Lib.hid (BytesN.srcM (P := Tryz.prog) HS.out Tryz.underlying32 HLX.out)
  go_wp2_with (at_builtin; refine wpList_append_mid (v := .slice (some ⟨p2, 0, none⟩) 1 1) rfl _ _ 32 32 rfl i0 (.int .u8 0) 1 Tryz.underlying32 hi hz0 hz1 hz2 rfl rfl HM3.out _ rfl (1 + kx) _ HS3.out (by unfold maxLen; omega) (by omega) HW3.out ?_; intro a7 c7 w7 hmo hgo hbo; have HP := Lib.hid (HY.out.push0 (ys := lx) hmo hgo hbo); clear hmo hgo hbo HM3 HW3 HS3; have f10 := HP.out.st.free 1 0 rfl; have k10 := HP.out.st.cell 1 0 rfl rfl; have f11 := HP.out.st.free 1 1 rfl; have k11 := HP.out.st.cell 1 1 rfl rfl; have f12 := HP.out.st.free 1 2 rfl; have k12 := HP.out.st.cell 1 2 rfl rfl; have HE := Lib.hid (((HP.out.set 1 0 rfl rfl (fun _ => by simp) (.int .i64 0)).set 1 1 rfl rfl (fun _ => by simp) (.string ⟨#[]⟩)).set 1 2 rfl rfl (fun _ => by simp) (.int .i64 0)); have j0 := HE.out.st.cell 1 0 rfl rfl; have j1 := HE.out.st.cell 1 1 rfl rfl; have j2 := HE.out.st.cell 1 2 rfl rfl; go_wp2_with fail)
  refine bodyPost_ret (v := .tuple #[.slice a7 (1 + (1 + kx)) c7, .agg #[.int .i64 0, .string ⟨#[]⟩, .int .i64 0]]) (by simp [results, Tryz.results29, go_sem, j0, j1, j2]) rfl ?_
  exact ⟨_, _, rfl, HE.out.bytes, HE.out.st.bel⟩
theorem f9enc_frac_dbig (sg : Bool) (a b : Option Addr) (n c m d x y : Nat) (w : World) (h : RD w a n c x) (h2 : RD w b m d y) (hx0 : 0 < n) (t : Nat) (ky : Nat)
  (HON : Hid (∀ W, RT W b m d y → Calls Tryz.prog 81 #[.slice b m d] W fun e w' => e = .returned (.bool false) ∧ Below W.heap.size W w')) (HT : Hid ((t : Int) = 3 + if sg then 1 else 0)) (ht0 : 3 ≤ t) (ht1 : t ≤ 4)
  (HPY : Hid (∀ W, RT W b m d y → Calls Tryz.prog 82 #[.slice b m d] W fun e w' => e = .returned (.tuple #[.slice none 0 0, .int .i64 (ky : Nat), .bool false]) ∧ Below W.heap.size W w')) :
  Calls Tryz.prog 29 #[.agg #[.bool sg, .slice a n c, .slice b m d]] w fun e w' => e = .returned (.tuple #[.slice none 0 0, .agg #[.int .i64 3, .string ⟨#[100, 105, 118, 105, 115, 111, 114]⟩, .int .i64 (ky : Nat)]]) ∧ Below w.heap.size w w' := by
 have hl := h.len
 obtain ⟨i0, hi, hz0, hz1, hz2⟩ := info_parts Tryz.info_bytes
 have e0 : ((n : Int) == 0) = false := beq_eq_false_iff_ne.2 (by omega)
 obtain ⟨W0, hW0⟩ : ∃ W0, W0 = ((w.alloc (.cells #[.bool sg, .slice a n c, .slice b m d] 60)).alloc (.cells #[.int .i64 0, .string ⟨#[]⟩, .int .i64 0] 74)) := ⟨_, rfl⟩
 have hbs : BS w [⟨w.heap.size, 60, [.bool sg, .slice a n c, .slice b m d]⟩, ⟨w.heap.size + 1, 74, [.int .i64 0, .string ⟨#[]⟩, .int .i64 0]⟩] [] ((w.alloc (.cells #[.bool sg, .slice a n c, .slice b m d] 60)).alloc (.cells #[.int .i64 0, .string ⟨#[]⟩, .int .i64 0] 74)) :=
   (((BS.start w).alloc (p := w.heap.size) rfl 60 [.bool sg, .slice a n c, .slice b m d] rfl).alloc (p := w.heap.size + 1) (by simp) 74 [.int .i64 0, .string ⟨#[]⟩, .int .i64 0] rfl)
 rw [← hW0] at hbs
 have HW0 := Lib.hid hW0
 have HN := Lib.hid hbs
 clear hW0 hbs
 have HX := Lib.hid (show RT W0 a n c x from by rw [HW0.out]; exact ((h.rt.below (belowBox _ _) trivial).below (belowBox _ _) trivial))
 clear h
 have HD := Lib.hid (show RT W0 b m d y from by rw [HW0.out]; exact ((h2.rt.below (belowBox _ _) trivial).below (belowBox _ _) trivial))
 clear h2
 go_enter Tryz.func29, Tryz.ntmps29
 go_wp2_with fail
 rw [← HW0.out]
 refine (HON.out _ HD.out).mono ?_
 rintro e w1 ⟨rfl, hb⟩
 replace HX := Lib.hid (show RT w1 a n c x from HX.out.below hb HX.out.lt)
 replace HD := Lib.hid (show RT w1 b m d y from HD.out.below hb HD.out.lt)
 replace HN := Lib.hid (HN.out.call hb)
 clear hb 
 have ⟨k00, f00, k01, f01, k02, f02⟩ := HN.out.cf3 0 rfl
 have ⟨k10, f10, k11, f11, k12, f12⟩ := HN.out.cf3 1 rfl
 go_upto_if 25 with fail
 clear k00 f00 k01 f01 k02 f02 k10 f10 k11 f11 k12 f12
 go_cut [4] (fun v4 wx => v4 = .int .i64 (t : Nat) ∧ BS w [⟨w.heap.size, 60, [.bool sg, .slice a n c, .slice b m d]⟩, ⟨w.heap.size + 1, 74, [.int .i64 0, .string ⟨#[]⟩, .int .i64 0]⟩] [] wx ∧ RT wx a n c x ∧ RT wx b m d y)
 case first =>
  cases sg with
  | true =>
   have k00 := HN.out.cell 0 0 rfl rfl
   go_wp2_with fail
   go_meet
   exact ⟨by rw [HT.out]; rfl, HN.out, HX.out, HD.out⟩
  | false =>
   have k00 := HN.out.cell 0 0 rfl rfl
   go_wp2_with fail
   go_meet
   exact ⟨by rw [HT.out]; rfl, HN.out, HX.out, HD.out⟩
 case rest =>
  obtain ⟨w2, rfl⟩ : ∃ w2 : World, w2 = wc := ⟨_, rfl⟩
  obtain ⟨rfl, hn0, hx8, hd8⟩ := hcut
  have HN := Lib.hid hn0
  clear hn0
  have HX := Lib.hid hx8
  have HD := Lib.hid hd8
  clear hx8 hd8
  have ew : IntKind.u8.wrap ((t : Nat) : Int) = (t : Int) := by unfold IntKind.wrap; simp [IntKind.bits, IntKind.signed]; omega
  have ⟨k00, f00, k01, f01, k02, f02⟩ := HN.out.cf3 0 rfl
  have ⟨k10, f10, k11, f11, k12, f12⟩ := HN.out.cf3 1 rfl
  go_upto_region 9 with fail
  clear k00 f00 k01 f01 k02 f02 k10 f10 k11 f11 k12 f12
  have HY := Lib.hid (HN.out.lit t)
  obtain ⟨p2, hp2⟩ : ∃ p2, w2.heap.size = p2 := ⟨_, rfl⟩
  rw [hp2] at HY
  (try simp only [hp2])
  replace HX := Lib.hid (show RT (w2.alloc (.cells #[BN t] 5)) a n c x from HX.out.below (belowBox w2 (.cells #[BN t] 5)) trivial)
  replace HD := Lib.hid (show RT (w2.alloc (.cells #[BN t] 5)) b m d y from HD.out.below (belowBox w2 (.cells #[BN t] 5)) trivial)
  clear hp2 HN
  generalize w2.alloc (.cells #[BN t] 5) = w30 at HY HX HD ⊢
  have ⟨k00, f00, k01, f01, k02, f02⟩ := HY.out.st.cf3 0 rfl
  have ⟨k10, f10, k11, f11, k12, f12⟩ := HY.out.st.cf3 1 rfl
  go_wp2_with fail
  clear k00 f00 k01 f01 k02 f02 k10 f10 k11 f11 k12 f12
  refine (HPY.out _ HD.out).mono ?_
  rintro e w3 ⟨rfl, hb⟩
  replace HX := Lib.hid (show RT w3 a n c x from HX.out.below hb trivial)
  replace HD := Lib.hid (show RT w3 b m d y from HD.out.below hb trivial)
  replace HY := Lib.hid (HY.out.call hb)
  clear hb
  have ⟨k00, f00, k01, f01, k02, f02⟩ := HY.out.st.cf3 0 rfl
  have ⟨k10, f10, k11, f11, k12, f12⟩ := HY.out.st.cf3 1 rfl
  have HE := Lib.hid (((HY.out.set 1 0 rfl rfl (fun _ => by simp) (.int .i64 3)).set 1 1 rfl rfl (fun _ => by simp) (.string ⟨#[100, 105, 118, 105, 115, 111, 114]⟩)).set 1 2 rfl rfl (fun _ => by simp) (.int .i64 (ky : Nat)))
  have ⟨j0, j1, j2⟩ := HE.out.st.cg3 1 rfl
  go_wp2_with fail
  refine bodyPost_ret (v := .tuple #[.slice none 0 0, .agg #[.int .i64 3, .string ⟨#[100, 105, 118, 105, 115, 111, 114]⟩, .int .i64 (ky : Nat)]]) (by simp [results, Tryz.results29, go_sem, j0, j1, j2]) rfl ?_
  exact ⟨rfl, HE.out.st.bel⟩
theorem f9enc_frac_nbig (sg : Bool) (a b : Option Addr) (n c m d x y : Nat) (w : World) (h : RD w a n c x) (h2 : RD w b m d y) (hx0 : 0 < n) (t : Nat) (ky : Nat) (ly : List Nat) (kx : Nat)
  (HON : Hid (∀ W, RT W b m d y → Calls Tryz.prog 81 #[.slice b m d] W fun e w' => e = .returned (.bool false) ∧ Below W.heap.size W w')) (HT : Hid ((t : Int) = 3 + if sg then 1 else 0)) (ht0 : 3 ≤ t) (ht1 : t ≤ 4)
  (HPY : Hid (∀ W, RT W b m d y → Calls Tryz.prog 82 #[.slice b m d] W fun e w' => ∃ a5 c5, e = .returned (.tuple #[.slice a5 (1 + ky) c5, .int .i64 (ky : Nat), .bool true]) ∧ BytesN w' (.slice a5 (1 + ky) c5) ly ∧ Below W.heap.size W w')) (HLY : Hid (1 + ky = ly.length)) (hky : ky ≤ 255) (HXP : Hid (∀ W, Below w.heap.size w W → RT W a n c x))
  (HPX : Hid (∀ W, RT W a n c x → Calls Tryz.prog 82 #[.slice a n c] W fun e w' => e = .returned (.tuple #[.slice none 0 0, .int .i64 (kx : Nat), .bool false]) ∧ Below W.heap.size W w')) :
  Calls Tryz.prog 29 #[.agg #[.bool sg, .slice a n c, .slice b m d]] w fun e w' => e = .returned (.tuple #[.slice none 0 0, .agg #[.int .i64 3, .string ⟨#[110, 117, 109, 98, 101, 114]⟩, .int .i64 (kx : Nat)]]) ∧ Below w.heap.size w w' := by
 have hl := h.len
 obtain ⟨i0, hi, hz0, hz1, hz2⟩ := info_parts Tryz.info_bytes
 have e0 : ((n : Int) == 0) = false := beq_eq_false_iff_ne.2 (by omega)
 obtain ⟨W0, hW0⟩ : ∃ W0, W0 = ((w.alloc (.cells #[.bool sg, .slice a n c, .slice b m d] 60)).alloc (.cells #[.int .i64 0, .string ⟨#[]⟩, .int .i64 0] 74)) := ⟨_, rfl⟩
 have hbs : BS w [⟨w.heap.size, 60, [.bool sg, .slice a n c, .slice b m d]⟩, ⟨w.heap.size + 1, 74, [.int .i64 0, .string ⟨#[]⟩, .int .i64 0]⟩] [] ((w.alloc (.cells #[.bool sg, .slice a n c, .slice b m d] 60)).alloc (.cells #[.int .i64 0, .string ⟨#[]⟩, .int .i64 0] 74)) :=
   (((BS.start w).alloc (p := w.heap.size) rfl 60 [.bool sg, .slice a n c, .slice b m d] rfl).alloc (p := w.heap.size + 1) (by simp) 74 [.int .i64 0, .string ⟨#[]⟩, .int .i64 0] rfl)
 rw [← hW0] at hbs
 have HW0 := Lib.hid hW0
 have HN := Lib.hid hbs
 clear hW0 hbs
 have HX := Lib.hid (show RT W0 a n c x from by rw [HW0.out]; exact ((h.rt.below (belowBox _ _) trivial).below (belowBox _ _) trivial))
 clear h
 have HD := Lib.hid (show RT W0 b m d y from by rw [HW0.out]; exact ((h2.rt.below (belowBox _ _) trivial).below (belowBox _ _) trivial))
 clear h2
 go_enter Tryz.func29, Tryz.ntmps29
 go_wp2_with fail
 rw [← HW0.out]
 refine (HON.out _ HD.out).mono ?_
 rintro e w1 ⟨rfl, hb⟩
 replace HX := Lib.hid (show RT w1 a n c x from HX.out.below hb HX.out.lt)
 replace HD := Lib.hid (show RT w1 b m d y from HD.out.below hb HD.out.lt)
 replace HN := Lib.hid (HN.out.call hb)
 clear hb 
 have ⟨k00, f00, k01, f01, k02, f02⟩ := HN.out.cf3 0 rfl
 have ⟨k10, f10, k11, f11, k12, f12⟩ := HN.out.cf3 1 rfl
 go_upto_if 25 with fail
 clear k00 f00 k01 f01 k02 f02 k10 f10 k11 f11 k12 f12
 go_cut [4] (fun v4 wx => v4 = .int .i64 (t : Nat) ∧ BS w [⟨w.heap.size, 60, [.bool sg, .slice a n c, .slice b m d]⟩, ⟨w.heap.size + 1, 74, [.int .i64 0, .string ⟨#[]⟩, .int .i64 0]⟩] [] wx ∧ RT wx a n c x ∧ RT wx b m d y)
 case first =>
  cases sg with
  | true =>
   have k00 := HN.out.cell 0 0 rfl rfl
   go_wp2_with fail
   go_meet
   exact ⟨by rw [HT.out]; rfl, HN.out, HX.out, HD.out⟩
  | false =>
   have k00 := HN.out.cell 0 0 rfl rfl
   go_wp2_with fail
   go_meet
   exact ⟨by rw [HT.out]; rfl, HN.out, HX.out, HD.out⟩
 case rest =>
  obtain ⟨w2, rfl⟩ : ∃ w2 : World, w2 = wc := ⟨_, rfl⟩
  obtain ⟨rfl, hn0, hx8, hd8⟩ := hcut
  have HN := Lib.hid hn0
  clear hn0
  have HX := Lib.hid hx8
  have HD := Lib.hid hd8
  clear hx8 hd8
  have ew : IntKind.u8.wrap ((t : Nat) : Int) = (t : Int) := by unfold IntKind.wrap; simp [IntKind.bits, IntKind.signed]; omega
  have ⟨k00, f00, k01, f01, k02, f02⟩ := HN.out.cf3 0 rfl
  have ⟨k10, f10, k11, f11, k12, f12⟩ := HN.out.cf3 1 rfl
  go_upto_region 9 with fail
  clear k00 f00 k01 f01 k02 f02 k10 f10 k11 f11 k12 f12
  have HY := Lib.hid (HN.out.lit t)
  obtain ⟨p2, hp2⟩ : ∃ p2, w2.heap.size = p2 := ⟨_, rfl⟩
  rw [hp2] at HY
  (try simp only [hp2])
  replace HX := Lib.hid (show RT (w2.alloc (.cells #[BN t] 5)) a n c x from HX.out.below (belowBox w2 (.cells #[BN t] 5)) trivial)
  replace HD := Lib.hid (show RT (w2.alloc (.cells #[BN t] 5)) b m d y from HD.out.below (belowBox w2 (.cells #[BN t] 5)) trivial)
  clear hp2 HN
  generalize w2.alloc (.cells #[BN t] 5) = w30 at HY HX HD ⊢
  have ⟨k00, f00, k01, f01, k02, f02⟩ := HY.out.st.cf3 0 rfl
  have ⟨k10, f10, k11, f11, k12, f12⟩ := HY.out.st.cf3 1 rfl
  go_wp2_with fail
  clear k00 f00 k01 f01 k02 f02 k10 f10 k11 f11 k12 f12
  refine (HPY.out _ HD.out).mono ?_
  rintro e w3 ⟨a4, c4, rfl, hs, hb⟩
  replace HX := Lib.hid (show RT w3 a n c x from HX.out.below hb trivial)
  replace HD := Lib.hid (show RT w3 b m d y from HD.out.below hb trivial)
  replace HY := Lib.hid (HY.out.call hb)
  clear hb
  have HS := Lib.hid hs
  clear hs
  have hcl := HS.out.len.2
  have HM3 := Lib.hid HY.out.mid
  have HW3 := Lib.hid HY.out.st.bel.size
  have HS3 := Lib.hid (BytesN.srcM (P := Tryz.prog) HS.out Tryz.underlying32 HLY.out)
  go_wp2_with (at_builtin; refine wpList_append_mid (v := .slice (some ⟨p2, 0, none⟩) 1 1) rfl _ _ 32 32 rfl i0 (.int .u8 0) 1 Tryz.underlying32 hi hz0 hz1 hz2 rfl rfl HM3.out _ rfl (1 + ky) _ HS3.out (by unfold maxLen; omega) (by omega) HW3.out ?_; intro a50 c50 w50 hmo hgo hbo; have HP := Lib.hid (HY.out.push0 (ys := ly) hmo hgo hbo); clear hmo hgo hbo HM3 HW3 HS3; have k00 := HP.out.st.cell 0 0 rfl rfl; have k01 := HP.out.st.cell 0 1 rfl rfl; have k02 := HP.out.st.cell 0 2 rfl rfl; have k10 := HP.out.st.cell 1 0 rfl rfl; have k11 := HP.out.st.cell 1 1 rfl rfl; have k12 := HP.out.st.cell 1 2 rfl rfl; go_wp2_with fail)
  clear HY HS hcl k00 k01 k02 k10 k11 k12
  have HY := HP
  clear HP
  replace HX := Lib.hid (show RT w50 a n c x from HXP.out _ HY.out.st.bel)
  clear HD
  refine (HPX.out _ HX.out).mono ?_
  rintro e w4 ⟨rfl, hb⟩
  replace HX := Lib.hid (show RT w4 a n c x from HX.out.below hb trivial)
  replace HY := Lib.hid (HY.out.call hb)
  clear hb
  have ⟨k00, f00, k01, f01, k02, f02⟩ := HY.out.st.cf3 0 rfl
  have ⟨k10, f10, k11, f11, k12, f12⟩ := HY.out.st.cf3 1 rfl
  have HE := Lib.hid (((HY.out.set 1 0 rfl rfl (fun _ => by simp) (.int .i64 3)).set 1 1 rfl rfl (fun _ => by simp) (.string ⟨#[110, 117, 109, 98, 101, 114]⟩)).set 1 2 rfl rfl (fun _ => by simp) (.int .i64 (kx : Nat)))
  have ⟨j0, j1, j2⟩ := HE.out.st.cg3 1 rfl
  go_wp2_with fail
  refine bodyPost_ret (v := .tuple #[.slice none 0 0, .agg #[.int .i64 3, .string ⟨#[110, 117, 109, 98, 101, 114]⟩, .int .i64 (kx : Nat)]]) (by simp [results, Tryz.results29, go_sem, j0, j1, j2]) rfl ?_
  exact ⟨rfl, HE.out.st.bel⟩
theorem f9enc_frac_ok (sg : Bool) (a b : Option Addr) (n c m d x y : Nat) (w : World) (h : RD w a n c x) (h2 : RD w b m d y) (hx0 : 0 < n) (t : Nat) (ky : Nat) (ly : List Nat) (kx : Nat) (lx : List Nat)
  (HON : Hid (∀ W, RT W b m d y → Calls Tryz.prog 81 #[.slice b m d] W fun e w' => e = .returned (.bool false) ∧ Below W.heap.size W w')) (HT : Hid ((t : Int) = 3 + if sg then 1 else 0)) (ht0 : 3 ≤ t) (ht1 : t ≤ 4)
  (HPY : Hid (∀ W, RT W b m d y → Calls Tryz.prog 82 #[.slice b m d] W fun e w' => ∃ a5 c5, e = .returned (.tuple #[.slice a5 (1 + ky) c5, .int .i64 (ky : Nat), .bool true]) ∧ BytesN w' (.slice a5 (1 + ky) c5) ly ∧ Below W.heap.size W w')) (HLY : Hid (1 + ky = ly.length)) (hky : ky ≤ 255) (HXP : Hid (∀ W, Below w.heap.size w W → RT W a n c x))
  (HPX : Hid (∀ W, RT W a n c x → Calls Tryz.prog 82 #[.slice a n c] W fun e w' => ∃ a5 c5, e = .returned (.tuple #[.slice a5 (1 + kx) c5, .int .i64 (kx : Nat), .bool true]) ∧ BytesN w' (.slice a5 (1 + kx) c5) lx ∧ Below W.heap.size W w')) (HLX : Hid (1 + kx = lx.length)) (hkx : kx ≤ 255) :
  Calls Tryz.prog 29 #[.agg #[.bool sg, .slice a n c, .slice b m d]] w fun e w' => ∃ a5 c5, e = .returned (.tuple #[.slice a5 ((1 + (1 + ky)) + (1 + kx)) c5, .agg #[.int .i64 0, .string ⟨#[]⟩, .int .i64 0]]) ∧ BytesN w' (.slice a5 ((1 + (1 + ky)) + (1 + kx)) c5) ([t] ++ ly ++ lx) ∧ Below w.heap.size w w' := by
 have hl := h.len
 obtain ⟨i0, hi, hz0, hz1, hz2⟩ := info_parts Tryz.info_bytes
 have e0 : ((n : Int) == 0) = false := beq_eq_false_iff_ne.2 (by omega)
 obtain ⟨W0, hW0⟩ : ∃ W0, W0 = ((w.alloc (.cells #[.bool sg, .slice a n c, .slice b m d] 60)).alloc (.cells #[.int .i64 0, .string ⟨#[]⟩, .int .i64 0] 74)) := ⟨_, rfl⟩
 have hbs : BS w [⟨w.heap.size, 60, [.bool sg, .slice a n c, .slice b m d]⟩, ⟨w.heap.size + 1, 74, [.int .i64 0, .string ⟨#[]⟩, .int .i64 0]⟩] [] ((w.alloc (.cells #[.bool sg, .slice a n c, .slice b m d] 60)).alloc (.cells #[.int .i64 0, .string ⟨#[]⟩, .int .i64 0] 74)) :=
   (((BS.start w).alloc (p := w.heap.size) rfl 60 [.bool sg, .slice a n c, .slice b m d] rfl).alloc (p := w.heap.size + 1) (by simp) 74 [.int .i64 0, .string ⟨#[]⟩, .int .i64 0] rfl)
 rw [← hW0] at hbs
 have HW0 := Lib.hid hW0
 have HN := Lib.hid hbs
 clear hW0 hbs
 have HX := Lib.hid (show RT W0 a n c x from by rw [HW0.out]; exact ((h.rt.below (belowBox _ _) trivial).below (belowBox _ _) trivial))
 clear h
 have HD := Lib.hid (show RT W0 b m d y from by rw [HW0.out]; exact ((h2.rt.below (belowBox _ _) trivial).below (belowBox _ _) trivial))
 clear h2
 go_enter Tryz.func29, Tryz.ntmps29
 go_wp2_with fail
 rw [← HW0.out]
 refine (HON.out _ HD.out).mono ?_
 rintro e w1 ⟨rfl, hb⟩
 replace HX := Lib.hid (show RT w1 a n c x from HX.out.below hb HX.out.lt)
 replace HD := Lib.hid (show RT w1 b m d y from HD.out.below hb HD.out.lt)
 replace HN := Lib.hid (HN.out.call hb)
 clear hb 
 have ⟨k00, f00, k01, f01, k02, f02⟩ := HN.out.cf3 0 rfl
 have ⟨k10, f10, k11, f11, k12, f12⟩ := HN.out.cf3 1 rfl
 go_upto_if 25 with fail
 clear k00 f00 k01 f01 k02 f02 k10 f10 k11 f11 k12 f12
 go_cut [4] (fun v4 wx => v4 = .int .i64 (t : Nat) ∧ BS w [⟨w.heap.size, 60, [.bool sg, .slice a n c, .slice b m d]⟩, ⟨w.heap.size + 1, 74, [.int .i64 0, .string ⟨#[]⟩, .int .i64 0]⟩] [] wx ∧ RT wx a n c x ∧ RT wx b m d y)
 case first =>
  cases sg with
  | true =>
   have k00 := HN.out.cell 0 0 rfl rfl
   go_wp2_with fail
   go_meet
   exact ⟨by rw [HT.out]; rfl, HN.out, HX.out, HD.out⟩
  | false =>
   have k00 := HN.out.cell 0 0 rfl rfl
   go_wp2_with fail
   go_meet
   exact ⟨by rw [HT.out]; rfl, HN.out, HX.out, HD.out⟩
 case rest =>
  obtain ⟨w2, rfl⟩ : ∃ w2 : World, w2 = wc := ⟨_, rfl⟩
  obtain ⟨rfl, hn0, hx8, hd8⟩ := hcut
  have HN := Lib.hid hn0
  clear hn0
  have HX := Lib.hid hx8
  have HD := Lib.hid hd8
  clear hx8 hd8
  have ew : IntKind.u8.wrap ((t : Nat) : Int) = (t : Int) := by unfold IntKind.wrap; simp [IntKind.bits, IntKind.signed]; omega
  have ⟨k00, f00, k01, f01, k02, f02⟩ := HN.out.cf3 0 rfl
  have ⟨k10, f10, k11, f11, k12, f12⟩ := HN.out.cf3 1 rfl
  go_upto_region 9 with fail
  clear k00 f00 k01 f01 k02 f02 k10 f10 k11 f11 k12 f12
  have HY := Lib.hid (HN.out.lit t)
  obtain ⟨p2, hp2⟩ : ∃ p2, w2.heap.size = p2 := ⟨_, rfl⟩
  rw [hp2] at HY
  (try simp only [hp2])
  replace HX := Lib.hid (show RT (w2.alloc (.cells #[BN t] 5)) a n c x from HX.out.below (belowBox w2 (.cells #[BN t] 5)) trivial)
  replace HD := Lib.hid (show RT (w2.alloc (.cells #[BN t] 5)) b m d y from HD.out.below (belowBox w2 (.cells #[BN t] 5)) trivial)
  clear hp2 HN
  generalize w2.alloc (.cells #[BN t] 5) = w30 at HY HX HD ⊢
  have ⟨k00, f00, k01, f01, k02, f02⟩ := HY.out.st.cf3 0 rfl
  have ⟨k10, f10, k11, f11, k12, f12⟩ := HY.out.st.cf3 1 rfl
  go_wp2_with fail
  clear k00 f00 k01 f01 k02 f02 k10 f10 k11 f11 k12 f12
  refine (HPY.out _ HD.out).mono ?_
  rintro e w3 ⟨a4, c4, rfl, hs, hb⟩
  replace HX := Lib.hid (show RT w3 a n c x from HX.out.below hb trivial)
  replace HD := Lib.hid (show RT w3 b m d y from HD.out.below hb trivial)
  replace HY := Lib.hid (HY.out.call hb)
  clear hb
  have HS := Lib.hid hs
  clear hs
  have hcl := HS.out.len.2
  have HM3 := Lib.hid HY.out.mid
  have HW3 := Lib.hid HY.out.st.bel.size
  have HS3 := Lib.hid (BytesN.srcM (P := Tryz.prog) HS.out Tryz.underlying32 HLY.out)
  go_wp2_with (at_builtin; refine wpList_append_mid (v := .slice (some ⟨p2, 0, none⟩) 1 1) rfl _ _ 32 32 rfl i0 (.int .u8 0) 1 Tryz.underlying32 hi hz0 hz1 hz2 rfl rfl HM3.out _ rfl (1 + ky) _ HS3.out (by unfold maxLen; omega) (by omega) HW3.out ?_; intro a50 c50 w50 hmo hgo hbo; have HP := Lib.hid (HY.out.push0 (ys := ly) hmo hgo hbo); clear hmo hgo hbo HM3 HW3 HS3; have k00 := HP.out.st.cell 0 0 rfl rfl; have k01 := HP.out.st.cell 0 1 rfl rfl; have k02 := HP.out.st.cell 0 2 rfl rfl; have k10 := HP.out.st.cell 1 0 rfl rfl; have k11 := HP.out.st.cell 1 1 rfl rfl; have k12 := HP.out.st.cell 1 2 rfl rfl; go_wp2_with fail)
  clear HY HS hcl k00 k01 k02 k10 k11 k12
  have HY := HP
  clear HP
  replace HX := Lib.hid (show RT w50 a n c x from HXP.out _ HY.out.st.bel)
  clear HD
  refine (HPX.out _ HX.out).mono ?_
  rintro e w4 ⟨a6, c6, rfl, hs, hb⟩
  replace HX := Lib.hid (show RT w4 a n c x from HX.out.below hb trivial)
  replace HY := Lib.hid (HY.out.call hb)
  clear hb
  have HS := Lib.hid hs
  clear hs
  have hcl := HS.out.len.2
  have hcl2 := HY.out.bytes.len.2
  have HM3 := Lib.hid HY.out.mid
  have HW3 := Lib.hid HY.out.st.bel.size
  have HS3 := Lib.hid (BytesN.srcM (P := Tryz.prog) HS.out Tryz.underlying32 HLX.out)
  go_wp2_with (at_builtin; refine wpList_append_mid (v := .slice a50 (1 + (1 + ky)) c50) rfl _ _ 32 32 rfl i0 (.int .u8 0) 1 Tryz.underlying32 hi hz0 hz1 hz2 rfl rfl HM3.out _ rfl (1 + kx) _ HS3.out (by unfold maxLen; omega) (by omega) HW3.out ?_; intro a7 c7 w7 hmo hgo hbo; have HP := Lib.hid (HY.out.push0 (ys := lx) hmo hgo hbo); clear hmo hgo hbo HM3 HW3 HS3; have f10 := HP.out.st.free 1 0 rfl; have k10 := HP.out.st.cell 1 0 rfl rfl; have f11 := HP.out.st.free 1 1 rfl; have k11 := HP.out.st.cell 1 1 rfl rfl; have f12 := HP.out.st.free 1 2 rfl; have k12 := HP.out.st.cell 1 2 rfl rfl; have HE := Lib.hid (((HP.out.set 1 0 rfl rfl (fun _ => by simp) (.int .i64 0)).set 1 1 rfl rfl (fun _ => by simp) (.string ⟨#[]⟩)).set 1 2 rfl rfl (fun _ => by simp) (.int .i64 0)); have j0 := HE.out.st.cell 1 0 rfl rfl; have j1 := HE.out.st.cell 1 1 rfl rfl; have j2 := HE.out.st.cell 1 2 rfl rfl; go_wp2_with fail)
  refine bodyPost_ret (v := .tuple #[.slice a7 ((1 + (1 + ky)) + (1 + kx)) c7, .agg #[.int .i64 0, .string ⟨#[]⟩, .int .i64 0]]) (by simp [results, Tryz.results29, go_sem, j0, j1, j2]) rfl ?_
  exact ⟨_, _, rfl, HE.out.bytes, HE.out.st.bel⟩
def fltV (f : Flt) : Value := match f.at? with
 | none => .agg #[.int .i64 f.n, .string ⟨#[]⟩, .int .i64 0]
 | some x => .agg #[.int .i64 f.n, .string (strB x.1), .int .i64 x.2]
def okV : Value := .agg #[.int .i64 0, .string ⟨#[]⟩, .int .i64 0]
def RetFE (r : Except Flt (List Nat)) (w : World) (e : Ending) (w' : World) : Prop := match r with
 | .error f => e = .returned (.tuple #[.slice none 0 0, fltV f]) ∧ Below w.heap.size w w'
 | .ok l => ∃ a c, e = .returned (.tuple #[.slice a l.length c, okV]) ∧ BytesN w' (.slice a l.length c) l ∧ Below w.heap.size w w'
theorem f9enc (q : Rat) (a b : Option Addr) (n c m d : Nat) (w : World) (h : RD w a n c q.num.natAbs) (h2 : RD w b m d q.den) (hn : n ≤ 4294967296) (hm : m ≤ 4294967296) :
  Calls Tryz.prog 29 #[.agg #[.bool (decide (q.num < 0)), .slice a n c, .slice b m d]] w (RetFE (encR q) w) := by
 obtain ⟨sg, hsg⟩ : ∃ sg, decide (q.num < 0) = sg := ⟨_, rfl⟩
 rw [hsg]
 unfold encR
 by_cases h0 : q = 0
 ·
  rw [if_pos h0]
  have hn0 : n = 0 := by rw [h.1, h0]; exact nd_zero
  exact f9enc_zero sg a b n c m d _ _ w h h2 hn0
 ·
  rw [if_neg h0]
  have hz : q.num.natAbs ≠ 0 := fun e => h0 (Rat.num_eq_zero.1 (by omega))
  have hn0 : 0 < n := by rw [h.1]; have := (not_congr (nd_eq0 (y := q.num.natAbs))).2 hz; omega
  have hO := fun (W : World) (q1 : RT W b m d q.den) => is_bl rfl (f9one b m d q.den W q1)
  have hT : ∀ k : Nat, tagR q = k → (if q.den = 1 then 1 else 3) + (if q.num < 0 then 1 else 0) = k := fun k hk => by rw [← hk, tagR_ne h0]
  obtain ⟨f1, f2, f3, _⟩ := tagR_facts h0
  have hXB := fun hk => Lib.hid fun (W : World) (q1 : RT W a n c q.num.natAbs) => f9part_big a n c _ W q1 hn hk
  have hXO := fun hk => Lib.hid fun (W : World) (q1 : RT W a n c q.num.natAbs) => f9part_ok a n c _ W q1 hn hk
  have hLX : 1 + ndig 256 q.num.natAbs = (ndig 256 q.num.natAbs :: dig 256 q.num.natAbs).length := by rw [List.length_cons, dig_len]; omega
  have hS : (if sg then (1 : Int) else 0) = if q.num < 0 then 1 else 0 := by rw [← hsg]; by_cases hz : q.num < 0 <;> simp [hz]
  by_cases h1 : q.den = 1
  ·
   have ht := hT _ rfl
   rw [decide_eq_true h1] at hO
   rw [if_pos h1] at ht ⊢
   have h3 : ¬ 3 ≤ tagR q := fun h => f3.1 h h1
   (try simp only)
   unfold partB
   by_cases hk : 255 < ndig 256 q.num.natAbs
   ·
    rw [if_pos hk]
    exact f9enc_whole_nbig sg a b n c m d _ _ w h h2 hn0 (tagR q) _ (Lib.hid hO) (Lib.hid (by rw [hS, ← ht]; by_cases hz : q.num < 0 <;> simp [hz])) (by omega) (by omega) (hXB hk)
   ·
    rw [if_neg hk]
    simp only [List.nil_append]
    have hr := f9enc_whole_ok sg a b n c m d _ _ w h h2 hn0 (tagR q) _ _ (Lib.hid hO) (Lib.hid (by rw [hS, ← ht]; by_cases hz : q.num < 0 <;> simp [hz])) (by omega) (by omega) (hXO (by omega)) (Lib.hid hLX) (by omega)
    refine hr.mono fun e w' hh => ?_
    obtain ⟨a5, c5, he, hb, hbl⟩ := hh
    have hlen : 1 + (1 + ndig 256 q.num.natAbs) = (tagR q :: (ndig 256 q.num.natAbs :: dig 256 q.num.natAbs)).length := by rw [List.length_cons, ← hLX]; omega
    rw [hlen] at he hb
    exact ⟨a5, c5, he, hb, hbl⟩
  ·
   have ht := hT _ rfl
   rw [decide_eq_false h1] at hO
   rw [if_neg h1] at ht ⊢
   have h3 : 3 ≤ tagR q := f3.2 h1
   have hLY : 1 + ndig 256 q.den = (ndig 256 q.den :: dig 256 q.den).length := by rw [List.length_cons, dig_len]; omega
   have hXP := Lib.hid fun (W : World) (hb : Below w.heap.size w W) => (h.below hb).rt
   (try simp only)
   unfold partB
   by_cases hj : 255 < ndig 256 q.den
   ·
    rw [if_pos hj]
    exact f9enc_frac_dbig sg a b n c m d _ _ w h h2 hn0 (tagR q) _ (Lib.hid hO) (Lib.hid (by rw [hS, ← ht]; by_cases hz : q.num < 0 <;> simp [hz])) (by omega) (by omega) (Lib.hid fun W q1 => f9part_big b m d _ W q1 hm hj)
   ·
    rw [if_neg hj]
    have hYO := Lib.hid fun (W : World) (q1 : RT W b m d q.den) => f9part_ok b m d _ W q1 hm (by omega)
    by_cases hk : 255 < ndig 256 q.num.natAbs
    ·
     rw [if_pos hk]
     exact f9enc_frac_nbig sg a b n c m d _ _ w h h2 hn0 (tagR q) _ _ _ (Lib.hid hO) (Lib.hid (by rw [hS, ← ht]; by_cases hz : q.num < 0 <;> simp [hz])) (by omega) (by omega) hYO (Lib.hid hLY) (by omega) hXP (hXB hk)
    ·
     rw [if_neg hk]
     have hr := f9enc_frac_ok sg a b n c m d _ _ w h h2 hn0 (tagR q) _ _ _ _ (Lib.hid hO) (Lib.hid (by rw [hS, ← ht]; by_cases hz : q.num < 0 <;> simp [hz])) (by omega) (by omega) hYO (Lib.hid hLY) (by omega) hXP (hXO (by omega)) (Lib.hid hLX) (by omega)
     refine hr.mono fun e w' hh => ?_
     obtain ⟨a5, c5, he, hb, hbl⟩ := hh
     have hlen : 1 + (1 + ndig 256 q.den) + (1 + ndig 256 q.num.natAbs) = (tagR q :: (ndig 256 q.den :: dig 256 q.den ++ ndig 256 q.num.natAbs :: dig 256 q.num.natAbs)).length := by rw [List.length_cons, List.length_append, ← hLX, ← hLY]; omega
     rw [hlen] at he hb
     exact ⟨a5, c5, he, hb, hbl⟩
theorem told_nil (k : Int) (w : World) : Calls Tryz.prog 22 #[.nilIface, .int .i64 0, .string ⟨#[]⟩, .int .i64 k] w fun e w' => e = .returned (.bool true) ∧ Below w.heap.size w w' := by
 have hs1 : (⟨#[]⟩ : ByteArray).toList.isEmpty = true := by decide +kernel
 go_enter Tryz.func22, Tryz.ntmps22
 go_wp2_with fail
 refine (place_nil _).mono ?_
 rintro e w1 ⟨rfl, hb⟩
 have HB := Lib.hid hb; clear hb
 go_wp2_with fail
 refine (number_nil _).mono ?_
 rintro e w2 ⟨rfl, hb2⟩
 have HB2 := Lib.hid hb2; clear hb2
 go_wp2
 go_ret
 exact ⟨rfl, HB.out.trans (HB2.out.mono HB.out.size)⟩
def EP (r : Except Flt (List Nat)) (w : World) (v : Value) : Prop := match r with
 | .ok _ => v = .nilIface
 | .error f => ErrW w v f
theorem EP.lt {r : Except Flt (List Nat)} {w : World} {v : Value} (_ : EP r w v) : True := trivial
theorem EP.below {r : Except Flt (List Nat)} {w w' : World} {v : Value} (h : EP r w v) (hb : Below w.heap.size w w') (_ : True := trivial) : EP r w' v := by
 cases r with
 | ok l => exact h
 | error f => exact ErrW.below h hb
def fN (r : Except Flt (List Nat)) : Int := match r with
 | .ok _ => 0
 | .error f => f.n
def fS (r : Except Flt (List Nat)) : ByteArray := match r with
 | .ok _ => ⟨#[]⟩
 | .error f => match f.at? with
  | none => ⟨#[]⟩
  | some x => strB x.1
def fK (r : Except Flt (List Nat)) : Int := match r with
 | .ok _ => 0
 | .error f => match f.at? with
  | none => 0
  | some x => x.2
theorem SB.nil (w : World) : SB w none 0 0 [] := ⟨rfl, .inl ⟨none, 0, rfl, rfl, Nat.zero_le _, fun _ => rfl⟩⟩
theorem enc_fe {r : Except Flt (List Nat)} {w w' : World} {e : Ending} (h : RetFE r w e w') : ∃ a2 c2, e = .returned (.tuple #[.slice a2 (bytesE r).length c2, .agg #[.int .i64 (fN r), .string (fS r), .int .i64 (fK r)]]) ∧ SB w' a2 (bytesE r).length c2 (bytesE r) ∧ Below w.heap.size w w' := by
 cases r with
 | ok l =>
  obtain ⟨a2, c2, he, hm, hb⟩ := h
  exact ⟨a2, c2, he, hm, hb⟩
 | error f =>
  obtain ⟨he, hb⟩ := h
  obtain ⟨n, at9⟩ := f
  cases at9 with
  | none => exact ⟨none, 0, he, SB.nil w', hb⟩
  | some x => exact ⟨none, 0, he, SB.nil w', hb⟩
end Go.Proofs.YtmhainidincjhaaGreatDoor
