/-
 What the laws stand on, part C: contracts and plain laws of FRd, FRd2; the conditions are each law's own.
-/
import Derived.Test.YtmhainidincjhaaGreatDoorVI
import Derived.Test.YtmhainidincjhaaGreatDoorVV
import Derived.Test.YtmhainidincjhaaGreatDoorVQ
set_option linter.unusedVariables false
set_option linter.unusedSimpArgs false
set_option maxRecDepth 100000
set_option maxHeartbeats 16000000
namespace Go.Proofs.YtmhainidincjhaaGreatDoor
open Go.RowKit Go.Extern.Stop Go.Stop Go.Extern
theorem RetQF.of {q : Rat} {fe fk : Int} {fs : ByteArray} {w : World} {e : Ending} {w' : World} {mid : Option Nat} {a : Option Addr} {n c : Nat} {b : Option Addr} {m d : Nat}
  (he : e = .returned (.tuple (#[.agg #[.bool (decide (q.num < 0)), .slice a n c, .slice b m d]] ++ (match mid with | none => #[] | some k => #[.int .i64 (k : Nat)]) ++ #[.agg #[.int .i64 fe, .string fs, .int .i64 fk]])))
  (hq : QW w' a n c b m d q.num.natAbs q.den) (hb : Below w.heap.size w w') : RetQF q fe fk fs w e w' mid := ⟨a, n, c, b, m, d, he, hq, hb⟩
theorem toList_inj {s t : ByteArray} (h : s.toList = t.toList) : s = t := by
 rw [ByteArray.toList_eq, ByteArray.toList_eq] at h
 cases s; cases t
 exact congrArg ByteArray.mk (Array.toList_inj.1 h)
def readM (bl whole : Bool) (k : Nat) (r1 r2 : Option Nat) (s : List Nat) : Except Flt Rat := match r1 with
 | none => .error ⟨91, some (sNum, 0)⟩
 | some x => if bl = true ∧ x = 0 then .error ⟨91, some (sNum, 0)⟩ else if whole = true then .ok ((newI bl x : Int) : Rat) else match r2 with
  | none => .error ⟨91, some (sDiv, (k : Int) + 1)⟩
  | some d => if d = 0 then .error ⟨91, some (sDiv, (k : Int) + 1)⟩ else if textR (Rat.divInt (newI bl x) d) = s then .ok (Rat.divInt (newI bl x) d) else .error ⟨91, none⟩
theorem f9read_walk (s p u : ByteArray) (k : Nat) (bl : Bool) (r1 r2 : Option Nat) (R : Except Flt Rat) (w : World) (hs : s.size ≤ 1048576) (hk : k ≤ s.size) (hp : s.extract 0 k = p)
  (HLT : Hid (∀ j (h : j < s.size), j < k → s[j].toNat ≠ 47)) (HEQ : Hid (∀ h : k < s.size, s[k].toNat = 47))
  (HP1 : Hid ((p.toList.isEmpty = true ∧ u = p ∧ bl = false) ∨ (∃ h : 0 < p.size, p[0].toNat = 45 ∧ u = p.extract 1 p.size ∧ bl = true) ∨ (∃ h : 0 < p.size, ¬ p[0].toNat = 45 ∧ u = p ∧ bl = false)))
  (HRES : Hid (R = readM bl (decide (k = s.size)) k r1 r2 (natB s)))
  (HR1 : Hid (∀ W, Calls Tryz.prog 95 #[.string u] W (RetPB r1 W))) (HB1 : Hid (∀ x, r1 = some x → nd x ≤ 1048576)) (HB2 : Hid (∀ x, r2 = some x → nd x ≤ 1048576))
  (HR2 : Hid (k < s.size → ∀ W, Calls Tryz.prog 95 #[.string (s.extract (k + 1) s.size)] W (RetPB r2 W)))
  (HNW : Hid (∀ x a4 n4 c4 W, RT W a4 n4 c4 x → Calls Tryz.prog 76 #[.bool bl, .slice a4 n4 c4] W fun e w' => e = .returned (.agg #[.bool (decide (newI bl x < 0)), .slice a4 n4 c4]) ∧ Below W.heap.size W w'))
  (HNF : Hid (∀ x a4 n4 c4 W, RD W a4 n4 c4 x → Calls Tryz.prog 76 #[.bool false, .slice a4 n4 c4] W fun e w' => e = .returned (.agg #[.bool false, .slice a4 n4 c4]) ∧ Below W.heap.size W w'))
  (HN8 : Hid (∀ (x d : Nat) a4 n4 c4 a5 n5 c5 W, d ≠ 0 → nd x ≤ 1048576 → nd d ≤ 1048576 → QW W a4 n4 c4 a5 n5 c5 x d → Calls Tryz.prog 74 #[.agg #[.bool (decide (newI bl x < 0)), .slice a4 n4 c4], .agg #[.bool false, .slice a5 n5 c5]] W fun e w' => ∃ a8 n8 c8 b9 m9 d9, e = .returned (.agg #[.bool (decide ((Rat.divInt (newI bl x) d).num < 0)), .slice a8 n8 c8, .slice b9 m9 d9]) ∧ QW w' a8 n8 c8 b9 m9 d9 (Rat.divInt (newI bl x) d).num.natAbs (Rat.divInt (newI bl x) d).den ∧ Below W.heap.size W w'))
  (HTX : Hid (∀ (x d : Nat) a8 n8 c8 b9 m9 d9 W, d ≠ 0 → nd x ≤ 1048576 → nd d ≤ 1048576 → QW W a8 n8 c8 b9 m9 d9 (Rat.divInt (newI bl x) d).num.natAbs (Rat.divInt (newI bl x) d).den → Calls Tryz.prog 32 #[.agg #[.bool (decide ((Rat.divInt (newI bl x) d).num < 0)), .slice a8 n8 c8, .slice b9 m9 d9]] W fun e w' => e = .returned (.string (strB (textR (Rat.divInt (newI bl x) d)))) ∧ Below W.heap.size W w')) :
  Calls Tryz.prog 37 #[.string s] w fun e w' => RetQF (ratE R) (eN R) (eK R) (eS R) w e w' none := by
 obtain ⟨W0, hW0⟩ : ∃ W0, W0 = ((((w.alloc (.cells #[.bool false, .slice none 0 0, .slice none 0 0] 60)).alloc (.cells #[.int .i64 0, .string ⟨#[]⟩, .int .i64 0] 74)).alloc (.cells #[.int .i64 1] 3)).alloc (.cells #[.bool false, .slice none 0 0, .slice (some ⟨w.heap.size + 1 + 1, 0, none⟩) 1 1] 60)) := ⟨_, rfl⟩
 have hbs : BS w [⟨w.heap.size, 60, [.bool false, .slice none 0 0, .slice none 0 0]⟩, ⟨w.heap.size + 1, 74, [.int .i64 0, .string ⟨#[]⟩, .int .i64 0]⟩, ⟨w.heap.size + 1 + 1, 3, [.int .i64 1]⟩, ⟨w.heap.size + 1 + 1 + 1, 60, [.bool false, .slice none 0 0, .slice (some ⟨w.heap.size + 1 + 1, 0, none⟩) 1 1]⟩] [] ((((w.alloc (.cells #[.bool false, .slice none 0 0, .slice none 0 0] 60)).alloc (.cells #[.int .i64 0, .string ⟨#[]⟩, .int .i64 0] 74)).alloc (.cells #[.int .i64 1] 3)).alloc (.cells #[.bool false, .slice none 0 0, .slice (some ⟨w.heap.size + 1 + 1, 0, none⟩) 1 1] 60)) :=
   (((((BS.start w).alloc (p := w.heap.size) rfl 60 [.bool false, .slice none 0 0, .slice none 0 0] rfl).alloc (p := w.heap.size + 1) (by simp) 74 [.int .i64 0, .string ⟨#[]⟩, .int .i64 0] rfl).alloc (p := w.heap.size + 1 + 1) (by simp) 3 [.int .i64 1] rfl).alloc (p := w.heap.size + 1 + 1 + 1) (by simp) 60 [.bool false, .slice none 0 0, .slice (some ⟨w.heap.size + 1 + 1, 0, none⟩) 1 1] rfl)
 rw [← hW0] at hbs
 have HW0 := Lib.hid hW0
 have HN := Lib.hid hbs
 clear hW0 hbs
 go_enter Tryz.func37, Tryz.ntmps37
 go_upto_region 2 with fail
 rw [← HW0.out]
 go_wp2_with fail
 go_loopw [5] (fun v5 wr => ∃ i : Nat, i ≤ k ∧ v5 = .int .i64 i ∧ wr = W0) (fun v5 _ => s.size - (intOf v5).toNat)
 case atStart => exact ⟨0, Nat.zero_le _, rfl, rfl⟩
 case round =>
  obtain ⟨i, hik, rfl, hw⟩ := hrel
  subst hw
  by_cases hlt : i < k
  ·
   have his : i < s.size := by omega
   obtain ⟨c, hc⟩ : ∃ c, s[i].toNat = c := ⟨_, rfl⟩
   have hc47 : ((c : Int) == 47) = false := beq_eq_false_iff_ne.2 fun h => HLT.out i his hlt (by omega)
   have i1 : (i : Int) < (s.size : Int) := by omega
   go_wp2_with fail
   go_roundw
   case rel => exact ⟨i + 1, by omega, by go_num, by trivial⟩
   case measure => simp [intOf]; omega
  ·
   obtain rfl : i = k := by omega
   clear hlt hik
   by_cases hks : i < s.size
   ·
    obtain ⟨c, hc⟩ : ∃ c, s[i].toNat = c := ⟨_, rfl⟩
    have hc47 : ((c : Int) == 47) = true := beq_iff_eq.2 (by have := HEQ.out hks; omega)
    have i1 : (i : Int) < (s.size : Int) := by omega
    go_upto_region 6 with fail
    generalize ((c : Int) != 47) = uc
    clear hc47 hc i1
    have hke : ((i : Int) == (s.size : Int)) = false := beq_eq_false_iff_ne.2 (by omega)
    have HKE := Lib.hid (show decide (i = s.size) = false from decide_eq_false (by omega))
    go_cut [7] from 30 to 36 (fun v7 wx => v7 = .bool bl ∧ BS w [⟨w.heap.size, 60, [.bool false, .slice none 0 0, .slice none 0 0]⟩, ⟨w.heap.size + 1, 74, [.int .i64 0, .string ⟨#[]⟩, .int .i64 0]⟩, ⟨w.heap.size + 1 + 1, 3, [.int .i64 1]⟩, ⟨w.heap.size + 1 + 1 + 1, 60, [.bool false, .slice none 0 0, .slice (some ⟨w.heap.size + 1 + 1, 0, none⟩) 1 1]⟩] [] wx)
    case first =>
     rcases HP1.out with ⟨q1, q2, q3⟩ | ⟨q1, q2, q3, q4⟩ | ⟨q1, q2, q3, q4⟩
     ·
      have he : p.toList.isEmpty = true := q1
      subst q3
      clear q2
      go_wp2_with fail
      go_meet
      exact ⟨rfl, HN.out⟩
     ·
      have he := nonempty_list p q1
      have hx : p[0].toNat = 45 := q2
      subst q4
      clear q3
      go_wp2_with fail
      go_meet
      exact ⟨rfl, HN.out⟩
     ·
      have he := nonempty_list p q1
      have hx : ((p[0].toNat : Int) == 45) = false := beq_eq_false_iff_ne.2 (by omega)
      subst q4
      clear q3
      go_wp2_with fail
      go_meet
      exact ⟨rfl, HN.out⟩
    case rest =>
     obtain ⟨w1, rfl⟩ : ∃ w1 : World, w1 = wc := ⟨_, rfl⟩
     obtain ⟨rfl, hn0⟩ := hcut
     have HN := Lib.hid hn0
     clear hn0
     go_upto_if 37 with fail
     go_cut [6] (fun v6 wx => v6 = .string u ∧ BS w [⟨w.heap.size, 60, [.bool false, .slice none 0 0, .slice none 0 0]⟩, ⟨w.heap.size + 1, 74, [.int .i64 0, .string ⟨#[]⟩, .int .i64 0]⟩, ⟨w.heap.size + 1 + 1, 3, [.int .i64 1]⟩, ⟨w.heap.size + 1 + 1 + 1, 60, [.bool false, .slice none 0 0, .slice (some ⟨w.heap.size + 1 + 1, 0, none⟩) 1 1]⟩] [] wx)
     case first =>
      rcases HP1.out with ⟨q1, q2, q3⟩ | ⟨q1, q2, q3, q4⟩ | ⟨q1, q2, q3, q4⟩
      ·
       subst q2 q3
       go_wp2_with fail
       go_meet
       exact ⟨rfl, HN.out⟩
      ·
       have hp1 : (1 : Int) ≤ (p.size : Int) := by omega
       subst q4
       have HQ3 := Lib.hid q3
       clear q2 q3
       go_wp2_with fail
       go_meet
       exact ⟨by rw [HQ3.out], HN.out⟩
      ·
       subst q3 q4
       go_wp2_with fail
       go_meet
       exact ⟨rfl, HN.out⟩
     case rest =>
      obtain ⟨w2, rfl⟩ : ∃ w2 : World, w2 = wc := ⟨_, rfl⟩
      obtain ⟨rfl, hn0⟩ := hcut
      have HN := Lib.hid hn0
      clear hn0
      clear hp HP1
      go_wp2_with fail
      refine (HR1.out _).mono ?_
      intro e w3 hr
      cases r1 with
      | none =>
       obtain ⟨rfl, hb⟩ := hr
       replace HN := Lib.hid (HN.out.call hb)
       clear hb
       have HD1 := Lib.hid (RT.one (HN.out.at 2 rfl))
       have ⟨k00, f00, k01, f01, k02, f02⟩ := HN.out.cf3 0 rfl
       have ⟨k10, f10, k11, f11, k12, f12⟩ := HN.out.cf3 1 rfl
       have ⟨k30, f30, k31, f31, k32, f32⟩ := HN.out.cf3 3 rfl
       have B0 := Lib.hid (HN.out.set 0 0 rfl rfl (fun _ => by simp) (.bool false))
       have B1 := Lib.hid (B0.out.set 0 1 rfl rfl (fun _ => by simp) (.slice none 0 0))
       have B2 := Lib.hid (B1.out.set 0 2 rfl rfl (fun _ => by simp) (.slice (some ⟨w.heap.size + 1 + 1, 0, none⟩) 1 1))
       have B3 := Lib.hid (B2.out.set 1 0 rfl rfl (fun _ => by simp) (.int .i64 91))
       have B4 := Lib.hid (B3.out.set 1 1 rfl rfl (fun _ => by simp) (.string ⟨#[110, 117, 109, 98, 101, 114]⟩))
       have HE := Lib.hid (B4.out.set 1 2 rfl rfl (fun _ => by simp) (.int .i64 0))
       have HD1E := Lib.hid (RT.fin (RT.set (RT.set (RT.set HD1.out HN.out 0 0 (.bool false) rfl rfl (fun _ => by simp)) B0.out 0 1 (.slice none 0 0) rfl rfl (fun _ => by simp)) B1.out 0 2 (.slice (some ⟨w.heap.size + 1 + 1, 0, none⟩) 1 1) rfl rfl (fun _ => by simp)) B2.out 1 rfl (.int .i64 91) (.string ⟨#[110, 117, 109, 98, 101, 114]⟩) (.int .i64 0))
       have j0_0 := HE.out.cell 0 0 rfl rfl
       have j1_0 := HE.out.cell 0 1 rfl rfl
       have j2_0 := HE.out.cell 0 2 rfl rfl
       have j0_1 := HE.out.cell 1 0 rfl rfl
       have j1_1 := HE.out.cell 1 1 rfl rfl
       have j2_1 := HE.out.cell 1 2 rfl rfl
       go_wp2_with fail
       refine bodyPost_ret (v := .tuple #[.agg #[.bool false, .slice none 0 0, .slice (some ⟨w.heap.size + 1 + 1, 0, none⟩) 1 1], .agg #[.int .i64 91, .string ⟨#[110, 117, 109, 98, 101, 114]⟩, .int .i64 0]]) (by simp [results, Tryz.results37, go_sem, j0_0, j1_0, j2_0, j0_1, j1_1, j2_1]) rfl ?_
       rw [show R = .error ⟨91, some (sNum, 0)⟩ from HRES.out.trans (by simp [readM])]
       exact RetQF.of rfl ⟨RD.nil _, HD1E.out.rd⟩ HE.out.bel
      | some x =>
       obtain ⟨a4, n4, c4, rfl, hr, hb⟩ := hr
       replace HN := Lib.hid (HN.out.call hb)
       have hl4 := hr.len
       have HX := Lib.hid hr.rt
       have hx1 : nd x ≤ 1048576 := HB1.out x rfl
       have hn4 : n4 ≤ 1048576 := by have := hr.1; omega
       have hnz : n4 = 0 ↔ x = 0 := by have := hr.1; rw [this]; exact nd_eq0
       clear hb hr
       by_cases hbz : bl = true ∧ x = 0
       ·
        obtain ⟨rfl, rfl⟩ := hbz
        obtain rfl : n4 = 0 := hnz.2 rfl
        clear hnz
        have HD1 := Lib.hid (RT.one (HN.out.at 2 rfl))
        have ⟨k00, f00, k01, f01, k02, f02⟩ := HN.out.cf3 0 rfl
        have ⟨k10, f10, k11, f11, k12, f12⟩ := HN.out.cf3 1 rfl
        have ⟨k30, f30, k31, f31, k32, f32⟩ := HN.out.cf3 3 rfl
        have B0 := Lib.hid (HN.out.set 0 0 rfl rfl (fun _ => by simp) (.bool false))
        have B1 := Lib.hid (B0.out.set 0 1 rfl rfl (fun _ => by simp) (.slice none 0 0))
        have B2 := Lib.hid (B1.out.set 0 2 rfl rfl (fun _ => by simp) (.slice (some ⟨w.heap.size + 1 + 1, 0, none⟩) 1 1))
        have B3 := Lib.hid (B2.out.set 1 0 rfl rfl (fun _ => by simp) (.int .i64 91))
        have B4 := Lib.hid (B3.out.set 1 1 rfl rfl (fun _ => by simp) (.string ⟨#[110, 117, 109, 98, 101, 114]⟩))
        have HE := Lib.hid (B4.out.set 1 2 rfl rfl (fun _ => by simp) (.int .i64 0))
        have HD1E := Lib.hid (RT.fin (RT.set (RT.set (RT.set HD1.out HN.out 0 0 (.bool false) rfl rfl (fun _ => by simp)) B0.out 0 1 (.slice none 0 0) rfl rfl (fun _ => by simp)) B1.out 0 2 (.slice (some ⟨w.heap.size + 1 + 1, 0, none⟩) 1 1) rfl rfl (fun _ => by simp)) B2.out 1 rfl (.int .i64 91) (.string ⟨#[110, 117, 109, 98, 101, 114]⟩) (.int .i64 0))
        have j0_0 := HE.out.cell 0 0 rfl rfl
        have j1_0 := HE.out.cell 0 1 rfl rfl
        have j2_0 := HE.out.cell 0 2 rfl rfl
        have j0_1 := HE.out.cell 1 0 rfl rfl
        have j1_1 := HE.out.cell 1 1 rfl rfl
        have j2_1 := HE.out.cell 1 2 rfl rfl
        go_wp2_with fail
        refine bodyPost_ret (v := .tuple #[.agg #[.bool false, .slice none 0 0, .slice (some ⟨w.heap.size + 1 + 1, 0, none⟩) 1 1], .agg #[.int .i64 91, .string ⟨#[110, 117, 109, 98, 101, 114]⟩, .int .i64 0]]) (by simp [results, Tryz.results37, go_sem, j0_0, j1_0, j2_0, j0_1, j1_1, j2_1]) rfl ?_
        rw [show R = .error ⟨91, some (sNum, 0)⟩ from HRES.out.trans (by simp [readM])]
        exact RetQF.of rfl ⟨RD.nil _, HD1E.out.rd⟩ HE.out.bel
       ·
        go_upto_region 10 with fail
        go_cut [54] from 45 to 53 (fun v54 wx => v54 = .bool false ∧ BS w [⟨w.heap.size, 60, [.bool false, .slice none 0 0, .slice none 0 0]⟩, ⟨w.heap.size + 1, 74, [.int .i64 0, .string ⟨#[]⟩, .int .i64 0]⟩, ⟨w.heap.size + 1 + 1, 3, [.int .i64 1]⟩, ⟨w.heap.size + 1 + 1 + 1, 60, [.bool false, .slice none 0 0, .slice (some ⟨w.heap.size + 1 + 1, 0, none⟩) 1 1]⟩] [] wx ∧ RT wx a4 n4 c4 x)
        case first =>
         cases bl with
         | false =>
          go_wp2_with fail
          go_meet
          exact ⟨rfl, HN.out, HX.out⟩
         | true =>
          have e0 : ((n4 : Int) == 0) = false := beq_eq_false_iff_ne.2 fun h => hbz ⟨rfl, hnz.1 (by omega)⟩
          clear hnz
          go_wp2_with fail
          go_meet
          exact ⟨rfl, HN.out, HX.out⟩
        case rest =>
         obtain ⟨w4, rfl⟩ : ∃ w4 : World, w4 = wc := ⟨_, rfl⟩
         obtain ⟨rfl, hn0, hx8⟩ := hcut
         have HN := Lib.hid hn0
         clear hn0
         have HX := Lib.hid hx8
         have HBZ := Lib.hid hbz
         clear hx8 hnz hbz
         have HNW1 := Lib.hid (HNW.out x)
         have HN81 := Lib.hid (fun d => HN8.out x d)
         have HTX1 := Lib.hid (fun d => HTX.out x d)
         obtain ⟨zs, hzs⟩ : ∃ zs, decide (newI bl x < 0) = zs := ⟨_, rfl⟩
         rw [hzs] at HNW1
         simp only [hzs] at HN81
         have HZS := Lib.hid hzs
         clear hzs
         go_wp2_with fail
         refine (HNW1.out _ _ _ _ HX.out).mono ?_
         rintro e w5 ⟨rfl, hb⟩
         replace HX := Lib.hid (show RT w5 a4 n4 c4 x from HX.out.below hb HX.out.lt)
         replace HN := Lib.hid (HN.out.call hb)
         clear hb 
         have HPP := Lib.hid (HN.out.alloc (p := w5.heap.size) rfl 58 [.bool zs, .slice a4 n4 c4] rfl)
         go_upto_region 15 with fail
         clear HN
         have HN := HPP
         clear HPP
         replace HX := Lib.hid (show RT (w5.alloc (.cells #[.bool zs, .slice a4 n4 c4] 58)) a4 n4 c4 x from HX.out.below (belowBox _ _) HX.out.lt)
         obtain ⟨pw, hpw⟩ : ∃ pw, w5.heap.size = pw := ⟨_, rfl⟩
         rw [hpw] at HN
         (try simp only [hpw])
         clear hpw
         generalize w5.alloc (.cells #[.bool zs, .slice a4 n4 c4] 58) = wa6 at HN HX ⊢
         go_wp2_with fail
         refine (HR2.out hks _).mono ?_
         intro e w7 hr
         cases r2 with
         | none =>
          obtain ⟨rfl, hb⟩ := hr
          replace HN := Lib.hid (HN.out.call hb)
          clear hb
          have HD1 := Lib.hid (RT.one (HN.out.at 2 rfl))
          have ⟨k00, f00, k01, f01, k02, f02⟩ := HN.out.cf3 0 rfl
          have ⟨k10, f10, k11, f11, k12, f12⟩ := HN.out.cf3 1 rfl
          have ⟨k30, f30, k31, f31, k32, f32⟩ := HN.out.cf3 3 rfl
          have B0 := Lib.hid (HN.out.set 0 0 rfl rfl (fun _ => by simp) (.bool false))
          have B1 := Lib.hid (B0.out.set 0 1 rfl rfl (fun _ => by simp) (.slice none 0 0))
          have B2 := Lib.hid (B1.out.set 0 2 rfl rfl (fun _ => by simp) (.slice (some ⟨w.heap.size + 1 + 1, 0, none⟩) 1 1))
          have B3 := Lib.hid (B2.out.set 1 0 rfl rfl (fun _ => by simp) (.int .i64 91))
          have B4 := Lib.hid (B3.out.set 1 1 rfl rfl (fun _ => by simp) (.string ⟨#[100, 105, 118, 105, 115, 111, 114]⟩))
          have HE := Lib.hid (B4.out.set 1 2 rfl rfl (fun _ => by simp) (.int .i64 ((i : Int) + 1)))
          have HD1E := Lib.hid (RT.fin (RT.set (RT.set (RT.set HD1.out HN.out 0 0 (.bool false) rfl rfl (fun _ => by simp)) B0.out 0 1 (.slice none 0 0) rfl rfl (fun _ => by simp)) B1.out 0 2 (.slice (some ⟨w.heap.size + 1 + 1, 0, none⟩) 1 1) rfl rfl (fun _ => by simp)) B2.out 1 rfl (.int .i64 91) (.string ⟨#[100, 105, 118, 105, 115, 111, 114]⟩) (.int .i64 ((i : Int) + 1)))
          have j0_0 := HE.out.cell 0 0 rfl rfl
          have j1_0 := HE.out.cell 0 1 rfl rfl
          have j2_0 := HE.out.cell 0 2 rfl rfl
          have j0_1 := HE.out.cell 1 0 rfl rfl
          have j1_1 := HE.out.cell 1 1 rfl rfl
          have j2_1 := HE.out.cell 1 2 rfl rfl
          go_wp2_with fail
          refine bodyPost_ret (v := .tuple #[.agg #[.bool false, .slice none 0 0, .slice (some ⟨w.heap.size + 1 + 1, 0, none⟩) 1 1], .agg #[.int .i64 91, .string ⟨#[100, 105, 118, 105, 115, 111, 114]⟩, .int .i64 ((i : Int) + 1)]]) (by simp [results, Tryz.results37, go_sem, j0_0, j1_0, j2_0, j0_1, j1_1, j2_1]) rfl ?_
          rw [show R = .error ⟨91, some (sDiv, (i : Int) + 1)⟩ from HRES.out.trans (by
           unfold readM
           simp only [HKE.out]
           rw [if_neg HBZ.out, if_neg (by simp)])]
          exact RetQF.of rfl ⟨RD.nil _, HD1E.out.rd⟩ HE.out.bel
         | some d =>
          obtain ⟨a5, n5, c5, rfl, hr, hb⟩ := hr
          replace HN := Lib.hid (HN.out.call hb)
          have hl5 := hr.len
          have HD := Lib.hid hr.rt
          replace HX := Lib.hid (show RT w7 a4 n4 c4 x from HX.out.below hb trivial)
          have hx2 : nd d ≤ 1048576 := HB2.out d rfl
          have hnz : n5 = 0 ↔ d = 0 := by have := hr.1; rw [this]; exact nd_eq0
          clear hb hr
          by_cases hd0 : d = 0
          ·
           obtain rfl : n5 = 0 := hnz.2 hd0
           clear hnz
           have HD1 := Lib.hid (RT.one (HN.out.at 2 rfl))
           have HD0 := Lib.hid hd0
           clear hd0
           have ⟨k00, f00, k01, f01, k02, f02⟩ := HN.out.cf3 0 rfl
           have ⟨k10, f10, k11, f11, k12, f12⟩ := HN.out.cf3 1 rfl
           have ⟨k30, f30, k31, f31, k32, f32⟩ := HN.out.cf3 3 rfl
           have B0 := Lib.hid (HN.out.set 0 0 rfl rfl (fun _ => by simp) (.bool false))
           have B1 := Lib.hid (B0.out.set 0 1 rfl rfl (fun _ => by simp) (.slice none 0 0))
           have B2 := Lib.hid (B1.out.set 0 2 rfl rfl (fun _ => by simp) (.slice (some ⟨w.heap.size + 1 + 1, 0, none⟩) 1 1))
           have B3 := Lib.hid (B2.out.set 1 0 rfl rfl (fun _ => by simp) (.int .i64 91))
           have B4 := Lib.hid (B3.out.set 1 1 rfl rfl (fun _ => by simp) (.string ⟨#[100, 105, 118, 105, 115, 111, 114]⟩))
           have HE := Lib.hid (B4.out.set 1 2 rfl rfl (fun _ => by simp) (.int .i64 ((i : Int) + 1)))
           have HD1E := Lib.hid (RT.fin (RT.set (RT.set (RT.set HD1.out HN.out 0 0 (.bool false) rfl rfl (fun _ => by simp)) B0.out 0 1 (.slice none 0 0) rfl rfl (fun _ => by simp)) B1.out 0 2 (.slice (some ⟨w.heap.size + 1 + 1, 0, none⟩) 1 1) rfl rfl (fun _ => by simp)) B2.out 1 rfl (.int .i64 91) (.string ⟨#[100, 105, 118, 105, 115, 111, 114]⟩) (.int .i64 ((i : Int) + 1)))
           have j0_0 := HE.out.cell 0 0 rfl rfl
           have j1_0 := HE.out.cell 0 1 rfl rfl
           have j2_0 := HE.out.cell 0 2 rfl rfl
           have j0_1 := HE.out.cell 1 0 rfl rfl
           have j1_1 := HE.out.cell 1 1 rfl rfl
           have j2_1 := HE.out.cell 1 2 rfl rfl
           go_wp2_with fail
           refine bodyPost_ret (v := .tuple #[.agg #[.bool false, .slice none 0 0, .slice (some ⟨w.heap.size + 1 + 1, 0, none⟩) 1 1], .agg #[.int .i64 91, .string ⟨#[100, 105, 118, 105, 115, 111, 114]⟩, .int .i64 ((i : Int) + 1)]]) (by simp [results, Tryz.results37, go_sem, j0_0, j1_0, j2_0, j0_1, j1_1, j2_1]) rfl ?_
           rw [show R = .error ⟨91, some (sDiv, (i : Int) + 1)⟩ from HRES.out.trans (by
            have hd0 := HD0.out
            unfold readM
            simp only [HKE.out]
            rw [if_neg HBZ.out, if_neg (by simp)]
            (try simp only)
            rw [if_pos hd0])]
           exact RetQF.of rfl ⟨RD.nil _, HD1E.out.rd⟩ HE.out.bel
          ·
           have e5 : ((n5 : Int) == 0) = false := beq_eq_false_iff_ne.2 fun h => hd0 (hnz.1 (by omega))
           have HD0 := Lib.hid hd0
           clear hnz hd0
           obtain ⟨q, hq⟩ : ∃ q, Rat.divInt (newI bl x) (d : Int) = q := ⟨_, rfl⟩
           have HN82 := Lib.hid (HN81.out d)
           have HTX2 := Lib.hid (HTX1.out d)
           simp only [hq] at HN82 HTX2
           have HQ0 := Lib.hid hq
           clear hq
           obtain ⟨qn, hqn⟩ : ∃ z, q.num.natAbs = z := ⟨_, rfl⟩
           obtain ⟨qd, hqd⟩ : ∃ z, q.den = z := ⟨_, rfl⟩
           obtain ⟨qs, hqs⟩ : ∃ z, decide (q.num < 0) = z := ⟨_, rfl⟩
           simp only [hqn, hqd, hqs] at HN82 HTX2
           have HQN := Lib.hid (And.intro hqn (And.intro hqd hqs))
           clear hqn hqd hqs
           have HPD := Lib.hid (show QW w7 a4 n4 c4 a5 n5 c5 x d from ⟨HX.out.rd, HD.out.rd⟩)
           clear HX HD
           go_upto_region 18 with fail
           go_cut [12] (fun v12 wx => ∃ p12 a8 n8 c8 b9 m9 d9, v12 = .pointer (some ⟨p12, 0, none⟩) ∧ QW wx a8 n8 c8 b9 m9 d9 qn qd ∧ BS w [⟨w.heap.size, 60, [.bool false, .slice none 0 0, .slice none 0 0]⟩, ⟨w.heap.size + 1, 74, [.int .i64 0, .string ⟨#[]⟩, .int .i64 0]⟩, ⟨w.heap.size + 1 + 1, 3, [.int .i64 1]⟩, ⟨w.heap.size + 1 + 1 + 1, 60, [.bool false, .slice none 0 0, .slice (some ⟨w.heap.size + 1 + 1, 0, none⟩) 1 1]⟩, ⟨pw, 58, [.bool zs, .slice a4 n4 c4]⟩, ⟨p12, 60, [.bool qs, .slice a8 n8 c8, .slice b9 m9 d9]⟩] [] wx)
           case first =>
            replace HPD := Lib.hid (show QW w7.drew a4 n4 c4 a5 n5 c5 x d from HPD.out.below (Below.refl _ _).drew HPD.out.lt)
            replace HN := Lib.hid HN.out.drew
            refine wp_region_held_drew (S := fun W => W.cell? ⟨pw, 0, none⟩ = some (.bool zs) ∧ W.cell? ⟨pw, 1, none⟩ = some (.slice a4 n4 c4)) (by kernel_rfl) (⟨HN.out.cell 4 0 rfl rfl, HN.out.cell 4 1 rfl rfl⟩) (fun hHeld => ?_)
            generalize w7.drew = wd at HN HPD hHeld ⊢
            refine tk 0 (some 87) (v := ?_) rfl rfl ?_ ?_
            rotate_left
            ·
             (intro w hSw; (try dsimp only at hSw); go_simp; (try with_reducible rfl))
            simp only [Act.put, stB, stZ, stS]
            refine tk 1 (some 88) (v := ?_) rfl rfl ?_ ?_
            rotate_left
            ·
             (intro w _; go_simp; (try with_reducible rfl))
            simp only [Act.put, stB, stZ, stS]
            have tg := Mk.mk (v := 0) (d := 0)
            iterate 4
             all_goals first
             |
              have _ : Mk _ 0 := tg
              refine wpAnyH_ready (rs := [2, 4]) (by kernel_rfl) (by simp) (AllReadyH.cons rfl (fun K hK => cT 0 1 fun tg => ?_) (AllReadyH.cons rfl (fun K hK => cT 1 2 fun tg => ?_) AllReadyH.nil))
             |
              have _ : Mk _ 1 := tg
              refine wpAnyH_ready (rs := [3, 4]) (by kernel_rfl) (by simp) (AllReadyH.cons rfl (fun K hK => cT 2 3 fun tg => ?_) (AllReadyH.cons rfl (fun K hK => cT 1 4 fun tg => ?_) AllReadyH.nil))
             |
              have _ : Mk _ 2 := tg
              refine wpAnyH_ready (rs := [2]) (by kernel_rfl) (by simp) (AllReadyH.cons rfl (fun K hK => cT 0 4 fun tg => ?_) AllReadyH.nil)
             |
              have _ : Mk _ 3 := tg
              refine wpAnyH_ready (rs := [4]) (by kernel_rfl) (by simp) (AllReadyH.cons rfl (fun K hK => cT 3 5 fun tg => ?_) AllReadyH.nil)
             |
              have _ : Mk _ 4 := tg
              refine wpAnyH_ready (rs := [3]) (by kernel_rfl) (by simp) (AllReadyH.cons rfl (fun K hK => cT 2 5 fun tg => ?_) AllReadyH.nil)
             |
              have _ : Mk _ 5 := tg
              refine wpAnyH_ready (rs := [5]) (by kernel_rfl) (by simp) (AllReadyH.cons rfl (fun K hK => cT 4 6 fun tg => ?_) AllReadyH.nil)
             all_goals first
             |
              have _ : Mk 0 _ := tg
              go_simp
              refine (HNF.out _ _ _ _ _ HPD.out.den).mono ?_
              rintro e wd ⟨rfl, hb⟩
              replace HPD := Lib.hid (show QW wd a4 n4 c4 a5 n5 c5 x d from HPD.out.below hb HPD.out.lt)
              replace HN := Lib.hid (HN.out.call hb)
              clear hb 
              go_wp2_with fail
              refine hK.out _ _ (⟨HN.out.cell 4 0 rfl rfl, HN.out.cell 4 1 rfl rfl⟩) (fun hHeld2 => ?_)
              clear hK K hHeld
              rename _ => hHeld
              try simp only [Act.put, stB, stZ, stS]
             |
              have _ : Mk 1 _ := tg
              go_simp
              replace HN := Lib.hid (HN.out.alloc (p := wd.heap.size) rfl 60 [.bool false, .slice none 0 0, .slice none 0 0] rfl)
              replace HPD := Lib.hid (show QW (wd.alloc (.cells #[.bool false, .slice none 0 0, .slice none 0 0] 60)) a4 n4 c4 a5 n5 c5 x d from HPD.out.below (belowBox _ _) HPD.out.lt)
              generalize wd.heap.size = p4_ at HN ⊢
              generalize wd.alloc (.cells #[.bool false, .slice none 0 0, .slice none 0 0] 60) = wd at HN HPD ⊢
              refine hK.out _ _ (⟨HN.out.cell 4 0 rfl rfl, HN.out.cell 4 1 rfl rfl⟩) (fun hHeld2 => ?_)
              clear hK K hHeld
              rename _ => hHeld
              try simp only [Act.put, stB, stZ, stS]
             |
              have _ : Mk 2 _ := tg
              go_simp
              refine (HN82.out _ _ _ _ _ _ _ HD0.out hx1 hx2 HPD.out).mono ?_
              rintro e wd ⟨a8, n8, c8, b9, m9, d9, rfl, hf, hb⟩
              replace HPD := Lib.hid (show QW wd a4 n4 c4 a5 n5 c5 x d from HPD.out.below hb HPD.out.lt)
              replace HN := Lib.hid (HN.out.call hb)
              have HQ := Lib.hid hf
              clear hf
              clear hb 
              go_wp2_with fail
              refine hK.out _ _ (⟨HN.out.cell 4 0 rfl rfl, HN.out.cell 4 1 rfl rfl⟩) (fun hHeld2 => ?_)
              clear hK K hHeld
              rename _ => hHeld
              try simp only [Act.put, stB, stZ, stS]
             |
              have _ : Mk 3 _ := tg
              go_simp
              replace HN := Lib.hid (HN.out.alloc (p := wd.heap.size) rfl 60 [.bool false, .slice none 0 0, .slice none 0 0] rfl)
              replace HPD := Lib.hid (show QW (wd.alloc (.cells #[.bool false, .slice none 0 0, .slice none 0 0] 60)) a4 n4 c4 a5 n5 c5 x d from HPD.out.below (belowBox _ _) HPD.out.lt)
              replace HQ := Lib.hid (show QW (wd.alloc (.cells #[.bool false, .slice none 0 0, .slice none 0 0] 60)) a8 n8 c8 b9 m9 d9 qn qd from HQ.out.below (belowBox _ _))
              generalize wd.heap.size = p4_ at HN ⊢
              generalize wd.alloc (.cells #[.bool false, .slice none 0 0, .slice none 0 0] 60) = wd at HN HPD HQ ⊢
              refine hK.out _ _ (⟨HN.out.cell 4 0 rfl rfl, HN.out.cell 4 1 rfl rfl⟩) (fun hHeld2 => ?_)
              clear hK K hHeld
              rename _ => hHeld
              try simp only [Act.put, stB, stZ, stS]
             |
              have _ : Mk 4 _ := tg
              have hc0 := HN.out.cell 5 0 rfl rfl
              have hf0 := HN.out.free 5 0 rfl
              have hc1 := HN.out.cell 5 1 rfl rfl
              have hf1 := HN.out.free 5 1 rfl
              have hc2 := HN.out.cell 5 2 rfl rfl
              have hf2 := HN.out.free 5 2 rfl
              go_simp
              clear hc0 hf0 hc1 hf1 hc2 hf2
              replace HPD := Lib.hid (QW.set (QW.set (QW.set HPD.out HN.out 5 0 (.bool qs) rfl rfl (fun _ => by simp)) (HN.out.set 5 0 rfl rfl (fun _ => by simp) (.bool qs)) 5 1 (.slice a8 n8 c8) rfl rfl (fun _ => by simp)) ((HN.out.set 5 0 rfl rfl (fun _ => by simp) (.bool qs)).set 5 1 rfl rfl (fun _ => by simp) (.slice a8 n8 c8)) 5 2 (.slice b9 m9 d9) rfl rfl (fun _ => by simp))
              replace HQ := Lib.hid (QW.set (QW.set (QW.set HQ.out HN.out 5 0 (.bool qs) rfl rfl (fun _ => by simp)) (HN.out.set 5 0 rfl rfl (fun _ => by simp) (.bool qs)) 5 1 (.slice a8 n8 c8) rfl rfl (fun _ => by simp)) ((HN.out.set 5 0 rfl rfl (fun _ => by simp) (.bool qs)).set 5 1 rfl rfl (fun _ => by simp) (.slice a8 n8 c8)) 5 2 (.slice b9 m9 d9) rfl rfl (fun _ => by simp))
              replace HN := Lib.hid ((((HN.out).set 5 0 rfl rfl (fun _ => by simp) (.bool qs)).set 5 1 rfl rfl (fun _ => by simp) (.slice a8 n8 c8)).set 5 2 rfl rfl (fun _ => by simp) (.slice b9 m9 d9))
              generalize (((wd.setCell ⟨p4_, 0, none⟩ (.bool qs)).setCell ⟨p4_, 1, none⟩ (.slice a8 n8 c8)).setCell ⟨p4_, 2, none⟩ (.slice b9 m9 d9)) = wd at HN HPD HQ ⊢
              refine hK.out _ _ (⟨HN.out.cell 4 0 rfl rfl, HN.out.cell 4 1 rfl rfl⟩) (fun hHeld2 => ?_)
              clear hK K hHeld
              rename _ => hHeld
              try simp only [Act.put, stB, stZ, stS]
            all_goals (refine wpAnyH_done (by kernel_rfl) ?_ _)
            all_goals
             go_wp2_with fail
             go_meet
             exact ⟨_, _, _, _, _, _, _, rfl, HQ.out, HN.out⟩
           case rest =>
            obtain ⟨w8, rfl⟩ : ∃ w8 : World, w8 = wc := ⟨_, rfl⟩
            obtain ⟨p12, a8, n8, c8, b9, m9, d9, rfl, hq8, hn0⟩ := hcut
            have HN := Lib.hid hn0
            clear hn0
            have HQ := Lib.hid hq8
            clear hq8
            have ⟨k50, f50, k51, f51, k52, f52⟩ := HN.out.cf3 5 rfl
            go_wp2_with fail
            clear k50 f50 k51 f51 k52 f52
            refine (HTX2.out _ _ _ _ _ _ _ HD0.out hx1 hx2 HQ.out).mono ?_
            rintro e w9 ⟨rfl, hb⟩
            replace HN := Lib.hid (HN.out.call hb)
            replace HQ := Lib.hid (show QW w9 a8 n8 c8 b9 m9 d9 qn qd from HQ.out.below hb)
            clear hb
            obtain ⟨tq, htq⟩ : ∃ z, strB (textR q) = z := ⟨_, rfl⟩
            rw [htq]
            by_cases ht : tq = s
            ·
             rw [ht]
             rw [ht] at htq
             clear ht
             have HTQ := Lib.hid htq
             clear htq
             have HQ1 := Lib.hid HQ.out.num.rt
             have HQ2 := Lib.hid HQ.out.den.rt
             have ⟨k00, f00, k01, f01, k02, f02⟩ := HN.out.cf3 0 rfl
             have ⟨k10, f10, k11, f11, k12, f12⟩ := HN.out.cf3 1 rfl
             have ⟨k30, f30, k31, f31, k32, f32⟩ := HN.out.cf3 3 rfl
             have ⟨k50, f50, k51, f51, k52, f52⟩ := HN.out.cf3 5 rfl
             have B0 := Lib.hid (HN.out.set 0 0 rfl rfl (fun _ => by simp) (.bool qs))
             have B1 := Lib.hid (B0.out.set 0 1 rfl rfl (fun _ => by simp) (.slice a8 n8 c8))
             have B2 := Lib.hid (B1.out.set 0 2 rfl rfl (fun _ => by simp) (.slice b9 m9 d9))
             have B3 := Lib.hid (B2.out.set 1 0 rfl rfl (fun _ => by simp) (.int .i64 0))
             have B4 := Lib.hid (B3.out.set 1 1 rfl rfl (fun _ => by simp) (.string ⟨#[]⟩))
             have HE := Lib.hid (B4.out.set 1 2 rfl rfl (fun _ => by simp) (.int .i64 0))
             have HQ1E := Lib.hid (RT.fin (RT.set (RT.set (RT.set HQ1.out HN.out 0 0 (.bool qs) rfl rfl (fun _ => by simp)) B0.out 0 1 (.slice a8 n8 c8) rfl rfl (fun _ => by simp)) B1.out 0 2 (.slice b9 m9 d9) rfl rfl (fun _ => by simp)) B2.out 1 rfl (.int .i64 0) (.string ⟨#[]⟩) (.int .i64 0))
             have HQ2E := Lib.hid (RT.fin (RT.set (RT.set (RT.set HQ2.out HN.out 0 0 (.bool qs) rfl rfl (fun _ => by simp)) B0.out 0 1 (.slice a8 n8 c8) rfl rfl (fun _ => by simp)) B1.out 0 2 (.slice b9 m9 d9) rfl rfl (fun _ => by simp)) B2.out 1 rfl (.int .i64 0) (.string ⟨#[]⟩) (.int .i64 0))
             have j0_0 := HE.out.cell 0 0 rfl rfl
             have j1_0 := HE.out.cell 0 1 rfl rfl
             have j2_0 := HE.out.cell 0 2 rfl rfl
             have j0_1 := HE.out.cell 1 0 rfl rfl
             have j1_1 := HE.out.cell 1 1 rfl rfl
             have j2_1 := HE.out.cell 1 2 rfl rfl
             go_wp2_with fail
             refine bodyPost_ret (v := .tuple #[.agg #[.bool qs, .slice a8 n8 c8, .slice b9 m9 d9], .agg #[.int .i64 0, .string ⟨#[]⟩, .int .i64 0]]) (by simp [results, Tryz.results37, go_sem, j0_0, j1_0, j2_0, j0_1, j1_1, j2_1]) rfl ?_
             rw [show R = .ok q from HRES.out.trans (by
              have hd0 := HD0.out
              have hq := HQ0.out
              have ht : textR q = natB s := by rw [← HTQ.out, natB_strB (textR_lt q)]
              unfold readM
              simp only [HKE.out]
              rw [if_neg HBZ.out, if_neg (by simp)]
              (try simp only)
              rw [if_neg hd0, hq, if_pos ht])]
             obtain ⟨hqn, hqd, hqs⟩ := HQN.out
             exact RetQF.of (by rw [← hqs]; rfl) ⟨by rw [show (ratE (.ok q)).num.natAbs = qn from hqn]; exact HQ1E.out.rd, by rw [show (ratE (.ok q)).den = qd from hqd]; exact HQ2E.out.rd⟩ HE.out.bel
            ·
             have hte : (tq.toList == s.toList) = false := beq_eq_false_iff_ne.2 fun h => ht (toList_inj h)
             have HTQ := Lib.hid htq
             have HTN := Lib.hid ht
             clear htq ht
             have HD1 := Lib.hid (RT.one (HN.out.at 2 rfl))
             have ⟨k00, f00, k01, f01, k02, f02⟩ := HN.out.cf3 0 rfl
             have ⟨k10, f10, k11, f11, k12, f12⟩ := HN.out.cf3 1 rfl
             have ⟨k30, f30, k31, f31, k32, f32⟩ := HN.out.cf3 3 rfl
             have B0 := Lib.hid (HN.out.set 0 0 rfl rfl (fun _ => by simp) (.bool false))
             have B1 := Lib.hid (B0.out.set 0 1 rfl rfl (fun _ => by simp) (.slice none 0 0))
             have B2 := Lib.hid (B1.out.set 0 2 rfl rfl (fun _ => by simp) (.slice (some ⟨w.heap.size + 1 + 1, 0, none⟩) 1 1))
             have B3 := Lib.hid (B2.out.set 1 0 rfl rfl (fun _ => by simp) (.int .i64 91))
             have B4 := Lib.hid (B3.out.set 1 1 rfl rfl (fun _ => by simp) (.string ⟨#[]⟩))
             have HE := Lib.hid (B4.out.set 1 2 rfl rfl (fun _ => by simp) (.int .i64 0))
             have HD1E := Lib.hid (RT.fin (RT.set (RT.set (RT.set HD1.out HN.out 0 0 (.bool false) rfl rfl (fun _ => by simp)) B0.out 0 1 (.slice none 0 0) rfl rfl (fun _ => by simp)) B1.out 0 2 (.slice (some ⟨w.heap.size + 1 + 1, 0, none⟩) 1 1) rfl rfl (fun _ => by simp)) B2.out 1 rfl (.int .i64 91) (.string ⟨#[]⟩) (.int .i64 0))
             have j0_0 := HE.out.cell 0 0 rfl rfl
             have j1_0 := HE.out.cell 0 1 rfl rfl
             have j2_0 := HE.out.cell 0 2 rfl rfl
             have j0_1 := HE.out.cell 1 0 rfl rfl
             have j1_1 := HE.out.cell 1 1 rfl rfl
             have j2_1 := HE.out.cell 1 2 rfl rfl
             go_wp2_with fail
             refine bodyPost_ret (v := .tuple #[.agg #[.bool false, .slice none 0 0, .slice (some ⟨w.heap.size + 1 + 1, 0, none⟩) 1 1], .agg #[.int .i64 91, .string ⟨#[]⟩, .int .i64 0]]) (by simp [results, Tryz.results37, go_sem, j0_0, j1_0, j2_0, j0_1, j1_1, j2_1]) rfl ?_
             rw [show R = .error ⟨91, none⟩ from HRES.out.trans (by
              have hd0 := HD0.out
              have hq := HQ0.out
              have ht : ¬ textR q = natB s := fun h => HTN.out (HTQ.out.symm.trans (by rw [h, strB_natB]))
              unfold readM
              simp only [HKE.out]
              rw [if_neg HBZ.out, if_neg (by simp)]
              (try simp only)
              rw [if_neg hd0, hq, if_neg ht])]
             exact RetQF.of rfl ⟨RD.nil _, HD1E.out.rd⟩ HE.out.bel
   ·
    have hks2 : i = s.size := by omega
    have hke : ((i : Int) == (s.size : Int)) = true := beq_iff_eq.2 (by omega)
    have HKS := Lib.hid hks2
    clear hks2
    go_upto_region 6 with fail
    go_cut [7] from 30 to 36 (fun v7 wx => v7 = .bool bl ∧ BS w [⟨w.heap.size, 60, [.bool false, .slice none 0 0, .slice none 0 0]⟩, ⟨w.heap.size + 1, 74, [.int .i64 0, .string ⟨#[]⟩, .int .i64 0]⟩, ⟨w.heap.size + 1 + 1, 3, [.int .i64 1]⟩, ⟨w.heap.size + 1 + 1 + 1, 60, [.bool false, .slice none 0 0, .slice (some ⟨w.heap.size + 1 + 1, 0, none⟩) 1 1]⟩] [] wx)
    case first =>
     rcases HP1.out with ⟨q1, q2, q3⟩ | ⟨q1, q2, q3, q4⟩ | ⟨q1, q2, q3, q4⟩
     ·
      have he : p.toList.isEmpty = true := q1
      subst q3
      clear q2
      go_wp2_with fail
      go_meet
      exact ⟨rfl, HN.out⟩
     ·
      have he := nonempty_list p q1
      have hx : p[0].toNat = 45 := q2
      subst q4
      clear q3
      go_wp2_with fail
      go_meet
      exact ⟨rfl, HN.out⟩
     ·
      have he := nonempty_list p q1
      have hx : ((p[0].toNat : Int) == 45) = false := beq_eq_false_iff_ne.2 (by omega)
      subst q4
      clear q3
      go_wp2_with fail
      go_meet
      exact ⟨rfl, HN.out⟩
    case rest =>
     obtain ⟨w1, rfl⟩ : ∃ w1 : World, w1 = wc := ⟨_, rfl⟩
     obtain ⟨rfl, hn0⟩ := hcut
     have HN := Lib.hid hn0
     clear hn0
     go_upto_if 37 with fail
     go_cut [6] (fun v6 wx => v6 = .string u ∧ BS w [⟨w.heap.size, 60, [.bool false, .slice none 0 0, .slice none 0 0]⟩, ⟨w.heap.size + 1, 74, [.int .i64 0, .string ⟨#[]⟩, .int .i64 0]⟩, ⟨w.heap.size + 1 + 1, 3, [.int .i64 1]⟩, ⟨w.heap.size + 1 + 1 + 1, 60, [.bool false, .slice none 0 0, .slice (some ⟨w.heap.size + 1 + 1, 0, none⟩) 1 1]⟩] [] wx)
     case first =>
      rcases HP1.out with ⟨q1, q2, q3⟩ | ⟨q1, q2, q3, q4⟩ | ⟨q1, q2, q3, q4⟩
      ·
       subst q2 q3
       go_wp2_with fail
       go_meet
       exact ⟨rfl, HN.out⟩
      ·
       have hp1 : (1 : Int) ≤ (p.size : Int) := by omega
       subst q4
       have HQ3 := Lib.hid q3
       clear q2 q3
       go_wp2_with fail
       go_meet
       exact ⟨by rw [HQ3.out], HN.out⟩
      ·
       subst q3 q4
       go_wp2_with fail
       go_meet
       exact ⟨rfl, HN.out⟩
     case rest =>
      obtain ⟨w2, rfl⟩ : ∃ w2 : World, w2 = wc := ⟨_, rfl⟩
      obtain ⟨rfl, hn0⟩ := hcut
      have HN := Lib.hid hn0
      clear hn0
      clear hp HP1
      go_wp2_with fail
      refine (HR1.out _).mono ?_
      intro e w3 hr
      cases r1 with
      | none =>
       obtain ⟨rfl, hb⟩ := hr
       replace HN := Lib.hid (HN.out.call hb)
       clear hb
       have HD1 := Lib.hid (RT.one (HN.out.at 2 rfl))
       have ⟨k00, f00, k01, f01, k02, f02⟩ := HN.out.cf3 0 rfl
       have ⟨k10, f10, k11, f11, k12, f12⟩ := HN.out.cf3 1 rfl
       have ⟨k30, f30, k31, f31, k32, f32⟩ := HN.out.cf3 3 rfl
       have B0 := Lib.hid (HN.out.set 0 0 rfl rfl (fun _ => by simp) (.bool false))
       have B1 := Lib.hid (B0.out.set 0 1 rfl rfl (fun _ => by simp) (.slice none 0 0))
       have B2 := Lib.hid (B1.out.set 0 2 rfl rfl (fun _ => by simp) (.slice (some ⟨w.heap.size + 1 + 1, 0, none⟩) 1 1))
       have B3 := Lib.hid (B2.out.set 1 0 rfl rfl (fun _ => by simp) (.int .i64 91))
       have B4 := Lib.hid (B3.out.set 1 1 rfl rfl (fun _ => by simp) (.string ⟨#[110, 117, 109, 98, 101, 114]⟩))
       have HE := Lib.hid (B4.out.set 1 2 rfl rfl (fun _ => by simp) (.int .i64 0))
       have HD1E := Lib.hid (RT.fin (RT.set (RT.set (RT.set HD1.out HN.out 0 0 (.bool false) rfl rfl (fun _ => by simp)) B0.out 0 1 (.slice none 0 0) rfl rfl (fun _ => by simp)) B1.out 0 2 (.slice (some ⟨w.heap.size + 1 + 1, 0, none⟩) 1 1) rfl rfl (fun _ => by simp)) B2.out 1 rfl (.int .i64 91) (.string ⟨#[110, 117, 109, 98, 101, 114]⟩) (.int .i64 0))
       have j0_0 := HE.out.cell 0 0 rfl rfl
       have j1_0 := HE.out.cell 0 1 rfl rfl
       have j2_0 := HE.out.cell 0 2 rfl rfl
       have j0_1 := HE.out.cell 1 0 rfl rfl
       have j1_1 := HE.out.cell 1 1 rfl rfl
       have j2_1 := HE.out.cell 1 2 rfl rfl
       go_wp2_with fail
       refine bodyPost_ret (v := .tuple #[.agg #[.bool false, .slice none 0 0, .slice (some ⟨w.heap.size + 1 + 1, 0, none⟩) 1 1], .agg #[.int .i64 91, .string ⟨#[110, 117, 109, 98, 101, 114]⟩, .int .i64 0]]) (by simp [results, Tryz.results37, go_sem, j0_0, j1_0, j2_0, j0_1, j1_1, j2_1]) rfl ?_
       rw [show R = .error ⟨91, some (sNum, 0)⟩ from HRES.out.trans (by simp [readM])]
       exact RetQF.of rfl ⟨RD.nil _, HD1E.out.rd⟩ HE.out.bel
      | some x =>
       obtain ⟨a4, n4, c4, rfl, hr, hb⟩ := hr
       replace HN := Lib.hid (HN.out.call hb)
       have hl4 := hr.len
       have HX := Lib.hid hr.rt
       have hx1 : nd x ≤ 1048576 := HB1.out x rfl
       have hn4 : n4 ≤ 1048576 := by have := hr.1; omega
       have hnz : n4 = 0 ↔ x = 0 := by have := hr.1; rw [this]; exact nd_eq0
       clear hb hr
       by_cases hbz : bl = true ∧ x = 0
       ·
        obtain ⟨rfl, rfl⟩ := hbz
        obtain rfl : n4 = 0 := hnz.2 rfl
        clear hnz
        have HD1 := Lib.hid (RT.one (HN.out.at 2 rfl))
        have ⟨k00, f00, k01, f01, k02, f02⟩ := HN.out.cf3 0 rfl
        have ⟨k10, f10, k11, f11, k12, f12⟩ := HN.out.cf3 1 rfl
        have ⟨k30, f30, k31, f31, k32, f32⟩ := HN.out.cf3 3 rfl
        have B0 := Lib.hid (HN.out.set 0 0 rfl rfl (fun _ => by simp) (.bool false))
        have B1 := Lib.hid (B0.out.set 0 1 rfl rfl (fun _ => by simp) (.slice none 0 0))
        have B2 := Lib.hid (B1.out.set 0 2 rfl rfl (fun _ => by simp) (.slice (some ⟨w.heap.size + 1 + 1, 0, none⟩) 1 1))
        have B3 := Lib.hid (B2.out.set 1 0 rfl rfl (fun _ => by simp) (.int .i64 91))
        have B4 := Lib.hid (B3.out.set 1 1 rfl rfl (fun _ => by simp) (.string ⟨#[110, 117, 109, 98, 101, 114]⟩))
        have HE := Lib.hid (B4.out.set 1 2 rfl rfl (fun _ => by simp) (.int .i64 0))
        have HD1E := Lib.hid (RT.fin (RT.set (RT.set (RT.set HD1.out HN.out 0 0 (.bool false) rfl rfl (fun _ => by simp)) B0.out 0 1 (.slice none 0 0) rfl rfl (fun _ => by simp)) B1.out 0 2 (.slice (some ⟨w.heap.size + 1 + 1, 0, none⟩) 1 1) rfl rfl (fun _ => by simp)) B2.out 1 rfl (.int .i64 91) (.string ⟨#[110, 117, 109, 98, 101, 114]⟩) (.int .i64 0))
        have j0_0 := HE.out.cell 0 0 rfl rfl
        have j1_0 := HE.out.cell 0 1 rfl rfl
        have j2_0 := HE.out.cell 0 2 rfl rfl
        have j0_1 := HE.out.cell 1 0 rfl rfl
        have j1_1 := HE.out.cell 1 1 rfl rfl
        have j2_1 := HE.out.cell 1 2 rfl rfl
        go_wp2_with fail
        refine bodyPost_ret (v := .tuple #[.agg #[.bool false, .slice none 0 0, .slice (some ⟨w.heap.size + 1 + 1, 0, none⟩) 1 1], .agg #[.int .i64 91, .string ⟨#[110, 117, 109, 98, 101, 114]⟩, .int .i64 0]]) (by simp [results, Tryz.results37, go_sem, j0_0, j1_0, j2_0, j0_1, j1_1, j2_1]) rfl ?_
        rw [show R = .error ⟨91, some (sNum, 0)⟩ from HRES.out.trans (by simp [readM])]
        exact RetQF.of rfl ⟨RD.nil _, HD1E.out.rd⟩ HE.out.bel
       ·
        go_upto_region 10 with fail
        go_cut [54] from 45 to 53 (fun v54 wx => v54 = .bool false ∧ BS w [⟨w.heap.size, 60, [.bool false, .slice none 0 0, .slice none 0 0]⟩, ⟨w.heap.size + 1, 74, [.int .i64 0, .string ⟨#[]⟩, .int .i64 0]⟩, ⟨w.heap.size + 1 + 1, 3, [.int .i64 1]⟩, ⟨w.heap.size + 1 + 1 + 1, 60, [.bool false, .slice none 0 0, .slice (some ⟨w.heap.size + 1 + 1, 0, none⟩) 1 1]⟩] [] wx ∧ RT wx a4 n4 c4 x)
        case first =>
         cases bl with
         | false =>
          go_wp2_with fail
          go_meet
          exact ⟨rfl, HN.out, HX.out⟩
         | true =>
          have e0 : ((n4 : Int) == 0) = false := beq_eq_false_iff_ne.2 fun h => hbz ⟨rfl, hnz.1 (by omega)⟩
          clear hnz
          go_wp2_with fail
          go_meet
          exact ⟨rfl, HN.out, HX.out⟩
        case rest =>
         obtain ⟨w4, rfl⟩ : ∃ w4 : World, w4 = wc := ⟨_, rfl⟩
         obtain ⟨rfl, hn0, hx8⟩ := hcut
         have HN := Lib.hid hn0
         clear hn0
         have HX := Lib.hid hx8
         have HBZ := Lib.hid hbz
         clear hx8 hnz hbz
         have HNW1 := Lib.hid (HNW.out x)
         have HN81 := Lib.hid (fun d => HN8.out x d)
         have HTX1 := Lib.hid (fun d => HTX.out x d)
         obtain ⟨zs, hzs⟩ : ∃ zs, decide (newI bl x < 0) = zs := ⟨_, rfl⟩
         rw [hzs] at HNW1
         simp only [hzs] at HN81
         have HZS := Lib.hid hzs
         clear hzs
         go_wp2_with fail
         refine (HNW1.out _ _ _ _ HX.out).mono ?_
         rintro e w5 ⟨rfl, hb⟩
         replace HX := Lib.hid (show RT w5 a4 n4 c4 x from HX.out.below hb HX.out.lt)
         replace HN := Lib.hid (HN.out.call hb)
         clear hb 
         have HWW := Lib.hid (HN.out.alloc (p := w5.heap.size) rfl 58 [.bool zs, .slice a4 n4 c4] rfl)
         have HPP := Lib.hid (HN.out.alloc (p := w5.heap.size) rfl 58 [.bool zs, .slice a4 n4 c4] rfl)
         go_upto_region 14 with fail
         clear HN
         have HN := HPP
         clear HPP
         replace HX := Lib.hid (show RT (w5.alloc (.cells #[.bool zs, .slice a4 n4 c4] 58)) a4 n4 c4 x from HX.out.below (belowBox _ _) HX.out.lt)
         obtain ⟨pw, hpw⟩ : ∃ pw, w5.heap.size = pw := ⟨_, rfl⟩
         rw [hpw] at HN
         (try simp only [hpw])
         clear hpw
         generalize w5.alloc (.cells #[.bool zs, .slice a4 n4 c4] 58) = wa6 at HN HX ⊢
         have ⟨k00, f00, k01, f01, k02, f02⟩ := HN.out.cf3 0 rfl
         have ⟨k10, f10, k11, f11, k12, f12⟩ := HN.out.cf3 1 rfl
         have ⟨k30, f30, k31, f31, k32, f32⟩ := HN.out.cf3 3 rfl
         have ⟨k40, f40, k41, f41⟩ := HN.out.cf2 4 rfl
         have HPP := Lib.hid (HN.out.alloc (p := wa6.heap.size) rfl 3 [.int .i64 1] rfl)
         have ⟨k00p, f00p, k01p, f01p, k02p, f02p⟩ := HPP.out.cf3 0 rfl
         have ⟨k10p, f10p, k11p, f11p, k12p, f12p⟩ := HPP.out.cf3 1 rfl
         have HM1 := Lib.hid (RT.one (HPP.out.at 5 rfl))
         have B0 := Lib.hid (HPP.out.set 0 0 rfl rfl (fun _ => by simp) (.bool zs))
         have B1 := Lib.hid (B0.out.set 0 1 rfl rfl (fun _ => by simp) (.slice a4 n4 c4))
         have B2 := Lib.hid (B1.out.set 0 2 rfl rfl (fun _ => by simp) (.slice (some ⟨wa6.heap.size, 0, none⟩) 1 1))
         have B3 := Lib.hid (B2.out.set 1 0 rfl rfl (fun _ => by simp) (.int .i64 0))
         have B4 := Lib.hid (B3.out.set 1 1 rfl rfl (fun _ => by simp) (.string ⟨#[]⟩))
         have HE := Lib.hid (B4.out.set 1 2 rfl rfl (fun _ => by simp) (.int .i64 0))
         have HXE := Lib.hid (RT.fin (RT.set (RT.set (RT.set (HX.out.below (belowBox _ _) trivial) HPP.out 0 0 (.bool zs) rfl rfl (fun _ => by simp)) B0.out 0 1 (.slice a4 n4 c4) rfl rfl (fun _ => by simp)) B1.out 0 2 (.slice (some ⟨wa6.heap.size, 0, none⟩) 1 1) rfl rfl (fun _ => by simp)) B2.out 1 rfl (.int .i64 0) (.string ⟨#[]⟩) (.int .i64 0))
         have HM1E := Lib.hid (RT.fin (RT.set (RT.set (RT.set HM1.out HPP.out 0 0 (.bool zs) rfl rfl (fun _ => by simp)) B0.out 0 1 (.slice a4 n4 c4) rfl rfl (fun _ => by simp)) B1.out 0 2 (.slice (some ⟨wa6.heap.size, 0, none⟩) 1 1) rfl rfl (fun _ => by simp)) B2.out 1 rfl (.int .i64 0) (.string ⟨#[]⟩) (.int .i64 0))
         have j0_0 := HE.out.cell 0 0 rfl rfl
         have j1_0 := HE.out.cell 0 1 rfl rfl
         have j2_0 := HE.out.cell 0 2 rfl rfl
         have j0_1 := HE.out.cell 1 0 rfl rfl
         have j1_1 := HE.out.cell 1 1 rfl rfl
         have j2_1 := HE.out.cell 1 2 rfl rfl
         go_wp2_with fail
         refine bodyPost_ret (v := .tuple #[.agg #[.bool zs, .slice a4 n4 c4, .slice (some ⟨wa6.heap.size, 0, none⟩) 1 1], .agg #[.int .i64 0, .string ⟨#[]⟩, .int .i64 0]]) (by simp [results, Tryz.results37, go_sem, j0_0, j1_0, j2_0, j0_1, j1_1, j2_1]) rfl ?_
         rw [show R = .ok ((newI bl x : Int) : Rat) from HRES.out.trans (by
          have h1 := HBZ.out
          by_cases hb : bl = true
          ·
           have h2 : x ≠ 0 := fun h => h1 ⟨hb, h⟩
           simp [readM, hb, h2, HKS.out]
          ·
           simp [readM, hb, HKS.out])]
         exact RetQF.of (by rw [← HZS.out]; rfl) ⟨by rw [show (ratE (.ok ((newI bl x : Int) : Rat))).num.natAbs = x from newI_abs _ _]; exact HXE.out.rd, HM1E.out.rd⟩ HE.out.bel
theorem nd_q {x d : Nat} {z : Int} (hz : z.natAbs = x) (hd : d ≠ 0) : nd (Rat.divInt z d).num.natAbs ≤ nd x ∧ nd (Rat.divInt z d).den ≤ nd d := by
 have hdz : (d : Int) ≠ 0 := by omega
 rw [rat_num _ _ hdz, newI_abs, rat_den _ _ hdz, hz, Int.natAbs_natCast]
 exact ⟨nd_up (Nat.div_le_self _ _), nd_up (Nat.div_le_self _ _)⟩
theorem readN_nd {l : List Nat} {x : Nat} (h : readN l = some x) : nd x ≤ l.length := by
 rw [readN_eq] at h
 split at h
 ·
  cases h
 ·
  split at h
  ·
   rename_i h2
   injection h with h
   rw [← h]; exact valD_nd l h2
  ·
   cases h
theorem readR_M (D P Y : List Nat) (k : Nat) (whole : Bool) (bl : Bool) (hbl : bl = decide (P.head? = some 45)) (hk : P.length = k) (h1 : D.takeWhile (· != 47) = P) (h2 : D.dropWhile (· != 47) = if whole = true then [] else 47 :: Y) :
  readR D = readM bl whole k (readN (if bl = true then P.tail else P)) (readN Y) D := by
 have hz : readZ P = if bl = true then (match readN P.tail with | none => none | some n => if n = 0 then none else some (newI true n)) else (match readN P with | none => none | some n => some (newI false n)) := by
  unfold readZ
  by_cases hb : P.head? = some 45
  ·
   rw [if_pos hb, if_pos (by rw [hbl]; exact decide_eq_true hb)]
   cases readN P.tail with
   | none => rfl
   | some x => simp only [newI_true]
  ·
   rw [if_neg hb, if_neg (by rw [hbl, decide_eq_false hb]; simp)]
   cases readN P with
   | none => rfl
   | some x => simp only [newI_false]
 clear hbl
 unfold readR readM
 rw [h1, h2, hz, hk]
 clear hz h1 h2
 cases bl with
 | true =>
  simp only [if_true, true_and]
  cases readN P.tail with
  | none => rfl
  | some x =>
   simp only
   by_cases hx : x = 0
   ·
    simp only [if_pos hx]
   ·
    simp only [if_neg hx]
    cases whole with
    | true => simp only [if_true]
    | false =>
     simp only [Bool.false_eq_true, if_false]
     cases readN Y with
     | none => rfl
     | some d => rfl
 | false =>
  simp only [Bool.false_eq_true, if_false, false_and]
  cases readN P with
  | none => rfl
  | some x =>
   simp only
   cases whole with
   | true => simp only [if_true]
   | false =>
    simp only [Bool.false_eq_true, if_false]
    cases readN Y with
    | none => rfl
    | some d => rfl
theorem f9read_key (s : ByteArray) (k : Nat) (Y : List Nat) (w : World) (hs : s.size ≤ 1048576) (hk : k ≤ s.size) (hP : (natB (s.extract 0 k)).length = k)
  (hlt : ∀ j (h : j < s.size), j < k → s[j].toNat ≠ 47) (heq : ∀ h : k < s.size, s[k].toNat = 47)
  (h1 : (natB s).takeWhile (· != 47) = natB (s.extract 0 k)) (h2 : (natB s).dropWhile (· != 47) = if decide (k = s.size) = true then [] else 47 :: Y)
  (hY : k < s.size → natB (s.extract (k + 1) s.size) = Y) (hYl : Y.length ≤ 1048576) :
  Calls Tryz.prog 37 #[.string s] w fun e w' => RetQF (ratE (readR (natB s))) (eN (readR (natB s))) (eK (readR (natB s))) (eS (readR (natB s))) w e w' none := by
 obtain ⟨bl, hbl⟩ : ∃ bl, bl = decide ((natB (s.extract 0 k)).head? = some 45) := ⟨_, rfl⟩
 have hM := readR_M (natB s) (natB (s.extract 0 k)) Y k _ bl hbl hP h1 h2
 have hps : (s.extract 0 k).size = k := by rw [← natB_len]; exact hP
 obtain ⟨u, hu⟩ : ∃ u, u = if bl = true then (s.extract 0 k).extract 1 (s.extract 0 k).size else s.extract 0 k := ⟨_, rfl⟩
 have hnu : natB u = if bl = true then (natB (s.extract 0 k)).tail else natB (s.extract 0 k) := by
  rw [hu]
  cases bl with
  | true => rw [if_pos rfl, if_pos rfl, natB_tail]
  | false => rw [if_neg (by simp), if_neg (by simp)]
 have hul : u.size ≤ 1048576 := by
  rw [← natB_len, hnu]
  split
  ·
   rw [List.length_tail]; omega
  ·
   omega
 rw [← hnu] at hM
 have hB1 : ∀ x, readN (natB u) = some x → nd x ≤ 1048576 := fun x hx => by have := readN_nd hx; rw [natB_len] at this; omega
 have hB2 : ∀ x, readN Y = some x → nd x ≤ 1048576 := fun x hx => by have := readN_nd hx; omega
 refine f9read_walk s _ u k bl (readN (natB u)) (readN Y) _ w hs hk rfl (Lib.hid hlt) (Lib.hid heq) (Lib.hid ?_) (Lib.hid hM) (Lib.hid fun W => f6read u W hul) (Lib.hid hB1) (Lib.hid hB2)
  (Lib.hid fun h W => ?_) (Lib.hid fun x a4 n4 c4 W q => f7new bl a4 n4 c4 x W q) (Lib.hid fun x a4 n4 c4 W q => ?_) (Lib.hid fun x d a4 n4 c4 a5 n5 c5 W hd hx1 hx2 q => ?_) (Lib.hid fun x d a8 n8 c8 b9 m9 d9 W hd hx1 hx2 q => ?_)
 ·
  by_cases h0 : (s.extract 0 k).size = 0
  ·
   refine .inl ⟨?_, ?_, ?_⟩
   ·
    have h9 := toList_len (s.extract 0 k)
    rw [h0] at h9
    rw [List.length_eq_zero_iff.1 h9]; rfl
   all_goals
    have hb0 : bl = false := by
     rw [hbl]
     refine decide_eq_false fun h => ?_
     have h9 := natB_len (s.extract 0 k)
     rw [h0] at h9
     rw [List.length_eq_zero_iff.1 h9] at h
     cases h
   ·
    rw [hu, hb0, if_neg (by simp)]
   ·
    exact hb0
  ·
   have hp : 0 < (s.extract 0 k).size := by omega
   have hh : (natB (s.extract 0 k)).head? = some (s.extract 0 k)[0].toNat := by rw [List.head?_eq_getElem?, natB_at _ 0 hp]
   rw [hh] at hbl
   by_cases h45 : (s.extract 0 k)[0].toNat = 45
   ·
    have hb1 : bl = true := by rw [hbl, h45]; rfl
    exact .inr (.inl ⟨hp, h45, by rw [hu, if_pos hb1], hb1⟩)
   ·
    have hb0 : bl = false := by rw [hbl]; exact decide_eq_false fun h => h45 (Option.some.inj h)
    exact .inr (.inr ⟨hp, h45, by rw [hu, hb0, if_neg (by simp)], hb0⟩)
 ·
  have h9 := f6read (s.extract (k + 1) s.size) W (by rw [ByteArray.size_extract]; omega)
  rw [hY h] at h9
  exact h9
 ·
  have h9 := f7new false a4 n4 c4 x W q
  rw [newI_neg, Bool.false_and] at h9
  exact h9
 ·
  have hz : (newI bl x).natAbs = x := newI_abs _ _
  have e1 := q.num.1
  have e2 := q.den.1
  have h9 := f8new (newI bl x) d a4 a5 n4 c4 n5 c5 W (by rw [hz]; exact q.num) q.den hd (by omega) (by omega)
  refine h9.mono fun e w' hh => ?_
  obtain ⟨a8, n8, c8, b9, m9, d9, he, q1, q2, hb⟩ := hh
  exact ⟨a8, n8, c8, b9, m9, d9, he, ⟨q1, q2⟩, hb⟩
 ·
  have hz : (newI bl x).natAbs = x := newI_abs _ _
  obtain ⟨l1, l2⟩ := nd_q (x := x) hz hd
  have e1 := q.num.1
  have e2 := q.den.1
  exact f9text (Rat.divInt (newI bl x) d) a8 b9 n8 c8 m9 d9 W q.num q.den (by omega) (by omega)
theorem f9read (s : ByteArray) (w : World) (hs : s.size ≤ 1048576) :
  Calls Tryz.prog 37 #[.string s] w fun e w' => RetQF (ratE (readR (natB s))) (eN (readR (natB s))) (eK (readR (natB s))) (eS (readR (natB s))) w e w' none := by
 have hl := natB_len s
 rcases natB_cut s with ⟨h1, _⟩ | ⟨i, _, hi, h3, h4⟩
 ·
  have hx : natB (s.extract 0 s.size) = natB s := by
   unfold natB
   rw [ByteArray.data_extract, Array.toList_extract, List.extract_eq_take_drop, List.drop_zero, List.take_of_length_le]
   rw [Array.length_toList]
   exact Nat.le_refl _
  have hp := cut_plain_no h1
  refine f9read_key s s.size [] w hs (Nat.le_refl _) (by rw [hx, hl]) (fun j h hj => ?_) (fun h => absurd h (by omega)) (by rw [hx]; exact hp.1) (by rw [if_pos (decide_eq_true rfl)]; exact hp.2) (fun h => absurd h (by omega)) (by simp)
  exact h1 _ (List.mem_of_getElem? (natB_at s j h))
 ·
  have hp := cut_plain (m := natB (s.extract (i + 1) s.size)) h4
  rw [← h3] at hp
  have hpl : (natB (s.extract 0 i)).length = i := by rw [natB_len, ByteArray.size_extract]; omega
  refine f9read_key s i (natB (s.extract (i + 1) s.size)) w hs (by omega) hpl (fun j h hj => ?_) (fun h => ?_) hp.1 (by rw [if_neg (by simp; omega)]; exact hp.2) (fun _ => rfl) (by rw [natB_len, ByteArray.size_extract]; omega)
  ·
   have h9 := natB_at s j h
   rw [h3, List.getElem?_append_left (by omega)] at h9
   exact h4 _ (List.mem_of_getElem? h9)
  ·
   have h9 := natB_at s i h
   rw [h3, List.getElem?_append_right (by omega), hpl, Nat.sub_self] at h9
   exact (Option.some.inj h9).symm
end Go.Proofs.YtmhainidincjhaaGreatDoor
