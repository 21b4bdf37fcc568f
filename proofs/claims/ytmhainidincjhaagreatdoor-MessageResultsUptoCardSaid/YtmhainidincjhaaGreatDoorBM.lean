/-
 What the laws stand on, part M: contracts and plain laws of DMake, DMake2; the conditions are each law's own.
-/
import Derived.Test.YtmhainidincjhaaGreatDoorBR
import Derived.Test.YtmhainidincjhaaGreatDoorBA
set_option linter.unusedVariables false
set_option linter.unusedSimpArgs false
set_option maxRecDepth 100000
set_option maxHeartbeats 16000000
namespace Go.Proofs.YtmhainidincjhaaGreatDoor
open Go.RowKit Go.Extern.Stop Go.Stop Go.Extern
theorem make7_walk (sg zs:Bool) (a:Option Addr) (n c x zm:Nat) (w:World)
  (HOF:Hid (∀ W,Below w.heap.size w W→Calls Tryz.prog 68 #[.slice a n c] W (RetN x W)))
  (HNW:Hid (∀ a c W,NatW W a c x→Calls Tryz.prog 72 #[.bool sg,.agg #[.slice a (lenW x) c]] W (fun e w'=>∃ a c,e=.returned (.agg #[.bool zs,.slice a (lenW zm) c])∧NatW w' a c zm∧Below W.heap.size W w'))) :
  Calls Tryz.prog 71 #[.agg #[.bool sg,.slice a n c]] w (fun e w'=>∃ a c,e=.returned (.agg #[.bool zs,.slice a (lenW zm) c])∧NatW w' a c zm∧Below w.heap.size w w'):=by
 obtain ⟨W0,hW0⟩:∃ W0,W0=((w.alloc (.cells #[.bool sg,.slice a n c] 24)).alloc (.cells #[.bool false,.slice none 0 0] 43)):=⟨_,rfl⟩
 have hbs:BS w [⟨w.heap.size,24,[.bool sg,.slice a n c]⟩,⟨w.heap.size+1,43,[.bool false,.slice none 0 0]⟩] [] ((w.alloc (.cells #[.bool sg,.slice a n c] 24)).alloc (.cells #[.bool false,.slice none 0 0] 43)) :=
   (((BS.start w).alloc (p:=w.heap.size) rfl 24 [.bool sg,.slice a n c] rfl).alloc (p:=w.heap.size+1) (by simp) 43 [.bool false,.slice none 0 0] rfl)
 rw [← hW0] at hbs
 have HW0:=qH hW0
 have HN:=qH hbs
 clear hW0 hbs
 go_enter Tryz.func71,Tryz.ntmps71
 go_upto_region 1 with fail
 rw [← HW0.out]
 replace HN:=qH HN.out.drew
 refine wp_region_held_drew (S:=fun W=>W.cell? ⟨w.heap.size,0,none⟩=some (.bool sg)∧W.cell? ⟨w.heap.size,1,none⟩=some (.slice a n c)) (by kernel_rfl) (⟨HN.out.cell 0 0 rfl rfl,HN.out.cell 0 1 rfl rfl⟩) (fun hHeld=>?_)
 generalize W0.drew=wd at HN hHeld ⊢
 refine tm 0 (some 3) ?_
 refine tl 1 (some 4) ?_
 refine tm 2 (some 5) ?_
 refine tl 3 (some 6) ?_
 have tg:=Mk.mk (v:=0) (d:=0)
 iterate 3
  all_goals first
  | refine qz1 0 tg 4 0 1 ?_
  | refine qz1 1 tg 5 1 2 ?_
  | refine qz1 2 tg 6 2 3 ?_
  all_goals intro K hK tg
  all_goals first
  |
   have _:Mk 0 _:=tg
   go_simp
   refine (HOF.out _ HN.out.bel).mono ?_
   rintro e wd ⟨a1,c1,rfl,hq0,hb⟩
   replace HN:=qH ((HN.out.call hb).got hq0)
   clear hb hq0
   go_wp2_with fail
  |
   have _:Mk 1 _:=tg
   go_simp
   refine (HNW.out a1 c1 _ (HN.out.nat 0 rfl)).mono ?_
   rintro e wd ⟨a2,c2,rfl,hq0,hb⟩
   replace HN:=qH ((HN.out.call hb).got hq0)
   clear hb hq0
   go_wp2_with fail
  |
   have _:Mk 2 _:=tg
   have hc0:=HN.out.cell 1 0 rfl rfl
   have hf0:=HN.out.free 1 0 rfl
   have hc1:=HN.out.cell 1 1 rfl rfl
   have hf1:=HN.out.free 1 1 rfl
   go_simp
   clear hc0 hf0 hc1 hf1
   replace HN:=qH (((HN.out).set 1 0 rfl rfl (fun _=>by simp) (.bool zs)).set 1 1 rfl rfl (fun _=>by simp) (.slice a2 (lenW zm) c2))
   generalize ((wd.setCell ⟨w.heap.size+1,0,none⟩ (.bool zs)).setCell ⟨w.heap.size+1,1,none⟩ (.slice a2 (lenW zm) c2))=wd at HN  ⊢
  all_goals
   refine hK.out _ _ (⟨HN.out.cell 0 0 rfl rfl,HN.out.cell 0 1 rfl rfl⟩) (fun hHeld2=>?_)
   clear hK K hHeld
   rename _=>hHeld
   try simp only [Act.put,stB,stZ,stS]
 all_goals (refine wpAnyH_done (by kernel_rfl) ?_ _)
 all_goals
  have ⟨j0_1,j1_1⟩:=HN.out.cg2 1 rfl
  go_wp2_with fail
  refine bodyPost_ret (v:=.agg #[.bool zs,.slice a2 (lenW zm) c2]) (by simp [results,Tryz.results71,go_sem,j0_1,j1_1]) rfl ?_
  exact ⟨a2,c2,rfl,HN.out.nat 1 rfl,HN.out.bel⟩
theorem make7_any (sg:Bool) (a:Option Addr) (n c:Nat) (xs:List Nat) (w:World) (h:Sl w 1 (.slice a n c) n (xs.map UV)) (hx:∀ x∈xs,x<W64) (hs:n≤1099511627776):Calls Tryz.prog 71 #[.agg #[.bool sg,.slice a n c]] w (RetI (newI sg (val xs)) w) :=
 make7_walk sg _ a n c (val xs) _ w (qH fun W hb=>of_any a c n xs W (Sl.below h hb) hx (by omega)) (qH fun a c W h=>inew_any sg a c (val xs) W h)
theorem make8_other (sg zs ds qs:Bool) (a b:Option Addr) (n c m d y zm dm qn qd:Nat) (w:World) (HOF:Hid (∀ W,Below w.heap.size w W→Calls Tryz.prog 68 #[.slice b m d] W (RetN y W)))
  (HMK:Hid (∀ W,Below w.heap.size w W→Calls Tryz.prog 71 #[.agg #[.bool sg,.slice a n c]] W (fun e w'=>∃ a c,e=.returned (.agg #[.bool zs,.slice a (lenW zm) c])∧NatW w' a c zm∧Below W.heap.size W w')))
  (HI2:Hid (∀ a c W,NatW W a c y→Calls Tryz.prog 72 #[.bool false,.agg #[.slice a (lenW y) c]] W (fun e w'=>∃ a c,e=.returned (.agg #[.bool ds,.slice a (lenW dm) c])∧NatW w' a c dm∧Below W.heap.size W w')))
  (HRN:Hid (∀ a c a2 c2 W,NatW W a c zm→NatW W a2 c2 dm→Calls Tryz.prog 70 #[.agg #[.bool zs,.slice a (lenW zm) c],.agg #[.bool ds,.slice a2 (lenW dm) c2]] W fun e w'=>∃ a8 c8 b9 d9,e=.returned (.tuple #[.agg #[.bool qs,.slice a8 (lenW qn) c8,.slice b9 (lenW qd) d9],.bool true])∧NatW w' a8 c8 qn∧NatW w' b9 d9 qd∧Below W.heap.size W w')) (HZ:Hid (∀ a c W,Calls Tryz.prog 69 #[.agg #[.slice a (lenW y) c]] W fun e w'=>e=.returned (.bool false)∧Below W.heap.size W w')) :
  Calls Tryz.prog 26 #[.agg #[.bool sg,.slice a n c,.slice b m d]] w (fun e w'=>∃ a8 c8 b9 d9,e=.returned (.agg #[.bool qs,.slice a8 (lenW qn) c8,.slice b9 (lenW qd) d9])∧NatW w' a8 c8 qn∧NatW w' b9 d9 qd∧Below w.heap.size w w'):=by
 obtain ⟨W0,hW0⟩:∃ W0,W0=((w.alloc (.cells #[.bool sg,.slice a n c,.slice b m d] 26)).alloc (.cells #[.bool false,.slice none 0 0,.slice none 0 0] 45)):=⟨_,rfl⟩
 have hbs:BS w [⟨w.heap.size,26,[.bool sg,.slice a n c,.slice b m d]⟩,⟨w.heap.size+1,45,[.bool false,.slice none 0 0,.slice none 0 0]⟩] [] ((w.alloc (.cells #[.bool sg,.slice a n c,.slice b m d] 26)).alloc (.cells #[.bool false,.slice none 0 0,.slice none 0 0] 45)) :=
   (((BS.start w).alloc (p:=w.heap.size) rfl 26 [.bool sg,.slice a n c,.slice b m d] rfl).alloc (p:=w.heap.size+1) (by simp) 45 [.bool false,.slice none 0 0,.slice none 0 0] rfl)
 rw [← hW0] at hbs
 have HW0:=qH hW0
 have HN:=qH hbs
 clear hW0 hbs
 go_enter Tryz.func26,Tryz.ntmps26
 go_wp2_with fail
 rw [← HW0.out]
 refine (HOF.out _ HN.out.bel).mono ?_
 rintro e w1 ⟨a3,c3,rfl,hq0,hb⟩
 replace HN:=qH ((HN.out.call hb).got hq0)
 clear hb hq0
 have ⟨k00,f00,k01,f01,k02,f02⟩:=HN.out.cf3 0 rfl
 have l0:=HN.out.lt 0 rfl
 have ⟨k10,f10,k11,f11,k12,f12⟩:=HN.out.cf3 1 rfl
 have l1:=HN.out.lt 1 rfl
 have HP:=qH (HN.out.alloc (p:=w1.heap.size) rfl 41 [.slice a3 (lenW y) c3] rfl)
 have ⟨k00p,f00p,k01p,f01p,k02p,f02p⟩:=HP.out.cf3 0 rfl
 have ⟨k10p,f10p,k11p,f11p,k12p,f12p⟩:=HP.out.cf3 1 rfl
 have ⟨k20p,f20p⟩:=HP.out.cf1 2 rfl
 go_wp2_with fail
 clear k00 f00 k01 f01 k02 f02 l0 k10 f10 k11 f11 k12 f12 l1 k00p f00p k01p f01p k02p f02p k10p f10p k11p f11p k12p f12p k20p f20p HN
 have HN:=HP
 clear HP
 generalize (w1.alloc (.cells #[.slice a3 (lenW y) c3] 41))=wa2 at HN  ⊢
 refine (HZ.out a3 c3 _).mono ?_
 rintro e w3 ⟨rfl,hb⟩
 replace HN:=qH (HN.out.call hb)
 clear hb 
 have ⟨k00,f00,k01,f01,k02,f02⟩:=HN.out.cf3 0 rfl
 have ⟨k10,f10,k11,f11,k12,f12⟩:=HN.out.cf3 1 rfl
 have ⟨k20,f20⟩:=HN.out.cf1 2 rfl
 go_upto_region 4 with fail
 clear k00 f00 k01 f01 k02 f02 k10 f10 k11 f11 k12 f12 k20 f20
 go_cut [4] (fun v4 wx=>∃ p4 a8 c8 b9 d9,v4=.pointer (some ⟨p4,0,none⟩)∧BS w [⟨w.heap.size+1,45,[.bool false,.slice none 0 0,.slice none 0 0]⟩,⟨p4,45,[.bool qs,.slice a8 (lenW qn) c8,.slice b9 (lenW qd) d9]⟩] [⟨a8,c8,qn⟩,⟨b9,d9,qd⟩] wx)
 case first =>
  replace HN:=qH HN.out.drew
  refine wp_region_held_drew (S:=fun W=>W.cell? ⟨w.heap.size,0,none⟩=some (.bool sg)∧W.cell? ⟨w.heap.size,1,none⟩=some (.slice a n c)∧W.cell? ⟨w1.heap.size,0,none⟩=some (.slice a3 (lenW y) c3)) (by kernel_rfl) (⟨HN.out.cell 0 0 rfl rfl,HN.out.cell 0 1 rfl rfl,HN.out.cell 2 0 rfl rfl⟩) (fun hHeld=>?_)
  generalize w3.drew=wd at HN hHeld ⊢
  refine tm 0 (some 14) ?_
  refine tl 1 (some 15) ?_
  refine tl 3 (some 17) ?_
  have tg:=Mk.mk (v:=0) (d:=0)
  iterate 5
   all_goals first
   | refine qz2 0 tg 2 0 1 9 1 2 ?_ ?_
   | refine qz2 1 tg 4 2 3 9 1 4 ?_ ?_
   | refine qz1 2 tg 2 0 4 ?_
   | refine qz2 3 tg 5 3 5 9 1 6 ?_ ?_
   | refine qz1 4 tg 4 2 6 ?_
   | refine qz1 5 tg 9 1 7 ?_
   | refine qz1 6 tg 5 3 7 ?_
   | refine qz1 7 tg 10 4 8 ?_
   all_goals intro K hK tg
   all_goals first
   |
    have _:Mk 0 _:=tg
    go_simp
    refine (HMK.out _ HN.out.bel).mono ?_
    rintro e wd ⟨a5,c5,rfl,hq0,hb⟩
    replace HN:=qH ((HN.out.call hb).got hq0)
    clear hb hq0
    go_wp2_with fail
   |
    have _:Mk 1 _:=tg
    go_simp
    replace HN:=qH (HN.out.alloc (p:=wd.heap.size) rfl 45 [.bool false,.slice none 0 0,.slice none 0 0] rfl)
    generalize wd.heap.size=p9_ at HN ⊢
    generalize wd.alloc (.cells #[.bool false,.slice none 0 0,.slice none 0 0] 45)=wd at HN  ⊢
   |
    have _:Mk 2 _:=tg
    go_simp
    refine (HI2.out _ _ _ (HN.out.nat 0 rfl)).mono ?_
    rintro e wd ⟨a6,c6,rfl,hq0,hb⟩
    replace HN:=qH ((HN.out.call hb).got hq0)
    clear hb hq0
    go_wp2_with fail
   |
    have _:Mk 3 _:=tg
    go_simp
    refine (HRN.out _ _ _ _ _ (HN.out.nat 1 rfl) (HN.out.nat 2 rfl)).mono ?_
    rintro e wd ⟨a8,c8,b9,d9,rfl,hq0,hq1,hb⟩
    replace HN:=qH (((HN.out.call hb).got hq0).got hq1)
    clear hb hq0 hq1
    go_wp2_with fail
   |
    have _:Mk 4 _:=tg
    have hc0:=HN.out.cell 3 0 rfl rfl
    have hf0:=HN.out.free 3 0 rfl
    have hc1:=HN.out.cell 3 1 rfl rfl
    have hf1:=HN.out.free 3 1 rfl
    have hc2:=HN.out.cell 3 2 rfl rfl
    have hf2:=HN.out.free 3 2 rfl
    go_simp
    clear hc0 hf0 hc1 hf1 hc2 hf2
    replace HN:=qH ((((HN.out).set 3 0 rfl rfl (fun _=>by simp) (.bool qs)).set 3 1 rfl rfl (fun _=>by simp) (.slice a8 (lenW qn) c8)).set 3 2 rfl rfl (fun _=>by simp) (.slice b9 (lenW qd) d9))
    generalize (((wd.setCell ⟨p9_,0,none⟩ (.bool qs)).setCell ⟨p9_,1,none⟩ (.slice a8 (lenW qn) c8)).setCell ⟨p9_,2,none⟩ (.slice b9 (lenW qd) d9))=wd at HN  ⊢
   all_goals
    refine hK.out _ _ (⟨HN.out.cell 0 0 rfl rfl,HN.out.cell 0 1 rfl rfl,HN.out.cell 2 0 rfl rfl⟩) (fun hHeld2=>?_)
    clear hK K hHeld
    rename _=>hHeld
    try simp only [Act.put,stB,stZ,stS]
   all_goals first
   |
    have _:Mk 3 _:=tg
    refine tm 6 (some 13) ?_
    refine tm 7 (some 20) ?_
    refine tm 8 (some 21) ?_
   |
    have _:Mk 4 _:=tg
    refine tm 11 (some 5) ?_
   | skip
  all_goals (refine wpAnyH_done (by kernel_rfl) ?_ _)
  all_goals
   go_wp2_with fail
   go_meet
   exact ⟨_,_,_,_,_,rfl,(HN.out.pick2 1 3 rfl rfl (by decide)).only (List.Sublist.refl _) (fun z hz=>by
    simp only [List.mem_cons,List.not_mem_nil,or_false] at hz
    rcases hz with rfl | rfl <;> simp)⟩
 case rest =>
  obtain ⟨w4,rfl⟩:∃ w4:World,w4=wc:=⟨_,rfl⟩
  obtain ⟨p4,a8,c8,b9,d9,rfl,hn0⟩:=hcut
  have HN:=qH hn0
  clear hn0
  have ⟨k00,f00,k01,f01,k02,f02⟩:=HN.out.cf3 0 rfl
  have ⟨k10,f10,k11,f11,k12,f12⟩:=HN.out.cf3 1 rfl
  have HE:=qH ((((HN.out).set 0 0 rfl rfl (fun _=>by simp) (.bool qs)).set 0 1 rfl rfl (fun _=>by simp) (.slice a8 (lenW qn) c8)).set 0 2 rfl rfl (fun _=>by simp) (.slice b9 (lenW qd) d9))
  have ⟨j0_0,j1_0,j2_0⟩:=HE.out.cg3 0 rfl
  go_wp2_with fail
  refine bodyPost_ret (v:=.agg #[.bool qs,.slice a8 (lenW qn) c8,.slice b9 (lenW qd) d9]) (by simp [results,Tryz.results26,go_sem,j0_0,j1_0,j2_0,k00,k01,k02,k10,k11,k12]) rfl ?_
  exact ⟨a8,c8,b9,d9,rfl,HE.out.nat 0 rfl,HE.out.nat 1 rfl,HE.out.bel⟩
theorem make8_zero (sg zs ds qs:Bool) (a b:Option Addr) (n c m d y o zm dm qn qd:Nat) (w:World) (HOF:Hid (∀ W,Below w.heap.size w W→Calls Tryz.prog 68 #[.slice b m d] W (RetN y W)))
  (HMK:Hid (∀ W,Below w.heap.size w W→Calls Tryz.prog 71 #[.agg #[.bool sg,.slice a n c]] W (fun e w'=>∃ a c,e=.returned (.agg #[.bool zs,.slice a (lenW zm) c])∧NatW w' a c zm∧Below W.heap.size W w')))
  (HI2:Hid (∀ a c W,NatW W a c o→Calls Tryz.prog 72 #[.bool false,.agg #[.slice a (lenW o) c]] W (fun e w'=>∃ a c,e=.returned (.agg #[.bool ds,.slice a (lenW dm) c])∧NatW w' a c dm∧Below W.heap.size W w')))
  (HRN:Hid (∀ a c a2 c2 W,NatW W a c zm→NatW W a2 c2 dm→Calls Tryz.prog 70 #[.agg #[.bool zs,.slice a (lenW zm) c],.agg #[.bool ds,.slice a2 (lenW dm) c2]] W fun e w'=>∃ a8 c8 b9 d9,e=.returned (.tuple #[.agg #[.bool qs,.slice a8 (lenW qn) c8,.slice b9 (lenW qd) d9],.bool true])∧NatW w' a8 c8 qn∧NatW w' b9 d9 qd∧Below W.heap.size W w')) (HZ:Hid (∀ a c W,Calls Tryz.prog 69 #[.agg #[.slice a (lenW y) c]] W fun e w'=>e=.returned (.bool true)∧Below W.heap.size W w'))
  (HO1:Hid (∀ (p:Nat) (W:World),W.heap[p]?=some (.cells #[.int .u64 1] 164 (0,0))→Calls Tryz.prog 68 #[.slice (some ⟨p,0,none⟩) 1 1] W (RetN o W))) :
  Calls Tryz.prog 26 #[.agg #[.bool sg,.slice a n c,.slice b m d]] w (fun e w'=>∃ a8 c8 b9 d9,e=.returned (.agg #[.bool qs,.slice a8 (lenW qn) c8,.slice b9 (lenW qd) d9])∧NatW w' a8 c8 qn∧NatW w' b9 d9 qd∧Below w.heap.size w w'):=by
 obtain ⟨W0,hW0⟩:∃ W0,W0=((w.alloc (.cells #[.bool sg,.slice a n c,.slice b m d] 26)).alloc (.cells #[.bool false,.slice none 0 0,.slice none 0 0] 45)):=⟨_,rfl⟩
 have hbs:BS w [⟨w.heap.size,26,[.bool sg,.slice a n c,.slice b m d]⟩,⟨w.heap.size+1,45,[.bool false,.slice none 0 0,.slice none 0 0]⟩] [] ((w.alloc (.cells #[.bool sg,.slice a n c,.slice b m d] 26)).alloc (.cells #[.bool false,.slice none 0 0,.slice none 0 0] 45)) :=
   (((BS.start w).alloc (p:=w.heap.size) rfl 26 [.bool sg,.slice a n c,.slice b m d] rfl).alloc (p:=w.heap.size+1) (by simp) 45 [.bool false,.slice none 0 0,.slice none 0 0] rfl)
 rw [← hW0] at hbs
 have HW0:=qH hW0
 have HN:=qH hbs
 clear hW0 hbs
 go_enter Tryz.func26,Tryz.ntmps26
 go_wp2_with fail
 rw [← HW0.out]
 refine (HOF.out _ HN.out.bel).mono ?_
 rintro e w1 ⟨a3,c3,rfl,hq0,hb⟩
 replace HN:=qH ((HN.out.call hb).got hq0)
 clear hb hq0
 have ⟨k00,f00,k01,f01,k02,f02⟩:=HN.out.cf3 0 rfl
 have l0:=HN.out.lt 0 rfl
 have ⟨k10,f10,k11,f11,k12,f12⟩:=HN.out.cf3 1 rfl
 have l1:=HN.out.lt 1 rfl
 have HP:=qH (HN.out.alloc (p:=w1.heap.size) rfl 41 [.slice a3 (lenW y) c3] rfl)
 have ⟨k00p,f00p,k01p,f01p,k02p,f02p⟩:=HP.out.cf3 0 rfl
 have ⟨k10p,f10p,k11p,f11p,k12p,f12p⟩:=HP.out.cf3 1 rfl
 have ⟨k20p,f20p⟩:=HP.out.cf1 2 rfl
 go_wp2_with fail
 clear k00 f00 k01 f01 k02 f02 l0 k10 f10 k11 f11 k12 f12 l1 k00p f00p k01p f01p k02p f02p k10p f10p k11p f11p k12p f12p k20p f20p HN
 have HN:=HP
 clear HP
 generalize (w1.alloc (.cells #[.slice a3 (lenW y) c3] 41))=wa2 at HN  ⊢
 refine (HZ.out a3 c3 _).mono ?_
 rintro e w3 ⟨rfl,hb⟩
 replace HN:=qH (HN.out.call hb)
 clear hb 
 have ⟨k00,f00,k01,f01,k02,f02⟩:=HN.out.cf3 0 rfl
 have l0:=HN.out.lt 0 rfl
 have ⟨k10,f10,k11,f11,k12,f12⟩:=HN.out.cf3 1 rfl
 have l1:=HN.out.lt 1 rfl
 have ⟨k20,f20⟩:=HN.out.cf1 2 rfl
 have l2:=HN.out.lt 2 rfl
 have HP:=qH (HN.out.alloc (p:=w3.heap.size) rfl 164 [.int .u64 1] rfl)
 have ⟨k00p,f00p,k01p,f01p,k02p,f02p⟩:=HP.out.cf3 0 rfl
 have ⟨k10p,f10p,k11p,f11p,k12p,f12p⟩:=HP.out.cf3 1 rfl
 have ⟨k20p,f20p⟩:=HP.out.cf1 2 rfl
 have ⟨k30p,f30p⟩:=HP.out.cf1 3 rfl
 go_wp2_with fail
 clear k00 f00 k01 f01 k02 f02 l0 k10 f10 k11 f11 k12 f12 l1 k20 f20 l2 k00p f00p k01p f01p k02p f02p k10p f10p k11p f11p k12p f12p k20p f20p k30p f30p HN
 have HN:=HP
 clear HP
 generalize (w3.alloc (.cells #[.int .u64 1] 164))=wa4 at HN  ⊢
 refine (HO1.out _ _ (HN.out.at 3 rfl)).mono ?_
 rintro e w5 ⟨a4,c4,rfl,hq0,hb⟩
 replace HN:=qH ((HN.out.call hb).got hq0)
 clear hb hq0
 have ⟨k00,f00,k01,f01,k02,f02⟩:=HN.out.cf3 0 rfl
 have l0:=HN.out.lt 0 rfl
 have ⟨k10,f10,k11,f11,k12,f12⟩:=HN.out.cf3 1 rfl
 have l1:=HN.out.lt 1 rfl
 have ⟨k20,f20⟩:=HN.out.cf1 2 rfl
 have l2:=HN.out.lt 2 rfl
 have ⟨k30,f30⟩:=HN.out.cf1 3 rfl
 have l3:=HN.out.lt 3 rfl
 have HP:=qH HN.out
 have ⟨k00p,f00p,k01p,f01p,k02p,f02p⟩:=HP.out.cf3 0 rfl
 have ⟨k10p,f10p,k11p,f11p,k12p,f12p⟩:=HP.out.cf3 1 rfl
 have ⟨k20p,f20p⟩:=HP.out.cf1 2 rfl
 have ⟨k30p,f30p⟩:=HP.out.cf1 3 rfl
 go_upto_region 4 with fail
 replace HP:=qH ((HP.out).set 2 0 rfl rfl (fun _=>by simp) (.slice a4 (lenW o) c4))
 clear k00 f00 k01 f01 k02 f02 l0 k10 f10 k11 f11 k12 f12 l1 k20 f20 l2 k30 f30 l3 k00p f00p k01p f01p k02p f02p k10p f10p k11p f11p k12p f12p k20p f20p k30p f30p HN
 have HN:=HP
 clear HP
 generalize (w5.setCell ⟨w1.heap.size,0,none⟩ (.slice a4 (lenW o) c4))=wa6 at HN  ⊢
 go_cut [4] (fun v4 wx=>∃ p4 a8 c8 b9 d9,v4=.pointer (some ⟨p4,0,none⟩)∧BS w [⟨w.heap.size+1,45,[.bool false,.slice none 0 0,.slice none 0 0]⟩,⟨p4,45,[.bool qs,.slice a8 (lenW qn) c8,.slice b9 (lenW qd) d9]⟩] [⟨a8,c8,qn⟩,⟨b9,d9,qd⟩] wx)
 case first =>
  replace HN:=qH HN.out.drew
  refine wp_region_held_drew (S:=fun W=>W.cell? ⟨w.heap.size,0,none⟩=some (.bool sg)∧W.cell? ⟨w.heap.size,1,none⟩=some (.slice a n c)∧W.cell? ⟨w1.heap.size,0,none⟩=some (.slice a4 (lenW o) c4)) (by kernel_rfl) (⟨HN.out.cell 0 0 rfl rfl,HN.out.cell 0 1 rfl rfl,HN.out.cell 2 0 rfl rfl⟩) (fun hHeld=>?_)
  generalize wa6.drew=wd at HN hHeld ⊢
  refine tm 0 (some 14) ?_
  refine tl 1 (some 15) ?_
  refine tl 3 (some 17) ?_
  have tg:=Mk.mk (v:=0) (d:=0)
  iterate 5
   all_goals first
   | refine qz2 0 tg 2 0 1 9 1 2 ?_ ?_
   | refine qz2 1 tg 4 2 3 9 1 4 ?_ ?_
   | refine qz1 2 tg 2 0 4 ?_
   | refine qz2 3 tg 5 3 5 9 1 6 ?_ ?_
   | refine qz1 4 tg 4 2 6 ?_
   | refine qz1 5 tg 9 1 7 ?_
   | refine qz1 6 tg 5 3 7 ?_
   | refine qz1 7 tg 10 4 8 ?_
   all_goals intro K hK tg
   all_goals first
   |
    have _:Mk 0 _:=tg
    go_simp
    refine (HMK.out _ HN.out.bel).mono ?_
    rintro e wd ⟨a5,c5,rfl,hq0,hb⟩
    replace HN:=qH ((HN.out.call hb).got hq0)
    clear hb hq0
    go_wp2_with fail
   |
    have _:Mk 1 _:=tg
    go_simp
    replace HN:=qH (HN.out.alloc (p:=wd.heap.size) rfl 45 [.bool false,.slice none 0 0,.slice none 0 0] rfl)
    generalize wd.heap.size=p9_ at HN ⊢
    generalize wd.alloc (.cells #[.bool false,.slice none 0 0,.slice none 0 0] 45)=wd at HN  ⊢
   |
    have _:Mk 2 _:=tg
    go_simp
    refine (HI2.out _ _ _ (HN.out.nat 1 rfl)).mono ?_
    rintro e wd ⟨a6,c6,rfl,hq0,hb⟩
    replace HN:=qH ((HN.out.call hb).got hq0)
    clear hb hq0
    go_wp2_with fail
   |
    have _:Mk 3 _:=tg
    go_simp
    refine (HRN.out _ _ _ _ _ (HN.out.nat 2 rfl) (HN.out.nat 3 rfl)).mono ?_
    rintro e wd ⟨a8,c8,b9,d9,rfl,hq0,hq1,hb⟩
    replace HN:=qH (((HN.out.call hb).got hq0).got hq1)
    clear hb hq0 hq1
    go_wp2_with fail
   |
    have _:Mk 4 _:=tg
    have hc0:=HN.out.cell 4 0 rfl rfl
    have hf0:=HN.out.free 4 0 rfl
    have hc1:=HN.out.cell 4 1 rfl rfl
    have hf1:=HN.out.free 4 1 rfl
    have hc2:=HN.out.cell 4 2 rfl rfl
    have hf2:=HN.out.free 4 2 rfl
    go_simp
    clear hc0 hf0 hc1 hf1 hc2 hf2
    replace HN:=qH ((((HN.out).set 4 0 rfl rfl (fun _=>by simp) (.bool qs)).set 4 1 rfl rfl (fun _=>by simp) (.slice a8 (lenW qn) c8)).set 4 2 rfl rfl (fun _=>by simp) (.slice b9 (lenW qd) d9))
    generalize (((wd.setCell ⟨p9_,0,none⟩ (.bool qs)).setCell ⟨p9_,1,none⟩ (.slice a8 (lenW qn) c8)).setCell ⟨p9_,2,none⟩ (.slice b9 (lenW qd) d9))=wd at HN  ⊢
   all_goals
    refine hK.out _ _ (⟨HN.out.cell 0 0 rfl rfl,HN.out.cell 0 1 rfl rfl,HN.out.cell 2 0 rfl rfl⟩) (fun hHeld2=>?_)
    clear hK K hHeld
    rename _=>hHeld
    try simp only [Act.put,stB,stZ,stS]
   all_goals first
   |
    have _:Mk 3 _:=tg
    refine tm 6 (some 13) ?_
    refine tm 7 (some 20) ?_
    refine tm 8 (some 21) ?_
   |
    have _:Mk 4 _:=tg
    refine tm 11 (some 5) ?_
   | skip
  all_goals (refine wpAnyH_done (by kernel_rfl) ?_ _)
  all_goals
   go_wp2_with fail
   go_meet
   exact ⟨_,_,_,_,_,rfl,(HN.out.pick2 1 4 rfl rfl (by decide)).only (List.Sublist.refl _) (fun z hz=>by
    simp only [List.mem_cons,List.not_mem_nil,or_false] at hz
    rcases hz with rfl | rfl <;> simp)⟩
 case rest =>
  obtain ⟨w7,rfl⟩:∃ w7:World,w7=wc:=⟨_,rfl⟩
  obtain ⟨p4,a8,c8,b9,d9,rfl,hn0⟩:=hcut
  have HN:=qH hn0
  clear hn0
  have ⟨k00,f00,k01,f01,k02,f02⟩:=HN.out.cf3 0 rfl
  have ⟨k10,f10,k11,f11,k12,f12⟩:=HN.out.cf3 1 rfl
  have HE:=qH ((((HN.out).set 0 0 rfl rfl (fun _=>by simp) (.bool qs)).set 0 1 rfl rfl (fun _=>by simp) (.slice a8 (lenW qn) c8)).set 0 2 rfl rfl (fun _=>by simp) (.slice b9 (lenW qd) d9))
  have ⟨j0_0,j1_0,j2_0⟩:=HE.out.cg3 0 rfl
  go_wp2_with fail
  refine bodyPost_ret (v:=.agg #[.bool qs,.slice a8 (lenW qn) c8,.slice b9 (lenW qd) d9]) (by simp [results,Tryz.results26,go_sem,j0_0,j1_0,j2_0,k00,k01,k02,k10,k11,k12]) rfl ?_
  exact ⟨a8,c8,b9,d9,rfl,HE.out.nat 0 rfl,HE.out.nat 1 rfl,HE.out.bel⟩
theorem of_one2 (p:Nat) (W:World) (h:W.heap[p]?=some (.cells #[.int .u64 1] 164 (0,0))):Calls Tryz.prog 68 #[.slice (some ⟨p,0,none⟩) 1 1] W (RetN 1 W):=by
 have hs:Sl W 1 (.slice (some ⟨p,0,none⟩) 1 1) 1 ([1].map UV):=⟨rfl,.inr ⟨p,0,1,rfl,Nat.le_refl _,by unfold maxLen;omega,lt_of_block h,fun j u hj=>by
  match j,hj with
  | 0,hj=>injection hj with hj;subst hj;exact cell_of_block h rfl⟩⟩
 exact of_any _ _ _ [1] W hs (fun x hx=>by rw [List.mem_singleton.1 hx];unfold W64;omega) (by omega)
def denG (ys:List Nat):Nat:=if val ys=0 then 1 else val ys
def ratG (sg:Bool) (xs ys:List Nat):Rat:=Rat.divInt (newI sg (val xs)) (denG ys:Int)
def RetRV (q:Rat) (w:World) (e:Ending) (w':World):Prop:=∃ a c b d,e=.returned (ratV a c b d q)∧NatW w' a c q.num.natAbs∧NatW w' b d (denN q.den)∧Below w.heap.size w w'
theorem denG_ne (ys:List Nat):denG ys≠0:=by unfold denG;split <;> omega
theorem val_words {xs:List Nat} (h:∀ x∈xs,x<W64):lenW (val xs)≤xs.length:=lenW_le (val_lt xs h)
theorem make8_any (sg:Bool) (a b:Option Addr) (n c m d:Nat) (xs ys:List Nat) (w:World) (h1:Sl w 1 (.slice a n c) n (xs.map UV)) (h2:Sl w 1 (.slice b m d) m (ys.map UV)) (hx:∀ x∈xs,x<W64) (hy:∀ x∈ys,x<W64) (hs1:n≤1099511627776) (hs2:m≤1099511627776) :
  Calls Tryz.prog 26 #[.agg #[.bool sg,.slice a n c,.slice b m d]] w (RetRV (ratG sg xs ys) w):=by
 have hl1:xs.length=n:=by have:=h1.1;rw [List.length_map,Nat.mul_one] at this;exact this
 have hl2:ys.length=m:=by have:=h2.1;rw [List.length_map,Nat.mul_one] at this;exact this
 have hv1:=val_words hx
 have hv2:=val_words hy
 rw [hl1] at hv1
 rw [hl2] at hv2
 have hd0:=denG_ne ys
 have hdl:lenW (denG ys)≤1099511627777:=by
  unfold denG
  split
  ·
   exact Nat.le_trans (lenW_le (m:=1) (by unfold W64;omega)) (by omega)
  ·
   omega
 obtain ⟨z,hz⟩:∃ z,newI sg (val xs)=z:=⟨_,rfl⟩
 have hza:z.natAbs=val xs:=by rw [← hz,newI_abs]
 unfold ratG
 rw [hz]
 have hMK:=fun (W:World) (hb:Below w.heap.size w W)=>hz▸make7_any sg a n c xs W (Sl.below h1 hb) hx hs1
 have hOF:=fun (W:World) (hb:Below w.heap.size w W)=>of_any b d m ys W (Sl.below h2 hb) hy (by omega)
 have hI2:=fun (a:Option Addr) (c:Nat) (W:World) (h:NatW W a c (denG ys))=>(newI_false (denG ys)▸inew_any false a c (denG ys) W h:Calls Tryz.prog 72 #[.bool false,.agg #[.slice a (lenW (denG ys)) c]] W (RetI ((denG ys:Nat):Int) W))
 have hRN:=fun (a:Option Addr) (c:Nat) (a2:Option Addr) (c2:Nat) (W:World) (q1:NatW W a c z.natAbs) (q2:NatW W a2 c2 ((denG ys:Nat):Int).natAbs)=>rnew_any (Nat.le_refl 4398046511104) div_upto z ((denG ys:Nat):Int) a a2 c c2 W q1 q2 (by rw [hza];omega) (by rw [Int.natAbs_natCast];omega) (by omega)
 by_cases h0:val ys=0
 ·
  exact make8_zero sg _ _ _ a b n c m d (val ys) (denG ys) _ _ _ _ w (qH hOF) (qH hMK) (qH hI2) (qH hRN) (qH fun a c W=>nzero_is a c (val ys) W h0) (qH fun p W h=>by rw [show denG ys=1 by unfold denG;rw [if_pos h0]];exact of_one2 p W h)
 ·
  have hd:denG ys=val ys:=by unfold denG;rw [if_neg h0]
  rw [hd] at hI2 hRN
  rw [hd]
  exact make8_other sg _ _ _ a b n c m d (val ys) _ _ _ _ w (qH hOF) (qH hMK) (qH hI2) (qH hRN) (qH fun a c W=>nzero_no a c (val ys) W h0)
end Go.Proofs.YtmhainidincjhaaGreatDoor
