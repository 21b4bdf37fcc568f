/-
 What the laws stand on, part Xe: contracts and plain laws of TVec, TSame, TSame2; the conditions are each law's own.
-/
import Derived.Test.YtmhainidincjhaaGreatDoorBXa
import Derived.Test.YtmhainidincjhaaGreatDoorBD
import Derived.Test.YtmhainidincjhaaGreatDoorBB
import Derived.Deep.RegionHeld3
import Derived.Test.YtmhainidincjhaaGreatDoorBN
set_option linter.unusedVariables false
set_option linter.unusedSimpArgs false
set_option maxRecDepth 100000
set_option maxHeartbeats 16000000
namespace Go.Proofs.YtmhainidincjhaaGreatDoor
open Go.RowKit
def SzR (q:Rat):Prop:=lenW q.num.natAbs≤1099511627776∧lenW q.den≤1099511627776
theorem rcmpV (u v:Rv) (w:World) (hu:u.ok w) (hv:v.ok w) (s1:SzR u.q) (s2:SzR v.q):Calls Tryz.prog 88 #[.agg #[.bool u.s,.slice u.a u.l u.c,.slice u.b u.m u.d],.agg #[.bool v.s,.slice v.a v.l v.c,.slice v.b v.m v.d]] w fun e w'=>e=.returned (.int .i64 (cmpR u.q v.q))∧Below w.heap.size w w':=by
 have e1:=hu.val
 have e2:=hv.val
 unfold Rv.val at e1 e2
 rw [e1,e2]
 have:=s1.1;have:=s1.2;have:=s2.1;have:=s2.2
 exact rcmp_any (mul_upto 4398046511104 (Nat.le_refl _)) u.q v.q u.a u.b v.a v.b u.c u.d v.c v.d w hu.num hu.den hv.num hv.den (by rw [Int.natAbs_natCast];omega) (by rw [Int.natAbs_natCast];omega)
theorem rsameV (u v:Rv) (w:World) (hu:u.ok w) (hv:v.ok w) (s1:SzR u.q) (s2:SzR v.q):Calls Tryz.prog 34 #[.agg #[.bool u.s,.slice u.a u.l u.c,.slice u.b u.m u.d],.agg #[.bool v.s,.slice v.a v.l v.c,.slice v.b v.m v.d]] w fun e w'=>e=.returned (.bool (decide (u.q=v.q)))∧Below w.heap.size w w':=by
 have e1:=hu.val
 have e2:=hv.val
 unfold Rv.val at e1 e2
 rw [e1,e2]
 have:=s1.1;have:=s1.2;have:=s2.1;have:=s2.2
 exact rsame_any (mul_upto 4398046511104 (Nat.le_refl _)) u.q v.q u.a u.b v.a v.b u.c u.d v.c v.d w hu.num hu.den hv.num hv.den (by rw [Int.natAbs_natCast];omega) (by rw [Int.natAbs_natCast];omega)
def sameQ (us vs:List Rv):Prop:=us.map (·.q)=vs.map (·.q)
instance (us vs:List Rv):Decidable (sameQ us vs):=inferInstanceAs (Decidable (_=_))
def CmpV (us vs:List Rv) (w:World) (e:Ending) (w':World):Prop:=∃ z:Int,e=.returned (.int .i64 z)∧(z==0)=decide (sameQ us vs)∧Below w.heap.size w w'
theorem take_same {us vs:List Rv} {k:Nat} {u v:Rv} (h:(us.take k).map (·.q)=(vs.take k).map (·.q)) (hu:us[k]?=some u) (hv:vs[k]?=some v) (hq:u.q=v.q):(us.take (k+1)).map (·.q)=(vs.take (k+1)).map (·.q):=by
 obtain ⟨h1,rfl⟩:=List.getElem?_eq_some_iff.1 hu
 obtain ⟨h2,rfl⟩:=List.getElem?_eq_some_iff.1 hv
 rw [List.take_succ_eq_append_getElem h1,List.take_succ_eq_append_getElem h2,List.map_append,List.map_append,h]
 simp [hq]
theorem not_same {us vs:List Rv} {k:Nat} {u v:Rv} (hu:us[k]?=some u) (hv:vs[k]?=some v) (hq:u.q≠v.q):¬ sameQ us vs:=fun h=>by
 have h1:(us.map (·.q))[k]?=some u.q:=by rw [List.getElem?_map,hu];rfl
 have h2:(vs.map (·.q))[k]?=some v.q:=by rw [List.getElem?_map,hv];rfl
 unfold sameQ at h
 rw [h,h2] at h1
 exact hq (Option.some.inj h1).symm
theorem vcmp_eq (a b:Option Addr) (m c d:Nat) (us vs:List Rv) (w:World) (hu:VecW w a m c us) (hv:VecW w b m d vs) (hs1:∀ v,v∈us→SzR v.q) (hs2:∀ v,v∈vs→SzR v.q):Calls Tryz.prog 198 #[.slice a m c,.slice b m d] w (CmpV us vs w):=by
 have hm1:=hu.sl.lenI
 have hn1:=hv.sl.lenI
 have HU:=qH hu
 have HV:=qH hv
 have HS1:=qH hs1
 have HS2:=qH hs2
 clear hu hv hs1 hs2
 go_enter Tryz.func198,Tryz.ntmps198
 go_wp2
 go_loopw [12] (fun iv wr=>∃ k:Nat,k≤m∧iv=.int .i64 k∧Below w.heap.size w wr∧(us.take k).map (·.q)=(vs.take k).map (·.q)) (fun iv _=>m - (intOf iv).toNat)
 case atStart=>exact ⟨0,Nat.zero_le _,rfl,Below.refl _ _,rfl⟩
 case round =>
  obtain ⟨k,hk,rfl,hb,ht⟩:=hrel
  have hu:=HU.out.below hb
  have hv:=HV.out.below hb
  by_cases hlt:k<m
  ·
   obtain ⟨b1,o1,u,rfl,eu,_,p0,p1,p2,uok⟩:=hu.get k (by omega)
   obtain ⟨b2,o2,v,rfl,ev,_,q0,q1,q2,vok⟩:=hv.get k (by omega)
   have i0:(0:Int)≤(k:Int):=by omega
   have i1:(k:Int)<(m:Int):=by omega
   have HC:=qH (fun (W:World) (h:Below wr.heap.size wr W)=>rcmpV u v W (uok.below h) (vok.below h) (HS1.out u (List.mem_of_getElem? eu)) (HS2.out v (List.mem_of_getElem? ev)))
   have HKS:=qH (fun (W:World) (h:Below wr.heap.size wr W)=>(⟨(h.cell (p:=⟨b1,o1+k*3,none⟩) (World.block_lt_of_cell? _ _ p0)).trans p0,(h.cell (p:=⟨b1,o1+k*3+1,none⟩) (World.block_lt_of_cell? _ _ p1)).trans p1,(h.cell (p:=⟨b1,o1+k*3+2,none⟩) (World.block_lt_of_cell? _ _ p2)).trans p2,(h.cell (p:=⟨b2,o2+k*3,none⟩) (World.block_lt_of_cell? _ _ q0)).trans q0,(h.cell (p:=⟨b2,o2+k*3+1,none⟩) (World.block_lt_of_cell? _ _ q1)).trans q1,(h.cell (p:=⟨b2,o2+k*3+2,none⟩) (World.block_lt_of_cell? _ _ q2)).trans q2⟩ :
    W.cell? ⟨b1,o1+k*3,none⟩=some (.bool u.s)∧W.cell? ⟨b1,o1+k*3+1,none⟩=some (.slice u.a u.l u.c)∧W.cell? ⟨b1,o1+k*3+2,none⟩=some (.slice u.b u.m u.d)∧W.cell? ⟨b2,o2+k*3,none⟩=some (.bool v.s)∧W.cell? ⟨b2,o2+k*3+1,none⟩=some (.slice v.a v.l v.c)∧W.cell? ⟨b2,o2+k*3+2,none⟩=some (.slice v.b v.m v.d)))
   have HDR:=qH (Below.drawn wr 1)
   obtain ⟨z,hz⟩:∃ z,cmpR u.q v.q=z:=⟨_,rfl⟩
   rw [hz] at HC
   have HB:=qH hb
   by_cases hq:u.q=v.q
   ·
    have hz0:z=0:=by rw [← hz];exact (cmpR_same _ _).2 hq
    subst hz0
    have HT:=qH (take_same ht eu ev hq)
    clear hu hv p0 p1 p2 q0 q1 q2 uok vok hz hq ht eu ev hb
    go_upto_region 4 with fail
    go_region_held3 (fun W=>W.cell? ⟨b1,o1+k*3,none⟩=some (.bool u.s)∧W.cell? ⟨b1,o1+k*3+1,none⟩=some (.slice u.a u.l u.c)∧W.cell? ⟨b1,o1+k*3+2,none⟩=some (.slice u.b u.m u.d)∧W.cell? ⟨b2,o2+k*3,none⟩=some (.bool v.s)∧W.cell? ⟨b2,o2+k*3+1,none⟩=some (.slice v.a v.l v.c)∧W.cell? ⟨b2,o2+k*3+2,none⟩=some (.slice v.b v.m v.d)) (first | exact HKS.out _ HDR.out | exact HKS.out _ (by assumption)) (first
     | (go_at_call 88;refine (HC.out _ HDR.out).mono ?_;rintro e w1 ⟨rfl,hb1⟩;have hbb:=bthen HDR.out hb1;have HB1:=qH hb1;clear hb1))
    all_goals
     go_wp2
     go_roundw
     case rel=>exact ⟨k+1,by omega,by go_num,bthen (bthen HB.out HDR.out) HB1.out,HT.out⟩
     case measure=>simp [intOf];omega
   ·
    have hz0:z≠0:=by rw [← hz];exact fun h=>hq ((cmpR_same _ _).1 h)
    have hzb:(z != 0)=true:=by simp [hz0]
    have HD:=qH (show (z==0)=decide (sameQ us vs) by rw [decide_eq_false (not_same eu ev hq)];exact beq_eq_false_iff_ne.2 hz0)
    clear hu hv p0 p1 p2 q0 q1 q2 uok vok hz hq ht eu ev hb hz0
    go_upto_region 4 with fail
    go_region_held3 (fun W=>W.cell? ⟨b1,o1+k*3,none⟩=some (.bool u.s)∧W.cell? ⟨b1,o1+k*3+1,none⟩=some (.slice u.a u.l u.c)∧W.cell? ⟨b1,o1+k*3+2,none⟩=some (.slice u.b u.m u.d)∧W.cell? ⟨b2,o2+k*3,none⟩=some (.bool v.s)∧W.cell? ⟨b2,o2+k*3+1,none⟩=some (.slice v.a v.l v.c)∧W.cell? ⟨b2,o2+k*3+2,none⟩=some (.slice v.b v.m v.d)) (first | exact HKS.out _ HDR.out | exact HKS.out _ (by assumption)) (first
     | (go_at_call 88;refine (HC.out _ HDR.out).mono ?_;rintro e w1 ⟨rfl,hb1⟩;have hbb:=bthen HDR.out hb1;have HB1:=qH hb1;clear hb1))
    all_goals
     go_wp2
     go_ret
     exact ⟨z,rfl,HD.out,bthen (bthen HB.out HDR.out) HB1.out⟩
  ·
   obtain rfl:k=m:=by omega
   have hs:sameQ us vs:=by
    have e1:=hu.len
    have e2:=hv.len
    rw [← e1,List.take_length] at ht
    rw [show us.length=vs.length by omega,List.take_length] at ht
    exact ht
   have HD:=qH (decide_eq_true hs)
   have HB:=qH hb
   clear hu hv hb ht
   go_wp2
   go_ret
   exact ⟨0,rfl,by rw [HD.out];rfl,HB.out⟩
theorem vsame_eq (a b:Option Addr) (m c d:Nat) (us vs:List Rv) (w:World) (hu:VecW w a m c us) (hv:VecW w b m d vs) (hs1:∀ v,v∈us→SzR v.q) (hs2:∀ v,v∈vs→SzR v.q):Calls Tryz.prog 175 #[.slice a m c,.slice b m d] w fun e w'=>e=.returned (.bool (decide (sameQ us vs)))∧Below w.heap.size w w':=by
 have HC:=qH (vcmp_eq a b m c d us vs w hu hv hs1 hs2)
 obtain ⟨z2,hz2⟩:∃ z,decide (sameQ us vs)=z:=⟨_,rfl⟩
 have HZ:=qH hz2
 rw [hz2]
 clear hu hv hz2 hs1 hs2
 go_enter Tryz.func175,Tryz.ntmps175
 go_wp2_with fail
 refine HC.out.mono ?_
 rintro e w1 ⟨z,rfl,hz,hb⟩
 rw [HZ.out] at hz
 have HB:=qH hb
 have HZZ:=qH hz
 clear hb hz
 go_wp2_with fail
 go_ret
 exact ⟨by rw [← HZZ.out];rfl,HB.out⟩
end Go.Proofs.YtmhainidincjhaaGreatDoor
namespace Go.Proofs.YtmhainidincjhaaGreatDoor
open Go.RowKit Go.Extern.Stop Go.Stop Go.Extern
instance (a b:Ans):Decidable (a=b):=decidable_of_iff (a.out=b.out∧a.value=b.value∧a.point=b.point) (by
 constructor
 ·
  rintro ⟨h0,h1,h2⟩
  cases a;cases b
  simp only at h0 h1 h2
  simp only [h0,h1,h2]
 ·
  rintro rfl;exact ⟨rfl,rfl,rfl⟩)
instance (a b:Rng):Decidable (a=b):=decidable_of_iff (a.hasLo=b.hasLo∧a.hasHi=b.hasHi∧a.lo=b.lo∧a.hi=b.hi) (by
 constructor
 ·
  rintro ⟨h0,h1,h2,h3⟩
  cases a;cases b
  simp only at h0 h1 h2 h3
  simp only [h0,h1,h2,h3]
 ·
  rintro rfl;exact ⟨rfl,rfl,rfl,rfl⟩)
instance (a b:Rep):Decidable (a=b):=decidable_of_iff (a.err=b.err∧a.wher=b.wher∧a.at9=b.at9∧a.id=b.id∧a.ans=b.ans∧a.rng=b.rng∧a.u0=b.u0∧a.u1=b.u1∧a.u2=b.u2) (by
 constructor
 ·
  rintro ⟨h0,h1,h2,h3,h4,h5,h6,h7,h8⟩
  cases a;cases b
  simp only at h0 h1 h2 h3 h4 h5 h6 h7 h8
  simp only [h0,h1,h2,h3,h4,h5,h6,h7,h8]
 ·
  rintro rfl;exact ⟨rfl,rfl,rfl,rfl,rfl,rfl,rfl,rfl,rfl⟩)
theorem csame_any (o1 o2:Int) (u v:Rv) (a b:Option Addr) (n c m d:Nat) (us vs:List Rv) (w:World) (hu:u.ok w) (hv:v.ok w) (s1:SzR u.q) (s2:SzR v.q) (hus:VecW w a n c us) (hvs:VecW w b m d vs) (hs1:∀ v,v∈us→SzR v.q) (hs2:∀ v,v∈vs→SzR v.q) :
  Calls Tryz.prog 120 #[.agg #[.int .i64 o1,.bool u.s,.slice u.a u.l u.c,.slice u.b u.m u.d,.slice a n c],.agg #[.int .i64 o2,.bool v.s,.slice v.a v.l v.c,.slice v.b v.m v.d,.slice b m d]] w fun e w'=>e=.returned (.bool (decide ((⟨o1,u.q,qs us⟩:Ans)=⟨o2,v.q,qs vs⟩)))∧Below w.heap.size w w':=by
 have HR:=qH (fun W (hb:Below w.heap.size w W)=>rsameV u v W (hu.below hb) (hv.below hb) s1 s2)
 have HV:=qH (show ∀ (e:n=m) W (hb:Below w.heap.size w W),Calls Tryz.prog 175 #[.slice a n c,.slice b m d] W (fun e w'=>e=.returned (.bool (decide (sameQ us vs)))∧Below W.heap.size W w') from fun e W hb=>by subst e;exact vsame_eq a b n c d us vs W (hus.below hb) (hvs.below hb) hs1 hs2)
 have HL:=qH (And.intro hus.len hvs.len)
 clear hu hv s1 s2 hus hvs hs1 hs2
 obtain ⟨zz,hzz⟩:∃ z,decide ((⟨o1,u.q,qs us⟩:Ans)=⟨o2,v.q,qs vs⟩)=z:=⟨_,rfl⟩
 rw [hzz]
 obtain ⟨W0,hW0⟩:∃ W0,W0=((w.alloc (.cells #[.int .i64 o1,.bool u.s,.slice u.a u.l u.c,.slice u.b u.m u.d,.slice a n c] 117)).alloc (.cells #[.int .i64 o2,.bool v.s,.slice v.a v.l v.c,.slice v.b v.m v.d,.slice b m d] 117)):=⟨_,rfl⟩
 have hbs:BS w [⟨w.heap.size,117,[.int .i64 o1,.bool u.s,.slice u.a u.l u.c,.slice u.b u.m u.d,.slice a n c]⟩,⟨w.heap.size+1,117,[.int .i64 o2,.bool v.s,.slice v.a v.l v.c,.slice v.b v.m v.d,.slice b m d]⟩] [] ((w.alloc (.cells #[.int .i64 o1,.bool u.s,.slice u.a u.l u.c,.slice u.b u.m u.d,.slice a n c] 117)).alloc (.cells #[.int .i64 o2,.bool v.s,.slice v.a v.l v.c,.slice v.b v.m v.d,.slice b m d] 117)) :=
   (((BS.start w).alloc (p:=w.heap.size) rfl 117 [.int .i64 o1,.bool u.s,.slice u.a u.l u.c,.slice u.b u.m u.d,.slice a n c] rfl).alloc (p:=w.heap.size+1) (by simp) 117 [.int .i64 o2,.bool v.s,.slice v.a v.l v.c,.slice v.b v.m v.d,.slice b m d] rfl)
 rw [← hW0] at hbs
 have HW0:=qH hW0
 have HN:=qH hbs
 clear hW0 hbs
 go_enter Tryz.func120,Tryz.ntmps120
 go_upto_region 1 with fail
 rw [← HW0.out]
 by_cases h0:o1=o2
 case' neg =>
  have g0:(o1==o2)=false:=beq_eq_false_iff_ne.2 h0
  obtain rfl:zz=false:=hzz.symm.trans (decide_eq_false (fun h:(⟨o1,u.q,qs us⟩:Ans)=⟨o2,v.q,qs vs⟩=>h0 (congrArg Ans.out h)))
  have H0:=qH h0
  clear hzz h0
 case' pos =>
  have g0:(o1==o2)=true:=beq_iff_eq.2 h0
  have H0:=qH h0
  clear h0
  by_cases h1:u.q=v.q
  case' neg =>
   obtain rfl:zz=false:=hzz.symm.trans (decide_eq_false (fun h:(⟨o1,u.q,qs us⟩:Ans)=⟨o2,v.q,qs vs⟩=>h1 (congrArg Ans.value h)))
   have H1:=qH h1
   clear hzz h1
  case' pos =>
   have H1:=qH h1
   clear h1
   by_cases h2:n=m
   case' neg =>
    have g2:((n:Int)==(m:Int))=false:=beq_eq_false_iff_ne.2 (fun e=>h2 (Int.ofNat.inj e))
    obtain rfl:zz=false:=hzz.symm.trans (decide_eq_false (fun h:(⟨o1,u.q,qs us⟩:Ans)=⟨o2,v.q,qs vs⟩=>h2 (by have:=congrArg (fun a:Ans=>a.point.length) h;simp only [qs,List.length_map] at this;rw [HL.out.1,HL.out.2] at this;exact this)))
    have H2:=qH h2
    clear hzz h2
   case' pos =>
    have g2:((n:Int)==(m:Int))=true:=beq_iff_eq.2 (congrArg Nat.cast h2)
    have H2:=qH h2
    clear h2
    by_cases h3:sameQ us vs
    case' neg =>
     obtain rfl:zz=false:=hzz.symm.trans (decide_eq_false (fun h:(⟨o1,u.q,qs us⟩:Ans)=⟨o2,v.q,qs vs⟩=>h3 (congrArg Ans.point h)))
     have H3:=qH h3
     clear hzz h3
    case' pos =>
     have H3:=qH h3
     clear h3
     obtain rfl:zz=true:=hzz.symm.trans (decide_eq_true (show (⟨o1,u.q,qs us⟩:Ans)=⟨o2,v.q,qs vs⟩ from by have q3:=H3.out;unfold sameQ at q3;unfold qs;rw [H0.out,H1.out,q3]))
     clear hzz
 all_goals
  have ⟨k0_0,f0_0,k0_1,f0_1,k0_2,f0_2,k0_3,f0_3⟩:=HN.out.cf4 0 rfl
  have ⟨k1_0,f1_0,k1_1,f1_1,k1_2,f1_2,k1_3,f1_3⟩:=HN.out.cf4 1 rfl
  go_wp2_with fail
  try
   refine (HR.out _ HN.out.bel).mono ?_
   rintro e w1 ⟨rfl,hb⟩
   replace HN:=qH (HN.out.call hb)
   clear hb k0_0 f0_0 k0_1 f0_1 k0_2 f0_2 k0_3 f0_3 k1_0 f1_0 k1_1 f1_1 k1_2 f1_2 k1_3 f1_3
   first | rw [decide_eq_true H1.out] | rw [decide_eq_false H1.out]
   have k0_4:=HN.out.cell 0 4 rfl rfl
   have f0_4:=HN.out.free 0 4 rfl
   have k1_4:=HN.out.cell 1 4 rfl rfl
   have f1_4:=HN.out.free 1 4 rfl
   go_wp2_with fail
   try
    refine (HV.out H2.out _ HN.out.bel).mono ?_
    rintro e w2 ⟨rfl,hb⟩
    replace HN:=qH (HN.out.call hb)
    clear hb k0_4 f0_4 k1_4 f1_4
    first | rw [decide_eq_true H3.out] | rw [decide_eq_false H3.out]
    go_wp2_with fail
  refine bodyPost_ret ?_ rfl ⟨rfl,HN.out.bel⟩
  simp [results,Tryz.results120,go_sem]
theorem gsame_any (l1 l2 r1 r2:Bool) (u v u2 v2:Rv) (w:World) (hu:u.ok w) (hv:v.ok w) (s1:SzR u.q) (s2:SzR v.q) (hu2:u2.ok w) (hv2:v2.ok w) (s3:SzR u2.q) (s4:SzR v2.q) :
  Calls Tryz.prog 121 #[.agg #[.bool u.s,.slice u.a u.l u.c,.slice u.b u.m u.d,.bool u2.s,.slice u2.a u2.l u2.c,.slice u2.b u2.m u2.d,.bool l1,.bool r1],.agg #[.bool v.s,.slice v.a v.l v.c,.slice v.b v.m v.d,.bool v2.s,.slice v2.a v2.l v2.c,.slice v2.b v2.m v2.d,.bool l2,.bool r2]] w fun e w'=>e=.returned (.bool (decide ((⟨l1,r1,u.q,u2.q⟩:Rng)=⟨l2,r2,v.q,v2.q⟩)))∧Below w.heap.size w w':=by
 have HR1:=qH (fun W (hb:Below w.heap.size w W)=>rsameV u v W (hu.below hb) (hv.below hb) s1 s2)
 have HR2:=qH (fun W (hb:Below w.heap.size w W)=>rsameV u2 v2 W (hu2.below hb) (hv2.below hb) s3 s4)
 clear hu hv s1 s2 hu2 hv2 s3 s4
 obtain ⟨zz,hzz⟩:∃ z,decide ((⟨l1,r1,u.q,u2.q⟩:Rng)=⟨l2,r2,v.q,v2.q⟩)=z:=⟨_,rfl⟩
 rw [hzz]
 obtain ⟨W0,hW0⟩:∃ W0,W0=((w.alloc (.cells #[.bool u.s,.slice u.a u.l u.c,.slice u.b u.m u.d,.bool u2.s,.slice u2.a u2.l u2.c,.slice u2.b u2.m u2.d,.bool l1,.bool r1] 119)).alloc (.cells #[.bool v.s,.slice v.a v.l v.c,.slice v.b v.m v.d,.bool v2.s,.slice v2.a v2.l v2.c,.slice v2.b v2.m v2.d,.bool l2,.bool r2] 119)):=⟨_,rfl⟩
 have hbs:BS w [⟨w.heap.size,119,[.bool u.s,.slice u.a u.l u.c,.slice u.b u.m u.d,.bool u2.s,.slice u2.a u2.l u2.c,.slice u2.b u2.m u2.d,.bool l1,.bool r1]⟩,⟨w.heap.size+1,119,[.bool v.s,.slice v.a v.l v.c,.slice v.b v.m v.d,.bool v2.s,.slice v2.a v2.l v2.c,.slice v2.b v2.m v2.d,.bool l2,.bool r2]⟩] [] ((w.alloc (.cells #[.bool u.s,.slice u.a u.l u.c,.slice u.b u.m u.d,.bool u2.s,.slice u2.a u2.l u2.c,.slice u2.b u2.m u2.d,.bool l1,.bool r1] 119)).alloc (.cells #[.bool v.s,.slice v.a v.l v.c,.slice v.b v.m v.d,.bool v2.s,.slice v2.a v2.l v2.c,.slice v2.b v2.m v2.d,.bool l2,.bool r2] 119)) :=
   (((BS.start w).alloc (p:=w.heap.size) rfl 119 [.bool u.s,.slice u.a u.l u.c,.slice u.b u.m u.d,.bool u2.s,.slice u2.a u2.l u2.c,.slice u2.b u2.m u2.d,.bool l1,.bool r1] rfl).alloc (p:=w.heap.size+1) (by simp) 119 [.bool v.s,.slice v.a v.l v.c,.slice v.b v.m v.d,.bool v2.s,.slice v2.a v2.l v2.c,.slice v2.b v2.m v2.d,.bool l2,.bool r2] rfl)
 rw [← hW0] at hbs
 have HW0:=qH hW0
 have HN:=qH hbs
 clear hW0 hbs
 go_enter Tryz.func121,Tryz.ntmps121
 go_upto_region 1 with fail
 rw [← HW0.out]
 by_cases h0:l1=l2
 case' neg =>
  have g0:(l1==l2)=false:=beq_eq_false_iff_ne.2 h0
  obtain rfl:zz=false:=hzz.symm.trans (decide_eq_false (fun h:(⟨l1,r1,u.q,u2.q⟩:Rng)=⟨l2,r2,v.q,v2.q⟩=>h0 (congrArg Rng.hasLo h)))
  have H0:=qH h0
  clear hzz h0
 case' pos =>
  have g0:(l1==l2)=true:=beq_iff_eq.2 h0
  have H0:=qH h0
  clear h0
  by_cases h1:r1=r2
  case' neg =>
   have g1:(r1==r2)=false:=beq_eq_false_iff_ne.2 h1
   obtain rfl:zz=false:=hzz.symm.trans (decide_eq_false (fun h:(⟨l1,r1,u.q,u2.q⟩:Rng)=⟨l2,r2,v.q,v2.q⟩=>h1 (congrArg Rng.hasHi h)))
   have H1:=qH h1
   clear hzz h1
  case' pos =>
   have g1:(r1==r2)=true:=beq_iff_eq.2 h1
   have H1:=qH h1
   clear h1
   by_cases h2:u.q=v.q
   case' neg =>
    obtain rfl:zz=false:=hzz.symm.trans (decide_eq_false (fun h:(⟨l1,r1,u.q,u2.q⟩:Rng)=⟨l2,r2,v.q,v2.q⟩=>h2 (congrArg Rng.lo h)))
    have H2:=qH h2
    clear hzz h2
   case' pos =>
    have H2:=qH h2
    clear h2
    by_cases h3:u2.q=v2.q
    case' neg =>
     obtain rfl:zz=false:=hzz.symm.trans (decide_eq_false (fun h:(⟨l1,r1,u.q,u2.q⟩:Rng)=⟨l2,r2,v.q,v2.q⟩=>h3 (congrArg Rng.hi h)))
     have H3:=qH h3
     clear hzz h3
    case' pos =>
     have H3:=qH h3
     clear h3
     obtain rfl:zz=true:=hzz.symm.trans (decide_eq_true (show (⟨l1,r1,u.q,u2.q⟩:Rng)=⟨l2,r2,v.q,v2.q⟩ from by rw [H0.out,H1.out,H2.out,H3.out]))
     clear hzz
 all_goals
  have ⟨k0_0,f0_0,k0_1,f0_1,k0_2,f0_2⟩:=HN.out.cf3 0 rfl
  have k0_6:=HN.out.cell 0 6 rfl rfl
  have f0_6:=HN.out.free 0 6 rfl
  have k0_7:=HN.out.cell 0 7 rfl rfl
  have f0_7:=HN.out.free 0 7 rfl
  have ⟨k1_0,f1_0,k1_1,f1_1,k1_2,f1_2⟩:=HN.out.cf3 1 rfl
  have k1_6:=HN.out.cell 1 6 rfl rfl
  have f1_6:=HN.out.free 1 6 rfl
  have k1_7:=HN.out.cell 1 7 rfl rfl
  have f1_7:=HN.out.free 1 7 rfl
  go_wp2_with fail
  try
   refine (HR1.out _ HN.out.bel).mono ?_
   rintro e w1 ⟨rfl,hb⟩
   replace HN:=qH (HN.out.call hb)
   clear hb k0_0 f0_0 k0_1 f0_1 k0_2 f0_2 k0_6 f0_6 k0_7 f0_7 k1_0 f1_0 k1_1 f1_1 k1_2 f1_2 k1_6 f1_6 k1_7 f1_7
   first | rw [decide_eq_true H2.out] | rw [decide_eq_false H2.out]
   have k0_3:=HN.out.cell 0 3 rfl rfl
   have f0_3:=HN.out.free 0 3 rfl
   have k0_4:=HN.out.cell 0 4 rfl rfl
   have f0_4:=HN.out.free 0 4 rfl
   have k0_5:=HN.out.cell 0 5 rfl rfl
   have f0_5:=HN.out.free 0 5 rfl
   have k1_3:=HN.out.cell 1 3 rfl rfl
   have f1_3:=HN.out.free 1 3 rfl
   have k1_4:=HN.out.cell 1 4 rfl rfl
   have f1_4:=HN.out.free 1 4 rfl
   have k1_5:=HN.out.cell 1 5 rfl rfl
   have f1_5:=HN.out.free 1 5 rfl
   go_wp2_with fail
   try
    refine (HR2.out _ HN.out.bel).mono ?_
    rintro e w2 ⟨rfl,hb⟩
    replace HN:=qH (HN.out.call hb)
    clear hb k0_3 f0_3 k0_4 f0_4 k0_5 f0_5 k1_3 f1_3 k1_4 f1_4 k1_5 f1_5
    first | rw [decide_eq_true H3.out] | rw [decide_eq_false H3.out]
    go_wp2_with fail
  refine bodyPost_ret ?_ rfl ⟨rfl,HN.out.bel⟩
  simp [results,Tryz.results121,go_sem]
theorem psame_any (x y:RepV) (w:World) (hx:x.ok w) (hy:y.ok w):Calls Tryz.prog 54 #[.agg #[.int .i64 x.err,.string x.wher,.int .i64 x.at9,.int .i64 x.id,.int .i64 x.out,.bool x.v.s,.slice x.v.a x.v.l x.v.c,.slice x.v.b x.v.m x.v.d,.slice x.pa x.pn x.pc,.bool x.lo.s,.slice x.lo.a x.lo.l x.lo.c,.slice x.lo.b x.lo.m x.lo.d,.bool x.hi.s,.slice x.hi.a x.hi.l x.hi.c,.slice x.hi.b x.hi.m x.hi.d,.bool x.hl,.bool x.hh,.int .i64 x.u0,.int .i64 x.u1,.int .i64 x.u2],.agg #[.int .i64 y.err,.string y.wher,.int .i64 y.at9,.int .i64 y.id,.int .i64 y.out,.bool y.v.s,.slice y.v.a y.v.l y.v.c,.slice y.v.b y.v.m y.v.d,.slice y.pa y.pn y.pc,.bool y.lo.s,.slice y.lo.a y.lo.l y.lo.c,.slice y.lo.b y.lo.m y.lo.d,.bool y.hi.s,.slice y.hi.a y.hi.l y.hi.c,.slice y.hi.b y.hi.m y.hi.d,.bool y.hl,.bool y.hh,.int .i64 y.u0,.int .i64 y.u1,.int .i64 y.u2]] w fun e w'=>e=.returned (.bool (decide (x.rep=y.rep)))∧Below w.heap.size w w':=by
 have HA:=qH (fun W (hb:Below w.heap.size w W)=>csame_any x.out y.out x.v y.v x.pa y.pa x.pn x.pc y.pn y.pc x.ps y.ps W (hx.v.below hb) (hy.v.below hb) ⟨hx.v1,hx.v2⟩ ⟨hy.v1,hy.v2⟩ (hx.ps.below hb) (hy.ps.below hb) hx.ps1 hy.ps1)
 have HG:=qH (fun W (hb:Below w.heap.size w W)=>gsame_any x.hl y.hl x.hh y.hh x.lo y.lo x.hi y.hi W (hx.lo.below hb) (hy.lo.below hb) ⟨hx.lo1,hx.lo2⟩ ⟨hy.lo1,hy.lo2⟩ (hx.hi.below hb) (hy.hi.below hb) ⟨hx.hi1,hx.hi2⟩ ⟨hy.hi1,hy.hi2⟩)
 clear hx hy
 obtain ⟨zz,hzz⟩:∃ z,decide (x.rep=y.rep)=z:=⟨_,rfl⟩
 rw [hzz]
 obtain ⟨W0,hW0⟩:∃ W0,W0=((w.alloc (.cells #[.int .i64 x.err,.string x.wher,.int .i64 x.at9,.int .i64 x.id,.int .i64 x.out,.bool x.v.s,.slice x.v.a x.v.l x.v.c,.slice x.v.b x.v.m x.v.d,.slice x.pa x.pn x.pc,.bool x.lo.s,.slice x.lo.a x.lo.l x.lo.c,.slice x.lo.b x.lo.m x.lo.d,.bool x.hi.s,.slice x.hi.a x.hi.l x.hi.c,.slice x.hi.b x.hi.m x.hi.d,.bool x.hl,.bool x.hh,.int .i64 x.u0,.int .i64 x.u1,.int .i64 x.u2] 123)).alloc (.cells #[.int .i64 y.err,.string y.wher,.int .i64 y.at9,.int .i64 y.id,.int .i64 y.out,.bool y.v.s,.slice y.v.a y.v.l y.v.c,.slice y.v.b y.v.m y.v.d,.slice y.pa y.pn y.pc,.bool y.lo.s,.slice y.lo.a y.lo.l y.lo.c,.slice y.lo.b y.lo.m y.lo.d,.bool y.hi.s,.slice y.hi.a y.hi.l y.hi.c,.slice y.hi.b y.hi.m y.hi.d,.bool y.hl,.bool y.hh,.int .i64 y.u0,.int .i64 y.u1,.int .i64 y.u2] 123)):=⟨_,rfl⟩
 have hbs:BS w [⟨w.heap.size,123,[.int .i64 x.err,.string x.wher,.int .i64 x.at9,.int .i64 x.id,.int .i64 x.out,.bool x.v.s,.slice x.v.a x.v.l x.v.c,.slice x.v.b x.v.m x.v.d,.slice x.pa x.pn x.pc,.bool x.lo.s,.slice x.lo.a x.lo.l x.lo.c,.slice x.lo.b x.lo.m x.lo.d,.bool x.hi.s,.slice x.hi.a x.hi.l x.hi.c,.slice x.hi.b x.hi.m x.hi.d,.bool x.hl,.bool x.hh,.int .i64 x.u0,.int .i64 x.u1,.int .i64 x.u2]⟩,⟨w.heap.size+1,123,[.int .i64 y.err,.string y.wher,.int .i64 y.at9,.int .i64 y.id,.int .i64 y.out,.bool y.v.s,.slice y.v.a y.v.l y.v.c,.slice y.v.b y.v.m y.v.d,.slice y.pa y.pn y.pc,.bool y.lo.s,.slice y.lo.a y.lo.l y.lo.c,.slice y.lo.b y.lo.m y.lo.d,.bool y.hi.s,.slice y.hi.a y.hi.l y.hi.c,.slice y.hi.b y.hi.m y.hi.d,.bool y.hl,.bool y.hh,.int .i64 y.u0,.int .i64 y.u1,.int .i64 y.u2]⟩] [] ((w.alloc (.cells #[.int .i64 x.err,.string x.wher,.int .i64 x.at9,.int .i64 x.id,.int .i64 x.out,.bool x.v.s,.slice x.v.a x.v.l x.v.c,.slice x.v.b x.v.m x.v.d,.slice x.pa x.pn x.pc,.bool x.lo.s,.slice x.lo.a x.lo.l x.lo.c,.slice x.lo.b x.lo.m x.lo.d,.bool x.hi.s,.slice x.hi.a x.hi.l x.hi.c,.slice x.hi.b x.hi.m x.hi.d,.bool x.hl,.bool x.hh,.int .i64 x.u0,.int .i64 x.u1,.int .i64 x.u2] 123)).alloc (.cells #[.int .i64 y.err,.string y.wher,.int .i64 y.at9,.int .i64 y.id,.int .i64 y.out,.bool y.v.s,.slice y.v.a y.v.l y.v.c,.slice y.v.b y.v.m y.v.d,.slice y.pa y.pn y.pc,.bool y.lo.s,.slice y.lo.a y.lo.l y.lo.c,.slice y.lo.b y.lo.m y.lo.d,.bool y.hi.s,.slice y.hi.a y.hi.l y.hi.c,.slice y.hi.b y.hi.m y.hi.d,.bool y.hl,.bool y.hh,.int .i64 y.u0,.int .i64 y.u1,.int .i64 y.u2] 123)) :=
   (((BS.start w).alloc (p:=w.heap.size) rfl 123 [.int .i64 x.err,.string x.wher,.int .i64 x.at9,.int .i64 x.id,.int .i64 x.out,.bool x.v.s,.slice x.v.a x.v.l x.v.c,.slice x.v.b x.v.m x.v.d,.slice x.pa x.pn x.pc,.bool x.lo.s,.slice x.lo.a x.lo.l x.lo.c,.slice x.lo.b x.lo.m x.lo.d,.bool x.hi.s,.slice x.hi.a x.hi.l x.hi.c,.slice x.hi.b x.hi.m x.hi.d,.bool x.hl,.bool x.hh,.int .i64 x.u0,.int .i64 x.u1,.int .i64 x.u2] rfl).alloc (p:=w.heap.size+1) (by simp) 123 [.int .i64 y.err,.string y.wher,.int .i64 y.at9,.int .i64 y.id,.int .i64 y.out,.bool y.v.s,.slice y.v.a y.v.l y.v.c,.slice y.v.b y.v.m y.v.d,.slice y.pa y.pn y.pc,.bool y.lo.s,.slice y.lo.a y.lo.l y.lo.c,.slice y.lo.b y.lo.m y.lo.d,.bool y.hi.s,.slice y.hi.a y.hi.l y.hi.c,.slice y.hi.b y.hi.m y.hi.d,.bool y.hl,.bool y.hh,.int .i64 y.u0,.int .i64 y.u1,.int .i64 y.u2] rfl)
 rw [← hW0] at hbs
 have HW0:=qH hW0
 have HN:=qH hbs
 clear hW0 hbs
 go_enter Tryz.func54,Tryz.ntmps54
 go_upto_region 1 with fail
 rw [← HW0.out]
 by_cases h0:x.err=y.err
 case' neg =>
  have g0:(x.err==y.err)=false:=beq_eq_false_iff_ne.2 h0
  obtain rfl:zz=false:=hzz.symm.trans (decide_eq_false (fun h:x.rep=y.rep=>h0 (congrArg Rep.err h)))
  have H0:=qH h0
  clear hzz h0
 case' pos =>
  have g0:(x.err==y.err)=true:=beq_iff_eq.2 h0
  have H0:=qH h0
  clear h0
  by_cases h1:x.wher=y.wher
  case' neg =>
   have g1:(x.wher.toList==y.wher.toList)=false:=(Lib.bytes_beq_false_iff _ _).2 h1
   obtain rfl:zz=false:=hzz.symm.trans (decide_eq_false (fun h:x.rep=y.rep=>h1 (by have:=congrArg Rep.wher h;rw [← strB_natB x.wher,← strB_natB y.wher];exact congrArg strB this)))
   have H1:=qH h1
   clear hzz h1
  case' pos =>
   have g1:(x.wher.toList==y.wher.toList)=true:=beq_iff_eq.2 (congrArg ByteArray.toList h1)
   have H1:=qH h1
   clear h1
   by_cases h2:x.at9=y.at9
   case' neg =>
    have g2:(x.at9==y.at9)=false:=beq_eq_false_iff_ne.2 h2
    obtain rfl:zz=false:=hzz.symm.trans (decide_eq_false (fun h:x.rep=y.rep=>h2 (congrArg Rep.at9 h)))
    have H2:=qH h2
    clear hzz h2
   case' pos =>
    have g2:(x.at9==y.at9)=true:=beq_iff_eq.2 h2
    have H2:=qH h2
    clear h2
    by_cases h3:x.id=y.id
    case' neg =>
     have g3:(x.id==y.id)=false:=beq_eq_false_iff_ne.2 h3
     obtain rfl:zz=false:=hzz.symm.trans (decide_eq_false (fun h:x.rep=y.rep=>h3 (congrArg Rep.id h)))
     have H3:=qH h3
     clear hzz h3
    case' pos =>
     have g3:(x.id==y.id)=true:=beq_iff_eq.2 h3
     have H3:=qH h3
     clear h3
     by_cases h4:(⟨x.out,x.v.q,qs x.ps⟩:Ans)=⟨y.out,y.v.q,qs y.ps⟩
     case' neg =>
      obtain rfl:zz=false:=hzz.symm.trans (decide_eq_false (fun h:x.rep=y.rep=>h4 (congrArg Rep.ans h)))
      have H4:=qH h4
      clear hzz h4
     case' pos =>
      have H4:=qH h4
      clear h4
      by_cases h5:x.u0=y.u0
      case' neg =>
       have g5:(x.u0==y.u0)=false:=beq_eq_false_iff_ne.2 h5
       obtain rfl:zz=false:=hzz.symm.trans (decide_eq_false (fun h:x.rep=y.rep=>h5 (congrArg Rep.u0 h)))
       have H5:=qH h5
       clear hzz h5
      case' pos =>
       have g5:(x.u0==y.u0)=true:=beq_iff_eq.2 h5
       have H5:=qH h5
       clear h5
       by_cases h6:x.u1=y.u1
       case' neg =>
        have g6:(x.u1==y.u1)=false:=beq_eq_false_iff_ne.2 h6
        obtain rfl:zz=false:=hzz.symm.trans (decide_eq_false (fun h:x.rep=y.rep=>h6 (congrArg Rep.u1 h)))
        have H6:=qH h6
        clear hzz h6
       case' pos =>
        have g6:(x.u1==y.u1)=true:=beq_iff_eq.2 h6
        have H6:=qH h6
        clear h6
        by_cases h7:x.u2=y.u2
        case' neg =>
         have g7:(x.u2==y.u2)=false:=beq_eq_false_iff_ne.2 h7
         obtain rfl:zz=false:=hzz.symm.trans (decide_eq_false (fun h:x.rep=y.rep=>h7 (congrArg Rep.u2 h)))
         have H7:=qH h7
         clear hzz h7
        case' pos =>
         have g7:(x.u2==y.u2)=true:=beq_iff_eq.2 h7
         have H7:=qH h7
         clear h7
         by_cases h8:(⟨x.hl,x.hh,x.lo.q,x.hi.q⟩:Rng)=⟨y.hl,y.hh,y.lo.q,y.hi.q⟩
         case' neg =>
          obtain rfl:zz=false:=hzz.symm.trans (decide_eq_false (fun h:x.rep=y.rep=>h8 (congrArg Rep.rng h)))
          have H8:=qH h8
          clear hzz h8
         case' pos =>
          have H8:=qH h8
          clear h8
          obtain rfl:zz=true:=hzz.symm.trans (decide_eq_true (show x.rep=y.rep from by unfold RepV.rep;rw [H0.out,H1.out,H2.out,H3.out,H4.out,H5.out,H6.out,H7.out,H8.out]))
          clear hzz
 all_goals
  have ⟨k0_0,f0_0,k0_1,f0_1,k0_2,f0_2,k0_3,f0_3,k0_4,f0_4,k0_5,f0_5,k0_6,f0_6,k0_7,f0_7,k0_8,f0_8⟩:=HN.out.cf9 0 rfl
  have ⟨k1_0,f1_0,k1_1,f1_1,k1_2,f1_2,k1_3,f1_3,k1_4,f1_4,k1_5,f1_5,k1_6,f1_6,k1_7,f1_7,k1_8,f1_8⟩:=HN.out.cf9 1 rfl
  go_wp2_with fail
  try
   refine (HA.out _ HN.out.bel).mono ?_
   rintro e w1 ⟨rfl,hb⟩
   replace HN:=qH (HN.out.call hb)
   clear hb k0_0 f0_0 k0_1 f0_1 k0_2 f0_2 k0_3 f0_3 k0_4 f0_4 k0_5 f0_5 k0_6 f0_6 k0_7 f0_7 k0_8 f0_8 k1_0 f1_0 k1_1 f1_1 k1_2 f1_2 k1_3 f1_3 k1_4 f1_4 k1_5 f1_5 k1_6 f1_6 k1_7 f1_7 k1_8 f1_8
   first | rw [decide_eq_true H4.out] | rw [decide_eq_false H4.out]
   have k0_9:=HN.out.cell 0 9 rfl rfl
   have f0_9:=HN.out.free 0 9 rfl
   have k0_10:=HN.out.cell 0 10 rfl rfl
   have f0_10:=HN.out.free 0 10 rfl
   have k0_11:=HN.out.cell 0 11 rfl rfl
   have f0_11:=HN.out.free 0 11 rfl
   have k0_12:=HN.out.cell 0 12 rfl rfl
   have f0_12:=HN.out.free 0 12 rfl
   have k0_13:=HN.out.cell 0 13 rfl rfl
   have f0_13:=HN.out.free 0 13 rfl
   have k0_14:=HN.out.cell 0 14 rfl rfl
   have f0_14:=HN.out.free 0 14 rfl
   have k0_15:=HN.out.cell 0 15 rfl rfl
   have f0_15:=HN.out.free 0 15 rfl
   have k0_16:=HN.out.cell 0 16 rfl rfl
   have f0_16:=HN.out.free 0 16 rfl
   have k0_17:=HN.out.cell 0 17 rfl rfl
   have f0_17:=HN.out.free 0 17 rfl
   have k0_18:=HN.out.cell 0 18 rfl rfl
   have f0_18:=HN.out.free 0 18 rfl
   have k0_19:=HN.out.cell 0 19 rfl rfl
   have f0_19:=HN.out.free 0 19 rfl
   have k1_9:=HN.out.cell 1 9 rfl rfl
   have f1_9:=HN.out.free 1 9 rfl
   have k1_10:=HN.out.cell 1 10 rfl rfl
   have f1_10:=HN.out.free 1 10 rfl
   have k1_11:=HN.out.cell 1 11 rfl rfl
   have f1_11:=HN.out.free 1 11 rfl
   have k1_12:=HN.out.cell 1 12 rfl rfl
   have f1_12:=HN.out.free 1 12 rfl
   have k1_13:=HN.out.cell 1 13 rfl rfl
   have f1_13:=HN.out.free 1 13 rfl
   have k1_14:=HN.out.cell 1 14 rfl rfl
   have f1_14:=HN.out.free 1 14 rfl
   have k1_15:=HN.out.cell 1 15 rfl rfl
   have f1_15:=HN.out.free 1 15 rfl
   have k1_16:=HN.out.cell 1 16 rfl rfl
   have f1_16:=HN.out.free 1 16 rfl
   have k1_17:=HN.out.cell 1 17 rfl rfl
   have f1_17:=HN.out.free 1 17 rfl
   have k1_18:=HN.out.cell 1 18 rfl rfl
   have f1_18:=HN.out.free 1 18 rfl
   have k1_19:=HN.out.cell 1 19 rfl rfl
   have f1_19:=HN.out.free 1 19 rfl
   go_wp2_with fail
   try
    refine (HG.out _ HN.out.bel).mono ?_
    rintro e w2 ⟨rfl,hb⟩
    replace HN:=qH (HN.out.call hb)
    clear hb k0_9 f0_9 k0_10 f0_10 k0_11 f0_11 k0_12 f0_12 k0_13 f0_13 k0_14 f0_14 k0_15 f0_15 k0_16 f0_16 k0_17 f0_17 k0_18 f0_18 k0_19 f0_19 k1_9 f1_9 k1_10 f1_10 k1_11 f1_11 k1_12 f1_12 k1_13 f1_13 k1_14 f1_14 k1_15 f1_15 k1_16 f1_16 k1_17 f1_17 k1_18 f1_18 k1_19 f1_19
    first | rw [decide_eq_true H8.out] | rw [decide_eq_false H8.out]
    go_wp2_with fail
  refine bodyPost_ret ?_ rfl ⟨rfl,HN.out.bel⟩
  simp [results,Tryz.results54,go_sem]
end Go.Proofs.YtmhainidincjhaaGreatDoor
