/-
 What the laws stand on, part Rb: contracts and plain laws of NGcd, FGcd, FOf, FBack, FBytes, FText, FRT, FNew, FRef; the conditions are each law's own.
-/
import Derived.Test.YtmhainidincjhaaGreatDoorARa
import Derived.Test.YtmhainidincjhaaGreatDoorAV
import Derived.Test.YtmhainidincjhaaGreatDoorAL
import Derived.Test.YtmhainidincjhaaGreatDoorAA
set_option linter.unusedVariables false
set_option linter.unusedSimpArgs false
set_option maxRecDepth 100000
set_option maxHeartbeats 16000000
namespace Go.Proofs.YtmhainidincjhaaGreatDoor
open Go.RowKit
theorem dgs_inj:∀ (n y z:Nat),dgs n y=dgs n z→y % 65536^n=z % 65536^n
 | 0,y,z,_=>by simp [Nat.mod_one]
 | n+1,y,z,h=>by
  rw [dgs_snoc,dgs_snoc] at h
  have h1:=List.append_inj h (by rw [dgs_len,dgs_len])
  have h2:=dgs_inj n y z h1.1
  have h3:y / 65536^n % 65536=z / 65536^n % 65536:=by injection h1.2
  rw [Nat.pow_succ,Nat.mod_mul,Nat.mod_mul,h2,h3]
theorem RD.inj {w:World} {a:Option Addr} {n c y z:Nat} (h1:RD w a n c y) (h2:RD w a n c z):y=z:=by
 have e1:y<65536^n:=by rw [h1.1];exact lt_nd y
 have e2:z<65536^n:=by rw [h2.1];exact lt_nd z
 have hd:dgs n y=dgs n z:=by
  apply List.ext_getElem?
  intro i
  by_cases hi:i<n
  ·
   obtain ⟨b,o,ha,_,hc⟩:=h1.2.get i hi
   obtain ⟨b',o',ha',_,hc'⟩:=h2.2.get i hi
   rw [ha] at ha'
   injection ha' with ha'
   injection ha' with hb ho _
   subst hb ho
   rw [hc] at hc'
   injection hc' with hc'
   injection hc' with _ hc'
   rw [dgs_at hi,dgs_at hi]
   congr 1
   exact Int.ofNat.inj hc'
  ·
   rw [List.getElem?_eq_none (by rw [dgs_len];omega),List.getElem?_eq_none (by rw [dgs_len];omega)]
 have:=dgs_inj n y z hd
 rwa [Nat.mod_eq_of_lt e1,Nat.mod_eq_of_lt e2] at this
open Classical in
noncomputable def valW (w:World) (v:Value):Nat:=if h:∃ y a n c,v=.slice a n c∧RD w a n c y then h.choose else 0
theorem RD.val {w:World} {a:Option Addr} {n c y:Nat} (h:RD w a n c y):valW w (.slice a n c)=y:=by
 have hex:∃ y a' n' c',Value.slice a n c=.slice a' n' c'∧RD w a' n' c' y:=⟨y,a,n,c,rfl,h⟩
 unfold valW
 rw [dif_pos hex]
 obtain ⟨a',n',c',he,hr⟩:=hex.choose_spec
 injection he with h1 h2 h3
 subst h1 h2 h3
 exact hr.inj h
theorem gcd_both {x y:Nat} (hx:x % 2=0) (hy:y % 2=0):Nat.gcd x y=2*Nat.gcd (x / 2) (y / 2):=by
 rw [← Nat.gcd_mul_left,show 2*(x / 2)=x by omega,show 2*(y / 2)=y by omega]
theorem gcd_left {x y:Nat} (hx:x % 2=0) (hy:y % 2=1):Nat.gcd (x / 2) y=Nat.gcd x y:=by
 have h1:x=2*(x / 2):=by omega
 have h2:Nat.Coprime 2 y:=by
  have h3:=Nat.gcd_dvd_left 2 y
  have h4:=Nat.gcd_dvd_right 2 y
  have h5:Nat.gcd 2 y≤2:=Nat.le_of_dvd (by omega) h3
  have h6:0<Nat.gcd 2 y:=Nat.gcd_pos_of_pos_left _ (by omega)
  show Nat.gcd 2 y=1
  generalize Nat.gcd 2 y=g at *
  rcases (show g=1∨g=2 by omega) with h | h
  ·
   exact h
  ·
   subst h;omega
 conv=>rhs;rw [h1]
 exact (Nat.Coprime.gcd_mul_left_cancel (x / 2) h2).symm
theorem gcd_right {x y:Nat} (hx:x % 2=1) (hy:y % 2=0):Nat.gcd x (y / 2)=Nat.gcd x y:=by
 rw [Nat.gcd_comm x,Nat.gcd_comm x];exact gcd_left hy hx
theorem gcd_less {x y:Nat} (h:y≤x):Nat.gcd (x - y) y=Nat.gcd x y:=Nat.gcd_sub_self_left h
end Go.Proofs.YtmhainidincjhaaGreatDoor
namespace Go.Proofs.YtmhainidincjhaaGreatDoor
open Go.RowKit Go.Extern.Stop Go.Stop Go.Extern
set_option maxRecDepth 100000
set_option maxHeartbeats 4000000
theorem nd_up {y z:Nat} (h:y≤z):nd y≤nd z:=nd_le (Nat.lt_of_le_of_lt h (lt_nd z))
theorem f2gcd (a b:Option Addr) (n c m d x y:Nat) (w:World) (h:RD w a n c x) (h2:RD w b m d y) (hn:n≤68719476736) (hm:m≤68719476736):Calls Tryz.prog 94 #[.slice a n c,.slice b m d] w (RetD (Nat.gcd x y) w):=by
 have hl:=h.len
 have hl2:=h2.len
 rcases Nat.eq_zero_or_pos n with h0 | hn0
 ·
  subst h0
  have hx:x=0:=by have:=lt_nd x;rw [← h.1] at this;simpa using this
  subst hx
  rw [Nat.gcd_zero_left]
  have HY:=Lib.hid h2
  clear h h2
  go_enter Tryz.func94,Tryz.ntmps94
  go_wp2_with fail
  go_ret
  exact ⟨b,m,d,rfl,HY.out,Below.refl _ _⟩
 rcases Nat.eq_zero_or_pos m with h0 | hm0
 ·
  subst h0
  have hy:y=0:=by have:=lt_nd y;rw [← h2.1] at this;simpa using this
  subst hy
  rw [Nat.gcd_zero_right]
  have HX:=Lib.hid h
  clear h h2
  go_enter Tryz.func94,Tryz.ntmps94
  go_wp2_with fail
  go_ret
  exact ⟨a,n,c,rfl,HX.out,Below.refl _ _⟩
 have hx0:0<x:=by
  rcases Nat.eq_zero_or_pos x with h0 | h0
  ·
   have:=h.1;rw [h0,nd_zero] at this;omega
  ·
   exact h0
 have hy0:0<y:=by
  rcases Nat.eq_zero_or_pos y with h0 | h0
  ·
   have:=h2.1;rw [h0,nd_zero] at this;omega
  ·
   exact h0
 have en:((n:Int)==0)=false:=beq_eq_false_iff_ne.2 (by omega)
 have em:((m:Int)==0)=false:=beq_eq_false_iff_ne.2 (by omega)
 have HNM:=Lib.hid (fun z (hz:z≤max x y)=>by
  have h3:=nd_up hz
  rcases Nat.le_total x y with h4 | h4
  ·
   rw [Nat.max_eq_right h4,← h2.1] at h3;omega
  ·
   rw [Nat.max_eq_left h4,← h.1] at h3;omega:∀ z,z≤max x y→nd z≤68719476736)
 have HNX:=Lib.hid h.1
 have HNY:=Lib.hid h2.1
 have HX:=Lib.hid h
 have HY:=Lib.hid h2
 clear h h2
 go_enter Tryz.func94,Tryz.ntmps94
 go_wp2_with fail
 go_loopw [0,1,5] (fun v0 v1 v5 wr=>∃ (X Y t:Nat) (a1:Option Addr) (n1 c1:Nat) (b1:Option Addr) (m1 d1:Nat),v0=.slice a1 n1 c1∧v1=.slice b1 m1 d1∧v5=.int .i64 t∧RD wr a1 n1 c1 X∧RD wr b1 m1 d1 Y∧0<X∧0<Y∧Y≤y∧Nat.gcd x y=Nat.gcd X Y*2^t∧X*2^t=x∧Below w.heap.size w wr) (fun v0 _ _ wr=>valW wr v0)
 case atStart=>exact ⟨x,y,0,a,n,c,b,m,d,rfl,rfl,rfl,HX.out,HY.out,hx0,hy0,Nat.le_refl _,by rw [Nat.pow_zero,Nat.mul_one],by rw [Nat.pow_zero,Nat.mul_one],Below.refl _ _⟩
 case round =>
  obtain ⟨X,Y,t,a1,n1,c1,b1,m1,d1,rfl,rfl,rfl,ha,hb,hX0,hY0,hYy,hg,hx2,hbl⟩:=hrel
  have hXx:X≤x:=by rw [← hx2];exact Nat.le_mul_of_pos_right X (Nat.pow_pos (by omega))
  have hn1:n1≤n:=by rw [ha.1,HNX.out];exact nd_up hXx
  have hm1:m1≤m:=by rw [hb.1,HNY.out];exact nd_up hYy
  have ht:t≤1099511627776:=by
   have h1:2^t≤x:=by rw [← hx2];exact Nat.le_mul_of_pos_left _ hX0
   have h2:x<2^(16*n):=by have:=lt_nd x;rw [← HNX.out,show (65536:Nat)=2^16 from rfl,← Nat.pow_mul] at this;exact this
   have h3:t<16*n:=(Nat.pow_lt_pow_iff_right (by omega)).1 (Nat.lt_of_le_of_lt h1 h2)
   omega
  have HE1:=Lib.hid (f2even a1 n1 c1 X wr ha)
  have HE2:=Lib.hid (f2even b1 m1 d1 Y wr hb)
  rcases Nat.mod_two_eq_zero_or_one X with hx9 | hx9
  ·
   rcases Nat.mod_two_eq_zero_or_one Y with hy9 | hy9
   ·
    rw [hx9] at HE1
    rw [hy9] at HE2
    have HA:=Lib.hid ha
    have HB:=Lib.hid hb
    have HBL:=Lib.hid hbl
    have HGG:=Lib.hid (show Nat.gcd x y=Nat.gcd (X / 2) (Y / 2)*2^(t+1) by rw [hg,gcd_both hx9 hy9,Nat.pow_succ,Nat.mul_comm 2,Nat.mul_assoc,Nat.mul_comm 2])
    have HXX:=Lib.hid (show X / 2*2^(t+1)=x by rw [← hx2,Nat.pow_succ,Nat.mul_comm (2^t) 2,← Nat.mul_assoc,show X / 2*2=X by omega])
    clear ha hb hbl hg hx2
    go_wp2_with fail
    refine HE1.out.mono ?_
    rintro e w2 ⟨rfl,rfl⟩
    go_wp2_with fail
    refine HE2.out.mono ?_
    rintro e w3 ⟨rfl,rfl⟩
    go_wp2_with fail
    refine (f2halved a1 n1 c1 X w3 HA.out (by omega)).mono ?_
    rintro e w4 ⟨a4,n4,c4,rfl,hr4,hb4⟩
    have HA4:=Lib.hid hr4
    have HB4:=Lib.hid (HB.out.below hb4)
    have HL4:=Lib.hid (bthen HBL.out hb4)
    clear hr4 hb4
    go_wp2_with fail
    refine (f2halved b1 m1 d1 Y w4 HB4.out (by omega)).mono ?_
    rintro e w5 ⟨b5,m5,d5,rfl,hr5,hb5⟩
    have HB5:=Lib.hid hr5
    have HA5:=Lib.hid (HA4.out.below hb5)
    have HL5:=Lib.hid (bthen HL4.out hb5)
    clear hr5 hb5
    go_wp2_with fail
    go_roundw
    case rel=>exact ⟨X / 2,Y / 2,t+1,a4,n4,c4,b5,m5,d5,rfl,rfl,by go_num,HA5.out,HB5.out,by omega,by omega,by omega,HGG.out,HXX.out,HL5.out⟩
    case measure =>
     show valW _ (.slice a4 n4 c4)<valW _ (.slice a1 n1 c1)
     rw [HA5.out.val,HA.out.val];omega
   ·
    rw [hx9] at HE1
    rw [hy9] at HE2
    have hnb:X % 2=1∨Y % 2=1:=.inr hy9
    go_wp2_with fail
    refine HE1.out.mono ?_
    rintro e w2 ⟨rfl,rfl⟩
    go_wp2_with fail
    refine HE2.out.mono ?_
    rintro e w3 ⟨rfl,rfl⟩
    go_wp2_with fail
    have HG1:=Lib.hid hg
    have HA:=Lib.hid ha
    have HB0:=Lib.hid hb
    have HBL:=Lib.hid hbl
    have HNB:=Lib.hid hnb
    clear hg ha hb hbl hnb hx2
    go_loopw [1] (fun v1 wz=>∃ (B2:Nat) (b2:Option Addr) (m2 d2:Nat),v1=.slice b2 m2 d2∧RD wz b2 m2 d2 B2∧0<B2∧B2≤y∧(X % 2=1∨B2 % 2=1)∧Nat.gcd X B2=Nat.gcd X Y∧Below w.heap.size w wz∧RD wz a1 n1 c1 X) (fun v1 wz=>valW wz v1)
    case atStart=>exact ⟨Y,b1,m1,d1,rfl,HB0.out,hY0,hYy,HNB.out,rfl,HBL.out,HA.out⟩
    case round =>
     obtain ⟨B2,b2,m2,d2,rfl,hb2,h20,h2y,h2n,h2g,h2l,ha2⟩:=hrel
     have hm2:m2≤68719476736:=by rw [hb2.1];exact HNM.out _ (by omega)
     have HE2:=Lib.hid (f2even b2 m2 d2 B2 wr hb2)
     have HA2:=Lib.hid ha2
     have HB2:=Lib.hid hb2
     have HL2:=Lib.hid h2l
     have HG2:=Lib.hid h2g
     clear ha2 hb2 h2l h2g
     rcases Nat.mod_two_eq_zero_or_one B2 with h2o | h2o
     ·
      have hxo:X % 2=1:=by omega
      rw [h2o] at HE2
      have HG5:=Lib.hid (gcd_right hxo h2o)
      go_wp2_with fail
      refine HE2.out.mono ?_
      rintro e w5 ⟨rfl,rfl⟩
      go_wp2_with fail
      refine (f2halved b2 m2 d2 B2 w5 HB2.out (by omega)).mono ?_
      rintro e w6 ⟨b6,m6,d6,rfl,hr6,hb6⟩
      have HB6:=Lib.hid hr6
      have HA6:=Lib.hid (HA2.out.below hb6)
      have HL6:=Lib.hid (bthen HL2.out hb6)
      clear hr6 hb6
      go_wp2_with fail
      go_roundw
      case rel=>exact ⟨B2 / 2,b6,m6,d6,rfl,HB6.out,by omega,by omega,.inl hxo,by rw [HG5.out];exact HG2.out,HL6.out,HA6.out⟩
      case measure =>
       show valW _ (.slice b6 m6 d6)<valW _ (.slice b2 m2 d2)
       rw [HB6.out.val,HB2.out.val];omega
     ·
      rw [h2o] at HE2
      go_wp2_with fail
      refine HE2.out.mono ?_
      rintro e w5 ⟨rfl,rfl⟩
      go_wp2_with fail
      go_loopw [0,1] (fun v0 v1 wq=>∃ (X3 Y3:Nat) (a3:Option Addr) (n3 c3:Nat) (b3:Option Addr) (m3 d3:Nat),v0=.slice a3 n3 c3∧v1=.slice b3 m3 d3∧RD wq a3 n3 c3 X3∧RD wq b3 m3 d3 Y3∧Y3 % 2=1∧X3≤max x y∧Y3≤max x y∧Nat.gcd X3 Y3=Nat.gcd X Y∧Below w.heap.size w wq) (fun v0 v1 wq=>valW wq v0+valW wq v1)
      case atStart=>exact ⟨X,B2,a1,n1,c1,b2,m2,d2,rfl,rfl,HA2.out,HB2.out,h2o,by omega,by omega,HG2.out,HL2.out⟩
      case round =>
       obtain ⟨X3,Y3,a3,n3,c3,b3,m3,d3,rfl,rfl,ha3,hb3,h3o,h3x,h3y,h3g,h3l⟩:=hrel
       have hm3:m3≤68719476736:=by rw [hb3.1];exact HNM.out _ h3y
       have hl3:=ha3.len
       have HA3:=Lib.hid ha3
       have HB3:=Lib.hid hb3
       have HL3:=Lib.hid h3l
       have HG3:=Lib.hid h3g
       rcases Nat.eq_zero_or_pos n3 with h30 | h30
       ·
        subst h30
        have hX3:X3=0:=by have:=lt_nd X3;rw [← ha3.1] at this;simpa using this
        have HRS:=Lib.hid (show Nat.gcd x y=Y3*2^t by rw [HG1.out,← h3g,hX3,Nat.gcd_zero_left])
        clear ha3 hb3 h3l h3g
        go_wp2_with fail
        refine (f2shl b3 m3 d3 Y3 t _ HB3.out (by omega) (by omega)).mono ?_
        rintro e w7 ⟨a7,n7,c7,rfl,hr,hb⟩
        have HR:=Lib.hid hr
        have HB:=Lib.hid hb
        clear hr hb
        go_wp2_with fail
        go_ret
        exact ⟨a7,n7,c7,rfl,by rw [HRS.out];exact HR.out,bthen HL3.out HB.out⟩
       ·
        have hX3:0<X3:=by
         rcases Nat.eq_zero_or_pos X3 with h0 | h0
         ·
          have:=ha3.1;rw [h0,nd_zero] at this;omega
         ·
          exact h0
        clear ha3 hb3 h3l h3g
        go_wp2_with fail
        go_loopw [0] (fun v0 wp=>∃ (X4:Nat) (a4:Option Addr) (n4 c4:Nat),v0=.slice a4 n4 c4∧RD wp a4 n4 c4 X4∧0<X4∧X4≤X3∧Nat.gcd X4 Y3=Nat.gcd X Y∧Below w.heap.size w wp∧RD wp b3 m3 d3 Y3) (fun v0 wp=>valW wp v0)
        case atStart=>exact ⟨X3,a3,n3,c3,rfl,HA3.out,hX3,Nat.le_refl _,HG3.out,HL3.out,HB3.out⟩
        case round =>
         obtain ⟨X4,a4,n4,c4,rfl,ha4,h40,h4x,h4g,h4l,hb4⟩:=hrel
         have hn4:n4≤68719476736:=by rw [ha4.1];exact HNM.out _ (by omega)
         have HE4:=Lib.hid (f2even a4 n4 c4 X4 wr ha4)
         have HA4:=Lib.hid ha4
         have HB4:=Lib.hid hb4
         have HL4:=Lib.hid h4l
         have HG4:=Lib.hid h4g
         clear ha4 hb4 h4l h4g
         rcases Nat.mod_two_eq_zero_or_one X4 with h9 | h9
         ·
          rw [h9] at HE4
          have HG5:=Lib.hid (gcd_left h9 h3o)
          go_wp2_with fail
          refine HE4.out.mono ?_
          rintro e w5 ⟨rfl,rfl⟩
          go_wp2_with fail
          refine (f2halved a4 n4 c4 X4 w5 HA4.out (by omega)).mono ?_
          rintro e w6 ⟨a6,n6,c6,rfl,hr6,hb6⟩
          have HA6:=Lib.hid hr6
          have HB6:=Lib.hid (HB4.out.below hb6)
          have HL6:=Lib.hid (bthen HL4.out hb6)
          clear hr6 hb6
          go_wp2_with fail
          go_roundw
          case rel=>exact ⟨X4 / 2,a6,n6,c6,rfl,HA6.out,by omega,by omega,by rw [HG5.out];exact HG4.out,HL6.out,HB6.out⟩
          case measure =>
           show valW _ (.slice a6 n6 c6)<valW _ (.slice a4 n4 c4)
           rw [HA6.out.val,HA4.out.val];omega
         ·
          rw [h9] at HE4
          have HCM:=Lib.hid (f2cmp a4 b3 n4 c4 m3 d3 X4 Y3 wr HA4.out HB4.out (by omega) (by omega))
          go_wp2_with fail
          refine HE4.out.mono ?_
          rintro e w5 ⟨rfl,rfl⟩
          rcases Nat.lt_or_ge X4 Y3 with h8 | h8
          ·
           rw [cmpF_lt h8] at HCM
           have HG5:=Lib.hid (show Nat.gcd (Y3 - X4) X4=Nat.gcd X4 Y3 by rw [gcd_less (Nat.le_of_lt h8),Nat.gcd_comm])
           go_wp2_with fail
           refine HCM.out.mono ?_
           rintro e w6 ⟨rfl,hb6⟩
           have HA6:=Lib.hid (HA4.out.below hb6)
           have HB6:=Lib.hid (HB4.out.below hb6)
           have HL6:=Lib.hid (bthen HL4.out hb6)
           clear hb6
           go_wp2_with fail
           refine (f2sub b3 a4 m3 d3 n4 c4 Y3 X4 (Y3 - X4) w6 HB6.out HA6.out (by omega) (by omega) (by omega)).mono ?_
           rintro e w7 ⟨a7,n7,c7,rfl,hr7,hb7⟩
           have HA7:=Lib.hid hr7
           have HB7:=Lib.hid (HA6.out.below hb7)
           have HL7:=Lib.hid (bthen HL6.out hb7)
           clear hr7 hb7
           go_wp2_with fail
           go_roundw
           case rel=>exact ⟨Y3 - X4,X4,a7,n7,c7,a4,n4,c4,rfl,rfl,HA7.out,HB7.out,h9,by omega,by omega,by rw [HG5.out];exact HG4.out,HL7.out⟩
           case measure =>
            show valW _ (.slice a7 n7 c7)+valW _ (.slice a4 n4 c4)<valW _ (.slice a3 n3 c3)+valW _ (.slice b3 m3 d3)
            rw [HA7.out.val,HB7.out.val,HA3.out.val,HB3.out.val];omega
          ·
           obtain ⟨v,hv,hv0,hv1⟩:∃ v,cmpF X4 Y3=v∧0≤v∧v≤1:=by
            rcases cmpF_ge h8 with h | h
            ·
             exact ⟨0,h,by omega,by omega⟩
            ·
             exact ⟨1,h,by omega,by omega⟩
           rw [hv] at HCM
           have HG5:=Lib.hid (gcd_less h8)
           clear hv
           go_wp2_with fail
           refine HCM.out.mono ?_
           rintro e w6 ⟨rfl,hb6⟩
           have HA6:=Lib.hid (HA4.out.below hb6)
           have HB6:=Lib.hid (HB4.out.below hb6)
           have HL6:=Lib.hid (bthen HL4.out hb6)
           clear hb6
           go_wp2_with fail
           refine (f2sub a4 b3 n4 c4 m3 d3 X4 Y3 (X4 - Y3) w6 HA6.out HB6.out (by omega) (by omega) (by omega)).mono ?_
           rintro e w7 ⟨a7,n7,c7,rfl,hr7,hb7⟩
           have HA7:=Lib.hid hr7
           have HB7:=Lib.hid (HB6.out.below hb7)
           have HL7:=Lib.hid (bthen HL6.out hb7)
           clear hr7 hb7
           go_wp2_with fail
           go_roundw
           case rel=>exact ⟨X4 - Y3,Y3,a7,n7,c7,b3,m3,d3,rfl,rfl,HA7.out,HB7.out,h3o,by omega,by omega,by rw [HG5.out];exact HG4.out,HL7.out⟩
           case measure =>
            show valW _ (.slice a7 n7 c7)+valW _ (.slice b3 m3 d3)<valW _ (.slice a3 n3 c3)+valW _ (.slice b3 m3 d3)
            rw [HA7.out.val,HB7.out.val,HA3.out.val,HB3.out.val];omega
  ·
   rw [hx9] at HE1
   have hnb:X % 2=1∨Y % 2=1:=.inl hx9
   go_wp2_with fail
   refine HE1.out.mono ?_
   rintro e w2 ⟨rfl,rfl⟩
   go_wp2_with fail
   have HG1:=Lib.hid hg
   have HA:=Lib.hid ha
   have HB0:=Lib.hid hb
   have HBL:=Lib.hid hbl
   have HNB:=Lib.hid hnb
   clear hg ha hb hbl hnb hx2
   go_loopw [1] (fun v1 wz=>∃ (B2:Nat) (b2:Option Addr) (m2 d2:Nat),v1=.slice b2 m2 d2∧RD wz b2 m2 d2 B2∧0<B2∧B2≤y∧(X % 2=1∨B2 % 2=1)∧Nat.gcd X B2=Nat.gcd X Y∧Below w.heap.size w wz∧RD wz a1 n1 c1 X) (fun v1 wz=>valW wz v1)
   case atStart=>exact ⟨Y,b1,m1,d1,rfl,HB0.out,hY0,hYy,HNB.out,rfl,HBL.out,HA.out⟩
   case round =>
    obtain ⟨B2,b2,m2,d2,rfl,hb2,h20,h2y,h2n,h2g,h2l,ha2⟩:=hrel
    have hm2:m2≤68719476736:=by rw [hb2.1];exact HNM.out _ (by omega)
    have HE2:=Lib.hid (f2even b2 m2 d2 B2 wr hb2)
    have HA2:=Lib.hid ha2
    have HB2:=Lib.hid hb2
    have HL2:=Lib.hid h2l
    have HG2:=Lib.hid h2g
    clear ha2 hb2 h2l h2g
    rcases Nat.mod_two_eq_zero_or_one B2 with h2o | h2o
    ·
     have hxo:X % 2=1:=by omega
     rw [h2o] at HE2
     have HG5:=Lib.hid (gcd_right hxo h2o)
     go_wp2_with fail
     refine HE2.out.mono ?_
     rintro e w5 ⟨rfl,rfl⟩
     go_wp2_with fail
     refine (f2halved b2 m2 d2 B2 w5 HB2.out (by omega)).mono ?_
     rintro e w6 ⟨b6,m6,d6,rfl,hr6,hb6⟩
     have HB6:=Lib.hid hr6
     have HA6:=Lib.hid (HA2.out.below hb6)
     have HL6:=Lib.hid (bthen HL2.out hb6)
     clear hr6 hb6
     go_wp2_with fail
     go_roundw
     case rel=>exact ⟨B2 / 2,b6,m6,d6,rfl,HB6.out,by omega,by omega,.inl hxo,by rw [HG5.out];exact HG2.out,HL6.out,HA6.out⟩
     case measure =>
      show valW _ (.slice b6 m6 d6)<valW _ (.slice b2 m2 d2)
      rw [HB6.out.val,HB2.out.val];omega
    ·
     rw [h2o] at HE2
     go_wp2_with fail
     refine HE2.out.mono ?_
     rintro e w5 ⟨rfl,rfl⟩
     go_wp2_with fail
     go_loopw [0,1] (fun v0 v1 wq=>∃ (X3 Y3:Nat) (a3:Option Addr) (n3 c3:Nat) (b3:Option Addr) (m3 d3:Nat),v0=.slice a3 n3 c3∧v1=.slice b3 m3 d3∧RD wq a3 n3 c3 X3∧RD wq b3 m3 d3 Y3∧Y3 % 2=1∧X3≤max x y∧Y3≤max x y∧Nat.gcd X3 Y3=Nat.gcd X Y∧Below w.heap.size w wq) (fun v0 v1 wq=>valW wq v0+valW wq v1)
     case atStart=>exact ⟨X,B2,a1,n1,c1,b2,m2,d2,rfl,rfl,HA2.out,HB2.out,h2o,by omega,by omega,HG2.out,HL2.out⟩
     case round =>
      obtain ⟨X3,Y3,a3,n3,c3,b3,m3,d3,rfl,rfl,ha3,hb3,h3o,h3x,h3y,h3g,h3l⟩:=hrel
      have hm3:m3≤68719476736:=by rw [hb3.1];exact HNM.out _ h3y
      have hl3:=ha3.len
      have HA3:=Lib.hid ha3
      have HB3:=Lib.hid hb3
      have HL3:=Lib.hid h3l
      have HG3:=Lib.hid h3g
      rcases Nat.eq_zero_or_pos n3 with h30 | h30
      ·
       subst h30
       have hX3:X3=0:=by have:=lt_nd X3;rw [← ha3.1] at this;simpa using this
       have HRS:=Lib.hid (show Nat.gcd x y=Y3*2^t by rw [HG1.out,← h3g,hX3,Nat.gcd_zero_left])
       clear ha3 hb3 h3l h3g
       go_wp2_with fail
       refine (f2shl b3 m3 d3 Y3 t _ HB3.out (by omega) (by omega)).mono ?_
       rintro e w7 ⟨a7,n7,c7,rfl,hr,hb⟩
       have HR:=Lib.hid hr
       have HB:=Lib.hid hb
       clear hr hb
       go_wp2_with fail
       go_ret
       exact ⟨a7,n7,c7,rfl,by rw [HRS.out];exact HR.out,bthen HL3.out HB.out⟩
      ·
       have hX3:0<X3:=by
        rcases Nat.eq_zero_or_pos X3 with h0 | h0
        ·
         have:=ha3.1;rw [h0,nd_zero] at this;omega
        ·
         exact h0
       clear ha3 hb3 h3l h3g
       go_wp2_with fail
       go_loopw [0] (fun v0 wp=>∃ (X4:Nat) (a4:Option Addr) (n4 c4:Nat),v0=.slice a4 n4 c4∧RD wp a4 n4 c4 X4∧0<X4∧X4≤X3∧Nat.gcd X4 Y3=Nat.gcd X Y∧Below w.heap.size w wp∧RD wp b3 m3 d3 Y3) (fun v0 wp=>valW wp v0)
       case atStart=>exact ⟨X3,a3,n3,c3,rfl,HA3.out,hX3,Nat.le_refl _,HG3.out,HL3.out,HB3.out⟩
       case round =>
        obtain ⟨X4,a4,n4,c4,rfl,ha4,h40,h4x,h4g,h4l,hb4⟩:=hrel
        have hn4:n4≤68719476736:=by rw [ha4.1];exact HNM.out _ (by omega)
        have HE4:=Lib.hid (f2even a4 n4 c4 X4 wr ha4)
        have HA4:=Lib.hid ha4
        have HB4:=Lib.hid hb4
        have HL4:=Lib.hid h4l
        have HG4:=Lib.hid h4g
        clear ha4 hb4 h4l h4g
        rcases Nat.mod_two_eq_zero_or_one X4 with h9 | h9
        ·
         rw [h9] at HE4
         have HG5:=Lib.hid (gcd_left h9 h3o)
         go_wp2_with fail
         refine HE4.out.mono ?_
         rintro e w5 ⟨rfl,rfl⟩
         go_wp2_with fail
         refine (f2halved a4 n4 c4 X4 w5 HA4.out (by omega)).mono ?_
         rintro e w6 ⟨a6,n6,c6,rfl,hr6,hb6⟩
         have HA6:=Lib.hid hr6
         have HB6:=Lib.hid (HB4.out.below hb6)
         have HL6:=Lib.hid (bthen HL4.out hb6)
         clear hr6 hb6
         go_wp2_with fail
         go_roundw
         case rel=>exact ⟨X4 / 2,a6,n6,c6,rfl,HA6.out,by omega,by omega,by rw [HG5.out];exact HG4.out,HL6.out,HB6.out⟩
         case measure =>
          show valW _ (.slice a6 n6 c6)<valW _ (.slice a4 n4 c4)
          rw [HA6.out.val,HA4.out.val];omega
        ·
         rw [h9] at HE4
         have HCM:=Lib.hid (f2cmp a4 b3 n4 c4 m3 d3 X4 Y3 wr HA4.out HB4.out (by omega) (by omega))
         go_wp2_with fail
         refine HE4.out.mono ?_
         rintro e w5 ⟨rfl,rfl⟩
         rcases Nat.lt_or_ge X4 Y3 with h8 | h8
         ·
          rw [cmpF_lt h8] at HCM
          have HG5:=Lib.hid (show Nat.gcd (Y3 - X4) X4=Nat.gcd X4 Y3 by rw [gcd_less (Nat.le_of_lt h8),Nat.gcd_comm])
          go_wp2_with fail
          refine HCM.out.mono ?_
          rintro e w6 ⟨rfl,hb6⟩
          have HA6:=Lib.hid (HA4.out.below hb6)
          have HB6:=Lib.hid (HB4.out.below hb6)
          have HL6:=Lib.hid (bthen HL4.out hb6)
          clear hb6
          go_wp2_with fail
          refine (f2sub b3 a4 m3 d3 n4 c4 Y3 X4 (Y3 - X4) w6 HB6.out HA6.out (by omega) (by omega) (by omega)).mono ?_
          rintro e w7 ⟨a7,n7,c7,rfl,hr7,hb7⟩
          have HA7:=Lib.hid hr7
          have HB7:=Lib.hid (HA6.out.below hb7)
          have HL7:=Lib.hid (bthen HL6.out hb7)
          clear hr7 hb7
          go_wp2_with fail
          go_roundw
          case rel=>exact ⟨Y3 - X4,X4,a7,n7,c7,a4,n4,c4,rfl,rfl,HA7.out,HB7.out,h9,by omega,by omega,by rw [HG5.out];exact HG4.out,HL7.out⟩
          case measure =>
           show valW _ (.slice a7 n7 c7)+valW _ (.slice a4 n4 c4)<valW _ (.slice a3 n3 c3)+valW _ (.slice b3 m3 d3)
           rw [HA7.out.val,HB7.out.val,HA3.out.val,HB3.out.val];omega
         ·
          obtain ⟨v,hv,hv0,hv1⟩:∃ v,cmpF X4 Y3=v∧0≤v∧v≤1:=by
           rcases cmpF_ge h8 with h | h
           ·
            exact ⟨0,h,by omega,by omega⟩
           ·
            exact ⟨1,h,by omega,by omega⟩
          rw [hv] at HCM
          have HG5:=Lib.hid (gcd_less h8)
          clear hv
          go_wp2_with fail
          refine HCM.out.mono ?_
          rintro e w6 ⟨rfl,hb6⟩
          have HA6:=Lib.hid (HA4.out.below hb6)
          have HB6:=Lib.hid (HB4.out.below hb6)
          have HL6:=Lib.hid (bthen HL4.out hb6)
          clear hb6
          go_wp2_with fail
          refine (f2sub a4 b3 n4 c4 m3 d3 X4 Y3 (X4 - Y3) w6 HA6.out HB6.out (by omega) (by omega) (by omega)).mono ?_
          rintro e w7 ⟨a7,n7,c7,rfl,hr7,hb7⟩
          have HA7:=Lib.hid hr7
          have HB7:=Lib.hid (HB6.out.below hb7)
          have HL7:=Lib.hid (bthen HL6.out hb7)
          clear hr7 hb7
          go_wp2_with fail
          go_roundw
          case rel=>exact ⟨X4 - Y3,Y3,a7,n7,c7,b3,m3,d3,rfl,rfl,HA7.out,HB7.out,h3o,by omega,by omega,by rw [HG5.out];exact HG4.out,HL7.out⟩
          case measure =>
           show valW _ (.slice a7 n7 c7)+valW _ (.slice b3 m3 d3)<valW _ (.slice a3 n3 c3)+valW _ (.slice b3 m3 d3)
           rw [HA7.out.val,HB7.out.val,HA3.out.val,HB3.out.val];omega
set_option maxRecDepth 100000
set_option maxHeartbeats 4000000
theorem of_dig (y i j:Nat) (hj:j<4):y / 65536^(4*i+j) % 65536=wordOf y i / 65536^j % 65536:=by
 unfold wordOf
 have h1:(65536:Nat)^(4*i+j)=W64^i*65536^j:=by
  rw [Nat.pow_add,Nat.pow_mul]
 rw [h1,← Nat.div_div_eq_div_mul]
 generalize y / W64^i=t
 unfold W64
 match j,hj with
 | 0,_=>omega
 | 1,_=>omega
 | 2,_=>omega
 | 3,_=>omega
set_option maxRecDepth 100000
set_option maxHeartbeats 4000000
def low (m k x:Nat):List Nat:=(List.range k).map fun i=>x / m^i % m
structure DL (w:World) (a:Option Addr) (n c:Nat) (l:List Nat) (W:World):Prop where
 mid:Mid W w.heap.size 3 1 (.slice a n c) n (l.map IN)
 bel:Below w.heap.size w W
theorem DL.nil (w:World):DL w none 0 0 [] w:=⟨Mid.nil w w.heap.size 3 1,Below.refl _ _⟩
theorem DL.call {w W W':World} {a:Option Addr} {n c:Nat} {l:List Nat} (h:DL w a n c l W) (hb:Below W.heap.size W W'):DL w a n c l W':=⟨h.mid.below hb fun k hk=>(h.mid.lt k hk).2,bthen h.bel hb⟩
theorem DL.len {w W:World} {a:Option Addr} {n c:Nat} {l:List Nat} (h:DL w a n c l W):n≤c∧c≤9223372036854775807:=by
 obtain ⟨a',c',e,h1,h2,h3⟩:=Sl.len (Sl.ofMid h.mid)
 cases e
 exact ⟨h1,by unfold maxLen at h2;omega⟩
theorem DL.push {w W W5:World} {a a5:Option Addr} {n c c5:Nat} {l ds:List Nat} {ob:Obj} (h:DL w a n c l W)
  (hm:Mid W5 w.heap.size 3 1 (.slice a5 (n+ds.length) c5) (n+ds.length) (l.map IN++ds.map IN)) (hg:(W.alloc ob).grownBy W5 (Value.slice a n c).ownBlock):DL w a5 (n+ds.length) c5 (l++ds) W5:=by
 refine ⟨by rw [List.map_append];exact hm,Below.trans h.bel ?_⟩
 have h1:Below w.heap.size (W.alloc ob) W5:=(Keeps.of_grown hg (S:=fun b=>w.heap.size≤b) fun b hb=>(h.mid.lt b hb).1).below (Nat.le_trans h.bel.size (by simp)) fun b hb=>hb
 exact Below.trans ((belowBox W ob).mono h.bel.size) h1
set_option maxRecDepth 100000
set_option maxHeartbeats 4000000
set_option maxRecDepth 100000
set_option maxHeartbeats 4000000
def RT (w:World) (a:Option Addr) (n c y:Nat):Prop:=RD w a n c y
theorem RD.rt {w:World} {a:Option Addr} {n c y:Nat} (h:RD w a n c y):RT w a n c y:=h
theorem RT.rd {w:World} {a:Option Addr} {n c y:Nat} (h:RT w a n c y):RD w a n c y:=h
theorem RT.lt {w:World} {a:Option Addr} {n c y:Nat} (_:RT w a n c y):True:=trivial
theorem RT.below {w w':World} {a:Option Addr} {n c y:Nat} (h:RT w a n c y) (hb:Below w.heap.size w w') (_:True):RT w' a n c y:=RD.below h hb
theorem DW.cellset {w:World} {a:Option Addr} {n c y:Nat} (h:DW w a n c y) {p:Addr} {u0:Value} (hp:w.cell? p=some u0) (h0:∀ x,u0≠.int .i64 x) (u:Value):DW (w.setCell p u) a n c y:=by
 refine ⟨h.1,?_⟩
 rcases h.2 with h1 | ⟨b,o,c',e,h1,h2,h3,h4⟩
 ·
  exact .inl h1
 ·
  refine .inr ⟨b,o,c',e,h1,h2,by simpa using h3,fun j v hj=>?_⟩
  have hc:=h4 j v hj
  rw [World.cell?_setCell_other]
  ·
   exact hc
  ·
   intro e2
   rw [← e2,hp] at hc
   cases hc
   rw [List.getElem?_map] at hj
   obtain ⟨x,_,hx⟩:=Option.map_eq_some_iff.1 hj
   exact h0 _ hx.symm
theorem RD.set {w W:World} {bs:List Bk} {ns:List Nm} {a:Option Addr} {n c y:Nat} (h:RD W a n c y) (hb:BS w bs ns W) (i j:Nat) (x:Value) {b:Bk} {c0:Value} (hi:bs[i]?=some b) (hj:b.cs[j]?=some c0) (hn:∀ s,c0≠.int .i64 s):RD (W.setCell ⟨b.p,j,none⟩ x) a n c y :=
 ⟨h.1,h.2.cellset (hb.cell i j hi hj) hn x⟩
theorem RT.set {w W:World} {bs:List Bk} {ns:List Nm} {a:Option Addr} {n c y:Nat} (h:RT W a n c y) (hb:BS w bs ns W) (i j:Nat) (x:Value) {b:Bk} {c0:Value} (hi:bs[i]?=some b) (hj:b.cs[j]?=some c0) (hn:∀ s,c0≠.int .i64 s):RT (W.setCell ⟨b.p,j,none⟩ x) a n c y:=RD.set h hb i j x hi hj hn
theorem RT.one {W:World} {p:Nat} (h:W.heap[p]?=some (.cells #[.int .i64 1] 3 (0,0))):RT W (some ⟨p,0,none⟩) 1 1 1 :=
 ⟨nd_one.symm,rfl,.inr ⟨p,0,1,rfl,Nat.le_refl _,by unfold maxLen;omega,lt_of_block h,fun j u hj=>by
  match j,hj with
  | 0,hj=>injection hj with hj;subst hj;exact cell_of_block h rfl⟩⟩
structure QW (w:World) (a:Option Addr) (n c:Nat) (b:Option Addr) (m d x y:Nat):Prop where
 num:RD w a n c x
 den:RD w b m d y
theorem QW.lt {w:World} {a b:Option Addr} {n c m d x y:Nat} (_:QW w a n c b m d x y):True:=trivial
theorem QW.below {w w':World} {a b:Option Addr} {n c m d x y:Nat} (h:QW w a n c b m d x y) (hb:Below w.heap.size w w') (_:True:=trivial):QW w' a n c b m d x y:=⟨h.num.below hb,h.den.below hb⟩
theorem QW.set {w W:World} {bs:List Bk} {ns:List Nm} {a b:Option Addr} {n c m d x y:Nat} (h:QW W a n c b m d x y) (hb:BS w bs ns W) (i j:Nat) (u:Value) {k:Bk} {c0:Value} (hi:bs[i]?=some k) (hj:k.cs[j]?=some c0) (hn:∀ s,c0≠.int .i64 s):QW (W.setCell ⟨k.p,j,none⟩ u) a n c b m d x y :=
 ⟨h.num.set hb i j u hi hj hn,h.den.set hb i j u hi hj hn⟩
theorem nd_eq0 {y:Nat}:nd y=0↔y=0:=⟨fun h=>by have:=lt_nd y;rw [h] at this;simpa using this,fun h=>by rw [h,nd_zero]⟩
theorem f7new (sg:Bool) (a:Option Addr) (n c x:Nat) (w:World) (h:RD w a n c x):Calls Tryz.prog 76 #[.bool sg,.slice a n c] w fun e w'=>e=.returned (.agg #[.bool (decide (newI sg x<0)),.slice a n c])∧Below w.heap.size w w':=by
 have hl:=h.len
 have hz:(sg && x != 0)=(sg && decide (0<n)):=by
  congr 1
  rcases Nat.eq_zero_or_pos n with h0 | h0
  ·
   rw [show x=0 from nd_eq0.1 (h.1.symm.trans h0),h0];rfl
  ·
   rw [decide_eq_true h0]
   have:x≠0:=fun e=>by have:=h.1;rw [e,nd_zero] at this;omega
   simpa using this
 rw [newI_neg,hz]
 clear h hz
 cases sg with
 | false =>
  obtain ⟨W0,hW0⟩:∃ W0,W0=(w.alloc (.cells #[.bool false,.slice none 0 0] 58)):=⟨_,rfl⟩
  have hbs:BS w [⟨w.heap.size,58,[.bool false,.slice none 0 0]⟩] [] (w.alloc (.cells #[.bool false,.slice none 0 0] 58)) :=
    ((BS.start w).alloc (p:=w.heap.size) rfl 58 [.bool false,.slice none 0 0] rfl)
  rw [← hW0] at hbs
  have HW0:=Lib.hid hW0
  have HN:=Lib.hid hbs
  clear hW0 hbs
  go_enter Tryz.func76,Tryz.ntmps76
  go_upto_region 1 with fail
  rw [← HW0.out]
  have ⟨k00,f00,k01,f01⟩:=HN.out.cf2 0 rfl
  have HE:=Lib.hid (((HN.out).set 0 0 rfl rfl (fun _=>by simp) (.bool false)).set 0 1 rfl rfl (fun _=>by simp) (.slice a n c))
  have ⟨j0_0,j1_0⟩:=HE.out.cg2 0 rfl
  go_wp2_with fail
  refine bodyPost_ret (v:=.agg #[.bool false,.slice a n c]) (by simp [results,Tryz.results76,go_sem,j0_0,j1_0,k00,k01]) rfl ?_
  exact ⟨rfl,HE.out.bel⟩
 | true =>
  rcases Nat.eq_zero_or_pos n with h0 | h0
  ·
   subst h0
   have e0:decide (0<0)=false:=rfl
   rw [e0]
   obtain ⟨W0,hW0⟩:∃ W0,W0=(w.alloc (.cells #[.bool false,.slice none 0 0] 58)):=⟨_,rfl⟩
   have hbs:BS w [⟨w.heap.size,58,[.bool false,.slice none 0 0]⟩] [] (w.alloc (.cells #[.bool false,.slice none 0 0] 58)) :=
     ((BS.start w).alloc (p:=w.heap.size) rfl 58 [.bool false,.slice none 0 0] rfl)
   rw [← hW0] at hbs
   have HW0:=Lib.hid hW0
   have HN:=Lib.hid hbs
   clear hW0 hbs
   go_enter Tryz.func76,Tryz.ntmps76
   go_upto_region 1 with fail
   rw [← HW0.out]
   have ⟨k00,f00,k01,f01⟩:=HN.out.cf2 0 rfl
   have HE:=Lib.hid (((HN.out).set 0 0 rfl rfl (fun _=>by simp) (.bool false)).set 0 1 rfl rfl (fun _=>by simp) (.slice a 0 c))
   have ⟨j0_0,j1_0⟩:=HE.out.cg2 0 rfl
   go_wp2_with fail
   refine bodyPost_ret (v:=.agg #[.bool false,.slice a 0 c]) (by simp [results,Tryz.results76,go_sem,j0_0,j1_0,k00,k01]) rfl ?_
   exact ⟨rfl,HE.out.bel⟩
  ·
   have e0:decide (0<n)=true:=decide_eq_true h0
   rw [e0]
   obtain ⟨W0,hW0⟩:∃ W0,W0=(w.alloc (.cells #[.bool false,.slice none 0 0] 58)):=⟨_,rfl⟩
   have hbs:BS w [⟨w.heap.size,58,[.bool false,.slice none 0 0]⟩] [] (w.alloc (.cells #[.bool false,.slice none 0 0] 58)) :=
     ((BS.start w).alloc (p:=w.heap.size) rfl 58 [.bool false,.slice none 0 0] rfl)
   rw [← hW0] at hbs
   have HW0:=Lib.hid hW0
   have HN:=Lib.hid hbs
   clear hW0 hbs
   go_enter Tryz.func76,Tryz.ntmps76
   go_upto_region 1 with fail
   rw [← HW0.out]
   have ⟨k00,f00,k01,f01⟩:=HN.out.cf2 0 rfl
   have HE:=Lib.hid (((HN.out).set 0 0 rfl rfl (fun _=>by simp) (.bool true)).set 0 1 rfl rfl (fun _=>by simp) (.slice a n c))
   have ⟨j0_0,j1_0⟩:=HE.out.cg2 0 rfl
   go_wp2_with fail
   refine bodyPost_ret (v:=.agg #[.bool true,.slice a n c]) (by simp [results,Tryz.results76,go_sem,j0_0,j1_0,k00,k01]) rfl ?_
   exact ⟨rfl,HE.out.bel⟩
def RetQ (q:Rat) (w:World) (e:Ending) (w':World):Prop:=∃ a n c b m d,e=.returned (.agg #[.bool (decide (q.num<0)),.slice a n c,.slice b m d])∧RD w' a n c q.num.natAbs∧RD w' b m d q.den∧Below w.heap.size w w'
def RetQO (q:Rat) (w0 w:World) (e:Ending) (w':World):Prop:=∃ a n c b m d,e=.returned (.agg #[.bool (decide (q.num<0)),.slice a n c,.slice b m d])∧RD w' a n c q.num.natAbs∧RD w' b m d q.den∧OwnS w0 a n c∧OwnS w0 b m d∧Below w.heap.size w w'
theorem RetQO.ret {q:Rat} {w0 w w':World} {e:Ending} (h:RetQO q w0 w e w'):RetQ q w e w':=by
 obtain ⟨a,n,c,b,m,d,h1,h2,h3,_,_,h4⟩:=h
 exact ⟨a,n,c,b,m,d,h1,h2,h3,h4⟩
theorem RetQO.base {q:Rat} {w w0 w1 w':World} {e:Ending} (h:RetQO q w0 w1 e w') (hb:w.heap.size≤w0.heap.size):RetQO q w w1 e w':=by
 obtain ⟨a,n,c,b,m,d,h1,h2,h3,h4,h5,h6⟩:=h
 exact ⟨a,n,c,b,m,d,h1,h2,h3,h4.base hb,h5.base hb,h6⟩
end Go.Proofs.YtmhainidincjhaaGreatDoor
