/-
 What the laws stand on, part Ri: contracts and plain laws of FWords, FLike, FLike8; the conditions are each law's own.
-/
import Derived.Test.YtmhainidincjhaaGreatDoorARb
import Derived.Test.YtmhainidincjhaaGreatDoorAA
import Derived.IntWalk
import Derived.Test.YtmhainidincjhaaGreatDoorAV
import Derived.Test.YtmhainidincjhaaGreatDoorAB
set_option linter.unusedVariables false
set_option linter.unusedSimpArgs false
set_option maxRecDepth 100000
set_option maxHeartbeats 16000000
namespace Go.Proofs.YtmhainidincjhaaGreatDoor
open Go.RowKit Go.Extern.Stop Go.Stop Go.Extern
theorem one_UW (l:List Nat):∀ u∈l.map UV,u.oneCell'=true:=fun u hu=>by
 obtain ⟨_,_,rfl⟩:=List.mem_map.1 hu;rfl
def WdS (w:World) (a:Option Addr) (m c x:Nat):Prop:=m=lenW x∧Sl w 1 (.slice a m c) m ((toWords x).map UV)
theorem WdS.below {w w':World} {a:Option Addr} {m c x:Nat} (h:WdS w a m c x) (hb:Below w.heap.size w w') (_:True:=trivial):WdS w' a m c x:=⟨h.1,Sl.below h.2 hb⟩
theorem WdS.lt {w:World} {a:Option Addr} {m c x:Nat} (_:WdS w a m c x):True:=trivial
theorem WdS.len {w:World} {a:Option Addr} {m c x:Nat} (h:WdS w a m c x):m≤c∧c≤9223372036854775807:=by
 obtain ⟨a',c',e,h1,h2,h3⟩:=Sl.len h.2
 cases e
 exact ⟨h1,by unfold maxLen at h2;omega⟩
theorem ws_at {x k:Nat} (h:k<lenW x):((toWords x).map UV)[k]?=some (UV (wordOf x k)):=by
 have h1:k<(toWords x).length:=h
 rw [List.getElem?_map,List.getElem?_eq_getElem h1]
 have h2:=word_toWords x k
 rw [List.getD_eq_getElem?_getD,List.getElem?_eq_getElem h1] at h2
 rw [← h2];rfl
structure WL (w:World) (a:Option Addr) (n c:Nat) (l:List Nat) (W:World):Prop where
 mid:Mid W w.heap.size 164 1 (.slice a n c) n (l.map UV)
 bel:Below w.heap.size w W
theorem WL.nil (w:World):WL w none 0 0 [] w:=⟨Mid.nil w w.heap.size 164 1,Below.refl _ _⟩
theorem WL.len {w W:World} {a:Option Addr} {n c:Nat} {l:List Nat} (h:WL w a n c l W):n≤c∧c≤9223372036854775807:=by
 obtain ⟨a',c',e,h1,h2,h3⟩:=Sl.len (Sl.ofMid h.mid)
 cases e
 exact ⟨h1,by unfold maxLen at h2;omega⟩
theorem WL.push {w W W5:World} {a a5:Option Addr} {n c c5:Nat} {l ds:List Nat} {ob:Obj} (h:WL w a n c l W)
  (hm:Mid W5 w.heap.size 164 1 (.slice a5 (n+ds.length) c5) (n+ds.length) (l.map UV++ds.map UV)) (hg:(W.alloc ob).grownBy W5 (Value.slice a n c).ownBlock):WL w a5 (n+ds.length) c5 (l++ds) W5:=by
 refine ⟨by rw [List.map_append];exact hm,Below.trans h.bel ?_⟩
 have h1:Below w.heap.size (W.alloc ob) W5:=(Keeps.of_grown hg (S:=fun b=>w.heap.size≤b) fun b hb=>(h.mid.lt b hb).1).below (Nat.le_trans h.bel.size (by simp)) fun b hb=>hb
 exact Below.trans ((belowBox W ob).mono h.bel.size) h1
theorem lenW_nd (x:Nat):nd x≤4*lenW x∧4*lenW x≤nd x+3:=by
 refine ⟨nd_le (by rw [Nat.pow_mul];exact lt_lenW x),?_⟩
 have h1:lenW x≤(nd x+3) / 4:=lenW_le (by
  have h2:=lt_nd x
  have h3:65536^nd x≤W64^((nd x+3) / 4):=by
   rw [show W64=65536^4 from rfl,← Nat.pow_mul]
   exact Nat.pow_le_pow_right (by omega) (by omega)
  exact Nat.lt_of_lt_of_le h2 h3)
 omega
theorem f2words (a:Option Addr) (n c x:Nat) (w:World) (h:RD w a n c x) (hn:n≤68719476736):Calls Tryz.prog 163 #[.slice a n c] w
  fun e w'=>∃ a5 c5,e=.returned (.slice a5 (lenW x) c5)∧WdS w' a5 (lenW x) c5 x∧Below w.heap.size w w':=by
 obtain ⟨i0,hi,hz0,hz1,hz2⟩:=info_parts Tryz.info_cloneW
 obtain ⟨l1,l2⟩:=lenW_nd x
 rw [← h.1] at l1 l2
 have hl:=h.len
 have HAL:=Lib.hid (show wordsN x (lenW x)=toWords x by
  have h1:=wordsN_trim (lt_lenW x)
  rw [h1,show lenW x - (toWords x).length=0 from Nat.sub_self _];simp)
 obtain ⟨K,hK⟩:∃ K,lenW x=K:=⟨_,rfl⟩
 have HK:=Lib.hid hK
 rw [hK] at l1 l2 HAL ⊢
 have HDIG:=Lib.hid (fun (k:Nat) (W:World) (hb:Below w.heap.size w W) (hk:k≤4611686018427387904)=>f2digit a n c x k W (h.2.below hb) (by rw [h.1];exact lt_nd x) hk)
 have HDG:=Lib.hid (fun i j hj=>of_dig x i j hj)
 have HWL:=Lib.hid (fun k=>(wordOf_lt x k:wordOf x k<W64))
 have HSN:=Lib.hid (fun k=>wordsN_succ x k)
 clear h hK
 go_enter Tryz.func163,Tryz.ntmps163
 go_wp2_with fail
 go_loopw [3,4] (fun v3 v4 wr=>∃ (k i:Nat) (a5:Option Addr) (c5:Nat),k≤K∧i=4*k∧v3=.slice a5 k c5∧v4=.int .i64 i∧WL w a5 k c5 (wordsN x k) wr) (fun _ v4 _=>n+4 - (intOf v4).toNat)
 case atStart=>exact ⟨0,0,none,0,Nat.zero_le _,rfl,rfl,rfl,WL.nil w⟩
 case round =>
  obtain ⟨k,i,a5,c5,hkK,hik,rfl,rfl,ho⟩:=hrel
  have HO:=Lib.hid ho
  have hcl:=ho.len
  have HIK:=Lib.hid hik
  by_cases hlt:k<K
  ·
   have hin:i<n:=by omega
   have hib:i≤68719476736:=by omega
   have hsn:=HSN.out k
   have hwl:=HWL.out k
   have HDI:=Lib.hid (fun j hj=>hik▸HDG.out k j hj)
   have HBL:=Lib.hid ho.bel
   generalize wordOf x k=v at hwl HDI hsn
   have HSK:=Lib.hid hsn
   clear ho hik hsn
   go_wp2_with fail
   go_loopw [5,6] (fun v5 v6 wq=>∃ (t:Nat) (q:Nat),t≤4∧v5=.int .u64 (q:Nat)∧q=v / 65536^(4 - t)∧v6=.int .i64 (3 - (t:Int))∧wq=wr) (fun _ v6 _=>(intOf v6+1).toNat)
   case atStart=>exact ⟨0,0,by omega,rfl,by (unfold W64 at hwl;omega),rfl,rfl⟩
   case round =>
    obtain ⟨t,q,ht,rfl,hq,rfl,hw⟩:=hrel
    subst hw
    by_cases ht4:t<4
    ·
     obtain ⟨j,hj⟩:∃ j,3 - t=j:=⟨_,rfl⟩
     have e0:(3:Int) - (t:Int)=(j:Int):=by omega
     have hdi:=HDI.out j (by omega)
     have hdc:=HDIG.out (i+j) wr HBL.out (by omega)
     rw [hdi] at hdc
     have hq2:v / 65536^j=q*65536+v / 65536^j % 65536:=by
      have h1:q=v / 65536^j / 65536:=by rw [hq,Nat.div_div_eq_div_mul,← Nat.pow_succ];congr 2;omega
      omega
     have hd:v / 65536^j % 65536<65536:=Nat.mod_lt _ (by omega)
     have hvb:v / 65536^j≤18446744073709551615:=Nat.le_trans (Nat.div_le_self _ _) (by unfold W64 at hwl;omega)
     have e1:(i:Int)+(j:Int)=((i+j:Nat):Int):=by omega
     generalize v / 65536^j % 65536=d at hdc hq2 hd
     obtain ⟨y,hy⟩:∃ y,v / 65536^j=y:=⟨_,rfl⟩
     rw [hy] at hq2 hvb
     have HY:=Lib.hid hy
     have HTJ:=Lib.hid hj
     obtain ⟨m,hm⟩:∃ m,i+j=m:=⟨_,rfl⟩
     rw [hm] at e1 hdc
     have HDC:=Lib.hid hdc
     have e2:IntKind.u64.wrap ((q:Int)*65536)=((q*65536:Nat):Int):=by unfold IntKind.wrap;simp [IntKind.bits,IntKind.signed];omega
     have e3:IntKind.u64.wrap ((d:Nat):Int)=(d:Int):=by unfold IntKind.wrap;simp [IntKind.bits,IntKind.signed];omega
     have e4:IntKind.u64.wrap ((q*65536:Nat)+(d:Int))=(y:Int):=by unfold IntKind.wrap;simp [IntKind.bits,IntKind.signed];omega
     rw [e0]
     clear hq hj hy hdi hdc hm
     go_wp2_with fail
     refine HDC.out.mono ?_
     rintro e w2 ⟨rfl,rfl⟩
     go_wp2_with fail
     go_roundw
     case rel=>exact ⟨t+1,y,by omega,by go_num,by rw [← HY.out];congr 2;have:=HTJ.out;omega,by have:=HTJ.out;go_num,by trivial⟩
     case measure=>simp [intOf]
    ·
     obtain rfl:t=4:=by omega
     have hqv:q=v:=by rw [hq];simp
     subst hqv
     clear hq
     have HM3:=Lib.hid (HO.out.mid.alloc (.cells #[.int .u64 ((q:Nat):Int)] 164))
     have HS3:=Lib.hid ((Sl.lit wr 164 1 1 ([q].map UV) (by unfold maxLen;omega) rfl).src (P:=Tryz.prog) Tryz.underlying22 (one_UW [q]))
     have HW3:=Lib.hid (Nat.le_trans HO.out.bel.size (belowBox wr (.cells #[.int .u64 ((q:Nat):Int)] 164)).size)
     go_wp2_with (at_builtin;refine wpList_append_mid (v:=.slice a5 k c5) rfl _ _ 22 22 rfl i0 (.int .u64 0) 8 Tryz.underlying22 hi hz0 hz1 hz2 rfl rfl HM3.out _ rfl 1 _ HS3.out (by unfold maxLen;omega) (by omega) HW3.out ?_;intro a6 c6 w6 hmo hgo hbo;have HP:=Lib.hid (show WL _ a6 (k+1) c6 _ w6 from HO.out.push (ds:=[q]) hmo hgo);clear hmo hgo hbo HM3 HS3 HW3;go_wp2_with fail)
     go_roundw
     case rel=>exact ⟨k+1,i+4,a6,c6,by omega,by have:=HIK.out;omega,rfl,by go_num,by rw [HSK.out];exact HP.out⟩
     case measure=>simp [intOf];omega
  ·
   obtain rfl:k=K:=by omega
   have hin:¬ i<n:=by omega
   clear ho hik
   go_wp2_with fail
   go_ret
   have h9:=Sl.ofMid HO.out.mid
   rw [HAL.out] at h9
   exact ⟨a5,c5,rfl,⟨HK.out.symm,h9⟩,HO.out.bel⟩
theorem WdS.get {w:World} {a:Option Addr} {m c x:Nat} (h:WdS w a m c x) (k:Nat) (hk:k<m) :
  ∃ b o,a=some ⟨b,o,none⟩∧b<w.heap.size∧w.cell? ⟨b,o+k,none⟩=some (.int .u64 (wordOf x k:Nat)):=by
 obtain ⟨b,o,c',e,_,_,hlt,hc⟩:=Sl.plain h.2 (by omega)
 cases e
 exact ⟨b,o,rfl,hlt,hc k _ (ws_at (by rw [← h.1];exact hk))⟩
theorem f2is (a b:Option Addr) (n c m d x:Nat) (w:World) (h:RD w a n c x) (h2:WdS w b m d x) (hn:n≤68719476736):Calls Tryz.prog 160 #[.slice a n c,.slice b m d] w
  fun e w'=>e=.returned (.bool true)∧Below w.heap.size w w':=by
 have HWD:=Lib.hid (f2words a n c x w h hn)
 rw [← h2.1] at HWD
 have hl2:=h2.len
 have HW:=Lib.hid h2
 clear h h2
 go_enter Tryz.func160,Tryz.ntmps160
 go_wp2_with fail
 refine HWD.out.mono ?_
 rintro e w1 ⟨a5,c5,rfl,hs,hb⟩
 have hl5:=hs.len
 have HS:=Lib.hid hs
 have HB:=Lib.hid hb
 clear hs hb HWD
 go_wp2_with fail
 go_loopw [6] (fun v6 wr=>∃ k:Nat,k≤m∧v6=.int .i64 k∧Below w1.heap.size w1 wr) (fun v6 _=>m - (intOf v6).toNat)
 case atStart=>exact ⟨0,Nat.zero_le _,rfl,Below.refl _ _⟩
 case round =>
  obtain ⟨k,hk,rfl,hbl⟩:=hrel
  have HBL:=Lib.hid hbl
  by_cases hlt:k<m
  ·
   obtain ⟨b1,o1,ha1,hb1,hc1⟩:=(HS.out.below hbl).get k hlt
   obtain ⟨b2,o2,ha2,hb2,hc2⟩:=(HW.out.below (bthen HB.out hbl)).get k hlt
   subst ha1 ha2
   generalize wordOf x k=v at hc1 hc2
   have i1:(k:Int)<(m:Int):=by omega
   clear hbl
   go_wp2
   go_quiet (fail)
   go_wp2
   go_roundw
   case rel=>exact ⟨k+1,by omega,by go_num,belowDrawn HBL.out _⟩
   case measure=>simp [intOf];omega
  ·
   obtain rfl:k=m:=by omega
   clear hbl
   go_wp2_with fail
   go_ret
   exact ⟨rfl,bthen HB.out HBL.out⟩
theorem nwords_any (a:Option Addr) (c x:Nat) (w:World) (h:NatW w a c x) (hs:lenW x≤4294967296):Calls Tryz.prog 161 #[.agg #[.slice a (lenW x) c]] w fun e w'=>∃ a3 c3,e=.returned (.slice a3 (lenW x) c3)∧WdS w' a3 (lenW x) c3 x∧Below w.heap.size w w':=by
 obtain ⟨W0,hW0⟩:∃ W0,W0=(w.alloc (.cells #[.slice a (lenW x) c] 41)):=⟨_,rfl⟩
 have hbs:BS w [⟨w.heap.size,41,[.slice a (lenW x) c]⟩] [⟨a,c,x⟩] (w.alloc (.cells #[.slice a (lenW x) c] 41)) :=
   ((BS.begin [⟨a,c,x⟩] (fun y hy=>by
    rw [List.mem_singleton.1 hy];exact h)).alloc (p:=w.heap.size) rfl 41 [.slice a (lenW x) c] rfl)
 rw [← hW0] at hbs
 have HW0:=Lib.hid hW0
 have HN:=Lib.hid hbs
 clear hW0 hbs
 go_enter Tryz.func161,Tryz.ntmps161
 have HC:=Lib.hid fun (W:World) (q:NatW W a c x)=>cloneW (.slice a (lenW x) c) (lenW x) _ W q.sl (one_UW _) (by omega)
 go_wp2_with fail
 rw [← HW0.out]
 refine (HC.out _ (HN.out.nat 0 rfl)).mono ?_
 rintro e w1 ⟨a3,c3,rfl,hm,hb⟩
 have HM:=Lib.hid (Sl.ofMid hm)
 replace HN:=Lib.hid (HN.out.call hb)
 clear hm hb
 go_wp2_with fail
 go_ret
 exact ⟨a3,c3,rfl,⟨rfl,HM.out⟩,HN.out.bel⟩
theorem like2_any (a b:Option Addr) (c m d x:Nat) (w:World) (h:NatW w a c x) (h2:RD w b m d x) (hs:lenW x≤4294967296) (hm:m≤68719476736):Calls Tryz.prog 98 #[.agg #[.slice a (lenW x) c],.slice b m d] w (fun e w'=>e=.returned (.bool true)∧Below w.heap.size w w'):=by
 obtain ⟨W0,hW0⟩:∃ W0,W0=(w.alloc (.cells #[.slice a (lenW x) c] 41)):=⟨_,rfl⟩
 have hbs:BS w [⟨w.heap.size,41,[.slice a (lenW x) c]⟩] [⟨a,c,x⟩] (w.alloc (.cells #[.slice a (lenW x) c] 41)) :=
   ((BS.begin [⟨a,c,x⟩] (fun y hy=>by
    rw [List.mem_singleton.1 hy];exact h)).alloc (p:=w.heap.size) rfl 41 [.slice a (lenW x) c] rfl)
 rw [← hW0] at hbs
 have HW0:=Lib.hid hW0
 have HN:=Lib.hid hbs
 clear hW0 hbs
 have HR:=Lib.hid (show RT W0 b m d x from by rw [HW0.out];exact (h2.rt.below (belowBox _ _) trivial))
 clear h2
 go_enter Tryz.func98,Tryz.ntmps98
 go_wp2_with fail
 rw [← HW0.out]
 refine (nwords_any _ _ _ _ (HN.out.nat 0 rfl) hs).mono ?_
 rintro e w1 ⟨a3,c3,rfl,hr0,hb⟩
 replace HR:=Lib.hid (show RT w1 b m d x from HR.out.below hb HR.out.lt)
 have HS:=Lib.hid hr0
 replace HN:=Lib.hid (HN.out.call hb)
 clear hb hr0
 have ⟨k00,f00⟩:=HN.out.cf1 0 rfl
 go_wp2_with fail
 clear k00 f00
 refine (f2is _ _ _ _ _ _ _ _ HR.out.rd HS.out hm).mono ?_
 rintro e w2 ⟨rfl,hb⟩
 replace HR:=Lib.hid (show RT w2 b m d x from HR.out.below hb HR.out.lt)
 replace HS:=Lib.hid (show WdS w2 a3 (lenW x) c3 x from HS.out.below hb HS.out.lt)
 replace HN:=Lib.hid (HN.out.call hb)
 clear hb 
 have ⟨k00,f00⟩:=HN.out.cf1 0 rfl
 go_wp2_with fail
 clear k00 f00
 refine (nlen_any _ _ _ _).mono ?_
 rintro e w3 ⟨rfl,hb⟩
 replace HR:=Lib.hid (show RT w3 b m d x from HR.out.below hb HR.out.lt)
 replace HS:=Lib.hid (show WdS w3 a3 (lenW x) c3 x from HS.out.below hb HS.out.lt)
 replace HN:=Lib.hid (HN.out.call hb)
 clear hb 
 have ⟨k00,f00⟩:=HN.out.cf1 0 rfl
 go_wp2_with fail
 clear k00 f00
 refine (f2words _ _ _ _ _ HR.out.rd hm).mono ?_
 rintro e w4 ⟨a5,c5,rfl,hr0,hb⟩
 replace HR:=Lib.hid (show RT w4 b m d x from HR.out.below hb HR.out.lt)
 replace HS:=Lib.hid (show WdS w4 a3 (lenW x) c3 x from HS.out.below hb HS.out.lt)
 have HS2:=Lib.hid hr0
 replace HN:=Lib.hid (HN.out.call hb)
 clear hb hr0
 have ⟨k00,f00⟩:=HN.out.cf1 0 rfl
 have HE:=Lib.hid (HN.out)
 go_wp2_with fail
 refine bodyPost_ret (v:=.bool true) (by simp [results,Tryz.results98,go_sem,k00]) rfl ?_
 exact ⟨rfl,HE.out.bel⟩
theorem like7_n (a b:Option Addr) (c m d x:Nat) (w:World) (h:NatW w a c x) (h2:RD w b m d x) (hmd:m≤d∧d≤9223372036854775807)
  (HBE:Hid (∀ W,Calls Tryz.prog 136 #[.agg #[.bool true,.slice a (lenW x) c]] W (fun e w'=>e=.returned (.bool true)∧Below W.heap.size W w')))
  (HSI:Hid (∀ W,Calls Tryz.prog 109 #[.agg #[.bool true,.slice a (lenW x) c]] W fun e w'=>e=.returned (.int .i64 (-1))∧Below W.heap.size W w'))
  (HAB:Hid (∀ W,Calls Tryz.prog 46 #[.agg #[.bool true,.slice a (lenW x) c]] W fun e w'=>e=.returned (.agg #[.slice a (lenW x) c])∧Below W.heap.size W w'))
  (HLK:Hid (∀ W,NatW W a c x→RT W b m d x→Calls Tryz.prog 98 #[.agg #[.slice a (lenW x) c],.slice b m d] W (fun e w'=>e=.returned (.bool true)∧Below W.heap.size W w'))) :
  Calls Tryz.prog 97 #[.agg #[.bool true,.slice a (lenW x) c],.agg #[.bool true,.slice b m d]] w (fun e w'=>e=.returned (.bool true)∧Below w.heap.size w w'):=by
 obtain ⟨W0,hW0⟩:∃ W0,W0=((w.alloc (.cells #[.bool true,.slice a (lenW x) c] 43)).alloc (.cells #[.bool true,.slice b m d] 58)):=⟨_,rfl⟩
 have hbs:BS w [⟨w.heap.size,43,[.bool true,.slice a (lenW x) c]⟩,⟨w.heap.size+1,58,[.bool true,.slice b m d]⟩] [⟨a,c,x⟩] ((w.alloc (.cells #[.bool true,.slice a (lenW x) c] 43)).alloc (.cells #[.bool true,.slice b m d] 58)) :=
   (((BS.begin [⟨a,c,x⟩] (fun y hy=>by
    rw [List.mem_singleton.1 hy];exact h)).alloc (p:=w.heap.size) rfl 43 [.bool true,.slice a (lenW x) c] rfl).alloc (p:=w.heap.size+1) (by simp) 58 [.bool true,.slice b m d] rfl)
 rw [← hW0] at hbs
 have HW0:=Lib.hid hW0
 have HN:=Lib.hid hbs
 clear hW0 hbs
 have HR:=Lib.hid (show RT W0 b m d x from by rw [HW0.out];exact ((h2.rt.below (belowBox _ _) trivial).below (belowBox _ _) trivial))
 clear h2
 go_enter Tryz.func97,Tryz.ntmps97
 go_upto_region 6 with fail
 rw [← HW0.out]
 go_cut [4] (fun v4 wx=>v4=.bool true∧Below w.heap.size w wx)
 case first =>
  replace HR:=Lib.hid (show RT W0.drew b m d x from HR.out.below (Below.refl _ _).drew HR.out.lt)
  replace HN:=Lib.hid HN.out.drew
  refine wp_region_held_drew (S:=fun W=>W.cell? ⟨w.heap.size,0,none⟩=some (.bool true)∧W.cell? ⟨w.heap.size,1,none⟩=some (.slice a (lenW x) c)∧W.cell? ⟨w.heap.size+1,0,none⟩=some (.bool true)∧W.cell? ⟨w.heap.size+1,1,none⟩=some (.slice b m d)) (by kernel_rfl) (⟨HN.out.cell 0 0 rfl rfl,HN.out.cell 0 1 rfl rfl,HN.out.cell 1 0 rfl rfl,HN.out.cell 1 1 rfl rfl⟩) (fun hHeld=>?_)
  generalize W0.drew=wd at HN HR hHeld ⊢
  refine tl 0 (some 12) ?_
  refine tm 2 (some 14) ?_
  refine tl 3 (some 15) ?_
  have tg:=Mk.mk (v:=0) (d:=0)
  iterate 4
   all_goals first
   |
    have _:Mk _ 0:=tg
    refine wpAnyH_ready (rs:=[1]) (by kernel_rfl) (by simp) (AllReadyH.cons rfl (fun K hK=>cT 0 1 fun tg=>?_) AllReadyH.nil)
   |
    have _:Mk _ 1:=tg
    refine wpAnyH_ready (rs:=[7]) (by kernel_rfl) (by simp) (AllReadyH.cons rfl (fun K hK=>cT 1 2 fun tg=>?_) AllReadyH.nil)
   |
    have _:Mk _ 2:=tg
    refine wpAnyH_ready (rs:=[13]) (by kernel_rfl) (by simp) (AllReadyH.cons rfl (fun K hK=>cT 2 3 fun tg=>?_) AllReadyH.nil)
   |
    have _:Mk _ 3:=tg
    refine wpAnyH_ready (rs:=[16]) (by kernel_rfl) (by simp) (AllReadyH.cons rfl (fun K hK=>cT 3 4 fun tg=>?_) AllReadyH.nil)
   all_goals first
   |
    have _:Mk 0 _:=tg
    go_simp
    refine (HBE.out _).mono ?_
    rintro e wd ⟨rfl,hb⟩
    replace HR:=Lib.hid (show RT wd b m d x from HR.out.below hb HR.out.lt)
    replace HN:=Lib.hid (HN.out.call hb)
    clear hb 
    go_wp2_with fail
    refine hK.out _ _ (⟨HN.out.cell 0 0 rfl rfl,HN.out.cell 0 1 rfl rfl,HN.out.cell 1 0 rfl rfl,HN.out.cell 1 1 rfl rfl⟩) (fun hHeld2=>?_)
    clear hK K hHeld
    rename _=>hHeld
    try simp only [Act.put,stB,stZ,stS]
    refine tm 4 (some 16) ?_
    refine tm 5 (some 17) ?_
    refine tl 6 (some 18) ?_
    refine tm 8 (some 20) ?_
   |
    have _:Mk 1 _:=tg
    go_simp
    refine (HSI.out _).mono ?_
    rintro e wd ⟨rfl,hb⟩
    replace HR:=Lib.hid (show RT wd b m d x from HR.out.below hb HR.out.lt)
    replace HN:=Lib.hid (HN.out.call hb)
    clear hb 
    go_wp2_with fail
    refine hK.out _ _ (⟨HN.out.cell 0 0 rfl rfl,HN.out.cell 0 1 rfl rfl,HN.out.cell 1 0 rfl rfl,HN.out.cell 1 1 rfl rfl⟩) (fun hHeld2=>?_)
    clear hK K hHeld
    rename _=>hHeld
    try simp only [Act.put,stB,stZ,stS]
    refine tm 9 (some 21) ?_
    refine tm 10 (some 22) ?_
    refine tm 11 (some 23) ?_
    refine tl 12 (some 24) ?_
    refine tm 14 (some 26) ?_
    refine tl 15 (some 27) ?_
   |
    have _:Mk 2 _:=tg
    go_simp
    refine (HAB.out _).mono ?_
    rintro e wd ⟨rfl,hb⟩
    replace HR:=Lib.hid (show RT wd b m d x from HR.out.below hb HR.out.lt)
    replace HN:=Lib.hid (HN.out.call hb)
    clear hb 
    go_wp2_with fail
    refine hK.out _ _ (⟨HN.out.cell 0 0 rfl rfl,HN.out.cell 0 1 rfl rfl,HN.out.cell 1 0 rfl rfl,HN.out.cell 1 1 rfl rfl⟩) (fun hHeld2=>?_)
    clear hK K hHeld
    rename _=>hHeld
    try simp only [Act.put,stB,stZ,stS]
   |
    have _:Mk 3 _:=tg
    go_simp
    refine (HLK.out _ (HN.out.nat 0 rfl) HR.out).mono ?_
    rintro e wd ⟨rfl,hb⟩
    replace HR:=Lib.hid (show RT wd b m d x from HR.out.below hb HR.out.lt)
    replace HN:=Lib.hid (HN.out.call hb)
    clear hb 
    go_wp2_with fail
    refine hK.out _ _ (⟨HN.out.cell 0 0 rfl rfl,HN.out.cell 0 1 rfl rfl,HN.out.cell 1 0 rfl rfl,HN.out.cell 1 1 rfl rfl⟩) (fun hHeld2=>?_)
    clear hK K hHeld
    rename _=>hHeld
    try simp only [Act.put,stB,stZ,stS]
    refine tm 17 (some 29) ?_
    refine tm 18 (some 4) ?_
  all_goals (refine wpAnyH_done (by kernel_rfl) ?_ _)
  all_goals
   go_wp2_with fail
   go_meet
   exact ⟨rfl,HN.out.bel⟩
 case rest =>
  obtain ⟨rfl,hb⟩:=hcut
  have HB:=Lib.hid hb
  clear hb
  go_wp2_with fail
  go_ret
  exact ⟨rfl,HB.out⟩
theorem like7_z (a b:Option Addr) (c d x:Nat) (w:World) (h:NatW w a c x) (h2:RD w b 0 d x)
  (HBE:Hid (∀ W,Calls Tryz.prog 136 #[.agg #[.bool false,.slice a (lenW x) c]] W (fun e w'=>e=.returned (.bool false)∧Below W.heap.size W w')))
  (HSI:Hid (∀ W,Calls Tryz.prog 109 #[.agg #[.bool false,.slice a (lenW x) c]] W fun e w'=>e=.returned (.int .i64 0)∧Below W.heap.size W w'))
  (HAB:Hid (∀ W,Calls Tryz.prog 46 #[.agg #[.bool false,.slice a (lenW x) c]] W fun e w'=>e=.returned (.agg #[.slice a (lenW x) c])∧Below W.heap.size W w'))
  (HLK:Hid (∀ W,NatW W a c x→RT W b 0 d x→Calls Tryz.prog 98 #[.agg #[.slice a (lenW x) c],.slice b 0 d] W (fun e w'=>e=.returned (.bool true)∧Below W.heap.size W w'))) :
  Calls Tryz.prog 97 #[.agg #[.bool false,.slice a (lenW x) c],.agg #[.bool false,.slice b 0 d]] w (fun e w'=>e=.returned (.bool true)∧Below w.heap.size w w'):=by
 obtain ⟨W0,hW0⟩:∃ W0,W0=((w.alloc (.cells #[.bool false,.slice a (lenW x) c] 43)).alloc (.cells #[.bool false,.slice b 0 d] 58)):=⟨_,rfl⟩
 have hbs:BS w [⟨w.heap.size,43,[.bool false,.slice a (lenW x) c]⟩,⟨w.heap.size+1,58,[.bool false,.slice b 0 d]⟩] [⟨a,c,x⟩] ((w.alloc (.cells #[.bool false,.slice a (lenW x) c] 43)).alloc (.cells #[.bool false,.slice b 0 d] 58)) :=
   (((BS.begin [⟨a,c,x⟩] (fun y hy=>by
    rw [List.mem_singleton.1 hy];exact h)).alloc (p:=w.heap.size) rfl 43 [.bool false,.slice a (lenW x) c] rfl).alloc (p:=w.heap.size+1) (by simp) 58 [.bool false,.slice b 0 d] rfl)
 rw [← hW0] at hbs
 have HW0:=Lib.hid hW0
 have HN:=Lib.hid hbs
 clear hW0 hbs
 have HR:=Lib.hid (show RT W0 b 0 d x from by rw [HW0.out];exact ((h2.rt.below (belowBox _ _) trivial).below (belowBox _ _) trivial))
 clear h2
 go_enter Tryz.func97,Tryz.ntmps97
 go_upto_region 6 with fail
 rw [← HW0.out]
 go_cut [4] (fun v4 wx=>v4=.bool true∧Below w.heap.size w wx)
 case first =>
  replace HR:=Lib.hid (show RT W0.drew b 0 d x from HR.out.below (Below.refl _ _).drew HR.out.lt)
  replace HN:=Lib.hid HN.out.drew
  refine wp_region_held_drew (S:=fun W=>W.cell? ⟨w.heap.size,0,none⟩=some (.bool false)∧W.cell? ⟨w.heap.size,1,none⟩=some (.slice a (lenW x) c)∧W.cell? ⟨w.heap.size+1,0,none⟩=some (.bool false)∧W.cell? ⟨w.heap.size+1,1,none⟩=some (.slice b 0 d)) (by kernel_rfl) (⟨HN.out.cell 0 0 rfl rfl,HN.out.cell 0 1 rfl rfl,HN.out.cell 1 0 rfl rfl,HN.out.cell 1 1 rfl rfl⟩) (fun hHeld=>?_)
  generalize W0.drew=wd at HN HR hHeld ⊢
  refine tl 0 (some 12) ?_
  refine tm 2 (some 14) ?_
  refine tl 3 (some 15) ?_
  have tg:=Mk.mk (v:=0) (d:=0)
  iterate 4
   all_goals first
   |
    have _:Mk _ 0:=tg
    refine wpAnyH_ready (rs:=[1]) (by kernel_rfl) (by simp) (AllReadyH.cons rfl (fun K hK=>cT 0 1 fun tg=>?_) AllReadyH.nil)
   |
    have _:Mk _ 1:=tg
    refine wpAnyH_ready (rs:=[7]) (by kernel_rfl) (by simp) (AllReadyH.cons rfl (fun K hK=>cT 1 2 fun tg=>?_) AllReadyH.nil)
   |
    have _:Mk _ 2:=tg
    refine wpAnyH_ready (rs:=[13]) (by kernel_rfl) (by simp) (AllReadyH.cons rfl (fun K hK=>cT 2 3 fun tg=>?_) AllReadyH.nil)
   |
    have _:Mk _ 3:=tg
    refine wpAnyH_ready (rs:=[16]) (by kernel_rfl) (by simp) (AllReadyH.cons rfl (fun K hK=>cT 3 4 fun tg=>?_) AllReadyH.nil)
   all_goals first
   |
    have _:Mk 0 _:=tg
    go_simp
    refine (HBE.out _).mono ?_
    rintro e wd ⟨rfl,hb⟩
    replace HR:=Lib.hid (show RT wd b 0 d x from HR.out.below hb HR.out.lt)
    replace HN:=Lib.hid (HN.out.call hb)
    clear hb 
    go_wp2_with fail
    refine hK.out _ _ (⟨HN.out.cell 0 0 rfl rfl,HN.out.cell 0 1 rfl rfl,HN.out.cell 1 0 rfl rfl,HN.out.cell 1 1 rfl rfl⟩) (fun hHeld2=>?_)
    clear hK K hHeld
    rename _=>hHeld
    try simp only [Act.put,stB,stZ,stS]
    refine tm 4 (some 16) ?_
    refine tm 5 (some 17) ?_
    refine tl 6 (some 18) ?_
    refine tm 8 (some 20) ?_
   |
    have _:Mk 1 _:=tg
    go_simp
    refine (HSI.out _).mono ?_
    rintro e wd ⟨rfl,hb⟩
    replace HR:=Lib.hid (show RT wd b 0 d x from HR.out.below hb HR.out.lt)
    replace HN:=Lib.hid (HN.out.call hb)
    clear hb 
    go_wp2_with fail
    refine hK.out _ _ (⟨HN.out.cell 0 0 rfl rfl,HN.out.cell 0 1 rfl rfl,HN.out.cell 1 0 rfl rfl,HN.out.cell 1 1 rfl rfl⟩) (fun hHeld2=>?_)
    clear hK K hHeld
    rename _=>hHeld
    try simp only [Act.put,stB,stZ,stS]
    refine tm 9 (some 21) ?_
    refine tm 10 (some 22) ?_
    refine tm 11 (some 23) ?_
    refine tl 12 (some 24) ?_
    refine tm 14 (some 26) ?_
    refine tl 15 (some 27) ?_
   |
    have _:Mk 2 _:=tg
    go_simp
    refine (HAB.out _).mono ?_
    rintro e wd ⟨rfl,hb⟩
    replace HR:=Lib.hid (show RT wd b 0 d x from HR.out.below hb HR.out.lt)
    replace HN:=Lib.hid (HN.out.call hb)
    clear hb 
    go_wp2_with fail
    refine hK.out _ _ (⟨HN.out.cell 0 0 rfl rfl,HN.out.cell 0 1 rfl rfl,HN.out.cell 1 0 rfl rfl,HN.out.cell 1 1 rfl rfl⟩) (fun hHeld2=>?_)
    clear hK K hHeld
    rename _=>hHeld
    try simp only [Act.put,stB,stZ,stS]
   |
    have _:Mk 3 _:=tg
    go_simp
    refine (HLK.out _ (HN.out.nat 0 rfl) HR.out).mono ?_
    rintro e wd ⟨rfl,hb⟩
    replace HR:=Lib.hid (show RT wd b 0 d x from HR.out.below hb HR.out.lt)
    replace HN:=Lib.hid (HN.out.call hb)
    clear hb 
    go_wp2_with fail
    refine hK.out _ _ (⟨HN.out.cell 0 0 rfl rfl,HN.out.cell 0 1 rfl rfl,HN.out.cell 1 0 rfl rfl,HN.out.cell 1 1 rfl rfl⟩) (fun hHeld2=>?_)
    clear hK K hHeld
    rename _=>hHeld
    try simp only [Act.put,stB,stZ,stS]
    refine tm 17 (some 29) ?_
    refine tm 18 (some 4) ?_
  all_goals (refine wpAnyH_done (by kernel_rfl) ?_ _)
  all_goals
   go_wp2_with fail
   go_meet
   exact ⟨rfl,HN.out.bel⟩
 case rest =>
  obtain ⟨rfl,hb⟩:=hcut
  have HB:=Lib.hid hb
  clear hb
  go_wp2_with fail
  go_ret
  exact ⟨rfl,HB.out⟩
theorem like7_p (a b:Option Addr) (c m d x:Nat) (w:World) (h:NatW w a c x) (h2:RD w b m d x) (hmd:m≤d∧d≤9223372036854775807) (hm0:((m:Int)==0)=false)
  (HBE:Hid (∀ W,Calls Tryz.prog 136 #[.agg #[.bool false,.slice a (lenW x) c]] W (fun e w'=>e=.returned (.bool false)∧Below W.heap.size W w')))
  (HSI:Hid (∀ W,Calls Tryz.prog 109 #[.agg #[.bool false,.slice a (lenW x) c]] W fun e w'=>e=.returned (.int .i64 1)∧Below W.heap.size W w'))
  (HAB:Hid (∀ W,Calls Tryz.prog 46 #[.agg #[.bool false,.slice a (lenW x) c]] W fun e w'=>e=.returned (.agg #[.slice a (lenW x) c])∧Below W.heap.size W w'))
  (HLK:Hid (∀ W,NatW W a c x→RT W b m d x→Calls Tryz.prog 98 #[.agg #[.slice a (lenW x) c],.slice b m d] W (fun e w'=>e=.returned (.bool true)∧Below W.heap.size W w'))) :
  Calls Tryz.prog 97 #[.agg #[.bool false,.slice a (lenW x) c],.agg #[.bool false,.slice b m d]] w (fun e w'=>e=.returned (.bool true)∧Below w.heap.size w w'):=by
 obtain ⟨W0,hW0⟩:∃ W0,W0=((w.alloc (.cells #[.bool false,.slice a (lenW x) c] 43)).alloc (.cells #[.bool false,.slice b m d] 58)):=⟨_,rfl⟩
 have hbs:BS w [⟨w.heap.size,43,[.bool false,.slice a (lenW x) c]⟩,⟨w.heap.size+1,58,[.bool false,.slice b m d]⟩] [⟨a,c,x⟩] ((w.alloc (.cells #[.bool false,.slice a (lenW x) c] 43)).alloc (.cells #[.bool false,.slice b m d] 58)) :=
   (((BS.begin [⟨a,c,x⟩] (fun y hy=>by
    rw [List.mem_singleton.1 hy];exact h)).alloc (p:=w.heap.size) rfl 43 [.bool false,.slice a (lenW x) c] rfl).alloc (p:=w.heap.size+1) (by simp) 58 [.bool false,.slice b m d] rfl)
 rw [← hW0] at hbs
 have HW0:=Lib.hid hW0
 have HN:=Lib.hid hbs
 clear hW0 hbs
 have HR:=Lib.hid (show RT W0 b m d x from by rw [HW0.out];exact ((h2.rt.below (belowBox _ _) trivial).below (belowBox _ _) trivial))
 clear h2
 go_enter Tryz.func97,Tryz.ntmps97
 go_upto_region 6 with fail
 rw [← HW0.out]
 go_cut [4] (fun v4 wx=>v4=.bool true∧Below w.heap.size w wx)
 case first =>
  replace HR:=Lib.hid (show RT W0.drew b m d x from HR.out.below (Below.refl _ _).drew HR.out.lt)
  replace HN:=Lib.hid HN.out.drew
  refine wp_region_held_drew (S:=fun W=>W.cell? ⟨w.heap.size,0,none⟩=some (.bool false)∧W.cell? ⟨w.heap.size,1,none⟩=some (.slice a (lenW x) c)∧W.cell? ⟨w.heap.size+1,0,none⟩=some (.bool false)∧W.cell? ⟨w.heap.size+1,1,none⟩=some (.slice b m d)) (by kernel_rfl) (⟨HN.out.cell 0 0 rfl rfl,HN.out.cell 0 1 rfl rfl,HN.out.cell 1 0 rfl rfl,HN.out.cell 1 1 rfl rfl⟩) (fun hHeld=>?_)
  generalize W0.drew=wd at HN HR hHeld ⊢
  refine tl 0 (some 12) ?_
  refine tm 2 (some 14) ?_
  refine tl 3 (some 15) ?_
  have tg:=Mk.mk (v:=0) (d:=0)
  iterate 4
   all_goals first
   |
    have _:Mk _ 0:=tg
    refine wpAnyH_ready (rs:=[1]) (by kernel_rfl) (by simp) (AllReadyH.cons rfl (fun K hK=>cT 0 1 fun tg=>?_) AllReadyH.nil)
   |
    have _:Mk _ 1:=tg
    refine wpAnyH_ready (rs:=[7]) (by kernel_rfl) (by simp) (AllReadyH.cons rfl (fun K hK=>cT 1 2 fun tg=>?_) AllReadyH.nil)
   |
    have _:Mk _ 2:=tg
    refine wpAnyH_ready (rs:=[13]) (by kernel_rfl) (by simp) (AllReadyH.cons rfl (fun K hK=>cT 2 3 fun tg=>?_) AllReadyH.nil)
   |
    have _:Mk _ 3:=tg
    refine wpAnyH_ready (rs:=[16]) (by kernel_rfl) (by simp) (AllReadyH.cons rfl (fun K hK=>cT 3 4 fun tg=>?_) AllReadyH.nil)
   all_goals first
   |
    have _:Mk 0 _:=tg
    go_simp
    refine (HBE.out _).mono ?_
    rintro e wd ⟨rfl,hb⟩
    replace HR:=Lib.hid (show RT wd b m d x from HR.out.below hb HR.out.lt)
    replace HN:=Lib.hid (HN.out.call hb)
    clear hb 
    go_wp2_with fail
    refine hK.out _ _ (⟨HN.out.cell 0 0 rfl rfl,HN.out.cell 0 1 rfl rfl,HN.out.cell 1 0 rfl rfl,HN.out.cell 1 1 rfl rfl⟩) (fun hHeld2=>?_)
    clear hK K hHeld
    rename _=>hHeld
    try simp only [Act.put,stB,stZ,stS]
    refine tm 4 (some 16) ?_
    refine tm 5 (some 17) ?_
    refine tl 6 (some 18) ?_
    refine tm 8 (some 20) ?_
   |
    have _:Mk 1 _:=tg
    go_simp
    refine (HSI.out _).mono ?_
    rintro e wd ⟨rfl,hb⟩
    replace HR:=Lib.hid (show RT wd b m d x from HR.out.below hb HR.out.lt)
    replace HN:=Lib.hid (HN.out.call hb)
    clear hb 
    go_wp2_with fail
    refine hK.out _ _ (⟨HN.out.cell 0 0 rfl rfl,HN.out.cell 0 1 rfl rfl,HN.out.cell 1 0 rfl rfl,HN.out.cell 1 1 rfl rfl⟩) (fun hHeld2=>?_)
    clear hK K hHeld
    rename _=>hHeld
    try simp only [Act.put,stB,stZ,stS]
    refine tm 9 (some 21) ?_
    refine tm 10 (some 22) ?_
    refine tm 11 (some 23) ?_
    refine tl 12 (some 24) ?_
    refine tm 14 (some 26) ?_
    refine tl 15 (some 27) ?_
   |
    have _:Mk 2 _:=tg
    go_simp
    refine (HAB.out _).mono ?_
    rintro e wd ⟨rfl,hb⟩
    replace HR:=Lib.hid (show RT wd b m d x from HR.out.below hb HR.out.lt)
    replace HN:=Lib.hid (HN.out.call hb)
    clear hb 
    go_wp2_with fail
    refine hK.out _ _ (⟨HN.out.cell 0 0 rfl rfl,HN.out.cell 0 1 rfl rfl,HN.out.cell 1 0 rfl rfl,HN.out.cell 1 1 rfl rfl⟩) (fun hHeld2=>?_)
    clear hK K hHeld
    rename _=>hHeld
    try simp only [Act.put,stB,stZ,stS]
   |
    have _:Mk 3 _:=tg
    go_simp
    refine (HLK.out _ (HN.out.nat 0 rfl) HR.out).mono ?_
    rintro e wd ⟨rfl,hb⟩
    replace HR:=Lib.hid (show RT wd b m d x from HR.out.below hb HR.out.lt)
    replace HN:=Lib.hid (HN.out.call hb)
    clear hb 
    go_wp2_with fail
    refine hK.out _ _ (⟨HN.out.cell 0 0 rfl rfl,HN.out.cell 0 1 rfl rfl,HN.out.cell 1 0 rfl rfl,HN.out.cell 1 1 rfl rfl⟩) (fun hHeld2=>?_)
    clear hK K hHeld
    rename _=>hHeld
    try simp only [Act.put,stB,stZ,stS]
    refine tm 17 (some 29) ?_
    refine tm 18 (some 4) ?_
  all_goals (refine wpAnyH_done (by kernel_rfl) ?_ _)
  all_goals
   go_wp2_with fail
   go_meet
   exact ⟨rfl,HN.out.bel⟩
 case rest =>
  obtain ⟨rfl,hb⟩:=hcut
  have HB:=Lib.hid hb
  clear hb
  go_wp2_with fail
  go_ret
  exact ⟨rfl,HB.out⟩
theorem like7_any (z:Int) (a b:Option Addr) (c m d:Nat) (w:World) (h:NatW w a c z.natAbs) (h2:RD w b m d z.natAbs) (hs:lenW z.natAbs≤4294967296) (hm:m≤68719476736) :
  Calls Tryz.prog 97 #[.agg #[.bool (decide (z<0)),.slice a (lenW z.natAbs) c],.agg #[.bool (decide (z<0)),.slice b m d]] w (fun e w'=>e=.returned (.bool true)∧Below w.heap.size w w'):=by
 have hl:=h2.len
 have hA:=fun (sg:Bool) (W:World)=>iabs_any sg a c z.natAbs W
 have hBe:=fun (sg:Bool) (W:World)=>ibelow_any sg a c z.natAbs W
 have hL:=Lib.hid fun (W:World) (q1:NatW W a c z.natAbs) (q2:RT W b m d z.natAbs)=>like2_any a b c m d z.natAbs W q1 q2 hs hm
 by_cases hz:z<0
 ·
  rw [decide_eq_true hz]
  exact like7_n a b c m d z.natAbs w h h2 hl (Lib.hid (hBe true)) (Lib.hid fun W=>isign_neg a c z.natAbs W) (Lib.hid (hA true)) hL
 ·
  rw [decide_eq_false hz]
  rcases Nat.eq_zero_or_pos m with h0 | h0
  ·
   subst h0
   have hx:z.natAbs=0:=nd_eq0.1 h2.1.symm
   exact like7_z a b c d z.natAbs w h h2 (Lib.hid (hBe false)) (Lib.hid fun W=>isign_nil a c z.natAbs W hx) (Lib.hid (hA false)) hL
  ·
   have hx:z.natAbs≠0:=fun e=>by have:=h2.1;rw [e,nd_zero] at this;omega
   exact like7_p a b c m d z.natAbs w h h2 hl (beq_eq_false_iff_ne.2 (by omega)) (Lib.hid (hBe false)) (Lib.hid fun W=>isign_pos a c z.natAbs W hx) (Lib.hid (hA false)) hL
theorem rbits_walk (qs:Bool) (a b:Option Addr) (c d qn qd y k1 k2:Nat) (hk1:k1≤1099511627776) (hk2:k2≤1099511627776) (w:World) (h:NatW w a c qn) (h2:NatW w b d qd)
  (HAB:Hid (∀ W,Calls Tryz.prog 46 #[.agg #[.bool qs,.slice a (lenW qn) c]] W fun e w'=>e=.returned (.agg #[.slice a (lenW qn) c])∧Below W.heap.size W w'))
  (HB1:Hid (∀ W,NatW W a c qn→Calls Tryz.prog 47 #[.agg #[.slice a (lenW qn) c]] W (fun e w'=>e=.returned (.int .i64 (k1:Nat))∧Below W.heap.size W w')))
  (HDE:Hid (∀ W,NatW W b d qd→Calls Tryz.prog 48 #[.agg #[.bool qs,.slice a (lenW qn) c,.slice b (lenW qd) d]] W (RetN y W)))
  (HB2:Hid (∀ a4 c4 W,NatW W a4 c4 y→Calls Tryz.prog 47 #[.agg #[.slice a4 (lenW y) c4]] W (fun e w'=>e=.returned (.int .i64 (k2:Nat))∧Below W.heap.size W w'))) :
  Calls Tryz.prog 99 #[.agg #[.bool qs,.slice a (lenW qn) c,.slice b (lenW qd) d]] w fun e w'=>e=.returned (.int .i64 ((k1:Int)+(k2:Int)))∧Below w.heap.size w w':=by
 have ew:IntKind.i64.wrap ((k1:Int)+(k2:Int))=(k1:Int)+(k2:Int):=IntWalk.i64_in _ (by omega)
 obtain ⟨W0,hW0⟩:∃ W0,W0=(w.alloc (.cells #[.bool qs,.slice a (lenW qn) c,.slice b (lenW qd) d] 45)):=⟨_,rfl⟩
 have hbs:BS w [⟨w.heap.size,45,[.bool qs,.slice a (lenW qn) c,.slice b (lenW qd) d]⟩] [⟨a,c,qn⟩,⟨b,d,qd⟩] (w.alloc (.cells #[.bool qs,.slice a (lenW qn) c,.slice b (lenW qd) d] 45)) :=
   ((BS.begin [⟨a,c,qn⟩,⟨b,d,qd⟩] (fun y hy=>by
    rcases List.mem_cons.1 hy with rfl | hy
    ·
     exact h
    rw [List.mem_singleton.1 hy];exact h2)).alloc (p:=w.heap.size) rfl 45 [.bool qs,.slice a (lenW qn) c,.slice b (lenW qd) d] rfl)
 rw [← hW0] at hbs
 have HW0:=Lib.hid hW0
 have HN:=Lib.hid hbs
 clear hW0 hbs
 go_enter Tryz.func99,Tryz.ntmps99
 go_upto_region 1 with fail
 rw [← HW0.out]
 go_cut [2] (fun v2 wx=>v2=.int .i64 ((k1:Int)+(k2:Int))∧Below w.heap.size w wx)
 case first =>
  replace HN:=Lib.hid HN.out.drew
  refine wp_region_held_drew (S:=fun W=>W.cell? ⟨w.heap.size,0,none⟩=some (.bool qs)∧W.cell? ⟨w.heap.size,1,none⟩=some (.slice a (lenW qn) c)∧W.cell? ⟨w.heap.size,2,none⟩=some (.slice b (lenW qd) d)) (by kernel_rfl) (⟨HN.out.cell 0 0 rfl rfl,HN.out.cell 0 1 rfl rfl,HN.out.cell 0 2 rfl rfl⟩) (fun hHeld=>?_)
  generalize W0.drew=wd at HN hHeld ⊢
  refine tm 0 (some 3) ?_
  refine tl 1 (some 4) ?_
  refine tl 4 (some 7) ?_
  have tg:=Mk.mk (v:=0) (d:=0)
  iterate 4
   all_goals first
   |
    have _:Mk _ 0:=tg
    refine wpAnyH_ready (rs:=[2]) (by kernel_rfl) (by simp) (AllReadyH.cons rfl (fun K hK=>cT 0 1 fun tg=>?_) AllReadyH.nil)
   |
    have _:Mk _ 1:=tg
    refine wpAnyH_ready (rs:=[3]) (by kernel_rfl) (by simp) (AllReadyH.cons rfl (fun K hK=>cT 1 2 fun tg=>?_) AllReadyH.nil)
   |
    have _:Mk _ 2:=tg
    refine wpAnyH_ready (rs:=[5]) (by kernel_rfl) (by simp) (AllReadyH.cons rfl (fun K hK=>cT 2 3 fun tg=>?_) AllReadyH.nil)
   |
    have _:Mk _ 3:=tg
    refine wpAnyH_ready (rs:=[6]) (by kernel_rfl) (by simp) (AllReadyH.cons rfl (fun K hK=>cT 3 4 fun tg=>?_) AllReadyH.nil)
   all_goals first
   |
    have _:Mk 0 _:=tg
    go_simp
    refine (HAB.out _).mono ?_
    rintro e wd ⟨rfl,hb⟩
    replace HN:=Lib.hid (HN.out.call hb)
    clear hb 
    go_wp2_with fail
    refine hK.out _ _ (⟨HN.out.cell 0 0 rfl rfl,HN.out.cell 0 1 rfl rfl,HN.out.cell 0 2 rfl rfl⟩) (fun hHeld2=>?_)
    clear hK K hHeld
    rename _=>hHeld
    try simp only [Act.put,stB,stZ,stS]
   |
    have _:Mk 1 _:=tg
    go_simp
    refine (HB1.out _ (HN.out.nat 0 rfl)).mono ?_
    rintro e wd ⟨rfl,hb⟩
    replace HN:=Lib.hid (HN.out.call hb)
    clear hb 
    go_wp2_with fail
    refine hK.out _ _ (⟨HN.out.cell 0 0 rfl rfl,HN.out.cell 0 1 rfl rfl,HN.out.cell 0 2 rfl rfl⟩) (fun hHeld2=>?_)
    clear hK K hHeld
    rename _=>hHeld
    try simp only [Act.put,stB,stZ,stS]
   |
    have _:Mk 2 _:=tg
    go_simp
    refine (HDE.out _ (HN.out.nat 1 rfl)).mono ?_
    rintro e wd ⟨a4,c4,rfl,hq0,hb⟩
    replace HN:=Lib.hid ((HN.out.call hb).got hq0)
    clear hb hq0
    go_wp2_with fail
    refine hK.out _ _ (⟨HN.out.cell 0 0 rfl rfl,HN.out.cell 0 1 rfl rfl,HN.out.cell 0 2 rfl rfl⟩) (fun hHeld2=>?_)
    clear hK K hHeld
    rename _=>hHeld
    try simp only [Act.put,stB,stZ,stS]
   |
    have _:Mk 3 _:=tg
    go_simp
    refine (HB2.out a4 c4 _ (HN.out.nat 2 rfl)).mono ?_
    rintro e wd ⟨rfl,hb⟩
    replace HN:=Lib.hid (HN.out.call hb)
    clear hb 
    go_wp2_with fail
    refine hK.out _ _ (⟨HN.out.cell 0 0 rfl rfl,HN.out.cell 0 1 rfl rfl,HN.out.cell 0 2 rfl rfl⟩) (fun hHeld2=>?_)
    clear hK K hHeld
    rename _=>hHeld
    try simp only [Act.put,stB,stZ,stS]
    refine tm 7 (some 10) ?_
    refine tm 8 (some 2) ?_
  all_goals (refine wpAnyH_done (by kernel_rfl) ?_ _)
  all_goals
   go_wp2_with fail
   go_meet
   exact ⟨rfl,HN.out.bel⟩
 case rest =>
  obtain ⟨rfl,hb⟩:=hcut
  have HB:=Lib.hid hb
  clear hb
  go_wp2_with fail
  go_ret
  exact ⟨rfl,HB.out⟩
theorem like8_walk (qs ob zb:Bool) (a b:Option Addr) (c d qn qd y k1 k2:Nat) (cm:Int) (a5 b6:Option Addr) (n5 c5 m6 d6:Nat) (hl5:n5≤c5∧c5≤9223372036854775807) (w:World) (h:NatW w a c qn) (h2:NatW w b d qd) (h3:QW w a5 n5 c5 b6 m6 d6 qn y)
  (hk1:k1≤1099511627776) (hk2:k2≤1099511627776) (hcm:(cm==0)=ob) (hzb:((n5:Int)==0)=zb)
  (HCM:Hid (∀ a8 c8 W,QW W a5 n5 c5 b6 m6 d6 qn y→RT W a8 1 c8 1→Calls Tryz.prog 96 #[.slice b6 m6 d6,.slice a8 1 c8] W (fun e w'=>e=.returned (.int .i64 cm)∧Below W.heap.size W w')))
  (HNU:Hid (∀ W,Calls Tryz.prog 45 #[.agg #[.bool qs,.slice a (lenW qn) c,.slice b (lenW qd) d]] W fun e w'=>e=.returned (.agg #[.bool qs,.slice a (lenW qn) c])∧Below W.heap.size W w'))
  (HL7:Hid (∀ W,NatW W a c qn→QW W a5 n5 c5 b6 m6 d6 qn y→Calls Tryz.prog 97 #[.agg #[.bool qs,.slice a (lenW qn) c],.agg #[.bool qs,.slice a5 n5 c5]] W (fun e w'=>e=.returned (.bool true)∧Below W.heap.size W w')))
  (HDE:Hid (∀ W,NatW W b d qd→Calls Tryz.prog 48 #[.agg #[.bool qs,.slice a (lenW qn) c,.slice b (lenW qd) d]] W (RetN y W)))
  (HL2:Hid (∀ a4 c4 W,NatW W a4 c4 y→QW W a5 n5 c5 b6 m6 d6 qn y→Calls Tryz.prog 98 #[.agg #[.slice a4 (lenW y) c4],.slice b6 m6 d6] W (fun e w'=>e=.returned (.bool true)∧Below W.heap.size W w')))
  (HIS:Hid (∀ W,Calls Tryz.prog 49 #[.agg #[.bool qs,.slice a (lenW qn) c,.slice b (lenW qd) d]] W (fun e w'=>e=.returned (.bool ob)∧Below W.heap.size W w'))) (HZR:Hid (∀ W,Calls Tryz.prog 44 #[.agg #[.bool qs,.slice a (lenW qn) c,.slice b (lenW qd) d]] W (fun e w'=>e=.returned (.bool zb)∧Below W.heap.size W w')))
  (HBI:Hid (∀ W,NatW W a c qn→NatW W b d qd→Calls Tryz.prog 99 #[.agg #[.bool qs,.slice a (lenW qn) c,.slice b (lenW qd) d]] W (fun e w'=>e=.returned (.int .i64 ((k1:Int)+(k2:Int)))∧Below W.heap.size W w')))
  (HB5:Hid (∀ W,QW W a5 n5 c5 b6 m6 d6 qn y→Calls Tryz.prog 100 #[.slice a5 n5 c5] W (fun e w'=>e=.returned (.int .i64 (k1:Nat))∧Below W.heap.size W w'))) (HB6:Hid (∀ W,QW W a5 n5 c5 b6 m6 d6 qn y→Calls Tryz.prog 100 #[.slice b6 m6 d6] W (fun e w'=>e=.returned (.int .i64 (k2:Nat))∧Below W.heap.size W w'))) :
  Calls Tryz.prog 38 #[.agg #[.bool qs,.slice a (lenW qn) c,.slice b (lenW qd) d],.agg #[.bool qs,.slice a5 n5 c5,.slice b6 m6 d6]] w (fun e w'=>e=.returned (.bool true)∧Below w.heap.size w w'):=by
 have ew:IntKind.i64.wrap ((k1:Int)+(k2:Int))=(k1:Int)+(k2:Int):=IntWalk.i64_in _ (by omega)
 obtain ⟨W0,hW0⟩:∃ W0,W0=((w.alloc (.cells #[.bool qs,.slice a (lenW qn) c,.slice b (lenW qd) d] 45)).alloc (.cells #[.bool qs,.slice a5 n5 c5,.slice b6 m6 d6] 60)):=⟨_,rfl⟩
 have hbs:BS w [⟨w.heap.size,45,[.bool qs,.slice a (lenW qn) c,.slice b (lenW qd) d]⟩,⟨w.heap.size+1,60,[.bool qs,.slice a5 n5 c5,.slice b6 m6 d6]⟩] [⟨a,c,qn⟩,⟨b,d,qd⟩] ((w.alloc (.cells #[.bool qs,.slice a (lenW qn) c,.slice b (lenW qd) d] 45)).alloc (.cells #[.bool qs,.slice a5 n5 c5,.slice b6 m6 d6] 60)) :=
   (((BS.begin [⟨a,c,qn⟩,⟨b,d,qd⟩] (fun y hy=>by
    rcases List.mem_cons.1 hy with rfl | hy
    ·
     exact h
    rw [List.mem_singleton.1 hy];exact h2)).alloc (p:=w.heap.size) rfl 45 [.bool qs,.slice a (lenW qn) c,.slice b (lenW qd) d] rfl).alloc (p:=w.heap.size+1) (by simp) 60 [.bool qs,.slice a5 n5 c5,.slice b6 m6 d6] rfl)
 rw [← hW0] at hbs
 have HW0:=Lib.hid hW0
 have HN:=Lib.hid hbs
 clear hW0 hbs
 go_enter Tryz.func38,Tryz.ntmps38
 have HQ:=Lib.hid (show QW W0 a5 n5 c5 b6 m6 d6 qn y from by rw [HW0.out];exact (h3.below (belowBox _ _)).below (belowBox _ _))
 clear h3
 go_upto_region 1 with fail
 rw [← HW0.out]
 have ⟨k00,f00,k01,f01,k02,f02⟩:=HN.out.cf3 0 rfl
 have l0:=HN.out.lt 0 rfl
 have ⟨k10,f10,k11,f11,k12,f12⟩:=HN.out.cf3 1 rfl
 have l1:=HN.out.lt 1 rfl
 have HP:=Lib.hid (HN.out.alloc (p:=W0.heap.size) rfl 3 [.int .i64 1] rfl)
 have ⟨k00p,f00p,k01p,f01p,k02p,f02p⟩:=HP.out.cf3 0 rfl
 have ⟨k10p,f10p,k11p,f11p,k12p,f12p⟩:=HP.out.cf3 1 rfl
 have ⟨k20p,f20p⟩:=HP.out.cf1 2 rfl
 go_wp2_with fail
 clear k00 f00 k01 f01 k02 f02 l0 k10 f10 k11 f11 k12 f12 l1 k00p f00p k01p f01p k02p f02p k10p f10p k11p f11p k12p f12p k20p f20p HN
 have HN:=HP
 clear HP
 replace HQ:=Lib.hid (show QW (W0.alloc (.cells #[.int .i64 1] 3)) a5 n5 c5 b6 m6 d6 qn y from HQ.out.below (belowBox _ _) HQ.out.lt)
 generalize (W0.alloc (.cells #[.int .i64 1] 3))=wa1 at HN HQ ⊢
 refine (HCM.out _ _ _ HQ.out (RT.one (HN.out.at 2 rfl))).mono ?_
 rintro e w2 ⟨rfl,hb⟩
 replace HQ:=Lib.hid (show QW w2 a5 n5 c5 b6 m6 d6 qn y from HQ.out.below hb HQ.out.lt)
 replace HN:=Lib.hid (HN.out.call hb)
 clear hb 
 have ⟨k00,f00,k01,f01,k02,f02⟩:=HN.out.cf3 0 rfl
 have ⟨k10,f10,k11,f11,k12,f12⟩:=HN.out.cf3 1 rfl
 have ⟨k20,f20⟩:=HN.out.cf1 2 rfl
 go_upto_region 2 with fail
 clear k00 f00 k01 f01 k02 f02 k10 f10 k11 f11 k12 f12 k20 f20
 go_cut [4] (fun v4 wx=>v4=.bool true∧Below w.heap.size w wx)
 case first =>
  replace HQ:=Lib.hid (show QW w2.drew a5 n5 c5 b6 m6 d6 qn y from HQ.out.below (Below.refl _ _).drew HQ.out.lt)
  replace HN:=Lib.hid HN.out.drew
  refine wp_region_held_drew (S:=fun W=>W.cell? ⟨w.heap.size,0,none⟩=some (.bool qs)∧W.cell? ⟨w.heap.size,1,none⟩=some (.slice a (lenW qn) c)∧W.cell? ⟨w.heap.size,2,none⟩=some (.slice b (lenW qd) d)∧W.cell? ⟨w.heap.size+1,0,none⟩=some (.bool qs)∧W.cell? ⟨w.heap.size+1,1,none⟩=some (.slice a5 n5 c5)∧W.cell? ⟨w.heap.size+1,2,none⟩=some (.slice b6 m6 d6)) (by kernel_rfl) (⟨HN.out.cell 0 0 rfl rfl,HN.out.cell 0 1 rfl rfl,HN.out.cell 0 2 rfl rfl,HN.out.cell 1 0 rfl rfl,HN.out.cell 1 1 rfl rfl,HN.out.cell 1 2 rfl rfl⟩) (fun hHeld=>?_)
  generalize w2.drew=wd at HN HQ hHeld ⊢
  refine tl 0 (some 11) ?_
  refine tm 2 (some 13) ?_
  refine tl 3 (some 14) ?_
  have tg:=Mk.mk (v:=0) (d:=0)
  iterate 9
   all_goals first
   |
    have _:Mk _ 0:=tg
    refine wpAnyH_ready (rs:=[1]) (by kernel_rfl) (by simp) (AllReadyH.cons rfl (fun K hK=>cT 0 1 fun tg=>?_) AllReadyH.nil)
   |
    have _:Mk _ 1:=tg
    refine wpAnyH_ready (rs:=[4]) (by kernel_rfl) (by simp) (AllReadyH.cons rfl (fun K hK=>cT 1 2 fun tg=>?_) AllReadyH.nil)
   |
    have _:Mk _ 2:=tg
    refine wpAnyH_ready (rs:=[7]) (by kernel_rfl) (by simp) (AllReadyH.cons rfl (fun K hK=>cT 2 3 fun tg=>?_) AllReadyH.nil)
   |
    have _:Mk _ 3:=tg
    refine wpAnyH_ready (rs:=[10]) (by kernel_rfl) (by simp) (AllReadyH.cons rfl (fun K hK=>cT 3 4 fun tg=>?_) AllReadyH.nil)
   |
    have _:Mk _ 4:=tg
    refine wpAnyH_ready (rs:=[14]) (by kernel_rfl) (by simp) (AllReadyH.cons rfl (fun K hK=>cT 4 5 fun tg=>?_) AllReadyH.nil)
   |
    have _:Mk _ 5:=tg
    refine wpAnyH_ready (rs:=[20]) (by kernel_rfl) (by simp) (AllReadyH.cons rfl (fun K hK=>cT 5 6 fun tg=>?_) AllReadyH.nil)
   |
    have _:Mk _ 6:=tg
    refine wpAnyH_ready (rs:=[30]) (by kernel_rfl) (by simp) (AllReadyH.cons rfl (fun K hK=>cT 6 7 fun tg=>?_) AllReadyH.nil)
   |
    have _:Mk _ 7:=tg
    refine wpAnyH_ready (rs:=[34]) (by kernel_rfl) (by simp) (AllReadyH.cons rfl (fun K hK=>cT 7 8 fun tg=>?_) AllReadyH.nil)
   |
    have _:Mk _ 8:=tg
    refine wpAnyH_ready (rs:=[37]) (by kernel_rfl) (by simp) (AllReadyH.cons rfl (fun K hK=>cT 8 9 fun tg=>?_) AllReadyH.nil)
   all_goals first
   |
    have _:Mk 0 _:=tg
    go_simp
    refine (HNU.out _).mono ?_
    rintro e wd ⟨rfl,hb⟩
    replace HQ:=Lib.hid (show QW wd a5 n5 c5 b6 m6 d6 qn y from HQ.out.below hb HQ.out.lt)
    replace HN:=Lib.hid (HN.out.call hb)
    clear hb 
    go_wp2_with fail
    refine hK.out _ _ (⟨HN.out.cell 0 0 rfl rfl,HN.out.cell 0 1 rfl rfl,HN.out.cell 0 2 rfl rfl,HN.out.cell 1 0 rfl rfl,HN.out.cell 1 1 rfl rfl,HN.out.cell 1 2 rfl rfl⟩) (fun hHeld2=>?_)
    clear hK K hHeld
    rename _=>hHeld
    try simp only [Act.put,stB,stZ,stS]
   |
    have _:Mk 1 _:=tg
    go_simp
    refine (HL7.out _ (HN.out.nat 0 rfl) HQ.out).mono ?_
    rintro e wd ⟨rfl,hb⟩
    replace HQ:=Lib.hid (show QW wd a5 n5 c5 b6 m6 d6 qn y from HQ.out.below hb HQ.out.lt)
    replace HN:=Lib.hid (HN.out.call hb)
    clear hb 
    go_wp2_with fail
    refine hK.out _ _ (⟨HN.out.cell 0 0 rfl rfl,HN.out.cell 0 1 rfl rfl,HN.out.cell 0 2 rfl rfl,HN.out.cell 1 0 rfl rfl,HN.out.cell 1 1 rfl rfl,HN.out.cell 1 2 rfl rfl⟩) (fun hHeld2=>?_)
    clear hK K hHeld
    rename _=>hHeld
    try simp only [Act.put,stB,stZ,stS]
    refine tm 5 (some 16) ?_
    refine tl 6 (some 17) ?_
    refine tm 8 (some 19) ?_
    refine tl 9 (some 20) ?_
   |
    have _:Mk 2 _:=tg
    go_simp
    refine (HDE.out _ (HN.out.nat 1 rfl)).mono ?_
    rintro e wd ⟨a4,c4,rfl,hq0,hb⟩
    replace HQ:=Lib.hid (show QW wd a5 n5 c5 b6 m6 d6 qn y from HQ.out.below hb HQ.out.lt)
    replace HN:=Lib.hid ((HN.out.call hb).got hq0)
    clear hb hq0
    go_wp2_with fail
    refine hK.out _ _ (⟨HN.out.cell 0 0 rfl rfl,HN.out.cell 0 1 rfl rfl,HN.out.cell 0 2 rfl rfl,HN.out.cell 1 0 rfl rfl,HN.out.cell 1 1 rfl rfl,HN.out.cell 1 2 rfl rfl⟩) (fun hHeld2=>?_)
    clear hK K hHeld
    rename _=>hHeld
    try simp only [Act.put,stB,stZ,stS]
   |
    have _:Mk 3 _:=tg
    go_simp
    refine (HL2.out _ _ _ (HN.out.nat 2 rfl) HQ.out).mono ?_
    rintro e wd ⟨rfl,hb⟩
    replace HQ:=Lib.hid (show QW wd a5 n5 c5 b6 m6 d6 qn y from HQ.out.below hb HQ.out.lt)
    replace HN:=Lib.hid (HN.out.call hb)
    clear hb 
    go_wp2_with fail
    refine hK.out _ _ (⟨HN.out.cell 0 0 rfl rfl,HN.out.cell 0 1 rfl rfl,HN.out.cell 0 2 rfl rfl,HN.out.cell 1 0 rfl rfl,HN.out.cell 1 1 rfl rfl,HN.out.cell 1 2 rfl rfl⟩) (fun hHeld2=>?_)
    clear hK K hHeld
    rename _=>hHeld
    try simp only [Act.put,stB,stZ,stS]
    refine tm 11 (some 22) ?_
    refine tm 12 (some 23) ?_
    refine tl 13 (some 24) ?_
    refine tm 15 (some 26) ?_
   |
    have _:Mk 4 _:=tg
    go_simp
    refine (HIS.out _).mono ?_
    rintro e wd ⟨rfl,hb⟩
    replace HQ:=Lib.hid (show QW wd a5 n5 c5 b6 m6 d6 qn y from HQ.out.below hb HQ.out.lt)
    replace HN:=Lib.hid (HN.out.call hb)
    clear hb 
    go_wp2_with fail
    refine hK.out _ _ (⟨HN.out.cell 0 0 rfl rfl,HN.out.cell 0 1 rfl rfl,HN.out.cell 0 2 rfl rfl,HN.out.cell 1 0 rfl rfl,HN.out.cell 1 1 rfl rfl,HN.out.cell 1 2 rfl rfl⟩) (fun hHeld2=>?_)
    clear hK K hHeld
    rename _=>hHeld
    try simp only [Act.put,stB,stZ,stS]
    refine tm 16 (some 27) ?_
    refine tm 17 (some 28) ?_
    refine tm 18 (some 29) ?_
    refine tl 19 (some 30) ?_
    refine tm 21 (some 32) ?_
    refine tm 22 (some 33) ?_
    refine tl 23 (some 34) ?_
    refine tm 24 (some 35) ?_
    refine tm 25 (some 36) ?_
   |
    have _:Mk 5 _:=tg
    go_simp
    refine (HZR.out _).mono ?_
    rintro e wd ⟨rfl,hb⟩
    replace HQ:=Lib.hid (show QW wd a5 n5 c5 b6 m6 d6 qn y from HQ.out.below hb HQ.out.lt)
    replace HN:=Lib.hid (HN.out.call hb)
    clear hb 
    go_wp2_with fail
    refine hK.out _ _ (⟨HN.out.cell 0 0 rfl rfl,HN.out.cell 0 1 rfl rfl,HN.out.cell 0 2 rfl rfl,HN.out.cell 1 0 rfl rfl,HN.out.cell 1 1 rfl rfl,HN.out.cell 1 2 rfl rfl⟩) (fun hHeld2=>?_)
    clear hK K hHeld
    rename _=>hHeld
    try simp only [Act.put,stB,stZ,stS]
    refine tm 26 (some 37) ?_
    refine tm 27 (some 38) ?_
    refine tm 28 (some 39) ?_
    refine tl 29 (some 40) ?_
    refine tm 31 (some 42) ?_
    refine tm 32 (some 43) ?_
    refine tl 33 (some 44) ?_
    refine tm 35 (some 46) ?_
    refine tl 36 (some 47) ?_
   |
    have _:Mk 6 _:=tg
    go_simp
    refine (HBI.out _ (HN.out.nat 0 rfl) (HN.out.nat 1 rfl)).mono ?_
    rintro e wd ⟨rfl,hb⟩
    replace HQ:=Lib.hid (show QW wd a5 n5 c5 b6 m6 d6 qn y from HQ.out.below hb HQ.out.lt)
    replace HN:=Lib.hid (HN.out.call hb)
    clear hb 
    go_wp2_with fail
    refine hK.out _ _ (⟨HN.out.cell 0 0 rfl rfl,HN.out.cell 0 1 rfl rfl,HN.out.cell 0 2 rfl rfl,HN.out.cell 1 0 rfl rfl,HN.out.cell 1 1 rfl rfl,HN.out.cell 1 2 rfl rfl⟩) (fun hHeld2=>?_)
    clear hK K hHeld
    rename _=>hHeld
    try simp only [Act.put,stB,stZ,stS]
   |
    have _:Mk 7 _:=tg
    go_simp
    refine (HB5.out _ HQ.out).mono ?_
    rintro e wd ⟨rfl,hb⟩
    replace HQ:=Lib.hid (show QW wd a5 n5 c5 b6 m6 d6 qn y from HQ.out.below hb HQ.out.lt)
    replace HN:=Lib.hid (HN.out.call hb)
    clear hb 
    go_wp2_with fail
    refine hK.out _ _ (⟨HN.out.cell 0 0 rfl rfl,HN.out.cell 0 1 rfl rfl,HN.out.cell 0 2 rfl rfl,HN.out.cell 1 0 rfl rfl,HN.out.cell 1 1 rfl rfl,HN.out.cell 1 2 rfl rfl⟩) (fun hHeld2=>?_)
    clear hK K hHeld
    rename _=>hHeld
    try simp only [Act.put,stB,stZ,stS]
   |
    have _:Mk 8 _:=tg
    go_simp
    refine (HB6.out _ HQ.out).mono ?_
    rintro e wd ⟨rfl,hb⟩
    replace HQ:=Lib.hid (show QW wd a5 n5 c5 b6 m6 d6 qn y from HQ.out.below hb HQ.out.lt)
    replace HN:=Lib.hid (HN.out.call hb)
    clear hb 
    go_wp2_with fail
    refine hK.out _ _ (⟨HN.out.cell 0 0 rfl rfl,HN.out.cell 0 1 rfl rfl,HN.out.cell 0 2 rfl rfl,HN.out.cell 1 0 rfl rfl,HN.out.cell 1 1 rfl rfl,HN.out.cell 1 2 rfl rfl⟩) (fun hHeld2=>?_)
    clear hK K hHeld
    rename _=>hHeld
    try simp only [Act.put,stB,stZ,stS]
    refine tm 38 (some 49) ?_
    refine tm 39 (some 50) ?_
    refine tm 40 (some 51) ?_
    refine tm 41 (some 4) ?_
  all_goals (refine wpAnyH_done (by kernel_rfl) ?_ _)
  all_goals
   go_wp2_with fail
   go_meet
   exact ⟨rfl,HN.out.bel⟩
 case rest =>
  obtain ⟨rfl,hb⟩:=hcut
  have HB:=Lib.hid hb
  clear hb
  go_wp2_with fail
  go_ret
  exact ⟨rfl,HB.out⟩
theorem bl_same {f:FuncId} {xs:Array Value} {W:World} {v:Value} (h:Calls Tryz.prog f xs W fun e w'=>e=.returned v∧w'=W):Calls Tryz.prog f xs W fun e w'=>e=.returned v∧Below W.heap.size W w' :=
 h.mono fun e w' h=>⟨h.1,h.2▸Below.refl _ _⟩
theorem bits_wordsL {x:Nat} (h:lenW x≤4294967296):bitLen x≤1099511627776:=by
 refine Nat.le_trans (bitLen_le (k:=64*lenW x) ?_) (by omega)
 have h1:=lt_lenW x
 rw [show W64=2^64 from rfl,← Nat.pow_mul] at h1
 exact h1
theorem like8_any (q:Rat) (a b:Option Addr) (c d:Nat) (a5 b6:Option Addr) (n5 c5 m6 d6:Nat) (w:World) (h:NatW w a c q.num.natAbs) (h2:NatW w b d (denN q.den)) (h3:QW w a5 n5 c5 b6 m6 d6 q.num.natAbs q.den) (hs:lenW q.num.natAbs≤4294967296) (hd:lenW q.den≤4294967296) :
  Calls Tryz.prog 38 #[ratV a c b d q,.agg #[.bool (decide (q.num<0)),.slice a5 n5 c5,.slice b6 m6 d6]] w (fun e w'=>e=.returned (.bool true)∧Below w.heap.size w w'):=by
 have e1:=h3.num.1
 have e2:=h3.den.1
 have l1:=(lenW_nd q.num.natAbs).2
 have l1':=(lenW_nd q.num.natAbs).1
 have l2':=(lenW_nd q.den).1
 have hN:=fun (W:World)=>num_any a b c d q W
 have hD:=fun (W:World) (hh:NatW W b d (denN q.den))=>den_any (decide (q.num<0)) a b (lenW q.num.natAbs) c d q W hh
 have hI:=fun (W:World)=>isint_any a b c d q W
 have hZ:=fun (W:World)=>rzero_any a b c d (lenW (denN q.den)) q W
 have hB1:=fun (W:World) (hh:NatW W a c q.num.natAbs)=>nbits_any a c q.num.natAbs W hh (by omega)
 have hB2:=fun (a4:Option Addr) (c4:Nat) (W:World) (hh:NatW W a4 c4 q.den)=>nbits_any a4 c4 q.den W hh (by omega)
 unfold ratV at hN hI ⊢
 have hq0:(decide (q=0))=((n5:Int)==0):=by
  rw [e1,Bool.eq_iff_iff]
  simp only [decide_eq_true_eq,beq_iff_eq]
  constructor
  ·
   intro h0;subst h0;rw [show (0:Rat).num.natAbs=0 from rfl,nd_zero];rfl
  ·
   intro h0;exact Rat.num_eq_zero.1 (by have:=nd_eq0.1 (show nd q.num.natAbs=0 by omega);omega)
 rw [hq0] at hZ
 have hcm:(cmpF q.den 1==0)=decide (q.den=1):=by
  rw [Bool.eq_iff_iff]
  simp only [decide_eq_true_eq,beq_iff_eq]
  constructor
  ·
   intro h0
   rcases Nat.lt_trichotomy q.den 1 with h1 | h1 | h1
   ·
    rw [cmpF_lt h1] at h0;omega
   ·
    exact h1
   ·
    rw [cmpF_gt h1] at h0;omega
  ·
   intro h0;rw [h0];exact cmpF_eq 1
 have hBI:=fun (W:World) (q1:NatW W a c q.num.natAbs) (q2:NatW W b d (denN q.den))=>rbits_walk (decide (q.num<0)) a b c d q.num.natAbs (denN q.den) q.den (bitLen q.num.natAbs) (bitLen q.den) (bits_wordsL hs) (bits_wordsL hd) W q1 q2 (Lib.hid fun W=>iabs_any _ a c _ W) (Lib.hid hB1) (Lib.hid hD) (Lib.hid hB2)
 exact like8_walk _ _ _ a b c d _ _ q.den _ _ (cmpF q.den 1) a5 b6 n5 c5 m6 d6 h3.num.len w h h2 h3 (bits_wordsL hs) (bits_wordsL hd) hcm rfl
  (Lib.hid fun a8 c8 W q1 q2=>f2cmp b6 a8 m6 d6 1 c8 q.den 1 W q1.den q2 (by omega) (by omega))
  (Lib.hid hN) (Lib.hid fun W q1 q2=>like7_any q.num a a5 c n5 c5 W q1 q2.num hs (by omega)) (Lib.hid hD)
  (Lib.hid fun a4 c4 W q1 q2=>like2_any a4 b6 c4 m6 d6 q.den W q1 q2.den hd (by omega)) (Lib.hid hI) (Lib.hid hZ) (Lib.hid hBI)
  (Lib.hid fun W q1=>bl_same (f2bits a5 n5 c5 _ W q1.num (by omega))) (Lib.hid fun W q1=>bl_same (f2bits b6 m6 d6 _ W q1.den (by omega)))
end Go.Proofs.YtmhainidincjhaaGreatDoor
