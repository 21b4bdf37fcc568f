/-
 What the laws stand on, part C: contracts and plain laws of MAwake, RBad; the conditions are each law's own.
-/
import Derived.Test.YtmhainidincjhaaGreatDoorBG
import Derived.Test.YtmhainidincjhaaGreatDoorBQ
import Derived.Test.YtmhainidincjhaaGreatDoorBL
import Derived.Test.YtmhainidincjhaaGreatDoorBV
import Derived.Lib.SlBytesConst
set_option linter.unusedVariables false
set_option linter.unusedSimpArgs false
set_option maxRecDepth 100000
set_option maxHeartbeats 16000000
namespace Go.Proofs.YtmhainidincjhaaGreatDoor
open Go.RowKit Go.Extern.Stop Go.Stop Go.Extern
def EB (w:World) (eb:Nat) (k:Int) (at9:Nat):Prop:=ErrB w (fun _=>True) (eF eb) k at9
theorem EB.lt {w:World} {eb:Nat} {k:Int} {at9:Nat} (_:EB w eb k at9):True:=trivial
theorem EB.below {w w':World} {eb:Nat} {k:Int} {at9:Nat} (h:EB w eb k at9) (hb:Below w.heap.size w w') (_:True):EB w' eb k at9:=ErrB.below h hb
theorem mawake_walk (qs:Bool) (qn qd:Nat) (w:World) (HG:Hid (Hg w))
  (HE1:Hid (∀ W,Calls Tryz.prog 18 #[.agg #[.int .i64 2,.string ⟨#[97,98,99,100,101,102,103,104]⟩,.int .i64 0,.int .i64 0,.string ⟨#[]⟩,.int .i64 0,.int .i64 0,.int .i64 0,.int .i64 0,.bool false,.slice none 0 0,.slice none 0 0,.slice none 0 0]] W fun e w'=>∃ a1 c1,e=.returned (.tuple #[.slice a1 9 c1,.nilIface])∧SB w' a1 9 c1 [2,97,98,99,100,101,102,103,104]∧Below W.heap.size W w'))
  (HOF:Hid (∀ W,Calls Tryz.prog 55 #[.int .i64 1,.int .i64 2] W fun e w'=>∃ a8 c8 b9 d9,e=.returned (.tuple #[.agg #[.bool qs,.slice a8 (lenW qn) c8,.slice b9 (lenW qd) d9],.bool true])∧NatW w' a8 c8 qn∧NatW w' b9 d9 qd∧Below W.heap.size W w'))
  (HE2:Hid (∀ a8 c8 b9 d9 W,NatW W a8 c8 qn→NatW W b9 d9 qd→Calls Tryz.prog 18 #[.agg #[.int .i64 1,.string ⟨#[97,98,99,100,101,102,103,104]⟩,.int .i64 1,.int .i64 0,.string ⟨#[]⟩,.int .i64 7,.int .i64 0,.int .i64 2,.int .i64 0,.bool qs,.slice a8 (lenW qn) c8,.slice b9 (lenW qd) d9,.slice none 0 0]] W fun e w'=>∃ a2 c2,e=.returned (.tuple #[.slice a2 23 c2,.nilIface])∧SB w' a2 23 c2 [1,97,98,99,100,101,102,103,104,0,0,0,1,7,0,0,0,2,3,1,2,1,1]∧Below W.heap.size W w'))
  (HD1:Hid (∀ (W:World),Calls Tryz.prog 24 #[.slice (some ⟨W.heap.size,0,none⟩) 4 4] (W.alloc (.cells #[.int .u8 2,.int .u8 97,.int .u8 98,.int .u8 99] 5 (4,5))) fun e w'=>∃ eb,e=.returned (.tuple #[.agg #[.int .i64 0,.string ⟨#[]⟩,.int .i64 0,.int .i64 0,.string ⟨#[]⟩,.int .i64 0,.int .i64 0,.int .i64 0,.int .i64 0,.bool false,.slice none 0 0,.slice none 0 0,.slice none 0 0],.iface 211 (.pointer (some ⟨eb,0,none⟩))])∧EB w' eb 90 1∧Below W.heap.size W w'))
  (HER:Hid (∀ W,Calls Tryz.prog 51 #[.agg #[.int .i64 1,.int .i64 12,.string ⟨#[]⟩,.int .i64 0,.string ⟨#[]⟩,.int .i64 0,.int .i64 0,.int .i64 0,.bool false,.slice none 0 0,.slice none 0 0,.slice none 0 0,.bool false,.slice none 0 0,.slice none 0 0,.bool false,.slice none 0 0,.slice none 0 0,.bool false,.bool false,.int .i64 1,.int .i64 0,.int .i64 0]] W fun e w'=>∃ a3 c3,e=.returned (.tuple #[.slice a3 28 c3,.nilIface])∧Below W.heap.size W w'))
  (HCV1:Hid (∀ a c W,SB W a 9 c [2,97,98,99,100,101,102,103,104]→(convert 32 9 (.slice a 9 c)).run Tryz.prog W=.ok (.string ⟨#[2,97,98,99,100,101,102,103,104]⟩) W))
  (HCV2:Hid (∀ a c W,SB W a 23 c [1,97,98,99,100,101,102,103,104,0,0,0,1,7,0,0,0,2,3,1,2,1,1]→(convert 32 9 (.slice a 23 c)).run Tryz.prog W=.ok (.string ⟨#[1,97,98,99,100,101,102,103,104,0,0,0,1,7,0,0,0,2,3,1,2,1,1]⟩) W))
  (HT1:Hid (∀ eb W,Hg W→EB W eb 90 1→Calls Tryz.prog 22 #[.iface 211 (.pointer (some ⟨eb,0,none⟩)),.int .i64 90,.string ⟨#[98,121,116,101]⟩,.int .i64 1] W fun e w'=>e=.returned (.bool true)∧Below W.heap.size W w')) :
  Calls Tryz.prog 16 #[] w fun e w'=>e=.returned (.bool true)∧Below w.heap.size w w':=by
 have HN:=qH (BS.start w)
 go_enter Tryz.func16,Tryz.ntmps16
 go_wp2_with fail
 refine (HE1.out _).mono ?_
 rintro e w1 ⟨a1,c1,rfl,hf,hb⟩
 replace HG:=qH (show Hg w1 from HG.out.below hb HG.out.lt)
 replace HN:=qH (HN.out.call hb)
 have HS1:=qH hf
 clear hb hf
 go_wp2_with fail
 refine (HOF.out _).mono ?_
 rintro e w2 ⟨a8,c8,b9,d9,rfl,hq0,hq1,hb⟩
 replace HG:=qH (show Hg w2 from HG.out.below hb HG.out.lt)
 replace HS1:=qH (show SB w2 a1 9 c1 [2,97,98,99,100,101,102,103,104] from HS1.out.below hb HS1.out.lt)
 replace HN:=qH (((HN.out.call hb).got hq0).got hq1)
 clear hb hq0 hq1
 have HP:=qH (HN.out.alloc (p:=w2.heap.size) rfl 45 [.bool qs,.slice a8 (lenW qn) c8,.slice b9 (lenW qd) d9] rfl)
 have ⟨k00p,f00p,k01p,f01p,k02p,f02p⟩:=HP.out.cf3 0 rfl
 go_wp2_with fail
 clear k00p f00p k01p f01p k02p f02p HN
 have HN:=HP
 clear HP
 replace HG:=qH (show Hg (w2.alloc (.cells #[.bool qs,.slice a8 (lenW qn) c8,.slice b9 (lenW qd) d9] 45)) from HG.out.below (belowBox _ _) HG.out.lt)
 replace HS1:=qH (show SB (w2.alloc (.cells #[.bool qs,.slice a8 (lenW qn) c8,.slice b9 (lenW qd) d9] 45)) a1 9 c1 [2,97,98,99,100,101,102,103,104] from HS1.out.below (belowBox _ _) HS1.out.lt)
 generalize (w2.alloc (.cells #[.bool qs,.slice a8 (lenW qn) c8,.slice b9 (lenW qd) d9] 45))=wa3 at HN HG HS1 ⊢
 refine (HE2.out _ _ _ _ _ (HN.out.nat 0 rfl) (HN.out.nat 1 rfl)).mono ?_
 rintro e w4 ⟨a2,c2,rfl,hf,hb⟩
 replace HG:=qH (show Hg w4 from HG.out.below hb HG.out.lt)
 replace HS1:=qH (show SB w4 a1 9 c1 [2,97,98,99,100,101,102,103,104] from HS1.out.below hb HS1.out.lt)
 replace HN:=qH (HN.out.call hb)
 have HS2:=qH hf
 clear hb hf
 have hcb:=Lib.run_convert_bytes_const (P:=Tryz.prog) w4 32 5 #[.int .u8 2,.int .u8 97,.int .u8 98,.int .u8 99] 4 4 Tryz.underlying32 Tryz.underlying5
 have ⟨k00,f00,k01,f01,k02,f02⟩:=HN.out.cf3 0 rfl
 go_wp2_with fail
 clear k00 f00 k01 f01 k02 f02
 refine (HD1.out _).mono ?_
 rintro e w5 ⟨eb,rfl,hf,hb⟩
 replace HG:=qH (show Hg w5 from HG.out.below hb HG.out.lt)
 replace HS1:=qH (show SB w5 a1 9 c1 [2,97,98,99,100,101,102,103,104] from HS1.out.below hb HS1.out.lt)
 replace HS2:=qH (show SB w5 a2 23 c2 [1,97,98,99,100,101,102,103,104,0,0,0,1,7,0,0,0,2,3,1,2,1,1] from HS2.out.below hb HS2.out.lt)
 replace HN:=qH (HN.out.call hb)
 have HEB:=qH hf
 clear hb hf
 clear hcb
 have ⟨k00,f00,k01,f01,k02,f02⟩:=HN.out.cf3 0 rfl
 have l0:=HN.out.lt 0 rfl
 have HP:=qH (HN.out.alloc (p:=w5.heap.size) rfl 50 [.int .i64 0,.string ⟨#[]⟩,.int .i64 0,.int .i64 0,.string ⟨#[]⟩,.int .i64 0,.int .i64 0,.int .i64 0,.int .i64 0,.bool false,.slice none 0 0,.slice none 0 0,.slice none 0 0] rfl)
 have ⟨k00p,f00p,k01p,f01p,k02p,f02p⟩:=HP.out.cf3 0 rfl
 have ⟨k10p,f10p,k11p,f11p,k12p,f12p,k13p,f13p,k14p,f14p,k15p,f15p,k16p,f16p,k17p,f17p,k18p,f18p,k19p,f19p,k110p,f110p,k111p,f111p,k112p,f112p⟩:=HP.out.cf13 1 rfl
 go_wp2_with fail
 clear k00 f00 k01 f01 k02 f02 l0 k00p f00p k01p f01p k02p f02p k10p f10p k11p f11p k12p f12p k13p f13p k14p f14p k15p f15p k16p f16p k17p f17p k18p f18p k19p f19p k110p f110p k111p f111p k112p f112p HN
 have HN:=HP
 clear HP
 replace HG:=qH (show Hg (w5.alloc (.cells #[.int .i64 0,.string ⟨#[]⟩,.int .i64 0,.int .i64 0,.string ⟨#[]⟩,.int .i64 0,.int .i64 0,.int .i64 0,.int .i64 0,.bool false,.slice none 0 0,.slice none 0 0,.slice none 0 0] 50)) from HG.out.below (belowBox _ _) HG.out.lt)
 replace HS1:=qH (show SB (w5.alloc (.cells #[.int .i64 0,.string ⟨#[]⟩,.int .i64 0,.int .i64 0,.string ⟨#[]⟩,.int .i64 0,.int .i64 0,.int .i64 0,.int .i64 0,.bool false,.slice none 0 0,.slice none 0 0,.slice none 0 0] 50)) a1 9 c1 [2,97,98,99,100,101,102,103,104] from HS1.out.below (belowBox _ _) HS1.out.lt)
 replace HS2:=qH (show SB (w5.alloc (.cells #[.int .i64 0,.string ⟨#[]⟩,.int .i64 0,.int .i64 0,.string ⟨#[]⟩,.int .i64 0,.int .i64 0,.int .i64 0,.int .i64 0,.bool false,.slice none 0 0,.slice none 0 0,.slice none 0 0] 50)) a2 23 c2 [1,97,98,99,100,101,102,103,104,0,0,0,1,7,0,0,0,2,3,1,2,1,1] from HS2.out.below (belowBox _ _) HS2.out.lt)
 replace HEB:=qH (show EB (w5.alloc (.cells #[.int .i64 0,.string ⟨#[]⟩,.int .i64 0,.int .i64 0,.string ⟨#[]⟩,.int .i64 0,.int .i64 0,.int .i64 0,.int .i64 0,.bool false,.slice none 0 0,.slice none 0 0,.slice none 0 0] 50)) eb 90 1 from HEB.out.below (belowBox _ _) HEB.out.lt)
 generalize (w5.alloc (.cells #[.int .i64 0,.string ⟨#[]⟩,.int .i64 0,.int .i64 0,.string ⟨#[]⟩,.int .i64 0,.int .i64 0,.int .i64 0,.int .i64 0,.bool false,.slice none 0 0,.slice none 0 0,.slice none 0 0] 50))=wa6 at HN HG HS1 HS2 HEB ⊢
 refine (HER.out _).mono ?_
 rintro e w7 ⟨a3,c3,rfl,hb⟩
 replace HG:=qH (show Hg w7 from HG.out.below hb HG.out.lt)
 replace HS1:=qH (show SB w7 a1 9 c1 [2,97,98,99,100,101,102,103,104] from HS1.out.below hb HS1.out.lt)
 replace HS2:=qH (show SB w7 a2 23 c2 [1,97,98,99,100,101,102,103,104,0,0,0,1,7,0,0,0,2,3,1,2,1,1] from HS2.out.below hb HS2.out.lt)
 replace HEB:=qH (show EB w7 eb 90 1 from HEB.out.below hb HEB.out.lt)
 replace HN:=qH (HN.out.call hb)
 clear hb 
 have hv1:=HCV1.out a1 c1 _ HS1.out
 have hv2:=HCV2.out a2 c2 _ HS2.out
 have ⟨k00,f00,k01,f01,k02,f02⟩:=HN.out.cf3 0 rfl
 have ⟨k10,f10,k11,f11,k12,f12,k13,f13,k14,f14,k15,f15,k16,f16,k17,f17,k18,f18,k19,f19,k110,f110,k111,f111,k112,f112⟩:=HN.out.cf13 1 rfl
 go_wp2_with fail
 clear k00 f00 k01 f01 k02 f02 k10 f10 k11 f11 k12 f12 k13 f13 k14 f14 k15 f15 k16 f16 k17 f17 k18 f18 k19 f19 k110 f110 k111 f111 k112 f112
 refine (HT1.out _ _ HG.out HEB.out).mono ?_
 rintro e w8 ⟨rfl,hb⟩
 replace HG:=qH (show Hg w8 from HG.out.below hb HG.out.lt)
 replace HS1:=qH (show SB w8 a1 9 c1 [2,97,98,99,100,101,102,103,104] from HS1.out.below hb HS1.out.lt)
 replace HS2:=qH (show SB w8 a2 23 c2 [1,97,98,99,100,101,102,103,104,0,0,0,1,7,0,0,0,2,3,1,2,1,1] from HS2.out.below hb HS2.out.lt)
 replace HEB:=qH (show EB w8 eb 90 1 from HEB.out.below hb HEB.out.lt)
 replace HN:=qH (HN.out.call hb)
 clear hb 
 clear hv1 hv2
 have ⟨k00,f00,k01,f01,k02,f02⟩:=HN.out.cf3 0 rfl
 have ⟨k10,f10,k11,f11,k12,f12,k13,f13,k14,f14,k15,f15,k16,f16,k17,f17,k18,f18,k19,f19,k110,f110,k111,f111,k112,f112⟩:=HN.out.cf13 1 rfl
 have HE:=qH (HN.out)
 go_wp2_with fail
 refine bodyPost_ret (v:=.bool true) (by simp [results,Tryz.results16,go_sem,k00,k01,k02,k10,k11,k12,k13,k14,k15,k16,k17,k18,k19,k110,k111,k112]) rfl ?_
 exact ⟨rfl,HE.out.bel⟩
theorem heap_alloc_new' (w:World) (o:Obj):(w.alloc o).heap[w.heap.size]?=some o:=by
 show (w.heap.push o)[w.heap.size]?=_
 simp
theorem half_num:(Rat.divInt 1 2).num=1:=by decide +kernel
theorem half_den:(Rat.divInt 1 2).den=2:=by decide +kernel
theorem half_ne:Rat.divInt 1 2≠0:=fun h=>by
 have:=half_num
 rw [h] at this
 cases this
theorem enc_half:encR (Rat.divInt 1 2)=.ok [3,1,2,1,1]:=by
 unfold encR
 rw [if_neg half_ne,tagR_ne half_ne,half_num,half_den]
 rw [show (1:Int).natAbs=1 from rfl,part_small (by omega) (by omega),if_neg (by omega),part_small (by omega) (by omega)]
 rfl
theorem cell_of_marked {w:World} {b j:Nat} {cs:Array Value} {t:TypeId} {m:Nat × Nat} {u:Value} (h:w.heap[b]?=some (.cells cs t m)) (hj:cs[j]?=some u):w.cell? ⟨b,j,none⟩=some u:=by
 simp [World.cell?,h,hj]
theorem bytes_abc (p:Nat) (W:World) (h:W.heap[p]?=some (.cells #[.int .u8 2,.int .u8 97,.int .u8 98,.int .u8 99] 5 (4,5))):BytesN W (.slice (some ⟨p,0,none⟩) 4 4) [2,97,98,99] :=
 ⟨rfl,.inr ⟨p,0,4,rfl,Nat.le_refl _,by unfold maxLen;omega,lt_of_block h,fun j u hj=>by
  match j,hj with
  | 0,hj=>injection hj with hj;subst hj;exact cell_of_marked h rfl
  | 1,hj=>injection hj with hj;subst hj;exact cell_of_marked h rfl
  | 2,hj=>injection hj with hj;subst hj;exact cell_of_marked h rfl
  | 3,hj=>injection hj with hj;subst hj;exact cell_of_marked h rfl⟩⟩
theorem encM_1:encM ⟨2,natB ⟨#[97,98,99,100,101,102,103,104]⟩,0,0,natB ⟨#[]⟩,⟨0,0,0,0,0,[]⟩⟩=.ok [2,97,98,99,100,101,102,103,104]:=rfl
theorem encM_2:encM ⟨1,natB ⟨#[97,98,99,100,101,102,103,104]⟩,1,0,natB ⟨#[]⟩,⟨7,0,2,0,Rat.divInt 1 2,[]⟩⟩=.ok [1,97,98,99,100,101,102,103,104,0,0,0,1,7,0,0,0,2,3,1,2,1,1]:=by
 show lay1 (lays (.ok []) [.num 1 1 5,.tok (natB ⟨#[97,98,99,100,101,102,103,104]⟩),.idn 1,.num 7 1 12,.idn 2]) (.rat (Rat.divInt 1 2))=_
 rw [show lays (.ok []) [.num 1 1 5,.tok (natB ⟨#[97,98,99,100,101,102,103,104]⟩),.idn 1,.num 7 1 12,.idn 2]=.ok [1,97,98,99,100,101,102,103,104,0,0,0,1,7,0,0,0,2] from rfl]
 unfold lay1
 simp only [layP_rat,enc_half]
 rfl
theorem smallW {n:Nat} (h:n<W64):lenW n≤1:=lenW_le (m:=1) (by rw [Nat.pow_one];exact h)
theorem mdec_bad (a:Option Addr) (n c:Nat) (data:List Nat) (x:Int × Nat) (w:World) (hd:BytesN w (.slice a n c) data) (h8:∀ x,x∈data→x<256) (hn:n≤1099511627776)
  (hv:(rPick data 1 5 (.ok 0)).1≠1∧(rPick data 1 5 (.ok 0)).1≠3∧(rPick data 1 5 (.ok 0)).1≠4∧(rPick data 1 5 (.ok 0)).1≠5) (hE:rEndS data (rTok data (rPick data 1 5 (.ok 0)).2).2=.error x) :
  Calls Tryz.prog 24 #[.slice a n c] w (RetMD (.error x) w):=by
 obtain ⟨iR,hiR,_,hzR,_⟩:=info_parts Tryz.infoM
 have hP:=fun (bs:List Bk) (ns:List Nm) (W:World) (h:RdW w bs ns (w.heap.size+1) a n c (.ok 0) W)=>rpick_any 1 5 data (.ok 0) W h hd h8 hn
 generalize (rPick data 1 5 (.ok 0)).1=verb at hP hv
 generalize (rPick data 1 5 (.ok 0)).2=st1 at hP hE
 have hT:=fun (bs:List Bk) (ns:List Nm) (W:World) (h:RdW w bs ns (w.heap.size+1) a n c st1 W)=>rtok_any data st1 W h hd hn
 have htl:(rTok data st1).1.length=8:=rNext_len data 8 st1
 have htb:∀ x,x∈(rTok data st1).1→x<256:=rNext_lt h8 8 st1
 generalize (rTok data st1).1=tk at hT htl htb
 generalize (rTok data st1).2=st2 at hT hE
 have HRE:=qH hE
 obtain ⟨h1,h3,h4,h5⟩:=hv
 clear hE
 have HP:=qH hP
 have HT:=qH hT
 have HD:=qH hd
 have H8:=qH h8
 have HTK:=qH (And.intro htl htb)
 clear hd h8 hP hT htl htb
 obtain ⟨W0,hW0⟩:∃ W0,W0=(((w.alloc (.cells #[.int .i64 0,.string ⟨#[]⟩,.int .i64 0,.int .i64 0,.string ⟨#[]⟩,.int .i64 0,.int .i64 0,.int .i64 0,.int .i64 0,.bool false,.slice none 0 0,.slice none 0 0,.slice none 0 0] 50)).alloc (.cells #[.slice a n c,.int .i64 0,.nilIface] 158)).alloc (.cells #[.int .i64 0,.string ⟨#[]⟩,.int .i64 0,.int .i64 0,.string ⟨#[]⟩,.int .i64 0,.int .i64 0,.int .i64 0,.int .i64 0,.bool false,.slice none 0 0,.slice none 0 0,.slice none 0 0] 50)):=⟨_,rfl⟩
 have hb0:BS w [⟨w.heap.size,50,[.int .i64 0,.string ⟨#[]⟩,.int .i64 0,.int .i64 0,.string ⟨#[]⟩,.int .i64 0,.int .i64 0,.int .i64 0,.int .i64 0,.bool false,.slice none 0 0,.slice none 0 0,.slice none 0 0]⟩,⟨w.heap.size+1,158,[.slice a n c,.int .i64 0,.nilIface]⟩,⟨w.heap.size+1+1,50,[.int .i64 0,.string ⟨#[]⟩,.int .i64 0,.int .i64 0,.string ⟨#[]⟩,.int .i64 0,.int .i64 0,.int .i64 0,.int .i64 0,.bool false,.slice none 0 0,.slice none 0 0,.slice none 0 0]⟩] [] (((w.alloc (.cells #[.int .i64 0,.string ⟨#[]⟩,.int .i64 0,.int .i64 0,.string ⟨#[]⟩,.int .i64 0,.int .i64 0,.int .i64 0,.int .i64 0,.bool false,.slice none 0 0,.slice none 0 0,.slice none 0 0] 50)).alloc (.cells #[.slice a n c,.int .i64 0,.nilIface] 158)).alloc (.cells #[.int .i64 0,.string ⟨#[]⟩,.int .i64 0,.int .i64 0,.string ⟨#[]⟩,.int .i64 0,.int .i64 0,.int .i64 0,.int .i64 0,.bool false,.slice none 0 0,.slice none 0 0,.slice none 0 0] 50)):=(((BS.start w).alloc (p:=w.heap.size) rfl 50 [.int .i64 0,.string ⟨#[]⟩,.int .i64 0,.int .i64 0,.string ⟨#[]⟩,.int .i64 0,.int .i64 0,.int .i64 0,.int .i64 0,.bool false,.slice none 0 0,.slice none 0 0,.slice none 0 0] rfl).alloc (p:=w.heap.size+1) (by simp) 158 [.slice a n c,.int .i64 0,.nilIface] rfl).alloc (p:=w.heap.size+1+1) (by simp) 50 [.int .i64 0,.string ⟨#[]⟩,.int .i64 0,.int .i64 0,.string ⟨#[]⟩,.int .i64 0,.int .i64 0,.int .i64 0,.int .i64 0,.bool false,.slice none 0 0,.slice none 0 0,.slice none 0 0] rfl
 have hn0:RdW w (⟨w.heap.size,50,[.int .i64 0,.string ⟨#[]⟩,.int .i64 0,.int .i64 0,.string ⟨#[]⟩,.int .i64 0,.int .i64 0,.int .i64 0,.int .i64 0,.bool false,.slice none 0 0,.slice none 0 0,.slice none 0 0]⟩::⟨w.heap.size+1+1,50,[.int .i64 0,.string ⟨#[]⟩,.int .i64 0,.int .i64 0,.string ⟨#[]⟩,.int .i64 0,.int .i64 0,.int .i64 0,.int .i64 0,.bool false,.slice none 0 0,.slice none 0 0,.slice none 0 0]⟩::[]) [] (w.heap.size+1) a n c (.ok 0) (((w.alloc (.cells #[.int .i64 0,.string ⟨#[]⟩,.int .i64 0,.int .i64 0,.string ⟨#[]⟩,.int .i64 0,.int .i64 0,.int .i64 0,.int .i64 0,.bool false,.slice none 0 0,.slice none 0 0,.slice none 0 0] 50)).alloc (.cells #[.slice a n c,.int .i64 0,.nilIface] 158)).alloc (.cells #[.int .i64 0,.string ⟨#[]⟩,.int .i64 0,.int .i64 0,.string ⟨#[]⟩,.int .i64 0,.int .i64 0,.int .i64 0,.int .i64 0,.bool false,.slice none 0 0,.slice none 0 0,.slice none 0 0] 50)):=⟨0,.nilIface,hb0.front 1 rfl,⟨rfl,rfl,Nat.zero_le _⟩,Nat.zero_le _⟩
 rw [← hW0] at hn0
 have HW0:=qH hW0
 have HN:=qH hn0
 clear hW0 hn0 hb0
 go_enter Tryz.func24,Tryz.ntmps24
 go_upto_region 3 with fail
 rw [← HW0.out]
 go_wp2_with fail
 refine (HP.out _ _ W0 HN.out).mono ?_
 rintro e w1 ⟨rfl,hq⟩
 replace HN:=qH hq
 clear hq
 have k10:=HN.out.cell 1 0 rfl rfl
 have f10:=HN.out.free 1 0 rfl
 go_wp2_with fail
 replace HN:=qH (show RdW w (⟨w.heap.size,50,[.int .i64 0,.string ⟨#[]⟩,.int .i64 0,.int .i64 0,.string ⟨#[]⟩,.int .i64 0,.int .i64 0,.int .i64 0,.int .i64 0,.bool false,.slice none 0 0,.slice none 0 0,.slice none 0 0]⟩::⟨w.heap.size+1+1,50,[.int .i64 verb,.string ⟨#[]⟩,.int .i64 0,.int .i64 0,.string ⟨#[]⟩,.int .i64 0,.int .i64 0,.int .i64 0,.int .i64 0,.bool false,.slice none 0 0,.slice none 0 0,.slice none 0 0]⟩::[]) _ (w.heap.size+1) a n c _ _ from (HN.out.set 1 0 rfl rfl (fun _=>by simp) (.int .i64 verb)))
 clear k10 f10
 generalize (w1.setCell ⟨w.heap.size+1+1,0,none⟩ (.int .i64 verb))=wa2 at HN ⊢
 refine (HT.out _ _ wa2 HN.out).mono ?_
 rintro e w3 ⟨rfl,hq⟩
 replace HN:=qH hq
 clear hq
 have k11:=HN.out.cell 1 1 rfl rfl
 have f11:=HN.out.free 1 1 rfl
 go_upto_region 5 with fail
 replace HN:=qH (show RdW w (⟨w.heap.size,50,[.int .i64 0,.string ⟨#[]⟩,.int .i64 0,.int .i64 0,.string ⟨#[]⟩,.int .i64 0,.int .i64 0,.int .i64 0,.int .i64 0,.bool false,.slice none 0 0,.slice none 0 0,.slice none 0 0]⟩::⟨w.heap.size+1+1,50,[.int .i64 verb,.string (strB tk),.int .i64 0,.int .i64 0,.string ⟨#[]⟩,.int .i64 0,.int .i64 0,.int .i64 0,.int .i64 0,.bool false,.slice none 0 0,.slice none 0 0,.slice none 0 0]⟩::[]) _ (w.heap.size+1) a n c _ _ from (HN.out.set 1 1 rfl rfl (fun _=>by simp) (.string (strB tk))))
 clear k11 f11
 generalize (w3.setCell ⟨w.heap.size+1+1,1,none⟩ (.string (strB tk)))=wa4 at HN ⊢
 have g1:(verb==1)=false:=beq_eq_false_iff_ne.2 h1
 have g3:(verb==3)=false:=beq_eq_false_iff_ne.2 h3
 have g4:(verb==4)=false:=beq_eq_false_iff_ne.2 h4
 have g5:(verb==5)=false:=beq_eq_false_iff_ne.2 h5
 have k10:=HN.out.cell 1 0 rfl rfl
 have f10:=HN.out.free 1 0 rfl
 go_upto_region 15 with fail
 clear k10 f10
 have HEN9:=qH (rend_any data st2 wa4 HN.out HD.out hn)
 rw [HRE.out] at HEN9
 go_wp2_with fail
 refine HEN9.out.mono ?_
 rintro e w5 ⟨k9,ev9,rfl,hy,hs,hk⟩
 have HRS9:=qH hs
 obtain ⟨eb,u,rfl,_⟩:=hs
 replace HN:=qH (show RdX w (⟨w.heap.size,50,[.int .i64 0,.string ⟨#[]⟩,.int .i64 0,.int .i64 0,.string ⟨#[]⟩,.int .i64 0,.int .i64 0,.int .i64 0,.int .i64 0,.bool false,.slice none 0 0,.slice none 0 0,.slice none 0 0]⟩::⟨w.heap.size+1+1,50,[.int .i64 verb,.string (strB tk),.int .i64 0,.int .i64 0,.string ⟨#[]⟩,.int .i64 0,.int .i64 0,.int .i64 0,.int .i64 0,.bool false,.slice none 0 0,.slice none 0 0,.slice none 0 0]⟩::[]) _ (w.heap.size+1) a n c _ _ _ _ from ⟨hy,HRS9.out,hk⟩)
 clear HEN9 hy hk
 unfold eF
 have k00:=HN.out.cell 0 0 rfl rfl
 have f00:=HN.out.free 0 0 rfl
 have k01:=HN.out.cell 0 1 rfl rfl
 have f01:=HN.out.free 0 1 rfl
 have k02:=HN.out.cell 0 2 rfl rfl
 have f02:=HN.out.free 0 2 rfl
 have k03:=HN.out.cell 0 3 rfl rfl
 have f03:=HN.out.free 0 3 rfl
 have k04:=HN.out.cell 0 4 rfl rfl
 have f04:=HN.out.free 0 4 rfl
 have k05:=HN.out.cell 0 5 rfl rfl
 have f05:=HN.out.free 0 5 rfl
 have k06:=HN.out.cell 0 6 rfl rfl
 have f06:=HN.out.free 0 6 rfl
 have k07:=HN.out.cell 0 7 rfl rfl
 have f07:=HN.out.free 0 7 rfl
 have k08:=HN.out.cell 0 8 rfl rfl
 have f08:=HN.out.free 0 8 rfl
 have k09:=HN.out.cell 0 9 rfl rfl
 have f09:=HN.out.free 0 9 rfl
 have k010:=HN.out.cell 0 10 rfl rfl
 have f010:=HN.out.free 0 10 rfl
 have k011:=HN.out.cell 0 11 rfl rfl
 have f011:=HN.out.free 0 11 rfl
 have k012:=HN.out.cell 0 12 rfl rfl
 have f012:=HN.out.free 0 12 rfl
 have HE:=qH (show RdX w (⟨w.heap.size,50,[.int .i64 0,.string ⟨#[]⟩,.int .i64 0,.int .i64 0,.string ⟨#[]⟩,.int .i64 0,.int .i64 0,.int .i64 0,.int .i64 0,.bool false,.slice none 0 0,.slice none 0 0,.slice none 0 0]⟩::⟨w.heap.size+1+1,50,[.int .i64 verb,.string (strB tk),.int .i64 0,.int .i64 0,.string ⟨#[]⟩,.int .i64 0,.int .i64 0,.int .i64 0,.int .i64 0,.bool false,.slice none 0 0,.slice none 0 0,.slice none 0 0]⟩::[]) _ (w.heap.size+1) a n c _ _ _ _ from (((((((((((((HN.out.set 0 0 rfl rfl (fun _=>by simp) (.int .i64 0)).set 0 1 rfl rfl (fun _=>by simp) (.string ⟨#[]⟩)).set 0 2 rfl rfl (fun _=>by simp) (.int .i64 0)).set 0 3 rfl rfl (fun _=>by simp) (.int .i64 0)).set 0 4 rfl rfl (fun _=>by simp) (.string ⟨#[]⟩)).set 0 5 rfl rfl (fun _=>by simp) (.int .i64 0)).set 0 6 rfl rfl (fun _=>by simp) (.int .i64 0)).set 0 7 rfl rfl (fun _=>by simp) (.int .i64 0)).set 0 8 rfl rfl (fun _=>by simp) (.int .i64 0)).set 0 9 rfl rfl (fun _=>by simp) (.bool false)).set 0 10 rfl rfl (fun _=>by simp) (.slice none 0 0)).set 0 11 rfl rfl (fun _=>by simp) (.slice none 0 0)).set 0 12 rfl rfl (fun _=>by simp) (.slice none 0 0)))
 go_wp2_with fail
 (try simp only [Exit.inBlock,Exit.then])
 refine bodyPost_ret (v:=.tuple #[.agg #[.int .i64 0,.string ⟨#[]⟩,.int .i64 0,.int .i64 0,.string ⟨#[]⟩,.int .i64 0,.int .i64 0,.int .i64 0,.int .i64 0,.bool false,.slice none 0 0,.slice none 0 0,.slice none 0 0],eF eb]) ?_ rfl ?_
 ·
  rw [results_cell_tmp rfl]
  have hbk:=(HE.out.at 0 rfl:_=some (Obj.cells #[.int .i64 0,.string ⟨#[]⟩,.int .i64 0,.int .i64 0,.string ⟨#[]⟩,.int .i64 0,.int .i64 0,.int .i64 0,.int .i64 0,.bool false,.slice none 0 0,.slice none 0 0,.slice none 0 0] 50 (0,0)))
  generalize (((((((((((((w5.setCell ⟨w.heap.size,0,none⟩ (.int .i64 0)).setCell ⟨w.heap.size,1,none⟩ (.string ⟨#[]⟩)).setCell ⟨w.heap.size,2,none⟩ (.int .i64 0)).setCell ⟨w.heap.size,3,none⟩ (.int .i64 0)).setCell ⟨w.heap.size,4,none⟩ (.string ⟨#[]⟩)).setCell ⟨w.heap.size,5,none⟩ (.int .i64 0)).setCell ⟨w.heap.size,6,none⟩ (.int .i64 0)).setCell ⟨w.heap.size,7,none⟩ (.int .i64 0)).setCell ⟨w.heap.size,8,none⟩ (.int .i64 0)).setCell ⟨w.heap.size,9,none⟩ (.bool false)).setCell ⟨w.heap.size,10,none⟩ (.slice none 0 0)).setCell ⟨w.heap.size,11,none⟩ (.slice none 0 0)).setCell ⟨w.heap.size,12,none⟩ (.slice none 0 0))=WE at hbk ⊢
  have hld:=Go.Lib.rl_loadVar_cells 50 _ hiR (fun _=>by kernel_rfl) (w.heap.size) 0 [.int .i64 0,.string ⟨#[]⟩,.int .i64 0,.int .i64 0,.string ⟨#[]⟩,.int .i64 0,.int .i64 0,.int .i64 0,.int .i64 0,.bool false,.slice none 0 0,.slice none 0 0,.slice none 0 0] hzR.symm WE (fun k v hk=>by
   rw [Nat.zero_add]
   exact cell_of_block (j:=k) hbk (by simpa using hk))
  exact ret_of hld
 exact ⟨eF eb,rfl,HE.out.err,HE.out.1.bel⟩
end Go.Proofs.YtmhainidincjhaaGreatDoor
