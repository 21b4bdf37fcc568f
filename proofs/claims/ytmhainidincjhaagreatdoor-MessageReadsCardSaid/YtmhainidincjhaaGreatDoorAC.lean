/-
 What the laws stand on, part C: contracts and plain laws of MAwake, RBad, MAwake3; the conditions are each law's own.
-/
import Derived.Test.YtmhainidincjhaaGreatDoorAG
import Derived.Test.YtmhainidincjhaaGreatDoorAQ
import Derived.Test.YtmhainidincjhaaGreatDoorAL
import Derived.Test.YtmhainidincjhaaGreatDoorAV
import Derived.Lib.SlBytesConst
set_option linter.unusedVariables false
set_option linter.unusedSimpArgs false
set_option maxRecDepth 100000
set_option maxHeartbeats 16000000
namespace Go.Proofs.YtmhainidincjhaaGreatDoor
open Go.RowKit Go.Extern.Stop Go.Stop Go.Extern
def EB (w:World) (eb:Nat) (k:Int) (at9:Nat):Prop:=ErrB w (fun _=>True) (eF eb) k at9
theorem EB.lt {w:World} {eb:Nat} {k:Int} {at9:Nat} (_:EB w eb k at9):True:=trivial
theorem EB.below {w w':World} {eb:Nat} {k:Int} {at9:Nat} (h:EB w eb k at9) (hb:Below w.heap.size w w') (_:True):EB w' eb k at9:=ErrB.below h hb
theorem mawake_walk (qs:Bool) (qn qd:Nat) (w:World) (HG:Hid (Hg w))
  (HE1:Hid (∀ W,Calls Tryz.prog 18 #[.agg #[.int .i64 2,.string ⟨#[97,98,99,100,101,102,103,104]⟩,.int .i64 0,.int .i64 0,.string ⟨#[]⟩,.int .i64 0,.int .i64 0,.int .i64 0,.int .i64 0,.bool false,.slice none 0 0,.slice none 0 0,.slice none 0 0]] W fun e w'=>∃ a1 c1,e=.returned (.tuple #[.slice a1 9 c1,.nilIface])∧SB w' a1 9 c1 [2,97,98,99,100,101,102,103,104]∧Below W.heap.size W w'))
  (HOF:Hid (∀ W,Calls Tryz.prog 55 #[.int .i64 1,.int .i64 2] W fun e w'=>∃ a8 c8 b9 d9,e=.returned (.tuple #[.agg #[.bool qs,.slice a8 (lenW qn) c8,.slice b9 (lenW qd) d9],.bool true])∧NatW w' a8 c8 qn∧NatW w' b9 d9 qd∧Below W.heap.size W w'))
  (HE2:Hid (∀ a8 c8 b9 d9 W,NatW W a8 c8 qn→NatW W b9 d9 qd→Calls Tryz.prog 18 #[.agg #[.int .i64 1,.string ⟨#[97,98,99,100,101,102,103,104]⟩,.int .i64 1,.int .i64 0,.string ⟨#[]⟩,.int .i64 7,.int .i64 0,.int .i64 2,.int .i64 0,.bool qs,.slice a8 (lenW qn) c8,.slice b9 (lenW qd) d9,.slice none 0 0]] W fun e w'=>∃ a2 c2,e=.returned (.tuple #[.slice a2 23 c2,.nilIface])∧SB w' a2 23 c2 [1,97,98,99,100,101,102,103,104,0,0,0,1,7,0,0,0,2,3,1,2,1,1]∧Below W.heap.size W w'))
  (HD1:Hid (∀ (W:World),Calls Tryz.prog 24 #[.slice (some ⟨W.heap.size,0,none⟩) 4 4] (W.alloc (.cells #[.int .u8 2,.int .u8 97,.int .u8 98,.int .u8 99] 5 (4,5))) fun e w'=>∃ eb,e=.returned (.tuple #[.agg #[.int .i64 0,.string ⟨#[]⟩,.int .i64 0,.int .i64 0,.string ⟨#[]⟩,.int .i64 0,.int .i64 0,.int .i64 0,.int .i64 0,.bool false,.slice none 0 0,.slice none 0 0,.slice none 0 0],.iface 211 (.pointer (some ⟨eb,0,none⟩))])∧EB w' eb 90 1∧Below W.heap.size W w'))
  (HER:Hid (∀ W,Calls Tryz.prog 51 #[.agg #[.int .i64 1,.int .i64 12,.string ⟨#[]⟩,.int .i64 0,.string ⟨#[]⟩,.int .i64 0,.int .i64 0,.int .i64 0,.bool false,.slice none 0 0,.slice none 0 0,.slice none 0 0,.bool false,.slice none 0 0,.slice none 0 0,.bool false,.slice none 0 0,.slice none 0 0,.bool false,.bool false,.int .i64 1,.int .i64 0,.int .i64 0]] W fun e w'=>∃ a3 c3,e=.returned (.tuple #[.slice a3 28 c3,.nilIface])∧Below W.heap.size W w'))
  (HCV1:Hid (∀ a c W,SB W a 9 c [2,97,98,99,100,101,102,103,104]→(convert 32 9 (.slice a 9 c)).run Tryz.prog W=.ok (.string ⟨#[2,97,98,99,100,101,102,103,104]⟩) W))
  (HCV2:Hid (∀ a c W,SB W a 23 c [1,97,98,99,100,101,102,103,104,0,0,0,1,7,0,0,0,2,3,1,2,1,1]→(convert 32 9 (.slice a 23 c)).run Tryz.prog W=.ok (.string ⟨#[1,97,98,99,100,101,102,103,104,0,0,0,1,7,0,0,0,2,3,1,2,1,1]⟩) W))
  (HT1:Hid (∀ eb W,Hg W→EB W eb 90 1→Calls Tryz.prog 22 #[.iface 211 (.pointer (some ⟨eb,0,none⟩)),.int .i64 90,.string ⟨#[98,121,116,101]⟩,.int .i64 1] W fun e w'=>e=.returned (.bool true)∧Below W.heap.size W w')) :
  Calls Tryz.prog 16 #[] w fun e w'=>e=.returned (.bool true)∧Below w.heap.size w w':=by
 have HN:=Lib.hid (BS.start w)
 go_enter Tryz.func16,Tryz.ntmps16
 go_wp2_with fail
 refine (HE1.out _).mono ?_
 rintro e w1 ⟨a1,c1,rfl,hf,hb⟩
 replace HG:=Lib.hid (show Hg w1 from HG.out.below hb HG.out.lt)
 replace HN:=Lib.hid (HN.out.call hb)
 have HS1:=Lib.hid hf
 clear hb hf
 go_wp2_with fail
 refine (HOF.out _).mono ?_
 rintro e w2 ⟨a8,c8,b9,d9,rfl,hq0,hq1,hb⟩
 replace HG:=Lib.hid (show Hg w2 from HG.out.below hb HG.out.lt)
 replace HS1:=Lib.hid (show SB w2 a1 9 c1 [2,97,98,99,100,101,102,103,104] from HS1.out.below hb HS1.out.lt)
 replace HN:=Lib.hid (((HN.out.call hb).got hq0).got hq1)
 clear hb hq0 hq1
 have HP:=Lib.hid (HN.out.alloc (p:=w2.heap.size) rfl 45 [.bool qs,.slice a8 (lenW qn) c8,.slice b9 (lenW qd) d9] rfl)
 have ⟨k00p,f00p,k01p,f01p,k02p,f02p⟩:=HP.out.cf3 0 rfl
 go_wp2_with fail
 clear k00p f00p k01p f01p k02p f02p HN
 have HN:=HP
 clear HP
 replace HG:=Lib.hid (show Hg (w2.alloc (.cells #[.bool qs,.slice a8 (lenW qn) c8,.slice b9 (lenW qd) d9] 45)) from HG.out.below (belowBox _ _) HG.out.lt)
 replace HS1:=Lib.hid (show SB (w2.alloc (.cells #[.bool qs,.slice a8 (lenW qn) c8,.slice b9 (lenW qd) d9] 45)) a1 9 c1 [2,97,98,99,100,101,102,103,104] from HS1.out.below (belowBox _ _) HS1.out.lt)
 generalize (w2.alloc (.cells #[.bool qs,.slice a8 (lenW qn) c8,.slice b9 (lenW qd) d9] 45))=wa3 at HN HG HS1 ⊢
 refine (HE2.out _ _ _ _ _ (HN.out.nat 0 rfl) (HN.out.nat 1 rfl)).mono ?_
 rintro e w4 ⟨a2,c2,rfl,hf,hb⟩
 replace HG:=Lib.hid (show Hg w4 from HG.out.below hb HG.out.lt)
 replace HS1:=Lib.hid (show SB w4 a1 9 c1 [2,97,98,99,100,101,102,103,104] from HS1.out.below hb HS1.out.lt)
 replace HN:=Lib.hid (HN.out.call hb)
 have HS2:=Lib.hid hf
 clear hb hf
 have hcb:=Lib.run_convert_bytes_const (P:=Tryz.prog) w4 32 5 #[.int .u8 2,.int .u8 97,.int .u8 98,.int .u8 99] 4 4 Tryz.underlying32 Tryz.underlying5
 have ⟨k00,f00,k01,f01,k02,f02⟩:=HN.out.cf3 0 rfl
 go_wp2_with fail
 clear k00 f00 k01 f01 k02 f02
 refine (HD1.out _).mono ?_
 rintro e w5 ⟨eb,rfl,hf,hb⟩
 replace HG:=Lib.hid (show Hg w5 from HG.out.below hb HG.out.lt)
 replace HS1:=Lib.hid (show SB w5 a1 9 c1 [2,97,98,99,100,101,102,103,104] from HS1.out.below hb HS1.out.lt)
 replace HS2:=Lib.hid (show SB w5 a2 23 c2 [1,97,98,99,100,101,102,103,104,0,0,0,1,7,0,0,0,2,3,1,2,1,1] from HS2.out.below hb HS2.out.lt)
 replace HN:=Lib.hid (HN.out.call hb)
 have HEB:=Lib.hid hf
 clear hb hf
 clear hcb
 have ⟨k00,f00,k01,f01,k02,f02⟩:=HN.out.cf3 0 rfl
 have l0:=HN.out.lt 0 rfl
 have HP:=Lib.hid (HN.out.alloc (p:=w5.heap.size) rfl 50 [.int .i64 0,.string ⟨#[]⟩,.int .i64 0,.int .i64 0,.string ⟨#[]⟩,.int .i64 0,.int .i64 0,.int .i64 0,.int .i64 0,.bool false,.slice none 0 0,.slice none 0 0,.slice none 0 0] rfl)
 have ⟨k00p,f00p,k01p,f01p,k02p,f02p⟩:=HP.out.cf3 0 rfl
 have ⟨k10p,f10p,k11p,f11p,k12p,f12p,k13p,f13p,k14p,f14p,k15p,f15p,k16p,f16p,k17p,f17p,k18p,f18p,k19p,f19p,k110p,f110p,k111p,f111p,k112p,f112p⟩:=HP.out.cf13 1 rfl
 go_wp2_with fail
 clear k00 f00 k01 f01 k02 f02 l0 k00p f00p k01p f01p k02p f02p k10p f10p k11p f11p k12p f12p k13p f13p k14p f14p k15p f15p k16p f16p k17p f17p k18p f18p k19p f19p k110p f110p k111p f111p k112p f112p HN
 have HN:=HP
 clear HP
 replace HG:=Lib.hid (show Hg (w5.alloc (.cells #[.int .i64 0,.string ⟨#[]⟩,.int .i64 0,.int .i64 0,.string ⟨#[]⟩,.int .i64 0,.int .i64 0,.int .i64 0,.int .i64 0,.bool false,.slice none 0 0,.slice none 0 0,.slice none 0 0] 50)) from HG.out.below (belowBox _ _) HG.out.lt)
 replace HS1:=Lib.hid (show SB (w5.alloc (.cells #[.int .i64 0,.string ⟨#[]⟩,.int .i64 0,.int .i64 0,.string ⟨#[]⟩,.int .i64 0,.int .i64 0,.int .i64 0,.int .i64 0,.bool false,.slice none 0 0,.slice none 0 0,.slice none 0 0] 50)) a1 9 c1 [2,97,98,99,100,101,102,103,104] from HS1.out.below (belowBox _ _) HS1.out.lt)
 replace HS2:=Lib.hid (show SB (w5.alloc (.cells #[.int .i64 0,.string ⟨#[]⟩,.int .i64 0,.int .i64 0,.string ⟨#[]⟩,.int .i64 0,.int .i64 0,.int .i64 0,.int .i64 0,.bool false,.slice none 0 0,.slice none 0 0,.slice none 0 0] 50)) a2 23 c2 [1,97,98,99,100,101,102,103,104,0,0,0,1,7,0,0,0,2,3,1,2,1,1] from HS2.out.below (belowBox _ _) HS2.out.lt)
 replace HEB:=Lib.hid (show EB (w5.alloc (.cells #[.int .i64 0,.string ⟨#[]⟩,.int .i64 0,.int .i64 0,.string ⟨#[]⟩,.int .i64 0,.int .i64 0,.int .i64 0,.int .i64 0,.bool false,.slice none 0 0,.slice none 0 0,.slice none 0 0] 50)) eb 90 1 from HEB.out.below (belowBox _ _) HEB.out.lt)
 generalize (w5.alloc (.cells #[.int .i64 0,.string ⟨#[]⟩,.int .i64 0,.int .i64 0,.string ⟨#[]⟩,.int .i64 0,.int .i64 0,.int .i64 0,.int .i64 0,.bool false,.slice none 0 0,.slice none 0 0,.slice none 0 0] 50))=wa6 at HN HG HS1 HS2 HEB ⊢
 refine (HER.out _).mono ?_
 rintro e w7 ⟨a3,c3,rfl,hb⟩
 replace HG:=Lib.hid (show Hg w7 from HG.out.below hb HG.out.lt)
 replace HS1:=Lib.hid (show SB w7 a1 9 c1 [2,97,98,99,100,101,102,103,104] from HS1.out.below hb HS1.out.lt)
 replace HS2:=Lib.hid (show SB w7 a2 23 c2 [1,97,98,99,100,101,102,103,104,0,0,0,1,7,0,0,0,2,3,1,2,1,1] from HS2.out.below hb HS2.out.lt)
 replace HEB:=Lib.hid (show EB w7 eb 90 1 from HEB.out.below hb HEB.out.lt)
 replace HN:=Lib.hid (HN.out.call hb)
 clear hb 
 have hv1:=HCV1.out a1 c1 _ HS1.out
 have hv2:=HCV2.out a2 c2 _ HS2.out
 have ⟨k00,f00,k01,f01,k02,f02⟩:=HN.out.cf3 0 rfl
 have ⟨k10,f10,k11,f11,k12,f12,k13,f13,k14,f14,k15,f15,k16,f16,k17,f17,k18,f18,k19,f19,k110,f110,k111,f111,k112,f112⟩:=HN.out.cf13 1 rfl
 go_wp2_with fail
 clear k00 f00 k01 f01 k02 f02 k10 f10 k11 f11 k12 f12 k13 f13 k14 f14 k15 f15 k16 f16 k17 f17 k18 f18 k19 f19 k110 f110 k111 f111 k112 f112
 refine (HT1.out _ _ HG.out HEB.out).mono ?_
 rintro e w8 ⟨rfl,hb⟩
 replace HG:=Lib.hid (show Hg w8 from HG.out.below hb HG.out.lt)
 replace HS1:=Lib.hid (show SB w8 a1 9 c1 [2,97,98,99,100,101,102,103,104] from HS1.out.below hb HS1.out.lt)
 replace HS2:=Lib.hid (show SB w8 a2 23 c2 [1,97,98,99,100,101,102,103,104,0,0,0,1,7,0,0,0,2,3,1,2,1,1] from HS2.out.below hb HS2.out.lt)
 replace HEB:=Lib.hid (show EB w8 eb 90 1 from HEB.out.below hb HEB.out.lt)
 replace HN:=Lib.hid (HN.out.call hb)
 clear hb 
 clear hv1 hv2
 have ⟨k00,f00,k01,f01,k02,f02⟩:=HN.out.cf3 0 rfl
 have ⟨k10,f10,k11,f11,k12,f12,k13,f13,k14,f14,k15,f15,k16,f16,k17,f17,k18,f18,k19,f19,k110,f110,k111,f111,k112,f112⟩:=HN.out.cf13 1 rfl
 have HE:=Lib.hid (HN.out)
 go_wp2_with fail
 refine bodyPost_ret (v:=.bool true) (by simp [results,Tryz.results16,go_sem,k00,k01,k02,k10,k11,k12,k13,k14,k15,k16,k17,k18,k19,k110,k111,k112]) rfl ?_
 exact ⟨rfl,HE.out.bel⟩
theorem heap_alloc_new' (w:World) (o:Obj):(w.alloc o).heap[w.heap.size]?=some o:=by
 show (w.heap.push o)[w.heap.size]?=_
 simp
theorem half_num:(Rat.divInt 1 2).num=1:=by decide +kernel
theorem half_den:(Rat.divInt 1 2).den=2:=by decide +kernel
theorem half_ne:Rat.divInt 1 2≠0:=fun h=>by
 have:=half_num
 rw [h] at this
 cases this
theorem enc_half:encR (Rat.divInt 1 2)=.ok [3,1,2,1,1]:=by
 unfold encR
 rw [if_neg half_ne,tagR_ne half_ne,half_num,half_den]
 rw [show (1:Int).natAbs=1 from rfl,part_small (by omega) (by omega),if_neg (by omega),part_small (by omega) (by omega)]
 rfl
theorem cell_of_marked {w:World} {b j:Nat} {cs:Array Value} {t:TypeId} {m:Nat × Nat} {u:Value} (h:w.heap[b]?=some (.cells cs t m)) (hj:cs[j]?=some u):w.cell? ⟨b,j,none⟩=some u:=by
 simp [World.cell?,h,hj]
theorem bytes_abc (p:Nat) (W:World) (h:W.heap[p]?=some (.cells #[.int .u8 2,.int .u8 97,.int .u8 98,.int .u8 99] 5 (4,5))):BytesN W (.slice (some ⟨p,0,none⟩) 4 4) [2,97,98,99] :=
 ⟨rfl,.inr ⟨p,0,4,rfl,Nat.le_refl _,by unfold maxLen;omega,lt_of_block h,fun j u hj=>by
  match j,hj with
  | 0,hj=>injection hj with hj;subst hj;exact cell_of_marked h rfl
  | 1,hj=>injection hj with hj;subst hj;exact cell_of_marked h rfl
  | 2,hj=>injection hj with hj;subst hj;exact cell_of_marked h rfl
  | 3,hj=>injection hj with hj;subst hj;exact cell_of_marked h rfl⟩⟩
theorem encM_1:encM ⟨2,natB ⟨#[97,98,99,100,101,102,103,104]⟩,0,0,natB ⟨#[]⟩,⟨0,0,0,0,0,[]⟩⟩=.ok [2,97,98,99,100,101,102,103,104]:=rfl
theorem encM_2:encM ⟨1,natB ⟨#[97,98,99,100,101,102,103,104]⟩,1,0,natB ⟨#[]⟩,⟨7,0,2,0,Rat.divInt 1 2,[]⟩⟩=.ok [1,97,98,99,100,101,102,103,104,0,0,0,1,7,0,0,0,2,3,1,2,1,1]:=by
 show lay1 (lays (.ok []) [.num 1 1 5,.tok (natB ⟨#[97,98,99,100,101,102,103,104]⟩),.idn 1,.num 7 1 12,.idn 2]) (.rat (Rat.divInt 1 2))=_
 rw [show lays (.ok []) [.num 1 1 5,.tok (natB ⟨#[97,98,99,100,101,102,103,104]⟩),.idn 1,.num 7 1 12,.idn 2]=.ok [1,97,98,99,100,101,102,103,104,0,0,0,1,7,0,0,0,2] from rfl]
 unfold lay1
 simp only [layP_rat,enc_half]
 rfl
theorem decM_1:decM [2,97,98,99]=.error (90,1):=rfl
theorem smallW {n:Nat} (h:n<W64):lenW n≤1:=lenW_le (m:=1) (by rw [Nat.pow_one];exact h)
theorem mawake_any (w:World) (hg:Hg w):Calls Tryz.prog 16 #[] w fun e w'=>e=.returned (.bool true)∧Below w.heap.size w w':=by
 obtain ⟨q,hq⟩:∃ q,Rat.divInt 1 2=q:=⟨_,rfl⟩
 have h1:lenW q.num.natAbs≤1:=by rw [← hq,half_num];exact smallW (by unfold W64;omega)
 have h2:lenW q.den≤1:=by rw [← hq,half_den];exact smallW (by unfold W64;omega)
 have hof:=fun (W:World)=>rof_any (Nat.le_refl 4398046511104) div_upto (by omega) (by omega) 1 2 W (by omega) (by omega) (by omega) (by omega) (by omega)
 rw [hq] at hof
 have he2:=encM_2
 rw [hq] at he2
 refine mawake_walk (decide (q.num<0)) q.num.natAbs (denN q.den) w (Lib.hid hg) (Lib.hid fun W=>?_) (Lib.hid hof) (Lib.hid fun a8 c8 b9 d9 W q1 q2=>?_)
  (Lib.hid fun W=>?_) (Lib.hid fun W=>eres_show 1 0 0 W) (Lib.hid fun a c W h=>conv_any a _ c _ W h) (Lib.hid fun a c W h=>conv_any a _ c _ W h)
  (Lib.hid fun eb W hg h=>told_B _ 90 1 _ W hg h)
 ·
  have h:=menc_any ⟨2,⟨#[97,98,99,100,101,102,103,104]⟩,0,0,⟨#[]⟩,0,0,0,0,Rv.zero,none,0,0,[]⟩ W ⟨by show (8:Nat)≤_;omega,by show (0:Nat)≤_;omega,Rv.zero_ok W,Rv.zero_sh.num,Rv.zero_sh.den,⟨rfl,Sl.ofMid (Mid.nil W 0 146 4),fun _ h=>(by cases h)⟩,by show (0:Nat)≤_;omega⟩
  rw [show MsgV.msg ⟨2,⟨#[97,98,99,100,101,102,103,104]⟩,0,0,⟨#[]⟩,0,0,0,0,Rv.zero,none,0,0,[]⟩=⟨2,natB ⟨#[97,98,99,100,101,102,103,104]⟩,0,0,natB ⟨#[]⟩,⟨0,0,0,0,0,[]⟩⟩ from rfl,encM_1] at h
  exact h.mono fun e w' ⟨a,c,he,hm,hb⟩=>⟨a,c,he,Sl.ofMid hm,hb⟩
 ·
  have h:=menc_any ⟨1,⟨#[97,98,99,100,101,102,103,104]⟩,1,0,⟨#[]⟩,7,0,2,0,⟨decide (q.num<0),a8,lenW q.num.natAbs,c8,b9,lenW (denN q.den),d9,q⟩,none,0,0,[]⟩ W ⟨by show (8:Nat)≤_;omega,by show (0:Nat)≤_;omega,⟨rfl,rfl,rfl,q1,q2⟩,by show lenW q.num.natAbs≤_;omega,by show lenW q.den≤_;omega,⟨rfl,Sl.ofMid (Mid.nil W 0 146 4),fun _ h=>(by cases h)⟩,by show (0:Nat)≤_;omega⟩
  rw [show MsgV.msg ⟨1,⟨#[97,98,99,100,101,102,103,104]⟩,1,0,⟨#[]⟩,7,0,2,0,⟨decide (q.num<0),a8,lenW q.num.natAbs,c8,b9,lenW (denN q.den),d9,q⟩,none,0,0,[]⟩=⟨1,natB ⟨#[97,98,99,100,101,102,103,104]⟩,1,0,natB ⟨#[]⟩,⟨7,0,2,0,q,[]⟩⟩ from rfl,he2] at h
  exact h.mono fun e w' ⟨a,c,he,hm,hb⟩=>⟨a,c,he,Sl.ofMid hm,hb⟩
 ·
  have h:=mdec_any _ _ _ _ _ (bytes_abc W.heap.size (W.alloc (.cells #[.int .u8 2,.int .u8 97,.int .u8 98,.int .u8 99] 5 (4,5))) (heap_alloc_new' W _)) (by decide) (by omega)
  rw [decM_1] at h
  refine h.mono fun e w' hh=>?_
  obtain ⟨v,he,hv,hb⟩:=hh
  have hv0:=hv
  obtain ⟨eb,u,rfl,_⟩:=hv
  exact ⟨eb,he,hv0,bthen (belowBox W _) hb⟩
end Go.Proofs.YtmhainidincjhaaGreatDoor
