/-
 What the laws stand on, part Y: contracts and plain laws of DDec, DDec2; the conditions are each law's own.
-/
import Derived.Test.YtmhainidincjhaaGreatDoorBX
import Derived.Test.YtmhainidincjhaaGreatDoorBA
set_option linter.unusedVariables false
set_option linter.unusedSimpArgs false
set_option maxRecDepth 100000
set_option maxHeartbeats 16000000
namespace Go.Proofs.YtmhainidincjhaaGreatDoor
open Go.RowKit Go.Extern.Stop Go.Stop Go.Extern
theorem dec_cons (a:Option Addr) (n c t:Nat) (r:List Nat) (w:World) (h:BytesN w (.slice a n c) (t::r)) (hb8:∀ x,x∈t::r→x<256) (hs:n≤1099511627776):Calls Tryz.prog 33 #[.slice a n c] w (RetD9 (decR (t::r)) w):=by
 obtain ⟨res,hres⟩:∃ res,decR (t::r)=res:=⟨_,rfl⟩
 rw [hres]
 have HRES:=qH hres
 have hlen:=h.len
 have hn:n=r.length+1:=hlen.1
 obtain ⟨b,o,ea,hlt,hc⟩:=h.get 0 (x:=t) rfl
 rw [Nat.add_zero] at hc
 have ea':a=some ⟨b,o,none⟩:=ea
 clear ea
 subst ea'
 have HRR:=qH (show (c=1→∀ W,Below w.heap.size w W→BytesN W (.slice (some ⟨b,o,none⟩) (n - 1) 0) r)∧(c≠1→∀ W,Below w.heap.size w W→BytesN W (.slice (some ⟨b,o+1,none⟩) (n - 1) (c - 1)) r) from by
  have h1:=h.sub 1 n (by omega) (Nat.le_refl _)
  rw [show ((t::r).take n).drop 1=r by rw [List.take_of_length_le (by simp;omega)];rfl] at h1
  constructor
  ·
   intro hc1 W hb;subst hc1;exact (by simpa using h1:BytesN w _ r).below hb
  ·
   intro hc1 W hb;rw [if_neg hc1,Option.map_some,Addr.add_lit] at h1;exact h1.below hb)
 have HBC:=qH (fun (W:World) (hb:Below w.heap.size w W)=>((hb.cell (p:=⟨b,o,none⟩) hlt).trans hc:W.cell? ⟨b,o,none⟩=some (.int .u8 t)))
 have ht8:=hb8 t List.mem_cons_self
 have HR8:=qH (fun x (hx:x∈r)=>hb8 x (List.mem_cons_of_mem _ hx))
 have h0:((n:Int)==0)=false:=beq_eq_false_iff_ne.2 (by omega)
 have h1i:(1:Int)≤(n:Int):=by omega
 have hn0:0<n:=by omega
 have hc9:c≤9223372036854775807:=by omega
 have hnc:n≤c:=by omega
 have HNR:=qH hn
 clear hres h hb8 hlen hn hlt hc
 have HOF:=qH (fun (p:Nat) (W:World) (h:W.heap[p]?=some (.cells #[.int .u64 1] 164 (0,0)))=>of_one p W h)
 obtain ⟨W0,hW0⟩:∃ W0,W0=(w.alloc (.cells #[.bool false,.slice none 0 0,.slice none 0 0] 45)):=⟨_,rfl⟩
 have hbs:BS w [⟨w.heap.size,45,[.bool false,.slice none 0 0,.slice none 0 0]⟩] [] (w.alloc (.cells #[.bool false,.slice none 0 0,.slice none 0 0] 45)) :=
   ((BS.start w).alloc (p:=w.heap.size) rfl 45 [.bool false,.slice none 0 0,.slice none 0 0] rfl)
 rw [← hW0] at hbs
 have HW0:=qH hW0
 have HN:=qH hbs
 clear hW0 hbs
 go_enter Tryz.func33,Tryz.ntmps33
 go_upto_region 3 with fail
 rw [← HW0.out]
 go_cut [5,6,7] (fun v5 v6 v7 wx=>∃ p5 p6 a5 c5 ar cr,v5=.pointer (some ⟨p5,0,none⟩)∧v6=.pointer (some ⟨p6,0,none⟩)∧v7=.slice ar (n - 1) cr∧(∀ W,Below w.heap.size w W→BytesN W (.slice ar (n - 1) cr) r)∧BS w [⟨w.heap.size,45,[.bool false,.slice none 0 0,.slice none 0 0]⟩,⟨p5,41,[.slice a5 (lenW 1) c5]⟩,⟨p6,41,[.slice none 0 0]⟩] [⟨a5,c5,1⟩] wx)
 case first =>
  by_cases hc1:c=1
  case' pos =>
   subst hc1
   obtain rfl:n=1:=by omega
   have HR1:=qH (HRR.out.1 rfl)
  case' neg=>have HR1:=qH (HRR.out.2 hc1)
  all_goals
   clear HRR
   replace HN:=qH HN.out.drew
   refine wp_region_held_drew (S:=fun W=>True) (by kernel_rfl) (trivial) (fun hHeld=>?_)
   generalize W0.drew=wd at HN hHeld ⊢
   refine tm 2 (some 19) ?_
   refine tm 3 (some 20) ?_
   refine tm 4 (some 21) ?_
   have tg:=Mk.mk (v:=0) (d:=0)
   iterate 6
    all_goals first
    | refine qz3 0 tg 0 0 1 5 1 2 6 2 3 ?_ ?_ ?_
    | refine qz3 1 tg 1 3 4 5 1 5 6 2 6 ?_ ?_ ?_
    | refine qz2 2 tg 0 4 5 6 2 7 ?_ ?_
    | refine qz2 3 tg 0 4 6 5 5 7 ?_ ?_
    | refine qz2 4 tg 5 1 8 6 2 9 ?_ ?_
    | refine qz2 5 tg 1 3 8 6 2 10 ?_ ?_
    | refine qz2 6 tg 1 3 9 5 6 10 ?_ ?_
    | refine qz1 7 tg 0 4 10 ?_
    | refine qz1 8 tg 6 2 11 ?_
    | refine qz1 9 tg 5 6 11 ?_
    | refine qz1 10 tg 1 3 11 ?_
    | refine qz1 11 tg 7 7 12 ?_
    | refine qz1 12 tg 8 8 13 ?_
    all_goals intro K hK tg
    all_goals first
    |
     have _:Mk 0 _:=tg
     go_simp
     replace HN:=qH (HN.out.alloc (p:=wd.heap.size) rfl 164 [.int .u64 1] rfl)
     generalize wd.heap.size=p0_ at HN ⊢
     generalize wd.alloc (.cells #[.int .u64 1] 164)=wd at HN  ⊢
    |
     have _:Mk 1 _:=tg
     go_simp
     replace HN:=qH (HN.out.alloc (p:=wd.heap.size) rfl 41 [.slice none 0 0] rfl)
     generalize wd.heap.size=p5_ at HN ⊢
     generalize wd.alloc (.cells #[.slice none 0 0] 41)=wd at HN  ⊢
    |
     have _:Mk 2 _:=tg
     go_simp
     replace HN:=qH (HN.out.alloc (p:=wd.heap.size) rfl 41 [.slice none 0 0] rfl)
     generalize wd.heap.size=p6_ at HN ⊢
     generalize wd.alloc (.cells #[.slice none 0 0] 41)=wd at HN  ⊢
    |
     have _:Mk 3 _:=tg
     go_simp
     refine (HOF.out _ _ (HN.out.at 1 rfl)).mono ?_
     rintro e wd ⟨a5,c5,rfl,hq0,hb⟩
     replace HN:=qH ((HN.out.call hb).got hq0)
     clear hb hq0
     go_wp2_with fail
    |
     have _:Mk 4 _:=tg
     go_simp
     replace HN:=qH ((HN.out.alloc (p:=wd.heap.size) rfl 164 [.int .u64 1] rfl).ins 1)
     generalize wd.heap.size=p0_ at HN ⊢
     generalize wd.alloc (.cells #[.int .u64 1] 164)=wd at HN  ⊢
    |
     have _:Mk 5 _:=tg
     go_simp
     replace HN:=qH ((HN.out.alloc (p:=wd.heap.size) rfl 41 [.slice none 0 0] rfl).ins 1)
     generalize wd.heap.size=p5_ at HN ⊢
     generalize wd.alloc (.cells #[.slice none 0 0] 41)=wd at HN  ⊢
    |
     have _:Mk 6 _:=tg
     go_simp
     replace HN:=qH ((HN.out.alloc (p:=wd.heap.size) rfl 41 [.slice none 0 0] rfl).ins 2)
     generalize wd.heap.size=p5_ at HN ⊢
     generalize wd.alloc (.cells #[.slice none 0 0] 41)=wd at HN  ⊢
    |
     have _:Mk 7 _:=tg
     have hc0:=HN.out.cell 2 0 rfl rfl
     have hf0:=HN.out.free 2 0 rfl
     go_simp
     clear hc0 hf0
     replace HN:=qH ((HN.out).set 2 0 rfl rfl (fun _=>by simp) (.slice a5 (lenW 1) c5))
     generalize (wd.setCell ⟨p5_,0,none⟩ (.slice a5 (lenW 1) c5))=wd at HN  ⊢
    |
     have _:Mk 8 _:=tg
     have hc0:=HN.out.cell 3 0 rfl rfl
     have hf0:=HN.out.free 3 0 rfl
     go_simp
     clear hc0 hf0
     replace HN:=qH ((HN.out).set 3 0 rfl rfl (fun _=>by simp) (.slice none 0 0))
     generalize (wd.setCell ⟨p6_,0,none⟩ (.slice none 0 0))=wd at HN  ⊢
    all_goals
     refine hK.out _ _ (trivial) (fun hHeld2=>?_)
     clear hK K hHeld
     rename _=>hHeld
     try simp only [Act.put,stB,stZ,stS]
    all_goals first
    |
     have _:Mk 8 _:=tg
     refine tm 9 (some 7) ?_
    | skip
   all_goals (refine wpAnyH_done (by kernel_rfl) ?_ _)
   all_goals
    go_wp2_with fail
    go_meet
    exact ⟨_,_,_,_,_,_,rfl,rfl,rfl,HR1.out,HN.out.pick3 0 2 3 rfl rfl rfl (by decide) (by decide) (by decide)⟩
 case rest =>
  obtain ⟨w1,rfl⟩:∃ w1:World,w1=wc:=⟨_,rfl⟩
  obtain ⟨p5,p6,ad,cd,ar,cr,rfl,rfl,rfl,hbr,hn0⟩:=hcut
  have HN:=qH hn0
  clear hn0
  have HBR:=qH hbr
  clear hbr
  have hcb:=HBC.out _ HN.out.bel
  have ⟨k00,f00,k01,f01,k02,f02⟩:=HN.out.cf3 0 rfl
  have ⟨k10,f10⟩:=HN.out.cf1 1 rfl
  have ⟨k20,f20⟩:=HN.out.cf1 2 rfl
  go_upto_block 0 with fail
  clear k00 f00 k01 f01 k02 f02 k10 f10 k20 f20
  clear hcb
  go_cut [7] (fun v7 wx=>TailR w t n r p5 p6 v7 wx)
  case first =>
   by_cases ht5:4<t
   ·
    skip
    have hcb:=HBC.out _ HN.out.bel
    have e0:((t:Int)==0)=false:=beq_eq_false_iff_ne.2 (by omega)
    have e1:((t:Int)==1)=false:=beq_eq_false_iff_ne.2 (by omega)
    have e2:((t:Int)==2)=false:=beq_eq_false_iff_ne.2 (by omega)
    have e3:((t:Int)==3)=false:=beq_eq_false_iff_ne.2 (by omega)
    have e4:((t:Int)==4)=false:=beq_eq_false_iff_ne.2 (by omega)
    have ⟨k00,f00,k01,f01,k02,f02⟩:=HN.out.cf3 0 rfl
    have ⟨k10,f10⟩:=HN.out.cf1 1 rfl
    have ⟨k20,f20⟩:=HN.out.cf1 2 rfl
    have HE:=qH ((((HN.out).set 0 0 rfl rfl (fun _=>by simp) (.bool false)).set 0 1 rfl rfl (fun _=>by simp) (.slice none 0 0)).set 0 2 rfl rfl (fun _=>by simp) (.slice none 0 0))
    have ⟨j0_0,j1_0,j2_0⟩:=HE.out.cg3 0 rfl
    go_wp2_with fail
    refine bodyPost_ret (v:=.tuple #[.agg #[.bool false,.slice none 0 0,.slice none 0 0],.int .i64 0,eE 91]) (by simp [results,Tryz.results33,go_sem,j0_0,j1_0,j2_0,k00,k01,k02,k10,k20,eE]) rfl ?_
    rw [← HRES.out,dec_far (by omega)]
    exact ⟨_,rfl,rfl,HE.out.bel⟩
   ·
    rcases (show t=0∨(t=1∨t=2)∨(t=3∨t=4) by omega) with ht0 | ht0 | ht0
    ·
     skip
     subst ht0
     obtain ⟨n1,hn1⟩:∃ n1,n - 1=n1:=⟨_,rfl⟩
     rw [hn1] at HBR ⊢
     have hnr:=HNR.out
     have hat:(n:Int) - (n1:Int)=1:=by omega
     have hrl:n1=r.length:=by omega
     have HTL:=qH (Tl.of (t:=0) (n:=n) (d:=1) (p:=0) (m:=n1) (r3:=r) (by omega) (by omega) (by rw [lenW_pos1];omega) (by rw [lenW_zero];omega) (fun _=>rfl) HNR.out hrl.symm (by omega) (dec_none r))
     have hcb:=HBC.out _ HN.out.bel
     clear hnr hrl
     have ⟨k00,f00,k01,f01,k02,f02⟩:=HN.out.cf3 0 rfl
     have ⟨k10,f10⟩:=HN.out.cf1 1 rfl
     have ⟨k20,f20⟩:=HN.out.cf1 2 rfl
     go_wp2_with fail
     clear k00 f00 k01 f01 k02 f02 k10 f10 k20 f20
     go_meet
     exact TailR.intro (w:=w) (p5:=p5) (p6:=p6) (d:=1) (p:=0) (m:=n1) (ad:=ad) (cd:=cd) (an:=none) (cn:=0) HTL.out (by rw [lenW_zero];exact HN.out.got (NatW.zero _))
    ·
     skip
     have q0:((t:Int)==0)=false:=beq_eq_false_iff_ne.2 (by omega)
     by_cases ht1:t=1
     case' pos=>have q1:((t:Int)==1)=true:=beq_iff_eq.2 (by omega)
     case' neg =>
      have q1:((t:Int)==1)=false:=beq_eq_false_iff_ne.2 (by omega)
      have q2:((t:Int)==2)=true:=beq_iff_eq.2 (by omega)
     all_goals
      clear ht1
      obtain ⟨n1,hn1⟩:∃ n1,n - 1=n1:=⟨_,rfl⟩
      rw [hn1] at HBR ⊢
      have hnr:=HNR.out
      have hat:(n:Int) - (n1:Int)=1:=by omega
      have hrl:n1=r.length:=by omega
      have hcb:=HBC.out _ HN.out.bel
      cases hT:takeB r with
      | error e0 =>
       have HTK:=qH (fun (W:World) (hb:Below w.heap.size w W)=>(by have h9:=ptk_any ar n1 cr r W (R:=fun W=>Below w.heap.size w W) HBR.out hb HR8.out (by omega);rw [hT] at h9;exact h9:Calls Tryz.prog 86 #[.slice ar n1 cr] W fun e w'=>e=.returned (.tuple #[.agg #[.slice none 0 0],.slice none 0 0,.iface 52 (.int .i64 e0)])∧Below W.heap.size W w'))
       have HDN:=qH (show decR (t::r)=.error ⟨e0,some (sNum,1)⟩ by rw [dec_num (d:=1) (r2:=r) (by omega) (by omega) (if_neg (by omega)) hT,show (((t::r).length - r.length:Nat):Int)=1 by simp only [List.length_cons];omega])
       have HWR:=qH (fun (n:Int) (s:ByteArray) (k:Int) (W:World)=>wrap_at n s k W)
       clear hT hnr hrl
       have ⟨k00,f00,k01,f01,k02,f02⟩:=HN.out.cf3 0 rfl
       have ⟨k10,f10⟩:=HN.out.cf1 1 rfl
       have ⟨k20,f20⟩:=HN.out.cf1 2 rfl
       go_wp2_with fail
       clear k00 f00 k01 f01 k02 f02 k10 f10 k20 f20
       refine (HTK.out w1 HN.out.bel).mono ?_
       rintro e w2 ⟨rfl,hb⟩
       replace HN:=qH (HN.out.call hb)
       clear hb
       have ⟨k00,f00,k01,f01,k02,f02⟩:=HN.out.cf3 0 rfl
       have l0:=HN.out.lt 0 rfl
       have ⟨k10,f10⟩:=HN.out.cf1 1 rfl
       have l1:=HN.out.lt 1 rfl
       have ⟨k20,f20⟩:=HN.out.cf1 2 rfl
       have l2:=HN.out.lt 2 rfl
       have HP:=qH HN.out
       have ⟨k00p,f00p,k01p,f01p,k02p,f02p⟩:=HP.out.cf3 0 rfl
       have ⟨k10p,f10p⟩:=HP.out.cf1 1 rfl
       have ⟨k20p,f20p⟩:=HP.out.cf1 2 rfl
       go_wp2_with fail
       replace HP:=qH ((HP.out).set 2 0 rfl rfl (fun _=>by simp) (.slice none 0 0))
       clear k00 f00 k01 f01 k02 f02 l0 k10 f10 l1 k20 f20 l2 k00p f00p k01p f01p k02p f02p k10p f10p k20p f20p HN
       have HN:=HP
       clear HP
       generalize (w2.setCell ⟨p6,0,none⟩ (.slice none 0 0))=wa3 at HN  ⊢
       have HLT:=qH (HN.out.lt 0 rfl)
       refine (HWR.out e0 ⟨#[110,117,109,98,101,114]⟩ (1) wa3).mono ?_
       rintro e w4 ⟨pb,rfl,hpb,hf,hb⟩
       replace HN:=qH (HN.out.call hb)
       have HF:=qH hf
       have HPB:=qH hpb
       clear hb hf hpb
       have ⟨k00,f00,k01,f01,k02,f02⟩:=HN.out.cf3 0 rfl
       have ⟨k10,f10⟩:=HN.out.cf1 1 rfl
       have ⟨k20,f20⟩:=HN.out.cf1 2 rfl
       have HE:=qH ((((HN.out).set 0 0 rfl rfl (fun _=>by simp) (.bool false)).set 0 1 rfl rfl (fun _=>by simp) (.slice none 0 0)).set 0 2 rfl rfl (fun _=>by simp) (.slice none 0 0))
       have ⟨j0_0,j1_0,j2_0⟩:=HE.out.cg3 0 rfl
       go_wp2_with fail
       refine bodyPost_ret (v:=.tuple #[.agg #[.bool false,.slice none 0 0,.slice none 0 0],.int .i64 0,eF pb]) (by simp [results,Tryz.results33,go_sem,j0_0,j1_0,j2_0,k00,k01,k02,k10,k20]) rfl ?_
       rw [← HRES.out,HDN.out]
       exact ⟨_,rfl,⟨pb,rfl,HF.out.keeps (set3k _ _ _ _ _) (by have:=HPB.out;have:=HLT.out;omega)⟩,HE.out.bel⟩
      | ok x =>
       obtain ⟨p,r3⟩:=x
       obtain ⟨l3,hl3⟩:∃ l3,r3.length=l3:=⟨_,rfl⟩
       obtain ⟨hp0,hpw⟩:=ptk_small HR8.out hT
       have hltl:=take_length hT
       have HTK:=qH (fun (W:World) (hb:Below w.heap.size w W)=>(by have h9:=ptk_any ar n1 cr r W (R:=fun W=>Below w.heap.size w W) HBR.out hb HR8.out (by omega);rw [hT] at h9;unfold RetT9 at h9;simp only [hl3] at h9;exact h9:Calls Tryz.prog 86 #[.slice ar n1 cr] W fun e w'=>∃ a2 c2 a3 c3,e=.returned (.tuple #[.agg #[.slice a2 (lenW p) c2],.slice a3 l3 c3,.nilIface])∧NatW w' a2 c2 p∧(∀ W,Below w.heap.size w W→BytesN W (.slice a3 l3 c3) r3)∧Below W.heap.size W w'))
       have HTL:=qH (Tl.of (t:=t) (n:=n) (d:=1) (p:=p) (m:=l3) (r3:=r3) (by omega) (by omega) (by rw [lenW_pos1];omega) hpw (by omega) HNR.out hl3 (by omega) (dec_end (t:=t) (d:=1) (r2:=r) (by omega) (by omega) (if_neg (by omega)) hT))
       clear hT hnr hrl hp0 hltl hl3
       have ⟨k00,f00,k01,f01,k02,f02⟩:=HN.out.cf3 0 rfl
       have ⟨k10,f10⟩:=HN.out.cf1 1 rfl
       have ⟨k20,f20⟩:=HN.out.cf1 2 rfl
       go_wp2_with fail
       clear k00 f00 k01 f01 k02 f02 k10 f10 k20 f20
       refine (HTK.out w1 HN.out.bel).mono ?_
       rintro e w2 ⟨an,cn,ar3,cr3,rfl,hq0,hby,hb⟩
       replace HN:=qH ((HN.out.call hb).got hq0)
       clear hb hq0 hby hcb
       have ⟨k00,f00,k01,f01,k02,f02⟩:=HN.out.cf3 0 rfl
       have l0:=HN.out.lt 0 rfl
       have ⟨k10,f10⟩:=HN.out.cf1 1 rfl
       have l1:=HN.out.lt 1 rfl
       have ⟨k20,f20⟩:=HN.out.cf1 2 rfl
       have l2:=HN.out.lt 2 rfl
       have HP:=qH HN.out
       have ⟨k00p,f00p,k01p,f01p,k02p,f02p⟩:=HP.out.cf3 0 rfl
       have ⟨k10p,f10p⟩:=HP.out.cf1 1 rfl
       have ⟨k20p,f20p⟩:=HP.out.cf1 2 rfl
       go_wp2_with fail
       replace HP:=qH ((HP.out).set 2 0 rfl rfl (fun _=>by simp) (.slice an (lenW p) cn))
       clear k00 f00 k01 f01 k02 f02 l0 k10 f10 l1 k20 f20 l2 k00p f00p k01p f01p k02p f02p k10p f10p k20p f20p HN
       have HN:=HP
       clear HP
       generalize (w2.setCell ⟨p6,0,none⟩ (.slice an (lenW p) cn))=wa3 at HN  ⊢
       go_meet
       exact TailR.intro (w:=w) (p5:=p5) (p6:=p6) (d:=1) (p:=p) (m:=l3) (ad:=ad) (cd:=cd) (an:=an) (cn:=cn) HTL.out (HN.out.only (List.Sublist.refl _) (fun z hz=>by
        simp only [List.mem_cons,List.not_mem_nil,or_false] at hz
        rcases hz with rfl | rfl <;> simp))
    ·
     skip
     have q0:((t:Int)==0)=false:=beq_eq_false_iff_ne.2 (by omega)
     have q1:((t:Int)==1)=false:=beq_eq_false_iff_ne.2 (by omega)
     have q2:((t:Int)==2)=false:=beq_eq_false_iff_ne.2 (by omega)
     by_cases ht1:t=3
     case' pos=>have q3:((t:Int)==3)=true:=beq_iff_eq.2 (by omega)
     case' neg =>
      have q3:((t:Int)==3)=false:=beq_eq_false_iff_ne.2 (by omega)
      have q4:((t:Int)==4)=true:=beq_iff_eq.2 (by omega)
     all_goals
      clear ht1
      obtain ⟨n1,hn1⟩:∃ n1,n - 1=n1:=⟨_,rfl⟩
      rw [hn1] at HBR ⊢
      have hnr:=HNR.out
      have hrl:n1=r.length:=by omega
      have hcb:=HBC.out _ HN.out.bel
      cases hT:takeB r with
      | error e0 =>
       have HTK:=qH (fun (W:World) (hb:Below w.heap.size w W)=>(by have h9:=ptk_any ar n1 cr r W (R:=fun W=>Below w.heap.size w W) HBR.out hb HR8.out (by omega);rw [hT] at h9;exact h9:Calls Tryz.prog 86 #[.slice ar n1 cr] W fun e w'=>e=.returned (.tuple #[.agg #[.slice none 0 0],.slice none 0 0,.iface 52 (.int .i64 e0)])∧Below W.heap.size W w'))
       have HDN:=qH (dec_den (t:=t) (by omega) (by omega) hT)
       have HWR:=qH (fun (n:Int) (s:ByteArray) (k:Int) (W:World)=>wrap_at n s k W)
       clear hT hnr hrl
       have ⟨k00,f00,k01,f01,k02,f02⟩:=HN.out.cf3 0 rfl
       have ⟨k10,f10⟩:=HN.out.cf1 1 rfl
       have ⟨k20,f20⟩:=HN.out.cf1 2 rfl
       go_wp2_with fail
       clear k00 f00 k01 f01 k02 f02 k10 f10 k20 f20
       refine (HTK.out w1 HN.out.bel).mono ?_
       rintro e w2 ⟨rfl,hb⟩
       replace HN:=qH (HN.out.call hb)
       clear hb
       have ⟨k00,f00,k01,f01,k02,f02⟩:=HN.out.cf3 0 rfl
       have l0:=HN.out.lt 0 rfl
       have ⟨k10,f10⟩:=HN.out.cf1 1 rfl
       have l1:=HN.out.lt 1 rfl
       have ⟨k20,f20⟩:=HN.out.cf1 2 rfl
       have l2:=HN.out.lt 2 rfl
       have HP:=qH HN.out
       have ⟨k00p,f00p,k01p,f01p,k02p,f02p⟩:=HP.out.cf3 0 rfl
       have ⟨k10p,f10p⟩:=HP.out.cf1 1 rfl
       have ⟨k20p,f20p⟩:=HP.out.cf1 2 rfl
       go_wp2_with fail
       replace HP:=qH ((HP.out).set 1 0 rfl rfl (fun _=>by simp) (.slice none 0 0))
       clear k00 f00 k01 f01 k02 f02 l0 k10 f10 l1 k20 f20 l2 k00p f00p k01p f01p k02p f02p k10p f10p k20p f20p HN
       have HN:=HP
       clear HP
       generalize (w2.setCell ⟨p5,0,none⟩ (.slice none 0 0))=wa3 at HN  ⊢
       have HLT:=qH (HN.out.lt 0 rfl)
       refine (HWR.out e0 ⟨#[100,105,118,105,115,111,114]⟩ (1) wa3).mono ?_
       rintro e w4 ⟨pb,rfl,hpb,hf,hb⟩
       replace HN:=qH (HN.out.call hb)
       have HF:=qH hf
       have HPB:=qH hpb
       clear hb hf hpb
       have ⟨k00,f00,k01,f01,k02,f02⟩:=HN.out.cf3 0 rfl
       have ⟨k10,f10⟩:=HN.out.cf1 1 rfl
       have ⟨k20,f20⟩:=HN.out.cf1 2 rfl
       have HE:=qH ((((HN.out).set 0 0 rfl rfl (fun _=>by simp) (.bool false)).set 0 1 rfl rfl (fun _=>by simp) (.slice none 0 0)).set 0 2 rfl rfl (fun _=>by simp) (.slice none 0 0))
       have ⟨j0_0,j1_0,j2_0⟩:=HE.out.cg3 0 rfl
       go_wp2_with fail
       refine bodyPost_ret (v:=.tuple #[.agg #[.bool false,.slice none 0 0,.slice none 0 0],.int .i64 0,eF pb]) (by simp [results,Tryz.results33,go_sem,j0_0,j1_0,j2_0,k00,k01,k02,k10,k20]) rfl ?_
       rw [← HRES.out,HDN.out]
       exact ⟨_,rfl,⟨pb,rfl,HF.out.keeps (set3k _ _ _ _ _) (by have:=HPB.out;have:=HLT.out;omega)⟩,HE.out.bel⟩
      | ok x =>
       obtain ⟨d,r2⟩:=x
       obtain ⟨m2,hl3⟩:∃ m2,r2.length=m2:=⟨_,rfl⟩
       obtain ⟨hd0,hdw⟩:=ptk_small HR8.out hT
       have hltl:=take_length hT
       obtain ⟨hpx,lp,hpy,hrr,hpz⟩:=part_take HR8.out hT
       have HR82:=qH (fun y (hy:y∈r2)=>HR8.out y (by rw [hrr];exact List.mem_append_right _ hy))
       have HTK:=qH (fun (W:World) (hb:Below w.heap.size w W)=>(by have h9:=ptk_any ar n1 cr r W (R:=fun W=>Below w.heap.size w W) HBR.out hb HR8.out (by omega);rw [hT] at h9;unfold RetT9 at h9;simp only [hl3] at h9;exact h9:Calls Tryz.prog 86 #[.slice ar n1 cr] W fun e w'=>∃ a2 c2 a3 c3,e=.returned (.tuple #[.agg #[.slice a2 (lenW d) c2],.slice a3 m2 c3,.nilIface])∧NatW w' a2 c2 d∧(∀ W,Below w.heap.size w W→BytesN W (.slice a3 m2 c3) r2)∧Below W.heap.size W w'))
       have hTD:(if 3≤t then takeB r else .ok (1,r))=.ok (d,r2):=by rw [if_pos (by omega)];exact hT
       have HTD:=qH hTD
       have hl2n:(0:Int)≤(n:Int) - (m2:Int):=by omega
       have hl2m:m2≤n:=by omega
       have HL2:=qH hl3
       clear hT hTD hrl hltl hl3 hrr hpx hpy hpz lp hnr
       have ⟨k00,f00,k01,f01,k02,f02⟩:=HN.out.cf3 0 rfl
       have ⟨k10,f10⟩:=HN.out.cf1 1 rfl
       have ⟨k20,f20⟩:=HN.out.cf1 2 rfl
       go_wp2_with fail
       clear k00 f00 k01 f01 k02 f02 k10 f10 k20 f20
       refine (HTK.out w1 HN.out.bel).mono ?_
       rintro e w2 ⟨ad,cd,ar2,cr2,rfl,hq0,hby,hb⟩
       replace HN:=qH ((HN.out.call hb).got hq0)
       have HBY:=qH hby
       clear hb hq0 hby hcb HTK
       cases hT:takeB r2 with
       | error e0 =>
        have HTK:=qH (fun (W:World) (hb:Below w.heap.size w W)=>(by have h9:=ptk_any ar2 m2 cr2 r2 W (R:=fun W=>Below w.heap.size w W) HBY.out hb HR82.out (by omega);rw [hT] at h9;exact h9:Calls Tryz.prog 86 #[.slice ar2 m2 cr2] W fun e w'=>e=.returned (.tuple #[.agg #[.slice none 0 0],.slice none 0 0,.iface 52 (.int .i64 e0)])∧Below W.heap.size W w'))
        have HDN:=qH (show decR (t::r)=.error ⟨e0,some (sNum,(n:Int) - (m2:Int))⟩ by rw [dec_num (r2:=r2) (by omega) (by omega) HTD.out hT,show (((t::r).length - r2.length:Nat):Int)=(n:Int) - (m2:Int) by rw [HL2.out];simp only [List.length_cons];have:=HNR.out;omega])
        have HWR:=qH (fun (n:Int) (s:ByteArray) (k:Int) (W:World)=>wrap_at n s k W)
        clear hT
        have ⟨k00,f00,k01,f01,k02,f02⟩:=HN.out.cf3 0 rfl
        have l0:=HN.out.lt 0 rfl
        have ⟨k10,f10⟩:=HN.out.cf1 1 rfl
        have l1:=HN.out.lt 1 rfl
        have ⟨k20,f20⟩:=HN.out.cf1 2 rfl
        have l2:=HN.out.lt 2 rfl
        have HP:=qH HN.out
        have ⟨k00p,f00p,k01p,f01p,k02p,f02p⟩:=HP.out.cf3 0 rfl
        have ⟨k10p,f10p⟩:=HP.out.cf1 1 rfl
        have ⟨k20p,f20p⟩:=HP.out.cf1 2 rfl
        go_wp2_with fail
        replace HP:=qH ((HP.out).set 1 0 rfl rfl (fun _=>by simp) (.slice ad (lenW d) cd))
        clear k00 f00 k01 f01 k02 f02 l0 k10 f10 l1 k20 f20 l2 k00p f00p k01p f01p k02p f02p k10p f10p k20p f20p HN
        have HN:=HP
        clear HP
        generalize (w2.setCell ⟨p5,0,none⟩ (.slice ad (lenW d) cd))=wa3 at HN  ⊢
        refine (HTK.out _ HN.out.bel).mono ?_
        rintro e w4 ⟨rfl,hb⟩
        replace HN:=qH (HN.out.call hb)
        clear hb
        have ⟨k00,f00,k01,f01,k02,f02⟩:=HN.out.cf3 0 rfl
        have l0:=HN.out.lt 0 rfl
        have ⟨k10,f10⟩:=HN.out.cf1 1 rfl
        have l1:=HN.out.lt 1 rfl
        have ⟨k20,f20⟩:=HN.out.cf1 2 rfl
        have l2:=HN.out.lt 2 rfl
        have HP:=qH HN.out
        have ⟨k00p,f00p,k01p,f01p,k02p,f02p⟩:=HP.out.cf3 0 rfl
        have ⟨k10p,f10p⟩:=HP.out.cf1 1 rfl
        have ⟨k20p,f20p⟩:=HP.out.cf1 2 rfl
        go_wp2_with fail
        replace HP:=qH ((HP.out).set 2 0 rfl rfl (fun _=>by simp) (.slice none 0 0))
        clear k00 f00 k01 f01 k02 f02 l0 k10 f10 l1 k20 f20 l2 k00p f00p k01p f01p k02p f02p k10p f10p k20p f20p HN
        have HN:=HP
        clear HP
        generalize (w4.setCell ⟨p6,0,none⟩ (.slice none 0 0))=wa5 at HN  ⊢
        have HLT:=qH (HN.out.lt 0 rfl)
        refine (HWR.out e0 ⟨#[110,117,109,98,101,114]⟩ ((n:Int) - (m2:Int)) wa5).mono ?_
        rintro e w6 ⟨pb,rfl,hpb,hf,hb⟩
        replace HN:=qH (HN.out.call hb)
        have HF:=qH hf
        have HPB:=qH hpb
        clear hb hf hpb
        have ⟨k00,f00,k01,f01,k02,f02⟩:=HN.out.cf3 0 rfl
        have ⟨k10,f10⟩:=HN.out.cf1 1 rfl
        have ⟨k20,f20⟩:=HN.out.cf1 2 rfl
        have HE:=qH ((((HN.out).set 0 0 rfl rfl (fun _=>by simp) (.bool false)).set 0 1 rfl rfl (fun _=>by simp) (.slice none 0 0)).set 0 2 rfl rfl (fun _=>by simp) (.slice none 0 0))
        have ⟨j0_0,j1_0,j2_0⟩:=HE.out.cg3 0 rfl
        go_wp2_with fail
        refine bodyPost_ret (v:=.tuple #[.agg #[.bool false,.slice none 0 0,.slice none 0 0],.int .i64 0,eF pb]) (by simp [results,Tryz.results33,go_sem,j0_0,j1_0,j2_0,k00,k01,k02,k10,k20]) rfl ?_
        rw [← HRES.out,HDN.out]
        exact ⟨_,rfl,⟨pb,rfl,HF.out.keeps (set3k _ _ _ _ _) (by have:=HPB.out;have:=HLT.out;omega)⟩,HE.out.bel⟩
       | ok x =>
        obtain ⟨p,r3⟩:=x
        obtain ⟨m3,hl3⟩:∃ m3,r3.length=m3:=⟨_,rfl⟩
        obtain ⟨hp0,hpw⟩:=ptk_small HR82.out hT
        have hltl:=take_length hT
        rw [HL2.out] at hltl
        have HTK:=qH (fun (W:World) (hb:Below w.heap.size w W)=>(by have h9:=ptk_any ar2 m2 cr2 r2 W (R:=fun W=>Below w.heap.size w W) HBY.out hb HR82.out (by omega);rw [hT] at h9;unfold RetT9 at h9;simp only [hl3] at h9;exact h9:Calls Tryz.prog 86 #[.slice ar2 m2 cr2] W fun e w'=>∃ a2 c2 a3 c3,e=.returned (.tuple #[.agg #[.slice a2 (lenW p) c2],.slice a3 m3 c3,.nilIface])∧NatW w' a2 c2 p∧(∀ W,Below w.heap.size w W→BytesN W (.slice a3 m3 c3) r3)∧Below W.heap.size W w'))
        have HTL:=qH (Tl.of (t:=t) (n:=n) (d:=d) (p:=p) (m:=m3) (r3:=r3) (by omega) hd0 hdw hpw (by omega) HNR.out hl3 (by omega) (dec_end (t:=t) (by omega) (by omega) HTD.out hT))
        clear hT hp0 hltl hl3
        have ⟨k00,f00,k01,f01,k02,f02⟩:=HN.out.cf3 0 rfl
        have l0:=HN.out.lt 0 rfl
        have ⟨k10,f10⟩:=HN.out.cf1 1 rfl
        have l1:=HN.out.lt 1 rfl
        have ⟨k20,f20⟩:=HN.out.cf1 2 rfl
        have l2:=HN.out.lt 2 rfl
        have HP:=qH HN.out
        have ⟨k00p,f00p,k01p,f01p,k02p,f02p⟩:=HP.out.cf3 0 rfl
        have ⟨k10p,f10p⟩:=HP.out.cf1 1 rfl
        have ⟨k20p,f20p⟩:=HP.out.cf1 2 rfl
        go_wp2_with fail
        replace HP:=qH ((HP.out).set 1 0 rfl rfl (fun _=>by simp) (.slice ad (lenW d) cd))
        clear k00 f00 k01 f01 k02 f02 l0 k10 f10 l1 k20 f20 l2 k00p f00p k01p f01p k02p f02p k10p f10p k20p f20p HN
        have HN:=HP
        clear HP
        generalize (w2.setCell ⟨p5,0,none⟩ (.slice ad (lenW d) cd))=wa3 at HN  ⊢
        refine (HTK.out _ HN.out.bel).mono ?_
        rintro e w4 ⟨an,cn,ar3,cr3,rfl,hq0,hby,hb⟩
        replace HN:=qH ((HN.out.call hb).got hq0)
        clear hb hq0 hby
        have ⟨k00,f00,k01,f01,k02,f02⟩:=HN.out.cf3 0 rfl
        have l0:=HN.out.lt 0 rfl
        have ⟨k10,f10⟩:=HN.out.cf1 1 rfl
        have l1:=HN.out.lt 1 rfl
        have ⟨k20,f20⟩:=HN.out.cf1 2 rfl
        have l2:=HN.out.lt 2 rfl
        have HP:=qH HN.out
        have ⟨k00p,f00p,k01p,f01p,k02p,f02p⟩:=HP.out.cf3 0 rfl
        have ⟨k10p,f10p⟩:=HP.out.cf1 1 rfl
        have ⟨k20p,f20p⟩:=HP.out.cf1 2 rfl
        go_wp2_with fail
        replace HP:=qH ((HP.out).set 2 0 rfl rfl (fun _=>by simp) (.slice an (lenW p) cn))
        clear k00 f00 k01 f01 k02 f02 l0 k10 f10 l1 k20 f20 l2 k00p f00p k01p f01p k02p f02p k10p f10p k20p f20p HN
        have HN:=HP
        clear HP
        generalize (w4.setCell ⟨p6,0,none⟩ (.slice an (lenW p) cn))=wa5 at HN  ⊢
        go_meet
        exact TailR.intro (w:=w) (p5:=p5) (p6:=p6) (d:=d) (p:=p) (m:=m3) (ad:=ad) (cd:=cd) (an:=an) (cn:=cn) HTL.out (HN.out.only (List.Sublist.refl _) (fun z hz=>by
         simp only [List.mem_cons,List.not_mem_nil,or_false] at hz
         rcases hz with rfl | rfl <;> simp))
  case rest =>
   obtain ⟨d,p,m,an,cn,ad,cd,ar2,cr2,rfl,hT,hn1⟩:=hcut.out
   obtain ⟨w2,hwc⟩:∃ w2:World,w2=wc:=⟨_,rfl⟩
   subst hwc
   have HN:=qH hn1
   clear hn1 hcut HR8 HBR
   obtain ⟨ht4,hd0,hdw,hpw,hp0,hmn,hres⟩:=hT
   have HEND:=qH hres
   have HLEN:=qH (show ((n - m:Nat):Int)=(n:Int) - (m:Int) by omega)
   have hl3n:(0:Int)≤(n:Int) - (m:Int):=by omega
   obtain ⟨z,hz⟩:∃ z,sgnI t p=z:=⟨_,rfl⟩
   have hza:z.natAbs=p:=by rw [← hz,sgnI_abs]
   have hI1:=fun (sg:Bool) (hsg:newI sg p=z) (W:World) (h:NatW W an cn p)=>(hsg▸inew_any sg an cn p W h:Calls Tryz.prog 72 #[.bool sg,.agg #[.slice an (lenW p) cn]] W (RetI z W))
   have hS2:t=2→newI true p=z:=fun h=>by rw [← hz,h];exact newI_sgn 2 p (by omega) (by omega)
   have hS4:t≠2→newI ((t:Int)==4) p=z:=fun h=>by
    have h9:=newI_sgn t p ht4 hp0
    rw [show (t==2)=false from beq_eq_false_iff_ne.2 h,Bool.false_or] at h9
    rw [← hz,← h9]
    congr 1
    rw [Bool.eq_iff_iff];simp;omega
   have hI2:=fun (W:World) (h:NatW W ad cd d)=>(newI_false d▸inew_any false ad cd d W h:Calls Tryz.prog 72 #[.bool false,.agg #[.slice ad (lenW d) cd]] W (RetI (d:Int) W))
   have hRN:=fun (a2 a3:Option Addr) (c2 c3:Nat) (W:World) (q1:NatW W a2 c2 z.natAbs) (q2:NatW W a3 c3 (d:Int).natAbs)=>rnew_any (Nat.le_refl 4398046511104) div_upto z (d:Int) a2 a3 c2 c3 W q1 q2 (by rw [hza];exact hpw) (by rw [Int.natAbs_natCast];exact hdw) (by omega)
   obtain ⟨q,hq⟩:∃ q,Rat.divInt z (d:Int)=q:=⟨_,rfl⟩
   rw [hq] at hRN
   have hTG:=fun (a8 b9:Option Addr) (c8 d9:Nat) (W:World)=>tag_any a8 b9 c8 d9 q W
   have hDN:=fun (a8 b9:Option Addr) (c8 d9:Nat) (W:World) (h:NatW W b9 d9 (denN q.den))=>den_any (decide (q.num<0)) a8 b9 (lenW q.num.natAbs) c8 d9 q W h
   have hCM:=fun (a8:Option Addr) (c8:Nat) (W:World) (h:NatW W a8 c8 q.den) (h2:NatW W ad cd d)=>ncmp_any a8 ad c8 cd q.den d W h h2
   have HQ:=qH (show Rat.divInt (sgnI t p) (d:Int)=q by rw [hz];exact hq)
   obtain ⟨qs,hqs⟩:∃ y,decide (q.num<0)=y:=⟨_,rfl⟩
   obtain ⟨qn,hqn⟩:∃ y,q.num.natAbs=y:=⟨_,rfl⟩
   obtain ⟨qd,hqd⟩:∃ y,denN q.den=y:=⟨_,rfl⟩
   obtain ⟨zs,hzs⟩:∃ y,decide (z<0)=y:=⟨_,rfl⟩
   obtain ⟨zm,hzm⟩:∃ y,z.natAbs=y:=⟨_,rfl⟩
   obtain ⟨ds,hds⟩:∃ y,decide ((d:Int)<0)=y:=⟨_,rfl⟩
   obtain ⟨dm,hdm⟩:∃ y,(d:Int).natAbs=y:=⟨_,rfl⟩
   unfold RetI at hI1 hI2
   unfold RetRB ratV at hRN
   unfold ratV at hTG
   rw [hds,hdm] at hI2 hRN
   rw [hzs,hzm] at hI1 hRN
   rw [hqs,hqn,hqd] at hRN hTG hDN
   have HI1:=qH hI1
   have HI2:=qH hI2
   have HRN:=qH hRN
   have HTG:=qH hTG
   have HDN:=qH hDN
   have HCM:=qH hCM
   have HS2:=qH hS2
   have HS4:=qH hS4
   have HQV:=qH (And.intro hqs (And.intro hqn hqd))
   clear hI1 hI2 hRN hTG hDN hCM hqs hqn hqd hzs hzm hds hdm hq hz hza hS2 hS4 hres hp0 hpw hdw hd0
   have hcb:=HBC.out _ HN.out.bel
   have ⟨k00,f00,k01,f01,k02,f02⟩:=HN.out.cf3 0 rfl
   have ⟨k10,f10⟩:=HN.out.cf1 1 rfl
   have ⟨k20,f20⟩:=HN.out.cf1 2 rfl
   go_upto_region 19 with fail
   clear k00 f00 k01 f01 k02 f02 k10 f10 k20 f20
   clear hcb
   go_cut [10] (fun v10 wx=>∃ p10 a8 c8 b9 d9,v10=.pointer (some ⟨p10,0,none⟩)∧BS w [⟨w.heap.size,45,[.bool false,.slice none 0 0,.slice none 0 0]⟩,⟨p5,41,[.slice ad (lenW d) cd]⟩,⟨p10,45,[.bool qs,.slice a8 (lenW qn) c8,.slice b9 (lenW qd) d9]⟩] [⟨ad,cd,d⟩,⟨a8,c8,qn⟩,⟨b9,d9,qd⟩] wx)
   case first =>
    by_cases h2:t=2
    ·
     subst h2
     have HSG:=qH (HS2.out rfl)
     clear HS2 HS4
     replace HN:=qH HN.out.drew
     refine wp_region_held_drew (S:=fun W=>W.cell? ⟨p5,0,none⟩=some (.slice ad (lenW d) cd)∧W.cell? ⟨p6,0,none⟩=some (.slice an (lenW p) cn)∧W.cell? ⟨b,o,none⟩=some (.int .u8 2)) (by kernel_rfl) (⟨HN.out.cell 1 0 rfl rfl,HN.out.cell 2 0 rfl rfl,HBC.out _ HN.out.bel⟩) (fun hHeld=>?_)
     generalize w2.drew=wd at HN hHeld ⊢
     refine tm 0 (some 64) ?_
     refine tl 1 (some 65) ?_
     refine tl 2 (some 66) ?_
     refine tm 3 (some 67) ?_
     refine tm 4 (some 68) ?_
     refine takeH (i:=5) (d:=(some 69)) (v:=undef) rfl rfl (by kernel_rfl) (by kernel_rfl) (by kernel_rfl) (fun _ _ _ h=>h) (Or.inr ⟨by rfl,rfl⟩) (by assumption) ?_
     simp only [Act.put,stB,stZ,stS]
     refine takeH (i:=6) (d:=(some 70)) (v:=undef) rfl rfl (by kernel_rfl) (by kernel_rfl) (by kernel_rfl) (fun _ _ _ h=>h) (Or.inr ⟨by rfl,rfl⟩) (by assumption) ?_
     simp only [Act.put,stB,stZ,stS]
     refine takeH (i:=7) (d:=(some 71)) (v:=undef) rfl rfl (by kernel_rfl) (by kernel_rfl) (by kernel_rfl) (fun _ _ _ h=>h) (Or.inr ⟨by rfl,rfl⟩) (by assumption) ?_
     simp only [Act.put,stB,stZ,stS]
     refine takeH (i:=8) (d:=(some 72)) (v:=undef) rfl rfl (by kernel_rfl) (by kernel_rfl) (by kernel_rfl) (fun _ _ _ h=>h) (Or.inr ⟨by rfl,rfl⟩) (by assumption) ?_
     simp only [Act.put,stB,stZ,stS]
     refine tm 9 (some 73) ?_
     refine tl 10 (some 74) ?_
     refine tl 12 (some 76) ?_
     have tg:=Mk.mk (v:=0) (d:=0)
     iterate 5
      all_goals first
      | refine qz2 0 tg 11 0 1 18 1 2 ?_ ?_
      | refine qz2 1 tg 13 2 3 18 1 4 ?_ ?_
      | refine qz1 2 tg 11 0 4 ?_
      | refine qz2 3 tg 14 3 5 18 1 6 ?_ ?_
      | refine qz1 4 tg 13 2 6 ?_
      | refine qz1 5 tg 18 1 7 ?_
      | refine qz1 6 tg 14 3 7 ?_
      | refine qz1 7 tg 19 4 8 ?_
      all_goals intro K hK tg
      all_goals first
      |
       have _:Mk 0 _:=tg
       go_simp
       refine (HI1.out _ HSG.out _ (HN.out.nat 1 rfl)).mono ?_
       rintro e wd ⟨a2,c2,rfl,hq0,hb⟩
       replace HN:=qH ((HN.out.call hb).got hq0)
       clear hb hq0
       go_wp2_with fail
      |
       have _:Mk 1 _:=tg
       go_simp
       replace HN:=qH (HN.out.alloc (p:=wd.heap.size) rfl 45 [.bool false,.slice none 0 0,.slice none 0 0] rfl)
       generalize wd.heap.size=p18_ at HN ⊢
       generalize wd.alloc (.cells #[.bool false,.slice none 0 0,.slice none 0 0] 45)=wd at HN  ⊢
      |
       have _:Mk 2 _:=tg
       go_simp
       refine (HI2.out _ (HN.out.nat 0 rfl)).mono ?_
       rintro e wd ⟨a3,c3,rfl,hq0,hb⟩
       replace HN:=qH ((HN.out.call hb).got hq0)
       clear hb hq0
       go_wp2_with fail
      |
       have _:Mk 3 _:=tg
       go_simp
       refine (HRN.out _ _ _ _ _ (HN.out.nat 2 rfl) (HN.out.nat 3 rfl)).mono ?_
       rintro e wd ⟨a8,c8,b9,d9,rfl,hq0,hq1,hb⟩
       replace HN:=qH (((HN.out.call hb).got hq0).got hq1)
       clear hb hq0 hq1
       go_wp2_with fail
      |
       have _:Mk 4 _:=tg
       have hc0:=HN.out.cell 3 0 rfl rfl
       have hf0:=HN.out.free 3 0 rfl
       have hc1:=HN.out.cell 3 1 rfl rfl
       have hf1:=HN.out.free 3 1 rfl
       have hc2:=HN.out.cell 3 2 rfl rfl
       have hf2:=HN.out.free 3 2 rfl
       go_simp
       clear hc0 hf0 hc1 hf1 hc2 hf2
       replace HN:=qH ((((HN.out).set 3 0 rfl rfl (fun _=>by simp) (.bool qs)).set 3 1 rfl rfl (fun _=>by simp) (.slice a8 (lenW qn) c8)).set 3 2 rfl rfl (fun _=>by simp) (.slice b9 (lenW qd) d9))
       generalize (((wd.setCell ⟨p18_,0,none⟩ (.bool qs)).setCell ⟨p18_,1,none⟩ (.slice a8 (lenW qn) c8)).setCell ⟨p18_,2,none⟩ (.slice b9 (lenW qd) d9))=wd at HN  ⊢
      all_goals
       refine hK.out _ _ (⟨HN.out.cell 1 0 rfl rfl,HN.out.cell 2 0 rfl rfl,HBC.out _ HN.out.bel⟩) (fun hHeld2=>?_)
       clear hK K hHeld
       rename _=>hHeld
       try simp only [Act.put,stB,stZ,stS]
      all_goals first
      |
       have _:Mk 3 _:=tg
       refine tm 15 (some 63) ?_
       refine tm 16 (some 79) ?_
       refine tm 17 (some 80) ?_
      |
       have _:Mk 4 _:=tg
       refine tm 20 (some 11) ?_
      | skip
     all_goals (refine wpAnyH_done (by kernel_rfl) ?_ _)
     all_goals
      go_wp2_with fail
      go_meet
      exact ⟨_,_,_,_,_,rfl,(HN.out.pick3 0 1 3 rfl rfl rfl (by decide) (by decide) (by decide)).only (List.Sublist.refl _) (fun z hz=>by
       simp only [List.mem_cons,List.not_mem_nil,or_false] at hz
       rcases hz with rfl | rfl | rfl <;> simp)⟩
    ·
     have HSG:=qH (HS4.out h2)
     have e2:((t:Int)==2)=false:=beq_eq_false_iff_ne.2 (by omega)
     obtain ⟨sg,hsg⟩:∃ sg,((t:Int)==4)=sg:=⟨_,rfl⟩
     rw [hsg] at HSG
     clear HS2 HS4 h2
     replace HN:=qH HN.out.drew
     refine wp_region_held_drew (S:=fun W=>W.cell? ⟨p5,0,none⟩=some (.slice ad (lenW d) cd)∧W.cell? ⟨p6,0,none⟩=some (.slice an (lenW p) cn)∧W.cell? ⟨b,o,none⟩=some (.int .u8 t)) (by kernel_rfl) (⟨HN.out.cell 1 0 rfl rfl,HN.out.cell 2 0 rfl rfl,HBC.out _ HN.out.bel⟩) (fun hHeld=>?_)
     generalize w2.drew=wd at HN hHeld ⊢
     refine tm 0 (some 64) ?_
     refine tl 1 (some 65) ?_
     refine tl 2 (some 66) ?_
     refine tm 3 (some 67) ?_
     refine tm 4 (some 68) ?_
     refine tm 5 (some 69) ?_
     refine tl 6 (some 70) ?_
     refine tl 7 (some 71) ?_
     refine tm 8 (some 72) ?_
     refine tm 9 (some 73) ?_
     refine tl 10 (some 74) ?_
     refine tl 12 (some 76) ?_
     have tg:=Mk.mk (v:=0) (d:=0)
     iterate 5
      all_goals first
      | refine qz2 0 tg 11 0 1 18 1 2 ?_ ?_
      | refine qz2 1 tg 13 2 3 18 1 4 ?_ ?_
      | refine qz1 2 tg 11 0 4 ?_
      | refine qz2 3 tg 14 3 5 18 1 6 ?_ ?_
      | refine qz1 4 tg 13 2 6 ?_
      | refine qz1 5 tg 18 1 7 ?_
      | refine qz1 6 tg 14 3 7 ?_
      | refine qz1 7 tg 19 4 8 ?_
      all_goals intro K hK tg
      all_goals first
      |
       have _:Mk 0 _:=tg
       go_simp
       refine (HI1.out _ HSG.out _ (HN.out.nat 1 rfl)).mono ?_
       rintro e wd ⟨a2,c2,rfl,hq0,hb⟩
       replace HN:=qH ((HN.out.call hb).got hq0)
       clear hb hq0
       go_wp2_with fail
      |
       have _:Mk 1 _:=tg
       go_simp
       replace HN:=qH (HN.out.alloc (p:=wd.heap.size) rfl 45 [.bool false,.slice none 0 0,.slice none 0 0] rfl)
       generalize wd.heap.size=p18_ at HN ⊢
       generalize wd.alloc (.cells #[.bool false,.slice none 0 0,.slice none 0 0] 45)=wd at HN  ⊢
      |
       have _:Mk 2 _:=tg
       go_simp
       refine (HI2.out _ (HN.out.nat 0 rfl)).mono ?_
       rintro e wd ⟨a3,c3,rfl,hq0,hb⟩
       replace HN:=qH ((HN.out.call hb).got hq0)
       clear hb hq0
       go_wp2_with fail
      |
       have _:Mk 3 _:=tg
       go_simp
       refine (HRN.out _ _ _ _ _ (HN.out.nat 2 rfl) (HN.out.nat 3 rfl)).mono ?_
       rintro e wd ⟨a8,c8,b9,d9,rfl,hq0,hq1,hb⟩
       replace HN:=qH (((HN.out.call hb).got hq0).got hq1)
       clear hb hq0 hq1
       go_wp2_with fail
      |
       have _:Mk 4 _:=tg
       have hc0:=HN.out.cell 3 0 rfl rfl
       have hf0:=HN.out.free 3 0 rfl
       have hc1:=HN.out.cell 3 1 rfl rfl
       have hf1:=HN.out.free 3 1 rfl
       have hc2:=HN.out.cell 3 2 rfl rfl
       have hf2:=HN.out.free 3 2 rfl
       go_simp
       clear hc0 hf0 hc1 hf1 hc2 hf2
       replace HN:=qH ((((HN.out).set 3 0 rfl rfl (fun _=>by simp) (.bool qs)).set 3 1 rfl rfl (fun _=>by simp) (.slice a8 (lenW qn) c8)).set 3 2 rfl rfl (fun _=>by simp) (.slice b9 (lenW qd) d9))
       generalize (((wd.setCell ⟨p18_,0,none⟩ (.bool qs)).setCell ⟨p18_,1,none⟩ (.slice a8 (lenW qn) c8)).setCell ⟨p18_,2,none⟩ (.slice b9 (lenW qd) d9))=wd at HN  ⊢
      all_goals
       refine hK.out _ _ (⟨HN.out.cell 1 0 rfl rfl,HN.out.cell 2 0 rfl rfl,HBC.out _ HN.out.bel⟩) (fun hHeld2=>?_)
       clear hK K hHeld
       rename _=>hHeld
       try simp only [Act.put,stB,stZ,stS]
      all_goals first
      |
       have _:Mk 3 _:=tg
       refine tm 15 (some 63) ?_
       refine tm 16 (some 79) ?_
       refine tm 17 (some 80) ?_
      |
       have _:Mk 4 _:=tg
       refine tm 20 (some 11) ?_
      | skip
     all_goals (refine wpAnyH_done (by kernel_rfl) ?_ _)
     all_goals
      go_wp2_with fail
      go_meet
      exact ⟨_,_,_,_,_,rfl,(HN.out.pick3 0 1 3 rfl rfl rfl (by decide) (by decide) (by decide)).only (List.Sublist.refl _) (fun z hz=>by
       simp only [List.mem_cons,List.not_mem_nil,or_false] at hz
       rcases hz with rfl | rfl | rfl <;> simp)⟩
   case rest =>
    obtain ⟨w3,rfl⟩:∃ w3:World,w3=wc:=⟨_,rfl⟩
    obtain ⟨p10,a8,c8,b9,d9,rfl,hn0⟩:=hcut
    have HN:=qH hn0
    clear hn0
    have hcb:=HBC.out _ HN.out.bel
    have ⟨k00,f00,k01,f01,k02,f02⟩:=HN.out.cf3 0 rfl
    have ⟨k10,f10⟩:=HN.out.cf1 1 rfl
    have ⟨k20,f20,k21,f21,k22,f22⟩:=HN.out.cf3 2 rfl
    go_upto_region 20 with fail
    clear k00 f00 k01 f01 k02 f02 k10 f10 k20 f20 k21 f21 k22 f22
    clear hcb
    go_cut [93] (fun v93 wx=>v93=.bool (!decide (tagR q=t∧q.den=d))∧BS w [⟨w.heap.size,45,[.bool false,.slice none 0 0,.slice none 0 0]⟩,⟨p5,41,[.slice ad (lenW d) cd]⟩,⟨p10,45,[.bool qs,.slice a8 (lenW qn) c8,.slice b9 (lenW qd) d9]⟩] [⟨ad,cd,d⟩,⟨a8,c8,qn⟩,⟨b9,d9,qd⟩] wx)
    case first =>
     by_cases htg:tagR q=t
     ·
      skip
      by_cases hdd:q.den=d
      case' pos =>
       have HB93:=qH (show (!decide (tagR q=t∧q.den=d))=false by rw [decide_eq_true ⟨htg,hdd⟩];rfl)
       have hcm:cmpN q.den d=0:=by rw [hdd];unfold cmpN cmpI;rw [if_neg (by omega),if_neg (by omega)]
       rw [hcm] at HCM
      case' neg =>
       have HB93:=qH (show (!decide (tagR q=t∧q.den=d))=true by rw [decide_eq_false fun h=>hdd h.2];rfl)
       have hcm:(cmpN q.den d != 0)=true:=bne_iff_ne.2 (by unfold cmpN cmpI;split <;> (try split) <;> omega)
       obtain ⟨cm,hcm2⟩:∃ cm,cmpN q.den d=cm:=⟨_,rfl⟩
       rw [hcm2] at HCM hcm
       clear hcm2
      all_goals
       rw [htg] at HTG
       clear htg hdd
       replace HN:=qH HN.out.drew
       refine wp_region_held_drew (S:=fun W=>W.cell? ⟨p10,0,none⟩=some (.bool qs)∧W.cell? ⟨p10,1,none⟩=some (.slice a8 (lenW qn) c8)∧W.cell? ⟨p10,2,none⟩=some (.slice b9 (lenW qd) d9)∧W.cell? ⟨p5,0,none⟩=some (.slice ad (lenW d) cd)∧W.cell? ⟨b,o,none⟩=some (.int .u8 t)) (by kernel_rfl) (⟨HN.out.cell 2 0 rfl rfl,HN.out.cell 2 1 rfl rfl,HN.out.cell 2 2 rfl rfl,HN.out.cell 1 0 rfl rfl,HBC.out _ HN.out.bel⟩) (fun hHeld=>?_)
       generalize w3.drew=wd at HN hHeld ⊢
       refine tl 0 (some 81) ?_
       refine tm 2 (some 83) ?_
       refine tl 3 (some 84) ?_
       refine tl 4 (some 85) ?_
       have tg:=Mk.mk (v:=0) (d:=0)
       iterate 3
        all_goals first
        | refine qz1 0 tg 1 0 1 ?_
        | refine qz1 1 tg 8 1 2 ?_
        | refine qz1 2 tg 10 2 3 ?_
        all_goals intro K hK tg
        all_goals first
        |
         have _:Mk 0 _:=tg
         go_simp
         refine (HTG.out a8 b9 c8 d9 _).mono ?_
         rintro e wd ⟨rfl,hb⟩
         replace HN:=qH (HN.out.call hb)
         clear hb 
         go_wp2_with fail
        |
         have _:Mk 1 _:=tg
         go_simp
         refine (HDN.out a8 b9 c8 d9 _ (HN.out.nat 2 rfl)).mono ?_
         rintro e wd ⟨a4,c4,rfl,hq0,hb⟩
         replace HN:=qH ((HN.out.call hb).got hq0)
         clear hb hq0
         go_wp2_with fail
        |
         have _:Mk 2 _:=tg
         go_simp
         refine (HCM.out a4 c4 _ (HN.out.nat 3 rfl) (HN.out.nat 0 rfl)).mono ?_
         rintro e wd ⟨rfl,hb⟩
         replace HN:=qH (HN.out.call hb)
         clear hb 
         go_wp2_with fail
        all_goals
         refine hK.out _ _ (⟨HN.out.cell 2 0 rfl rfl,HN.out.cell 2 1 rfl rfl,HN.out.cell 2 2 rfl rfl,HN.out.cell 1 0 rfl rfl,HBC.out _ HN.out.bel⟩) (fun hHeld2=>?_)
         clear hK K hHeld
         rename _=>hHeld
         try simp only [Act.put,stB,stZ,stS]
        all_goals first
        |
         have _:Mk 0 _:=tg
         refine tm 5 (some 86) ?_
         refine tm 6 (some 87) ?_
         refine tl 7 (some 88) ?_
         refine tl 9 (some 90) ?_
        |
         have _:Mk 2 _:=tg
         refine tm 11 (some 92) ?_
         refine tm 12 (some 93) ?_
        | skip
       all_goals (refine wpAnyH_done (by kernel_rfl) ?_ _)
       all_goals
        go_wp2_with fail
        go_meet
        exact ⟨by rw [HB93.out],HN.out.only (List.Sublist.refl _) (fun z hz=>List.mem_append_left _ hz)⟩
     ·
      have HB93:=qH (show (!decide (tagR q=t∧q.den=d))=true by rw [decide_eq_false fun h=>htg h.1];rfl)
      obtain ⟨tg,htg2⟩:∃ tg,tagR q=tg:=⟨_,rfl⟩
      rw [htg2] at HTG htg
      have htgi:(((tg:Nat):Int) != (t:Int))=true:=bne_iff_ne.2 (by omega)
      have htgn:(tg != t)=true:=bne_iff_ne.2 htg
      clear htg htg2
      replace HN:=qH HN.out.drew
      refine wp_region_held_drew (S:=fun W=>W.cell? ⟨p10,0,none⟩=some (.bool qs)∧W.cell? ⟨p10,1,none⟩=some (.slice a8 (lenW qn) c8)∧W.cell? ⟨p10,2,none⟩=some (.slice b9 (lenW qd) d9)∧W.cell? ⟨p5,0,none⟩=some (.slice ad (lenW d) cd)∧W.cell? ⟨b,o,none⟩=some (.int .u8 t)) (by kernel_rfl) (⟨HN.out.cell 2 0 rfl rfl,HN.out.cell 2 1 rfl rfl,HN.out.cell 2 2 rfl rfl,HN.out.cell 1 0 rfl rfl,HBC.out _ HN.out.bel⟩) (fun hHeld=>?_)
      generalize w3.drew=wd at HN hHeld ⊢
      refine tl 0 (some 81) ?_
      refine tm 2 (some 83) ?_
      refine tl 3 (some 84) ?_
      refine tl 4 (some 85) ?_
      have tg:=Mk.mk (v:=0) (d:=0)
      iterate 1
       all_goals first
       | refine qz1 0 tg 1 0 1 ?_
       all_goals intro K hK tg
       all_goals first
       |
        have _:Mk 0 _:=tg
        go_simp
        refine (HTG.out a8 b9 c8 d9 _).mono ?_
        rintro e wd ⟨rfl,hb⟩
        replace HN:=qH (HN.out.call hb)
        clear hb 
        go_wp2_with fail
        refine hK.out _ _ (⟨HN.out.cell 2 0 rfl rfl,HN.out.cell 2 1 rfl rfl,HN.out.cell 2 2 rfl rfl,HN.out.cell 1 0 rfl rfl,HBC.out _ HN.out.bel⟩) (fun hHeld2=>?_)
        clear hK K hHeld
        rename _=>hHeld
        try simp only [Act.put,stB,stZ,stS]
        refine tm 5 (some 86) ?_
        refine tm 6 (some 87) ?_
        refine takeH (i:=7) (d:=(some 88)) (v:=undef) rfl rfl (by kernel_rfl) (by kernel_rfl) (by kernel_rfl) (fun _ _ _ h=>h) (Or.inr ⟨by rfl,rfl⟩) (by assumption) ?_
        simp only [Act.put,stB,stZ,stS]
        refine takeH (i:=8) (d:=(some 89)) (v:=undef) rfl rfl (by kernel_rfl) (by kernel_rfl) (by kernel_rfl) (fun _ _ _ h=>h) (Or.inr ⟨by rfl,rfl⟩) (by assumption) ?_
        simp only [Act.put,stB,stZ,stS]
        refine takeH (i:=9) (d:=(some 90)) (v:=undef) rfl rfl (by kernel_rfl) (by kernel_rfl) (by kernel_rfl) (fun _ _ _ h=>h) (Or.inr ⟨by rfl,rfl⟩) (by assumption) ?_
        simp only [Act.put,stB,stZ,stS]
        refine takeH (i:=10) (d:=(some 91)) (v:=undef) rfl rfl (by kernel_rfl) (by kernel_rfl) (by kernel_rfl) (fun _ _ _ h=>h) (Or.inr ⟨by rfl,rfl⟩) (by assumption) ?_
        simp only [Act.put,stB,stZ,stS]
        refine takeH (i:=11) (d:=(some 92)) (v:=undef) rfl rfl (by kernel_rfl) (by kernel_rfl) (by kernel_rfl) (fun _ _ _ h=>h) (Or.inr ⟨by rfl,rfl⟩) (by assumption) ?_
        simp only [Act.put,stB,stZ,stS]
        refine tm 12 (some 93) ?_
      all_goals (refine wpAnyH_done (by kernel_rfl) ?_ _)
      all_goals
       go_wp2_with fail
       go_meet
       exact ⟨by rw [HB93.out],HN.out⟩
    case rest =>
     obtain ⟨w4,rfl⟩:∃ w4:World,w4=wc:=⟨_,rfl⟩
     obtain ⟨rfl,hn0⟩:=hcut
     have HN:=qH hn0
     clear hn0
     by_cases hfin:tagR q=t∧q.den=d
     ·
      have HFIN:=qH hfin
      rw [decide_eq_true hfin]
      rw [show (!true)=false from rfl]
      clear hfin
      obtain ⟨hs1,hs2,hs3⟩:=HQV.out
      have ⟨k00,f00,k01,f01,k02,f02⟩:=HN.out.cf3 0 rfl
      have ⟨k10,f10⟩:=HN.out.cf1 1 rfl
      have ⟨k20,f20,k21,f21,k22,f22⟩:=HN.out.cf3 2 rfl
      have HE:=qH ((((HN.out).set 0 0 rfl rfl (fun _=>by simp) (.bool qs)).set 0 1 rfl rfl (fun _=>by simp) (.slice a8 (lenW qn) c8)).set 0 2 rfl rfl (fun _=>by simp) (.slice b9 (lenW qd) d9))
      have ⟨j0_0,j1_0,j2_0⟩:=HE.out.cg3 0 rfl
      go_wp2_with fail
      refine bodyPost_ret (v:=.tuple #[.agg #[.bool qs,.slice a8 (lenW qn) c8,.slice b9 (lenW qd) d9],.int .i64 ((n:Int) - (m:Int)),.nilIface]) (by simp [results,Tryz.results33,go_sem,j0_0,j1_0,j2_0,k00,k01,k02,k10,k20,k21,k22]) rfl ?_
      rw [← HRES.out,HEND.out,HQ.out,if_pos HFIN.out]
      subst hs1 hs2 hs3
      exact ⟨a8,c8,b9,d9,by rw [← HLEN.out];rfl,HE.out.nat 1 rfl,HE.out.nat 2 rfl,HE.out.bel⟩
     ·
      have HFIN:=qH hfin
      rw [decide_eq_false hfin]
      rw [show (!false)=true from rfl]
      clear hfin
      have ⟨k00,f00,k01,f01,k02,f02⟩:=HN.out.cf3 0 rfl
      have ⟨k10,f10⟩:=HN.out.cf1 1 rfl
      have ⟨k20,f20,k21,f21,k22,f22⟩:=HN.out.cf3 2 rfl
      have HE:=qH ((((HN.out).set 0 0 rfl rfl (fun _=>by simp) (.bool false)).set 0 1 rfl rfl (fun _=>by simp) (.slice none 0 0)).set 0 2 rfl rfl (fun _=>by simp) (.slice none 0 0))
      have ⟨j0_0,j1_0,j2_0⟩:=HE.out.cg3 0 rfl
      go_wp2_with fail
      refine bodyPost_ret (v:=.tuple #[.agg #[.bool false,.slice none 0 0,.slice none 0 0],.int .i64 0,eE 91]) (by simp [results,Tryz.results33,go_sem,j0_0,j1_0,j2_0,k00,k01,k02,k10,k20,k21,k22,eE]) rfl ?_
      rw [← HRES.out,HEND.out,HQ.out,if_neg HFIN.out]
      exact ⟨_,rfl,rfl,HE.out.bel⟩
theorem dec_nil (a:Option Addr) (c:Nat) (w:World):Calls Tryz.prog 33 #[.slice a 0 c] w (RetD9 (.error ⟨90,none⟩) w):=by
 obtain ⟨W0,hW0⟩:∃ W0,W0=(w.alloc (.cells #[.bool false,.slice none 0 0,.slice none 0 0] 45)):=⟨_,rfl⟩
 have hbs:BS w [⟨w.heap.size,45,[.bool false,.slice none 0 0,.slice none 0 0]⟩] [] (w.alloc (.cells #[.bool false,.slice none 0 0,.slice none 0 0] 45)) :=
   ((BS.start w).alloc (p:=w.heap.size) rfl 45 [.bool false,.slice none 0 0,.slice none 0 0] rfl)
 rw [← hW0] at hbs
 have HW0:=qH hW0
 have HN:=qH hbs
 clear hW0 hbs
 go_enter Tryz.func33,Tryz.ntmps33
 have ⟨k00,f00,k01,f01,k02,f02⟩:=HN.out.cf3 0 rfl
 have HE:=qH ((((HN.out).set 0 0 rfl rfl (fun _=>by simp) (.bool false)).set 0 1 rfl rfl (fun _=>by simp) (.slice none 0 0)).set 0 2 rfl rfl (fun _=>by simp) (.slice none 0 0))
 have ⟨j0_0,j1_0,j2_0⟩:=HE.out.cg3 0 rfl
 go_wp2_with fail
 refine bodyPost_ret (v:=.tuple #[.agg #[.bool false,.slice none 0 0,.slice none 0 0],.int .i64 0,eE 90]) (by simp [results,Tryz.results33,go_sem,j0_0,j1_0,j2_0,k00,k01,k02,eE]) rfl ?_
 exact ⟨_,rfl,rfl,belowBox w _⟩
theorem dec_any (a:Option Addr) (n c:Nat) (bs:List Nat) (w:World) (h:BytesN w (.slice a n c) bs) (hb8:∀ x,x∈bs→x<256) (hs:n≤1099511627776):Calls Tryz.prog 33 #[.slice a n c] w (RetD9 (decR bs) w):=by
 cases bs with
 | nil =>
  obtain rfl:n=0:=h.len.1
  exact dec_nil a c w
 | cons t r=>exact dec_cons a n c t r w h hb8 hs
end Go.Proofs.YtmhainidincjhaaGreatDoor
