/-
 What the laws stand on, part X: contracts and plain laws of DEnc, DErr, DDec0; the conditions are each law's own.
-/
import Derived.Test.YtmhainidincjhaaGreatDoorBV
import Derived.Test.YtmhainidincjhaaGreatDoorBF
import Derived.Test.YtmhainidincjhaaGreatDoorBB
import Derived.Test.YtmhainidincjhaaGreatDoorBE
import Derived.Deep.CutBlock
set_option linter.unusedVariables false
set_option linter.unusedSimpArgs false
set_option maxRecDepth 100000
set_option maxHeartbeats 16000000
namespace Go.Proofs.YtmhainidincjhaaGreatDoor
open Go.RowKit Go.Extern.Stop Go.Stop Go.Extern
def ErrW (w:World) (v:Value) (f:Flt):Prop:=match f.at? with
 | none=>v=eE f.n
 | some x=>∃ b,v=eF b∧IsF w b (strB x.1) x.2 f.n
def ErrN (base:Nat) (v:Value):Prop:=∀ b,v=eF b→base≤b
theorem ErrN.eF {base k:Nat} (h:base≤k):ErrN base (eF k):=fun b hb=>by
 unfold Go.Proofs.YtmhainidincjhaaGreatDoor.eF at hb
 injection hb with _ hb
 injection hb with hb
 injection hb with hb
 injection hb with hb
 omega
def RetE9 (r:Except Flt (List Nat)) (w:World) (e:Ending) (w':World):Prop:=match r with
 | .error f=>∃ v,e=.returned (.tuple #[.slice none 0 0,v])∧ErrW w' v f∧Below w.heap.size w w'∧ErrN w.heap.size v
 | .ok l=>∃ a c,e=.returned (.tuple #[.slice a l.length c,.nilIface])∧Mid w' w.heap.size 5 1 (.slice a l.length c) l.length (l.map BN)∧Below w.heap.size w w'
theorem BS.lit {w W:World} {bs:List Bk} {ns:List Nm} (h:BS w bs ns W) (t:Nat):YB w bs ns (some ⟨W.heap.size,0,none⟩) 1 1 [t] (W.alloc (.cells #[BN t] 5)) :=
  ⟨⟨h.bel.alloc h.bel.size _,fun b hb=>⟨(Below.heap_alloc _ _ _ (lt_of_block (h.box b hb).1)).trans (h.box b hb).1,(h.box b hb).2⟩,h.nod,fun x hx=>(h.num x hx).alloc _⟩,
   ⟨by simp,.inr ⟨W.heap.size,0,1,_,rfl,h.bel.size,heap_alloc_new _ _,Nat.le_refl _,by unfold maxLen;omega,by simp,by simp⟩⟩,
   fun k hk b hb e=>by
    simp only [Value.ownBlock,Option.some.injEq] at hk
    have:=lt_of_block (h.box b hb).1
    omega⟩
theorem enc_zero0 (sg:Bool) (a b:Option Addr) (c d lm ld m dn dd:Nat) (w:World) (hlm:lenW m=lm) (hld:lenW dn=ld) (ha:NatW w a c m) (hb0:NatW w b d dn) (hsm:lenW m≤1099511627776) (hsd:lenW dd≤1099511627776)
  (HTAG:Hid (∀ W,Calls Tryz.prog 77 #[.agg #[.bool sg,.slice a lm c,.slice b ld d]] W fun e w'=>e=.returned (.int .u8 0)∧Below W.heap.size W w'))
  (HNUM:Hid (∀ W,Calls Tryz.prog 45 #[.agg #[.bool sg,.slice a lm c,.slice b ld d]] W fun e w'=>e=.returned (.agg #[.bool sg,.slice a lm c])∧Below W.heap.size W w'))
  (HABS:Hid (∀ W,Calls Tryz.prog 46 #[.agg #[.bool sg,.slice a lm c]] W fun e w'=>e=.returned (.agg #[.slice a lm c])∧Below W.heap.size W w'))
  (HDEN:Hid (∀ W,NatW W b d dn→Calls Tryz.prog 48 #[.agg #[.bool sg,.slice a lm c,.slice b ld d]] W (RetN dd W)))  :
  Calls Tryz.prog 28 #[.agg #[.bool sg,.slice a lm c,.slice b ld d]] w (RetE9 (.ok [0]) w):=by
 obtain ⟨w1,hw1⟩:∃ w1,w.alloc (.cells #[.bool sg,.slice a lm c,.slice b ld d] 45)=w1:=⟨_,rfl⟩
 have HW1:=qH hw1
 have HB1:=qH (show BS w [⟨w.heap.size,45,[.bool sg,.slice a lm c,.slice b ld d]⟩] [⟨a,c,m⟩,⟨b,d,dn⟩] w1 from hw1▸((BS.begin [⟨a,c,m⟩,⟨b,d,dn⟩] (fun y hy=>by
  rcases List.mem_cons.1 hy with rfl | hy
  ·
   exact ha
  ·
   rw [List.mem_singleton.1 hy];exact hb0)).alloc (p:=w.heap.size) rfl 45 [.bool sg,.slice a lm c,.slice b ld d] rfl))
 have HWR:=qH (fun (s:ByteArray) (k:Int) (W:World)=>(wrap_E 3 s k W))
 unfold eE at HWR
 clear hw1 hlm hld ha hb0 hsm hsd
 go_enter Tryz.func28,Tryz.ntmps28
 go_upto_region 1 with fail
 (try simp only [HW1.out])
 have ⟨k0,k1,k2⟩:=HB1.out.cg3 0 rfl
 clear HW1
 go_wp2_with fail
 refine (HTAG.out w1).mono ?_
 rintro e w2 ⟨rfl,hb⟩
 have HY:=qH ((HB1.out.call hb).lit 0)
 clear hb k0 k1 k2 HB1 HTAG
 go_upto_region 3 with fail
 obtain ⟨p2,hp2⟩:∃ p2,w2.heap.size=p2:=⟨_,rfl⟩
 rw [hp2] at HY
 (try simp only [hp2])
 clear hp2
 generalize w2.alloc (.cells #[BN 0] 5)=w3 at HY ⊢
 go_wp2_with fail
 refine bodyPost_ret (v:=.tuple #[.slice (some ⟨p2,0,none⟩) 1 1,.nilIface]) (by simp [results,Tryz.results28,go_sem]) rfl ?_
 exact ⟨_,_,rfl,HY.out.mid,HY.out.st.bel⟩
theorem enc_okW (t:Nat) (ht:t=1∨t=2) (sg:Bool) (a b:Option Addr) (c d lm ld m dn dd:Nat) (w:World) (hlm:lenW m=lm) (hld:lenW dn=ld) (ha:NatW w a c m) (hb0:NatW w b d dn) (hsm:lenW m≤1099511627776) (hsd:lenW dd≤1099511627776)
  (HTAG:Hid (∀ W,Calls Tryz.prog 77 #[.agg #[.bool sg,.slice a lm c,.slice b ld d]] W fun e w'=>e=.returned (.int .u8 t)∧Below W.heap.size W w'))
  (HNUM:Hid (∀ W,Calls Tryz.prog 45 #[.agg #[.bool sg,.slice a lm c,.slice b ld d]] W fun e w'=>e=.returned (.agg #[.bool sg,.slice a lm c])∧Below W.heap.size W w'))
  (HABS:Hid (∀ W,Calls Tryz.prog 46 #[.agg #[.bool sg,.slice a lm c]] W fun e w'=>e=.returned (.agg #[.slice a lm c])∧Below W.heap.size W w'))
  (HDEN:Hid (∀ W,NatW W b d dn→Calls Tryz.prog 48 #[.agg #[.bool sg,.slice a lm c,.slice b ld d]] W (RetN dd W))) (hmb:ndig 256 m≤255) :
  Calls Tryz.prog 28 #[.agg #[.bool sg,.slice a lm c,.slice b ld d]] w (RetE9 (.ok (t::([]++ndig 256 m::dig 256 m))) w):=by
 obtain ⟨w1,hw1⟩:∃ w1,w.alloc (.cells #[.bool sg,.slice a lm c,.slice b ld d] 45)=w1:=⟨_,rfl⟩
 have HW1:=qH hw1
 have HB1:=qH (show BS w [⟨w.heap.size,45,[.bool sg,.slice a lm c,.slice b ld d]⟩] [⟨a,c,m⟩,⟨b,d,dn⟩] w1 from hw1▸((BS.begin [⟨a,c,m⟩,⟨b,d,dn⟩] (fun y hy=>by
  rcases List.mem_cons.1 hy with rfl | hy
  ·
   exact ha
  ·
   rw [List.mem_singleton.1 hy];exact hb0)).alloc (p:=w.heap.size) rfl 45 [.bool sg,.slice a lm c,.slice b ld d] rfl))
 have HWR:=qH (fun (s:ByteArray) (k:Int) (W:World)=>(wrap_E 3 s k W))
 unfold eE at HWR
 have HPO:=qH (fun (o:Option Addr) (n k:Nat) (xs:List Nat) (W:World) (h:YB w [⟨w.heap.size,45,[.bool sg,.slice a lm c,.slice b ld d]⟩] [⟨a,c,m⟩,⟨b,d,dn⟩] o n k xs W) (hn:n≤100000) (hb:ndig 256 m≤255)=>hlm▸put_ok o n k xs a c m W h (h.st.nat 0 rfl) hsm hb hn)
 have HPB:=qH (fun (o:Option Addr) (n k:Nat) (W:World) (h:NatW W a c m) (hb:255<ndig 256 m)=>hlm▸put_big o n k a c m W h hsm hb)
 have HSZ:=qH (fun (W:World) (h:NatW W a c m)=>hlm▸size_any a c m W h hsm)
 unfold eE at HPB
 obtain ⟨l,hl⟩:∃ l,(t::([]++ndig 256 m::dig 256 m))=l:=⟨_,rfl⟩
 have HLL:=qH (show 1+1+ndig 256 m=l.length by
  rw [← hl];simp only [List.length_cons,List.length_append,List.length_nil,dig_len];omega)
 have HLE:=qH hl
 rw [hl]
 clear hl
 clear hw1 hlm hld ha hb0 hsm hsd
 have q3:((t:Int)==3)=false:=beq_eq_false_iff_ne.2 (by omega)
 have q4:((t:Int)==4)=false:=beq_eq_false_iff_ne.2 (by omega)
 by_cases ht1:t=1
 case' pos=>have q1:((t:Int)==1)=true:=beq_iff_eq.2 (by omega)
 case' neg =>
  have q1:((t:Int)==1)=false:=beq_eq_false_iff_ne.2 (by omega)
  have q2:((t:Int)==2)=true:=beq_iff_eq.2 (by omega)
 all_goals
  clear ht1 ht
  go_enter Tryz.func28,Tryz.ntmps28
  go_upto_region 1 with fail
  (try simp only [HW1.out])
  have ⟨k0,k1,k2⟩:=HB1.out.cg3 0 rfl
  clear HW1
  go_wp2_with fail
  refine (HTAG.out w1).mono ?_
  rintro e w2 ⟨rfl,hb⟩
  have HY:=qH ((HB1.out.call hb).lit t)
  clear hb k0 k1 k2 HB1 HTAG
  go_upto_region 3 with fail
  obtain ⟨p2,hp2⟩:∃ p2,w2.heap.size=p2:=⟨_,rfl⟩
  rw [hp2] at HY
  (try simp only [hp2])
  clear hp2
  generalize w2.alloc (.cells #[BN t] 5)=w3 at HY ⊢
  have ⟨k0,k1,k2⟩:=HY.out.st.cg3 0 rfl
  go_wp2_with fail
  refine (HNUM.out w3).mono ?_
  rintro e w4 ⟨rfl,hb⟩
  replace HY:=qH (HY.out.call hb)
  clear hb k0 k1 k2
  have ⟨k0,k1,k2⟩:=HY.out.st.cg3 0 rfl
  go_wp2_with fail
  refine (HABS.out w4).mono ?_
  rintro e w5 ⟨rfl,hb⟩
  replace HY:=qH (HY.out.call hb)
  clear hb k0 k1 k2
  go_wp2_with fail
  refine (HPO.out (some ⟨p2,0,none⟩) 1 1 [t] w5 HY.out (by omega) hmb).mono ?_
  rintro e w6 ⟨a6,c6,rfl,hy,hbw⟩
  replace HY:=qH hy
  clear hy hbw
  go_wp2_with fail
  refine bodyPost_ret (v:=.tuple #[.slice a6 (1+1+ndig 256 m) c6,.nilIface]) (by simp [results,Tryz.results28,go_sem]) rfl ?_
  have hl:=HY.out.len
  refine ⟨a6,c6,?_,?_,HY.out.st.bel⟩
  ·
   rw [← HLL.out]
  ·
   rw [← HLL.out,← HLE.out];have h9:=HY.out.mid;simp only [List.append_assoc,List.cons_append,List.nil_append] at h9 ⊢;exact h9
theorem enc_nbigW (t:Nat) (ht:t=1∨t=2) (sg:Bool) (a b:Option Addr) (c d lm ld m dn dd:Nat) (w:World) (hlm:lenW m=lm) (hld:lenW dn=ld) (ha:NatW w a c m) (hb0:NatW w b d dn) (hsm:lenW m≤1099511627776) (hsd:lenW dd≤1099511627776)
  (HTAG:Hid (∀ W,Calls Tryz.prog 77 #[.agg #[.bool sg,.slice a lm c,.slice b ld d]] W fun e w'=>e=.returned (.int .u8 t)∧Below W.heap.size W w'))
  (HNUM:Hid (∀ W,Calls Tryz.prog 45 #[.agg #[.bool sg,.slice a lm c,.slice b ld d]] W fun e w'=>e=.returned (.agg #[.bool sg,.slice a lm c])∧Below W.heap.size W w'))
  (HABS:Hid (∀ W,Calls Tryz.prog 46 #[.agg #[.bool sg,.slice a lm c]] W fun e w'=>e=.returned (.agg #[.slice a lm c])∧Below W.heap.size W w'))
  (HDEN:Hid (∀ W,NatW W b d dn→Calls Tryz.prog 48 #[.agg #[.bool sg,.slice a lm c,.slice b ld d]] W (RetN dd W))) (hmb:255<ndig 256 m) :
  Calls Tryz.prog 28 #[.agg #[.bool sg,.slice a lm c,.slice b ld d]] w (RetE9 (.error ⟨3,some (sNum,(ndig 256 m:Int))⟩) w):=by
 obtain ⟨w1,hw1⟩:∃ w1,w.alloc (.cells #[.bool sg,.slice a lm c,.slice b ld d] 45)=w1:=⟨_,rfl⟩
 have HW1:=qH hw1
 have HB1:=qH (show BS w [⟨w.heap.size,45,[.bool sg,.slice a lm c,.slice b ld d]⟩] [⟨a,c,m⟩,⟨b,d,dn⟩] w1 from hw1▸((BS.begin [⟨a,c,m⟩,⟨b,d,dn⟩] (fun y hy=>by
  rcases List.mem_cons.1 hy with rfl | hy
  ·
   exact ha
  ·
   rw [List.mem_singleton.1 hy];exact hb0)).alloc (p:=w.heap.size) rfl 45 [.bool sg,.slice a lm c,.slice b ld d] rfl))
 have HWR:=qH (fun (s:ByteArray) (k:Int) (W:World)=>(wrap_E 3 s k W))
 unfold eE at HWR
 have HPO:=qH (fun (o:Option Addr) (n k:Nat) (xs:List Nat) (W:World) (h:YB w [⟨w.heap.size,45,[.bool sg,.slice a lm c,.slice b ld d]⟩] [⟨a,c,m⟩,⟨b,d,dn⟩] o n k xs W) (hn:n≤100000) (hb:ndig 256 m≤255)=>hlm▸put_ok o n k xs a c m W h (h.st.nat 0 rfl) hsm hb hn)
 have HPB:=qH (fun (o:Option Addr) (n k:Nat) (W:World) (h:NatW W a c m) (hb:255<ndig 256 m)=>hlm▸put_big o n k a c m W h hsm hb)
 have HSZ:=qH (fun (W:World) (h:NatW W a c m)=>hlm▸size_any a c m W h hsm)
 unfold eE at HPB
 clear hw1 hlm hld ha hb0 hsm hsd
 have q3:((t:Int)==3)=false:=beq_eq_false_iff_ne.2 (by omega)
 have q4:((t:Int)==4)=false:=beq_eq_false_iff_ne.2 (by omega)
 by_cases ht1:t=1
 case' pos=>have q1:((t:Int)==1)=true:=beq_iff_eq.2 (by omega)
 case' neg =>
  have q1:((t:Int)==1)=false:=beq_eq_false_iff_ne.2 (by omega)
  have q2:((t:Int)==2)=true:=beq_iff_eq.2 (by omega)
 all_goals
  clear ht1 ht
  go_enter Tryz.func28,Tryz.ntmps28
  go_upto_region 1 with fail
  (try simp only [HW1.out])
  have ⟨k0,k1,k2⟩:=HB1.out.cg3 0 rfl
  clear HW1
  go_wp2_with fail
  refine (HTAG.out w1).mono ?_
  rintro e w2 ⟨rfl,hb⟩
  have HY:=qH ((HB1.out.call hb).lit t)
  clear hb k0 k1 k2 HB1 HTAG
  go_upto_region 3 with fail
  obtain ⟨p2,hp2⟩:∃ p2,w2.heap.size=p2:=⟨_,rfl⟩
  rw [hp2] at HY
  (try simp only [hp2])
  clear hp2
  generalize w2.alloc (.cells #[BN t] 5)=w3 at HY ⊢
  have ⟨k0,k1,k2⟩:=HY.out.st.cg3 0 rfl
  go_wp2_with fail
  refine (HNUM.out w3).mono ?_
  rintro e w4 ⟨rfl,hb⟩
  replace HY:=qH (HY.out.call hb)
  clear hb k0 k1 k2
  have ⟨k0,k1,k2⟩:=HY.out.st.cg3 0 rfl
  go_wp2_with fail
  refine (HABS.out w4).mono ?_
  rintro e w5 ⟨rfl,hb⟩
  replace HY:=qH (HY.out.call hb)
  clear hb k0 k1 k2
  go_wp2_with fail
  refine (HPB.out _ _ _ w5 (HY.out.st.nat 0 rfl) hmb).mono ?_
  rintro e w6 ⟨rfl,hb⟩
  replace HY:=qH (HY.out.call hb)
  clear hb
  have ⟨k0,k1,k2⟩:=HY.out.st.cg3 0 rfl
  go_wp2_with fail
  refine (HNUM.out w6).mono ?_
  rintro e w7 ⟨rfl,hb⟩
  replace HY:=qH (HY.out.call hb)
  clear hb k0 k1 k2
  have ⟨k0,k1,k2⟩:=HY.out.st.cg3 0 rfl
  go_wp2_with fail
  refine (HABS.out w7).mono ?_
  rintro e w8 ⟨rfl,hb⟩
  replace HY:=qH (HY.out.call hb)
  clear hb k0 k1 k2
  go_wp2_with fail
  refine (HSZ.out w8 (HY.out.st.nat 0 rfl)).mono ?_
  rintro e w9 ⟨rfl,hb⟩
  replace HY:=qH (HY.out.call hb)
  clear hb
  go_wp2_with fail
  refine (HWR.out ⟨#[110,117,109,98,101,114]⟩ (ndig 256 m:Int) w9).mono ?_
  rintro e w10 ⟨rfl,hf,hw⟩
  have HF:=qH hf
  have HBL:=qH (show Below w.heap.size w w10 from bthen HY.out.st.bel (hw▸belowBox _ _))
  clear hf hw
  go_wp2_with fail
  refine bodyPost_ret (v:=.tuple #[.slice none 0 0,eF w9.heap.size]) (by simp [results,Tryz.results28,go_sem]) rfl ?_
  exact ⟨_,rfl,⟨_,rfl,HF.out⟩,HBL.out,ErrN.eF HY.out.st.bel.size⟩
theorem enc_dbigF (t:Nat) (ht:t=3∨t=4) (sg:Bool) (a b:Option Addr) (c d lm ld m dn dd:Nat) (w:World) (hlm:lenW m=lm) (hld:lenW dn=ld) (ha:NatW w a c m) (hb0:NatW w b d dn) (hsm:lenW m≤1099511627776) (hsd:lenW dd≤1099511627776)
  (HTAG:Hid (∀ W,Calls Tryz.prog 77 #[.agg #[.bool sg,.slice a lm c,.slice b ld d]] W fun e w'=>e=.returned (.int .u8 t)∧Below W.heap.size W w'))
  (HNUM:Hid (∀ W,Calls Tryz.prog 45 #[.agg #[.bool sg,.slice a lm c,.slice b ld d]] W fun e w'=>e=.returned (.agg #[.bool sg,.slice a lm c])∧Below W.heap.size W w'))
  (HABS:Hid (∀ W,Calls Tryz.prog 46 #[.agg #[.bool sg,.slice a lm c]] W fun e w'=>e=.returned (.agg #[.slice a lm c])∧Below W.heap.size W w'))
  (HDEN:Hid (∀ W,NatW W b d dn→Calls Tryz.prog 48 #[.agg #[.bool sg,.slice a lm c,.slice b ld d]] W (RetN dd W))) (hdb:255<ndig 256 dd) :
  Calls Tryz.prog 28 #[.agg #[.bool sg,.slice a lm c,.slice b ld d]] w (RetE9 (.error ⟨3,some (sDiv,(ndig 256 dd:Int))⟩) w):=by
 obtain ⟨w1,hw1⟩:∃ w1,w.alloc (.cells #[.bool sg,.slice a lm c,.slice b ld d] 45)=w1:=⟨_,rfl⟩
 have HW1:=qH hw1
 have HB1:=qH (show BS w [⟨w.heap.size,45,[.bool sg,.slice a lm c,.slice b ld d]⟩] [⟨a,c,m⟩,⟨b,d,dn⟩] w1 from hw1▸((BS.begin [⟨a,c,m⟩,⟨b,d,dn⟩] (fun y hy=>by
  rcases List.mem_cons.1 hy with rfl | hy
  ·
   exact ha
  ·
   rw [List.mem_singleton.1 hy];exact hb0)).alloc (p:=w.heap.size) rfl 45 [.bool sg,.slice a lm c,.slice b ld d] rfl))
 have HWR:=qH (fun (s:ByteArray) (k:Int) (W:World)=>(wrap_E 3 s k W))
 unfold eE at HWR
 have HPO:=qH (fun (o:Option Addr) (n k:Nat) (xs:List Nat) (W:World) (h:YB w [⟨w.heap.size,45,[.bool sg,.slice a lm c,.slice b ld d]⟩] [⟨a,c,m⟩,⟨b,d,dn⟩] o n k xs W) (hn:n≤100000) (hb:ndig 256 m≤255)=>hlm▸put_ok o n k xs a c m W h (h.st.nat 0 rfl) hsm hb hn)
 have HPB:=qH (fun (o:Option Addr) (n k:Nat) (W:World) (h:NatW W a c m) (hb:255<ndig 256 m)=>hlm▸put_big o n k a c m W h hsm hb)
 have HSZ:=qH (fun (W:World) (h:NatW W a c m)=>hlm▸size_any a c m W h hsm)
 unfold eE at HPB
 have HQO:=qH (fun (o:Option Addr) (n k:Nat) (xs:List Nat) (a9:Option Addr) (c9:Nat) (W:World) (h:YB w [⟨w.heap.size,45,[.bool sg,.slice a lm c,.slice b ld d]⟩] [⟨a,c,m⟩,⟨b,d,dn⟩] o n k xs W) (h9:NatW W a9 c9 dd) (hn:n≤100000) (hb:ndig 256 dd≤255)=>put_ok o n k xs a9 c9 dd W h h9 hsd hb hn)
 have HQB:=qH (fun (o:Option Addr) (n k:Nat) (a9:Option Addr) (c9:Nat) (W:World) (h:NatW W a9 c9 dd) (hb:255<ndig 256 dd)=>put_big o n k a9 c9 dd W h hsd hb)
 have HSD:=qH (fun (a9:Option Addr) (c9:Nat) (W:World) (h:NatW W a9 c9 dd)=>size_any a9 c9 dd W h hsd)
 unfold eE at HQB
 clear hw1 hlm hld ha hb0 hsm hsd
 by_cases ht1:t=3
 case' pos=>have q3:((t:Int)==3)=true:=beq_iff_eq.2 (by omega)
 case' neg =>
  have q3:((t:Int)==3)=false:=beq_eq_false_iff_ne.2 (by omega)
  have q4:((t:Int)==4)=true:=beq_iff_eq.2 (by omega)
 all_goals
  clear ht1 ht
  go_enter Tryz.func28,Tryz.ntmps28
  go_upto_region 1 with fail
  (try simp only [HW1.out])
  have ⟨k0,k1,k2⟩:=HB1.out.cg3 0 rfl
  clear HW1
  go_wp2_with fail
  refine (HTAG.out w1).mono ?_
  rintro e w2 ⟨rfl,hb⟩
  have HY:=qH ((HB1.out.call hb).lit t)
  clear hb k0 k1 k2 HB1 HTAG
  go_upto_region 3 with fail
  obtain ⟨p2,hp2⟩:∃ p2,w2.heap.size=p2:=⟨_,rfl⟩
  rw [hp2] at HY
  (try simp only [hp2])
  clear hp2
  generalize w2.alloc (.cells #[BN t] 5)=w3 at HY ⊢
  have ⟨k0,k1,k2⟩:=HY.out.st.cg3 0 rfl
  go_wp2_with fail
  refine (HDEN.out w3 (HY.out.st.nat 1 rfl)).mono ?_
  rintro e w4 ⟨a4,c4,rfl,hn,hb⟩
  replace HY:=qH (HY.out.call hb)
  have HND:=qH hn
  clear hb hn k0 k1 k2
  have ⟨k0,k1,k2⟩:=HY.out.st.cg3 0 rfl
  go_wp2_with fail
  refine (HQB.out _ _ _ a4 c4 w4 HND.out hdb).mono ?_
  rintro e w5 ⟨rfl,hb⟩
  replace HY:=qH (HY.out.call hb)
  clear hb k0 k1 k2
  have ⟨k0,k1,k2⟩:=HY.out.st.cg3 0 rfl
  go_wp2_with fail
  refine (HDEN.out w5 (HY.out.st.nat 1 rfl)).mono ?_
  rintro e w6 ⟨a6,c6,rfl,hn,hb⟩
  replace HY:=qH (HY.out.call hb)
  have HNE:=qH hn
  clear hb hn k0 k1 k2
  go_wp2_with fail
  refine (HSD.out a6 c6 w6 HNE.out).mono ?_
  rintro e w7 ⟨rfl,hb⟩
  replace HY:=qH (HY.out.call hb)
  clear hb
  go_wp2_with fail
  refine (HWR.out ⟨#[100,105,118,105,115,111,114]⟩ (ndig 256 dd:Int) w7).mono ?_
  rintro e w8 ⟨rfl,hf,hw⟩
  have HF:=qH hf
  have HBL:=qH (show Below w.heap.size w w8 from bthen HY.out.st.bel (hw▸belowBox _ _))
  clear hf hw
  go_wp2_with fail
  refine bodyPost_ret (v:=.tuple #[.slice none 0 0,eF w7.heap.size]) (by simp [results,Tryz.results28,go_sem]) rfl ?_
  exact ⟨_,rfl,⟨_,rfl,HF.out⟩,HBL.out,ErrN.eF HY.out.st.bel.size⟩
theorem enc_nbigF (t:Nat) (ht:t=3∨t=4) (sg:Bool) (a b:Option Addr) (c d lm ld m dn dd:Nat) (w:World) (hlm:lenW m=lm) (hld:lenW dn=ld) (ha:NatW w a c m) (hb0:NatW w b d dn) (hsm:lenW m≤1099511627776) (hsd:lenW dd≤1099511627776)
  (HTAG:Hid (∀ W,Calls Tryz.prog 77 #[.agg #[.bool sg,.slice a lm c,.slice b ld d]] W fun e w'=>e=.returned (.int .u8 t)∧Below W.heap.size W w'))
  (HNUM:Hid (∀ W,Calls Tryz.prog 45 #[.agg #[.bool sg,.slice a lm c,.slice b ld d]] W fun e w'=>e=.returned (.agg #[.bool sg,.slice a lm c])∧Below W.heap.size W w'))
  (HABS:Hid (∀ W,Calls Tryz.prog 46 #[.agg #[.bool sg,.slice a lm c]] W fun e w'=>e=.returned (.agg #[.slice a lm c])∧Below W.heap.size W w'))
  (HDEN:Hid (∀ W,NatW W b d dn→Calls Tryz.prog 48 #[.agg #[.bool sg,.slice a lm c,.slice b ld d]] W (RetN dd W))) (hdb:ndig 256 dd≤255) (hmb:255<ndig 256 m) :
  Calls Tryz.prog 28 #[.agg #[.bool sg,.slice a lm c,.slice b ld d]] w (RetE9 (.error ⟨3,some (sNum,(ndig 256 m:Int))⟩) w):=by
 obtain ⟨w1,hw1⟩:∃ w1,w.alloc (.cells #[.bool sg,.slice a lm c,.slice b ld d] 45)=w1:=⟨_,rfl⟩
 have HW1:=qH hw1
 have HB1:=qH (show BS w [⟨w.heap.size,45,[.bool sg,.slice a lm c,.slice b ld d]⟩] [⟨a,c,m⟩,⟨b,d,dn⟩] w1 from hw1▸((BS.begin [⟨a,c,m⟩,⟨b,d,dn⟩] (fun y hy=>by
  rcases List.mem_cons.1 hy with rfl | hy
  ·
   exact ha
  ·
   rw [List.mem_singleton.1 hy];exact hb0)).alloc (p:=w.heap.size) rfl 45 [.bool sg,.slice a lm c,.slice b ld d] rfl))
 have HWR:=qH (fun (s:ByteArray) (k:Int) (W:World)=>(wrap_E 3 s k W))
 unfold eE at HWR
 have HPO:=qH (fun (o:Option Addr) (n k:Nat) (xs:List Nat) (W:World) (h:YB w [⟨w.heap.size,45,[.bool sg,.slice a lm c,.slice b ld d]⟩] [⟨a,c,m⟩,⟨b,d,dn⟩] o n k xs W) (hn:n≤100000) (hb:ndig 256 m≤255)=>hlm▸put_ok o n k xs a c m W h (h.st.nat 0 rfl) hsm hb hn)
 have HPB:=qH (fun (o:Option Addr) (n k:Nat) (W:World) (h:NatW W a c m) (hb:255<ndig 256 m)=>hlm▸put_big o n k a c m W h hsm hb)
 have HSZ:=qH (fun (W:World) (h:NatW W a c m)=>hlm▸size_any a c m W h hsm)
 unfold eE at HPB
 have HQO:=qH (fun (o:Option Addr) (n k:Nat) (xs:List Nat) (a9:Option Addr) (c9:Nat) (W:World) (h:YB w [⟨w.heap.size,45,[.bool sg,.slice a lm c,.slice b ld d]⟩] [⟨a,c,m⟩,⟨b,d,dn⟩] o n k xs W) (h9:NatW W a9 c9 dd) (hn:n≤100000) (hb:ndig 256 dd≤255)=>put_ok o n k xs a9 c9 dd W h h9 hsd hb hn)
 have HQB:=qH (fun (o:Option Addr) (n k:Nat) (a9:Option Addr) (c9:Nat) (W:World) (h:NatW W a9 c9 dd) (hb:255<ndig 256 dd)=>put_big o n k a9 c9 dd W h hsd hb)
 have HSD:=qH (fun (a9:Option Addr) (c9:Nat) (W:World) (h:NatW W a9 c9 dd)=>size_any a9 c9 dd W h hsd)
 unfold eE at HQB
 clear hw1 hlm hld ha hb0 hsm hsd
 by_cases ht1:t=3
 case' pos=>have q3:((t:Int)==3)=true:=beq_iff_eq.2 (by omega)
 case' neg =>
  have q3:((t:Int)==3)=false:=beq_eq_false_iff_ne.2 (by omega)
  have q4:((t:Int)==4)=true:=beq_iff_eq.2 (by omega)
 all_goals
  clear ht1 ht
  go_enter Tryz.func28,Tryz.ntmps28
  go_upto_region 1 with fail
  (try simp only [HW1.out])
  have ⟨k0,k1,k2⟩:=HB1.out.cg3 0 rfl
  clear HW1
  go_wp2_with fail
  refine (HTAG.out w1).mono ?_
  rintro e w2 ⟨rfl,hb⟩
  have HY:=qH ((HB1.out.call hb).lit t)
  clear hb k0 k1 k2 HB1 HTAG
  go_upto_region 3 with fail
  obtain ⟨p2,hp2⟩:∃ p2,w2.heap.size=p2:=⟨_,rfl⟩
  rw [hp2] at HY
  (try simp only [hp2])
  clear hp2
  generalize w2.alloc (.cells #[BN t] 5)=w3 at HY ⊢
  have ⟨k0,k1,k2⟩:=HY.out.st.cg3 0 rfl
  go_wp2_with fail
  refine (HDEN.out w3 (HY.out.st.nat 1 rfl)).mono ?_
  rintro e w4 ⟨a4,c4,rfl,hn,hb⟩
  replace HY:=qH (HY.out.call hb)
  have HND:=qH hn
  clear hb hn k0 k1 k2
  have ⟨k0,k1,k2⟩:=HY.out.st.cg3 0 rfl
  go_wp2_with fail
  refine (HQO.out (some ⟨p2,0,none⟩) 1 1 [t] a4 c4 w4 HY.out HND.out (by omega) hdb).mono ?_
  rintro e w5 ⟨a5,c5,rfl,hy,hbw⟩
  replace HY:=qH hy
  clear hy hbw k0 k1 k2
  have ⟨k0,k1,k2⟩:=HY.out.st.cg3 0 rfl
  go_wp2_with fail
  refine (HNUM.out w5).mono ?_
  rintro e w6 ⟨rfl,hb⟩
  replace HY:=qH (HY.out.call hb)
  clear hb k0 k1 k2
  have ⟨k0,k1,k2⟩:=HY.out.st.cg3 0 rfl
  go_wp2_with fail
  refine (HABS.out w6).mono ?_
  rintro e w7 ⟨rfl,hb⟩
  replace HY:=qH (HY.out.call hb)
  clear hb k0 k1 k2
  go_wp2_with fail
  refine (HPB.out _ _ _ w7 (HY.out.st.nat 0 rfl) hmb).mono ?_
  rintro e w8 ⟨rfl,hb⟩
  replace HY:=qH (HY.out.call hb)
  clear hb
  have ⟨k0,k1,k2⟩:=HY.out.st.cg3 0 rfl
  go_wp2_with fail
  refine (HNUM.out w8).mono ?_
  rintro e w9 ⟨rfl,hb⟩
  replace HY:=qH (HY.out.call hb)
  clear hb k0 k1 k2
  have ⟨k0,k1,k2⟩:=HY.out.st.cg3 0 rfl
  go_wp2_with fail
  refine (HABS.out w9).mono ?_
  rintro e w10 ⟨rfl,hb⟩
  replace HY:=qH (HY.out.call hb)
  clear hb k0 k1 k2
  go_wp2_with fail
  refine (HSZ.out w10 (HY.out.st.nat 0 rfl)).mono ?_
  rintro e w11 ⟨rfl,hb⟩
  replace HY:=qH (HY.out.call hb)
  clear hb
  go_wp2_with fail
  refine (HWR.out ⟨#[110,117,109,98,101,114]⟩ (ndig 256 m:Int) w11).mono ?_
  rintro e w12 ⟨rfl,hf,hw⟩
  have HF:=qH hf
  have HBL:=qH (show Below w.heap.size w w12 from bthen HY.out.st.bel (hw▸belowBox _ _))
  clear hf hw
  go_wp2_with fail
  refine bodyPost_ret (v:=.tuple #[.slice none 0 0,eF w11.heap.size]) (by simp [results,Tryz.results28,go_sem]) rfl ?_
  exact ⟨_,rfl,⟨_,rfl,HF.out⟩,HBL.out,ErrN.eF HY.out.st.bel.size⟩
theorem enc_okF (t:Nat) (ht:t=3∨t=4) (sg:Bool) (a b:Option Addr) (c d lm ld m dn dd:Nat) (w:World) (hlm:lenW m=lm) (hld:lenW dn=ld) (ha:NatW w a c m) (hb0:NatW w b d dn) (hsm:lenW m≤1099511627776) (hsd:lenW dd≤1099511627776)
  (HTAG:Hid (∀ W,Calls Tryz.prog 77 #[.agg #[.bool sg,.slice a lm c,.slice b ld d]] W fun e w'=>e=.returned (.int .u8 t)∧Below W.heap.size W w'))
  (HNUM:Hid (∀ W,Calls Tryz.prog 45 #[.agg #[.bool sg,.slice a lm c,.slice b ld d]] W fun e w'=>e=.returned (.agg #[.bool sg,.slice a lm c])∧Below W.heap.size W w'))
  (HABS:Hid (∀ W,Calls Tryz.prog 46 #[.agg #[.bool sg,.slice a lm c]] W fun e w'=>e=.returned (.agg #[.slice a lm c])∧Below W.heap.size W w'))
  (HDEN:Hid (∀ W,NatW W b d dn→Calls Tryz.prog 48 #[.agg #[.bool sg,.slice a lm c,.slice b ld d]] W (RetN dd W))) (hdb:ndig 256 dd≤255) (hmb:ndig 256 m≤255) :
  Calls Tryz.prog 28 #[.agg #[.bool sg,.slice a lm c,.slice b ld d]] w (RetE9 (.ok (t::(ndig 256 dd::dig 256 dd++ndig 256 m::dig 256 m))) w):=by
 obtain ⟨w1,hw1⟩:∃ w1,w.alloc (.cells #[.bool sg,.slice a lm c,.slice b ld d] 45)=w1:=⟨_,rfl⟩
 have HW1:=qH hw1
 have HB1:=qH (show BS w [⟨w.heap.size,45,[.bool sg,.slice a lm c,.slice b ld d]⟩] [⟨a,c,m⟩,⟨b,d,dn⟩] w1 from hw1▸((BS.begin [⟨a,c,m⟩,⟨b,d,dn⟩] (fun y hy=>by
  rcases List.mem_cons.1 hy with rfl | hy
  ·
   exact ha
  ·
   rw [List.mem_singleton.1 hy];exact hb0)).alloc (p:=w.heap.size) rfl 45 [.bool sg,.slice a lm c,.slice b ld d] rfl))
 have HWR:=qH (fun (s:ByteArray) (k:Int) (W:World)=>(wrap_E 3 s k W))
 unfold eE at HWR
 have HPO:=qH (fun (o:Option Addr) (n k:Nat) (xs:List Nat) (W:World) (h:YB w [⟨w.heap.size,45,[.bool sg,.slice a lm c,.slice b ld d]⟩] [⟨a,c,m⟩,⟨b,d,dn⟩] o n k xs W) (hn:n≤100000) (hb:ndig 256 m≤255)=>hlm▸put_ok o n k xs a c m W h (h.st.nat 0 rfl) hsm hb hn)
 have HPB:=qH (fun (o:Option Addr) (n k:Nat) (W:World) (h:NatW W a c m) (hb:255<ndig 256 m)=>hlm▸put_big o n k a c m W h hsm hb)
 have HSZ:=qH (fun (W:World) (h:NatW W a c m)=>hlm▸size_any a c m W h hsm)
 unfold eE at HPB
 have HQO:=qH (fun (o:Option Addr) (n k:Nat) (xs:List Nat) (a9:Option Addr) (c9:Nat) (W:World) (h:YB w [⟨w.heap.size,45,[.bool sg,.slice a lm c,.slice b ld d]⟩] [⟨a,c,m⟩,⟨b,d,dn⟩] o n k xs W) (h9:NatW W a9 c9 dd) (hn:n≤100000) (hb:ndig 256 dd≤255)=>put_ok o n k xs a9 c9 dd W h h9 hsd hb hn)
 have HQB:=qH (fun (o:Option Addr) (n k:Nat) (a9:Option Addr) (c9:Nat) (W:World) (h:NatW W a9 c9 dd) (hb:255<ndig 256 dd)=>put_big o n k a9 c9 dd W h hsd hb)
 have HSD:=qH (fun (a9:Option Addr) (c9:Nat) (W:World) (h:NatW W a9 c9 dd)=>size_any a9 c9 dd W h hsd)
 unfold eE at HQB
 obtain ⟨l,hl⟩:∃ l,(t::(ndig 256 dd::dig 256 dd++ndig 256 m::dig 256 m))=l:=⟨_,rfl⟩
 have HLL:=qH (show 1+1+ndig 256 dd+1+ndig 256 m=l.length by
  rw [← hl];simp only [List.length_cons,List.length_append,List.length_nil,dig_len];omega)
 have HLE:=qH hl
 rw [hl]
 clear hl
 clear hw1 hlm hld ha hb0 hsm hsd
 by_cases ht1:t=3
 case' pos=>have q3:((t:Int)==3)=true:=beq_iff_eq.2 (by omega)
 case' neg =>
  have q3:((t:Int)==3)=false:=beq_eq_false_iff_ne.2 (by omega)
  have q4:((t:Int)==4)=true:=beq_iff_eq.2 (by omega)
 all_goals
  clear ht1 ht
  go_enter Tryz.func28,Tryz.ntmps28
  go_upto_region 1 with fail
  (try simp only [HW1.out])
  have ⟨k0,k1,k2⟩:=HB1.out.cg3 0 rfl
  clear HW1
  go_wp2_with fail
  refine (HTAG.out w1).mono ?_
  rintro e w2 ⟨rfl,hb⟩
  have HY:=qH ((HB1.out.call hb).lit t)
  clear hb k0 k1 k2 HB1 HTAG
  go_upto_region 3 with fail
  obtain ⟨p2,hp2⟩:∃ p2,w2.heap.size=p2:=⟨_,rfl⟩
  rw [hp2] at HY
  (try simp only [hp2])
  clear hp2
  generalize w2.alloc (.cells #[BN t] 5)=w3 at HY ⊢
  have ⟨k0,k1,k2⟩:=HY.out.st.cg3 0 rfl
  go_wp2_with fail
  refine (HDEN.out w3 (HY.out.st.nat 1 rfl)).mono ?_
  rintro e w4 ⟨a4,c4,rfl,hn,hb⟩
  replace HY:=qH (HY.out.call hb)
  have HND:=qH hn
  clear hb hn k0 k1 k2
  have ⟨k0,k1,k2⟩:=HY.out.st.cg3 0 rfl
  go_wp2_with fail
  refine (HQO.out (some ⟨p2,0,none⟩) 1 1 [t] a4 c4 w4 HY.out HND.out (by omega) hdb).mono ?_
  rintro e w5 ⟨a5,c5,rfl,hy,hbw⟩
  replace HY:=qH hy
  clear hy hbw k0 k1 k2
  have ⟨k0,k1,k2⟩:=HY.out.st.cg3 0 rfl
  go_wp2_with fail
  refine (HNUM.out w5).mono ?_
  rintro e w6 ⟨rfl,hb⟩
  replace HY:=qH (HY.out.call hb)
  clear hb k0 k1 k2
  have ⟨k0,k1,k2⟩:=HY.out.st.cg3 0 rfl
  go_wp2_with fail
  refine (HABS.out w6).mono ?_
  rintro e w7 ⟨rfl,hb⟩
  replace HY:=qH (HY.out.call hb)
  clear hb k0 k1 k2
  go_wp2_with fail
  refine (HPO.out a5 (1+1+ndig 256 dd) c5 ([t]++[ndig 256 dd]++dig 256 dd) w7 HY.out (by omega) hmb).mono ?_
  rintro e w8 ⟨a8,c8,rfl,hy,hbw⟩
  replace HY:=qH hy
  clear hy hbw
  go_wp2_with fail
  refine bodyPost_ret (v:=.tuple #[.slice a8 (1+1+ndig 256 dd+1+ndig 256 m) c8,.nilIface]) (by simp [results,Tryz.results28,go_sem]) rfl ?_
  have hl:=HY.out.len
  refine ⟨a8,c8,?_,?_,HY.out.st.bel⟩
  ·
   rw [← HLL.out]
  ·
   rw [← HLL.out,← HLE.out];have h9:=HY.out.mid;simp only [List.append_assoc,List.cons_append,List.nil_append] at h9 ⊢;exact h9
theorem enc_any (a b:Option Addr) (c d:Nat) (q:Rat) (w:World) (ha:NatW w a c q.num.natAbs) (hb:NatW w b d (denN q.den)) (hs:lenW q.num.natAbs≤1099511627776) (hd:lenW q.den≤1099511627776):Calls Tryz.prog 28 #[ratV a c b d q] w (RetE9 (encR q) w):=by
 have HNUM:=qH (fun W=>num_any a b c d q W)
 have HABS:=qH (fun W=>iabs_any (decide (q.num<0)) a c q.num.natAbs W)
 have HDEN:=qH (fun W (h:NatW W b d (denN q.den))=>den_any (decide (q.num<0)) a b (lenW q.num.natAbs) c d q W h)
 have HT:=fun (t:Nat) (ht:tagR q=t)=>qH (fun W=>show Calls Tryz.prog 77 #[ratV a c b d q] W fun e w'=>e=.returned (.int .u8 t)∧Below W.heap.size W w' from ht▸tag_any a b c d q W)
 have hm0:∀ {m:Nat},255<ndig 256 m→partB m=none:=fun h=>by unfold partB;rw [if_pos h]
 have hm1:∀ {m:Nat},ndig 256 m≤255→partB m=some (ndig 256 m::dig 256 m):=fun h=>by unfold partB;rw [if_neg (by omega)]
 unfold encR
 by_cases h0:q=0
 ·
  rw [if_pos h0]
  exact enc_zero0 _ a b c d _ _ _ _ _ w rfl rfl ha hb hs hd (HT 0 (by rw [h0];exact tagR_zero)) HNUM HABS HDEN
 ·
  rw [if_neg h0]
  have ht:=tagR_ne h0
  by_cases h1:q.den=1
  ·
   rw [if_pos h1]
   rw [if_pos h1] at ht
   simp only
   by_cases h2:q.num<0
   ·
    rw [if_pos h2] at ht
    by_cases hm:255<ndig 256 q.num.natAbs
    ·
     rw [hm0 hm];exact enc_nbigW 2 (.inr rfl) _ a b c d _ _ _ _ _ w rfl rfl ha hb hs hd (HT 2 ht) HNUM HABS HDEN hm
    ·
     rw [hm1 (by omega),ht];exact enc_okW 2 (.inr rfl) _ a b c d _ _ _ _ _ w rfl rfl ha hb hs hd (HT 2 ht) HNUM HABS HDEN (by omega)
   ·
    rw [if_neg h2] at ht
    by_cases hm:255<ndig 256 q.num.natAbs
    ·
     rw [hm0 hm];exact enc_nbigW 1 (.inl rfl) _ a b c d _ _ _ _ _ w rfl rfl ha hb hs hd (HT 1 ht) HNUM HABS HDEN hm
    ·
     rw [hm1 (by omega),ht];exact enc_okW 1 (.inl rfl) _ a b c d _ _ _ _ _ w rfl rfl ha hb hs hd (HT 1 ht) HNUM HABS HDEN (by omega)
  ·
   rw [if_neg h1]
   rw [if_neg h1] at ht
   by_cases h2:q.num<0
   ·
    rw [if_pos h2] at ht
    by_cases hdd:255<ndig 256 q.den
    ·
     rw [hm0 hdd];exact enc_dbigF 4 (.inr rfl) _ a b c d _ _ _ _ _ w rfl rfl ha hb hs hd (HT 4 ht) HNUM HABS HDEN hdd
    ·
     rw [hm1 (by omega)]
     simp only
     by_cases hm:255<ndig 256 q.num.natAbs
     ·
      rw [hm0 hm];exact enc_nbigF 4 (.inr rfl) _ a b c d _ _ _ _ _ w rfl rfl ha hb hs hd (HT 4 ht) HNUM HABS HDEN (by omega) hm
     ·
      rw [hm1 (by omega),ht];exact enc_okF 4 (.inr rfl) _ a b c d _ _ _ _ _ w rfl rfl ha hb hs hd (HT 4 ht) HNUM HABS HDEN (by omega) (by omega)
   ·
    rw [if_neg h2] at ht
    by_cases hdd:255<ndig 256 q.den
    ·
     rw [hm0 hdd];exact enc_dbigF 3 (.inl rfl) _ a b c d _ _ _ _ _ w rfl rfl ha hb hs hd (HT 3 ht) HNUM HABS HDEN hdd
    ·
     rw [hm1 (by omega)]
     simp only
     by_cases hm:255<ndig 256 q.num.natAbs
     ·
      rw [hm0 hm];exact enc_nbigF 3 (.inl rfl) _ a b c d _ _ _ _ _ w rfl rfl ha hb hs hd (HT 3 ht) HNUM HABS HDEN (by omega) hm
     ·
      rw [hm1 (by omega),ht];exact enc_okF 3 (.inl rfl) _ a b c d _ _ _ _ _ w rfl rfl ha hb hs hd (HT 3 ht) HNUM HABS HDEN (by omega) (by omega)
theorem ErrW.below {w w':World} {v:Value} {f:Flt} (h:ErrW w v f) (hb:Below w.heap.size w w'):ErrW w' v f:=by
 obtain ⟨n,at9⟩:=f
 cases at9 with
 | none=>exact h
 | some x =>
  obtain ⟨b,hv,hf⟩:=h
  exact ⟨b,hv,hf.below hb hf.lt⟩
theorem BS.pick3 {w W:World} {bs:List Bk} {ns:List Nm} (h:BS w bs ns W) (i j k:Nat) {x y z:Bk} (hi:bs[i]?=some x) (hj:bs[j]?=some y) (hk:bs[k]?=some z) (hij:i≠j) (hik:i≠k) (hjk:j≠k):BS w [x,y,z] ns W:=by
 have ne:∀ (i j:Nat) {x y:Bk},bs[i]?=some x→bs[j]?=some y→i≠j→x.p≠y.p:=fun i j x y hi hj hij=>by
  obtain ⟨li,rfl⟩:=List.getElem?_eq_some_iff.1 hi
  obtain ⟨lj,rfl⟩:=List.getElem?_eq_some_iff.1 hj
  have hp:=List.pairwise_iff_getElem.1 h.nod
  rcases Nat.lt_or_gt_of_ne hij with h1 | h1
  ·
   exact hp i j li lj h1
  ·
   exact fun e=>hp j i lj li h1 e.symm
 refine ⟨h.bel,fun b hb=>?_,?_,h.num⟩
 ·
  simp only [List.mem_cons,List.not_mem_nil,or_false] at hb
  rcases hb with rfl | rfl | rfl
  ·
   exact h.box _ (List.mem_of_getElem? hi)
  ·
   exact h.box _ (List.mem_of_getElem? hj)
  ·
   exact h.box _ (List.mem_of_getElem? hk)
 ·
  have h1:=ne i j hi hj hij
  have h2:=ne i k hi hk hik
  have h3:=ne j k hj hk hjk
  simp [h1,h2,h3]
theorem of_one (p:Nat) (W:World) (h:W.heap[p]?=some (.cells #[.int .u64 1] 164 (0,0))):Calls Tryz.prog 68 #[.slice (some ⟨p,0,none⟩) 1 1] W (RetN 1 W):=by
 have hs:Sl W 1 (.slice (some ⟨p,0,none⟩) 1 1) 1 ([1].map UV):=⟨rfl,.inr ⟨p,0,1,rfl,Nat.le_refl _,by unfold maxLen;omega,lt_of_block h,fun j u hj=>by
  match j,hj with
  | 0,hj=>injection hj with hj;subst hj;exact cell_of_block h rfl⟩⟩
 have:=of_any _ _ _ [1] W hs (fun x hx=>by rw [List.mem_singleton.1 hx];unfold W64;omega) (by omega)
 exact this
def RetD9 (r:Except Flt (Rat × Nat)) (w:World) (e:Ending) (w':World):Prop:=match r with
 | .error f=>∃ v,e=.returned (.tuple #[.agg #[.bool false,.slice none 0 0,.slice none 0 0],.int .i64 0,v])∧ErrW w' v f∧Below w.heap.size w w'
 | .ok x=>∃ a c b d,e=.returned (.tuple #[ratV a c b d x.1,.int .i64 x.2,.nilIface])∧NatW w' a c x.1.num.natAbs∧NatW w' b d (denN x.1.den)∧Below w.heap.size w w'
theorem IsF.keeps {w w':World} {S:Nat→Prop} {b:Nat} {s:ByteArray} {k n:Int} (h:IsF w b s k n) (hk:Keeps w w' S) (hn:¬ S b):IsF w' b s k n:=by
 have hl:=h.lt
 obtain ⟨h0,h1,h2⟩:=h
 exact ⟨(hk.cell (a:=⟨b,0,none⟩) hl hn).trans h0,(hk.cell (a:=⟨b,1,none⟩) hl hn).trans h1,(hk.cell (a:=⟨b,2,none⟩) hl hn).trans h2⟩
theorem wrap_at (n:Int) (s:ByteArray) (k:Int) (w:World):Calls Tryz.prog 79 #[.iface 52 (.int .i64 n),.string s,.int .i64 k] w fun e w'=>∃ pb,e=.returned (eF pb)∧w.heap.size≤pb∧IsF w' pb s k n∧Below w.heap.size w w' :=
 (wrap_E n s k w).mono fun _ _ h=>⟨_,h.1,Nat.le_refl _,h.2.1,h.2.2▸belowBox _ _⟩
theorem sgnI_abs (t p:Nat):(sgnI t p).natAbs=p:=by unfold sgnI;split <;> omega
theorem ptk_small {b:List Nat} {n:Nat} {r:List Nat} (hb:∀ x,x∈b→x<256) (h:takeB b=.ok (n,r)):n≠0∧lenW n≤4398046511104:=by
 obtain ⟨h0,l,hl,_,_⟩:=part_take hb h
 refine ⟨h0,?_⟩
 have h1:=(part_len hl).2
 have h2:=lt_ndig (B:=256) (by omega) n
 have h3:n<W64^32:=by
  refine Nat.lt_of_lt_of_le h2 (Nat.le_trans (Nat.pow_le_pow_right (by omega) h1) ?_)
  rw [show W64=256^8 from rfl,← Nat.pow_mul]
  exact Nat.pow_le_pow_right (by omega) (by omega)
 have:=lenW_le h3
 omega
theorem newI_sgn (t p:Nat) (ht:t≤4) (h0:t=0→p=0):newI (t==2 || t==4) p=sgnI t p:=by
 unfold newI sgnI
 rcases (show t=0∨t=1∨t=2∨t=3∨t=4 by omega) with rfl | rfl | rfl | rfl | rfl
 ·
  rw [h0 rfl];rfl
 ·
  rfl
 ·
  by_cases hp:p=0
  ·
   subst hp;rfl
  ·
   simp [hp]
 ·
  rfl
 ·
  by_cases hp:p=0
  ·
   subst hp;rfl
  ·
   simp [hp]
structure Tl (t n:Nat) (r:List Nat) (d p m:Nat):Prop where
 t4:t≤4
 d0:d≠0
 dw:lenW d≤4398046511104
 pw:lenW p≤4398046511104
 p0:t=0→p=0
 mn:m≤n
 res:decR (t::r)=if tagR (Rat.divInt (sgnI t p) (d:Int))=t∧(Rat.divInt (sgnI t p) (d:Int)).den=d then .ok (Rat.divInt (sgnI t p) (d:Int),n - m) else .error ⟨91,none⟩
theorem Tl.of {t n d p m:Nat} {r r3:List Nat} (t4:t≤4) (d0:d≠0) (dw:lenW d≤4398046511104) (pw:lenW p≤4398046511104) (p0:t=0→p=0) (hn:n=r.length+1) (hm:r3.length=m) (mn:m≤n)
  (h:decR (t::r)=if tagR (Rat.divInt (sgnI t p) (d:Int))=t∧(Rat.divInt (sgnI t p) (d:Int)).den=d then .ok (Rat.divInt (sgnI t p) (d:Int),(t::r).length - r3.length) else .error ⟨91,none⟩):Tl t n r d p m :=
 ⟨t4,d0,dw,pw,p0,mn,by rw [h,List.length_cons,hm,hn]⟩
def TailR (w:World) (t n:Nat) (r:List Nat) (p5 p6:Nat) (v7:Value) (wx:World):Prop:=∃ d p m an cn ad cd ar cr,v7=.slice ar m cr∧Tl t n r d p m∧BS w [⟨w.heap.size,45,[.bool false,.slice none 0 0,.slice none 0 0]⟩,⟨p5,41,[.slice ad (lenW d) cd]⟩,⟨p6,41,[.slice an (lenW p) cn]⟩] [⟨ad,cd,d⟩,⟨an,cn,p⟩] wx
theorem TailR.out {w:World} {t n:Nat} {r:List Nat} {p5 p6:Nat} {v7:Value} {wx:World} (h:TailR w t n r p5 p6 v7 wx):∃ d p m an cn ad cd ar cr,v7=.slice ar m cr∧Tl t n r d p m∧BS w [⟨w.heap.size,45,[.bool false,.slice none 0 0,.slice none 0 0]⟩,⟨p5,41,[.slice ad (lenW d) cd]⟩,⟨p6,41,[.slice an (lenW p) cn]⟩] [⟨ad,cd,d⟩,⟨an,cn,p⟩] wx:=h
theorem TailR.intro {w:World} {t n:Nat} {r:List Nat} {p5 p6:Nat} {wx:World} {d p m:Nat} {an ad ar:Option Addr} {cn cd cr:Nat} (h:Tl t n r d p m) (hb:BS w [⟨w.heap.size,45,[.bool false,.slice none 0 0,.slice none 0 0]⟩,⟨p5,41,[.slice ad (lenW d) cd]⟩,⟨p6,41,[.slice an (lenW p) cn]⟩] [⟨ad,cd,d⟩,⟨an,cn,p⟩] wx):TailR w t n r p5 p6 (.slice ar m cr) wx:=⟨d,p,m,an,cn,ad,cd,ar,cr,rfl,h,hb⟩
theorem dec_far {t:Nat} {r:List Nat} (h:4<t):decR (t::r)=.error ⟨91,none⟩:=by unfold decR;simp only;rw [if_neg (by omega),if_pos h]
theorem dec_den {t:Nat} {r:List Nat} {e:Int} (h3:3≤t) (h4:t≤4) (h:takeB r=.error e):decR (t::r)=.error ⟨e,some (sDiv,1)⟩:=by unfold decR;simp only;rw [if_neg (by omega),if_neg (by omega),if_pos h3,h]
theorem dec_num {t d:Nat} {r r2:List Nat} {e:Int} (h1:1≤t) (h4:t≤4) (hd:(if 3≤t then takeB r else .ok (1,r))=.ok (d,r2)) (h:takeB r2=.error e):decR (t::r)=.error ⟨e,some (sNum,(((t::r).length - r2.length:Nat):Int))⟩:=by unfold decR;simp only;rw [if_neg (by omega),if_neg (by omega),hd];simp only;rw [h]
theorem dec_end {t d p:Nat} {r r2 r3:List Nat} (h1:1≤t) (h4:t≤4) (hd:(if 3≤t then takeB r else .ok (1,r))=.ok (d,r2)) (h:takeB r2=.ok (p,r3)):decR (t::r)=if tagR (Rat.divInt (sgnI t p) d)=t∧(Rat.divInt (sgnI t p) d).den=d then .ok (Rat.divInt (sgnI t p) d,(t::r).length - r3.length) else .error ⟨91,none⟩:=by unfold decR;simp only;rw [if_neg (by omega),if_neg (by omega),hd];simp only;rw [h]
theorem dec_none (r:List Nat):decR (0::r)=if tagR (Rat.divInt (sgnI 0 0) ((1:Nat):Int))=0∧(Rat.divInt (sgnI 0 0) ((1:Nat):Int)).den=1 then .ok (Rat.divInt (sgnI 0 0) ((1:Nat):Int),(0::r).length - r.length) else .error ⟨91,none⟩:=by
 rw [if_pos ⟨by decide +kernel,by decide +kernel⟩,show Rat.divInt (sgnI 0 0) ((1:Nat):Int)=0 by decide +kernel]
 unfold decR
 simp only
 rw [if_pos trivial]
 congr 2
 simp only [List.length_cons];omega
end Go.Proofs.YtmhainidincjhaaGreatDoor
