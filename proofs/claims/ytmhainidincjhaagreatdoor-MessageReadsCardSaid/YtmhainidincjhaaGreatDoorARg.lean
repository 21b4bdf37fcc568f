/-
 What the laws stand on, part Rg: contracts and plain laws of FParse, FRead, FTake; the conditions are each law's own.
-/
import Derived.Test.YtmhainidincjhaaGreatDoorARb
import Derived.Test.YtmhainidincjhaaGreatDoorARa
import Derived.Test.YtmhainidincjhaaGreatDoorAV
import Derived.IntWalk
set_option linter.unusedVariables false
set_option linter.unusedSimpArgs false
set_option maxRecDepth 100000
set_option maxHeartbeats 16000000
namespace Go.Proofs.YtmhainidincjhaaGreatDoor
open Go.RowKit Go.Extern.Stop Go.Stop Go.Extern
def RetPO (o:Option Nat) (w:World) (e:Ending) (w':World):Prop:=match o with
 | none=>e=.returned (.tuple #[.slice none 0 0,.bool false])∧Below w.heap.size w w'
 | some x=>∃ a n c,e=.returned (.tuple #[.slice a n c,.bool true])∧RD w' a n c x∧OwnS w a n c∧Below w.heap.size w w'
theorem undig_nd {B:Nat} (hB:B≤65536) (l:List Nat) (h:∀ x∈l,x<B):nd (undig B l)≤l.length :=
 nd_le (Nat.lt_of_lt_of_le (undig_lt l h) (Nat.pow_le_pow_left hB _))
theorem f6parse (a:Option Addr) (n c:Nat) (bs:List Nat) (w:World) (h:BytesN w (.slice a n c) bs) (h8:∀ x,x∈bs→x<256) (hn:n≤1048576) :
  Calls Tryz.prog 154 #[.slice a n c] w (RetPO (if bs.head?=some 0 then none else some (undig 256 bs)) w):=by
 obtain ⟨hl,hcl,hcm⟩:=h.len
 have HAT:=Lib.hid (fun (W:World) (hb:Below w.heap.size w W) (k:Nat) (hk:k<n)=>(by
  obtain ⟨bb,o,c',e,_,_,hlt,hc⟩:=Sl.plain (BytesN.below h hb) (by omega)
  cases e
  have hkl:k<bs.length:=by omega
  refine ⟨bs[k],h8 _ (List.getElem_mem hkl),?_,bb,o,rfl,hlt,hc k _ (by rw [List.getElem?_map,List.getElem?_eq_getElem hkl];rfl)⟩
  rw [List.take_add_one,List.getElem?_eq_getElem hkl]
  exact undig_snoc 256 _ _:∃ b,b<256∧undig 256 (bs.take (k+1))=undig 256 (bs.take k)*256+b∧∃ bb o,a=some ⟨bb,o,none⟩∧bb<W.heap.size∧W.cell? ⟨bb,o+k,none⟩=some (.int .u8 (b:Nat))))
 have HND:=Lib.hid (fun k=>(by
  have:=undig_nd (B:=256) (by omega) (bs.take k) (fun x hx=>h8 x (List.mem_of_mem_take hx))
  rw [List.length_take] at this
  omega:nd (undig 256 (bs.take k))≤n))
 have HALL:=Lib.hid (show bs.take n=bs from List.take_of_length_le (by omega))
 rcases Nat.eq_zero_or_pos n with h0 | h0
 ·
  subst h0
  have hh:bs.head?≠some 0:=by rw [List.length_eq_zero_iff.1 hl.symm];simp
  rw [if_neg hh]
  clear h hh hl h8
  go_enter Tryz.func154,Tryz.ntmps154
  go_wp2_with fail
  go_loopw [4,5] (fun v4 v5 wr=>∃ (k:Nat) (a4:Option Addr) (n4 c4:Nat),k≤0∧v5=.int .i64 k∧v4=.slice a4 n4 c4∧RD wr a4 n4 c4 (undig 256 (bs.take k))∧OwnS w a4 n4 c4∧Below w.heap.size w wr) (fun _ v5 _=>0 - (intOf v5).toNat)
  case atStart=>exact ⟨0,none,0,0,Nat.zero_le _,rfl,rfl,by rw [List.take_zero,undig_nil];exact RD.nil w,OwnS.nil w,Below.refl _ _⟩
  case round =>
   obtain ⟨k,a4,n4,c4,hk,rfl,rfl,hr,hown,hbl⟩:=hrel
   have HOW:=Lib.hid hown
   clear hown
   by_cases hlt:k<0
   ·
    exact absurd hlt (by omega)
   ·
    obtain rfl:k=0:=by omega
    rw [HALL.out] at hr
    have HR:=Lib.hid hr
    have HB:=Lib.hid hbl
    clear hr hbl
    go_wp2_with fail
    go_ret2
    exact ⟨a4,n4,c4,rfl,HR.out,HOW.out,HB.out⟩
 ·
  obtain ⟨b0,hb0,_,bb,o,rfl,hbb,hc⟩:=HAT.out w (Below.refl _ _) 0 h0
  have hh:bs.head?=some b0:=by
   obtain ⟨bb2,o2,c',e,_,_,_,hc2⟩:=Sl.plain h (by omega)
   cases e
   have hkl:0<bs.length:=by omega
   have h9:=hc2 0 _ (by rw [List.getElem?_map,List.getElem?_eq_getElem hkl];rfl)
   rw [hc] at h9
   injection h9 with h9
   injection h9 with _ h9
   rw [List.head?_eq_getElem?,List.getElem?_eq_getElem hkl]
   congr 1
   omega
  rw [Nat.add_zero] at hc
  rw [hh]
  clear h hh hl h8
  by_cases hz:b0=0
  ·
   subst hz
   rw [if_pos rfl]
   go_enter Tryz.func154,Tryz.ntmps154
   go_wp2_with fail
   go_ret2
   exact ⟨rfl,Below.refl _ _⟩
  ·
   rw [if_neg (by simpa using hz)]
   have e0:((b0:Int)==0)=false:=beq_eq_false_iff_ne.2 (by omega)
   go_enter Tryz.func154,Tryz.ntmps154
   go_wp2_with fail
   clear hc e0 hbb
   go_loopw [4,5] (fun v4 v5 wr=>∃ (k:Nat) (a4:Option Addr) (n4 c4:Nat),k≤n∧v5=.int .i64 k∧v4=.slice a4 n4 c4∧RD wr a4 n4 c4 (undig 256 (bs.take k))∧OwnS w a4 n4 c4∧Below w.heap.size w wr) (fun _ v5 _=>n - (intOf v5).toNat)
   case atStart=>exact ⟨0,none,0,0,Nat.zero_le _,rfl,rfl,by rw [List.take_zero,undig_nil];exact RD.nil w,OwnS.nil w,Below.refl _ _⟩
   case round =>
    obtain ⟨k,a4,n4,c4,hk,rfl,rfl,hr,hown,hbl⟩:=hrel
    have HOW:=Lib.hid hown
    clear hown
    by_cases hlt:k<n
    ·
     obtain ⟨b,hb8,hst,hcell⟩:=HAT.out wr hbl k hlt
     have hn4:n4≤1048576:=by rw [hr.1];exact Nat.le_trans (HND.out k) (by omega)
     have HST:=Lib.hid hst
     generalize undig 256 (bs.take k)=x at hr HST
     have HR:=Lib.hid hr
     have HB:=Lib.hid hbl
     obtain ⟨bb2,o2,he,hbb,hc⟩:=hcell
     injection he with he
     injection he with he1 he2
     subst he1 he2
     have ew:IntKind.i64.wrap ((b:Nat):Int)=(b:Int):=by unfold IntKind.wrap;simp [IntKind.bits,IntKind.signed];omega
     clear hr hbl hst
     go_wp2_with fail
     refine (small_own a4 n4 c4 x 256 b _ HR.out (by omega) (by omega) (by omega)).mono ?_
     rintro e w5 ⟨a5,n5,c5,rfl,hn5,hd5⟩
     have HR5:=Lib.hid (show RD w5 a5 n5 c5 _ from ⟨hn5,hd5.dw⟩)
     have HOW5:=Lib.hid (hd5.own.base HB.out.size)
     have HB5:=Lib.hid (bthen HB.out hd5.bel)
     clear hn5 hd5 HOW
     go_wp2_with fail
     go_roundw
     case rel=>exact ⟨k+1,a5,n5,c5,by omega,by go_num,rfl,by rw [HST.out];exact HR5.out,HOW5.out,HB5.out⟩
     case measure=>simp [intOf];omega
    ·
     obtain rfl:k=n:=by omega
     rw [HALL.out] at hr
     have HR:=Lib.hid hr
     have HB:=Lib.hid hbl
     clear hr hbl
     go_wp2_with fail
     go_ret2
     exact ⟨a4,n4,c4,rfl,HR.out,HOW.out,HB.out⟩
def RetTK (n k:Nat) (bs:List Nat) (r:Except Int (Nat × List Nat)) (w:World) (e:Ending) (w':World):Prop:=match r with
 | .error x=>e=.returned (.tuple #[.slice none 0 0,.int .i64 0,.int .i64 x])∧Below w.heap.size w w'
 | .ok (x,rest)=>∃ a m c t,e=.returned (.tuple #[.slice a m c,.int .i64 (t:Nat),.int .i64 0])∧(RD w' a m c x∧OwnS w a m c)∧(x≠0∧rest=bs.drop (k+t)∧k+t≤n∧0<t)∧Below w.heap.size w w'
theorem f9take_short (a:Option Addr) (n c k:Nat) (w:World) (hc:n≤c∧c≤9223372036854775807) (hk:n≤k):Calls Tryz.prog 93 #[.slice a n c,.int .i64 k] w
  fun e w'=>e=.returned (.tuple #[.slice none 0 0,.int .i64 0,.int .i64 90])∧Below w.heap.size w w':=by
 go_enter Tryz.func93,Tryz.ntmps93
 go_wp2_with fail
 go_ret3
 exact ⟨rfl,Below.refl _ _⟩
theorem f9take_less (b o n c k m:Nat) (w:World) (hc:n≤c∧c≤9223372036854775807) (hk:k<n) (hb:b<w.heap.size) (hcell:w.cell? ⟨b,o+k,none⟩=some (.int .u8 (m:Nat))) (hm:m<256) (hn:n≤1048576) (hl:n - k - 1<m):Calls Tryz.prog 93 #[.slice (some ⟨b,o,none⟩) n c,.int .i64 k] w
  fun e w'=>e=.returned (.tuple #[.slice none 0 0,.int .i64 0,.int .i64 90])∧Below w.heap.size w w':=by
 have ew:IntKind.i64.wrap ((m:Nat):Int)=(m:Int):=IntWalk.i64_in _ (by omega)
 have e1:IntKind.i64.wrap ((n:Int) - (k:Int))=(n:Int) - (k:Int):=IntWalk.i64_in _ (by omega)
 have e2:IntKind.i64.wrap ((n:Int) - (k:Int) - 1)=(n:Int) - (k:Int) - 1:=IntWalk.i64_in _ (by omega)
 have h1:(n:Int) - (k:Int) - 1<(m:Int):=by omega
 go_enter Tryz.func93,Tryz.ntmps93
 go_wp2_with fail
 go_ret3
 exact ⟨rfl,Below.refl _ _⟩
theorem f9take_go (b o n c k m j i:Nat) (r:Option Nat) (w:World) (hc:n≤c∧c≤9223372036854775807) (hk:k<n) (hb:b<w.heap.size) (hcell:w.cell? ⟨b,o+k,none⟩=some (.int .u8 (m:Nat))) (hm:m<256) (hn:n≤1048576) (hl:¬ n - k - 1<m) (hj:k+1=j) (hi:j+m=i) (hcj:¬ c=j)
  (HP:Hid (∀ W,Below w.heap.size w W→Calls Tryz.prog 154 #[.slice (some ⟨b,o+j,none⟩) (i - j) (c - j)] W (RetPO r W))):Calls Tryz.prog 93 #[.slice (some ⟨b,o,none⟩) n c,.int .i64 k] w
  fun e w'=>match r with
   | none=>e=.returned (.tuple #[.slice none 0 0,.int .i64 0,.int .i64 91])∧Below w.heap.size w w'
   | some x=>if x=0 then e=.returned (.tuple #[.slice none 0 0,.int .i64 0,.int .i64 91])∧Below w.heap.size w w' else ∃ a2 n2 c2,e=.returned (.tuple #[.slice a2 n2 c2,.int .i64 ((m:Int)+1),.int .i64 0])∧RD w' a2 n2 c2 x∧OwnS w a2 n2 c2∧Below w.heap.size w w':=by
 have ew:IntKind.i64.wrap ((m:Nat):Int)=(m:Int):=IntWalk.i64_in _ (by omega)
 have e1:IntKind.i64.wrap ((n:Int) - (k:Int))=(n:Int) - (k:Int):=IntWalk.i64_in _ (by omega)
 have e2:IntKind.i64.wrap ((n:Int) - (k:Int) - 1)=(n:Int) - (k:Int) - 1:=IntWalk.i64_in _ (by omega)
 have h1:¬ (n:Int) - (k:Int) - 1<(m:Int):=by omega
 have e3:(k:Int)+1=(j:Int):=by omega
 have e4:(j:Int)+(m:Int)=(i:Int):=by omega
 have h2:j≤i:=by omega
 have h3:i≤c:=by omega
 have hji:i≤1048576:=by omega
 clear hi hj
 go_enter Tryz.func93,Tryz.ntmps93
 go_wp2_with fail
 clear e3 e4 h2 h3 hji e1 e2 h1 hl hcell
 refine (HP.out _ (Below.refl _ _)).mono ?_
 intro e w1 hr
 cases r with
 | none =>
  obtain ⟨rfl,hb1⟩:=hr
  have HB:=Lib.hid hb1
  clear hb1
  go_wp2_with fail
  go_ret3
  exact ⟨rfl,HB.out⟩
 | some x =>
  obtain ⟨a2,n2,c2,rfl,hr,how,hb1⟩:=hr
  have HOW:=Lib.hid how
  clear how
  have HB:=Lib.hid hb1
  have hl2:=hr.len
  by_cases hx:x=0
  ·
   simp only [if_pos hx]
   obtain rfl:n2=0:=by rw [hr.1,hx,nd_zero]
   clear hr hb1
   go_wp2_with fail
   go_ret3
   exact ⟨rfl,HB.out⟩
  ·
   simp only [if_neg hx]
   have hn2:0<n2:=by have:=hr.1;have:=(not_congr (nd_eq0 (y:=x))).2 hx;omega
   have e5:((n2:Int)==0)=false:=beq_eq_false_iff_ne.2 (by omega)
   have HR:=Lib.hid hr
   clear hr hb1
   go_wp2_with fail
   go_ret3
   exact ⟨a2,n2,c2,rfl,HR.out,HOW.out,HB.out⟩
theorem f9take_end (b o n c k m j i:Nat) (w:World) (hc:n≤c∧c≤9223372036854775807) (hk:k<n) (hb:b<w.heap.size) (hcell:w.cell? ⟨b,o+k,none⟩=some (.int .u8 (m:Nat))) (hm:m<256) (hn:n≤1048576) (hl:¬ n - k - 1<m) (hj:k+1=j) (hi:j+m=i) (hcj:c=j) (hm0:m=0)
  (HP:Hid (∀ W,Below w.heap.size w W→Calls Tryz.prog 154 #[.slice (some ⟨b,o,none⟩) 0 0] W (RetPO (some 0) W))):Calls Tryz.prog 93 #[.slice (some ⟨b,o,none⟩) n c,.int .i64 k] w
  fun e w'=>e=.returned (.tuple #[.slice none 0 0,.int .i64 0,.int .i64 91])∧Below w.heap.size w w':=by
 subst hm0
 subst hcj
 obtain rfl:c=i:=by omega
 have ew:IntKind.i64.wrap ((0:Nat):Int)=((0:Nat):Int):=IntWalk.i64_in _ (by omega)
 have e1:IntKind.i64.wrap ((n:Int) - (k:Int))=(n:Int) - (k:Int):=IntWalk.i64_in _ (by omega)
 have e2:IntKind.i64.wrap ((n:Int) - (k:Int) - 1)=(n:Int) - (k:Int) - 1:=IntWalk.i64_in _ (by omega)
 have h1:¬ (n:Int) - (k:Int) - 1<((0:Nat):Int):=by omega
 have e3:(k:Int)+1=(c:Int):=by omega
 have e4:(c:Int)+((0:Nat):Int)=(c:Int):=by omega
 have h2:c≤c:=by omega
 have h3:c≤c:=by omega
 have hji:c≤1048576:=by omega
 clear hi hj
 go_enter Tryz.func93,Tryz.ntmps93
 go_wp2_with fail
 clear e3 e4 h2 h3 hji e1 e2 h1 hl hcell
 refine (HP.out _ (Below.refl _ _)).mono ?_
 rintro e w1 ⟨a2,n2,c2,rfl,hr,_,hb1⟩
 have HB:=Lib.hid hb1
 have hl2:=hr.len
 obtain rfl:n2=0:=by rw [hr.1,nd_zero]
 clear hr hb1
 go_wp2_with fail
 go_ret3
 exact ⟨rfl,HB.out⟩
theorem f9take (a:Option Addr) (n c k:Nat) (bs:List Nat) (w:World) (h:BytesN w (.slice a n c) bs) (h8:∀ x,x∈bs→x<256) (hn:n≤1048576):Calls Tryz.prog 93 #[.slice a n c,.int .i64 k] w (RetTK n k bs (takeB (bs.drop k)) w):=by
 obtain ⟨hl,hcl,hcm,_⟩:=h.len
 rcases Nat.lt_or_ge k n with hk | hk
 ·
  have hkl:k<bs.length:=by omega
  obtain ⟨bb,o,c',e,_,_,hlt,hc⟩:=Sl.plain h (by omega)
  injection e with e1 e2 e3
  subst e1
  have hcell:=hc k _ (by rw [List.getElem?_map,List.getElem?_eq_getElem hkl];rfl)
  rw [List.drop_eq_getElem_cons hkl]
  have hm:=h8 _ (List.getElem_mem hkl)
  generalize bs[k]=m at hcell hm
  unfold takeB
  simp only
  have hdl:(bs.drop (k+1)).length=n - k - 1:=by rw [List.length_drop];omega
  rw [hdl]
  by_cases hlm:n - k - 1<m
  ·
   rw [if_pos hlm]
   exact f9take_less bb o n c k m w ⟨hcl,hcm⟩ hk hlt hcell hm hn hlm
  ·
   rw [if_neg hlm]
   have hsub:=fun (W:World) (hb:Below w.heap.size w W)=>(h.below hb).sub (k+1) (k+1+m) (by omega) (by omega)
   rw [show (bs.take (k+1+m)).drop (k+1)=(bs.drop (k+1)).take m by rw [List.drop_take];congr 1;omega] at hsub
   have hP:=fun (W:World) (hb:Below w.heap.size w W)=>f6parse _ _ _ _ W (hsub W hb) (fun x hx=>h8 x (List.mem_of_mem_drop (List.mem_of_mem_take hx))) (by omega)
   by_cases hcj:c=k+1
   ·
    obtain rfl:m=0:=by omega
    rw [if_pos (.inr rfl)]
    refine f9take_end bb o n c k 0 (k+1) (k+1+0) w ⟨hcl,hcm⟩ hk hlt hcell hm hn hlm rfl rfl hcj rfl (Lib.hid fun W hb=>?_)
    have h9:=hP W hb
    rw [if_pos hcj,show k+1+0 - (k+1)=0 by omega,show c - (k+1)=0 by omega] at h9
    exact h9
   have hP2:=fun (W:World) (hb:Below w.heap.size w W)=>(by have h9:=hP W hb;rw [if_neg hcj] at h9;exact h9:Calls Tryz.prog 154 #[.slice (some ⟨bb,o+(k+1),none⟩) (k+1+m - (k+1)) (c - (k+1))] W (RetPO (if ((bs.drop (k+1)).take m).head?=some 0 then none else some (undig 256 ((bs.drop (k+1)).take m))) W))
   obtain ⟨r,hr⟩:∃ r,(if ((bs.drop (k+1)).take m).head?=some 0 then none else some (undig 256 ((bs.drop (k+1)).take m)))=r:=⟨_,rfl⟩
   rw [hr] at hP2
   have hp:=f9take_go bb o n c k m (k+1) (k+1+m) r w ⟨hcl,hcm⟩ hk hlt hcell hm hn hlm rfl rfl hcj (Lib.hid hP2)
   refine hp.mono fun e w' hh=>?_
   by_cases h0:((bs.drop (k+1)).take m).head?=some 0
   ·
    rw [if_pos h0] at hr
    subst hr
    rw [if_pos (.inl h0)]
    exact hh
   ·
    rw [if_neg h0] at hr
    subst hr
    by_cases hx:undig 256 ((bs.drop (k+1)).take m)=0
    ·
     rw [if_pos (.inr hx)]
     simp only [if_pos hx] at hh
     exact hh
    ·
     rw [if_neg (by rintro (q | q);exact h0 q;exact hx q)]
     simp only [if_neg hx] at hh
     obtain ⟨a2,n2,c2,he,hr,how,hb⟩:=hh
     exact ⟨a2,n2,c2,m+1,by rw [he];congr 1,⟨hr,how⟩,⟨hx,by rw [List.drop_drop];congr 1;omega,by omega,by omega⟩,hb⟩
 ·
  rw [List.drop_eq_nil_of_le (by omega)]
  exact f9take_short a n c k w ⟨hcl,hcm⟩ hk
end Go.Proofs.YtmhainidincjhaaGreatDoor
