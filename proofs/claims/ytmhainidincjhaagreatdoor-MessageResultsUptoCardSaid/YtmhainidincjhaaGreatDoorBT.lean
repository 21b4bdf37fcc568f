/-
 What the laws stand on, part T: contracts and plain laws of RMem, RNext, RPick, RId, Rnd2, RRat, ROB, REnts, RdL, REnd; the conditions are each law's own.
-/
import Derived.Test.YtmhainidincjhaaGreatDoorBP
import Derived.Deep.QuietTactic
import Derived.BigQuiet
import Derived.IntWalk
import Derived.Test.YtmhainidincjhaaGreatDoorBL
import Derived.Test.YtmhainidincjhaaGreatDoorBY
import Derived.Test.YtmhainidincjhaaGreatDoorBA
import Derived.Lib.ReflectliteSwap
import Derived.Test.YtmhainidincjhaaGreatDoorBN
set_option linter.unusedVariables false
set_option linter.unusedSimpArgs false
set_option maxRecDepth 100000
set_option maxHeartbeats 16000000
namespace Go.Proofs.YtmhainidincjhaaGreatDoor
open Go.RowKit Go.Extern.Stop Go.Stop Go.Extern
abbrev rBox (pb:Nat) (ba:Option Addr) (n c:Nat) (k:Nat) (ev:Value):Bk:=⟨pb,158,[.slice ba n c,.int .i64 k,ev]⟩
def RSt (w:World) (pb n k:Nat) (ev:Value) (st:RS):Prop:=match st with
 | .ok a=>ev=.nilIface∧k=a∧a≤n
 | .error x=>ErrB w (fun b=>b≠pb) ev x.1 x.2
def RdW (w0:World) (bs:List Bk) (ns:List Nm) (pb:Nat) (ba:Option Addr) (n c:Nat) (st:RS) (w:World):Prop:=∃ k ev,BS w0 (rBox pb ba n c k ev::bs) ns w∧RSt w pb n k ev st∧k≤n
def rfailed (st:RS) (e:Int) (k:Nat):RS:=match st with
 | .ok _=>.error (e,k)
 | .error x=>.error x
theorem rfail_first {w0:World} {bs:List Bk} {ns:List Nm} {pb:Nat} {ba:Option Addr} {n c:Nat} (k:Nat) (T:TypeId) (u:Value) (w:World) (h:BS w0 (rBox pb ba n c k .nilIface::bs) ns w) :
  Calls Tryz.prog 129 #[.pointer (some ⟨pb,0,none⟩),.iface T u] w fun e w'=>e=.returned (.tuple #[])∧BS w0 (rBox pb ba n c k (eF w.heap.size)::bs) ns w'∧IsAt w' w.heap.size k (.iface T u)∧Keeps w w' (fun b=>b=pb):=by
 have k1:=h.cell 0 1 rfl rfl
 have k2:=h.cell 0 2 rfl rfl
 have f2:=h.free 0 2 rfl
 have lp:=h.lt 0 rfl
 have HY:=qH h
 clear h
 go_enter Tryz.func129,Tryz.ntmps129
 go_wp2_with fail
 refine (wrap_gen T u _ _ _).mono ?_
 rintro e w1 ⟨rfl,hw⟩
 unfold eF
 have hb1:=belowBox w (.cells #[.string ⟨#[98,121,116,101]⟩,.int .i64 k,.iface T u] 215)
 have hnew:=heap_alloc_new w (.cells #[.string ⟨#[98,121,116,101]⟩,.int .i64 k,.iface T u] 215)
 rw [← hw] at hb1 hnew
 have HY1:=qH (HY.out.call hb1)
 have HB1:=qH hb1
 have HNW:=qH hnew
 clear hb1 hnew hw k1 k2 f2
 have k2:=HY1.out.cell 0 2 rfl rfl
 have f2:=HY1.out.free 0 2 rfl
 go_wp2_with fail
 go_end0
 have hk:=Keeps.setCell w1 ⟨pb,2,none⟩ (eF w.heap.size) (S:=fun z=>z=pb) rfl
 refine ⟨rfl,HY1.out.set 0 2 rfl rfl (fun _=>by simp) (eF w.heap.size),?_,?_⟩
 ·
  have hne:¬ (w.heap.size=pb):=by omega
  exact (show IsAt w1 w.heap.size k (.iface T u) from ⟨cell_of_block HNW.out rfl,cell_of_block HNW.out rfl,cell_of_block HNW.out rfl⟩).keeps hk hne
 ·
  exact (Keeps.of_below HB1.out fun b hb hl=>by omega).trans hk fun _ _ h=>h
theorem rfail_more {w0:World} {bs:List Bk} {ns:List Nm} {pb:Nat} {ba:Option Addr} {n c:Nat} (k eb:Nat) (v:Value) (w:World) (h:BS w0 (rBox pb ba n c k (eF eb)::bs) ns w) :
  Calls Tryz.prog 129 #[.pointer (some ⟨pb,0,none⟩),v] w fun e w'=>e=.returned (.tuple #[])∧w'=w:=by
 have k2:=h.cell 0 2 rfl rfl
 clear h
 unfold eF at k2
 go_enter Tryz.func129,Tryz.ntmps129
 go_wp2_with fail
 go_end0
 exact ⟨rfl,rfl⟩
theorem rfail_any {w0:World} {bs:List Bk} {ns:List Nm} {pb:Nat} {ba:Option Addr} {n c:Nat} (k:Nat) (ev:Value) (st:RS) (T:TypeId) (u:Value) (e:Int) (w:World) (h:BS w0 (rBox pb ba n c k ev::bs) ns w) (hs:RSt w pb n k ev st) (hu:Value.iface T u=eE e∨∃ fb s j,Value.iface T u=eF fb∧fb≠pb∧IsF w fb s j e) :
  Calls Tryz.prog 129 #[.pointer (some ⟨pb,0,none⟩),.iface T u] w fun r w'=>∃ ev',r=.returned (.tuple #[])∧BS w0 (rBox pb ba n c k ev'::bs) ns w'∧RSt w' pb n k ev' (rfailed st e k):=by
 cases st with
 | ok a =>
  obtain ⟨rfl,rfl,_⟩:=hs
  have hpb:pb<w.heap.size:=h.lt 0 rfl
  refine (rfail_first k T u w h).mono fun r w' hh=>?_
  obtain ⟨he,hy,hb,hk⟩:=hh
  refine ⟨_,he,hy,⟨w.heap.size,_,rfl,by omega,hb,?_⟩⟩
  rcases hu with hu | ⟨fb,s,j,hu,hne,hf⟩
  ·
   exact .inl hu
  ·
   exact .inr ⟨fb,s,j,hu,hne,hf.keeps' hk hne⟩
 | error x =>
  have hs0:=hs
  obtain ⟨eb,u2,rfl,hr⟩:=hs
  refine (rfail_more k eb _ w h).mono fun r w' hh=>?_
  obtain ⟨he,rfl⟩:=hh
  exact ⟨_,he,h,hs0⟩
def NextR (w0:World) (bs:List Bk) (ns:List Nm) (pb:Nat) (ba:Option Addr) (n c m:Nat) (ys:List Nat) (st:RS) (e:Ending) (w':World):Prop:=∃ a' c',e=.returned (.slice a' m c')∧BytesN w' (.slice a' m c') ys∧RdW w0 bs ns pb ba n c st w'∧((∃ k,st=.ok k)→BytesN w0 (.slice a' m c') ys)
theorem RdW.call {w0 w w':World} {bs:List Bk} {ns:List Nm} {pb:Nat} {ba:Option Addr} {n c:Nat} {st:RS} (h:RdW w0 bs ns pb ba n c st w) (hb:Below w.heap.size w w'):RdW w0 bs ns pb ba n c st w':=by
 obtain ⟨k,ev,hy,hs,hk⟩:=h
 refine ⟨k,ev,hy.call hb,?_,hk⟩
 cases st with
 | ok a=>exact hs
 | error x=>exact ErrB.keeps hs (Keeps.of_below hb (S:=fun k=>w.heap.size≤k) fun b h1 _=>h1) (fun b hl _ h2=>by have h2:w.heap.size≤b:=h2;omega) (fun b _ h=>h)
theorem zeros_bytes (m:Nat) (W:World) (hm:m≤9223372036854775807):BytesN (W.alloc (.cells (zeroB m) 5)) (.slice (some ⟨W.heap.size,0,none⟩) m m) (List.replicate m 0):=by
 have h:=Sl.lit W 5 1 m ((List.replicate m 0).map BN) (by unfold maxLen;omega) (by simp)
 have hl:(List.replicate m 0).length=m:=List.length_replicate
 unfold BytesN
 rw [hl]
 exact h
theorem rnext_err {w0:World} {bs:List Bk} {ns:List Nm} {pb:Nat} {ba:Option Addr} {n c:Nat} (m k eb:Nat) (x:Int × Nat) (w:World) (h:BS w0 (rBox pb ba n c k (eF eb)::bs) ns w) (hs:RSt w pb n k (eF eb) (.error x)) (hk:k≤n) (hm:m≤1099511627776) :
  Calls Tryz.prog 111 #[.pointer (some ⟨pb,0,none⟩),.int .i64 m] w (NextR w0 bs ns pb ba n c m (List.replicate m 0) (.error x)):=by
 have HF:=qH fun (w:World) (h:BS w0 (rBox pb ba n c k (eF eb)::bs) ns w)=>rfail_more k eb (.iface 52 (.int .i64 90)) w h
 have hmk:=make_bytes (m:Int) m rfl (by omega)
 have k2:=h.cell 0 2 rfl rfl
 have HY:=qH h
 have HR:=qH (show RdW w0 bs ns pb ba n c (.error x) w from ⟨k,_,h,hs,hk⟩)
 unfold eF at k2
 clear h hs
 go_enter Tryz.func111,Tryz.ntmps111
 go_wp2_with fail
 go_quiet (fail)
 go_wp2_with fail
 refine (HF.out _ (HY.out.drewN _)).mono ?_
 rintro e w2 ⟨rfl,hw2⟩
 have HR2:=qH (show RdW w0 bs ns pb ba n c (.error x) w2 from by rw [hw2];exact HR.out.call (belowDrawn (Below.refl _ _) _))
 clear HF hw2 k2
 go_wp2_with fail
 go_ret
 exact ⟨_,_,rfl,zeros_bytes m w2 (by omega),HR2.out.call (belowBox _ _),fun ⟨_,h⟩=>by cases h⟩
theorem rnext_short {w0:World} {bs:List Bk} {ns:List Nm} {pb:Nat} {ba:Option Addr} {n c:Nat} (m k:Nat) (w:World) (h:BS w0 (rBox pb ba n c k .nilIface::bs) ns w) (hk:k≤n) (hn:n≤1099511627776) (hm:m≤1099511627776) (hlt:n - k<m) :
  Calls Tryz.prog 111 #[.pointer (some ⟨pb,0,none⟩),.int .i64 m] w (NextR w0 bs ns pb ba n c m (List.replicate m 0) (.error (90,k))):=by
 have HF:=qH fun (w:World) (h:BS w0 (rBox pb ba n c k .nilIface::bs) ns w)=>rfail_any k .nilIface (.ok k) 52 (.int .i64 90) 90 w h ⟨rfl,rfl,hk⟩ (.inl rfl)
 have hmk:=make_bytes (m:Int) m rfl (by omega)
 have k0:=h.cell 0 0 rfl rfl
 have k1:=h.cell 0 1 rfl rfl
 have k2:=h.cell 0 2 rfl rfl
 have HY:=qH h
 have e1:IntKind.i64.wrap ((n:Int) - (k:Int))=(n:Int) - (k:Int):=IntWalk.i64_in _ (by omega)
 have e2:decide ((n:Int) - (k:Int)<(m:Int))=true:=decide_eq_true (by omega)
 clear h
 go_enter Tryz.func111,Tryz.ntmps111
 go_wp2_with fail
 go_quiet (fail)
 go_wp2_with fail
 refine (HF.out _ (HY.out.drewN _)).mono ?_
 rintro e w2 ⟨ev,rfl,hy2,hs2⟩
 have HR2:=qH (show RdW w0 bs ns pb ba n c (.error (90,k)) w2 from ⟨k,ev,hy2,hs2,hk⟩)
 clear HF hy2 hs2 k0 k1 k2 e1 e2
 go_wp2_with fail
 go_ret
 exact ⟨_,_,rfl,zeros_bytes m w2 (by omega),HR2.out.call (belowBox _ _),fun ⟨_,h⟩=>by cases h⟩
theorem rnext_good {w0:World} {bs:List Bk} {ns:List Nm} {pb:Nat} {ba:Option Addr} {n c:Nat} (m k:Nat) (data:List Nat) (w:World) (h:BS w0 (rBox pb ba n c k .nilIface::bs) ns w) (hd:BytesN w0 (.slice ba n c) data) (hk:k≤n) (hn:n≤1099511627776) (hm:m≤1099511627776) (hle:k+m≤n) :
  Calls Tryz.prog 111 #[.pointer (some ⟨pb,0,none⟩),.int .i64 m] w (NextR w0 bs ns pb ba n c m ((data.drop k).take m) (.ok (k+m))):=by
 have hsub:=hd.sub k (k+m) (by omega) (by omega)
 rw [show k+m - k=m by omega,show (data.take (k+m)).drop k=(data.drop k).take m by rw [List.drop_take];congr 1;omega] at hsub
 have HSB:=qH hsub
 have hcap:=hd.len
 have k0:=h.cell 0 0 rfl rfl
 have k1:=h.cell 0 1 rfl rfl
 have k2:=h.cell 0 2 rfl rfl
 have f1:=h.free 0 1 rfl
 have HY:=qH h
 have e1:IntKind.i64.wrap ((n:Int) - (k:Int))=(n:Int) - (k:Int):=IntWalk.i64_in _ (by omega)
 have e2:decide ((n:Int) - (k:Int)<(m:Int))=false:=decide_eq_false (by omega)
 have c1:n≤c:=hcap.2.1
 have c2:c≤9223372036854775807:=hcap.2.2.1
 clear h hsub hd hcap
 go_enter Tryz.func111,Tryz.ntmps111
 go_wp2_with fail
 go_quiet (fail)
 go_upto_region 5 with fail
 obtain ⟨w1,hw1⟩:∃ w1,w1=w.drewN nq:=⟨_,rfl⟩
 rw [← hw1]
 have hy1:BS w0 (rBox pb ba n c k .nilIface::bs) ns w1:=hw1▸HY.out.drewN nq
 have hy2:=hy1.set 0 1 rfl rfl (fun _=>by simp) (.int .i64 ((k:Int)+(m:Int)))
 obtain ⟨w2,hw2⟩:∃ w2,w2=w1.setCell ⟨pb,1,none⟩ (.int .i64 ((k:Int)+(m:Int))):=⟨_,rfl⟩
 rw [← hw2] at hy2 ⊢
 clear k0 k1 k2 f1 e1 e2 hw1 hw2 hy1
 have k0:=hy2.cell 0 0 rfl rfl
 have k1:=hy2.cell 0 1 rfl rfl
 have HY2:=qH hy2
 have HC:=qH (show ((k+m:Nat):Int)=(k:Int)+(m:Int) by omega)
 clear hy2
 have e3:IntKind.i64.wrap ((k:Int)+(m:Int) - (m:Int))=(k:Int):=by rw [show (k:Int)+(m:Int) - (m:Int)=(k:Int) by omega];exact IntWalk.i64_in _ (by omega)
 have e4:(k:Int)+(m:Int)≤(c:Int):=by omega
 have e5:(k:Int)≤(k:Int)+(m:Int):=by omega
 have e6:(0:Int)≤(k:Int)+(m:Int):=by omega
 have e7:((k:Int)+(m:Int)).toNat=k+m:=by omega
 go_quiet (fail)
 clear k0 k1 e3 e4 e5 e6 e7
 generalize (if c=k then ba else Option.map (fun x=>x.add k) ba)=va at HSB ⊢
 generalize c - k=vc at HSB ⊢
 go_wp2_with fail
 go_ret
 exact ⟨_,_,rfl,HSB.out.below (HY2.out.drewN _).bel,⟨k+m,.nilIface,by have h:=HY2.out.drewN nq;rw [← HC.out] at h;exact h,⟨rfl,rfl,by omega⟩,by omega⟩,fun _=>HSB.out⟩
theorem rnext_any {w0:World} {bs:List Bk} {ns:List Nm} {pb:Nat} {ba:Option Addr} {n c:Nat} (m:Nat) (data:List Nat) (st:RS) (w:World) (h:RdW w0 bs ns pb ba n c st w) (hd:BytesN w0 (.slice ba n c) data) (hn:n≤1099511627776) (hm:m≤1099511627776) :
  Calls Tryz.prog 111 #[.pointer (some ⟨pb,0,none⟩),.int .i64 m] w (NextR w0 bs ns pb ba n c m (rNext data m st).1 (rNext data m st).2):=by
 obtain ⟨k,ev,hy,hs,hk⟩:=h
 have hl:=hd.len.1
 cases st with
 | error x =>
  have hs0:=hs
  obtain ⟨eb,u,rfl,_⟩:=hs
  exact rnext_err m k eb x w hy hs0 hk hm
 | ok a =>
  obtain ⟨rfl,rfl,_⟩:=hs
  unfold rNext
  simp only
  by_cases hlt:data.length - k<m
  ·
   rw [if_pos hlt]
   exact rnext_short m k w hy hk hn hm (by omega)
  ·
   rw [if_neg hlt]
   exact rnext_good m k data w hy hd hk hn hm (by omega)
def IntR (w0:World) (bs:List Bk) (ns:List Nm) (pb:Nat) (ba:Option Addr) (n c:Nat) (v:Int) (st:RS) (e:Ending) (w':World):Prop:=e=.returned (.int .i64 v)∧RdW w0 bs ns pb ba n c st w'
theorem rpick_err {w0:World} {bs:List Bk} {ns:List Nm} {pb:Nat} {ba:Option Addr} {n c:Nat} (x:Nat) (lo hi:Int) (z:Int × Nat) (w:World) (hx:x<256) (HNX:Hid (Calls Tryz.prog 111 #[.pointer (some ⟨pb,0,none⟩),.int .i64 1] w (NextR w0 bs ns pb ba n c 1 [x] (.error z)))) :
  Calls Tryz.prog 63 #[.pointer (some ⟨pb,0,none⟩),.int .i64 lo,.int .i64 hi] w (IntR w0 bs ns pb ba n c x (.error z)):=by
 go_enter Tryz.func63,Tryz.ntmps63
 go_wp2_with fail
 refine HNX.out.mono ?_
 rintro e w1 ⟨a1,c1,rfl,hby,hr,_⟩
 obtain ⟨bb,oo,rfl,hbl,hcell⟩:=hby.get 0 (x:=x) rfl
 have hc1:=hby.len
 have hc2:1≤c1:=hc1.2.1
 rw [Nat.add_zero] at hcell
 clear hby hc1 HNX
 have HR:=qH hr
 obtain ⟨k,ev,hy,hs,hk⟩:=hr
 obtain ⟨eb,u,rfl,_⟩:=hs
 have k2:=hy.cell 0 2 rfl rfl
 unfold eF at k2
 clear hy hk
 go_wp2_with fail
 go_ret
 exact ⟨rfl,HR.out⟩
theorem rpick_ok {w0:World} {bs:List Bk} {ns:List Nm} {pb:Nat} {ba:Option Addr} {n c:Nat} (x:Nat) (lo hi:Int) (k:Nat) (w:World) (hx:x<256) (HNX:Hid (Calls Tryz.prog 111 #[.pointer (some ⟨pb,0,none⟩),.int .i64 1] w (NextR w0 bs ns pb ba n c 1 [x] (.ok k)))) (hlo:lo≤(x:Int)) (hhi:(x:Int)≤hi) :
  Calls Tryz.prog 63 #[.pointer (some ⟨pb,0,none⟩),.int .i64 lo,.int .i64 hi] w (IntR w0 bs ns pb ba n c x (.ok k)):=by
 go_enter Tryz.func63,Tryz.ntmps63
 go_wp2_with fail
 refine HNX.out.mono ?_
 rintro e w1 ⟨a1,c1,rfl,hby,hr,_⟩
 obtain ⟨bb,oo,rfl,hbl,hcell⟩:=hby.get 0 (x:=x) rfl
 have hc1:=hby.len
 have hc2:1≤c1:=hc1.2.1
 rw [Nat.add_zero] at hcell
 clear hby hc1 HNX
 have HR:=qH hr
 obtain ⟨k',ev,hy,hs,hk⟩:=hr
 obtain ⟨rfl,rfl,_⟩:=hs
 have k2:=hy.cell 0 2 rfl rfl
 clear hy hk
 go_wp2_with fail
 go_ret
 exact ⟨rfl,HR.out⟩
theorem rpick_bad {w0:World} {bs:List Bk} {ns:List Nm} {pb:Nat} {ba:Option Addr} {n c:Nat} (x:Nat) (lo hi:Int) (k:Nat) (w:World) (hx:x<256) (HNX:Hid (Calls Tryz.prog 111 #[.pointer (some ⟨pb,0,none⟩),.int .i64 1] w (NextR w0 bs ns pb ba n c 1 [x] (.ok k)))) (hk1:1≤k) (hn:n≤1099511627776) (hbad:(x:Int)<lo∨(lo≤(x:Int)∧hi<(x:Int))) :
  Calls Tryz.prog 63 #[.pointer (some ⟨pb,0,none⟩),.int .i64 lo,.int .i64 hi] w (IntR w0 bs ns pb ba n c x (.error (270,k - 1))):=by
 rcases hbad with hb1 | ⟨hb1,hb2⟩
 all_goals
  go_enter Tryz.func63,Tryz.ntmps63
  go_wp2_with fail
  refine HNX.out.mono ?_
  rintro e w1 ⟨a1,c1,rfl,hby,hr,_⟩
  obtain ⟨bb,oo,rfl,hbl,hcell⟩:=hby.get 0 (x:=x) rfl
  have hc1:=hby.len
  have hc2:1≤c1:=hc1.2.1
  rw [Nat.add_zero] at hcell
  clear hby hc1 HNX
  obtain ⟨k',ev,hy,hs,hk⟩:=hr
  obtain ⟨rfl,rfl,_⟩:=hs
  have k1:=hy.cell 0 1 rfl rfl
  have k2:=hy.cell 0 2 rfl rfl
  have f1:=hy.free 0 1 rfl
  have HY:=qH hy
  clear hy
  go_wp2_with fail
  have hy2:=HY.out.set 0 1 rfl rfl (fun _=>by simp) (.int .i64 ((k':Int) - 1))
  obtain ⟨w2,hw2⟩:∃ w2,w2=w1.setCell ⟨pb,1,none⟩ (.int .i64 ((k':Int) - 1)):=⟨_,rfl⟩
  rw [← hw2] at hy2 ⊢
  rw [show (k':Int) - 1=((k' - 1:Nat):Int) by omega] at hy2
  refine (rfail_any (k' - 1) .nilIface (.ok (k' - 1)) 52 (.int .i64 270) 270 w2 hy2 ⟨rfl,rfl,by omega⟩ (.inl rfl)).mono ?_
  rintro e w3 ⟨ev,rfl,hy3,hs3⟩
  have HR:=qH (show RdW w0 bs ns pb ba n c (.error (270,k' - 1)) w3 from ⟨k' - 1,ev,hy3,hs3,by omega⟩)
  clear hy2 hw2 hy3 hs3 k1 k2 f1
  go_wp2_with fail
  go_ret
  exact ⟨rfl,HR.out⟩
theorem rNext_len (data:List Nat) (m:Nat) (st:RS):(rNext data m st).1.length=m:=by
 unfold rNext
 cases st with
 | error x=>simp
 | ok a =>
  simp only
  by_cases h:data.length - a<m
  ·
   rw [if_pos h];simp
  ·
   rw [if_neg h];simp only [List.length_take,List.length_drop];omega
theorem rNext_lt {data:List Nat} (hb:∀ x,x∈data→x<256) (m:Nat) (st:RS):∀ x,x∈(rNext data m st).1→x<256:=by
 intro x hx
 unfold rNext at hx
 cases st with
 | error z=>rw [List.eq_of_mem_replicate hx];omega
 | ok a =>
  simp only at hx
  by_cases h:data.length - a<m
  ·
   rw [if_pos h] at hx;rw [List.eq_of_mem_replicate hx];omega
  ·
   rw [if_neg h] at hx;exact hb x (List.mem_of_mem_drop (List.mem_of_mem_take hx))
theorem rpick_any {w0:World} {bs:List Bk} {ns:List Nm} {pb:Nat} {ba:Option Addr} {n c:Nat} (lo hi:Int) (data:List Nat) (st:RS) (w:World) (h:RdW w0 bs ns pb ba n c st w) (hd:BytesN w0 (.slice ba n c) data) (hb:∀ x,x∈data→x<256) (hn:n≤1099511627776) :
  Calls Tryz.prog 63 #[.pointer (some ⟨pb,0,none⟩),.int .i64 lo,.int .i64 hi] w (IntR w0 bs ns pb ba n c (rPick data lo hi st).1 (rPick data lo hi st).2):=by
 have hnx:=rnext_any 1 data st w h hd hn (by omega)
 have hl:=rNext_len data 1 st
 have h8:=rNext_lt hb 1 st
 have hk1:∀ k,(rNext data 1 st).2=.ok k→1≤k:=fun k hk=>by
  unfold rNext at hk
  cases st with
  | error z=>cases hk
  | ok a =>
   simp only at hk
   by_cases hlt:data.length - a<1
   ·
    rw [if_pos hlt] at hk;cases hk
   ·
    rw [if_neg hlt] at hk;injection hk with hk;omega
 unfold rPick
 cases hx:rNext data 1 st with
 | mk b s1 =>
  rw [hx] at hnx hl h8 hk1
  match b,hl with
  | [x],_ =>
   have hx8:x<256:=h8 x (List.mem_singleton.2 rfl)
   cases s1 with
   | error z=>exact rpick_err x lo hi z w hx8 (qH hnx)
   | ok k =>
    show Calls Tryz.prog 63 #[.pointer (some ⟨pb,0,none⟩),.int .i64 lo,.int .i64 hi] w (IntR w0 bs ns pb ba n c (x:Int) (if (x:Int)<lo∨hi<(x:Int) then (.error (270,k - 1):RS) else .ok k))
    by_cases hc:(x:Int)<lo∨hi<(x:Int)
    ·
     rw [if_pos hc];exact rpick_bad x lo hi k w hx8 (qH hnx) (hk1 k rfl) hn (by omega)
    ·
     rw [if_neg hc];exact rpick_ok x lo hi k w hx8 (qH hnx) (by omega) (by omega)
theorem BytesN.four {w:World} {a:Option Addr} {c:Nat} {y0 y1 y2 y3:Nat} (h:BytesN w (.slice a 4 c) [y0,y1,y2,y3]) :
  ∃ b o,a=some ⟨b,o,none⟩∧w.cell? ⟨b,o,none⟩=some (.int .u8 y0)∧w.cell? ⟨b,o+1,none⟩=some (.int .u8 y1)∧w.cell? ⟨b,o+2,none⟩=some (.int .u8 y2)∧w.cell? ⟨b,o+3,none⟩=some (.int .u8 y3):=by
 obtain ⟨b,o,rfl,_,h0⟩:=h.get 0 (x:=y0) rfl
 obtain ⟨_,_,e1,_,h1⟩:=h.get 1 (x:=y1) rfl
 obtain ⟨_,_,e2,_,h2⟩:=h.get 2 (x:=y2) rfl
 obtain ⟨_,_,e3,_,h3⟩:=h.get 3 (x:=y3) rfl
 cases e1;cases e2;cases e3
 exact ⟨b,o,rfl,h0,h1,h2,h3⟩
theorem u8_low7 (y:Nat) (h:y<256):bits .and .u8 (y:Int) 127=((y % 128:Nat):Int):=by
 show IntKind.u8.wrap ((BitVec.ofInt 8 (y:Int) &&& BitVec.ofInt 8 127).toNat:Int)=_
 have e1:(BitVec.ofInt 8 (y:Int)).toNat=y:=by rw [BitVec.toNat_ofInt];omega
 have e2:(BitVec.ofInt 8 127).toNat=2^7 - 1:=rfl
 rw [BitVec.toNat_and,e1,e2,Nat.and_two_pow_sub_one_eq_mod]
 exact IntWalk.u8_in _ (by omega)
theorem un4_bits (y0 y1 y2 y3:Nat) (h0:y0<256) (h1:y1<256) (h2:y2<256) (h3:y3<256) :
  bits .or .i64 (bits .or .i64 (bits .or .i64 (wrap64 (wrap64 (bits .and .u8 (y0:Int) 127)*16777216)) ((y1:Int)*65536)) ((y2:Int)*256)) (y3:Int)=un4 [y0,y1,y2,y3]:=by
 rw [u8_low7 y0 h0,IntWalk.wrap64_in ((y0 % 128:Nat):Int) (by omega),IntWalk.wrap64_in (((y0 % 128:Nat):Int)*16777216) (by omega),be32_bits _ _ _ _ (by omega) (by omega) (by omega) (by omega) (by omega) (by omega) (by omega) (by omega)]
 show _=(((((y0 % 128*256+y1)*256+y2)*256+y3:Nat)):Int)
 omega
theorem rid_good {w0:World} {bs:List Bk} {ns:List Nm} {pb:Nat} {ba:Option Addr} {n c:Nat} (y0 y1 y2 y3:Nat) (st:RS) (w:World) (h0:y0≤127) (h1:y1<256) (h2:y2<256) (h3:y3<256) (HNX:Hid (Calls Tryz.prog 111 #[.pointer (some ⟨pb,0,none⟩),.int .i64 4] w (NextR w0 bs ns pb ba n c 4 [y0,y1,y2,y3] st))) :
  Calls Tryz.prog 65 #[.pointer (some ⟨pb,0,none⟩)] w (IntR w0 bs ns pb ba n c (un4 [y0,y1,y2,y3]) st):=by
 go_enter Tryz.func65,Tryz.ntmps65
 go_wp2_with fail
 refine HNX.out.mono ?_
 rintro e w1 ⟨a1,c1,rfl,hby,hr,_⟩
 have HR:=qH hr
 have hc1:=hby.len
 have hc2:4≤c1:=hc1.2.1
 obtain ⟨bb,oo,rfl,g0,g1,g2,g3⟩:=hby.four
 clear hby hc1 HNX hr
 have e0:¬ (127:Int)<(y0:Int):=by omega
 go_wp2_with fail
 go_quiet (fail)
 go_wp2_with fail
 go_ret
 exact ⟨congrArg (fun z=>Ending.returned (.int .i64 z)) (un4_bits y0 y1 y2 y3 (by omega) h1 h2 h3),HR.out.call (belowDrawn (Below.refl _ _) _)⟩
theorem rid_bad {w0:World} {bs:List Bk} {ns:List Nm} {pb:Nat} {ba:Option Addr} {n c:Nat} (y0 y1 y2 y3 k:Nat) (w:World) (h0:127<y0) (h00:y0<256) (h1:y1<256) (h2:y2<256) (h3:y3<256) (HNX:Hid (Calls Tryz.prog 111 #[.pointer (some ⟨pb,0,none⟩),.int .i64 4] w (NextR w0 bs ns pb ba n c 4 [y0,y1,y2,y3] (.ok k)))) (hk1:4≤k) (hn:n≤1099511627776) :
  Calls Tryz.prog 65 #[.pointer (some ⟨pb,0,none⟩)] w (IntR w0 bs ns pb ba n c (un4 [y0,y1,y2,y3]) (.error (270,k - 4))):=by
 go_enter Tryz.func65,Tryz.ntmps65
 go_wp2_with fail
 refine HNX.out.mono ?_
 rintro e w1 ⟨a1,c1,rfl,hby,hr,ho⟩
 have HO:=qH (ho ⟨k,rfl⟩)
 have hc1:=hby.len
 have hc2:4≤c1:=hc1.2.1
 obtain ⟨bb,oo,rfl,g0,g1,g2,g3⟩:=hby.four
 clear hby hc1 HNX ho
 obtain ⟨k',ev,hy,hs,hk⟩:=hr
 obtain ⟨rfl,rfl,_⟩:=hs
 have k1:=hy.cell 0 1 rfl rfl
 have k2:=hy.cell 0 2 rfl rfl
 have f1:=hy.free 0 1 rfl
 have HY:=qH hy
 have e0:(127:Int)<(y0:Int):=by omega
 clear hy g1 g2 g3
 go_wp2_with fail
 have hy2:=HY.out.set 0 1 rfl rfl (fun _=>by simp) (.int .i64 ((k':Int) - 4))
 obtain ⟨w2,hw2⟩:∃ w2,w2=w1.setCell ⟨pb,1,none⟩ (.int .i64 ((k':Int) - 4)):=⟨_,rfl⟩
 rw [← hw2] at hy2 ⊢
 rw [show (k':Int) - 4=((k' - 4:Nat):Int) by omega] at hy2
 refine (rfail_any (k' - 4) .nilIface (.ok (k' - 4)) 52 (.int .i64 270) 270 w2 hy2 ⟨rfl,rfl,by omega⟩ (.inl rfl)).mono ?_
 rintro e w3 ⟨ev,rfl,hy3,hs3⟩
 have HR:=qH (show RdW w0 bs ns pb ba n c (.error (270,k' - 4)) w3 from ⟨k' - 4,ev,hy3,hs3,by omega⟩)
 have hby3:BytesN w3 (.slice (some ⟨bb,oo,none⟩) 4 c1) [y0,y1,y2,y3]:=HO.out.below hy3.bel
 obtain ⟨bb',oo',he,g0,g1,g2,g3⟩:=hby3.four
 cases he
 clear hy2 hw2 hy3 hs3 k1 k2 f1 HO hby3
 go_wp2_with fail
 go_quiet (fail)
 go_wp2_with fail
 go_ret
 exact ⟨congrArg (fun z=>Ending.returned (.int .i64 z)) (un4_bits y0 y1 y2 y3 h00 h1 h2 h3),HR.out.call (belowDrawn (Below.refl _ _) _)⟩
theorem rNext_ok {data:List Nat} {m k:Nat} {st:RS} (h:(rNext data m st).2=.ok k):m≤k:=by
 unfold rNext at h
 cases st with
 | error z=>cases h
 | ok a =>
  simp only at h
  by_cases hlt:data.length - a<m
  ·
   rw [if_pos hlt] at h;cases h
  ·
   rw [if_neg hlt] at h;injection h with h;omega
theorem rNext_zero {data:List Nat} {m:Nat} {st:RS} {z:Int × Nat} (h:(rNext data m st).2=.error z):(rNext data m st).1=List.replicate m 0:=by
 unfold rNext at h ⊢
 cases st with
 | error z=>rfl
 | ok a =>
  simp only at h ⊢
  by_cases hlt:data.length - a<m
  ·
   rw [if_pos hlt]
  ·
   rw [if_neg hlt] at h;cases h
theorem rid_any {w0:World} {bs:List Bk} {ns:List Nm} {pb:Nat} {ba:Option Addr} {n c:Nat} (data:List Nat) (st:RS) (w:World) (h:RdW w0 bs ns pb ba n c st w) (hd:BytesN w0 (.slice ba n c) data) (hb:∀ x,x∈data→x<256) (hn:n≤1099511627776) :
  Calls Tryz.prog 65 #[.pointer (some ⟨pb,0,none⟩)] w (IntR w0 bs ns pb ba n c (rId data st).1 (rId data st).2):=by
 have hnx:=rnext_any 4 data st w h hd hn (by omega)
 have hl:=rNext_len data 4 st
 have h8:=rNext_lt hb 4 st
 have hk1:∀ k,(rNext data 4 st).2=.ok k→4≤k:=fun k hk=>rNext_ok hk
 have hz:∀ z,(rNext data 4 st).2=.error z→(rNext data 4 st).1=List.replicate 4 0:=fun z hk=>rNext_zero hk
 unfold rId
 cases hx:rNext data 4 st with
 | mk b s1 =>
  rw [hx] at hnx hl h8 hk1 hz
  match b,hl with
  | [y0,y1,y2,y3],_ =>
   have l0:y0<256:=h8 y0 (by simp)
   have l1:y1<256:=h8 y1 (by simp)
   have l2:y2<256:=h8 y2 (by simp)
   have l3:y3<256:=h8 y3 (by simp)
   cases s1 with
   | error z =>
    have e:=hz z rfl
    injection e with e0 _
    exact rid_good y0 y1 y2 y3 (.error z) w (by omega) l1 l2 l3 (qH hnx)
   | ok k =>
    show Calls Tryz.prog 65 #[.pointer (some ⟨pb,0,none⟩)] w (IntR w0 bs ns pb ba n c (un4 [y0,y1,y2,y3]) (if 127<y0 then (.error (270,k - 4):RS) else .ok k))
    by_cases hc:127<y0
    ·
     rw [if_pos hc];exact rid_bad y0 y1 y2 y3 k w hc l0 l1 l2 l3 (qH hnx) (hk1 k rfl) hn
    ·
     rw [if_neg hc];exact rid_good y0 y1 y2 y3 (.ok k) w (by omega) l1 l2 l3 (qH hnx)
def StrR (w0:World) (bs:List Bk) (ns:List Nm) (pb:Nat) (ba:Option Addr) (n c:Nat) (t:List Nat) (st:RS) (e:Ending) (w':World):Prop:=e=.returned (.string (strB t))∧RdW w0 bs ns pb ba n c st w'
theorem rtok_go {w0:World} {bs:List Bk} {ns:List Nm} {pb:Nat} {ba:Option Addr} {n c:Nat} (ys:List Nat) (st:RS) (w:World) (HNX:Hid (Calls Tryz.prog 111 #[.pointer (some ⟨pb,0,none⟩),.int .i64 8] w (NextR w0 bs ns pb ba n c 8 ys st))) :
  Calls Tryz.prog 64 #[.pointer (some ⟨pb,0,none⟩)] w (StrR w0 bs ns pb ba n c ys st):=by
 go_enter Tryz.func64,Tryz.ntmps64
 go_wp2_with fail
 refine HNX.out.mono ?_
 rintro e w1 ⟨a1,c1,rfl,hby,hr,_⟩
 have HR:=qH hr
 have hcv:=conv_any a1 8 c1 ys w1 hby
 clear hby HNX hr
 go_wp2_with fail
 go_ret
 exact ⟨rfl,HR.out⟩
theorem rtok_any {w0:World} {bs:List Bk} {ns:List Nm} {pb:Nat} {ba:Option Addr} {n c:Nat} (data:List Nat) (st:RS) (w:World) (h:RdW w0 bs ns pb ba n c st w) (hd:BytesN w0 (.slice ba n c) data) (hn:n≤1099511627776) :
  Calls Tryz.prog 64 #[.pointer (some ⟨pb,0,none⟩)] w (StrR w0 bs ns pb ba n c (rTok data st).1 (rTok data st).2) :=
 rtok_go _ _ w (qH (rnext_any 8 data st w h hd hn (by omega)))
theorem BS.gotk {w W:World} {bs:List Bk} {ns:List Nm} {a:Option Addr} {c n:Nat} (h:BS w bs ns W) (k:Nat) (hn:NatW W a c n):BS w bs (ns.take k++⟨a,c,n⟩::ns.drop k) W :=
 ⟨h.bel,h.box,h.nod,fun x hx=>by
  rcases List.mem_append.1 hx with hx | hx
  ·
   exact h.num x (List.mem_of_mem_take hx)
  ·
   rcases List.mem_cons.1 hx with rfl | hx
   ·
    exact hn
   ·
    exact h.num x (List.mem_of_mem_drop hx)⟩
def EV (w:World) (e:Int) (v:Value):Prop:=v=eE e∨∃ fb s j,v=eF fb∧IsF w fb s j e
theorem EV.of {w:World} {v:Value} {f:Flt} (h:ErrW w v f):EV w f.n v:=by
 obtain ⟨n,at9⟩:=f
 cases at9 with
 | none=>exact .inl h
 | some x =>
  obtain ⟨b,hv,hf⟩:=h
  exact .inr ⟨b,_,_,hv,hf⟩
theorem EV.iface {w:World} {e:Int} {v:Value} (h:EV w e v):∃ T u,v=.iface T u:=by
 rcases h with h | ⟨fb,s,j,h,_⟩
 ·
  exact ⟨_,_,h⟩
 ·
  exact ⟨_,_,h⟩
theorem EV.below {w w':World} {e:Int} {v:Value} (h:EV w e v) (hb:Below w.heap.size w w'):EV w' e v:=by
 rcases h with h | ⟨fb,s,j,h,hf⟩
 ·
  exact .inl h
 ·
  exact .inr ⟨fb,s,j,h,hf.below hb hf.lt⟩
theorem EV.ne {w W:World} {bs:List Bk} {ns:List Nm} {e:Int} {v:Value} (h:EV W e v) (hb:BS w bs ns W) (i:Nat) {b:Bk} {c0:Value} (hi:bs[i]?=some b) (h0:b.cs[0]?=some c0) (hn:∀ s,c0≠.string s):v=eE e∨∃ fb s j,v=eF fb∧fb≠b.p∧IsF W fb s j e:=by
 rcases h with h | ⟨fb,s,j,h,hf⟩
 ·
  exact .inl h
 ·
  refine .inr ⟨fb,s,j,h,fun hne=>?_,hf⟩
  subst hne
  have h1:=hb.cell i 0 hi h0
  rw [hf.1] at h1
  injection h1 with h1
  exact hn s h1.symm
theorem EV.set {w W:World} {bs:List Bk} {ns:List Nm} {e:Int} {v:Value} (h:EV W e v) (hb:BS w bs ns W) (i j:Nat) (x:Value) {b:Bk} {c0:Value} (hi:bs[i]?=some b) (h0:b.cs[0]?=some c0) (hn:∀ s,c0≠.string s):EV (W.setCell ⟨b.p,j,none⟩ x) e v:=by
 rcases h.ne hb i hi h0 hn with h | ⟨fb,s,k,h,hne,hf⟩
 ·
  exact .inl h
 ·
  exact .inr ⟨fb,s,k,h,hf.keeps' (Keeps.setCell W ⟨b.p,j,none⟩ x (S:=fun z=>z=b.p) rfl) hne⟩
theorem BS.front {w W:World} {bs:List Bk} {ns:List Nm} (h:BS w bs ns W) (k:Nat) {x:Bk} (hk:bs[k]?=some x):BS w (x::bs.eraseIdx k) ns W:=by
 obtain ⟨hl,rfl⟩:=List.getElem?_eq_some_iff.1 hk
 have hp:(bs[k]::bs.eraseIdx k).Perm bs:=by
  rw [List.eraseIdx_eq_take_drop_succ]
  have h1:(bs[k]::(bs.take k++bs.drop (k+1))).Perm (bs.take k++bs[k]::bs.drop (k+1)):=List.perm_middle.symm
  rw [← List.drop_eq_getElem_cons hl,List.take_append_drop] at h1
  exact h1
 exact ⟨h.bel,fun b hb=>h.box b (hp.mem_iff.1 hb),(hp.pairwise_iff (fun {a b} e=>fun e2=>e e2.symm)).2 h.nod,h.num⟩
theorem IsAt.set {w W:World} {bs:List Bk} {ns:List Nm} {eb k9:Nat} {u:Value} (h:IsAt W eb k9 u) (hb:BS w bs ns W) (i j:Nat) (x:Value) {b:Bk} {c0:Value} (hi:bs[i]?=some b) (h0:b.cs[0]?=some c0) (hn:∀ s,c0≠.string s):IsAt (W.setCell ⟨b.p,j,none⟩ x) eb k9 u:=by
 have hne:eb≠b.p:=fun hne=>by
  subst hne
  have h1:=hb.cell i 0 hi h0
  rw [h.1] at h1
  injection h1 with h1
  exact hn _ h1.symm
 exact h.keeps (Keeps.setCell W ⟨b.p,j,none⟩ x (S:=fun z=>z=b.p) rfl) hne
theorem RSt.set {w W:World} {bs:List Bk} {ns:List Nm} {pb n k:Nat} {ev:Value} {st:RS} (h:RSt W pb n k ev st) (hb:BS w bs ns W) (i j:Nat) (x:Value) {b:Bk} {c0:Value} (hi:bs[i]?=some b) (h0:b.cs[0]?=some c0) (hn:∀ s,c0≠.string s):RSt (W.setCell ⟨b.p,j,none⟩ x) pb n k ev st:=by
 cases st with
 | ok a=>exact h
 | error y =>
  obtain ⟨eb,u,he,hp,hA,hu⟩:=h
  refine ⟨eb,u,he,hp,hA.set hb i j x hi h0 hn,?_⟩
  rcases hu with hu | ⟨fb,s,q,hu,hpf,hf⟩
  ·
   exact .inl hu
  ·
   refine .inr ⟨fb,s,q,hu,hpf,?_⟩
   rcases (show EV W y.1 (eF fb) from .inr ⟨fb,s,q,rfl,hf⟩).ne hb i hi h0 hn with h9 | ⟨fb',_,_,h9,hne,_⟩
   ·
    exact (by unfold eF eE at h9;injection h9 with _ h9;cases h9)
   ·
    unfold Go.Proofs.YtmhainidincjhaaGreatDoor.eF at h9
    injection h9 with _ h9
    injection h9 with h9
    injection h9 with h9
    injection h9 with h9
    subst h9
    exact hf.keeps' (Keeps.setCell W ⟨b.p,j,none⟩ x (S:=fun z=>z=b.p) rfl) hne
theorem RSt.below {W W':World} {pb n k:Nat} {ev:Value} {st:RS} (h:RSt W pb n k ev st) (hb:Below W.heap.size W W'):RSt W' pb n k ev st:=by
 cases st with
 | ok a=>exact h
 | error x=>exact ErrB.keeps h (Keeps.of_below hb (S:=fun k=>W.heap.size≤k) fun b h1 _=>h1) (fun b hl _ h2=>by have h2:W.heap.size≤b:=h2;omega) (fun b _ h=>h)
theorem results_cell1 {fn:Func} {p:Tmp} {ty:TypeId} (h:fn.results=#[.cell p ty]) (tmps:Array Value) (P:Program) (w:World) :
  (results fn tmps).run P w=((asAddr (tmps.getD p undef)).run P w).andThen fun a w1=>(loadVar ty a).run P w1:=by
 simp only [results,h]
 simp [Sem.run_bind,Result.andThen]
def RatR (w0:World) (bs:List Bk) (ns:List Nm) (pb:Nat) (ba:Option Addr) (n c:Nat) (w:World) (q:Rat) (st:RS) (e:Ending) (w':World):Prop:=∃ ra rc rb rd,e=.returned (ratV ra rc rb rd q)∧NatW w' ra rc q.num.natAbs∧NatW w' rb rd (denN q.den)∧RdW w0 bs ns pb ba n c st w'
theorem rrat_err {w0:World} {bs:List Bk} {ns:List Nm} {pb:Nat} {ba:Option Addr} {n c:Nat} (x:Int × Nat) (w:World) (h:RdW w0 bs ns pb ba n c (.error x) w) :
  Calls Tryz.prog 130 #[.pointer (some ⟨pb,0,none⟩)] w (RatR w0 bs ns pb ba n c w 0 (.error x)):=by
 have HR:=qH h
 obtain ⟨k,ev,hy,hs,hk⟩:=h
 obtain ⟨eb,u,rfl,_⟩:=hs
 have k2:=(hy.call (belowBox w (.cells #[.bool false,.slice none 0 0,.slice none 0 0] 45))).cell 0 2 rfl rfl
 unfold eF at k2
 clear hy hk
 go_enter Tryz.func130,Tryz.ntmps130
 go_wp2_with fail
 (try simp only [Exit.inBlock,Exit.then])
 refine bodyPost_ret (v:=.agg #[.bool false,.slice none 0 0,.slice none 0 0]) ?_ rfl ?_
 ·
  rw [results_cell1 rfl]
  have hbk:=heap_alloc_new w (.cells #[.bool false,.slice none 0 0,.slice none 0 0] 45)
  exact Go.Lib.rl_loadVar_cells 45 _ rfl (fun _=>rfl) w.heap.size 0 [.bool false,.slice none 0 0,.slice none 0 0] rfl _ (fun k v hk=>by
   rw [Nat.zero_add]
   exact cell_of_block (j:=k) hbk (by simpa using hk))
 exact ⟨none,0,none,0,by simp [ratV,denN,lenW_zero],NatW.zero _,NatW.zero _,HR.out.call (belowBox _ _)⟩
theorem rrat_bad {w0:World} {bs:List Bk} {ns:List Nm} {pb:Nat} {ba:Option Addr} {n c:Nat} (f:Flt) (data:List Nat) (k:Nat) (w:World) (h:BS w0 (rBox pb ba n c k .nilIface::bs) ns w) (hk:k≤n) (hd:BytesN w0 (.slice ba n c) data) (h8:∀ x,x∈data→x<256) (hn:n≤1099511627776) (hdec:decR (data.drop k)=.error f) :
  Calls Tryz.prog 130 #[.pointer (some ⟨pb,0,none⟩)] w (RatR w0 bs ns pb ba n c w 0 (.error (f.n,k))):=by
 have hl:=hd.len.1
 have hsub:=hd.sub k n hk (Nat.le_refl _)
 rw [List.take_of_length_le (by omega)] at hsub
 have h8':∀ x,x∈data.drop k→x<256:=fun x hx=>h8 x (List.mem_of_mem_drop hx)
 have c1:n≤c:=hd.len.2.1
 have c2:c≤9223372036854775807:=hd.len.2.2.1
 have e1:(k:Int)≤(n:Int):=by omega
 have HD:=qH (fun (W:World) (hb:Below w0.heap.size w0 W)=>((dec_any _ _ _ _ W (hsub.below hb) h8' (by omega)).mono fun e w' hr=>(by rw [hdec] at hr;obtain ⟨v,he,hv,hb⟩:=hr;obtain ⟨T,u,rfl⟩:=(EV.of hv).iface;exact ⟨T,u,he,EV.of hv,hb⟩):Calls Tryz.prog 33 #[_] W fun e w'=>∃ T u,e=.returned (.tuple #[.agg #[.bool false,.slice none 0 0,.slice none 0 0],.int .i64 0,.iface T u])∧EV w' f.n (.iface T u)∧Below W.heap.size W w'))
 have HK:=qH hk
 clear hsub hd h8 h8' hdec hl data hk
 obtain ⟨W0,hW0⟩:∃ W0,W0=(w.alloc (.cells #[.bool false,.slice none 0 0,.slice none 0 0] 45)):=⟨_,rfl⟩
 have hn0:BS w0 (⟨pb,158,[.slice ba n c,.int .i64 k,.nilIface]⟩::⟨w.heap.size,45,[.bool false,.slice none 0 0,.slice none 0 0]⟩::bs) ns (w.alloc (.cells #[.bool false,.slice none 0 0,.slice none 0 0] 45)):=(h.alloc (p:=w.heap.size) rfl 45 [.bool false,.slice none 0 0,.slice none 0 0] rfl).ins 1
 rw [← hW0] at hn0
 have HW0:=qH hW0
 have HN:=qH hn0
 clear hW0 hn0
 clear h
 go_enter Tryz.func130,Tryz.ntmps130
 go_upto_region 1 with fail
 rw [← HW0.out]
 have ⟨k00,f00,k01,f01,k02,f02⟩:=HN.out.cf3 0 rfl
 have ⟨k10,f10,k11,f11,k12,f12⟩:=HN.out.cf3 1 rfl
 go_upto_region 3 with fail
 clear k00 f00 k01 f01 k02 f02 k10 f10 k11 f11 k12 f12
 go_cut [3,4,5] (fun v3 v4 v5 wx=>∃ p3 T u,v3=.pointer (some ⟨p3,0,none⟩)∧v4=.int .i64 0∧v5=.iface T u∧EV wx f.n (.iface T u)∧BS w0 (⟨pb,158,[.slice ba n c,.int .i64 k,.nilIface]⟩::⟨w.heap.size,45,[.bool false,.slice none 0 0,.slice none 0 0]⟩::⟨p3,45,[.bool false,.slice none 0 0,.slice none 0 0]⟩::bs) ns wx)
 case first =>
  replace HN:=qH HN.out.drew
  refine wp_region_held_drew (S:=fun W=>W.cell? ⟨pb,0,none⟩=some (.slice ba n c)∧W.cell? ⟨pb,1,none⟩=some (.int .i64 k)) (by kernel_rfl) (⟨HN.out.cell 0 0 rfl rfl,HN.out.cell 0 1 rfl rfl⟩) (fun hHeld=>?_)
  generalize W0.drew=wd at HN hHeld ⊢
  refine tm 0 (some 13) ?_
  refine tl 1 (some 14) ?_
  refine tm 2 (some 15) ?_
  refine tl 3 (some 16) ?_
  refine tm 4 (some 17) ?_
  refine tl 5 (some 18) ?_
  refine tm 6 (some 19) ?_
  refine tl 7 (some 20) ?_
  refine tm 8 (some 21) ?_
  generalize (if c=k then ba else Option.map (fun x=>x.add k) ba)=va at HD ⊢
  generalize c - k=vc at HD ⊢
  have tg:=Mk.mk (v:=0) (d:=0)
  iterate 3
   all_goals first
   | refine qz2 0 tg 9 0 1 14 1 2 ?_ ?_
   | refine qz1 1 tg 14 2 3 ?_
   | refine qz1 2 tg 9 0 3 ?_
   | refine qz1 3 tg 15 3 4 ?_
   all_goals intro K hK tg
   all_goals first
   |
    have _:Mk 0 _:=tg
    go_simp
    refine (HD.out _ HN.out.bel).mono ?_
    rintro e wd ⟨T,u,rfl,hf,hb⟩
    replace HN:=qH (HN.out.call hb)
    have HEV:=qH hf
    clear hf
    clear hb 
    go_wp2_with fail
   |
    have _:Mk 1 _:=tg
    go_simp
    replace HN:=qH ((HN.out.alloc (p:=wd.heap.size) rfl 45 [.bool false,.slice none 0 0,.slice none 0 0] rfl).ins 2)
    generalize wd.heap.size=p14_ at HN ⊢
    generalize wd.alloc (.cells #[.bool false,.slice none 0 0,.slice none 0 0] 45)=wd at HN  ⊢
   |
    have _:Mk 2 _:=tg
    go_simp
    replace HN:=qH ((HN.out.alloc (p:=wd.heap.size) rfl 45 [.bool false,.slice none 0 0,.slice none 0 0] rfl).ins 2)
    replace HEV:=qH (show EV (wd.alloc (.cells #[.bool false,.slice none 0 0,.slice none 0 0] 45)) f.n (.iface T u) from HEV.out.below (belowBox _ _))
    generalize wd.heap.size=p14_ at HN ⊢
    generalize wd.alloc (.cells #[.bool false,.slice none 0 0,.slice none 0 0] 45)=wd at HN HEV ⊢
   |
    have _:Mk 3 _:=tg
    have hc0:=HN.out.cell 2 0 rfl rfl
    have hf0:=HN.out.free 2 0 rfl
    have hc1:=HN.out.cell 2 1 rfl rfl
    have hf1:=HN.out.free 2 1 rfl
    have hc2:=HN.out.cell 2 2 rfl rfl
    have hf2:=HN.out.free 2 2 rfl
    go_simp
    clear hc0 hf0 hc1 hf1 hc2 hf2
    replace HEV:=qH (EV.set (EV.set (EV.set HEV.out HN.out 2 0 (.bool false) rfl rfl (fun _=>by simp)) (HN.out.set 2 0 rfl rfl (fun _=>by simp) (.bool false)) 2 1 (.slice none 0 0) rfl rfl (fun _=>by simp)) ((HN.out.set 2 0 rfl rfl (fun _=>by simp) (.bool false)).set 2 1 rfl rfl (fun _=>by simp) (.slice none 0 0)) 2 2 (.slice none 0 0) rfl rfl (fun _=>by simp))
    replace HN:=qH ((((HN.out).set 2 0 rfl rfl (fun _=>by simp) (.bool false)).set 2 1 rfl rfl (fun _=>by simp) (.slice none 0 0)).set 2 2 rfl rfl (fun _=>by simp) (.slice none 0 0))
    generalize (((wd.setCell ⟨p14_,0,none⟩ (.bool false)).setCell ⟨p14_,1,none⟩ (.slice none 0 0)).setCell ⟨p14_,2,none⟩ (.slice none 0 0))=wd at HN HEV ⊢
   all_goals
    refine hK.out _ _ (⟨HN.out.cell 0 0 rfl rfl,HN.out.cell 0 1 rfl rfl⟩) (fun hHeld2=>?_)
    clear hK K hHeld
    rename _=>hHeld
    try simp only [Act.put,stB,stZ,stS]
   all_goals first
   |
    have _:Mk 0 _:=tg
    refine tm 10 (some 12) ?_
    refine tm 11 (some 23) ?_
    refine tm 12 (some 24) ?_
    refine tm 13 (some 25) ?_
   |
    have _:Mk 3 _:=tg
    refine tm 16 (some 4) ?_
    refine tm 17 (some 5) ?_
   | skip
  all_goals (refine wpAnyH_done (by kernel_rfl) ?_ _)
  all_goals
   go_wp2_with fail
   go_meet
   exact ⟨_,_,_,rfl,rfl,rfl,HEV.out,HN.out⟩
 case rest =>
  obtain ⟨w1,rfl⟩:∃ w1:World,w1=wc:=⟨_,rfl⟩
  obtain ⟨p3,T,u,rfl,rfl,rfl,hev,hn0⟩:=hcut
  have HN:=qH hn0
  clear hn0
  have hu:=hev.ne HN.out 0 rfl rfl (fun _=>by simp)
  have HU:=qH hu
  clear hu hev
  have ⟨k00,f00,k01,f01,k02,f02⟩:=HN.out.cf3 0 rfl
  have ⟨k10,f10,k11,f11,k12,f12⟩:=HN.out.cf3 1 rfl
  have ⟨k20,f20,k21,f21,k22,f22⟩:=HN.out.cf3 2 rfl
  go_wp2_with fail
  clear k00 f00 k01 f01 k02 f02 k10 f10 k11 f11 k12 f12 k20 f20 k21 f21 k22 f22
  refine (rfail_any k .nilIface (.ok k) T u f.n _ HN.out ⟨rfl,rfl,HK.out⟩ HU.out).mono ?_
  rintro e w3 ⟨ev,rfl,hy,hrs⟩
  have HN:=qH hy
  have HRS:=qH hrs
  clear hy hrs
  have ⟨k00,f00,k01,f01,k02,f02⟩:=HN.out.cf3 0 rfl
  have ⟨k10,f10,k11,f11,k12,f12⟩:=HN.out.cf3 1 rfl
  have ⟨k20,f20,k21,f21,k22,f22⟩:=HN.out.cf3 2 rfl
  have HE:=qH (((HN.out.set 1 0 rfl rfl (fun _=>by simp) (.bool false)).set 1 1 rfl rfl (fun _=>by simp) (.slice none 0 0)).set 1 2 rfl rfl (fun _=>by simp) (.slice none 0 0))
  have HRSE:=qH (RSt.set (RSt.set (RSt.set HRS.out HN.out 1 0 (.bool false) rfl rfl (fun _=>by simp)) (HN.out.set 1 0 rfl rfl (fun _=>by simp) (.bool false)) 1 1 (.slice none 0 0) rfl rfl (fun _=>by simp)) ((HN.out.set 1 0 rfl rfl (fun _=>by simp) (.bool false)).set 1 1 rfl rfl (fun _=>by simp) (.slice none 0 0)) 1 2 (.slice none 0 0) rfl rfl (fun _=>by simp))
  go_wp2_with fail
  (try simp only [Exit.inBlock,Exit.then])
  refine bodyPost_ret (v:=.agg #[.bool false,.slice none 0 0,.slice none 0 0]) ?_ rfl ?_
  ·
   rw [results_cell1 rfl]
   have hbk:=HE.out.at 1 rfl
   exact Go.Lib.rl_loadVar_cells 45 _ rfl (fun _=>rfl) _ 0 [.bool false,.slice none 0 0,.slice none 0 0] rfl _ (fun k v hk=>by
    rw [Nat.zero_add]
    exact cell_of_block (j:=k) hbk (by simpa using hk))
  exact ⟨none,0,none,0,by simp [ratV,denN,lenW_zero],NatW.zero _,NatW.zero _,⟨k,ev,HE.out.only (.cons_cons _ (.cons _ (.cons _ (List.Sublist.refl _)))) (fun _ h=>h),HRSE.out,HK.out⟩⟩
theorem rrat_good {w0:World} {bs:List Bk} {ns:List Nm} {pb:Nat} {ba:Option Addr} {n c:Nat} (q:Rat) (m:Nat) (data:List Nat) (k:Nat) (w:World) (h:BS w0 (rBox pb ba n c k .nilIface::bs) ns w) (hk:k≤n) (hd:BytesN w0 (.slice ba n c) data) (h8:∀ x,x∈data→x<256) (hn:n≤1099511627776) (hdec:decR (data.drop k)=.ok (q,m)) :
  Calls Tryz.prog 130 #[.pointer (some ⟨pb,0,none⟩)] w (RatR w0 bs ns pb ba n c w q (.ok (k+m))):=by
 have hl:=hd.len.1
 have hsub:=hd.sub k n hk (Nat.le_refl _)
 rw [List.take_of_length_le (by omega)] at hsub
 have h8':∀ x,x∈data.drop k→x<256:=fun x hx=>h8 x (List.mem_of_mem_drop hx)
 have c1:n≤c:=hd.len.2.1
 have c2:c≤9223372036854775807:=hd.len.2.2.1
 have e1:(k:Int)≤(n:Int):=by omega
 have hkm:k+m≤n:=by
  have h9:=(enc_dec h8' hdec).2.2
  rw [List.length_drop] at h9
  omega
 have hD:=fun (W:World) (hb:Below w0.heap.size w0 W)=>((dec_any _ _ _ _ W (hsub.below hb) h8' (by omega)).mono fun e w' hr=>(by rw [hdec] at hr;exact hr):Calls Tryz.prog 33 #[_] W (RetD9 (.ok (q,m)) W))
 unfold RetD9 ratV at hD
 obtain ⟨qs,hqs⟩:∃ y,decide (q.num<0)=y:=⟨_,rfl⟩
 obtain ⟨qn,hqn⟩:∃ y,q.num.natAbs=y:=⟨_,rfl⟩
 obtain ⟨qd,hqd⟩:∃ y,denN q.den=y:=⟨_,rfl⟩
 simp only [hqs,hqn,hqd] at hD
 have HD:=qH hD
 have HQV:=qH (And.intro hqs (And.intro hqn hqd))
 have HKM:=qH hkm
 have HC:=qH (show ((k+m:Nat):Int)=(k:Int)+(m:Int) by omega)
 clear hD hsub hd h8 h8' hdec hl data hqs hqn hqd
 obtain ⟨W0,hW0⟩:∃ W0,W0=(w.alloc (.cells #[.bool false,.slice none 0 0,.slice none 0 0] 45)):=⟨_,rfl⟩
 have hn0:BS w0 (⟨pb,158,[.slice ba n c,.int .i64 k,.nilIface]⟩::⟨w.heap.size,45,[.bool false,.slice none 0 0,.slice none 0 0]⟩::bs) ns (w.alloc (.cells #[.bool false,.slice none 0 0,.slice none 0 0] 45)):=(h.alloc (p:=w.heap.size) rfl 45 [.bool false,.slice none 0 0,.slice none 0 0] rfl).ins 1
 rw [← hW0] at hn0
 have HW0:=qH hW0
 have HN:=qH hn0
 clear hW0 hn0
 clear h
 go_enter Tryz.func130,Tryz.ntmps130
 go_upto_region 1 with fail
 rw [← HW0.out]
 have ⟨k00,f00,k01,f01,k02,f02⟩:=HN.out.cf3 0 rfl
 have ⟨k10,f10,k11,f11,k12,f12⟩:=HN.out.cf3 1 rfl
 go_upto_region 3 with fail
 clear k00 f00 k01 f01 k02 f02 k10 f10 k11 f11 k12 f12
 go_cut [3,4,5] (fun v3 v4 v5 wx=>∃ p3 a8 c8 b9 d9,v3=.pointer (some ⟨p3,0,none⟩)∧v4=.int .i64 m∧v5=.nilIface∧BS w0 (⟨pb,158,[.slice ba n c,.int .i64 k,.nilIface]⟩::⟨w.heap.size,45,[.bool false,.slice none 0 0,.slice none 0 0]⟩::⟨p3,45,[.bool qs,.slice a8 (lenW qn) c8,.slice b9 (lenW qd) d9]⟩::bs) (⟨a8,c8,qn⟩::⟨b9,d9,qd⟩::ns) wx)
 case first =>
  replace HN:=qH HN.out.drew
  refine wp_region_held_drew (S:=fun W=>W.cell? ⟨pb,0,none⟩=some (.slice ba n c)∧W.cell? ⟨pb,1,none⟩=some (.int .i64 k)) (by kernel_rfl) (⟨HN.out.cell 0 0 rfl rfl,HN.out.cell 0 1 rfl rfl⟩) (fun hHeld=>?_)
  generalize W0.drew=wd at HN hHeld ⊢
  refine tm 0 (some 13) ?_
  refine tl 1 (some 14) ?_
  refine tm 2 (some 15) ?_
  refine tl 3 (some 16) ?_
  refine tm 4 (some 17) ?_
  refine tl 5 (some 18) ?_
  refine tm 6 (some 19) ?_
  refine tl 7 (some 20) ?_
  refine tm 8 (some 21) ?_
  generalize (if c=k then ba else Option.map (fun x=>x.add k) ba)=va at HD ⊢
  generalize c - k=vc at HD ⊢
  have tg:=Mk.mk (v:=0) (d:=0)
  iterate 3
   all_goals first
   | refine qz2 0 tg 9 0 1 14 1 2 ?_ ?_
   | refine qz1 1 tg 14 1 3 ?_
   | refine qz1 2 tg 9 0 3 ?_
   | refine qz1 3 tg 15 2 4 ?_
   all_goals intro K hK tg
   all_goals first
   |
    have _:Mk 0 _:=tg
    go_simp
    refine (HD.out _ HN.out.bel).mono ?_
    rintro e wd ⟨a8,c8,b9,d9,rfl,hq0,hq1,hb⟩
    replace HN:=qH (((HN.out.call hb).gotk 0 hq0).gotk 1 hq1)
    clear hb hq0 hq1
    go_wp2_with fail
   |
    have _:Mk 1 _:=tg
    go_simp
    replace HN:=qH ((HN.out.alloc (p:=wd.heap.size) rfl 45 [.bool false,.slice none 0 0,.slice none 0 0] rfl).ins 2)
    generalize wd.heap.size=p14_ at HN ⊢
    generalize wd.alloc (.cells #[.bool false,.slice none 0 0,.slice none 0 0] 45)=wd at HN  ⊢
   |
    have _:Mk 2 _:=tg
    have hc0:=HN.out.cell 2 0 rfl rfl
    have hf0:=HN.out.free 2 0 rfl
    have hc1:=HN.out.cell 2 1 rfl rfl
    have hf1:=HN.out.free 2 1 rfl
    have hc2:=HN.out.cell 2 2 rfl rfl
    have hf2:=HN.out.free 2 2 rfl
    go_simp
    clear hc0 hf0 hc1 hf1 hc2 hf2
    replace HN:=qH ((((HN.out).set 2 0 rfl rfl (fun _=>by simp) (.bool qs)).set 2 1 rfl rfl (fun _=>by simp) (.slice a8 (lenW qn) c8)).set 2 2 rfl rfl (fun _=>by simp) (.slice b9 (lenW qd) d9))
    generalize (((wd.setCell ⟨p14_,0,none⟩ (.bool qs)).setCell ⟨p14_,1,none⟩ (.slice a8 (lenW qn) c8)).setCell ⟨p14_,2,none⟩ (.slice b9 (lenW qd) d9))=wd at HN  ⊢
   all_goals
    refine hK.out _ _ (⟨HN.out.cell 0 0 rfl rfl,HN.out.cell 0 1 rfl rfl⟩) (fun hHeld2=>?_)
    clear hK K hHeld
    rename _=>hHeld
    try simp only [Act.put,stB,stZ,stS]
   all_goals first
   |
    have _:Mk 0 _:=tg
    refine tm 10 (some 12) ?_
    refine tm 11 (some 23) ?_
    refine tm 12 (some 24) ?_
    refine tm 13 (some 25) ?_
   |
    have _:Mk 2 _:=tg
    refine tm 16 (some 4) ?_
    refine tm 17 (some 5) ?_
   | skip
  all_goals (refine wpAnyH_done (by kernel_rfl) ?_ _)
  all_goals
   go_wp2_with fail
   go_meet
   exact ⟨_,_,_,_,_,rfl,rfl,rfl,HN.out⟩
 case rest =>
  obtain ⟨w1,rfl⟩:∃ w1:World,w1=wc:=⟨_,rfl⟩
  obtain ⟨p3,a8,c8,b9,d9,rfl,rfl,rfl,hn0⟩:=hcut
  have HN:=qH hn0
  clear hn0
  have ⟨k00,f00,k01,f01,k02,f02⟩:=HN.out.cf3 0 rfl
  have l0:=HN.out.lt 0 rfl
  have ⟨k10,f10,k11,f11,k12,f12⟩:=HN.out.cf3 1 rfl
  have l1:=HN.out.lt 1 rfl
  have ⟨k20,f20,k21,f21,k22,f22⟩:=HN.out.cf3 2 rfl
  have l2:=HN.out.lt 2 rfl
  have HP:=qH HN.out
  have ⟨k00p,f00p,k01p,f01p,k02p,f02p⟩:=HP.out.cf3 0 rfl
  have ⟨k10p,f10p,k11p,f11p,k12p,f12p⟩:=HP.out.cf3 1 rfl
  have ⟨k20p,f20p,k21p,f21p,k22p,f22p⟩:=HP.out.cf3 2 rfl
  go_upto_region 8 with fail
  replace HP:=qH ((HP.out).set 0 1 rfl rfl (fun _=>by simp) (.int .i64 ((k:Int)+(m:Int))))
  clear k00 f00 k01 f01 k02 f02 l0 k10 f10 k11 f11 k12 f12 l1 k20 f20 k21 f21 k22 f22 l2 k00p f00p k01p f01p k02p f02p k10p f10p k11p f11p k12p f12p k20p f20p k21p f21p k22p f22p HN
  have HN:=HP
  clear HP
  generalize (w1.setCell ⟨pb,1,none⟩ (.int .i64 ((k:Int)+(m:Int))))=wa2 at HN  ⊢
  have ⟨k00,f00,k01,f01,k02,f02⟩:=HN.out.cf3 0 rfl
  have ⟨k10,f10,k11,f11,k12,f12⟩:=HN.out.cf3 1 rfl
  have ⟨k20,f20,k21,f21,k22,f22⟩:=HN.out.cf3 2 rfl
  have HE:=qH (((HN.out.set 1 0 rfl rfl (fun _=>by simp) (.bool qs)).set 1 1 rfl rfl (fun _=>by simp) (.slice a8 (lenW qn) c8)).set 1 2 rfl rfl (fun _=>by simp) (.slice b9 (lenW qd) d9))
  go_wp2_with fail
  (try simp only [Exit.inBlock,Exit.then])
  refine bodyPost_ret (v:=.agg #[.bool qs,.slice a8 (lenW qn) c8,.slice b9 (lenW qd) d9]) ?_ rfl ?_
  ·
   rw [results_cell1 rfl]
   have hbk:=HE.out.at 1 rfl
   exact Go.Lib.rl_loadVar_cells 45 _ rfl (fun _=>rfl) _ 0 [.bool qs,.slice a8 (lenW qn) c8,.slice b9 (lenW qd) d9] rfl _ (fun k v hk=>by
    rw [Nat.zero_add]
    exact cell_of_block (j:=k) hbk (by simpa using hk))
  obtain ⟨rfl,rfl,rfl⟩:=HQV.out
  exact ⟨a8,c8,b9,d9,rfl,HE.out.nat 0 rfl,HE.out.nat 1 rfl,⟨k+m,.nilIface,by have h:=HE.out.only (.cons_cons _ (.cons _ (.cons _ (List.Sublist.refl _)))) (fun x h=>List.mem_cons_of_mem _ (List.mem_cons_of_mem _ h));rw [← HC.out] at h;exact h,⟨rfl,rfl,HKM.out⟩,HKM.out⟩⟩
theorem rrat_any {w0:World} {bs:List Bk} {ns:List Nm} {pb:Nat} {ba:Option Addr} {n c:Nat} (data:List Nat) (st:RS) (w:World) (h:RdW w0 bs ns pb ba n c st w) (hd:BytesN w0 (.slice ba n c) data) (h8:∀ x,x∈data→x<256) (hn:n≤1099511627776) :
  Calls Tryz.prog 130 #[.pointer (some ⟨pb,0,none⟩)] w (RatR w0 bs ns pb ba n c w (rRat data st).1 (rRat data st).2):=by
 cases st with
 | error x=>exact rrat_err x w h
 | ok a =>
  obtain ⟨k,ev,hy,hs,hk⟩:=h
  obtain ⟨rfl,rfl,_⟩:=hs
  cases hdec:decR (data.drop k) with
  | error f =>
   rw [show rRat data (.ok k)=(0,.error (f.n,k)) by unfold rRat;simp only [hdec]]
   exact rrat_bad f data k w hy hk hd h8 hn hdec
  | ok x =>
   obtain ⟨q,m⟩:=x
   rw [show rRat data (.ok k)=(q,.ok (k+m)) by unfold rRat;simp only [hdec]]
   exact rrat_good q m data k w hy hk hd h8 hn hdec
section
variable {w : World} {base : Nat} {e : TypeId} {size n : Nat} {v : Value} {xs : List Value}
theorem run_append_at {P:Program} (t tx ty:TypeId) (i:TypeInfo) (z:Value) (bytes:Nat) (ht:P.underlying t=some (.slice e)) (hi:P.info? e=some i) (hz:i.zero=some z)
  (hsize:i.size=size) (hby:i.bytes=bytes) (hzs:z.cells.size=size)
  (h:Mid w base e size v n xs) (x:Value) (m:Nat) (news:List Value) (hs:Src P size tx x m news w)
  (h63:n+m≤maxLen) (hbytes:((n+m)+(n+m) / 4+192)*bytes≤281474976710656) {v':Value} {w':World}
  (hrun:(Builtin.append_ #[t,tx] ty #[v,x]).run P w=.ok v' w'):∀ {a0 a':Option Addr} {n0 c0 n' c':Nat},v=.slice a0 n0 c0→v'=.slice a' n' c'→a'=a0∨a'=some ⟨w.heap.size,0,none⟩:=by
 subst hsize
 subst hby
 have hsmall:n+m≤9223372036854775807:=by simp only [maxLen] at h63;omega
 intro a0 a' n0 c0 n' c' e0 e1
 subst e0 e1
 rcases h.2 with ⟨hv,rfl⟩ | ⟨g,o,cap,cur,hv,hbg,hg,hnc,hcm,hcs,htake⟩
 ·
  cases hv
  have hx:xs=[]:=List.eq_nil_of_length_eq_zero (by simpa using h.1)
  subst hx
  by_cases hm:m=0
  ·
   subst hm
   have hn:news=[]:=List.eq_nil_of_length_eq_zero (by simpa using hs.newsLen)
   subst hn
   have hr:(Builtin.append_ #[t,tx] ty #[.slice none 0 0,x]).run P w=.ok (.slice none 0 0) w:=by
    rcases hs.kind with ⟨e',hk⟩ | hk <;> simp [Builtin.append_,run_underlying ht,run_underlying hk,sizeOf,typeInfo,hi,hs.len,hs.cells]
   rw [hr] at hrun
   injection hrun with h1 _
   injection h1 with h1
   exact .inl h1.symm
  ·
   have hfit:Builtin.nextslicecap (0+m) 0*i.bytes≤281474976710656:=growslice_fits_wide (by omega) hbytes
   have hr:=run_append_grow_src (P:=P) w t tx ty e i z ht hi hz none 0 0 [] (by simp [Builtin.firstCells]) x m news hs (by omega) (by omega) hfit
   rw [hr] at hrun
   injection hrun with h1 _
   injection h1 with h1
   exact .inr h1.symm
 ·
  cases hv
  by_cases hroom:n+m≤c0
  ·
   have hfit:o+n*i.size+news.length≤cur.size:=by
    have:n*i.size+m*i.size≤c0*i.size:=by rw [← Nat.add_mul];exact Nat.mul_le_mul_right _ hroom
    rw [hs.newsLen];omega
   have hst:=run_storeCells_at P g (o+n*i.size) e news 0 cur w hg (by simpa using hfit) hs.one
   simp only [Nat.add_zero] at hst
   have hr:(Builtin.append_ #[t,tx] ty #[.slice (some ⟨g,o,none⟩) n c0,x]).run P w=.ok (.slice (some ⟨g,o,none⟩) (n+m) c0) (w.setRow g (cur.toList.take (o+n*i.size)++news++cur.toList.drop (o+n*i.size+news.length)).toArray):=by
    rcases hs.kind with ⟨e',hk⟩ | hk <;> simp [Builtin.append_,run_underlying ht,run_underlying hk,sizeOf,typeInfo,hi,hs.len,hroom,hs.cells,Addr.add_lit,hst]
   rw [hr] at hrun
   injection hrun with h1 _
   injection h1 with h1
   exact .inl h1.symm
  ·
   have holds:(Builtin.firstCells i.size n (.slice (some ⟨g,o,none⟩) n c0)).run P w.drew=.ok xs.toArray w.drew:=by
    have hc:∀ j u,xs[j]?=some u→w.drew.cell? ((⟨g,o,none⟩:Addr).add j)=some u:=fun j u hj=>by
     rw [World.cell?_drew,Addr.add_lit];exact h.cell j u hj
    exact run_firstCells_some (P:=P) w.drew i.size n ⟨g,o,none⟩ n c0 xs h.1 hc
   have hr:=run_append_grow_src (P:=P) w t tx ty e i z ht hi hz (some ⟨g,o,none⟩) n c0 xs holds x m news hs (by omega) (by omega) (growslice_fits_wide (by omega) hbytes)
   rw [hr] at hrun
   injection hrun with h1 _
   injection h1 with h1
   exact .inr h1.symm
end
structure OB (w:World) (bs:List Bk) (ns:List Nm) (T:TypeId) (sz:Nat) (a:Option Addr) (n c:Nat) (cs:List Value) (W:World):Prop where
 st:BS w bs ns W
 mid:Mid W w.heap.size T sz (.slice a n c) n cs
 nod:∀ k,(Value.slice a n c).ownBlock=some k→∀ b,b∈bs→b.p≠k
 hd:a=none∨∃ g,a=some ⟨g,0,none⟩∧1≤n
section
variable {w W W' : World} {bs : List Bk} {ns : List Nm} {T : TypeId} {sz : Nat} {a : Option Addr} {n c : Nat} {cs : List Value}
theorem OB.start (h:BS w bs ns W):OB w bs ns T sz none 0 0 [] W:=⟨h,Mid.nil _ _ _ _,(fun k hk=>by cases hk),.inl rfl⟩
theorem OB.lend (h:OB w bs ns T sz a n c cs W):∃ ex:List Bk,BS w (bs++ex) ns W∧∀ (bs2:List Bk) (ns2:List Nm) (W':World),BS w (bs2++ex) ns2 W'→OB w bs2 ns2 T sz a n c cs W':=by
 rcases h.mid.2 with ⟨hv,h0⟩ | ⟨g,o,cap,cur,hv,hb,hg,hn,hm,hc,ht⟩
 ·
  refine ⟨[],by rw [List.append_nil];exact h.st,fun _ _ _ h2=>⟨by rw [List.append_nil] at h2;exact h2,⟨h.mid.1,.inl ⟨hv,h0⟩⟩,fun k hk=>?_,h.hd⟩⟩
  rw [hv] at hk;cases hk
 ·
  have hown:(Value.slice a n c).ownBlock=some g:=by rw [hv];rfl
  refine ⟨[⟨g,T,cur.toList⟩],⟨h.st.bel,fun b hb2=>?_,?_,h.st.num⟩,fun bs2 ns2 W' h2=>⟨h2.only (List.sublist_append_left _ _) (fun _ h=>h),⟨h.mid.1,.inr ⟨g,o,cap,cur,hv,hb,?_,hn,hm,hc,ht⟩⟩,fun k hk b hb2=>?_,h.hd⟩⟩
  ·
   rcases List.mem_append.1 hb2 with hb2 | hb2
   ·
    exact h.st.box b hb2
   ·
    rw [List.mem_singleton.1 hb2];exact ⟨hg,hb⟩
  ·
   refine List.pairwise_append.2 ⟨h.st.nod,List.pairwise_singleton _ _,fun x hx y hy=>?_⟩
   rw [List.mem_singleton.1 hy]
   exact h.nod g hown x hx
  ·
   exact (h2.box ⟨g,T,cur.toList⟩ (by simp)).1
  ·
   rw [hown] at hk
   injection hk with hk
   subst hk
   exact (List.pairwise_append.1 h2.nod).2.2 b hb2 ⟨g,T,cur.toList⟩ (by simp)
theorem OB.push (h:OB w bs ns T sz a n c cs W) (hT:T≠164) {ob:Obj} {a':Option Addr} {c':Nat} {ys:List Value} {m:Nat} (h1:1≤m) (hm:Mid W' w.heap.size T sz (.slice a' (n+m) c') (n+m) (cs++ys)) (hg:(W.alloc ob).grownBy W' (Value.slice a n c).ownBlock) (hb:(Value.slice a' (n+m) c').ownBlock=(Value.slice a n c).ownBlock∨(Value.slice a' (n+m) c').ownBlock=some (W.alloc ob).heap.size) (ha:a'=a∨a'=some ⟨(W.alloc ob).heap.size,0,none⟩):OB w bs ns T sz a' (n+m) c' (cs++ys) W':=by
 refine ⟨h.st.keeps (grown_keeps hg) (fun k hk=>(h.mid.lt k hk).1) (fun k hk=>h.nod k hk) (fun k hk=>h.mid.noWord hT k hk),hm,fun k hk b hbb=>?_,?_⟩
 ·
  rcases hb with e | e
  ·
   exact h.nod k (by rw [← e];exact hk) b hbb
  ·
   rw [hk] at e
   injection e with e
   have:=lt_of_block (h.st.box b hbb).1
   simp at e
   omega
 ·
  rcases ha with rfl | rfl
  ·
   rcases h.hd with rfl | ⟨g,rfl,_⟩
   ·
    rcases hm.2 with ⟨hv,h0⟩ | ⟨g,o,cap,cur,hv,_⟩
    ·
     omega
    ·
     cases hv
   ·
    exact .inr ⟨g,rfl,by omega⟩
  ·
   exact .inr ⟨_,rfl,by omega⟩
theorem OB.first (h:OB w bs ns T sz a n c cs W) (hs:1≤sz) (h0:∀ s,cs[0]?≠some (.string s)):∀ b,(Value.slice a n c).ownBlock=some b→∀ s,W.cell? ⟨b,0,none⟩≠some (.string s):=fun b hb s hc=>by
 rcases h.hd with rfl | ⟨g,rfl,hn⟩
 ·
  cases hb
 ·
  have hb:g=b:=by injection hb
  subst hb
  have hl:=h.mid.1
  have h1:1≤n*sz:=Nat.mul_le_mul hn hs
  have hx:cs[0]?=some cs[0]:=List.getElem?_eq_getElem (by omega)
  have h2:=h.mid.cell 0 _ hx
  rw [Nat.add_zero] at h2
  rw [h2] at hc
  injection hc with hc
  exact h0 s (by rw [hx,hc])
end
theorem RSt.keeps {W W':World} {pb n k:Nat} {ev:Value} {st:RS} {S:Nat→Prop} (h:RSt W pb n k ev st) (hk:Keeps W W' S) (hc:∀ b,S b→∀ s,W.cell? ⟨b,0,none⟩≠some (.string s)):RSt W' pb n k ev st:=by
 cases st with
 | ok a=>exact h
 | error y =>
  obtain ⟨eb,u,he,hp,hA,hu⟩:=h
  refine ⟨eb,u,he,hp,hA.keeps hk (fun hs=>hc eb hs _ hA.1),?_⟩
  rcases hu with hu | ⟨fb,s,q,hu,hpf,hf⟩
  ·
   exact .inl hu
  ·
   exact .inr ⟨fb,s,q,hu,hpf,hf.keeps' hk (fun hs=>hc fb hs _ hf.1)⟩
structure Rv.sh (v:Rv):Prop where
 s:v.s=decide (v.q.num<0)
 l:v.l=lenW v.q.num.natAbs
 m:v.m=lenW (denN v.q.den)
 num:lenW v.q.num.natAbs≤1099511627776
 den:lenW v.q.den≤1099511627776
def Rv.nums (v:Rv):List Nm:=[⟨v.a,v.c,v.q.num.natAbs⟩,⟨v.b,v.d,denN v.q.den⟩]
theorem Rv.sh.ok {v:Rv} (h:v.sh) {w W:World} {bs:List Bk} {ns:List Nm} (hb:BS w bs ns W) (hn:∀ x,x∈v.nums→x∈ns):v.ok W :=
 ⟨h.s,h.l,h.m,hb.num ⟨v.a,v.c,v.q.num.natAbs⟩ (hn _ (by unfold Rv.nums;simp)),hb.num ⟨v.b,v.d,denN v.q.den⟩ (hn _ (by unfold Rv.nums;simp))⟩
theorem dec_small {b:List Nat} (hb:B256 b) {q:Rat} {n:Nat} (h:decR b=.ok (q,n)):lenW q.num.natAbs≤1099511627776∧lenW q.den≤1099511627776:=by
 obtain ⟨he,_,_⟩:=enc_dec hb h
 have h1:¬ (255<ndig 256 q.num.natAbs∨(q.den≠1∧255<ndig 256 q.den)):=fun hc=>by
  obtain ⟨f,hf,_⟩:=(enc_size q).1 hc
  rw [he] at hf
  cases hf
 have small:∀ m:Nat,ndig 256 m≤255→lenW m≤1099511627776:=fun m hm=>by
  have h2:=lt_ndig (B:=256) (by omega) m
  have h3:m<W64^32:=by
   refine Nat.lt_of_lt_of_le h2 (Nat.le_trans (Nat.pow_le_pow_right (by omega) hm) ?_)
   rw [show W64=256^8 from rfl,← Nat.pow_mul]
   exact Nat.pow_le_pow_right (by omega) (by omega)
  have:=lenW_le h3
  omega
 refine ⟨small _ (by omega),?_⟩
 by_cases hd:q.den=1
 ·
  rw [hd];exact Nat.le_trans (lenW_le (show (1:Nat)<W64^1 by rw [Nat.pow_one];unfold W64;omega)) (by omega)
 ·
  exact small _ (by omega)
theorem rRat_small {data:List Nat} (hb:B256 data) (st:RS):lenW (rRat data st).1.num.natAbs≤1099511627776∧lenW (rRat data st).1.den≤1099511627776:=by
 have h0:lenW (0:Rat).num.natAbs≤1099511627776∧lenW (0:Rat).den≤1099511627776:=by
  refine ⟨by show lenW 0≤_;rw [lenW_zero];omega,?_⟩
  show lenW 1≤_
  exact Nat.le_trans (lenW_le (show (1:Nat)<W64^1 by rw [Nat.pow_one];unfold W64;omega)) (by omega)
 cases st with
 | error x=>exact h0
 | ok a =>
  cases hd:decR (data.drop a) with
  | error f=>rw [show rRat data (.ok a)=(0,.error (f.n,a)) by unfold rRat;simp only [hd]];exact h0
  | ok x =>
   obtain ⟨q,m⟩:=x
   rw [show rRat data (.ok a)=(q,.ok (a+m)) by unfold rRat;simp only [hd]]
   exact dec_small (hb.drop a) hd
theorem rPick_le {data:List Nat} (hb:B256 data) (lo hi:Int) (st:RS):(rPick data lo hi st).1≤255:=by
 have h8:=rNext_lt hb 1 st
 have h1:((rNext data 1 st).1.headD 0)≤255:=by
  cases hx:(rNext data 1 st).1 with
  | nil=>simp
  | cons x l =>
   have:=h8 x (by rw [hx];simp)
   simp;omega
 unfold rPick
 cases hx:rNext data 1 st with
 | mk b s1 =>
  rw [hx] at h1
  cases s1 <;> simp only at h1 ⊢ <;> omega
section
variable {w0 : World} {bs : List Bk} {ns : List Nm} {pb : Nat} {ba : Option Addr} {n c : Nat} {st : RS} {w w' : World}
theorem RdW.get (h:RdW w0 bs ns pb ba n c st w):∃ k ev,BS w0 (rBox pb ba n c k ev::bs) ns w∧RSt w pb n k ev st∧k≤n:=h
theorem RdW.tl (h:RdW w0 bs ns pb ba n c st w):BS w0 bs ns w:=by
 obtain ⟨k,ev,hy,_,_⟩:=h
 exact hy.only (List.sublist_cons_self _ _) fun _ h=>h
theorem RdW.cell (h:RdW w0 bs ns pb ba n c st w) (i j:Nat) {b:Bk} {v:Value} (hi:bs[i]?=some b) (hj:b.cs[j]?=some v):w.cell? ⟨b.p,j,none⟩=some v:=h.tl.cell i j hi hj
theorem RdW.free (h:RdW w0 bs ns pb ba n c st w) (i j:Nat) {b:Bk} (hi:bs[i]?=some b):w.frozen? ⟨b.p,j,none⟩=false:=h.tl.free i j hi
theorem RdW.at (h:RdW w0 bs ns pb ba n c st w) (i:Nat) {b:Bk} (hi:bs[i]?=some b):w.heap[b.p]?=some (.cells b.cs.toArray b.T (0,0)):=h.tl.at i hi
theorem RdW.bel (h:RdW w0 bs ns pb ba n c st w):Below w0.heap.size w0 w:=h.tl.bel
theorem RdW.alloc (h:RdW w0 bs ns pb ba n c st w) {p:Nat} (hp:w.heap.size=p) (T:TypeId) (cs:List Value) {o:Obj} (ho:o=.cells cs.toArray T (0,0)):RdW w0 (bs++[⟨p,T,cs⟩]) ns pb ba n c st (w.alloc o):=by
 obtain ⟨k,ev,hy,hs,hk⟩:=h
 exact ⟨k,ev,hy.alloc hp T cs ho,hs.below (by rw [ho];exact belowBox _ _),hk⟩
theorem RdW.ins {x:Bk} (k:Nat) (h:RdW w0 (bs++[x]) ns pb ba n c st w):RdW w0 (bs.take k++x::bs.drop k) ns pb ba n c st w:=by
 obtain ⟨q,ev,hy,hs,hk⟩:=h
 exact ⟨q,ev,BS.ins (k+1) (bs:=rBox pb ba n c q ev::bs) hy,hs,hk⟩
theorem RdW.gotk (h:RdW w0 bs ns pb ba n c st w) {a:Option Addr} {c9 m:Nat} (k:Nat) (hn:NatW w a c9 m):RdW w0 bs (ns.take k++⟨a,c9,m⟩::ns.drop k) pb ba n c st w:=by
 obtain ⟨q,ev,hy,hs,hk⟩:=h
 exact ⟨q,ev,hy.gotk k hn,hs,hk⟩
theorem RdW.only (h:RdW w0 bs ns pb ba n c st w) {bs':List Bk} {ns':List Nm} (hb:bs'.Sublist bs) (hn:∀ x,x∈ns'→x∈ns):RdW w0 bs' ns' pb ba n c st w:=by
 obtain ⟨q,ev,hy,hs,hk⟩:=h
 exact ⟨q,ev,hy.only (.cons_cons _ hb) hn,hs,hk⟩
theorem RdW.set (h:RdW w0 bs ns pb ba n c st w) (i j:Nat) {b:Bk} {u0:Value} (hi:bs[i]?=some b) (hj:b.cs[j]?=some u0) (h0:∀ x,u0≠.int .u64 x) (v:Value) (hc:∀ s,b.cs[0]?≠some (.string s):=by intro s;simp):RdW w0 (bs.set i ⟨b.p,b.T,b.cs.set j v⟩) ns pb ba n c st (w.setCell ⟨b.p,j,none⟩ v):=by
 obtain ⟨k,ev,hy,hs,hk⟩:=h
 refine ⟨k,ev,hy.set (i+1) j hi hj h0 v,?_,hk⟩
 refine hs.keeps (Keeps.setCell w ⟨b.p,j,none⟩ v (S:=fun z=>z=b.p) rfl) fun z hz s hcell=>?_
 subst hz
 have hat:=hy.at (i+1) (b:=b) hi
 have h1:w.cell? ⟨b.p,0,none⟩=b.cs[0]?:=by simp [World.cell?,hat]
 rw [h1] at hcell
 exact hc s hcell
def RdX (w0:World) (bs:List Bk) (ns:List Nm) (pb:Nat) (ba:Option Addr) (n c:Nat) (st:RS) (k:Nat) (ev:Value) (w:World):Prop:=BS w0 (rBox pb ba n c k ev::bs) ns w∧RSt w pb n k ev st∧k≤n
theorem RdX.rd {k:Nat} {ev:Value} (h:RdX w0 bs ns pb ba n c st k ev w):RdW w0 bs ns pb ba n c st w:=⟨k,ev,h⟩
theorem RdX.cell {k:Nat} {ev:Value} (h:RdX w0 bs ns pb ba n c st k ev w) (i j:Nat) {b:Bk} {v:Value} (hi:bs[i]?=some b) (hj:b.cs[j]?=some v):w.cell? ⟨b.p,j,none⟩=some v:=h.rd.cell i j hi hj
theorem RdX.free {k:Nat} {ev:Value} (h:RdX w0 bs ns pb ba n c st k ev w) (i j:Nat) {b:Bk} (hi:bs[i]?=some b):w.frozen? ⟨b.p,j,none⟩=false:=h.rd.free i j hi
theorem RdX.at {k:Nat} {ev:Value} (h:RdX w0 bs ns pb ba n c st k ev w) (i:Nat) {b:Bk} (hi:bs[i]?=some b):w.heap[b.p]?=some (.cells b.cs.toArray b.T (0,0)):=h.rd.at i hi
theorem RdX.set {k:Nat} {ev:Value} (h:RdX w0 bs ns pb ba n c st k ev w) (i j:Nat) {b:Bk} {u0:Value} (hi:bs[i]?=some b) (hj:b.cs[j]?=some u0) (h0:∀ x,u0≠.int .u64 x) (v:Value) (hc:∀ s,b.cs[0]?≠some (.string s):=by intro s;simp):RdX w0 (bs.set i ⟨b.p,b.T,b.cs.set j v⟩) ns pb ba n c st k ev (w.setCell ⟨b.p,j,none⟩ v):=by
 obtain ⟨hy,hs,hk⟩:=h
 refine ⟨hy.set (i+1) j hi hj h0 v,?_,hk⟩
 refine hs.keeps (Keeps.setCell w ⟨b.p,j,none⟩ v (S:=fun z=>z=b.p) rfl) fun z hz s hcell=>?_
 subst hz
 have hat:=hy.at (i+1) (b:=b) hi
 have h1:w.cell? ⟨b.p,0,none⟩=b.cs[0]?:=by simp [World.cell?,hat]
 rw [h1] at hcell
 exact hc s hcell
theorem RdX.err {k:Nat} {eb:Nat} {x:Int × Nat} (h:RdX w0 bs ns pb ba n c (.error x) k (eF eb) w):ErrB w (fun _=>True) (eF eb) x.1 x.2:=by
 obtain ⟨e2,u,he,_,hA,hu⟩:=h.2.1
 refine ⟨e2,u,he,trivial,hA,?_⟩
 rcases hu with hu | ⟨fb,s,j,hu,_,hf⟩
 ·
  exact .inl hu
 ·
  exact .inr ⟨fb,s,j,hu,trivial,hf⟩
theorem OB.lendR {k:Nat} {ev:Value} {T:TypeId} {sz:Nat} {a:Option Addr} {m c9:Nat} {cs:List Value} (h:OB w0 (rBox pb ba n c k ev::bs) ns T sz a m c9 cs w) (hs:RSt w pb n k ev st) (hk:k≤n) :
  ∃ ex:List Bk,RdW w0 (bs++ex) ns pb ba n c st w∧∀ (bs2:List Bk) (ns2:List Nm) (W':World),BS w0 (bs2++ex) ns2 W'→OB w0 bs2 ns2 T sz a m c9 cs W':=by
 obtain ⟨ex,h1,h2⟩:=h.lend
 exact ⟨ex,⟨k,ev,h1,hs,hk⟩,h2⟩
end
def Rv.hd (r:Rv):List Value:=[.bool r.s,.slice r.a r.l r.c,.slice r.b r.m r.d]
def RvR2 (w0:World) (bs:List Bk) (ns:List Nm) (pb:Nat) (ba:Option Addr) (n c:Nat) (q:Rat) (st:RS) (e:Ending) (w':World):Prop:=∃ r:Rv,e=.returned (.agg #[.bool r.s,.slice r.a r.l r.c,.slice r.b r.m r.d])∧r.sh∧r.q=q∧RdW w0 bs (r.nums++ns) pb ba n c st w'
theorem rrat_rv {w0:World} {bs:List Bk} {ns:List Nm} {pb:Nat} {ba:Option Addr} {n c:Nat} (data:List Nat) (st:RS) (w:World) (h:RdW w0 bs ns pb ba n c st w) (hd:BytesN w0 (.slice ba n c) data) (h8:∀ x,x∈data→x<256) (hn:n≤1099511627776) :
  Calls Tryz.prog 130 #[.pointer (some ⟨pb,0,none⟩)] w (RvR2 w0 bs ns pb ba n c (rRat data st).1 (rRat data st).2) :=
 (rrat_any data st w h hd h8 hn).mono fun e w' hr=>by
  obtain ⟨ra,rc,rb,rd,he,q1,q2,h3⟩:=hr
  have hsm:=rRat_small (data:=data) h8 st
  exact ⟨⟨decide ((rRat data st).1.num<0),ra,lenW (rRat data st).1.num.natAbs,rc,rb,lenW (denN (rRat data st).1.den),rd,(rRat data st).1⟩,he,⟨rfl,rfl,rfl,hsm.1,hsm.2⟩,rfl,(h3.gotk 0 q2).gotk 0 q1⟩
theorem Rv.zero_sh:Rv.zero.sh:=⟨rfl,lenW_zero.symm,lenW_zero.symm,by show lenW 0≤_;rw [lenW_zero];omega,by
 show lenW 1≤_
 exact Nat.le_trans (lenW_le (show (1:Nat)<W64^1 by rw [Nat.pow_one];unfold W64;omega)) (by omega)⟩
theorem RdW.zero {w0:World} {bs:List Bk} {ns:List Nm} {pb:Nat} {ba:Option Addr} {n c:Nat} {st:RS} {w:World} (h:RdW w0 bs ns pb ba n c st w):RdW w0 bs (Rv.zero.nums++ns) pb ba n c st w:=(h.gotk 0 (NatW.zero w)).gotk 0 (NatW.zero w)
def rEndS (data:List Nat) (st:RS):RS:=match st with
 | .error x=>.error x
 | .ok a=>if a=data.length then .ok a else .error (270,a)
theorem rEnd_S (data:List Nat) (st:RS):rEnd data st=match rEndS data st with
 | .error x=>some x
 | .ok _=>none:=by
 cases st with
 | error x=>rfl
 | ok a =>
  unfold rEnd rEndS
  simp only
  by_cases h:a=data.length
  ·
   rw [if_pos h,if_pos h]
  ·
   rw [if_neg h,if_neg h]
def EndR (w0:World) (bs:List Bk) (ns:List Nm) (pb:Nat) (ba:Option Addr) (n c:Nat) (st:RS) (e:Ending) (w':World):Prop:=∃ k ev,e=.returned ev∧BS w0 (rBox pb ba n c k ev::bs) ns w'∧RSt w' pb n k ev st∧k≤n
theorem rend_err {w0:World} {bs:List Bk} {ns:List Nm} {pb:Nat} {ba:Option Addr} {n c:Nat} (k eb:Nat) (x:Int × Nat) (w:World) (h:BS w0 (rBox pb ba n c k (eF eb)::bs) ns w) (hs:RSt w pb n k (eF eb) (.error x)) (hk:k≤n) :
  Calls Tryz.prog 67 #[.pointer (some ⟨pb,0,none⟩)] w (EndR w0 bs ns pb ba n c (.error x)):=by
 have k2:=h.cell 0 2 rfl rfl
 have HY:=qH h
 have HS:=qH hs
 unfold eF at k2
 clear h hs
 go_enter Tryz.func67,Tryz.ntmps67
 go_wp2_with fail
 go_quiet (fail)
 go_wp2_with fail
 go_ret
 exact ⟨k,eF eb,rfl,HY.out.drewN _,HS.out.below (Below.drawn _ _),hk⟩
theorem rend_all {w0:World} {bs:List Bk} {ns:List Nm} {pb:Nat} {ba:Option Addr} {n c:Nat} (w:World) (h:BS w0 (rBox pb ba n c n .nilIface::bs) ns w) (hn:n≤1099511627776) :
  Calls Tryz.prog 67 #[.pointer (some ⟨pb,0,none⟩)] w (EndR w0 bs ns pb ba n c (.ok n)):=by
 have k0:=h.cell 0 0 rfl rfl
 have k1:=h.cell 0 1 rfl rfl
 have k2:=h.cell 0 2 rfl rfl
 have HY:=qH h
 clear h
 go_enter Tryz.func67,Tryz.ntmps67
 go_wp2_with fail
 go_quiet (fail)
 go_wp2_with fail
 go_ret
 exact ⟨n,.nilIface,rfl,HY.out.drewN _,⟨rfl,rfl,Nat.le_refl _⟩,Nat.le_refl _⟩
theorem rend_part {w0:World} {bs:List Bk} {ns:List Nm} {pb:Nat} {ba:Option Addr} {n c:Nat} (k:Nat) (w:World) (h:BS w0 (rBox pb ba n c k .nilIface::bs) ns w) (hk:k≤n) (hne:k≠n) (hn:n≤1099511627776) :
  Calls Tryz.prog 67 #[.pointer (some ⟨pb,0,none⟩)] w (EndR w0 bs ns pb ba n c (.error (270,k))):=by
 have HF:=qH fun (w:World) (h:BS w0 (rBox pb ba n c k .nilIface::bs) ns w)=>rfail_any k .nilIface (.ok k) 52 (.int .i64 270) 270 w h ⟨rfl,rfl,hk⟩ (.inl rfl)
 have k0:=h.cell 0 0 rfl rfl
 have k1:=h.cell 0 1 rfl rfl
 have k2:=h.cell 0 2 rfl rfl
 have e1:((k:Int) != (n:Int))=true:=bne_iff_ne.2 (by omega)
 have e2:(k != n)=true:=bne_iff_ne.2 hne
 have HY:=qH h
 have HK:=qH hk
 clear h hne hk
 go_enter Tryz.func67,Tryz.ntmps67
 go_wp2_with fail
 go_quiet (fail)
 go_wp2_with fail
 refine (HF.out _ (HY.out.drewN _)).mono ?_
 rintro e w2 ⟨ev,rfl,hy2,hs2⟩
 have HR2:=qH (And.intro hy2 hs2)
 have k2:=hy2.cell 0 2 rfl rfl
 clear HF hy2 hs2 k0 k1 e1 e2
 go_wp2_with fail
 go_ret
 exact ⟨k,ev,rfl,HR2.out.1,HR2.out.2,HK.out⟩
theorem rend_any {w0:World} {bs:List Bk} {ns:List Nm} {pb:Nat} {ba:Option Addr} {n c:Nat} (data:List Nat) (st:RS) (w:World) (h:RdW w0 bs ns pb ba n c st w) (hd:BytesN w0 (.slice ba n c) data) (hn:n≤1099511627776) :
  Calls Tryz.prog 67 #[.pointer (some ⟨pb,0,none⟩)] w (EndR w0 bs ns pb ba n c (rEndS data st)):=by
 obtain ⟨k,ev,hy,hs,hk⟩:=h
 have hl:=hd.len.1
 cases st with
 | error x =>
  have hs0:=hs
  obtain ⟨eb,u,rfl,_⟩:=hs
  exact rend_err k eb x w hy hs0 hk
 | ok a =>
  obtain ⟨rfl,rfl,_⟩:=hs
  unfold rEndS
  simp only
  by_cases hc:k=data.length
  ·
   rw [if_pos hc]
   obtain rfl:k=n:=by omega
   exact rend_all w hy hn
  ·
   rw [if_neg hc]
   exact rend_part k w hy hk (by omega) hn
end Go.Proofs.YtmhainidincjhaaGreatDoor
