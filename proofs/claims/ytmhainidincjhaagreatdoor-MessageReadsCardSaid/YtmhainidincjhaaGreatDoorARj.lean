/-
 What the laws stand on, part Rj: contracts and plain laws of FTk, FTkQ, FTkL, FTkA; the conditions are each law's own.
-/
import Derived.Test.YtmhainidincjhaaGreatDoorAT
import Derived.Test.YtmhainidincjhaaGreatDoorARb
import Derived.Test.YtmhainidincjhaaGreatDoorARh
import Derived.Test.YtmhainidincjhaaGreatDoorARf
set_option linter.unusedVariables false
set_option linter.unusedSimpArgs false
set_option maxRecDepth 100000
set_option maxHeartbeats 16000000
namespace Go.Proofs.YtmhainidincjhaaGreatDoor
open Go.RowKit Go.Extern.Stop Go.Stop Go.Extern
def stK:RS→Nat
 | .ok a=>a
 | .error x=>x.2
def stE:RS→Int
 | .ok _=>0
 | .error x=>x.1
abbrev tBox (pb:Nat) (ba:Option Addr) (n c k:Nat) (z:Int):Bk:=⟨pb,207,[.slice ba n c,.int .i64 k,.int .i64 z]⟩
def TkW (w0:World) (bs:List Bk) (ns:List Nm) (pb:Nat) (ba:Option Addr) (n c:Nat) (st:RS) (w:World):Prop:=BS w0 (tBox pb ba n c (stK st) (stE st)::bs) ns w∧stK st≤n∧(∀ x,st=.error x→x.1≠0)
def Good9 (st:RS):Prop:=∃ k,st=.ok k
theorem TkW.call {w0:World} {bs:List Bk} {ns:List Nm} {pb:Nat} {ba:Option Addr} {n c:Nat} {st:RS} {w w':World} (h:TkW w0 bs ns pb ba n c st w) (hb:Below w.heap.size w w'):TkW w0 bs ns pb ba n c st w':=⟨h.1.call hb,h.2⟩
def NextT (w0:World) (bs:List Bk) (ns:List Nm) (pb:Nat) (ba:Option Addr) (n c:Nat) (w:World) (m:Nat) (ys:List Nat) (st:RS) (e:Ending) (w':World):Prop:=∃ a' c',e=.returned (.slice a' m c')∧BytesN w' (.slice a' m c') ys∧TkW w0 bs ns pb ba n c st w'∧Keeps w w' (fun b=>b=pb)∧(Good9 st→BytesN w0 (.slice a' m c') ys)
theorem tsome_err {w0:World} {bs:List Bk} {ns:List Nm} {pb:Nat} {ba:Option Addr} {n c:Nat} (m k:Nat) (z:Int) (w:World) (h:BS w0 (tBox pb ba n c k z::bs) ns w) (hk:k≤n) (hz:z≠0) (hm:m≤1099511627776) :
  Calls Tryz.prog 104 #[.pointer (some ⟨pb,0,none⟩),.int .i64 m] w (NextT w0 bs ns pb ba n c w m (List.replicate m 0) (.error (z,k))):=by
 have hmk:=make_bytes (m:Int) m rfl (by omega)
 have k2:=h.cell 0 2 rfl rfl
 have e1:(z==0)=false:=beq_eq_false_iff_ne.2 hz
 have e2:(z != 0)=true:=bne_iff_ne.2 hz
 have HR:=Lib.hid (show TkW w0 bs ns pb ba n c (.error (z,k)) w from ⟨h,hk,fun x hx=>by cases hx;exact hz⟩)
 clear h hz
 go_enter Tryz.func104,Tryz.ntmps104
 go_wp2_with fail
 go_quiet (fail)
 go_wp2_with fail
 go_ret
 exact ⟨_,_,rfl,zeros_bytes m _ (by omega),HR.out.call (belowDrawn (belowBox _ _) _),(Keeps.drewN _ _ _).trans (Keeps.alloc _ _ _) fun _ _ h=>h,fun ⟨_,h⟩=>by cases h⟩
theorem tsome_short {w0:World} {bs:List Bk} {ns:List Nm} {pb:Nat} {ba:Option Addr} {n c:Nat} (m k:Nat) (w:World) (h:BS w0 (tBox pb ba n c k 0::bs) ns w) (hk:k≤n) (hn:n≤1099511627776) (hm:m≤1099511627776) (hlt:n - k<m) :
  Calls Tryz.prog 104 #[.pointer (some ⟨pb,0,none⟩),.int .i64 m] w (NextT w0 bs ns pb ba n c w m (List.replicate m 0) (.error (90,k))):=by
 have hmk:=make_bytes (m:Int) m rfl (by omega)
 have k0:=h.cell 0 0 rfl rfl
 have k1:=h.cell 0 1 rfl rfl
 have k2:=h.cell 0 2 rfl rfl
 have f2:=h.free 0 2 rfl
 have HY:=Lib.hid h
 have e1:IntKind.i64.wrap ((n:Int) - (k:Int))=(n:Int) - (k:Int):=IntWalk.i64_in _ (by omega)
 have e2:decide ((n:Int) - (k:Int)<(m:Int))=true:=decide_eq_true (by omega)
 clear h
 go_enter Tryz.func104,Tryz.ntmps104
 go_wp2_with fail
 go_quiet (fail)
 go_upto_region 4 with fail
 have HR:=Lib.hid (show TkW w0 bs ns pb ba n c (.error (90,k)) ((w.drewN nq).setCell ⟨pb,2,none⟩ (.int .i64 90)) from ⟨(HY.out.drewN _).set 0 2 rfl rfl (fun _=>by simp) (.int .i64 90),hk,fun x hx=>by cases hx;show (90:Int)≠0;decide⟩)
 have HK:=Lib.hid ((Keeps.drewN w nq (fun b=>b=pb)).trans (Keeps.setCell _ ⟨pb,2,none⟩ (.int .i64 90) (S:=fun b=>b=pb) rfl) fun _ _ h=>h)
 generalize (w.drewN nq).setCell ⟨pb,2,none⟩ (.int .i64 90)=w2 at HR HK ⊢
 clear k0 k1 k2 f2 e1 e2 HY
 go_wp2_with fail
 go_ret
 exact ⟨_,_,rfl,zeros_bytes m w2 (by omega),HR.out.call (belowBox _ _),HK.out.trans (Keeps.alloc _ _ _) fun _ _ h=>h,fun ⟨_,h⟩=>by cases h⟩
theorem tsome_good {w0:World} {bs:List Bk} {ns:List Nm} {pb:Nat} {ba:Option Addr} {n c:Nat} (m k:Nat) (data:List Nat) (w:World) (h:BS w0 (tBox pb ba n c k 0::bs) ns w) (hd:BytesN w0 (.slice ba n c) data) (hk:k≤n) (hn:n≤1099511627776) (hm:m≤1099511627776) (hle:k+m≤n) :
  Calls Tryz.prog 104 #[.pointer (some ⟨pb,0,none⟩),.int .i64 m] w (NextT w0 bs ns pb ba n c w m ((data.drop k).take m) (.ok (k+m))):=by
 have hsub:=hd.sub k (k+m) (by omega) (by omega)
 rw [show k+m - k=m by omega,show (data.take (k+m)).drop k=(data.drop k).take m by rw [List.drop_take];congr 1;omega] at hsub
 have HSB:=Lib.hid hsub
 have hcap:=hd.len
 have k0:=h.cell 0 0 rfl rfl
 have k1:=h.cell 0 1 rfl rfl
 have k2:=h.cell 0 2 rfl rfl
 have f1:=h.free 0 1 rfl
 have HY:=Lib.hid h
 have e1:IntKind.i64.wrap ((n:Int) - (k:Int))=(n:Int) - (k:Int):=IntWalk.i64_in _ (by omega)
 have e2:decide ((n:Int) - (k:Int)<(m:Int))=false:=decide_eq_false (by omega)
 have c1:n≤c:=hcap.2.1
 have c2:c≤9223372036854775807:=hcap.2.2.1
 clear h hsub hd hcap
 go_enter Tryz.func104,Tryz.ntmps104
 go_wp2_with fail
 go_quiet (fail)
 go_upto_region 6 with fail
 obtain ⟨w1,hw1⟩:∃ w1,w1=w.drewN nq:=⟨_,rfl⟩
 rw [← hw1]
 have hy1:BS w0 (tBox pb ba n c k 0::bs) ns w1:=hw1▸HY.out.drewN nq
 have HK1:=Lib.hid (show Keeps w w1 (fun b=>b=pb) from hw1▸Keeps.drewN _ _ _)
 have hy2:=hy1.set 0 1 rfl rfl (fun _=>by simp) (.int .i64 ((k:Int)+(m:Int)))
 obtain ⟨w2,hw2⟩:∃ w2,w2=w1.setCell ⟨pb,1,none⟩ (.int .i64 ((k:Int)+(m:Int))):=⟨_,rfl⟩
 have HK2:=Lib.hid (show Keeps w w2 (fun b=>b=pb) from hw2▸HK1.out.trans (Keeps.setCell _ _ _ (S:=fun b=>b=pb) rfl) fun _ _ h=>h)
 rw [← hw2] at hy2 ⊢
 clear k0 k1 k2 f1 e1 e2 hw1 hw2 hy1 HK1
 have k0:=hy2.cell 0 0 rfl rfl
 have k1:=hy2.cell 0 1 rfl rfl
 have HY2:=Lib.hid hy2
 have HC:=Lib.hid (show ((k+m:Nat):Int)=(k:Int)+(m:Int) by omega)
 clear hy2
 have e3:IntKind.i64.wrap ((k:Int)+(m:Int) - (m:Int))=(k:Int):=by rw [show (k:Int)+(m:Int) - (m:Int)=(k:Int) by omega];exact IntWalk.i64_in _ (by omega)
 have e4:(k:Int)+(m:Int)≤(c:Int):=by omega
 have e5:(k:Int)≤(k:Int)+(m:Int):=by omega
 have e6:(0:Int)≤(k:Int)+(m:Int):=by omega
 have e7:((k:Int)+(m:Int)).toNat=k+m:=by omega
 go_quiet (fail)
 clear k0 k1 e3 e4 e5 e6 e7
 generalize (if c=k then ba else Option.map (fun x=>x.add k) ba)=va at HSB ⊢
 generalize c - k=vc at HSB ⊢
 go_wp2_with fail
 go_ret
 exact ⟨_,_,rfl,HSB.out.below (HY2.out.drewN _).bel,⟨by have h:=HY2.out.drewN nq;rw [← HC.out] at h;exact h,hle,fun x hx=>by cases hx⟩,HK2.out.trans (Keeps.drewN _ _ _) (fun _ _ h=>h),fun _=>HSB.out⟩
theorem tsome_any {w0:World} {bs:List Bk} {ns:List Nm} {pb:Nat} {ba:Option Addr} {n c:Nat} (m:Nat) (data:List Nat) (st:RS) (w:World) (h:TkW w0 bs ns pb ba n c st w) (hd:BytesN w0 (.slice ba n c) data) (hn:n≤1099511627776) (hm:m≤1099511627776) :
  Calls Tryz.prog 104 #[.pointer (some ⟨pb,0,none⟩),.int .i64 m] w (NextT w0 bs ns pb ba n c w m (rNext data m st).1 (rNext data m st).2):=by
 obtain ⟨hy,hk,hz⟩:=h
 have hl:=hd.len.1
 cases st with
 | error x=>exact tsome_err m x.2 x.1 w hy hk (hz x rfl) hm
 | ok k =>
  unfold rNext
  simp only
  by_cases hlt:data.length - k<m
  ·
   rw [if_pos hlt]
   exact tsome_short m k w hy hk hn hm (by have hk:k≤n:=hk;omega)
  ·
   rw [if_neg hlt]
   exact tsome_good m k data w hy hd hk hn hm (by have hk:k≤n:=hk;omega)
def IntT (w0:World) (bs:List Bk) (ns:List Nm) (pb:Nat) (ba:Option Addr) (n c:Nat) (w:World) (v:Int) (st:RS) (e:Ending) (w':World):Prop:=e=.returned (.int .i64 v)∧TkW w0 bs ns pb ba n c st w'∧Keeps w w' (fun b=>b=pb)
theorem tnum_err {w0:World} {bs:List Bk} {ns:List Nm} {pb:Nat} {ba:Option Addr} {n c:Nat} (x:Nat) (lo hi:Int) (z:Int × Nat) (w:World) (hx:x<256) (HNX:Hid (Calls Tryz.prog 104 #[.pointer (some ⟨pb,0,none⟩),.int .i64 1] w (NextT w0 bs ns pb ba n c w 1 [x] (.error z)))) :
  Calls Tryz.prog 103 #[.pointer (some ⟨pb,0,none⟩),.int .i64 lo,.int .i64 hi] w (IntT w0 bs ns pb ba n c w x (.error z)):=by
 go_enter Tryz.func103,Tryz.ntmps103
 go_wp2_with fail
 refine HNX.out.mono ?_
 rintro e w1 ⟨a1,c1,rfl,hby,hr,hkp,_⟩
 obtain ⟨bb,oo,rfl,hbl,hcell⟩:=hby.get 0 (x:=x) rfl
 have hc1:=hby.len
 have hc2:1≤c1:=hc1.2.1
 rw [Nat.add_zero] at hcell
 have HR:=Lib.hid hr
 have HKP:=Lib.hid hkp
 have k1:=hr.1.cell 0 1 rfl rfl
 have k2:=hr.1.cell 0 2 rfl rfl
 have f1:=hr.1.free 0 1 rfl
 have f2:=hr.1.free 0 2 rfl
 clear hby hc1 HNX hr hkp
 have hz:(stE (.error z)==0)=false:=beq_eq_false_iff_ne.2 (HR.out.2.2 z rfl)
 generalize stE (.error z)=ze at hz k2
 go_wp2_with fail
 go_ret
 exact ⟨rfl,HR.out,HKP.out⟩
theorem tnum_ok {w0:World} {bs:List Bk} {ns:List Nm} {pb:Nat} {ba:Option Addr} {n c:Nat} (x:Nat) (lo hi:Int) (k:Nat) (w:World) (hx:x<256) (HNX:Hid (Calls Tryz.prog 104 #[.pointer (some ⟨pb,0,none⟩),.int .i64 1] w (NextT w0 bs ns pb ba n c w 1 [x] (.ok k)))) (hlo:lo≤(x:Int)) (hhi:(x:Int)≤hi) :
  Calls Tryz.prog 103 #[.pointer (some ⟨pb,0,none⟩),.int .i64 lo,.int .i64 hi] w (IntT w0 bs ns pb ba n c w x (.ok k)):=by
 go_enter Tryz.func103,Tryz.ntmps103
 go_wp2_with fail
 refine HNX.out.mono ?_
 rintro e w1 ⟨a1,c1,rfl,hby,hr,hkp,_⟩
 obtain ⟨bb,oo,rfl,hbl,hcell⟩:=hby.get 0 (x:=x) rfl
 have hc1:=hby.len
 have hc2:1≤c1:=hc1.2.1
 rw [Nat.add_zero] at hcell
 have HR:=Lib.hid hr
 have HKP:=Lib.hid hkp
 have k1:=hr.1.cell 0 1 rfl rfl
 have k2:=hr.1.cell 0 2 rfl rfl
 have f1:=hr.1.free 0 1 rfl
 have f2:=hr.1.free 0 2 rfl
 clear hby hc1 HNX hr hkp
 simp only [stE] at k2
 go_wp2_with fail
 go_ret
 exact ⟨rfl,HR.out,HKP.out⟩
theorem TkW.bad {w0:World} {bs:List Bk} {ns:List Nm} {pb:Nat} {ba:Option Addr} {n c:Nat} {k:Nat} (d:Nat) {w:World} (h:TkW w0 bs ns pb ba n c (.ok k) w) (hd:d≤k):TkW w0 bs ns pb ba n c (.error (270,k - d)) ((w.setCell ⟨pb,2,none⟩ (.int .i64 270)).setCell ⟨pb,1,none⟩ (.int .i64 ((k:Int) - (d:Int)))):=by
 have h1:=(h.1.set 0 2 rfl rfl (fun _=>by simp) (.int .i64 270)).set 0 1 rfl rfl (fun _=>by simp) (.int .i64 ((k:Int) - (d:Int)))
 rw [show (k:Int) - (d:Int)=((k - d:Nat):Int) by omega] at h1 ⊢
 exact ⟨h1,Nat.le_trans (Nat.sub_le _ _) h.2.1,fun x hx=>by cases hx;show (270:Int)≠0;decide⟩
theorem keeps_bad (pb:Nat) (w:World) (u v:Value):Keeps w ((w.setCell ⟨pb,2,none⟩ u).setCell ⟨pb,1,none⟩ v) (fun b=>b=pb) :=
 (Keeps.setCell _ _ _ (S:=fun b=>b=pb) rfl).trans (Keeps.setCell _ _ _ (S:=fun b=>b=pb) rfl) fun _ _ h=>h
theorem tnum_bad {w0:World} {bs:List Bk} {ns:List Nm} {pb:Nat} {ba:Option Addr} {n c:Nat} (x:Nat) (lo hi:Int) (k:Nat) (w:World) (hx:x<256) (HNX:Hid (Calls Tryz.prog 104 #[.pointer (some ⟨pb,0,none⟩),.int .i64 1] w (NextT w0 bs ns pb ba n c w 1 [x] (.ok k)))) (hk1:1≤k) (hn:n≤1099511627776) (hbad:(x:Int)<lo∨(lo≤(x:Int)∧hi<(x:Int))) :
  Calls Tryz.prog 103 #[.pointer (some ⟨pb,0,none⟩),.int .i64 lo,.int .i64 hi] w (IntT w0 bs ns pb ba n c w x (.error (270,k - 1))):=by
 rcases hbad with hb1 | ⟨hb1,hb2⟩
 all_goals
  go_enter Tryz.func103,Tryz.ntmps103
  go_wp2_with fail
  refine HNX.out.mono ?_
  rintro e w1 ⟨a1,c1,rfl,hby,hr,hkp,_⟩
  obtain ⟨bb,oo,rfl,hbl,hcell⟩:=hby.get 0 (x:=x) rfl
  have hc1:=hby.len
  have hc2:1≤c1:=hc1.2.1
  rw [Nat.add_zero] at hcell
  have HR:=Lib.hid hr
  have HKP:=Lib.hid hkp
  have k1:=hr.1.cell 0 1 rfl rfl
  have k2:=hr.1.cell 0 2 rfl rfl
  have f1:=hr.1.free 0 1 rfl
  have f2:=hr.1.free 0 2 rfl
  clear hby hc1 HNX hr hkp
  simp only [stE,stK] at k1 k2
  have hkn:k≤n:=HR.out.2.1
  go_wp2_with fail
  go_ret
  exact ⟨rfl,HR.out.bad 1 hk1,HKP.out.trans (keeps_bad pb w1 _ _) fun _ _ h=>h⟩
theorem tnum_any {w0:World} {bs:List Bk} {ns:List Nm} {pb:Nat} {ba:Option Addr} {n c:Nat} (lo hi:Int) (data:List Nat) (st:RS) (w:World) (h:TkW w0 bs ns pb ba n c st w) (hd:BytesN w0 (.slice ba n c) data) (hb:∀ x,x∈data→x<256) (hn:n≤1099511627776) :
  Calls Tryz.prog 103 #[.pointer (some ⟨pb,0,none⟩),.int .i64 lo,.int .i64 hi] w (IntT w0 bs ns pb ba n c w (rPick data lo hi st).1 (rPick data lo hi st).2):=by
 have hnx:=tsome_any 1 data st w h hd hn (by omega)
 have hl:=rNext_len data 1 st
 have h8:=rNext_lt hb 1 st
 have hk1:∀ k,(rNext data 1 st).2=.ok k→1≤k:=fun k hk=>rNext_ok hk
 unfold rPick
 cases hx:rNext data 1 st with
 | mk b s1 =>
  rw [hx] at hnx hl h8 hk1
  match b,hl with
  | [x],_ =>
   have hx8:x<256:=h8 x (List.mem_singleton.2 rfl)
   cases s1 with
   | error z=>exact tnum_err x lo hi z w hx8 (Lib.hid hnx)
   | ok k =>
    show Calls Tryz.prog 103 #[.pointer (some ⟨pb,0,none⟩),.int .i64 lo,.int .i64 hi] w (IntT w0 bs ns pb ba n c w (x:Int) (if (x:Int)<lo∨hi<(x:Int) then (.error (270,k - 1):RS) else .ok k))
    by_cases hc:(x:Int)<lo∨hi<(x:Int)
    ·
     rw [if_pos hc];exact tnum_bad x lo hi k w hx8 (Lib.hid hnx) (hk1 k rfl) hn (by omega)
    ·
     rw [if_neg hc];exact tnum_ok x lo hi k w hx8 (Lib.hid hnx) (by omega) (by omega)
def IdT (w0:World) (bs:List Bk) (ns:List Nm) (pb:Nat) (ba:Option Addr) (n c:Nat) (w:World) (v:Int) (st:RS) (e:Ending) (w':World):Prop:=∃ u,e=.returned (.int .i64 u)∧(Good9 st→u=v)∧TkW w0 bs ns pb ba n c st w'∧Keeps w w' (fun b=>b=pb)
theorem un4_low (y0 y1 y2 y3:Nat) (h0:y0≤127):(((y0:Int)*256+(y1:Int))*256+(y2:Int))*256+(y3:Int)=un4 [y0,y1,y2,y3]:=by
 show _=(((((y0 % 128*256+y1)*256+y2)*256+y3:Nat)):Int)
 omega
theorem tid_err {w0:World} {bs:List Bk} {ns:List Nm} {pb:Nat} {ba:Option Addr} {n c:Nat} (y0 y1 y2 y3:Nat) (z:Int × Nat) (v:Int) (w:World) (h0:y0<256) (h1:y1<256) (h2:y2<256) (h3:y3<256) (HNX:Hid (Calls Tryz.prog 104 #[.pointer (some ⟨pb,0,none⟩),.int .i64 4] w (NextT w0 bs ns pb ba n c w 4 [y0,y1,y2,y3] (.error z)))) :
  Calls Tryz.prog 105 #[.pointer (some ⟨pb,0,none⟩)] w (IdT w0 bs ns pb ba n c w v (.error z)):=by
 go_enter Tryz.func105,Tryz.ntmps105
 go_wp2_with fail
 refine HNX.out.mono ?_
 rintro e w1 ⟨a1,c1,rfl,hby,hr,hkp,ho⟩
 have hc1:=hby.len
 have hc2:4≤c1:=hc1.2.1
 have HR:=Lib.hid hr
 have HKP:=Lib.hid hkp
 have HO:=Lib.hid ho
 have k1:=hr.1.cell 0 1 rfl rfl
 have k2:=hr.1.cell 0 2 rfl rfl
 have f1:=hr.1.free 0 1 rfl
 have f2:=hr.1.free 0 2 rfl
 obtain ⟨bb,oo,rfl,g0,g1,g2,g3⟩:=hby.four
 clear hby hc1 HNX hr hkp ho
 have hz:(stE (.error z)==0)=false:=beq_eq_false_iff_ne.2 (HR.out.2.2 z rfl)
 generalize stE (.error z)=ze at hz k2
 go_wp2_with fail
 go_quiet (fail)
 go_wp2_with fail
 go_ret
 exact ⟨_,rfl,fun ⟨_,h⟩=>(by cases h),HR.out.call (belowDrawn (Below.refl _ _) _),HKP.out.trans (Keeps.drewN _ _ _) fun _ _ h=>h⟩
theorem tid_good {w0:World} {bs:List Bk} {ns:List Nm} {pb:Nat} {ba:Option Addr} {n c:Nat} (y0 y1 y2 y3 k:Nat) (w:World) (h0:y0≤127) (h1:y1<256) (h2:y2<256) (h3:y3<256) (HNX:Hid (Calls Tryz.prog 104 #[.pointer (some ⟨pb,0,none⟩),.int .i64 4] w (NextT w0 bs ns pb ba n c w 4 [y0,y1,y2,y3] (.ok k)))) :
  Calls Tryz.prog 105 #[.pointer (some ⟨pb,0,none⟩)] w (IdT w0 bs ns pb ba n c w (un4 [y0,y1,y2,y3]) (.ok k)):=by
 go_enter Tryz.func105,Tryz.ntmps105
 go_wp2_with fail
 refine HNX.out.mono ?_
 rintro e w1 ⟨a1,c1,rfl,hby,hr,hkp,ho⟩
 have hc1:=hby.len
 have hc2:4≤c1:=hc1.2.1
 have HR:=Lib.hid hr
 have HKP:=Lib.hid hkp
 have HO:=Lib.hid ho
 have k1:=hr.1.cell 0 1 rfl rfl
 have k2:=hr.1.cell 0 2 rfl rfl
 have f1:=hr.1.free 0 1 rfl
 have f2:=hr.1.free 0 2 rfl
 obtain ⟨bb,oo,rfl,g0,g1,g2,g3⟩:=hby.four
 clear hby hc1 HNX hr hkp ho
 simp only [stE] at k2
 have e0:¬ (127:Int)<(y0:Int):=by omega
 go_wp2_with fail
 go_quiet (fail)
 go_wp2_with fail
 go_ret
 exact ⟨_,rfl,fun _=>un4_low y0 y1 y2 y3 h0,HR.out.call (belowDrawn (Below.refl _ _) _),HKP.out.trans (Keeps.drewN _ _ _) fun _ _ h=>h⟩
theorem tid_bad {w0:World} {bs:List Bk} {ns:List Nm} {pb:Nat} {ba:Option Addr} {n c:Nat} (y0 y1 y2 y3 k:Nat) (w:World) (h0:127<y0) (h00:y0<256) (h1:y1<256) (h2:y2<256) (h3:y3<256) (HNX:Hid (Calls Tryz.prog 104 #[.pointer (some ⟨pb,0,none⟩),.int .i64 4] w (NextT w0 bs ns pb ba n c w 4 [y0,y1,y2,y3] (.ok k)))) (hk1:4≤k) (hn:n≤1099511627776) (v:Int) :
  Calls Tryz.prog 105 #[.pointer (some ⟨pb,0,none⟩)] w (IdT w0 bs ns pb ba n c w v (.error (270,k - 4))):=by
 go_enter Tryz.func105,Tryz.ntmps105
 go_wp2_with fail
 refine HNX.out.mono ?_
 rintro e w1 ⟨a1,c1,rfl,hby,hr,hkp,ho⟩
 have hc1:=hby.len
 have hc2:4≤c1:=hc1.2.1
 have HR:=Lib.hid hr
 have HKP:=Lib.hid hkp
 have HO:=Lib.hid ho
 have k1:=hr.1.cell 0 1 rfl rfl
 have k2:=hr.1.cell 0 2 rfl rfl
 have f1:=hr.1.free 0 1 rfl
 have f2:=hr.1.free 0 2 rfl
 obtain ⟨bb,oo,rfl,g0,g1,g2,g3⟩:=hby.four
 clear hby hc1 HNX hr hkp ho
 simp only [stE,stK] at k1 k2
 have hkn:k≤n:=HR.out.2.1
 have e0:(127:Int)<(y0:Int):=by omega
 clear g1 g2 g3
 go_upto_region 5 with fail
 have HR2:=Lib.hid (HR.out.bad 4 hk1)
 have HK2:=Lib.hid (HKP.out.trans (keeps_bad pb w1 (.int .i64 270) (.int .i64 ((k:Int) - 4))) fun _ _ h=>h)
 simp only [Int.cast_ofNat_Int] at HR2
 generalize (w1.setCell ⟨pb,2,none⟩ (.int .i64 270)).setCell ⟨pb,1,none⟩ (.int .i64 ((k:Int) - 4))=w2 at HR2 HK2 ⊢
 have hby:=(HO.out ⟨k,rfl⟩).below HR2.out.1.bel
 obtain ⟨_,_,he,g0,g1,g2,g3⟩:=hby.four
 cases he
 clear hby k1 k2 f1 f2 HO
 go_quiet (fail)
 go_wp2_with fail
 go_ret
 exact ⟨_,rfl,fun ⟨_,h⟩=>(by cases h),HR2.out.call (belowDrawn (Below.refl _ _) _),HK2.out.trans (Keeps.drewN _ _ _) fun _ _ h=>h⟩
theorem tid_any {w0:World} {bs:List Bk} {ns:List Nm} {pb:Nat} {ba:Option Addr} {n c:Nat} (data:List Nat) (st:RS) (w:World) (h:TkW w0 bs ns pb ba n c st w) (hd:BytesN w0 (.slice ba n c) data) (hb:∀ x,x∈data→x<256) (hn:n≤1099511627776) :
  Calls Tryz.prog 105 #[.pointer (some ⟨pb,0,none⟩)] w (IdT w0 bs ns pb ba n c w (rId data st).1 (rId data st).2):=by
 have hnx:=tsome_any 4 data st w h hd hn (by omega)
 have hl:=rNext_len data 4 st
 have h8:=rNext_lt hb 4 st
 have hk1:∀ k,(rNext data 4 st).2=.ok k→4≤k:=fun k hk=>rNext_ok hk
 unfold rId
 cases hx:rNext data 4 st with
 | mk b s1 =>
  rw [hx] at hnx hl h8 hk1
  match b,hl with
  | [y0,y1,y2,y3],_ =>
   have l0:y0<256:=h8 y0 (by simp)
   have l1:y1<256:=h8 y1 (by simp)
   have l2:y2<256:=h8 y2 (by simp)
   have l3:y3<256:=h8 y3 (by simp)
   cases s1 with
   | error z=>exact tid_err y0 y1 y2 y3 z _ w l0 l1 l2 l3 (Lib.hid hnx)
   | ok k =>
    show Calls Tryz.prog 105 #[.pointer (some ⟨pb,0,none⟩)] w (IdT w0 bs ns pb ba n c w (un4 [y0,y1,y2,y3]) (if 127<y0 then (.error (270,k - 4):RS) else .ok k))
    by_cases hc:127<y0
    ·
     rw [if_pos hc];exact tid_bad y0 y1 y2 y3 k w hc l0 l1 l2 l3 (Lib.hid hnx) (hk1 k rfl) hn _
    ·
     rw [if_neg hc];exact tid_good y0 y1 y2 y3 k w (by omega) l1 l2 l3 (Lib.hid hnx)
theorem DW.keeps {W W':World} {S:Nat→Prop} {a:Option Addr} {n c y:Nat} (h:DW W a n c y) (ho:∀ k,S k→Off (some k) a n) (hk:Keeps W W' S):DW W' a n c y:=by
 rcases Nat.eq_zero_or_pos n with h0 | h0
 ·
  subst h0
  obtain ⟨a',c',e,h1,h2,h3⟩:=Sl.len h
  cases e
  exact ⟨h.1,.inl ⟨_,_,rfl,rfl,h2,h3⟩⟩
 ·
  obtain ⟨b,o,c',e,h1,h2,h3,h4⟩:=Sl.plain h h0
  cases e
  have hb:=hk.block b h3 fun hs=>ho b hs h0 b o rfl rfl
  refine ⟨h.1,.inr ⟨b,o,c,rfl,h1,h2,Nat.lt_of_lt_of_le h3 hk.size,fun j u hj=>?_⟩⟩
  rw [show W'.cell? ⟨b,o+j,none⟩=W.cell? ⟨b,o+j,none⟩ by simp only [World.cell?,hb]]
  exact h4 j u hj
structure EvK (S:Nat→Prop) (W:World) (v:VE):Prop where
 ok:(VP.rat v.q v.s v.a v.n v.c v.b v.m v.d).ok W
 na:∀ k,S k→Off (some k) v.a v.n
 nb:∀ k,S k→Off (some k) v.b v.m
section
variable {w W W' : World} {S T : Nat → Prop} {v : VE} {bs : List Bk} {ns : List Nm}
theorem EvK.mono (h:EvK S W v) (hs:∀ k,T k→S k):EvK T W v:=⟨h.ok,fun k hk=>h.na k (hs k hk),fun k hk=>h.nb k (hs k hk)⟩
theorem EvK.below (h:EvK S W v) (hb:Below W.heap.size W W'):EvK S W' v:=⟨VP.ok.below h.ok hb,h.na,h.nb⟩
theorem EvK.keeps (h:EvK S W v) (hk:Keeps W W' T) (hT:∀ k,T k→S k):EvK S W' v :=
 ⟨⟨h.ok.1,⟨⟨h.ok.2.1.num.1,h.ok.2.1.num.2.keeps (fun k hk=>h.na k (hT k hk)) hk⟩,⟨h.ok.2.1.den.1,h.ok.2.1.den.2.keeps (fun k hk=>h.nb k (hT k hk)) hk⟩⟩,h.ok.2.2⟩,h.na,h.nb⟩
theorem EvK.more (h:EvK S W v) (z:Nat) (hz:W.heap.size≤z):EvK (fun k=>S k∨k=z) W v :=
 ⟨h.ok,fun k hk=>hk.elim (h.na k) fun e=>by rw [e];exact DW.new h.ok.2.1.num.2 hz,fun k hk=>hk.elim (h.nb k) fun e=>by rw [e];exact DW.new h.ok.2.1.den.2 hz⟩
theorem EvK.own {W0:World} (h:(VP.rat v.q v.s v.a v.n v.c v.b v.m v.d).ok W) (h1:OwnS W0 v.a v.n v.c) (h2:OwnS W0 v.b v.m v.d):EvK (fun k=>k<W0.heap.size) W v :=
 ⟨h,fun k hk=>Off.own h1 fun r hr=>by cases hr;exact hk,fun k hk=>Off.own h2 fun r hr=>by cases hr;exact hk⟩
theorem EvK.offz (h:EvK S W v) (hb:BS w bs ns W) (i:Nat) {b:Bk} (hi:bs[i]?=some b) (hz:b.cs.all noughtV=true):EvK (fun k=>S k∨k=b.p) W v :=
 ⟨h.ok,fun k hk=>hk.elim (h.na k) fun e=>by rw [e];exact h.ok.2.1.num.offz hb i hi hz,fun k hk=>hk.elim (h.nb k) fun e=>by rw [e];exact h.ok.2.1.den.offz hb i hi hz⟩
theorem EvK.setP {p:Nat} (h:EvK (fun k=>S k∨k=p) W v) (j:Nat) (u:Value):EvK (fun k=>S k∨k=p) (W.setCell ⟨p,j,none⟩ u) v :=
 h.keeps (Keeps.setCell _ _ _ (S:=fun k=>k=p) rfl) fun _ h=>.inr h
theorem EvK.back {p:Nat} (h:EvK (fun k=>S k∨k=p) W v):EvK S W v:=h.mono fun _=>.inl
end
theorem BS.join {w0 w W:World} {b0:Bk} {bs own:List Bk} {ns ms:List Nm} (h:BS w0 (b0::bs) ns w) (h2:BS w own ms W):BS w0 (b0::(own++bs)) ns W:=by
 have h1:=h.call h2.bel
 have hw:w0.heap.size≤w.heap.size:=h.bel.size
 have hne:∀ x,x∈own→∀ y,y∈b0::bs→x.p≠y.p:=fun x hx y hy e=>by
  have e1:=(h2.box x hx).2
  have e2:=lt_of_block (h.box y hy).1
  omega
 refine ⟨h1.bel,fun b hb=>?_,?_,h1.num⟩
 ·
  rcases List.mem_cons.1 hb with rfl | hb
  ·
   exact h1.box _ List.mem_cons_self
  ·
   rcases List.mem_append.1 hb with hb | hb
   ·
    exact ⟨(h2.box b hb).1,Nat.le_trans hw (h2.box b hb).2⟩
   ·
    exact h1.box b (List.mem_cons_of_mem _ hb)
 ·
  have hn:=List.pairwise_cons.1 h.nod
  refine List.pairwise_cons.2 ⟨fun y hy=>?_,List.pairwise_append.2 ⟨h2.nod,hn.2,fun x hx y hy=>hne x hx y (List.mem_cons_of_mem _ hy)⟩⟩
  rcases List.mem_append.1 hy with hy | hy
  ·
   exact fun e=>hne y hy b0 List.mem_cons_self e.symm
  ·
   exact hn.1 y hy
def FrT (w0:World) (bs:List Bk) (ns:List Nm) (pb:Nat) (ba:Option Addr) (n c:Nat) (w:World) (q:Rat) (st:RS) (e:Ending) (w':World):Prop:=∃ sg a8 n8 c8 b9 m9 d9,e=.returned (.agg #[.bool sg,.slice a8 n8 c8,.slice b9 m9 d9])∧(Good9 st→EvK (fun k=>k<w.heap.size) w' ⟨0,q,sg,a8,n8,c8,b9,m9,d9⟩)∧TkW w0 bs ns pb ba n c st w'∧Keeps w w' (fun b=>b=pb)
theorem tfrac_err {w0:World} {bs:List Bk} {ns:List Nm} {pb:Nat} {ba:Option Addr} {n c:Nat} (q:Rat) (k:Nat) (z:Int) (w:World) (h:BS w0 (tBox pb ba n c k z::bs) ns w) (hk:k≤n) (hz:z≠0) :
  Calls Tryz.prog 164 #[.pointer (some ⟨pb,0,none⟩)] w (FrT w0 bs ns pb ba n c w q (.error (z,k))):=by
 have HR:=Lib.hid (show TkW w0 bs ns pb ba n c (.error (z,k)) w from ⟨h,hk,fun x hx=>by cases hx;exact hz⟩)
 have k2:=(h.call (belowBox w (.cells #[.bool false,.slice none 0 0,.slice none 0 0] 60))).cell 0 2 rfl rfl
 have e2:(z != 0)=true:=bne_iff_ne.2 hz
 clear h hz
 go_enter Tryz.func164,Tryz.ntmps164
 go_wp2_with fail
 (try simp only [Exit.inBlock,Exit.then])
 refine bodyPost_ret (v:=.agg #[.bool false,.slice none 0 0,.slice none 0 0]) ?_ rfl ?_
 ·
  rw [results_cell1 rfl]
  have hbk:=heap_alloc_new w (.cells #[.bool false,.slice none 0 0,.slice none 0 0] 60)
  exact Go.Lib.rl_loadVar_cells 60 _ rfl (fun _=>rfl) w.heap.size 0 [.bool false,.slice none 0 0,.slice none 0 0] rfl _ (fun k v hk=>by
   rw [Nat.zero_add]
   exact cell_of_block (j:=k) hbk (by simpa using hk))
 exact ⟨false,none,0,0,none,0,0,rfl,fun ⟨_,h⟩=>(by cases h),HR.out.call (belowBox _ _),Keeps.alloc _ _ _⟩
theorem tfrac_go {w0:World} {bs:List Bk} {ns:List Nm} {pb:Nat} {ba:Option Addr} {n c:Nat} (q:Rat) (sg:Bool) (z fk:Int) (fs:ByteArray) (m k:Nat) (w:World) (h:BS w0 (tBox pb ba n c k 0::bs) ns w) (hc:n≤c∧c≤9223372036854775807) (hk:k≤n) (hkm:k+m≤n) (hn:n≤1048576) (st:RS) (hs:stK st=k+m) (hs2:stE st=z) (hs3:∀ x,st=.error x→x.1≠0)
  (HD:Hid (∀ W,Below w.heap.size w W→w.heap.size<W.heap.size→Calls Tryz.prog 36 #[.slice (if c=k then ba else Option.map (fun x=>x.add k) ba) (n - k) (c - k)] W fun e w'=>∃ a8 n8 c8 b9 m9 d9,e=.returned (.tuple #[.agg #[.bool sg,.slice a8 n8 c8,.slice b9 m9 d9],.int .i64 (m:Nat),.agg #[.int .i64 z,.string fs,.int .i64 fk]])∧EvK (fun k=>k<w.heap.size+1) w' ⟨0,q,sg,a8,n8,c8,b9,m9,d9⟩∧Below W.heap.size W w')) :
  Calls Tryz.prog 164 #[.pointer (some ⟨pb,0,none⟩)] w (FrT w0 bs ns pb ba n c w q st):=by
 have hlp:=h.lt 0 rfl
 have HLT:=Lib.hid (show pb<w.heap.size from hlp)
 have HST:=Lib.hid (And.intro hs (And.intro hs2 hs3))
 have HKM:=Lib.hid hkm
 obtain ⟨hc1,hc2⟩:=hc
 have e1:(k:Int)≤(n:Int):=by omega
 clear hs hs2 hs3 hlp
 obtain ⟨W0,hW0⟩:∃ W0,W0=(w.alloc (.cells #[.bool false,.slice none 0 0,.slice none 0 0] 60)):=⟨_,rfl⟩
 have hbs:BS w [⟨w.heap.size,60,[.bool false,.slice none 0 0,.slice none 0 0]⟩] [] (w.alloc (.cells #[.bool false,.slice none 0 0,.slice none 0 0] 60)) :=
   ((BS.start w).alloc (p:=w.heap.size) rfl 60 [.bool false,.slice none 0 0,.slice none 0 0] rfl)
 rw [← hW0] at hbs
 have HW0:=Lib.hid hW0
 have HN:=Lib.hid hbs
 clear hW0 hbs
 have k2:=(h.call (belowBox w (.cells #[.bool false,.slice none 0 0,.slice none 0 0] 60))).cell 0 2 rfl rfl
 go_enter Tryz.func164,Tryz.ntmps164
 go_upto_region 3 with fail
 rw [← HW0.out]
 have HPB:=Lib.hid (fun (W:World) (hb:Below w.heap.size w W)=>(⟨(h.call hb).cell 0 0 rfl rfl,(h.call hb).cell 0 1 rfl rfl⟩:W.cell? ⟨pb,0,none⟩=some (.slice ba n c)∧W.cell? ⟨pb,1,none⟩=some (.int .i64 k)))
 have HH:=Lib.hid h
 clear h k2
 go_cut [3,4,5] (fun v3 v4 v5 wx=>∃ p3 p5 a8 n8 c8 b9 m9 d9,v3=.pointer (some ⟨p3,0,none⟩)∧v4=.int .i64 (m:Nat)∧v5=.pointer (some ⟨p5,0,none⟩)∧BS w [⟨w.heap.size,60,[.bool false,.slice none 0 0,.slice none 0 0]⟩,⟨p3,60,[.bool sg,.slice a8 n8 c8,.slice b9 m9 d9]⟩,⟨p5,74,[.int .i64 z,.string fs,.int .i64 fk]⟩] [] wx∧EvK (fun k=>k<w.heap.size+1) wx ⟨0,q,sg,a8,n8,c8,b9,m9,d9⟩)
 case first =>
  replace HN:=Lib.hid HN.out.drew
  refine wp_region_held_drew (S:=fun W=>W.cell? ⟨pb,0,none⟩=some (.slice ba n c)∧W.cell? ⟨pb,1,none⟩=some (.int .i64 k)) (by kernel_rfl) (⟨(HPB.out _ HN.out.bel).1,(HPB.out _ HN.out.bel).2⟩) (fun hHeld=>?_)
  generalize W0.drew=wd at HN hHeld ⊢
  refine tm 0 (some 13) ?_
  refine tl 1 (some 14) ?_
  refine tm 2 (some 15) ?_
  refine tl 3 (some 16) ?_
  refine tm 4 (some 17) ?_
  refine tl 5 (some 18) ?_
  refine tm 6 (some 19) ?_
  refine tl 7 (some 20) ?_
  refine tm 8 (some 21) ?_
  generalize (if c=k then ba else Option.map (fun x=>x.add k) ba)=va at HD ⊢
  generalize c - k=vc at HD ⊢
  have tg:=Mk.mk (v:=0) (d:=0)
  iterate 5
   all_goals first
   |
    have _:Mk _ 0:=tg
    refine wpAnyH_ready (rs:=[9,14,15]) (by kernel_rfl) (by simp) (AllReadyH.cons rfl (fun K hK=>cT 0 1 fun tg=>?_) (AllReadyH.cons rfl (fun K hK=>cT 1 2 fun tg=>?_) (AllReadyH.cons rfl (fun K hK=>cT 2 3 fun tg=>?_) AllReadyH.nil)))
   |
    have _:Mk _ 1:=tg
    refine wpAnyH_ready (rs:=[14,15]) (by kernel_rfl) (by simp) (AllReadyH.cons rfl (fun K hK=>cT 3 4 fun tg=>?_) (AllReadyH.cons rfl (fun K hK=>cT 4 5 fun tg=>?_) AllReadyH.nil))
   |
    have _:Mk _ 2:=tg
    refine wpAnyH_ready (rs:=[9,15]) (by kernel_rfl) (by simp) (AllReadyH.cons rfl (fun K hK=>cT 0 4 fun tg=>?_) (AllReadyH.cons rfl (fun K hK=>cT 2 6 fun tg=>?_) AllReadyH.nil))
   |
    have _:Mk _ 3:=tg
    refine wpAnyH_ready (rs:=[9,14]) (by kernel_rfl) (by simp) (AllReadyH.cons rfl (fun K hK=>cT 0 5 fun tg=>?_) (AllReadyH.cons rfl (fun K hK=>cT 5 6 fun tg=>?_) AllReadyH.nil))
   |
    have _:Mk _ 4:=tg
    refine wpAnyH_ready (rs:=[15]) (by kernel_rfl) (by simp) (AllReadyH.cons rfl (fun K hK=>cT 4 7 fun tg=>?_) AllReadyH.nil)
   |
    have _:Mk _ 5:=tg
    refine wpAnyH_ready (rs:=[14]) (by kernel_rfl) (by simp) (AllReadyH.cons rfl (fun K hK=>cT 6 7 fun tg=>?_) AllReadyH.nil)
   |
    have _:Mk _ 6:=tg
    refine wpAnyH_ready (rs:=[9]) (by kernel_rfl) (by simp) (AllReadyH.cons rfl (fun K hK=>cT 0 7 fun tg=>?_) AllReadyH.nil)
   |
    have _:Mk _ 7:=tg
    refine wpAnyH_ready (rs:=[16]) (by kernel_rfl) (by simp) (AllReadyH.cons rfl (fun K hK=>cT 7 8 fun tg=>?_) AllReadyH.nil)
   |
    have _:Mk _ 8:=tg
    refine wpAnyH_ready (rs:=[18]) (by kernel_rfl) (by simp) (AllReadyH.cons rfl (fun K hK=>cT 8 9 fun tg=>?_) AllReadyH.nil)
   all_goals first
   |
    have _:Mk 0 _:=tg
    go_simp
    refine (HD.out _ HN.out.bel (by have:=HN.out.lt 0 rfl;omega)).mono ?_
    rintro e wd ⟨a8,n8,c8,b9,m9,d9,rfl,hf,hb⟩
    replace HN:=Lib.hid (HN.out.call hb)
    have HEV:=Lib.hid hf
    clear hf
    clear hb 
    go_wp2_with fail
    refine hK.out _ _ (⟨(HPB.out _ HN.out.bel).1,(HPB.out _ HN.out.bel).2⟩) (fun hHeld2=>?_)
    clear hK K hHeld
    rename _=>hHeld
    try simp only [Act.put,stB,stZ,stS]
    refine tm 10 (some 12) ?_
    refine tm 11 (some 23) ?_
    refine tm 12 (some 24) ?_
    refine tm 13 (some 25) ?_
   |
    have _:Mk 1 _:=tg
    go_simp
    replace HN:=Lib.hid (HN.out.alloc (p:=wd.heap.size) rfl 60 [.bool false,.slice none 0 0,.slice none 0 0] rfl)
    generalize wd.heap.size=p14_ at HN ⊢
    generalize wd.alloc (.cells #[.bool false,.slice none 0 0,.slice none 0 0] 60)=wd at HN  ⊢
    refine hK.out _ _ (⟨(HPB.out _ HN.out.bel).1,(HPB.out _ HN.out.bel).2⟩) (fun hHeld2=>?_)
    clear hK K hHeld
    rename _=>hHeld
    try simp only [Act.put,stB,stZ,stS]
   |
    have _:Mk 2 _:=tg
    go_simp
    replace HN:=Lib.hid (HN.out.alloc (p:=wd.heap.size) rfl 74 [.int .i64 0,.string ⟨#[]⟩,.int .i64 0] rfl)
    generalize wd.heap.size=p15_ at HN ⊢
    generalize wd.alloc (.cells #[.int .i64 0,.string ⟨#[]⟩,.int .i64 0] 74)=wd at HN  ⊢
    refine hK.out _ _ (⟨(HPB.out _ HN.out.bel).1,(HPB.out _ HN.out.bel).2⟩) (fun hHeld2=>?_)
    clear hK K hHeld
    rename _=>hHeld
    try simp only [Act.put,stB,stZ,stS]
   |
    have _:Mk 3 _:=tg
    go_simp
    replace HN:=Lib.hid (HN.out.alloc (p:=wd.heap.size) rfl 60 [.bool false,.slice none 0 0,.slice none 0 0] rfl)
    replace HEV:=Lib.hid (show EvK (fun k=>k<w.heap.size+1) (wd.alloc (.cells #[.bool false,.slice none 0 0,.slice none 0 0] 60)) ⟨0,q,sg,a8,n8,c8,b9,m9,d9⟩ from HEV.out.below (belowBox _ _))
    generalize wd.heap.size=p14_ at HN ⊢
    generalize wd.alloc (.cells #[.bool false,.slice none 0 0,.slice none 0 0] 60)=wd at HN HEV ⊢
    refine hK.out _ _ (⟨(HPB.out _ HN.out.bel).1,(HPB.out _ HN.out.bel).2⟩) (fun hHeld2=>?_)
    clear hK K hHeld
    rename _=>hHeld
    try simp only [Act.put,stB,stZ,stS]
   |
    have _:Mk 4 _:=tg
    go_simp
    replace HN:=Lib.hid (HN.out.alloc (p:=wd.heap.size) rfl 74 [.int .i64 0,.string ⟨#[]⟩,.int .i64 0] rfl)
    replace HEV:=Lib.hid (show EvK (fun k=>k<w.heap.size+1) (wd.alloc (.cells #[.int .i64 0,.string ⟨#[]⟩,.int .i64 0] 74)) ⟨0,q,sg,a8,n8,c8,b9,m9,d9⟩ from HEV.out.below (belowBox _ _))
    generalize wd.heap.size=p15_ at HN ⊢
    generalize wd.alloc (.cells #[.int .i64 0,.string ⟨#[]⟩,.int .i64 0] 74)=wd at HN HEV ⊢
    refine hK.out _ _ (⟨(HPB.out _ HN.out.bel).1,(HPB.out _ HN.out.bel).2⟩) (fun hHeld2=>?_)
    clear hK K hHeld
    rename _=>hHeld
    try simp only [Act.put,stB,stZ,stS]
   |
    have _:Mk 5 _:=tg
    go_simp
    replace HN:=Lib.hid ((HN.out.alloc (p:=wd.heap.size) rfl 60 [.bool false,.slice none 0 0,.slice none 0 0] rfl).ins 1)
    generalize wd.heap.size=p14_ at HN ⊢
    generalize wd.alloc (.cells #[.bool false,.slice none 0 0,.slice none 0 0] 60)=wd at HN  ⊢
    refine hK.out _ _ (⟨(HPB.out _ HN.out.bel).1,(HPB.out _ HN.out.bel).2⟩) (fun hHeld2=>?_)
    clear hK K hHeld
    rename _=>hHeld
    try simp only [Act.put,stB,stZ,stS]
   |
    have _:Mk 6 _:=tg
    go_simp
    replace HN:=Lib.hid ((HN.out.alloc (p:=wd.heap.size) rfl 60 [.bool false,.slice none 0 0,.slice none 0 0] rfl).ins 1)
    replace HEV:=Lib.hid (show EvK (fun k=>k<w.heap.size+1) (wd.alloc (.cells #[.bool false,.slice none 0 0,.slice none 0 0] 60)) ⟨0,q,sg,a8,n8,c8,b9,m9,d9⟩ from HEV.out.below (belowBox _ _))
    generalize wd.heap.size=p14_ at HN ⊢
    generalize wd.alloc (.cells #[.bool false,.slice none 0 0,.slice none 0 0] 60)=wd at HN HEV ⊢
    refine hK.out _ _ (⟨(HPB.out _ HN.out.bel).1,(HPB.out _ HN.out.bel).2⟩) (fun hHeld2=>?_)
    clear hK K hHeld
    rename _=>hHeld
    try simp only [Act.put,stB,stZ,stS]
   |
    have _:Mk 7 _:=tg
    have hc0:=HN.out.cell 1 0 rfl rfl
    have hf0:=HN.out.free 1 0 rfl
    have hc1:=HN.out.cell 1 1 rfl rfl
    have hf1:=HN.out.free 1 1 rfl
    have hc2:=HN.out.cell 1 2 rfl rfl
    have hf2:=HN.out.free 1 2 rfl
    go_simp
    clear hc0 hf0 hc1 hf1 hc2 hf2
    replace HEV:=Lib.hid (((((HEV.out.offz HN.out 1 rfl rfl).setP 0 (.bool sg)).setP 1 (.slice a8 n8 c8)).setP 2 (.slice b9 m9 d9)).back)
    replace HN:=Lib.hid ((((HN.out).set 1 0 rfl rfl (fun _=>by simp) (.bool sg)).set 1 1 rfl rfl (fun _=>by simp) (.slice a8 n8 c8)).set 1 2 rfl rfl (fun _=>by simp) (.slice b9 m9 d9))
    generalize (((wd.setCell ⟨p14_,0,none⟩ (.bool sg)).setCell ⟨p14_,1,none⟩ (.slice a8 n8 c8)).setCell ⟨p14_,2,none⟩ (.slice b9 m9 d9))=wd at HN HEV ⊢
    refine hK.out _ _ (⟨(HPB.out _ HN.out.bel).1,(HPB.out _ HN.out.bel).2⟩) (fun hHeld2=>?_)
    clear hK K hHeld
    rename _=>hHeld
    try simp only [Act.put,stB,stZ,stS]
    refine tm 17 (some 4) ?_
   |
    have _:Mk 8 _:=tg
    have hc0:=HN.out.cell 2 0 rfl rfl
    have hf0:=HN.out.free 2 0 rfl
    have hc1:=HN.out.cell 2 1 rfl rfl
    have hf1:=HN.out.free 2 1 rfl
    have hc2:=HN.out.cell 2 2 rfl rfl
    have hf2:=HN.out.free 2 2 rfl
    go_simp
    clear hc0 hf0 hc1 hf1 hc2 hf2
    replace HEV:=Lib.hid (((((HEV.out.offz HN.out 2 rfl rfl).setP 0 (.int .i64 z)).setP 1 (.string fs)).setP 2 (.int .i64 fk)).back)
    replace HN:=Lib.hid ((((HN.out).set 2 0 rfl rfl (fun _=>by simp) (.int .i64 z)).set 2 1 rfl rfl (fun _=>by simp) (.string fs)).set 2 2 rfl rfl (fun _=>by simp) (.int .i64 fk))
    generalize (((wd.setCell ⟨p15_,0,none⟩ (.int .i64 z)).setCell ⟨p15_,1,none⟩ (.string fs)).setCell ⟨p15_,2,none⟩ (.int .i64 fk))=wd at HN HEV ⊢
    refine hK.out _ _ (⟨(HPB.out _ HN.out.bel).1,(HPB.out _ HN.out.bel).2⟩) (fun hHeld2=>?_)
    clear hK K hHeld
    rename _=>hHeld
    try simp only [Act.put,stB,stZ,stS]
  all_goals (refine wpAnyH_done (by kernel_rfl) ?_ _)
  all_goals
   go_wp2_with fail
   go_meet
   exact ⟨_,_,_,_,_,_,_,_,rfl,rfl,rfl,HN.out,HEV.out⟩
 case rest =>
  obtain ⟨w3,rfl⟩:∃ w3:World,w3=wc:=⟨_,rfl⟩
  obtain ⟨p3,p5,a8,n8,c8,b9,m9,d9,rfl,rfl,rfl,hn0,hev⟩:=hcut
  have HBL:=Lib.hid hn0.bel
  have HN:=Lib.hid (show BS w0 (tBox pb ba n c k 0::⟨w.heap.size,60,[.bool false,.slice none 0 0,.slice none 0 0]⟩::⟨p3,60,[.bool sg,.slice a8 n8 c8,.slice b9 m9 d9]⟩::⟨p5,74,[.int .i64 z,.string fs,.int .i64 fk]⟩::bs) ns w3 from HH.out.join hn0)
  have HEV:=Lib.hid hev
  clear hn0 hev
  have ⟨k00,f00,k01,f01,k02,f02⟩:=HN.out.cf3 0 rfl
  have ⟨k30,k31,k32⟩:=HN.out.cg3 3 rfl
  go_upto_region 6 with fail
  have HEV4:=Lib.hid (show EvK (fun k=>k<w.heap.size+1) ((w3.setCell ⟨pb,2,none⟩ (.int .i64 z)).setCell ⟨pb,1,none⟩ (.int .i64 ((k:Int)+(m:Int)))) ⟨0,q,sg,a8,n8,c8,b9,m9,d9⟩ from ((HEV.out.keeps (Keeps.setCell _ ⟨pb,2,none⟩ _ (S:=fun b=>b=pb) rfl) (fun b e=>by have:=HLT.out;omega)).keeps (Keeps.setCell _ ⟨pb,1,none⟩ _ (S:=fun b=>b=pb) rfl) (fun b e=>by have:=HLT.out;omega)))
  have HK4:=Lib.hid (show Keeps w ((w3.setCell ⟨pb,2,none⟩ (.int .i64 z)).setCell ⟨pb,1,none⟩ (.int .i64 ((k:Int)+(m:Int)))) (fun b=>b=pb) from (((Keeps.of_below HBL.out fun b h1 h2=>absurd h1 (by omega)).trans (Keeps.setCell _ ⟨pb,2,none⟩ _ (S:=fun b=>b=pb) rfl) (fun b h1 h2=>h2)).trans (Keeps.setCell _ ⟨pb,1,none⟩ _ (S:=fun b=>b=pb) rfl) (fun b h1 h2=>h2)))
  have hn4:=((HN.out.set 0 2 rfl rfl (fun _=>by simp) (.int .i64 z)).set 0 1 rfl rfl (fun _=>by simp) (.int .i64 ((k:Int)+(m:Int))))
  rw [show ((k:Int)+(m:Int))=((k+m:Nat):Int) by omega] at hn4 HEV4 HK4 ⊢
  have HN4:=Lib.hid (show BS w0 (tBox pb ba n c (k+m) z::⟨w.heap.size,60,[.bool false,.slice none 0 0,.slice none 0 0]⟩::⟨p3,60,[.bool sg,.slice a8 n8 c8,.slice b9 m9 d9]⟩::⟨p5,74,[.int .i64 z,.string fs,.int .i64 fk]⟩::bs) ns _ from hn4)
  clear k00 f00 k01 f01 k02 f02 k30 k31 k32 hn4 HN HEV
  have HN:=HN4
  have HEV:=HEV4
  clear HN4 HEV4
  generalize (w3.setCell ⟨pb,2,none⟩ (.int .i64 z)).setCell ⟨pb,1,none⟩ (.int .i64 ((k+m:Nat):Int))=w4 at HN HEV HK4 ⊢
  have ⟨k10,f10,k11,f11,k12,f12⟩:=HN.out.cf3 1 rfl
  have ⟨k20,k21,k22⟩:=HN.out.cg3 2 rfl
  have HE:=Lib.hid (((HN.out.set 1 0 rfl rfl (fun _=>by simp) (.bool sg)).set 1 1 rfl rfl (fun _=>by simp) (.slice a8 n8 c8)).set 1 2 rfl rfl (fun _=>by simp) (.slice b9 m9 d9))
  have HEVE:=Lib.hid (show EvK (fun k=>k<w.heap.size+1) (((w4.setCell ⟨w.heap.size,0,none⟩ (.bool sg)).setCell ⟨w.heap.size,1,none⟩ (.slice a8 n8 c8)).setCell ⟨w.heap.size,2,none⟩ (.slice b9 m9 d9)) ⟨0,q,sg,a8,n8,c8,b9,m9,d9⟩ from (((HEV.out.keeps (Keeps.setCell _ ⟨w.heap.size,0,none⟩ _ (S:=fun b=>b=w.heap.size) rfl) (fun b e=>by have:=HLT.out;omega)).keeps (Keeps.setCell _ ⟨w.heap.size,1,none⟩ _ (S:=fun b=>b=w.heap.size) rfl) (fun b e=>by have:=HLT.out;omega)).keeps (Keeps.setCell _ ⟨w.heap.size,2,none⟩ _ (S:=fun b=>b=w.heap.size) rfl) (fun b e=>by have:=HLT.out;omega)))
  have HKP:=Lib.hid (show Keeps w (((w4.setCell ⟨w.heap.size,0,none⟩ (.bool sg)).setCell ⟨w.heap.size,1,none⟩ (.slice a8 n8 c8)).setCell ⟨w.heap.size,2,none⟩ (.slice b9 m9 d9)) (fun b=>b=pb) from (((HK4.out.trans (Keeps.setCell _ ⟨w.heap.size,0,none⟩ _ (S:=fun b=>b=w.heap.size) rfl) (fun b h1 h2=>absurd h2 (by omega))).trans (Keeps.setCell _ ⟨w.heap.size,1,none⟩ _ (S:=fun b=>b=w.heap.size) rfl) (fun b h1 h2=>absurd h2 (by omega))).trans (Keeps.setCell _ ⟨w.heap.size,2,none⟩ _ (S:=fun b=>b=w.heap.size) rfl) (fun b h1 h2=>absurd h2 (by omega))))
  go_wp2_with fail
  (try simp only [Exit.inBlock,Exit.then])
  refine bodyPost_ret (v:=.agg #[.bool sg,.slice a8 n8 c8,.slice b9 m9 d9]) ?_ rfl ?_
  ·
   rw [results_cell1 rfl]
   have hbk:=(HE.out.at 1 rfl:_=some (Obj.cells #[.bool sg,.slice a8 n8 c8,.slice b9 m9 d9] 60 (0,0)))
   exact Go.Lib.rl_loadVar_cells 60 _ rfl (fun _=>rfl) (w.heap.size) 0 [.bool sg,.slice a8 n8 c8,.slice b9 m9 d9] rfl _ (fun k v hk=>by
    rw [Nat.zero_add]
    exact cell_of_block (j:=k) hbk (by simpa using hk))
  ·
   refine ⟨sg,a8,n8,c8,b9,m9,d9,rfl,fun _=>HEVE.out.mono (fun k hk=>Nat.lt_succ_of_lt hk),?_,HKP.out⟩
   obtain ⟨h1,h2,h3⟩:=HST.out
   refine ⟨?_,by rw [h1];exact HKM.out,h3⟩
   have h9:=HE.out.only (.cons_cons _ (.cons _ (.cons _ (.cons _ (List.Sublist.refl _))))) (fun _ h=>h)
   rw [h1,h2]
   exact h9
theorem dec_nd {b:List Nat} (hb:B256 b) {r:Except Flt (Rat × Nat)} (h:decR b=r):nd (ratD r).num.natAbs≤4294967296∧nd (ratD r).den≤4294967296:=by
 cases r with
 | error f=>exact ⟨by show nd 0≤_;rw [nd_zero];omega,Nat.le_trans (nd_le (show (1:Nat)<65536^1 by omega)) (by omega)⟩
 | ok y =>
  obtain ⟨q,n⟩:=y
  obtain ⟨he,_,_⟩:=enc_dec hb h
  have h1:¬ (255<ndig 256 q.num.natAbs∨(q.den≠1∧255<ndig 256 q.den)):=fun hc=>by
   obtain ⟨f,hf,_⟩:=(enc_size q).1 hc
   rw [he] at hf
   cases hf
  have small:∀ m:Nat,ndig 256 m≤255→nd m≤4294967296:=fun m hm=>by
   have h2:=lt_ndig (B:=256) (by omega) m
   refine Nat.le_trans (nd_le (k:=128) (Nat.lt_of_lt_of_le h2 (Nat.le_trans (Nat.pow_le_pow_right (by omega) hm) ?_))) (by omega)
   rw [show (65536:Nat)=256^2 from rfl,← Nat.pow_mul]
   exact Nat.pow_le_pow_right (by omega) (by omega)
  refine ⟨small q.num.natAbs (by omega),?_⟩
  show nd q.den≤_
  by_cases hd:q.den=1
  ·
   rw [hd];exact Nat.le_trans (nd_le (show (1:Nat)<65536^1 by omega)) (by omega)
  ·
   exact small q.den (by omega)
theorem tfrac_any {w0:World} {bs:List Bk} {ns:List Nm} {pb:Nat} {ba:Option Addr} {n c:Nat} (data:List Nat) (st:RS) (w:World) (h:TkW w0 bs ns pb ba n c st w) (hd:BytesN w0 (.slice ba n c) data) (h8:∀ x,x∈data→x<256) (hn:n≤1048576) :
  Calls Tryz.prog 164 #[.pointer (some ⟨pb,0,none⟩)] w (FrT w0 bs ns pb ba n c w (rRat data st).1 (rRat data st).2):=by
 obtain ⟨hy,hk,hz⟩:=h
 cases st with
 | error x=>exact tfrac_err _ x.2 x.1 w hy hk (hz x rfl)
 | ok k =>
  have hk:k≤n:=hk
  have hl:=hd.len
  have hsub:=hd.sub k n hk (Nat.le_refl _)
  rw [List.take_of_length_le (by omega)] at hsub
  have h8':∀ x,x∈data.drop k→x<256:=fun x hx=>h8 x (List.mem_of_mem_drop hx)
  have hlt:=hy.lt 0 rfl
  obtain ⟨r,hr⟩:∃ r,decR (data.drop k)=r:=⟨_,rfl⟩
  have hsm:=dec_nd h8' hr
  have hD:=fun (W:World) (hb:Below w.heap.size w W)=>f9dec_own _ _ _ _ W (hsub.below (bthen hy.bel hb)) h8' (by omega)
  rw [hr] at hD
  have hq:rRat data (.ok k)=(ratD r,match r with | .ok y=>.ok (k+y.2) | .error f=>.error (f.n,k)):=by
   unfold rRat;simp only [hr];cases r <;> rfl
  rw [hq]
  refine tfrac_go (ratD r) (decide ((ratD r).num<0)) (eN r) (eK r) (eS r) (numD r) k w hy ⟨hl.2.1,hl.2.2.1⟩ hk ?_ hn _ ?_ ?_ ?_ (Lib.hid fun W hb hsz=>(hD W hb).mono fun e w' hh=>?_)
  ·
   cases r with
   | ok y =>
    have h9:=(enc_dec h8' hr).2.2
    rw [List.length_drop] at h9
    show k+y.2≤n
    omega
   | error f=>exact hk
  ·
   cases r <;> rfl
  ·
   cases r <;> rfl
  ·
   intro x hx
   cases r with
   | ok y=>cases hx
   | error f =>
    injection hx with hx
    rw [← hx]
    have h9:=dec_err hr
    show f.n≠0
    omega
  ·
   obtain ⟨a8,n8,c8,b9,m9,d9,he,⟨hq,o1,o2⟩,hb2⟩:=hh
   refine ⟨a8,n8,c8,b9,m9,d9,he,(EvK.own (v:=⟨0,ratD r,decide ((ratD r).num<0),a8,n8,c8,b9,m9,d9⟩) ⟨rfl,hq,?_,?_⟩ o1 o2).mono (fun k hk=>by omega),hb2⟩
   ·
    have h1:=hq.num.1;show n8≤_;have h2:=hsm.1;omega
   ·
    have h1:=hq.den.1;show m9≤_;have h2:=hsm.2;omega
structure QS (w0:World) (bs:List Bk) (ns:List Nm) (pb:Nat) (ba:Option Addr) (n c:Nat) (w:World) (mb:Nat) (cs:List Value) (st:RS) (o:Option Nat) (L:List VE) (W:World):Prop where
 tk:TkW w0 (⟨mb,63,cs⟩::bs) ns pb ba n c st W
 lp:pb<w.heap.size
 lm:mb<w.heap.size
 sz:w.heap.size≤W.heap.size
 ow:∀ k,o=some k→k<W.heap.size
 ev:Good9 st→∀ v,v∈L→EvK (fun k=>k<w.heap.size∨o=some k) W v
section
variable {w0 : World} {bs : List Bk} {ns : List Nm} {pb : Nat} {ba : Option Addr} {n c : Nat} {w : World} {mb : Nat} {cs : List Value} {st : RS} {o : Option Nat} {L : List VE} {W : World}
theorem QS.cell (h:QS w0 bs ns pb ba n c w mb cs st o L W) (j:Nat) {v:Value} (hj:cs[j]?=some v):W.cell? ⟨mb,j,none⟩=some v:=h.tk.1.cell 1 j rfl hj
theorem QS.free (h:QS w0 bs ns pb ba n c w mb cs st o L W) (j:Nat):W.frozen? ⟨mb,j,none⟩=false:=h.tk.1.free 1 j rfl
theorem QS.set (h:QS w0 bs ns pb ba n c w mb cs st o L W) (j:Nat) {u0:Value} (hj:cs[j]?=some u0) (h0:∀ x,u0≠.int .u64 x) (v:Value):QS w0 bs ns pb ba n c w mb (cs.set j v) st o L (W.setCell ⟨mb,j,none⟩ v) :=
 ⟨⟨h.tk.1.set 1 j rfl hj h0 v,h.tk.2⟩,h.lp,h.lm,by simpa using h.sz,fun k hk=>by simpa using h.ow k hk,fun hg u hu=>(h.ev hg u hu).keeps (Keeps.setCell _ _ _ (S:=fun b=>b=mb) rfl) fun k hk=>.inl (by rw [hk];exact h.lm)⟩
theorem QS.call {W':World} (h:QS w0 bs ns pb ba n c w mb cs st o L W) (hb:Below W.heap.size W W'):QS w0 bs ns pb ba n c w mb cs st o L W' :=
 ⟨h.tk.call hb,h.lp,h.lm,Nat.le_trans h.sz hb.size,fun k hk=>Nat.lt_of_lt_of_le (h.ow k hk) hb.size,fun hg u hu=>(h.ev hg u hu).below hb⟩
theorem QS.next {W':World} {st':RS} (h:QS w0 bs ns pb ba n c w mb cs st o L W) (ht:TkW w0 (⟨mb,63,cs⟩::bs) ns pb ba n c st' W') (hk:Keeps W W' (fun b=>b=pb)) (hg:Good9 st'→Good9 st):QS w0 bs ns pb ba n c w mb cs st' o L W' :=
 ⟨ht,h.lp,h.lm,Nat.le_trans h.sz hk.size,fun k h2=>Nat.lt_of_lt_of_le (h.ow k h2) hk.size,fun h9 u hu=>(h.ev (hg h9) u hu).keeps hk fun k h2=>.inl (by rw [h2];exact h.lp)⟩
end
theorem good_next {data:List Nat} {m:Nat} {st:RS} (h:Good9 (rNext data m st).2):Good9 st:=by
 cases st with
 | ok a=>exact ⟨a,rfl⟩
 | error x=>obtain ⟨k,hk⟩:=h;cases hk
theorem good_pick {data:List Nat} {lo hi:Int} {st:RS} (h:Good9 (rPick data lo hi st).2):Good9 st:=by
 cases st with
 | ok a=>exact ⟨a,rfl⟩
 | error x=>obtain ⟨k,hk⟩:=h;cases hk
theorem good_id {data:List Nat} {st:RS} (h:Good9 (rId data st).2):Good9 st:=by
 cases st with
 | ok a=>exact ⟨a,rfl⟩
 | error x=>obtain ⟨k,hk⟩:=h;cases hk
theorem good_rat {data:List Nat} {st:RS} (h:Good9 (rRat data st).2):Good9 st:=by
 cases st with
 | ok a=>exact ⟨a,rfl⟩
 | error x=>obtain ⟨k,hk⟩:=h;cases hk
theorem qnum {w0:World} {bs:List Bk} {ns:List Nm} {pb:Nat} {ba:Option Addr} {n c:Nat} {w:World} {mb:Nat} {cs:List Value} {st:RS} {o:Option Nat} {L:List VE} {W:World} (lo hi:Int) {data:List Nat} (h:QS w0 bs ns pb ba n c w mb cs st o L W) (hd:BytesN w0 (.slice ba n c) data) (h8:∀ x,x∈data→x<256) (hn:n≤1048576) :
  Calls Tryz.prog 103 #[.pointer (some ⟨pb,0,none⟩),.int .i64 lo,.int .i64 hi] W fun e w'=>e=.returned (.int .i64 (rPick data lo hi st).1)∧QS w0 bs ns pb ba n c w mb cs (rPick data lo hi st).2 o L w' :=
 (tnum_any lo hi data st W h.tk hd h8 (by omega)).mono fun e w' hh=>⟨hh.1,h.next hh.2.1 hh.2.2 good_pick⟩
theorem qid {w0:World} {bs:List Bk} {ns:List Nm} {pb:Nat} {ba:Option Addr} {n c:Nat} {w:World} {mb:Nat} {cs:List Value} {st:RS} {o:Option Nat} {L:List VE} {W:World} {data:List Nat} (h:QS w0 bs ns pb ba n c w mb cs st o L W) (hd:BytesN w0 (.slice ba n c) data) (h8:∀ x,x∈data→x<256) (hn:n≤1048576) :
  Calls Tryz.prog 105 #[.pointer (some ⟨pb,0,none⟩)] W fun e w'=>∃ u,e=.returned (.int .i64 u)∧(Good9 (rId data st).2→u=(rId data st).1)∧QS w0 bs ns pb ba n c w mb cs (rId data st).2 o L w' :=
 (tid_any data st W h.tk hd h8 (by omega)).mono fun e w' hh=>by
  obtain ⟨u,he,hu,ht,hk⟩:=hh
  exact ⟨u,he,hu,h.next ht hk good_id⟩
theorem qfrac {w0:World} {bs:List Bk} {ns:List Nm} {pb:Nat} {ba:Option Addr} {n c:Nat} {w:World} {mb:Nat} {cs:List Value} {st:RS} {o:Option Nat} {L:List VE} {W:World} {data:List Nat} (h:QS w0 bs ns pb ba n c w mb cs st o L W) (hd:BytesN w0 (.slice ba n c) data) (h8:∀ x,x∈data→x<256) (hn:n≤1048576) :
  Calls Tryz.prog 164 #[.pointer (some ⟨pb,0,none⟩)] W fun e w'=>∃ sg a8 n8 c8 b9 m9 d9,e=.returned (.agg #[.bool sg,.slice a8 n8 c8,.slice b9 m9 d9])∧QS w0 bs ns pb ba n c w mb cs (rRat data st).2 o (⟨0,(rRat data st).1,sg,a8,n8,c8,b9,m9,d9⟩::L) w' :=
 (tfrac_any data st W h.tk hd h8 hn).mono fun e w' hh=>by
  obtain ⟨sg,a8,n8,c8,b9,m9,d9,he,hev,ht,hk⟩:=hh
  have h1:=h.next ht hk good_rat
  refine ⟨sg,a8,n8,c8,b9,m9,d9,he,h1.tk,h1.lp,h1.lm,h1.sz,h1.ow,fun hg v hv=>?_⟩
  rcases List.mem_cons.1 hv with rfl | hv
  ·
   exact (hev hg).mono fun k hk=>hk.elim (fun q=>Nat.lt_of_lt_of_le q h.sz) (h.ow k)
  ·
   exact h1.ev hg v hv
theorem EvK.ren {S:Nat→Prop} {W:World} {id id':Int} {q:Rat} {sg:Bool} {a8 b9:Option Addr} {n8 c8 m9 d9:Nat} (h:EvK S W ⟨id,q,sg,a8,n8,c8,b9,m9,d9⟩):EvK S W ⟨id',q,sg,a8,n8,c8,b9,m9,d9⟩:=⟨h.ok,h.na,h.nb⟩
theorem EvK.push {B:Nat} {W W6:World} {o o':Option Nat} {v:VE} {ob:Obj} (h:EvK (fun k=>k<B∨o=some k) W v) (hg:(W.alloc ob).grownBy W6 o) (hk:o'=o∨o'=some (W.alloc ob).heap.size) (hs:(W.alloc ob).heap.size≤W6.heap.size):EvK (fun k=>k<B∨o'=some k) W6 v:=by
 have h1:=(h.below (belowBox W ob)).keeps (Keeps.of_grown hg (S:=fun k=>o=some k) fun b hb=>hb) fun k hk=>.inr hk
 rcases hk with rfl | rfl
 ·
  exact h1
 ·
  have h2:=((h.below (belowBox W ob)).more (W.alloc ob).heap.size (Nat.le_refl _)).keeps (Keeps.of_grown hg (S:=fun k=>o=some k) fun b hb=>hb) fun k hk=>.inl (.inr hk)
  exact h2.mono fun k hk=>hk.elim (fun q=>.inl (.inl q)) fun q=>.inr (by injection q with q;exact q.symm)
theorem OB.lt {w W:World} {bs:List Bk} {ns:List Nm} {T:TypeId} {sz:Nat} {a:Option Addr} {n c:Nat} {cs:List Value} (h:OB w bs ns T sz a n c cs W) (k:Nat) (hk:(Value.slice a n c).ownBlock=some k):k<W.heap.size:=(h.mid.lt k hk).2
def RefM.fr (x:RefM):VE:=⟨0,x.q,x.qs,x.qa,x.qn,x.qc,x.qb,x.qm,x.qd⟩
def QsT (w0:World) (bs:List Bk) (ns:List Nm) (pb:Nat) (ba:Option Addr) (n c:Nat) (w:World) (mb:Nat) (x0:RefM) (q:Qst) (st:RS) (e:Ending) (w':World):Prop :=
 ∃ x:RefM,e=.returned (.tuple #[])∧(x.verb=x0.verb∧x.ses=x0.ses∧x.rig=x0.rig∧x.tk=x0.tk∧x.ot=x0.ot)∧OB w0 (tBox pb ba n c (stK st) (stE st)::⟨mb,63,x.cells⟩::bs) ns 154 4 x.ea x.en x.ec (x.vs.flatMap VE.cells) w'∧(stK st≤n∧(∀ z,st=.error z→z.1≠0)) ∧
 (Good9 st→x.ask=q∧x.vs.length=x.en∧((x.qm=0∧x.q=0)∨EvK (fun k=>k<w.heap.size) w' x.fr)∧∀ u,u∈x.vs→EvK (fun k=>k<w.heap.size) w' u)
theorem tqst_any {w0:World} {bs:List Bk} {ns:List Nm} {pb:Nat} {ba:Option Addr} {n c:Nat} {mb:Nat} (x:RefM) (data:List Nat) (st:RS) (w:World) (h:QS w0 bs ns pb ba n c w mb [.int .i64 x.verb,.int .i64 x.ses,.int .i64 x.rig,.string x.tk,.string x.ot,.int .i64 0,.int .i64 0,.int .i64 0,.int .i64 0,.bool false,.slice none 0 0,.slice none 0 0,.slice none 0 0] st none [] w) (hd:BytesN w0 (.slice ba n c) data) (h8:∀ x,x∈data→x<256) (hn:n≤1048576) :
  Calls Tryz.prog 106 #[.pointer (some ⟨pb,0,none⟩),.pointer (some ⟨mb,0,none⟩)] w (QsT w0 bs ns pb ba n c w mb x (rAsk data st).1 (rAsk data st).2):=by
 obtain ⟨i0,hi,hz0,hz1,hz2⟩:=info_parts Tryz.infoREn
 unfold rAsk
 have hP:=qnum 1 12 h hd h8 hn
 generalize (rPick data 1 12 st).1=op at hP ⊢
 generalize (rPick data 1 12 st).2=st1 at hP ⊢
 have HP:=Lib.hid hP
 have HD:=Lib.hid hd
 have H8:=Lib.hid h8
 clear hd h8 h hP
 go_enter Tryz.func106,Tryz.ntmps106
 go_wp2_with fail
 refine HP.out.mono ?_
 rintro e w1 ⟨rfl,hq⟩
 have HN:=Lib.hid hq
 clear hq HP
 have k5:=HN.out.cell 5 rfl
 have f5:=HN.out.free 5
 go_upto_region 1 with fail
 replace HN:=Lib.hid (show QS w0 bs ns pb ba n c w mb [.int .i64 x.verb,.int .i64 x.ses,.int .i64 x.rig,.string x.tk,.string x.ot,.int .i64 op,.int .i64 0,.int .i64 0,.int .i64 0,.bool false,.slice none 0 0,.slice none 0 0,.slice none 0 0] st1 none [] _ from (HN.out.set 5 rfl (fun _=>by simp) (.int .i64 op)))
 clear k5 f5
 generalize (w1.setCell ⟨mb,5,none⟩ (.int .i64 op))=w2 at HN ⊢
 by_cases h12:op=1∨op=2
 ·
  rcases h12 with h1 | h2
  case' inl =>
   have g1:(op==1)=true:=beq_iff_eq.2 h1
   have H1:=Lib.hid h1
   clear h1
   have k5:=HN.out.cell 5 rfl
   have f5:=HN.out.free 5
   go_wp2_with fail
   clear k5 f5
   refine (qnum 0 3 HN.out HD.out H8.out hn).mono ?_
   rintro e w3 ⟨rfl,hq⟩
   replace HN:=Lib.hid hq
   clear hq
   have k8:=HN.out.cell 8 rfl
   have f8:=HN.out.free 8
   go_wp2_with fail
   replace HN:=Lib.hid (show QS w0 bs ns pb ba n c w mb [.int .i64 x.verb,.int .i64 x.ses,.int .i64 x.rig,.string x.tk,.string x.ot,.int .i64 op,.int .i64 0,.int .i64 0,.int .i64 (rPick data 0 3 st1).1,.bool false,.slice none 0 0,.slice none 0 0,.slice none 0 0] (rPick data 0 3 st1).2 none [] _ from (HN.out.set 8 rfl (fun _=>by simp) (.int .i64 (rPick data 0 3 st1).1)))
   clear k8 f8
   generalize (w3.setCell ⟨mb,8,none⟩ (.int .i64 (rPick data 0 3 st1).1))=w4 at HN ⊢
   refine (qfrac HN.out HD.out H8.out hn).mono ?_
   rintro e w5 ⟨sg,a8,n8,c8,b9,m9,d9,rfl,hq⟩
   replace HN:=Lib.hid hq
   clear hq
   obtain ⟨kd,hkd⟩:∃ kd:Int,kd=(rPick data 0 3 st1).1:=⟨_,rfl⟩
   obtain ⟨stk,hsk⟩:∃ s:RS,s=(rPick data 0 3 st1).2:=⟨_,rfl⟩
   replace HN:=Lib.hid (show QS w0 bs ns pb ba n c w mb [.int .i64 x.verb,.int .i64 x.ses,.int .i64 x.rig,.string x.tk,.string x.ot,.int .i64 op,.int .i64 0,.int .i64 0,.int .i64 kd,.bool false,.slice none 0 0,.slice none 0 0,.slice none 0 0] (rRat data stk).2 none [⟨0,(rRat data stk).1,sg,a8,n8,c8,b9,m9,d9⟩] _ from by rw [hkd,hsk];exact HN.out)
   have HAB:=Lib.hid (show rAskBody data op st1=(⟨op,0,0,kd,(rRat data stk).1,(rEntries data (rRat data stk).2).1⟩,(rEntries data (rRat data stk).2).2) by rw [hkd,hsk,H1.out];rfl)
   clear hkd hsk
  case' inr =>
   have g1:(op==1)=false:=beq_eq_false_iff_ne.2 (by omega)
   have g2:(op==2)=true:=beq_iff_eq.2 h2
   have H2:=Lib.hid h2
   clear h2
   have k5:=HN.out.cell 5 rfl
   have f5:=HN.out.free 5
   go_wp2_with fail
   clear k5 f5
   refine (qfrac HN.out HD.out H8.out hn).mono ?_
   rintro e w5 ⟨sg,a8,n8,c8,b9,m9,d9,rfl,hq⟩
   replace HN:=Lib.hid hq
   clear hq
   obtain ⟨kd,hkd⟩:∃ kd:Int,kd=0:=⟨_,rfl⟩
   obtain ⟨stk,hsk⟩:∃ s:RS,s=st1:=⟨_,rfl⟩
   replace HN:=Lib.hid (show QS w0 bs ns pb ba n c w mb [.int .i64 x.verb,.int .i64 x.ses,.int .i64 x.rig,.string x.tk,.string x.ot,.int .i64 op,.int .i64 0,.int .i64 0,.int .i64 kd,.bool false,.slice none 0 0,.slice none 0 0,.slice none 0 0] (rRat data stk).2 none [⟨0,(rRat data stk).1,sg,a8,n8,c8,b9,m9,d9⟩] _ from by rw [hkd,hsk];exact HN.out)
   have HAB:=Lib.hid (show rAskBody data op st1=(⟨op,0,0,kd,(rRat data stk).1,(rEntries data (rRat data stk).2).1⟩,(rEntries data (rRat data stk).2).2) by rw [hkd,hsk,H2.out];rfl)
   clear hkd hsk
  all_goals
   have k9:=HN.out.cell 9 rfl
   have f9:=HN.out.free 9
   have k10:=HN.out.cell 10 rfl
   have f10:=HN.out.free 10
   have k11:=HN.out.cell 11 rfl
   have f11:=HN.out.free 11
   go_wp2_with fail
   replace HN:=Lib.hid (show QS w0 bs ns pb ba n c w mb [.int .i64 x.verb,.int .i64 x.ses,.int .i64 x.rig,.string x.tk,.string x.ot,.int .i64 op,.int .i64 0,.int .i64 0,.int .i64 kd,.bool sg,.slice a8 n8 c8,.slice b9 m9 d9,.slice none 0 0] (rRat data stk).2 none [⟨0,(rRat data stk).1,sg,a8,n8,c8,b9,m9,d9⟩] _ from (((HN.out.set 9 rfl (fun _=>by simp) (.bool sg)).set 10 rfl (fun _=>by simp) (.slice a8 n8 c8)).set 11 rfl (fun _=>by simp) (.slice b9 m9 d9)))
   clear k9 f9 k10 f10 k11 f11
   generalize (((w5.setCell ⟨mb,9,none⟩ (.bool sg)).setCell ⟨mb,10,none⟩ (.slice a8 n8 c8)).setCell ⟨mb,11,none⟩ (.slice b9 m9 d9))=w6 at HN ⊢
   refine (qnum 0 64 HN.out HD.out H8.out hn).mono ?_
   rintro e w7 ⟨rfl,hq⟩
   replace HN:=Lib.hid hq
   clear hq
   have hN0:=pick_nonneg data 0 64 (rRat data stk).2
   have hN1:=rPick_le H8.out 0 64 (rRat data stk).2
   have HRE:=Lib.hid (show rEntries data (rRat data stk).2=rEnts data (rPick data 0 64 (rRat data stk).2).1.toNat (rPick data 0 64 (rRat data stk).2).2 [] from rfl)
   generalize (rPick data 0 64 (rRat data stk).2).1=z at hN0 hN1 HRE ⊢
   generalize (rPick data 0 64 (rRat data stk).2).2=st4 at HN HRE
   obtain ⟨M,rfl⟩:∃ M:Nat,z=(M:Int):=⟨z.toNat,by omega⟩
   rw [Int.toNat_natCast] at HRE
   have hm:M≤255:=by omega
   have HLM:=Lib.hid HN.out.lm
   have HLP:=Lib.hid HN.out.lp
   clear hN0 hN1
   go_upto_region 9 with fail
   go_loopw [5] (fun v5 wr=>∃ (j:Nat) (st:RS) (acc:List Ent) (a5:Option Addr) (c5:Nat) (vs:List VE),j≤M∧v5=.int .i64 j∧vs.length=j∧rEnts data M st4 []=rEnts data (M - j) st acc∧(Good9 st→vs.map VE.ent=acc)∧OB w0 (tBox pb ba n c (stK st) (stE st)::⟨mb,63,[.int .i64 x.verb,.int .i64 x.ses,.int .i64 x.rig,.string x.tk,.string x.ot,.int .i64 op,.int .i64 0,.int .i64 0,.int .i64 kd,.bool sg,.slice a8 n8 c8,.slice b9 m9 d9,.slice a5 j c5]⟩::bs) ns 154 4 a5 j c5 (vs.flatMap VE.cells) wr∧(stK st≤n∧(∀ z,st=.error z→z.1≠0))∧w.heap.size≤wr.heap.size∧(Good9 st→∀ u,u∈(⟨0,(rRat data stk).1,sg,a8,n8,c8,b9,m9,d9⟩:VE)::vs→EvK (fun k=>k<w.heap.size∨(Value.slice a5 j c5).ownBlock=some k) wr u)) (fun v5 _=>M - (intOf v5).toNat)
   case atStart=>exact ⟨0,st4,[],none,0,[],Nat.zero_le _,rfl,rfl,rfl,fun _=>rfl,OB.start HN.out.tk.1,HN.out.tk.2,HN.out.sz,fun hg u hu=>(HN.out.ev hg u hu).mono fun k hk=>hk⟩
   case round =>
    obtain ⟨j,st,acc,a5,c5,vs,hj,rfl,hvl,hR,hma,hO,hkz,hsz,hev⟩:=hrel
    have HVL:=Lib.hid hvl
    have HMA:=Lib.hid hma
    have HO:=Lib.hid hO
    have HKZ:=Lib.hid hkz
    have HSZ:=Lib.hid hsz
    have HEV:=Lib.hid hev
    clear hvl hma hO hkz hsz hev HN
    by_cases hlt:j<M
    ·
     obtain ⟨M1,hM1⟩:∃ M1,M - j=M1+1:=⟨M - j - 1,by omega⟩
     rw [hM1] at hR
     have HM1:=Lib.hid hM1
     clear hM1
     cases st with
     | error y =>
      have hf:rEnts data (M1+1) (.error y) acc=([],.error y):=rfl
      rw [hf] at hR
      have HR:=Lib.hid hR
      have k2:=HO.out.st.cell 0 2 rfl rfl
      have hz:(stE (.error y)==0)=false:=beq_eq_false_iff_ne.2 (HKZ.out.2 y rfl)
      generalize stE (.error y)=ze at hz k2
      clear hR hf
      go_wp2_with fail
      go_end0
      rw [HAB.out,HRE.out,HR.out]
      exact ⟨⟨x.verb,x.ses,x.rig,x.tk,x.ot,op,0,0,kd,(rRat data stk).1,sg,a8,n8,c8,b9,m9,d9,a5,j,c5,vs⟩,rfl,⟨rfl,rfl,rfl,rfl,rfl⟩,HO.out,HKZ.out,fun ⟨_,h⟩=>(by cases h)⟩
     | ok k =>
      have hstep:rEnts data (M1+1) (.ok k) acc=rEnts data M1 (rRat data (rId data (.ok k)).2).2 (acc++[⟨(rId data (.ok k)).1,(rRat data (rId data (.ok k)).2).1⟩]):=rfl
      rw [hstep,show M1=M - (j+1) by have:=HM1.out;omega] at hR
      have HR:=Lib.hid hR
      obtain ⟨ex,hst,hback⟩:=HO.out.lend
      have HBK:=Lib.hid (fun (cs:List Value) (st:RS) (W:World) (h:BS w0 (tBox pb ba n c (stK st) (stE st)::⟨mb,63,cs⟩::(bs++ex)) ns W)=>hback (tBox pb ba n c (stK st) (stE st)::⟨mb,63,cs⟩::bs) ns W h)
      have HN:=Lib.hid (show QS w0 (bs++ex) ns pb ba n c w mb [.int .i64 x.verb,.int .i64 x.ses,.int .i64 x.rig,.string x.tk,.string x.ot,.int .i64 op,.int .i64 0,.int .i64 0,.int .i64 kd,.bool sg,.slice a8 n8 c8,.slice b9 m9 d9,.slice a5 j c5] (.ok k) (Value.slice a5 j c5).ownBlock ((⟨0,(rRat data stk).1,sg,a8,n8,c8,b9,m9,d9⟩:VE)::vs) wr from ⟨⟨hst,HKZ.out⟩,HLP.out,HLM.out,HSZ.out,fun k hk=>HO.out.lt k hk,HEV.out⟩)
      have k2:=HO.out.st.cell 0 2 rfl rfl
      simp only [stE] at k2
      clear hR hstep hst hback HO HEV HKZ HM1
      go_wp2_with fail
      refine (qid HN.out HD.out H8.out hn).mono ?_
      rintro e w2 ⟨uu,rfl,hid,hq⟩
      have HUU:=Lib.hid hid
      replace HN:=Lib.hid hq
      clear hq hid k2
      go_upto_region 12 with fail
      replace HN:=Lib.hid (HN.out.call (Below.refl _ _).drew)
      refine wp_region_held_drew (S:=fun _=>True) (by kernel_rfl) (trivial) (fun hHeld=>?_)
      generalize w2.drew=wd at HN hHeld ⊢
      refine tm 0 (some 50) ?_
      refine tm 1 (some 51) ?_
      refine tl 2 (some 52) ?_
      refine tm 3 (some 53) ?_
      refine tm 5 (some 55) ?_
      refine tm 6 (some 56) ?_
      refine wpAnyH_ready (rs:=[4,7]) (by kernel_rfl) (by simp) ?_
      refine (AllReadyH.cons rfl (fun K hK=>?_) (AllReadyH.cons rfl (fun K hK=>?_) AllReadyH.nil))
      ·
       skip
       have k0:=HN.out.cell 12 rfl
       go_simp
       clear k0
       refine hK.out _ _ (trivial) (fun hHeld2=>?_)
       clear hK K hHeld
       rename _=>hHeld
       try simp only [Act.put,stB,stZ,stS]
       refine wpAnyH_ready (rs:=[7]) (by kernel_rfl) (by simp) ?_
       refine (AllReadyH.cons rfl (fun K hK=>?_) AllReadyH.nil)
       go_simp
       refine (qfrac HN.out HD.out H8.out hn).mono ?_
       rintro e wd ⟨sg2,ra,rl,rc,rb,rm,rd,rfl,hq⟩
       replace HN:=Lib.hid hq
       clear hq
       go_wp2_with fail
       refine hK.out _ _ (trivial) (fun hHeld2=>?_)
       clear hK K hHeld
       rename _=>hHeld
       try simp only [Act.put,stB,stZ,stS]
       refine tm 8 (some 58) ?_
       refine wpAnyH_ready (rs:=[9]) (by kernel_rfl) (by simp) ?_
       refine (AllReadyH.cons rfl (fun K hK=>?_) AllReadyH.nil)
       go_simp
       refine hK.out _ _ (trivial) (fun hHeld2=>?_)
       clear hK K hHeld
       rename _=>hHeld
       try simp only [Act.put,stB,stZ,stS]
       refine wpAnyH_ready (rs:=[10]) (by kernel_rfl) (by simp) ?_
       refine (AllReadyH.cons rfl (fun K hK=>?_) AllReadyH.nil)
       have HO:=Lib.hid (HBK.out _ _ _ HN.out.tk.1)
       refine step_append_at (a0:=a5) (c0:=c5) rfl _ _ 61 61 rfl i0 (.agg #[.int .i64 0,.bool false,.slice none 0 0,.slice none 0 0]) 64 Tryz.underlyingREs hi hz0 hz1 hz2 rfl rfl (HO.out.mid.alloc (.cells #[.int .i64 uu,.bool sg2,.slice ra rl rc,.slice rb rm rd] 154)) _ rfl 1 [.int .i64 uu,.bool sg2,.slice ra rl rc,.slice rb rm rd] ((Sl.lit _ 154 4 1 [.int .i64 uu,.bool sg2,.slice ra rl rc,.slice rb rm rd] (by unfold maxLen;omega) rfl).src (P:=Tryz.prog) Tryz.underlyingREs (by
        intro u hu
        simp only [List.mem_cons,List.not_mem_nil,or_false] at hu
        rcases hu with rfl | rfl | rfl | rfl <;> rfl)) (by unfold maxLen;omega) (by omega) (Nat.le_trans HO.out.st.bel.size (belowBox _ _).size) ?_
       intro a6 c6 w6 hmo hgo hbo hao
       have HS6:=Lib.hid (Nat.le_trans (Nat.le_trans HN.out.sz (belowBox _ _).size) (Keeps.of_grown hgo (S:=fun _=>True) fun _ _=>trivial).size)
       have HE6:=Lib.hid (fun hg u hu=>(HN.out.ev hg u hu).push hgo hbo (Keeps.of_grown hgo (S:=fun _=>True) fun _ _=>trivial).size)
       replace HO:=Lib.hid (HO.out.push (by decide) (by omega) hmo hgo hbo hao)
       have HK6:=Lib.hid HN.out.tk.2
       clear hmo hgo hbo hao HN
       refine hK.out _ _ (trivial) (fun hHeld2=>?_)
       clear hK K hHeld
       rename _=>hHeld
       try simp only [Act.put,stB,stZ,stS]
       refine tl 11 (some 61) ?_
       refine tm 12 (some 62) ?_
       refine wpAnyH_ready (rs:=[13]) (by kernel_rfl) (by simp) ?_
       refine (AllReadyH.cons rfl (fun K hK=>?_) AllReadyH.nil)
       have k0:=HO.out.st.cell 1 12 rfl rfl
       have f0:=HO.out.st.free 1 12 rfl
       go_simp
       clear k0 f0
       refine hK.out _ _ (trivial) (fun hHeld2=>?_)
       clear hK K hHeld
       rename _=>hHeld
       try simp only [Act.put,stB,stZ,stS]
       refine wpAnyH_done (by kernel_rfl) ?_ _
       have HO7:=Lib.hid (HO.out.set 1 12 rfl rfl (fun _=>by simp) (.slice a6 (j+1) c6))
       have HE7:=Lib.hid (fun hg u hu=>(HE6.out hg u hu).keeps (Keeps.setCell w6 ⟨mb,12,none⟩ (.slice a6 (j+1) c6) (S:=fun b=>b=mb) rfl) fun k hk=>.inl (by rw [hk];exact HLM.out))
       clear hHeld
       go_wp2_with fail
       go_roundw
       case rel =>
        refine ⟨j+1,(rRat data (rId data (.ok k)).2).2,acc++[⟨(rId data (.ok k)).1,(rRat data (rId data (.ok k)).2).1⟩],a6,c6,vs++[(⟨uu,(rRat data (rId data (.ok k)).2).1,sg2,ra,rl,rc,rb,rm,rd⟩:VE)],by omega,by go_num,by rw [List.length_append,HVL.out];rfl,HR.out,fun hg=>?_,?_,HK6.out,by simpa using HS6.out,fun hg u hu=>?_⟩
        ·
         rw [List.map_append,HMA.out ⟨k,rfl⟩,List.map_cons,List.map_nil,← HUU.out (good_rat hg)];rfl
        ·
         rw [List.flatMap_append,List.flatMap_cons,List.flatMap_nil,List.append_nil]
         exact HO7.out
        ·
         rcases List.mem_cons.1 hu with rfl | hu
         ·
          exact HE7.out hg _ (List.mem_cons_of_mem _ List.mem_cons_self)
         rcases List.mem_append.1 hu with hu | hu
         ·
          exact HE7.out hg u (List.mem_cons_of_mem _ (List.mem_cons_of_mem _ hu))
         ·
          rw [List.mem_singleton.1 hu]
          exact (HE7.out hg _ List.mem_cons_self).ren
       case measure=>simp [intOf];omega
      ·
       skip
       go_simp
       refine (qfrac HN.out HD.out H8.out hn).mono ?_
       rintro e wd ⟨sg2,ra,rl,rc,rb,rm,rd,rfl,hq⟩
       replace HN:=Lib.hid hq
       clear hq
       go_wp2_with fail
       refine hK.out _ _ (trivial) (fun hHeld2=>?_)
       clear hK K hHeld
       rename _=>hHeld
       try simp only [Act.put,stB,stZ,stS]
       refine tm 8 (some 58) ?_
       refine wpAnyH_ready (rs:=[4,9]) (by kernel_rfl) (by simp) ?_
       refine (AllReadyH.cons rfl (fun K hK=>?_) (AllReadyH.cons rfl (fun K hK=>?_) AllReadyH.nil))
       ·
        skip
        have k0:=HN.out.cell 12 rfl
        go_simp
        clear k0
        refine hK.out _ _ (trivial) (fun hHeld2=>?_)
        clear hK K hHeld
        rename _=>hHeld
        try simp only [Act.put,stB,stZ,stS]
        refine wpAnyH_ready (rs:=[9]) (by kernel_rfl) (by simp) ?_
        refine (AllReadyH.cons rfl (fun K hK=>?_) AllReadyH.nil)
        go_simp
        refine hK.out _ _ (trivial) (fun hHeld2=>?_)
        clear hK K hHeld
        rename _=>hHeld
        try simp only [Act.put,stB,stZ,stS]
        refine wpAnyH_ready (rs:=[10]) (by kernel_rfl) (by simp) ?_
        refine (AllReadyH.cons rfl (fun K hK=>?_) AllReadyH.nil)
        have HO:=Lib.hid (HBK.out _ _ _ HN.out.tk.1)
        refine step_append_at (a0:=a5) (c0:=c5) rfl _ _ 61 61 rfl i0 (.agg #[.int .i64 0,.bool false,.slice none 0 0,.slice none 0 0]) 64 Tryz.underlyingREs hi hz0 hz1 hz2 rfl rfl (HO.out.mid.alloc (.cells #[.int .i64 uu,.bool sg2,.slice ra rl rc,.slice rb rm rd] 154)) _ rfl 1 [.int .i64 uu,.bool sg2,.slice ra rl rc,.slice rb rm rd] ((Sl.lit _ 154 4 1 [.int .i64 uu,.bool sg2,.slice ra rl rc,.slice rb rm rd] (by unfold maxLen;omega) rfl).src (P:=Tryz.prog) Tryz.underlyingREs (by
         intro u hu
         simp only [List.mem_cons,List.not_mem_nil,or_false] at hu
         rcases hu with rfl | rfl | rfl | rfl <;> rfl)) (by unfold maxLen;omega) (by omega) (Nat.le_trans HO.out.st.bel.size (belowBox _ _).size) ?_
        intro a6 c6 w6 hmo hgo hbo hao
        have HS6:=Lib.hid (Nat.le_trans (Nat.le_trans HN.out.sz (belowBox _ _).size) (Keeps.of_grown hgo (S:=fun _=>True) fun _ _=>trivial).size)
        have HE6:=Lib.hid (fun hg u hu=>(HN.out.ev hg u hu).push hgo hbo (Keeps.of_grown hgo (S:=fun _=>True) fun _ _=>trivial).size)
        replace HO:=Lib.hid (HO.out.push (by decide) (by omega) hmo hgo hbo hao)
        have HK6:=Lib.hid HN.out.tk.2
        clear hmo hgo hbo hao HN
        refine hK.out _ _ (trivial) (fun hHeld2=>?_)
        clear hK K hHeld
        rename _=>hHeld
        try simp only [Act.put,stB,stZ,stS]
        refine tl 11 (some 61) ?_
        refine tm 12 (some 62) ?_
        refine wpAnyH_ready (rs:=[13]) (by kernel_rfl) (by simp) ?_
        refine (AllReadyH.cons rfl (fun K hK=>?_) AllReadyH.nil)
        have k0:=HO.out.st.cell 1 12 rfl rfl
        have f0:=HO.out.st.free 1 12 rfl
        go_simp
        clear k0 f0
        refine hK.out _ _ (trivial) (fun hHeld2=>?_)
        clear hK K hHeld
        rename _=>hHeld
        try simp only [Act.put,stB,stZ,stS]
        refine wpAnyH_done (by kernel_rfl) ?_ _
        have HO7:=Lib.hid (HO.out.set 1 12 rfl rfl (fun _=>by simp) (.slice a6 (j+1) c6))
        have HE7:=Lib.hid (fun hg u hu=>(HE6.out hg u hu).keeps (Keeps.setCell w6 ⟨mb,12,none⟩ (.slice a6 (j+1) c6) (S:=fun b=>b=mb) rfl) fun k hk=>.inl (by rw [hk];exact HLM.out))
        clear hHeld
        go_wp2_with fail
        go_roundw
        case rel =>
         refine ⟨j+1,(rRat data (rId data (.ok k)).2).2,acc++[⟨(rId data (.ok k)).1,(rRat data (rId data (.ok k)).2).1⟩],a6,c6,vs++[(⟨uu,(rRat data (rId data (.ok k)).2).1,sg2,ra,rl,rc,rb,rm,rd⟩:VE)],by omega,by go_num,by rw [List.length_append,HVL.out];rfl,HR.out,fun hg=>?_,?_,HK6.out,by simpa using HS6.out,fun hg u hu=>?_⟩
         ·
          rw [List.map_append,HMA.out ⟨k,rfl⟩,List.map_cons,List.map_nil,← HUU.out (good_rat hg)];rfl
         ·
          rw [List.flatMap_append,List.flatMap_cons,List.flatMap_nil,List.append_nil]
          exact HO7.out
         ·
          rcases List.mem_cons.1 hu with rfl | hu
          ·
           exact HE7.out hg _ (List.mem_cons_of_mem _ List.mem_cons_self)
          rcases List.mem_append.1 hu with hu | hu
          ·
           exact HE7.out hg u (List.mem_cons_of_mem _ (List.mem_cons_of_mem _ hu))
          ·
           rw [List.mem_singleton.1 hu]
           exact (HE7.out hg _ List.mem_cons_self).ren
        case measure=>simp [intOf];omega
       ·
        skip
        go_simp
        refine hK.out _ _ (trivial) (fun hHeld2=>?_)
        clear hK K hHeld
        rename _=>hHeld
        try simp only [Act.put,stB,stZ,stS]
        refine wpAnyH_ready (rs:=[4]) (by kernel_rfl) (by simp) ?_
        refine (AllReadyH.cons rfl (fun K hK=>?_) AllReadyH.nil)
        have k0:=((belowBox wd (.cells #[.int .i64 uu,.bool sg2,.slice ra rl rc,.slice rb rm rd] 154)).cell (p:=⟨mb,12,none⟩) (HN.out.tk.1.lt 1 rfl)).trans (HN.out.cell 12 rfl)
        go_simp
        clear k0
        refine hK.out _ _ (trivial) (fun hHeld2=>?_)
        clear hK K hHeld
        rename _=>hHeld
        try simp only [Act.put,stB,stZ,stS]
        refine wpAnyH_ready (rs:=[10]) (by kernel_rfl) (by simp) ?_
        refine (AllReadyH.cons rfl (fun K hK=>?_) AllReadyH.nil)
        have HO:=Lib.hid (HBK.out _ _ _ HN.out.tk.1)
        refine step_append_at (a0:=a5) (c0:=c5) rfl _ _ 61 61 rfl i0 (.agg #[.int .i64 0,.bool false,.slice none 0 0,.slice none 0 0]) 64 Tryz.underlyingREs hi hz0 hz1 hz2 rfl rfl (HO.out.mid.alloc (.cells #[.int .i64 uu,.bool sg2,.slice ra rl rc,.slice rb rm rd] 154)) _ rfl 1 [.int .i64 uu,.bool sg2,.slice ra rl rc,.slice rb rm rd] ((Sl.lit _ 154 4 1 [.int .i64 uu,.bool sg2,.slice ra rl rc,.slice rb rm rd] (by unfold maxLen;omega) rfl).src (P:=Tryz.prog) Tryz.underlyingREs (by
         intro u hu
         simp only [List.mem_cons,List.not_mem_nil,or_false] at hu
         rcases hu with rfl | rfl | rfl | rfl <;> rfl)) (by unfold maxLen;omega) (by omega) (Nat.le_trans HO.out.st.bel.size (belowBox _ _).size) ?_
        intro a6 c6 w6 hmo hgo hbo hao
        have HS6:=Lib.hid (Nat.le_trans (Nat.le_trans HN.out.sz (belowBox _ _).size) (Keeps.of_grown hgo (S:=fun _=>True) fun _ _=>trivial).size)
        have HE6:=Lib.hid (fun hg u hu=>(HN.out.ev hg u hu).push hgo hbo (Keeps.of_grown hgo (S:=fun _=>True) fun _ _=>trivial).size)
        replace HO:=Lib.hid (HO.out.push (by decide) (by omega) hmo hgo hbo hao)
        have HK6:=Lib.hid HN.out.tk.2
        clear hmo hgo hbo hao HN
        refine hK.out _ _ (trivial) (fun hHeld2=>?_)
        clear hK K hHeld
        rename _=>hHeld
        try simp only [Act.put,stB,stZ,stS]
        refine tl 11 (some 61) ?_
        refine tm 12 (some 62) ?_
        refine wpAnyH_ready (rs:=[13]) (by kernel_rfl) (by simp) ?_
        refine (AllReadyH.cons rfl (fun K hK=>?_) AllReadyH.nil)
        have k0:=HO.out.st.cell 1 12 rfl rfl
        have f0:=HO.out.st.free 1 12 rfl
        go_simp
        clear k0 f0
        refine hK.out _ _ (trivial) (fun hHeld2=>?_)
        clear hK K hHeld
        rename _=>hHeld
        try simp only [Act.put,stB,stZ,stS]
        refine wpAnyH_done (by kernel_rfl) ?_ _
        have HO7:=Lib.hid (HO.out.set 1 12 rfl rfl (fun _=>by simp) (.slice a6 (j+1) c6))
        have HE7:=Lib.hid (fun hg u hu=>(HE6.out hg u hu).keeps (Keeps.setCell w6 ⟨mb,12,none⟩ (.slice a6 (j+1) c6) (S:=fun b=>b=mb) rfl) fun k hk=>.inl (by rw [hk];exact HLM.out))
        clear hHeld
        go_wp2_with fail
        go_roundw
        case rel =>
         refine ⟨j+1,(rRat data (rId data (.ok k)).2).2,acc++[⟨(rId data (.ok k)).1,(rRat data (rId data (.ok k)).2).1⟩],a6,c6,vs++[(⟨uu,(rRat data (rId data (.ok k)).2).1,sg2,ra,rl,rc,rb,rm,rd⟩:VE)],by omega,by go_num,by rw [List.length_append,HVL.out];rfl,HR.out,fun hg=>?_,?_,HK6.out,by simpa using HS6.out,fun hg u hu=>?_⟩
         ·
          rw [List.map_append,HMA.out ⟨k,rfl⟩,List.map_cons,List.map_nil,← HUU.out (good_rat hg)];rfl
         ·
          rw [List.flatMap_append,List.flatMap_cons,List.flatMap_nil,List.append_nil]
          exact HO7.out
         ·
          rcases List.mem_cons.1 hu with rfl | hu
          ·
           exact HE7.out hg _ (List.mem_cons_of_mem _ List.mem_cons_self)
          rcases List.mem_append.1 hu with hu | hu
          ·
           exact HE7.out hg u (List.mem_cons_of_mem _ (List.mem_cons_of_mem _ hu))
          ·
           rw [List.mem_singleton.1 hu]
           exact (HE7.out hg _ List.mem_cons_self).ren
        case measure=>simp [intOf];omega
    ·
     obtain rfl:j=M:=by omega
     rw [Nat.sub_self,show rEnts data 0 st acc=(acc,st) from rfl] at hR
     have HR:=Lib.hid hR
     clear hR
     go_wp2_with fail
     go_end0
     rw [HAB.out,HRE.out,HR.out]
     exact ⟨⟨x.verb,x.ses,x.rig,x.tk,x.ot,op,0,0,kd,(rRat data stk).1,sg,a8,n8,c8,b9,m9,d9,a5,j,c5,vs⟩,rfl,⟨rfl,rfl,rfl,rfl,rfl⟩,HO.out,HKZ.out,fun hg=>⟨by simp only [RefM.ask,HMA.out hg],HVL.out,.inr ((HEV.out hg _ List.mem_cons_self).mono fun k hk=>.inl hk),fun u hu=>(HEV.out hg u (List.mem_cons_of_mem _ hu)).mono fun k hk=>.inl hk⟩⟩
 have h1:¬ op=1:=fun e=>h12 (.inl e)
 have h2:¬ op=2:=fun e=>h12 (.inr e)
 by_cases h5:op=5
 ·
  subst h5
  have k5:=HN.out.cell 5 rfl
  have f5:=HN.out.free 5
  go_wp2_with fail
  clear k5 f5
  refine (qid HN.out HD.out H8.out hn).mono ?_
  rintro e w3 ⟨ur,rfl,hid,hq⟩
  have Hur:=Lib.hid hid
  replace HN:=Lib.hid hq
  clear hq hid
  have k6:=HN.out.cell 6 rfl
  have f6:=HN.out.free 6
  go_wp2_with fail
  replace HN:=Lib.hid (show QS w0 bs ns pb ba n c w mb [.int .i64 x.verb,.int .i64 x.ses,.int .i64 x.rig,.string x.tk,.string x.ot,.int .i64 5,.int .i64 ur,.int .i64 0,.int .i64 0,.bool false,.slice none 0 0,.slice none 0 0,.slice none 0 0] (rId data st1).2 none [] _ from (HN.out.set 6 rfl (fun _=>by simp) (.int .i64 ur)))
  clear k6 f6
  generalize (w3.setCell ⟨mb,6,none⟩ (.int .i64 ur))=w4 at HN ⊢
  refine (qid HN.out HD.out H8.out hn).mono ?_
  rintro e w5 ⟨uc,rfl,hid,hq⟩
  have Huc:=Lib.hid hid
  replace HN:=Lib.hid hq
  clear hq hid
  have k7:=HN.out.cell 7 rfl
  have f7:=HN.out.free 7
  go_wp2_with fail
  replace HN:=Lib.hid (show QS w0 bs ns pb ba n c w mb [.int .i64 x.verb,.int .i64 x.ses,.int .i64 x.rig,.string x.tk,.string x.ot,.int .i64 5,.int .i64 ur,.int .i64 uc,.int .i64 0,.bool false,.slice none 0 0,.slice none 0 0,.slice none 0 0] (rId data (rId data st1).2).2 none [] _ from (HN.out.set 7 rfl (fun _=>by simp) (.int .i64 uc)))
  clear k7 f7
  generalize (w5.setCell ⟨mb,7,none⟩ (.int .i64 uc))=w6 at HN ⊢
  refine (qfrac HN.out HD.out H8.out hn).mono ?_
  rintro e w7 ⟨sg,a8,n8,c8,b9,m9,d9,rfl,hq⟩
  replace HN:=Lib.hid hq
  clear hq
  have k9:=HN.out.cell 9 rfl
  have f9:=HN.out.free 9
  have k10:=HN.out.cell 10 rfl
  have f10:=HN.out.free 10
  have k11:=HN.out.cell 11 rfl
  have f11:=HN.out.free 11
  go_wp2_with fail
  replace HN:=Lib.hid (show QS w0 bs ns pb ba n c w mb [.int .i64 x.verb,.int .i64 x.ses,.int .i64 x.rig,.string x.tk,.string x.ot,.int .i64 5,.int .i64 ur,.int .i64 uc,.int .i64 0,.bool sg,.slice a8 n8 c8,.slice b9 m9 d9,.slice none 0 0] (rRat data (rId data (rId data st1).2).2).2 none (⟨0,(rRat data (rId data (rId data st1).2).2).1,sg,a8,n8,c8,b9,m9,d9⟩::[]) _ from (((HN.out.set 9 rfl (fun _=>by simp) (.bool sg)).set 10 rfl (fun _=>by simp) (.slice a8 n8 c8)).set 11 rfl (fun _=>by simp) (.slice b9 m9 d9)))
  clear k9 f9 k10 f10 k11 f11
  generalize (((w7.setCell ⟨mb,9,none⟩ (.bool sg)).setCell ⟨mb,10,none⟩ (.slice a8 n8 c8)).setCell ⟨mb,11,none⟩ (.slice b9 m9 d9))=w8 at HN ⊢
  go_end0
  have HAB:=Lib.hid (show rAskBody data 5 st1=(⟨5,(rId data st1).1,(rId data (rId data st1).2).1,0,(rRat data (rId data (rId data st1).2).2).1,[]⟩,(rRat data (rId data (rId data st1).2).2).2) from rfl)
  rw [HAB.out]
  refine ⟨⟨x.verb,x.ses,x.rig,x.tk,x.ot,5,ur,uc,0,(rRat data (rId data (rId data st1).2).2).1,sg,a8,n8,c8,b9,m9,d9,none,0,0,[]⟩,rfl,⟨rfl,rfl,rfl,rfl,rfl⟩,OB.start HN.out.tk.1,HN.out.tk.2,fun hg=>?_⟩
  exact ⟨by simp only [RefM.ask,Hur.out (good_id (good_rat hg)),Huc.out (good_rat hg),List.map_nil],rfl,.inr ((HN.out.ev hg _ List.mem_cons_self).mono fun k hk=>.inl hk),fun u hu=>by cases hu⟩
 by_cases h7:op=7
 ·
  subst h7
  have k5:=HN.out.cell 5 rfl
  have f5:=HN.out.free 5
  go_wp2_with fail
  clear k5 f5
  refine (qid HN.out HD.out H8.out hn).mono ?_
  rintro e w3 ⟨uc,rfl,hid,hq⟩
  have Huc:=Lib.hid hid
  replace HN:=Lib.hid hq
  clear hq hid
  have k7:=HN.out.cell 7 rfl
  have f7:=HN.out.free 7
  go_wp2_with fail
  replace HN:=Lib.hid (show QS w0 bs ns pb ba n c w mb [.int .i64 x.verb,.int .i64 x.ses,.int .i64 x.rig,.string x.tk,.string x.ot,.int .i64 7,.int .i64 0,.int .i64 uc,.int .i64 0,.bool false,.slice none 0 0,.slice none 0 0,.slice none 0 0] (rId data st1).2 none [] _ from (HN.out.set 7 rfl (fun _=>by simp) (.int .i64 uc)))
  clear k7 f7
  generalize (w3.setCell ⟨mb,7,none⟩ (.int .i64 uc))=w4 at HN ⊢
  refine (qfrac HN.out HD.out H8.out hn).mono ?_
  rintro e w5 ⟨sg,a8,n8,c8,b9,m9,d9,rfl,hq⟩
  replace HN:=Lib.hid hq
  clear hq
  have k9:=HN.out.cell 9 rfl
  have f9:=HN.out.free 9
  have k10:=HN.out.cell 10 rfl
  have f10:=HN.out.free 10
  have k11:=HN.out.cell 11 rfl
  have f11:=HN.out.free 11
  go_wp2_with fail
  replace HN:=Lib.hid (show QS w0 bs ns pb ba n c w mb [.int .i64 x.verb,.int .i64 x.ses,.int .i64 x.rig,.string x.tk,.string x.ot,.int .i64 7,.int .i64 0,.int .i64 uc,.int .i64 0,.bool sg,.slice a8 n8 c8,.slice b9 m9 d9,.slice none 0 0] (rRat data (rId data st1).2).2 none (⟨0,(rRat data (rId data st1).2).1,sg,a8,n8,c8,b9,m9,d9⟩::[]) _ from (((HN.out.set 9 rfl (fun _=>by simp) (.bool sg)).set 10 rfl (fun _=>by simp) (.slice a8 n8 c8)).set 11 rfl (fun _=>by simp) (.slice b9 m9 d9)))
  clear k9 f9 k10 f10 k11 f11
  generalize (((w5.setCell ⟨mb,9,none⟩ (.bool sg)).setCell ⟨mb,10,none⟩ (.slice a8 n8 c8)).setCell ⟨mb,11,none⟩ (.slice b9 m9 d9))=w6 at HN ⊢
  go_end0
  have HAB:=Lib.hid (show rAskBody data 7 st1=(⟨7,0,(rId data st1).1,0,(rRat data (rId data st1).2).1,[]⟩,(rRat data (rId data st1).2).2) from rfl)
  rw [HAB.out]
  refine ⟨⟨x.verb,x.ses,x.rig,x.tk,x.ot,7,0,uc,0,(rRat data (rId data st1).2).1,sg,a8,n8,c8,b9,m9,d9,none,0,0,[]⟩,rfl,⟨rfl,rfl,rfl,rfl,rfl⟩,OB.start HN.out.tk.1,HN.out.tk.2,fun hg=>?_⟩
  exact ⟨by simp only [RefM.ask,Huc.out (good_rat hg),List.map_nil],rfl,.inr ((HN.out.ev hg _ List.mem_cons_self).mono fun k hk=>.inl hk),fun u hu=>by cases hu⟩
 by_cases h6:op=6
 ·
  subst h6
  have k5:=HN.out.cell 5 rfl
  have f5:=HN.out.free 5
  go_wp2_with fail
  clear k5 f5
  refine (qid HN.out HD.out H8.out hn).mono ?_
  rintro e w3 ⟨ur,rfl,hid,hq⟩
  have Hur:=Lib.hid hid
  replace HN:=Lib.hid hq
  clear hq hid
  have k6:=HN.out.cell 6 rfl
  have f6:=HN.out.free 6
  go_wp2_with fail
  replace HN:=Lib.hid (show QS w0 bs ns pb ba n c w mb [.int .i64 x.verb,.int .i64 x.ses,.int .i64 x.rig,.string x.tk,.string x.ot,.int .i64 6,.int .i64 ur,.int .i64 0,.int .i64 0,.bool false,.slice none 0 0,.slice none 0 0,.slice none 0 0] (rId data st1).2 none [] _ from (HN.out.set 6 rfl (fun _=>by simp) (.int .i64 ur)))
  clear k6 f6
  generalize (w3.setCell ⟨mb,6,none⟩ (.int .i64 ur))=w4 at HN ⊢
  refine (qfrac HN.out HD.out H8.out hn).mono ?_
  rintro e w5 ⟨sg,a8,n8,c8,b9,m9,d9,rfl,hq⟩
  replace HN:=Lib.hid hq
  clear hq
  have k9:=HN.out.cell 9 rfl
  have f9:=HN.out.free 9
  have k10:=HN.out.cell 10 rfl
  have f10:=HN.out.free 10
  have k11:=HN.out.cell 11 rfl
  have f11:=HN.out.free 11
  go_wp2_with fail
  replace HN:=Lib.hid (show QS w0 bs ns pb ba n c w mb [.int .i64 x.verb,.int .i64 x.ses,.int .i64 x.rig,.string x.tk,.string x.ot,.int .i64 6,.int .i64 ur,.int .i64 0,.int .i64 0,.bool sg,.slice a8 n8 c8,.slice b9 m9 d9,.slice none 0 0] (rRat data (rId data st1).2).2 none (⟨0,(rRat data (rId data st1).2).1,sg,a8,n8,c8,b9,m9,d9⟩::[]) _ from (((HN.out.set 9 rfl (fun _=>by simp) (.bool sg)).set 10 rfl (fun _=>by simp) (.slice a8 n8 c8)).set 11 rfl (fun _=>by simp) (.slice b9 m9 d9)))
  clear k9 f9 k10 f10 k11 f11
  generalize (((w5.setCell ⟨mb,9,none⟩ (.bool sg)).setCell ⟨mb,10,none⟩ (.slice a8 n8 c8)).setCell ⟨mb,11,none⟩ (.slice b9 m9 d9))=w6 at HN ⊢
  go_end0
  have HAB:=Lib.hid (show rAskBody data 6 st1=(⟨6,(rId data st1).1,0,0,(rRat data (rId data st1).2).1,[]⟩,(rRat data (rId data st1).2).2) from rfl)
  rw [HAB.out]
  refine ⟨⟨x.verb,x.ses,x.rig,x.tk,x.ot,6,ur,0,0,(rRat data (rId data st1).2).1,sg,a8,n8,c8,b9,m9,d9,none,0,0,[]⟩,rfl,⟨rfl,rfl,rfl,rfl,rfl⟩,OB.start HN.out.tk.1,HN.out.tk.2,fun hg=>?_⟩
  exact ⟨by simp only [RefM.ask,Hur.out (good_rat hg),List.map_nil],rfl,.inr ((HN.out.ev hg _ List.mem_cons_self).mono fun k hk=>.inl hk),fun u hu=>by cases hu⟩
 by_cases h8:op=8
 ·
  subst h8
  have k5:=HN.out.cell 5 rfl
  have f5:=HN.out.free 5
  go_wp2_with fail
  clear k5 f5
  refine (qnum 0 3 HN.out HD.out H8.out hn).mono ?_
  rintro e w3 ⟨rfl,hq⟩
  replace HN:=Lib.hid hq
  clear hq
  have k8:=HN.out.cell 8 rfl
  have f8:=HN.out.free 8
  go_wp2_with fail
  replace HN:=Lib.hid (show QS w0 bs ns pb ba n c w mb [.int .i64 x.verb,.int .i64 x.ses,.int .i64 x.rig,.string x.tk,.string x.ot,.int .i64 8,.int .i64 0,.int .i64 0,.int .i64 (rPick data 0 3 st1).1,.bool false,.slice none 0 0,.slice none 0 0,.slice none 0 0] (rPick data 0 3 st1).2 none [] _ from (HN.out.set 8 rfl (fun _=>by simp) (.int .i64 (rPick data 0 3 st1).1)))
  clear k8 f8
  generalize (w3.setCell ⟨mb,8,none⟩ (.int .i64 (rPick data 0 3 st1).1))=w4 at HN ⊢
  refine (qid HN.out HD.out H8.out hn).mono ?_
  rintro e w5 ⟨ur,rfl,hid,hq⟩
  have Hur:=Lib.hid hid
  replace HN:=Lib.hid hq
  clear hq hid
  have k6:=HN.out.cell 6 rfl
  have f6:=HN.out.free 6
  go_wp2_with fail
  replace HN:=Lib.hid (show QS w0 bs ns pb ba n c w mb [.int .i64 x.verb,.int .i64 x.ses,.int .i64 x.rig,.string x.tk,.string x.ot,.int .i64 8,.int .i64 ur,.int .i64 0,.int .i64 (rPick data 0 3 st1).1,.bool false,.slice none 0 0,.slice none 0 0,.slice none 0 0] (rId data (rPick data 0 3 st1).2).2 none [] _ from (HN.out.set 6 rfl (fun _=>by simp) (.int .i64 ur)))
  clear k6 f6
  generalize (w5.setCell ⟨mb,6,none⟩ (.int .i64 ur))=w6 at HN ⊢
  go_end0
  have HAB:=Lib.hid (show rAskBody data 8 st1=(⟨8,(rId data (rPick data 0 3 st1).2).1,0,(rPick data 0 3 st1).1,0,[]⟩,(rId data (rPick data 0 3 st1).2).2) from rfl)
  rw [HAB.out]
  refine ⟨⟨x.verb,x.ses,x.rig,x.tk,x.ot,8,ur,0,(rPick data 0 3 st1).1,0,false,none,0,0,none,0,0,none,0,0,[]⟩,rfl,⟨rfl,rfl,rfl,rfl,rfl⟩,OB.start HN.out.tk.1,HN.out.tk.2,fun hg=>?_⟩
  exact ⟨by simp only [RefM.ask,Hur.out hg,List.map_nil],rfl,.inl ⟨rfl,rfl⟩,fun u hu=>by cases hu⟩
 by_cases h3:op=3
 ·
  subst h3
  have k5:=HN.out.cell 5 rfl
  have f5:=HN.out.free 5
  go_wp2_with fail
  clear k5 f5
  refine (qid HN.out HD.out H8.out hn).mono ?_
  rintro e w3 ⟨ur,rfl,hid,hq⟩
  have Hur:=Lib.hid hid
  replace HN:=Lib.hid hq
  clear hq hid
  have k6:=HN.out.cell 6 rfl
  have f6:=HN.out.free 6
  go_wp2_with fail
  replace HN:=Lib.hid (show QS w0 bs ns pb ba n c w mb [.int .i64 x.verb,.int .i64 x.ses,.int .i64 x.rig,.string x.tk,.string x.ot,.int .i64 3,.int .i64 ur,.int .i64 0,.int .i64 0,.bool false,.slice none 0 0,.slice none 0 0,.slice none 0 0] (rId data st1).2 none [] _ from (HN.out.set 6 rfl (fun _=>by simp) (.int .i64 ur)))
  clear k6 f6
  generalize (w3.setCell ⟨mb,6,none⟩ (.int .i64 ur))=w4 at HN ⊢
  go_end0
  have HAB:=Lib.hid (show rAskBody data 3 st1=(⟨3,(rId data st1).1,0,0,0,[]⟩,(rId data st1).2) from rfl)
  rw [HAB.out]
  refine ⟨⟨x.verb,x.ses,x.rig,x.tk,x.ot,3,ur,0,0,0,false,none,0,0,none,0,0,none,0,0,[]⟩,rfl,⟨rfl,rfl,rfl,rfl,rfl⟩,OB.start HN.out.tk.1,HN.out.tk.2,fun hg=>?_⟩
  exact ⟨by simp only [RefM.ask,Hur.out hg,List.map_nil],rfl,.inl ⟨rfl,rfl⟩,fun u hu=>by cases hu⟩
 by_cases h11:op=11
 ·
  subst h11
  have k5:=HN.out.cell 5 rfl
  have f5:=HN.out.free 5
  go_wp2_with fail
  clear k5 f5
  refine (qid HN.out HD.out H8.out hn).mono ?_
  rintro e w3 ⟨ur,rfl,hid,hq⟩
  have Hur:=Lib.hid hid
  replace HN:=Lib.hid hq
  clear hq hid
  have k6:=HN.out.cell 6 rfl
  have f6:=HN.out.free 6
  go_wp2_with fail
  replace HN:=Lib.hid (show QS w0 bs ns pb ba n c w mb [.int .i64 x.verb,.int .i64 x.ses,.int .i64 x.rig,.string x.tk,.string x.ot,.int .i64 11,.int .i64 ur,.int .i64 0,.int .i64 0,.bool false,.slice none 0 0,.slice none 0 0,.slice none 0 0] (rId data st1).2 none [] _ from (HN.out.set 6 rfl (fun _=>by simp) (.int .i64 ur)))
  clear k6 f6
  generalize (w3.setCell ⟨mb,6,none⟩ (.int .i64 ur))=w4 at HN ⊢
  go_end0
  have HAB:=Lib.hid (show rAskBody data 11 st1=(⟨11,(rId data st1).1,0,0,0,[]⟩,(rId data st1).2) from rfl)
  rw [HAB.out]
  refine ⟨⟨x.verb,x.ses,x.rig,x.tk,x.ot,11,ur,0,0,0,false,none,0,0,none,0,0,none,0,0,[]⟩,rfl,⟨rfl,rfl,rfl,rfl,rfl⟩,OB.start HN.out.tk.1,HN.out.tk.2,fun hg=>?_⟩
  exact ⟨by simp only [RefM.ask,Hur.out hg,List.map_nil],rfl,.inl ⟨rfl,rfl⟩,fun u hu=>by cases hu⟩
 by_cases h4:op=4
 ·
  subst h4
  have k5:=HN.out.cell 5 rfl
  have f5:=HN.out.free 5
  go_wp2_with fail
  clear k5 f5
  refine (qid HN.out HD.out H8.out hn).mono ?_
  rintro e w3 ⟨uc,rfl,hid,hq⟩
  have Huc:=Lib.hid hid
  replace HN:=Lib.hid hq
  clear hq hid
  have k7:=HN.out.cell 7 rfl
  have f7:=HN.out.free 7
  go_wp2_with fail
  replace HN:=Lib.hid (show QS w0 bs ns pb ba n c w mb [.int .i64 x.verb,.int .i64 x.ses,.int .i64 x.rig,.string x.tk,.string x.ot,.int .i64 4,.int .i64 0,.int .i64 uc,.int .i64 0,.bool false,.slice none 0 0,.slice none 0 0,.slice none 0 0] (rId data st1).2 none [] _ from (HN.out.set 7 rfl (fun _=>by simp) (.int .i64 uc)))
  clear k7 f7
  generalize (w3.setCell ⟨mb,7,none⟩ (.int .i64 uc))=w4 at HN ⊢
  go_end0
  have HAB:=Lib.hid (show rAskBody data 4 st1=(⟨4,0,(rId data st1).1,0,0,[]⟩,(rId data st1).2) from rfl)
  rw [HAB.out]
  refine ⟨⟨x.verb,x.ses,x.rig,x.tk,x.ot,4,0,uc,0,0,false,none,0,0,none,0,0,none,0,0,[]⟩,rfl,⟨rfl,rfl,rfl,rfl,rfl⟩,OB.start HN.out.tk.1,HN.out.tk.2,fun hg=>?_⟩
  exact ⟨by simp only [RefM.ask,Huc.out hg,List.map_nil],rfl,.inl ⟨rfl,rfl⟩,fun u hu=>by cases hu⟩
 by_cases h10:op=10
 ·
  subst h10
  have k5:=HN.out.cell 5 rfl
  have f5:=HN.out.free 5
  go_wp2_with fail
  clear k5 f5
  refine (qid HN.out HD.out H8.out hn).mono ?_
  rintro e w3 ⟨uc,rfl,hid,hq⟩
  have Huc:=Lib.hid hid
  replace HN:=Lib.hid hq
  clear hq hid
  have k7:=HN.out.cell 7 rfl
  have f7:=HN.out.free 7
  go_wp2_with fail
  replace HN:=Lib.hid (show QS w0 bs ns pb ba n c w mb [.int .i64 x.verb,.int .i64 x.ses,.int .i64 x.rig,.string x.tk,.string x.ot,.int .i64 10,.int .i64 0,.int .i64 uc,.int .i64 0,.bool false,.slice none 0 0,.slice none 0 0,.slice none 0 0] (rId data st1).2 none [] _ from (HN.out.set 7 rfl (fun _=>by simp) (.int .i64 uc)))
  clear k7 f7
  generalize (w3.setCell ⟨mb,7,none⟩ (.int .i64 uc))=w4 at HN ⊢
  go_end0
  have HAB:=Lib.hid (show rAskBody data 10 st1=(⟨10,0,(rId data st1).1,0,0,[]⟩,(rId data st1).2) from rfl)
  rw [HAB.out]
  refine ⟨⟨x.verb,x.ses,x.rig,x.tk,x.ot,10,0,uc,0,0,false,none,0,0,none,0,0,none,0,0,[]⟩,rfl,⟨rfl,rfl,rfl,rfl,rfl⟩,OB.start HN.out.tk.1,HN.out.tk.2,fun hg=>?_⟩
  exact ⟨by simp only [RefM.ask,Huc.out hg,List.map_nil],rfl,.inl ⟨rfl,rfl⟩,fun u hu=>by cases hu⟩
 have g1:(op==1)=false:=beq_eq_false_iff_ne.2 h1
 have g2:(op==2)=false:=beq_eq_false_iff_ne.2 h2
 have g5:(op==5)=false:=beq_eq_false_iff_ne.2 h5
 have g7:(op==7)=false:=beq_eq_false_iff_ne.2 h7
 have g6:(op==6)=false:=beq_eq_false_iff_ne.2 h6
 have g8:(op==8)=false:=beq_eq_false_iff_ne.2 h8
 have g3:(op==3)=false:=beq_eq_false_iff_ne.2 h3
 have g11:(op==11)=false:=beq_eq_false_iff_ne.2 h11
 have g4:(op==4)=false:=beq_eq_false_iff_ne.2 h4
 have g10:(op==10)=false:=beq_eq_false_iff_ne.2 h10
 have k5:=HN.out.cell 5 rfl
 have f5:=HN.out.free 5
 go_wp2_with fail
 clear k5 f5
 go_end0
 have HAB:=Lib.hid (show rAskBody data op st1=(⟨op,0,0,0,0,[]⟩,st1) from by unfold rAskBody;rw [if_neg h1,if_neg h2,if_neg h5,if_neg h7,if_neg h6,if_neg h8,if_neg (by omega),if_neg (by omega)])
 rw [HAB.out]
 refine ⟨⟨x.verb,x.ses,x.rig,x.tk,x.ot,op,0,0,0,0,false,none,0,0,none,0,0,none,0,0,[]⟩,rfl,⟨rfl,rfl,rfl,rfl,rfl⟩,OB.start HN.out.tk.1,HN.out.tk.2,fun hg=>?_⟩
 exact ⟨by simp only [RefM.ask,List.map_nil],rfl,.inl ⟨rfl,rfl⟩,fun u hu=>by cases hu⟩
end Go.Proofs.YtmhainidincjhaaGreatDoor
