/-
 What the laws stand on, part P: contracts and plain laws of WMem, WPick, WId, WRat, WEnts, WAsk; the conditions are each law's own.
-/
import Derived.Test.YtmhainidincjhaaGreatDoorBN
import Derived.Test.YtmhainidincjhaaGreatDoorBX
import Derived.Test.YtmhainidincjhaaGreatDoorBV
import Derived.Test.YtmhainidincjhaaGreatDoorBL
set_option linter.unusedVariables false
set_option linter.unusedSimpArgs false
set_option maxRecDepth 100000
set_option maxHeartbeats 16000000
namespace Go.Proofs.YtmhainidincjhaaGreatDoor
open Go.RowKit Go.Extern.Stop Go.Stop Go.Extern
abbrev wBox (pb:Nat) (a:Option Addr) (n c:Nat) (ev:Value):Bk:=⟨pb,140,[.slice a n c,ev]⟩
def IsAt (w:World) (b:Nat) (k:Nat) (u:Value):Prop:=w.cell? ⟨b,0,none⟩=some (.string ⟨#[98,121,116,101]⟩)∧w.cell? ⟨b,1,none⟩=some (.int .i64 k)∧w.cell? ⟨b,2,none⟩=some u
theorem IsAt.lt {w:World} {b k:Nat} {u:Value} (h:IsAt w b k u):b<w.heap.size:=World.block_lt_of_cell? _ _ h.1
theorem IsAt.keeps {w w':World} {S:Nat→Prop} {b k:Nat} {u:Value} (h:IsAt w b k u) (hk:Keeps w w' S) (hn:¬ S b):IsAt w' b k u:=by
 have hl:=h.lt
 obtain ⟨h0,h1,h2⟩:=h
 exact ⟨(hk.cell (a:=⟨b,0,none⟩) hl hn).trans h0,(hk.cell (a:=⟨b,1,none⟩) hl hn).trans h1,(hk.cell (a:=⟨b,2,none⟩) hl hn).trans h2⟩
theorem IsF.keeps' {w w':World} {S:Nat→Prop} {b:Nat} {s:ByteArray} {k n:Int} (h:IsF w b s k n) (hk:Keeps w w' S) (hn:¬ S b):IsF w' b s k n:=by
 have hl:=h.lt
 obtain ⟨h0,h1,h2⟩:=h
 exact ⟨(hk.cell (a:=⟨b,0,none⟩) hl hn).trans h0,(hk.cell (a:=⟨b,1,none⟩) hl hn).trans h1,(hk.cell (a:=⟨b,2,none⟩) hl hn).trans h2⟩
def Away (pb:Nat) (g:Option Nat) (b:Nat):Prop:=b≠pb∧g≠some b
def ErrB (w:World) (R:Nat→Prop) (ev:Value) (k:Int) (at9:Nat):Prop:=∃ eb u,ev=eF eb∧R eb∧IsAt w eb at9 u∧(u=eE k∨∃ fb s j,u=eF fb∧R fb∧IsF w fb s j k)
theorem ErrB.keeps {w w':World} {S R R':Nat→Prop} {ev:Value} {k:Int} {at9:Nat} (h:ErrB w R ev k at9) (hk:Keeps w w' S) (hn:∀ b,b<w.heap.size→R b→¬ S b) (hr:∀ b,b<w.heap.size→R b→R' b):ErrB w' R' ev k at9:=by
 obtain ⟨eb,u,he,hp,hb,hu⟩:=h
 refine ⟨eb,u,he,hr eb hb.lt hp,hb.keeps hk (hn eb hb.lt hp),?_⟩
 rcases hu with hu | ⟨fb,s,j,hu,hpf,hf⟩
 ·
  exact .inl hu
 ·
  exact .inr ⟨fb,s,j,hu,hr fb hf.lt hpf,hf.keeps' hk (hn fb hf.lt hpf)⟩
def WSt (w:World) (pb:Nat) (g:Option Nat) (ev:Value) (xs:List Nat) (st:WS):Prop:=match st with
 | .ok out=>ev=.nilIface∧xs=out
 | .error x=>ErrB w (Away pb g) ev x.1 x.2
def WB (w0:World) (bs:List Bk) (ns:List Nm) (pb:Nat) (st:WS) (L:Nat) (w:World):Prop:=∃ a n c xs ev,YB w0 (wBox pb a n c ev::bs) ns a n c xs w∧n≤L∧WSt w pb (Value.slice a n c).ownBlock ev xs st
def more (st:WS) (ys:List Nat):WS:=match st with
 | .ok out=>.ok (out++ys)
 | .error x=>.error x
def failed (st:WS) (k:Int) (n:Nat):WS:=match st with
 | .ok _=>.error (k,n)
 | .error x=>.error x
theorem wrap_gen (T:TypeId) (u:Value) (s:ByteArray) (k:Int) (w:World) :
  Calls Tryz.prog 79 #[.iface T u,.string s,.int .i64 k] w fun e w'=>e=.returned (eF w.heap.size)∧w'=w.alloc (.cells #[.string s,.int .i64 k,.iface T u] 215):=by
 unfold eF
 go_enter Tryz.func79,Tryz.ntmps79
 go_wp2
 go_ret
 exact ⟨rfl,rfl⟩
theorem fail_first {w0:World} {bs:List Bk} {ns:List Nm} (pb:Nat) (a:Option Addr) (n c:Nat) (xs:List Nat) (T:TypeId) (u:Value) (w:World) (h:YB w0 (wBox pb a n c .nilIface::bs) ns a n c xs w) (hn:n≤1099511627776) :
  Calls Tryz.prog 114 #[.pointer (some ⟨pb,0,none⟩),.iface T u] w fun e w'=>e=.returned (.tuple #[])∧YB w0 (wBox pb a n c (eF w.heap.size)::bs) ns a n c xs w'∧IsAt w' w.heap.size n (.iface T u)∧Keeps w w' (fun k=>k=pb):=by
 have k0:=h.st.cell 0 0 rfl rfl
 have k1:=h.st.cell 0 1 rfl rfl
 have f1:=h.st.free 0 1 rfl
 have lp:=h.st.lt 0 rfl
 have HY:=qH h
 clear h
 go_enter Tryz.func114,Tryz.ntmps114
 go_wp2_with fail
 refine (wrap_gen T u _ _ _).mono ?_
 rintro e w1 ⟨rfl,hw⟩
 unfold eF
 have hb1:=belowBox w (.cells #[.string ⟨#[98,121,116,101]⟩,.int .i64 n,.iface T u] 215)
 have hnew:=heap_alloc_new w (.cells #[.string ⟨#[98,121,116,101]⟩,.int .i64 n,.iface T u] 215)
 rw [← hw] at hb1 hnew
 have HY1:=qH (HY.out.call hb1)
 have HB1:=qH hb1
 have HNW:=qH hnew
 clear hb1 hnew hw k0 k1 f1
 have k1:=HY1.out.st.cell 0 1 rfl rfl
 have f1:=HY1.out.st.free 0 1 rfl
 go_wp2_with fail
 go_end0
 have hk:=Keeps.setCell w1 ⟨pb,1,none⟩ (eF w.heap.size) (S:=fun z=>z=pb) rfl
 refine ⟨rfl,HY1.out.set 0 1 rfl rfl (fun _=>by simp) (eF w.heap.size),?_,?_⟩
 ·
  have hne:¬ (w.heap.size=pb):=by omega
  exact (show IsAt w1 w.heap.size n (.iface T u) from ⟨cell_of_block HNW.out rfl,cell_of_block HNW.out rfl,cell_of_block HNW.out rfl⟩).keeps hk hne
 ·
  exact (Keeps.of_below HB1.out fun b hb hl=>by omega).trans hk fun _ _ h=>h
theorem fail_more {w0:World} {bs:List Bk} {ns:List Nm} (pb eb:Nat) (a:Option Addr) (n c:Nat) (xs:List Nat) (v:Value) (w:World) (h:YB w0 (wBox pb a n c (eF eb)::bs) ns a n c xs w) :
  Calls Tryz.prog 114 #[.pointer (some ⟨pb,0,none⟩),v] w fun e w'=>e=.returned (.tuple #[])∧w'=w:=by
 have k1:=h.st.cell 0 1 rfl rfl
 clear h
 unfold eF at k1
 go_enter Tryz.func114,Tryz.ntmps114
 go_wp2_with fail
 go_end0
 exact ⟨rfl,rfl⟩
theorem fail_any {w0:World} {bs:List Bk} {ns:List Nm} {pb:Nat} {a:Option Addr} {n c:Nat} {ev:Value} {xs:List Nat} {st:WS} (k:Int) (w:World) (h:YB w0 (wBox pb a n c ev::bs) ns a n c xs w) (hs:WSt w pb (Value.slice a n c).ownBlock ev xs st) (hn:n≤1099511627776) :
  Calls Tryz.prog 114 #[.pointer (some ⟨pb,0,none⟩),eE k] w fun e w'=>∃ ev',e=.returned (.tuple #[])∧YB w0 (wBox pb a n c ev'::bs) ns a n c xs w'∧WSt w' pb (Value.slice a n c).ownBlock ev' xs (failed st k n):=by
 cases st with
 | ok out =>
  obtain ⟨rfl,rfl⟩:=hs
  refine (fail_first pb a n c xs _ _ w h hn).mono fun e w' hh=>?_
  obtain ⟨he,hy,hb,_⟩:=hh
  have hpb:=h.st.lt 0 rfl
  refine ⟨_,he,hy,⟨w.heap.size,_,rfl,⟨?_,fun hg=>?_⟩,hb,.inl rfl⟩⟩
  ·
   have:pb<w.heap.size:=hpb
   omega
  ·
   have:=(h.mid.lt _ hg).2
   omega
 | error x =>
  have hs0:=hs
  obtain ⟨eb,u,rfl,hr⟩:=hs
  refine (fail_more pb eb a n c xs (eE k) w h).mono fun e w' hh=>?_
  obtain ⟨he,rfl⟩:=hh
  exact ⟨_,he,h,hs0⟩
theorem WSt.push {w w':World} {pb:Nat} {v v':Value} {ev:Value} {xs ys:List Nat} {st:WS} (h:WSt w pb v.ownBlock ev xs st) (hk:Keeps w w' (fun k=>k=pb∨v.ownBlock=some k)) (ho:∀ k,v'.ownBlock=some k→v.ownBlock=some k∨w.heap.size≤k):WSt w' pb v'.ownBlock ev (xs++ys) (more st ys):=by
 cases st with
 | ok out=>obtain ⟨h1,h2⟩:=h;exact ⟨h1,by rw [h2]⟩
 | error x =>
  refine ErrB.keeps h hk (fun b _ hr hs=>?_) (fun b hl hr=>⟨hr.1,fun hg=>?_⟩)
  ·
   rcases hs with hs | hs
   ·
    exact hr.1 hs
   ·
    exact hr.2 hs
  ·
   rcases ho b hg with h1 | h1
   ·
    exact hr.2 h1
   ·
    omega
theorem YB.stored {w0 w w':World} {bs:List Bk} {ns:List Nm} {pb:Nat} {a a':Option Addr} {n m c c':Nat} {ev:Value} {xs ys:List Nat} (h:YB w0 (wBox pb a n c ev::bs) ns a n c xs w) (hp:YB w0 (wBox pb a n c ev::bs) ns a' m c' ys w') (hg:Keeps w w' (fun k=>(Value.slice a n c).ownBlock=some k)) :
  YB w0 (wBox pb a' m c' ev::bs) ns a' m c' ys (w'.setCell ⟨pb,0,none⟩ (.slice a' m c'))∧Keeps w (w'.setCell ⟨pb,0,none⟩ (.slice a' m c')) (fun k=>k=pb∨(Value.slice a n c).ownBlock=some k) :=
 ⟨hp.set 0 0 rfl rfl (fun _=>by simp) _,(hg.mono fun _ _ h=>Or.inr h).trans (Keeps.setCell w' ⟨pb,0,none⟩ _ (S:=fun z=>z=pb) rfl) fun _ _ h=>Or.inl h⟩
def PushR (w0:World) (bs:List Bk) (ns:List Nm) (pb:Nat) (a:Option Addr) (n c:Nat) (ev:Value) (xs:List Nat) (w:World) (m:Nat) (ys:List Nat) (e:Ending) (w':World):Prop :=
 ∃ a' c',e=.returned (.tuple #[])∧YB w0 (wBox pb a' (n+m) c' ev::bs) ns a' (n+m) c' (xs++ys) w'∧Keeps w w' (fun k=>k=pb∨(Value.slice a n c).ownBlock=some k)∧∀ k,(Value.slice a' (n+m) c').ownBlock=some k→(Value.slice a n c).ownBlock=some k∨w.heap.size≤k
theorem PushR.wb {w0:World} {bs:List Bk} {ns:List Nm} {pb:Nat} {a:Option Addr} {n c m L:Nat} {ev:Value} {xs ys:List Nat} {st:WS} {w w':World} {e:Ending} (h:PushR w0 bs ns pb a n c ev xs w m ys e w') (hs:WSt w pb (Value.slice a n c).ownBlock ev xs st) (hn:n≤L):e=.returned (.tuple #[])∧WB w0 bs ns pb (more st ys) (L+m) w':=by
 obtain ⟨a',c',he,hy,hk,ho⟩:=h
 exact ⟨he,a',n+m,c',xs++ys,ev,hy,by omega,hs.push (v:=.slice a n c) (v':=.slice a' (n+m) c') hk ho⟩
theorem pick_ok {w0:World} {bs:List Bk} {ns:List Nm} {pb:Nat} {a:Option Addr} {n c:Nat} {ev:Value} {xs:List Nat} (m lo hi:Int) (y:Nat) (w:World) (h:YB w0 (wBox pb a n c ev::bs) ns a n c xs w) (hn:n≤1099511627776) (hlo:lo≤m) (hhi:m≤hi) (hy:m % 256=(y:Int)) :
  Calls Tryz.prog 56 #[.pointer (some ⟨pb,0,none⟩),.int .i64 m,.int .i64 lo,.int .i64 hi] w (PushR w0 bs ns pb a n c ev xs w 1 [y]):=by
 obtain ⟨i0,hi,hz0,hz1,hz2⟩:=info_parts Tryz.info_bytes
 have HY:=qH h
 clear h
 go_enter Tryz.func56,Tryz.ntmps56
 have HS3:=qH ((Sl.lit w 5 1 1 [BN y] (by unfold maxLen;omega) rfl).src (P:=Tryz.prog) Tryz.underlying32 (one_BN [y]))
 have HM3:=qH (HY.out.mid.alloc (.cells #[.int .u8 y] 5))
 have HW3:=qH (Nat.le_trans HY.out.st.bel.size (belowBox w (.cells #[.int .u8 y] 5)).size)
 have k0:=HY.out.st.cell 0 0 rfl rfl
 have lp:=HY.out.st.lt 0 rfl
 go_wp2_with (at_builtin;refine wpList_append_mid (v:=.slice a n c) rfl _ _ 32 32 rfl i0 (.int .u8 0) 1 Tryz.underlying32 hi hz0 hz1 hz2 rfl rfl HM3.out _ rfl 1 _ HS3.out (by unfold maxLen;omega) (by omega) HW3.out ?_;intro a5 c5 w5 hmo hgo hbo;have HP:=qH (HY.out.push (ys:=[y]) hmo hgo hbo);have HG:=qH (grown_keeps hgo);have HO:=qH hbo;clear hmo hgo hbo k0;have k5:=HP.out.st.cell 0 0 rfl rfl;have f5:=HP.out.st.free 0 0 rfl;go_wp2_with fail)
 go_end0
 obtain ⟨g1,g2⟩:=YB.stored HY.out HP.out HG.out
 refine ⟨a5,c5,rfl,g1,g2,fun z hz=>?_⟩
 rcases HO.out with ho | ho
 ·
  exact .inl (by rw [← ho];exact hz)
 ·
  rw [hz] at ho
  injection ho with ho
  right
  rw [ho]
  simp
theorem pick_bad {w0:World} {bs:List Bk} {ns:List Nm} {pb:Nat} {a:Option Addr} {n c:Nat} {ev:Value} {xs:List Nat} {st:WS} (m lo hi:Int) (y L:Nat) (w:World) (h:YB w0 (wBox pb a n c ev::bs) ns a n c xs w) (hs:WSt w pb (Value.slice a n c).ownBlock ev xs st) (hn:n≤1099511627776) (hL:n≤L) (hbad:m<lo∨(lo≤m∧hi<m)) (hy:m % 256=(y:Int)) :
  Calls Tryz.prog 56 #[.pointer (some ⟨pb,0,none⟩),.int .i64 m,.int .i64 lo,.int .i64 hi] w fun e w'=>e=.returned (.tuple #[])∧WB w0 bs ns pb (more (failed st 270 n) [y]) (L+1) w':=by
 obtain ⟨i0,hi,hz0,hz1,hz2⟩:=info_parts Tryz.info_bytes
 have HF:=qH (fail_any 270 w h hs hn)
 unfold eE at HF
 have HL:=qH hL
 clear h hs hL
 rcases hbad with hb1 | ⟨hb1,hb2⟩
 all_goals
  go_enter Tryz.func56,Tryz.ntmps56
  go_wp2_with fail
  refine (HF.out).mono ?_
  rintro e w1 ⟨ev,rfl,hy1,hs1⟩
  have HY:=qH hy1
  have HS:=qH hs1
  clear hy1 hs1 HF
  have HS3:=qH ((Sl.lit w1 5 1 1 [BN y] (by unfold maxLen;omega) rfl).src (P:=Tryz.prog) Tryz.underlying32 (one_BN [y]))
  have HM3:=qH (HY.out.mid.alloc (.cells #[.int .u8 y] 5))
  have HW3:=qH (Nat.le_trans HY.out.st.bel.size (belowBox w1 (.cells #[.int .u8 y] 5)).size)
  have k0:=HY.out.st.cell 0 0 rfl rfl
  have lp:=HY.out.st.lt 0 rfl
  go_wp2_with (at_builtin;refine wpList_append_mid (v:=.slice a n c) rfl _ _ 32 32 rfl i0 (.int .u8 0) 1 Tryz.underlying32 hi hz0 hz1 hz2 rfl rfl HM3.out _ rfl 1 _ HS3.out (by unfold maxLen;omega) (by omega) HW3.out ?_;intro a5 c5 w5 hmo hgo hbo;have HP:=qH (HY.out.push (ys:=[y]) hmo hgo hbo);have HG:=qH (grown_keeps hgo);have HO:=qH hbo;clear hmo hgo hbo k0;have k5:=HP.out.st.cell 0 0 rfl rfl;have f5:=HP.out.st.free 0 0 rfl;go_wp2_with fail)
  go_end0
  obtain ⟨g1,g2⟩:=YB.stored HY.out HP.out HG.out
  refine PushR.wb (⟨a5,c5,rfl,g1,g2,fun z hz=>?_⟩:PushR w0 bs ns pb a n c ev xs w1 1 [y] _ _) HS.out HL.out
  rcases HO.out with ho | ho
  ·
   exact .inl (by rw [← ho];exact hz)
  ·
   rw [hz] at ho
   injection ho with ho
   right
   rw [ho]
   simp
theorem pick_any {w0:World} {bs:List Bk} {ns:List Nm} {pb:Nat} {st:WS} {L:Nat} (m lo hi:Int) (w:World) (h:WB w0 bs ns pb st L w) (hL:L≤1099511627776) :
  Calls Tryz.prog 56 #[.pointer (some ⟨pb,0,none⟩),.int .i64 m,.int .i64 lo,.int .i64 hi] w fun e w'=>e=.returned (.tuple #[])∧WB w0 bs ns pb (lay1 st (.num m lo hi)) (L+1) w':=by
 obtain ⟨a,n,c,xs,ev,hy,hn,hs⟩:=h
 by_cases hc:m<lo∨hi<m
 ·
  refine (pick_bad m lo hi (m % 256).toNat L w hy hs (by omega) hn (by omega) (by omega)).mono fun e w' hh=>⟨hh.1,?_⟩
  have h2:=hh.2
  cases st with
  | error x=>exact h2
  | ok out =>
   have hx:xs.length=n:=hy.len
   obtain ⟨_,rfl⟩:=hs
   rw [show lay1 (.ok xs) (.num m lo hi)=.error (270,xs.length) by unfold lay1;rw [layP_num,if_pos hc],hx]
   exact h2
 ·
  refine (pick_ok m lo hi (m % 256).toNat w hy (by omega) (by omega) (by omega) (by omega)).mono fun e w' hh=>?_
  have h2:=hh.wb hs hn
  refine ⟨h2.1,?_⟩
  cases st with
  | error x=>exact h2.2
  | ok out=>rw [show lay1 (.ok out) (.num m lo hi)=.ok (out++[(m % 256).toNat]) by unfold lay1;rw [layP_num,if_neg hc]];exact h2.2
theorem wid_ok {w0:World} {bs:List Bk} {ns:List Nm} {pb:Nat} {a:Option Addr} {n c:Nat} {ev:Value} {xs:List Nat} (m:Int) (y0 y1 y2 y3:Nat) (w:World) (h:YB w0 (wBox pb a n c ev::bs) ns a n c xs w) (hn:n≤1099511627776) (hlo:0≤m) (hhi:m≤2147483647) (hx0:m / 16777216=(y0:Int)) (hy0:m / 16777216 % 256=(y0:Int)) (hy1:m / 65536 % 256=(y1:Int)) (hy2:m / 256 % 256=(y2:Int)) (hy3:m % 256=(y3:Int)) :
  Calls Tryz.prog 58 #[.pointer (some ⟨pb,0,none⟩),.int .i64 m] w (PushR w0 bs ns pb a n c ev xs w 4 [y0,y1,y2,y3]):=by
 obtain ⟨i0,hi,hz0,hz1,hz2⟩:=info_parts Tryz.info_bytes
 have HY:=qH h
 clear h
 go_enter Tryz.func58,Tryz.ntmps58
 have HS3:=qH ((Sl.lit w 5 1 4 [BN y0,BN y1,BN y2,BN y3] (by unfold maxLen;omega) rfl).src (P:=Tryz.prog) Tryz.underlying32 (one_BN [y0,y1,y2,y3]))
 have HM3:=qH (HY.out.mid.alloc (.cells #[.int .u8 y0,.int .u8 y1,.int .u8 y2,.int .u8 y3] 5))
 have HW3:=qH (Nat.le_trans HY.out.st.bel.size (belowBox w (.cells #[.int .u8 y0,.int .u8 y1,.int .u8 y2,.int .u8 y3] 5)).size)
 have k0:=HY.out.st.cell 0 0 rfl rfl
 have lp:=HY.out.st.lt 0 rfl
 go_wp2_with (at_builtin;refine wpList_append_mid (v:=.slice a n c) rfl _ _ 32 32 rfl i0 (.int .u8 0) 1 Tryz.underlying32 hi hz0 hz1 hz2 rfl rfl HM3.out _ rfl 4 _ HS3.out (by unfold maxLen;omega) (by omega) HW3.out ?_;intro a5 c5 w5 hmo hgo hbo;have HP:=qH (HY.out.push (ys:=[y0,y1,y2,y3]) hmo hgo hbo);have HG:=qH (grown_keeps hgo);have HO:=qH hbo;clear hmo hgo hbo k0;have k5:=HP.out.st.cell 0 0 rfl rfl;have f5:=HP.out.st.free 0 0 rfl;go_wp2_with fail)
 go_end0
 obtain ⟨g1,g2⟩:=YB.stored HY.out HP.out HG.out
 refine ⟨a5,c5,rfl,g1,g2,fun z hz=>?_⟩
 rcases HO.out with ho | ho
 ·
  exact .inl (by rw [← ho];exact hz)
 ·
  rw [hz] at ho
  injection ho with ho
  right
  rw [ho]
  simp
theorem wid_bad {w0:World} {bs:List Bk} {ns:List Nm} {pb:Nat} {a:Option Addr} {n c:Nat} {ev:Value} {xs:List Nat} {st:WS} (m:Int) (y0 y1 y2 y3 L:Nat) (w:World) (h:YB w0 (wBox pb a n c ev::bs) ns a n c xs w) (hs:WSt w pb (Value.slice a n c).ownBlock ev xs st) (hn:n≤1099511627776) (hL:n≤L) (hbad:m<0∨(0≤m∧2147483647<m)) (hy0:m / 16777216 % 256=(y0:Int)) (hy1:m / 65536 % 256=(y1:Int)) (hy2:m / 256 % 256=(y2:Int)) (hy3:m % 256=(y3:Int)) :
  Calls Tryz.prog 58 #[.pointer (some ⟨pb,0,none⟩),.int .i64 m] w fun e w'=>e=.returned (.tuple #[])∧WB w0 bs ns pb (more (failed st 270 n) [y0,y1,y2,y3]) (L+4) w':=by
 obtain ⟨i0,hi,hz0,hz1,hz2⟩:=info_parts Tryz.info_bytes
 have HF:=qH (fail_any 270 w h hs hn)
 unfold eE at HF
 have HL:=qH hL
 clear h hs hL
 rcases hbad with hb1 | ⟨hb1,hb2⟩
 all_goals
  go_enter Tryz.func58,Tryz.ntmps58
  go_wp2_with fail
  refine (HF.out).mono ?_
  rintro e w1 ⟨ev,rfl,hy1',hs1⟩
  have HY:=qH hy1'
  have HS:=qH hs1
  clear hy1' hs1 HF
  have HS3:=qH ((Sl.lit w1 5 1 4 [BN y0,BN y1,BN y2,BN y3] (by unfold maxLen;omega) rfl).src (P:=Tryz.prog) Tryz.underlying32 (one_BN [y0,y1,y2,y3]))
  have HM3:=qH (HY.out.mid.alloc (.cells #[.int .u8 y0,.int .u8 y1,.int .u8 y2,.int .u8 y3] 5))
  have HW3:=qH (Nat.le_trans HY.out.st.bel.size (belowBox w1 (.cells #[.int .u8 y0,.int .u8 y1,.int .u8 y2,.int .u8 y3] 5)).size)
  have k0:=HY.out.st.cell 0 0 rfl rfl
  have lp:=HY.out.st.lt 0 rfl
  go_wp2_with (at_builtin;refine wpList_append_mid (v:=.slice a n c) rfl _ _ 32 32 rfl i0 (.int .u8 0) 1 Tryz.underlying32 hi hz0 hz1 hz2 rfl rfl HM3.out _ rfl 4 _ HS3.out (by unfold maxLen;omega) (by omega) HW3.out ?_;intro a5 c5 w5 hmo hgo hbo;have HP:=qH (HY.out.push (ys:=[y0,y1,y2,y3]) hmo hgo hbo);have HG:=qH (grown_keeps hgo);have HO:=qH hbo;clear hmo hgo hbo k0;have k5:=HP.out.st.cell 0 0 rfl rfl;have f5:=HP.out.st.free 0 0 rfl;go_wp2_with fail)
  go_end0
  obtain ⟨g1,g2⟩:=YB.stored HY.out HP.out HG.out
  refine PushR.wb (⟨a5,c5,rfl,g1,g2,fun z hz=>?_⟩:PushR w0 bs ns pb a n c ev xs w1 4 [y0,y1,y2,y3] _ _) HS.out HL.out
  rcases HO.out with ho | ho
  ·
   exact .inl (by rw [← ho];exact hz)
  ·
   rw [hz] at ho
   injection ho with ho
   right
   rw [ho]
   simp
theorem wid_any {w0:World} {bs:List Bk} {ns:List Nm} {pb:Nat} {st:WS} {L:Nat} (m:Int) (w:World) (h:WB w0 bs ns pb st L w) (hL:L≤1099511627776) :
  Calls Tryz.prog 58 #[.pointer (some ⟨pb,0,none⟩),.int .i64 m] w fun e w'=>e=.returned (.tuple #[])∧WB w0 bs ns pb (lay1 st (.idn m)) (L+4) w':=by
 obtain ⟨a,n,c,xs,ev,hy,hn,hs⟩:=h
 have hbe:be4 m=[(m / 16777216 % 256).toNat,(m / 65536 % 256).toNat,(m / 256 % 256).toNat,(m % 256).toNat]:=rfl
 by_cases hc:m<0∨2147483647<m
 ·
  refine (wid_bad m (m / 16777216 % 256).toNat (m / 65536 % 256).toNat (m / 256 % 256).toNat (m % 256).toNat L w hy hs (by omega) hn (by omega) (by omega) (by omega) (by omega) (by omega)).mono fun e w' hh=>⟨hh.1,?_⟩
  have h2:=hh.2
  cases st with
  | error x=>exact h2
  | ok out =>
   have hx:xs.length=n:=hy.len
   obtain ⟨_,rfl⟩:=hs
   rw [show lay1 (.ok xs) (.idn m)=.error (270,xs.length) by unfold lay1;rw [layP_idn,if_pos hc],hx]
   exact h2
 ·
  refine (wid_ok m (m / 16777216 % 256).toNat (m / 65536 % 256).toNat (m / 256 % 256).toNat (m % 256).toNat w hy (by omega) (by omega) (by omega) (by omega) (by omega) (by omega) (by omega) (by omega)).mono fun e w' hh=>?_
  have h2:=hh.wb hs hn
  refine ⟨h2.1,?_⟩
  cases st with
  | error x=>exact h2.2
  | ok out=>rw [show lay1 (.ok out) (.idn m)=.ok (out++be4 m) by unfold lay1;rw [layP_idn,if_neg hc]];exact h2.2
theorem src_str (t:ByteArray) {w:World}:Src Tryz.prog 1 9 (.string t) t.size ((natB t).map BN) w:=by
 have h:=Src.ofString (P:=Tryz.prog) w Tryz.underlying9 t
 rw [show byteCells t=(natB t).map BN by unfold byteCells natB;rw [List.map_map];rfl] at h
 exact h
theorem wtok_ok {w0:World} {bs:List Bk} {ns:List Nm} {pb:Nat} {a:Option Addr} {n c:Nat} {ev:Value} {xs:List Nat} (t:ByteArray) (w:World) (h:YB w0 (wBox pb a n c ev::bs) ns a n c xs w) (hn:n≤1099511627776) (ht:t.size=8) :
  Calls Tryz.prog 57 #[.pointer (some ⟨pb,0,none⟩),.string t] w (PushR w0 bs ns pb a n c ev xs w t.size (natB t)):=by
 obtain ⟨i0,hi,hz0,hz1,hz2⟩:=info_parts Tryz.info_bytes
 have HY:=qH h
 have ht8:t.size≤1099511627776:=by omega
 have e8:(t.size != 8)=false:=bne_eq_false_iff_eq.2 ht
 have e9:(((t.size:Nat):Int) != 8)=false:=bne_eq_false_iff_eq.2 (by omega)
 clear h ht
 go_enter Tryz.func57,Tryz.ntmps57
 have HS3:=qH (src_str t (w:=w))
 have HM3:=qH (HY.out.mid)
 have HW3:=qH (HY.out.st.bel.size)
 have k0:=HY.out.st.cell 0 0 rfl rfl
 have lp:=HY.out.st.lt 0 rfl
 go_wp2_with (at_builtin;refine wpList_append_mid (v:=.slice a n c) rfl _ _ 32 9 rfl i0 (.int .u8 0) 1 Tryz.underlying32 hi hz0 hz1 hz2 rfl rfl HM3.out _ rfl t.size _ HS3.out (by unfold maxLen;omega) (by omega) HW3.out ?_;intro a5 c5 w5 hmo hgo hbo;have HP:=qH (HY.out.push0 (ys:=(natB t)) hmo hgo hbo);have HG:=qH (Keeps.of_grown hgo (S:=fun z=>(Value.slice a n c).ownBlock=some z) fun z hz=>hz);have HO:=qH hbo;clear hmo hgo hbo k0;have k5:=HP.out.st.cell 0 0 rfl rfl;have f5:=HP.out.st.free 0 0 rfl;go_wp2_with fail)
 go_end0
 obtain ⟨g1,g2⟩:=YB.stored HY.out HP.out HG.out
 refine ⟨a5,c5,rfl,g1,g2,fun z hz=>?_⟩
 rcases HO.out with ho | ho
 ·
  exact .inl (by rw [← ho];exact hz)
 ·
  rw [hz] at ho
  injection ho with ho
  right
  rw [ho]
  exact Nat.le_refl _
theorem wtok_bad {w0:World} {bs:List Bk} {ns:List Nm} {pb:Nat} {a:Option Addr} {n c:Nat} {ev:Value} {xs:List Nat} {st:WS} (t:ByteArray) (L:Nat) (w:World) (h:YB w0 (wBox pb a n c ev::bs) ns a n c xs w) (hs:WSt w pb (Value.slice a n c).ownBlock ev xs st) (hn:n≤1099511627776) (hL:n≤L) (ht:t.size≠8) (ht8:t.size≤1099511627776) :
  Calls Tryz.prog 57 #[.pointer (some ⟨pb,0,none⟩),.string t] w fun e w'=>e=.returned (.tuple #[])∧WB w0 bs ns pb (more (failed st 270 n) (natB t)) (L+t.size) w':=by
 have e8:(t.size != 8)=true:=bne_iff_ne.2 ht
 have e9:(((t.size:Nat):Int) != 8)=true:=bne_iff_ne.2 (by omega)
 clear ht
 obtain ⟨i0,hi,hz0,hz1,hz2⟩:=info_parts Tryz.info_bytes
 have HF:=qH (fail_any 270 w h hs hn)
 unfold eE at HF
 have HL:=qH hL
 clear h hs hL
 ·
  skip
  go_enter Tryz.func57,Tryz.ntmps57
  go_wp2_with fail
  refine (HF.out).mono ?_
  rintro e w1 ⟨ev,rfl,hy1',hs1⟩
  have HY:=qH hy1'
  have HS:=qH hs1
  clear hy1' hs1 HF
  have HS3:=qH (src_str t (w:=w1))
  have HM3:=qH (HY.out.mid)
  have HW3:=qH (HY.out.st.bel.size)
  have k0:=HY.out.st.cell 0 0 rfl rfl
  have lp:=HY.out.st.lt 0 rfl
  go_wp2_with (at_builtin;refine wpList_append_mid (v:=.slice a n c) rfl _ _ 32 9 rfl i0 (.int .u8 0) 1 Tryz.underlying32 hi hz0 hz1 hz2 rfl rfl HM3.out _ rfl t.size _ HS3.out (by unfold maxLen;omega) (by omega) HW3.out ?_;intro a5 c5 w5 hmo hgo hbo;have HP:=qH (HY.out.push0 (ys:=(natB t)) hmo hgo hbo);have HG:=qH (Keeps.of_grown hgo (S:=fun z=>(Value.slice a n c).ownBlock=some z) fun z hz=>hz);have HO:=qH hbo;clear hmo hgo hbo k0;have k5:=HP.out.st.cell 0 0 rfl rfl;have f5:=HP.out.st.free 0 0 rfl;go_wp2_with fail)
  go_end0
  obtain ⟨g1,g2⟩:=YB.stored HY.out HP.out HG.out
  refine PushR.wb (⟨a5,c5,rfl,g1,g2,fun z hz=>?_⟩:PushR w0 bs ns pb a n c ev xs w1 t.size (natB t) _ _) HS.out HL.out
  rcases HO.out with ho | ho
  ·
   exact .inl (by rw [← ho];exact hz)
  ·
   rw [hz] at ho
   injection ho with ho
   right
   rw [ho]
   exact Nat.le_refl _
theorem wtok_any {w0:World} {bs:List Bk} {ns:List Nm} {pb:Nat} {st:WS} {L:Nat} (t:ByteArray) (w:World) (h:WB w0 bs ns pb st L w) (hL:L≤1099511627776) (ht:t.size≤1099511627776) :
  Calls Tryz.prog 57 #[.pointer (some ⟨pb,0,none⟩),.string t] w fun e w'=>e=.returned (.tuple #[])∧WB w0 bs ns pb (lay1 st (.tok (natB t))) (L+t.size) w':=by
 obtain ⟨a,n,c,xs,ev,hy,hn,hs⟩:=h
 by_cases hc:t.size=8
 ·
  refine (wtok_ok t w hy (by omega) hc).mono fun e w' hh=>?_
  have h2:=hh.wb hs hn
  refine ⟨h2.1,?_⟩
  cases st with
  | error x=>exact h2.2
  | ok out=>rw [show lay1 (.ok out) (.tok (natB t))=.ok (out++natB t) by unfold lay1;rw [layP_tok,if_pos (by rw [natB_len];exact hc)]];exact h2.2
 ·
  refine (wtok_bad t L w hy hs (by omega) hn hc ht).mono fun e w' hh=>⟨hh.1,?_⟩
  have h2:=hh.2
  cases st with
  | error x=>exact h2
  | ok out =>
   have hx:xs.length=n:=hy.len
   obtain ⟨_,rfl⟩:=hs
   rw [show lay1 (.ok xs) (.tok (natB t))=.error (270,xs.length) by unfold lay1;rw [layP_tok,if_neg (by rw [natB_len];exact hc)],hx]
   exact h2
theorem fail_f {w0:World} {bs:List Bk} {ns:List Nm} {pb:Nat} {a:Option Addr} {n c:Nat} {ev:Value} {xs:List Nat} {st:WS} (fb:Nat) (s:ByteArray) (j k:Int) (w:World) (h:YB w0 (wBox pb a n c ev::bs) ns a n c xs w) (hs:WSt w pb (Value.slice a n c).ownBlock ev xs st) (hn:n≤1099511627776) (hf:IsF w fb s j k) (ha:Away pb (Value.slice a n c).ownBlock fb) :
  Calls Tryz.prog 114 #[.pointer (some ⟨pb,0,none⟩),eF fb] w fun e w'=>∃ ev',e=.returned (.tuple #[])∧YB w0 (wBox pb a n c ev'::bs) ns a n c xs w'∧WSt w' pb (Value.slice a n c).ownBlock ev' xs (failed st k n):=by
 cases st with
 | ok out =>
  obtain ⟨rfl,rfl⟩:=hs
  refine (fail_first pb a n c xs 211 (.pointer (some ⟨fb,0,none⟩)) w h hn).mono fun e w' hh=>?_
  obtain ⟨he,hy,hb,hk⟩:=hh
  have hpb:pb<w.heap.size:=h.st.lt 0 rfl
  refine ⟨_,he,hy,⟨w.heap.size,_,rfl,⟨by omega,fun hg=>?_⟩,hb,.inr ⟨fb,s,j,rfl,ha,hf.keeps' hk ha.1⟩⟩⟩
  have:=(h.mid.lt _ hg).2
  omega
 | error x =>
  have hs0:=hs
  obtain ⟨eb,u,rfl,hr⟩:=hs
  refine (fail_more pb eb a n c xs (eF fb) w h).mono fun e w' hh=>?_
  obtain ⟨he,rfl⟩:=hh
  exact ⟨_,he,h,hs0⟩
theorem PushR.drop {w0 w w2 w':World} {bs:List Bk} {bx:Bk} {ns:List Nm} {pb:Nat} {a:Option Addr} {n c m:Nat} {ev:Value} {xs ys:List Nat} {e:Ending} (h:PushR w0 (bs++[bx]) ns pb a n c ev xs w2 m ys e w') (hb:Below w.heap.size w w2):PushR w0 bs ns pb a n c ev xs w m ys e w':=by
 obtain ⟨a',c',he,hy,hk,ho⟩:=h
 refine ⟨a',c',he,hy.only (List.Sublist.cons_cons _ (List.sublist_append_left _ _)) (fun _ h=>h),(Keeps.of_below hb fun b h1 h2=>by omega).trans hk fun _ _ h=>h,fun k hk=>?_⟩
 rcases ho k hk with h1 | h1
 ·
  exact .inl h1
 ·
  exact .inr (Nat.le_trans hb.size h1)
theorem WB.drop {w0 w:World} {bs:List Bk} {bx:Bk} {ns:List Nm} {pb L:Nat} {st:WS} (h:WB w0 (bs++[bx]) ns pb st L w):WB w0 bs ns pb st L w:=by
 obtain ⟨a,n,c,xs,ev,hy,hn,hs⟩:=h
 exact ⟨a,n,c,xs,ev,hy.only (List.Sublist.cons_cons _ (List.sublist_append_left _ _)) (fun _ h=>h),hn,hs⟩
theorem wrat_ok {w0:World} {bs:List Bk} {ns:List Nm} {pb:Nat} {a:Option Addr} {n c:Nat} {ev:Value} {xs:List Nat} (qs:Bool) (ra rb:Option Addr) (la lb rc rd z:Nat) (l:List Nat) (w:World) (h:YB w0 (wBox pb a n c ev::bs) ns a n c xs w) (hn:n≤1099511627776) (hz:z≤1099511627776)
  (HEN:Hid (∀ W,Below w.heap.size w W→Calls Tryz.prog 28 #[.agg #[.bool qs,.slice ra la rc,.slice rb lb rd]] W fun e w'=>∃ a2 c2,e=.returned (.tuple #[.slice a2 z c2,.nilIface])∧Mid w' W.heap.size 5 1 (.slice a2 z c2) z (l.map BN)∧Below W.heap.size W w')) :
  Calls Tryz.prog 123 #[.pointer (some ⟨pb,0,none⟩),.agg #[.bool qs,.slice ra la rc,.slice rb lb rd]] w (PushR w0 bs ns pb a n c ev xs w z l):=by
 obtain ⟨i0,hi,hz0,hz1,hz2⟩:=info_parts Tryz.info_bytes
 have hbx:=belowBox w (.cells #[.bool qs,.slice ra la rc,.slice rb lb rd] 45)
 have hbk:=heap_alloc_new w (.cells #[.bool qs,.slice ra la rc,.slice rb lb rd] 45)
 have HY1:=qH (h.alloc (p:=w.heap.size) rfl 45 [.bool qs,.slice ra la rc,.slice rb lb rd] rfl)
 obtain ⟨w1,hw1⟩:∃ w1,w1=w.alloc (.cells #[.bool qs,.slice ra la rc,.slice rb lb rd] 45):=⟨_,rfl⟩
 rw [← hw1] at hbx hbk HY1
 have HW1:=qH hw1
 have HBX:=qH hbx
 have q0:=cell_of_block (j:=0) hbk rfl
 have q1:=cell_of_block (j:=1) hbk rfl
 have q2:=cell_of_block (j:=2) hbk rfl
 clear h hw1 hbx hbk
 go_enter Tryz.func123,Tryz.ntmps123
 go_upto_region 1 with fail
 rw [← HW1.out]
 go_wp2_with fail
 refine (HEN.out w1 HBX.out).mono ?_
 rintro e w2 ⟨a2,c2,rfl,hm,hb⟩
 have HY:=qH (HY1.out.call hb)
 have HB2:=qH (bthen HBX.out hb)
 have HM:=qH hm
 clear hm hb q0 q1 q2
 have HS3:=qH ((Sl.ofMid HM.out).src (P:=Tryz.prog) Tryz.underlying32 (one_BN l))
 have HM3:=qH (HY.out.mid)
 have HW3:=qH (HY.out.st.bel.size)
 have k0:=HY.out.st.cell 0 0 rfl rfl
 have lp:=HY.out.st.lt 0 rfl
 go_wp2_with (at_builtin;refine wpList_append_mid (v:=.slice a n c) rfl _ _ 32 32 rfl i0 (.int .u8 0) 1 Tryz.underlying32 hi hz0 hz1 hz2 rfl rfl HM3.out _ rfl z _ HS3.out (by unfold maxLen;omega) (by omega) HW3.out ?_;intro a5 c5 w5 hmo hgo hbo;have HP:=qH (HY.out.push0 (ys:=l) hmo hgo hbo);have HG:=qH (Keeps.of_grown hgo (S:=fun z=>(Value.slice a n c).ownBlock=some z) fun z hz=>hz);have HO:=qH hbo;clear hmo hgo hbo k0;have k5:=HP.out.st.cell 0 0 rfl rfl;have f5:=HP.out.st.free 0 0 rfl;go_wp2_with fail)
 go_end0
 obtain ⟨g1,g2⟩:=YB.stored HY.out HP.out HG.out
 refine PushR.drop (⟨a5,c5,rfl,g1,g2,fun k hz=>?_⟩:PushR w0 (bs++[⟨w.heap.size,45,[.bool qs,.slice ra la rc,.slice rb lb rd]⟩]) ns pb a n c ev xs w2 z l _ _) HB2.out
 rcases HO.out with ho | ho
 ·
  exact .inl (by rw [← ho];exact hz)
 ·
  rw [hz] at ho
  injection ho with ho
  right
  rw [ho]
  exact Nat.le_refl _
theorem wrat_bad {w0:World} {bs:List Bk} {ns:List Nm} {pb:Nat} {a:Option Addr} {n c:Nat} {ev:Value} {xs:List Nat} {st:WS} (qs:Bool) (ra rb:Option Addr) (la lb rc rd L:Nat) (s1:ByteArray) (j1 k1:Int) (w:World) (h:YB w0 (wBox pb a n c ev::bs) ns a n c xs w) (hs:WSt w pb (Value.slice a n c).ownBlock ev xs st) (hn:n≤1099511627776) (hL:n≤L)
  (HEN:Hid (∀ W,Below w.heap.size w W→Calls Tryz.prog 28 #[.agg #[.bool qs,.slice ra la rc,.slice rb lb rd]] W fun e w'=>∃ fb,e=.returned (.tuple #[.slice none 0 0,.iface 211 (.pointer (some ⟨fb,0,none⟩))])∧IsF w' fb s1 j1 k1∧W.heap.size≤fb∧Below W.heap.size W w')) :
  Calls Tryz.prog 123 #[.pointer (some ⟨pb,0,none⟩),.agg #[.bool qs,.slice ra la rc,.slice rb lb rd]] w fun e w'=>e=.returned (.tuple #[])∧WB w0 bs ns pb (more (failed st k1 n) []) (L+0) w':=by
 obtain ⟨i0,hi,hz0,hz1,hz2⟩:=info_parts Tryz.info_bytes
 have hbx:=belowBox w (.cells #[.bool qs,.slice ra la rc,.slice rb lb rd] 45)
 have hbk:=heap_alloc_new w (.cells #[.bool qs,.slice ra la rc,.slice rb lb rd] 45)
 have HY1:=qH (h.alloc (p:=w.heap.size) rfl 45 [.bool qs,.slice ra la rc,.slice rb lb rd] rfl)
 obtain ⟨w1,hw1⟩:∃ w1,w1=w.alloc (.cells #[.bool qs,.slice ra la rc,.slice rb lb rd] 45):=⟨_,rfl⟩
 rw [← hw1] at hbx hbk HY1
 have HW1:=qH hw1
 have HBX:=qH hbx
 have HS0:=qH hs
 have HL:=qH hL
 have q0:=cell_of_block (j:=0) hbk rfl
 have q1:=cell_of_block (j:=1) hbk rfl
 have q2:=cell_of_block (j:=2) hbk rfl
 have HP:=qH (show pb<w.heap.size∧∀ k,(Value.slice a n c).ownBlock=some k→k<w.heap.size from ⟨h.st.lt 0 rfl,fun k hk=>(h.mid.lt k hk).2⟩)
 clear h hw1 hbx hbk hs hL
 go_enter Tryz.func123,Tryz.ntmps123
 go_upto_region 1 with fail
 rw [← HW1.out]
 go_wp2_with fail
 refine (HEN.out w1 HBX.out).mono ?_
 rintro e w2 ⟨fb,rfl,hf,hfr,hb⟩
 have HYA:=qH (HY1.out.call hb)
 have HB2:=qH (bthen HBX.out hb)
 have HS2:=qH (show WSt w2 pb (Value.slice a n c).ownBlock ev xs st from by
  cases st with
  | ok out=>exact HS0.out
  | error x=>exact ErrB.keeps HS0.out (Keeps.of_below HB2.out (S:=fun k=>w.heap.size≤k) fun b h1 _=>h1) (fun b h1 _ h2=>by have h2:w.heap.size≤b:=h2;omega) (fun b _ h=>h))
 have HAW:=qH (show Away pb (Value.slice a n c).ownBlock fb from ⟨by have:=HP.out.1;have:=HBX.out.size;omega,fun hg=>by have:=HP.out.2 _ hg;have:=HBX.out.size;omega⟩)
 have HF:=qH (fail_f fb s1 j1 k1 w2 HYA.out HS2.out hn hf HAW.out)
 unfold eF at HF
 clear hf hfr hb q0 q1 q2
 go_wp2_with fail
 refine (HF.out).mono ?_
 rintro e w3 ⟨ev,rfl,hy1',hs1⟩
 have HY:=qH hy1'
 have HS:=qH hs1
 clear hy1' hs1 HF
 have HS3:=qH (Src.ofNil (size:=1) (P:=Tryz.prog) (w:=w3) Tryz.underlying32 0)
 have HM3:=qH (HY.out.mid)
 have HW3:=qH (HY.out.st.bel.size)
 have k0:=HY.out.st.cell 0 0 rfl rfl
 have lp:=HY.out.st.lt 0 rfl
 go_wp2_with (at_builtin;refine wpList_append_mid (v:=.slice a n c) rfl _ _ 32 32 rfl i0 (.int .u8 0) 1 Tryz.underlying32 hi hz0 hz1 hz2 rfl rfl HM3.out _ rfl 0 _ HS3.out (by unfold maxLen;omega) (by omega) HW3.out ?_;intro a5 c5 w5 hmo hgo hbo;have HP:=qH (HY.out.push0 (ys:=[]) hmo hgo hbo);have HG:=qH (Keeps.of_grown hgo (S:=fun z=>(Value.slice a n c).ownBlock=some z) fun z hz=>hz);have HO:=qH hbo;clear hmo hgo hbo k0;have k5:=HP.out.st.cell 0 0 rfl rfl;have f5:=HP.out.st.free 0 0 rfl;go_wp2_with fail)
 go_end0
 obtain ⟨g1,g2⟩:=YB.stored HY.out HP.out HG.out
 refine (fun h=>⟨h.1,h.2.drop⟩:_∧WB w0 (bs++[⟨w.heap.size,45,[.bool qs,.slice ra la rc,.slice rb lb rd]⟩]) ns pb _ _ _→_) (PushR.wb (⟨a5,c5,rfl,g1,g2,fun k hz=>?_⟩:PushR w0 (bs++[⟨w.heap.size,45,[.bool qs,.slice ra la rc,.slice rb lb rd]⟩]) ns pb a n c ev xs w3 0 [] _ _) HS.out HL.out)
 rcases HO.out with ho | ho
 ·
  exact .inl (by rw [← ho];exact hz)
 ·
  rw [hz] at ho
  injection ho with ho
  right
  rw [ho]
  exact Nat.le_refl _
theorem wrat_any {w0:World} {bs:List Bk} {ns:List Nm} {pb:Nat} {st:WS} {L:Nat} (q:Rat) (ra rb:Option Addr) (rc rd:Nat) (w:World) (h:WB w0 bs ns pb st L w) (hL:L≤1099511627776) (q1:NatW w ra rc q.num.natAbs) (q2:NatW w rb rd (denN q.den)) (hq1:lenW q.num.natAbs≤1099511627776) (hq2:lenW q.den≤1099511627776) :
  Calls Tryz.prog 123 #[.pointer (some ⟨pb,0,none⟩),ratV ra rc rb rd q] w fun e w'=>e=.returned (.tuple #[])∧WB w0 bs ns pb (lay1 st (.rat q)) (L+513) w':=by
 obtain ⟨a,n,c,xs,ev,hy,hn,hs⟩:=h
 have wb_le:∀ {st:WS} {L M:Nat} {w:World},WB w0 bs ns pb st L w→L≤M→WB w0 bs ns pb st M w:=fun h hl=>by
  obtain ⟨a,n,c,xs,ev,hy,hn,hs⟩:=h
  exact ⟨a,n,c,xs,ev,hy,by omega,hs⟩
 have hEN:=fun (W:World) (hb:Below w.heap.size w W)=>enc_any ra rb rc rd q W (q1.below hb) (q2.below hb) hq1 hq2
 cases he:encR q with
 | ok l =>
  rw [he] at hEN
  have hl:=(enc_small he).2.2
  refine (wrat_ok _ ra rb _ _ rc rd l.length l w hy (by omega) (by omega) (qH hEN)).mono fun e w' hh=>?_
  have h2:=hh.wb hs hn
  refine ⟨h2.1,?_⟩
  cases st with
  | error x=>exact wb_le h2.2 (by omega)
  | ok out=>rw [show lay1 (.ok out) (.rat q)=.ok (out++l) by unfold lay1;rw [layP_rat,he]];exact wb_le h2.2 (by omega)
 | error f =>
  obtain ⟨x,rfl⟩:=enc_err_at he
  rw [he] at hEN
  refine (wrat_bad _ ra rb _ _ rc rd L (strB x.1) x.2 3 w hy hs (by omega) hn (qH fun W hb=>(hEN W hb).mono fun e w' hh=>?_)).mono fun e w' hh=>⟨hh.1,?_⟩
  ·
   obtain ⟨v,h1,⟨fb,h2,h3⟩,h4,h5⟩:=hh
   subst h2
   exact ⟨fb,h1,h3,h5 fb rfl,h4⟩
  ·
   have h2:=hh.2
   cases st with
   | error y=>exact wb_le h2 (by omega)
   | ok out =>
    have hx:xs.length=n:=hy.len
    obtain ⟨_,rfl⟩:=hs
    rw [show lay1 (.ok xs) (.rat q)=.error (3,xs.length) by unfold lay1;rw [layP_rat,he],hx]
    exact wb_le h2 (by omega)
structure EntV where
 id:Int
 r:Rv
def EntV.cells (e:EntV):List Value:=[.int .i64 e.id,.bool e.r.s,.slice e.r.a e.r.l e.r.c,.slice e.r.b e.r.m e.r.d]
theorem entCells_len (e:EntV):e.cells.length=4:=rfl
def EntV.ent (e:EntV):Ent:=⟨e.id,e.r.q⟩
structure EntsW (w:World) (a:Option Addr) (n c:Nat) (es:List EntV):Prop where
 len:es.length=n
 sl:Sl w 4 (.slice a n c) n (es.flatMap EntV.cells)
 ok:∀ e,e∈es→e.r.ok w∧lenW e.r.q.num.natAbs≤1099511627776∧lenW e.r.q.den≤1099511627776
theorem EntsW.below {w w':World} {a:Option Addr} {n c:Nat} {es:List EntV} (h:EntsW w a n c es) (hb:Below w.heap.size w w'):EntsW w' a n c es :=
 ⟨h.len,Sl.below h.sl hb,fun e he=>⟨(h.ok e he).1.below hb,(h.ok e he).2⟩⟩
theorem EntsW.get {w:World} {a:Option Addr} {n c:Nat} {es:List EntV} (h:EntsW w a n c es) (k:Nat) (hk:k<n):∃ x b o,es[k]?=some x∧a=some ⟨b,o,none⟩∧b<w.heap.size∧n≤c∧w.cell? ⟨b,o+k*4,none⟩=some (.int .i64 x.id)∧w.cell? ⟨b,o+k*4+1,none⟩=some (.bool x.r.s)∧w.cell? ⟨b,o+k*4+2,none⟩=some (.slice x.r.a x.r.l x.r.c)∧w.cell? ⟨b,o+k*4+3,none⟩=some (.slice x.r.b x.r.m x.r.d)∧x.r.ok w∧lenW x.r.q.num.natAbs≤1099511627776∧lenW x.r.q.den≤1099511627776:=by
 have hkl:k<es.length:=by rw [h.len];exact hk
 have hlen:=h.len
 obtain ⟨b,o,c',e,h1,h2,h3,h4⟩:=h.sl.plain (by omega)
 cases e
 have hc:=fun j u hj=>h4 _ u (flat_at EntV.cells 4 entCells_len es k hkl j u hj)
 have c0:=hc 0 _ rfl
 have c1:=hc 1 _ rfl
 have c2:=hc 2 _ rfl
 have c3:=hc 3 _ rfl
 simp only [← Nat.add_assoc,Nat.add_zero] at c0 c1 c2 c3
 have hm:=h.ok es[k] (List.getElem_mem hkl)
 exact ⟨es[k],b,o,List.getElem?_eq_getElem hkl,rfl,h3,h1,c0,c1,c2,c3,hm.1,hm.2.1,hm.2.2⟩
theorem WB.bel {w0 w:World} {bs:List Bk} {ns:List Nm} {pb L:Nat} {st:WS} (h:WB w0 bs ns pb st L w):Below w0.heap.size w0 w:=by
 obtain ⟨a,n,c,xs,ev,hy,_,_⟩:=h
 exact hy.st.bel
theorem WB.alloc {w0 w:World} {bs:List Bk} {ns:List Nm} {pb L:Nat} {st:WS} (h:WB w0 bs ns pb st L w) (T:TypeId) (cs:List Value):WB w0 (bs++[⟨w.heap.size,T,cs⟩]) ns pb st L (w.alloc (.cells cs.toArray T)):=by
 obtain ⟨a,n,c,xs,ev,hy,hn,hs⟩:=h
 refine ⟨a,n,c,xs,ev,hy.alloc (p:=w.heap.size) rfl T cs rfl,hn,?_⟩
 cases st with
 | ok out=>exact hs
 | error x=>exact ErrB.keeps hs (Keeps.alloc w _ (fun _=>False)) (fun _ _ _ h=>h) (fun _ _ h=>h)
theorem WB.last {w0 w:World} {bs:List Bk} {b:Bk} {ns:List Nm} {pb L:Nat} {st:WS} (h:WB w0 (bs++[b]) ns pb st L w):w.heap[b.p]?=some (.cells b.cs.toArray b.T (0,0)):=by
 obtain ⟨a,n,c,xs,ev,hy,_,_⟩:=h
 exact (hy.st.box b (by simp)).1
theorem WB.le {w0 w:World} {bs:List Bk} {ns:List Nm} {pb L M:Nat} {st:WS} (h:WB w0 bs ns pb st L w) (hl:L≤M):WB w0 bs ns pb st M w:=by
 obtain ⟨a,n,c,xs,ev,hy,hn,hs⟩:=h
 exact ⟨a,n,c,xs,ev,hy,by omega,hs⟩
theorem wask_7 {w0:World} {bs:List Bk} {ns:List Nm} {pb:Nat} {st:WS} {L:Nat} (row col kind:Int) (r:Rv) (ea:Option Addr) (en ec:Nat) (es:List EntV) (w:World) (h:WB w0 bs ns pb st L w) (hr:r.ok w0) (hq1:lenW r.q.num.natAbs≤1099511627776) (hq2:lenW r.q.den≤1099511627776) (hE:EntsW w0 ea en ec es) (hL:L+2000+517*en≤1099511627776) :
  Calls Tryz.prog 59 #[.pointer (some ⟨pb,0,none⟩),.agg #[.int .i64 7,.int .i64 row,.int .i64 col,.int .i64 kind,.bool r.s,.slice r.a r.l r.c,.slice r.b r.m r.d,.slice ea en ec]] w fun e w'=>e=.returned (.tuple #[])∧WB w0 bs ns pb (lays st (.num 7 1 12::.idn col::.rat r.q::[])) (L+600+517*en) w':=by
 have HW:=qH (h.alloc 48 [.int .i64 7,.int .i64 row,.int .i64 col,.int .i64 kind,.bool r.s,.slice r.a r.l r.c,.slice r.b r.m r.d,.slice ea en ec])
 have HR:=qH hr
 have HE:=qH hE
 clear h hr hE
 obtain ⟨w1,hw1⟩:∃ w1,w1=w.alloc (.cells #[.int .i64 7,.int .i64 row,.int .i64 col,.int .i64 kind,.bool r.s,.slice r.a r.l r.c,.slice r.b r.m r.d,.slice ea en ec] 48):=⟨_,rfl⟩
 have HW1:=qH (show WB w0 (bs++[⟨w.heap.size,48,[.int .i64 7,.int .i64 row,.int .i64 col,.int .i64 kind,.bool r.s,.slice r.a r.l r.c,.slice r.b r.m r.d,.slice ea en ec]⟩]) ns pb st L w1 from hw1▸HW.out)
 clear HW
 have HW:=HW1
 clear HW1
 have HWE:=qH hw1
 clear hw1
 have ⟨m0,m1,m2,m3,m4,m5,m6,m7⟩:=cz8 HW.out.last
 go_enter Tryz.func59,Tryz.ntmps59
 go_upto_region 1 with fail
 rw [← HWE.out]
 have HC:=qH (pick_any (7:Int) 1 12 w1 HW.out (by omega))
 go_wp2_with fail
 refine HC.out.mono ?_
 rintro e w2 ⟨rfl,h2⟩
 clear HC HW
 have HW:=qH h2
 clear h2 m0 m1 m2 m3 m4 m5 m6 m7
 have ⟨m0,m1,m2,m3,m4,m5,m6,m7⟩:=cz8 HW.out.last
 have HC:=qH (wid_any col w2 HW.out (by omega))
 go_wp2_with fail
 refine HC.out.mono ?_
 rintro e w3 ⟨rfl,h2⟩
 clear HC HW
 have HW:=qH h2
 clear h2 m0 m1 m2 m3 m4 m5 m6 m7
 have ⟨m0,m1,m2,m3,m4,m5,m6,m7⟩:=cz8 HW.out.last
 have HC:=qH (wrat_any r.q r.a r.b r.c r.d w3 HW.out (by omega) (HR.out.num.below HW.out.bel) (HR.out.den.below HW.out.bel) hq1 hq2)
 rw [← HR.out.val] at HC
 unfold Rv.val at HC
 go_wp2_with fail
 refine HC.out.mono ?_
 rintro e w4 ⟨rfl,h2⟩
 clear HC HW
 have HW:=qH h2
 clear h2 m0 m1 m2 m3 m4 m5 m6 m7
 go_wp2_with fail
 go_end0
 exact ⟨rfl,HW.out.drop.le (by omega)⟩
end Go.Proofs.YtmhainidincjhaaGreatDoor
