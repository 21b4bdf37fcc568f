/-
 What the laws stand on, part Ra: contracts and plain laws of NRef, FTrim, FSmall, FHalf, FDigit, FAdd, FSub, FDiv, FShl; the conditions are each law's own.
-/
import Derived.Test.YtmhainidincjhaaGreatDoorAV
import Derived.Deep.QuietTactic
import Derived.BigQuiet
set_option linter.unusedVariables false
set_option linter.unusedSimpArgs false
set_option maxRecDepth 100000
set_option maxHeartbeats 16000000
namespace Go.Proofs.YtmhainidincjhaaGreatDoor
open Go.RowKit
abbrev IN (x:Nat):Value:=.int .i64 x
theorem one_IN (l:List Nat):∀ u∈l.map IN,u.oneCell'=true:=fun u hu=>by
 obtain ⟨_,_,rfl⟩:=List.mem_map.1 hu;rfl
def dgs (k y:Nat):List Nat:=(List.range k).map fun i=>y / 65536^i % 65536
theorem dgs_len (k y:Nat):(dgs k y).length=k:=by unfold dgs;simp
theorem dgs_at {k y i:Nat} (h:i<k):(dgs k y)[i]?=some (y / 65536^i % 65536):=by
 unfold dgs;rw [List.getElem?_map,List.getElem?_range h];rfl
theorem dgs_snoc (k y:Nat):dgs (k+1) y=dgs k y++[y / 65536^k % 65536]:=by
 unfold dgs;rw [List.range_succ,List.map_append];rfl
def nd (y:Nat):Nat:=ndig 65536 y
theorem lt_nd (y:Nat):y<65536^nd y:=lt_ndig (by omega) y
theorem nd_zero:nd 0=0:=ndig_zero _
theorem nd_le {y k:Nat} (h:y<65536^k):nd y≤k:=ndig_lt (by omega) h
theorem nd_of {y k : Nat} (h : y < 65536 ^ k) (h0 : k = 0 ∨ y / 65536 ^ (k - 1) % 65536 ≠ 0) : nd y = k := by
  rcases h0 with rfl | h0
  · have : y = 0 := by simpa using h
    rw [this, nd_zero]
  · cases k with
    | zero => have : y = 0 := by simpa using h
              rw [this, nd_zero]
    | succ k =>
      refine ndig_of (by omega) ?_ h
      rw [Nat.add_sub_cancel] at h0
      rcases Nat.lt_or_ge y (65536 ^ k) with h1 | h1
      · rw [Nat.div_eq_of_lt h1] at h0; exact absurd rfl h0
      · exact h1
theorem dg_lt (y i:Nat):y / 65536^i % 65536<65536:=Nat.mod_lt _ (by omega)
theorem lt_less {y k:Nat} (h:y<65536^(k+1)) (h0:y / 65536^k % 65536=0):y<65536^k:=by
 have h1:y / 65536^k<65536:=Nat.div_lt_of_lt_mul (by rw [Nat.pow_succ] at h;exact h)
 rw [Nat.mod_eq_of_lt h1] at h0
 exact (Nat.div_eq_zero_iff_lt (Nat.pow_pos (by omega))).1 h0
def DW (w:World) (a:Option Addr) (n c y:Nat):Prop:=Sl w 1 (.slice a n c) n ((dgs n y).map IN)
def RD (w:World) (a:Option Addr) (n c y:Nat):Prop:=n=nd y∧DW w a n c y
theorem DW.below {w w':World} {a:Option Addr} {n c y:Nat} (h:DW w a n c y) (hb:Below w.heap.size w w'):DW w' a n c y:=Sl.below h hb
theorem RD.below {w w':World} {a:Option Addr} {n c y:Nat} (h:RD w a n c y) (hb:Below w.heap.size w w'):RD w' a n c y:=⟨h.1,h.2.below hb⟩
theorem DW.len {w:World} {a:Option Addr} {n c y:Nat} (h:DW w a n c y):n≤c∧c≤9223372036854775807:=by
 obtain ⟨a',c',e,h1,h2,h3⟩:=Sl.len h
 cases e
 exact ⟨h1,by unfold maxLen at h2;omega⟩
theorem DW.get {w:World} {a:Option Addr} {n c y:Nat} (h:DW w a n c y) (k:Nat) (hk:k<n) :
  ∃ b o,a=some ⟨b,o,none⟩∧b<w.heap.size∧w.cell? ⟨b,o+k,none⟩=some (.int .i64 ((y / 65536^k % 65536:Nat):Int)):=by
 obtain ⟨b,o,c',e,_,_,hlt,hc⟩:=Sl.plain h (by omega)
 cases e
 exact ⟨b,o,rfl,hlt,hc k _ (by rw [List.getElem?_map,dgs_at hk];rfl)⟩
theorem DW.pre {w:World} {a:Option Addr} {n c y:Nat} (h:DW w a n c y) (k:Nat) (hk:k≤n):DW w a k c y:=by
 refine ⟨by rw [List.length_map,dgs_len];omega,?_⟩
 have hl:=h.len
 obtain ⟨a',c',e,h1,h2,h3⟩:=Sl.len h
 cases e
 rcases Nat.eq_zero_or_pos k with rfl | hp
 ·
  exact .inl ⟨_,_,rfl,rfl,h2,h3⟩
 ·
  obtain ⟨b,o,c',e,_,_,hlt,hc⟩:=Sl.plain h (by omega)
  cases e
  refine .inr ⟨b,o,c,rfl,by omega,h2,hlt,fun j u hj=>?_⟩
  rw [List.getElem?_map] at hj
  by_cases hjk:j<k
  ·
   rw [dgs_at hjk] at hj
   exact hc j u (by rw [List.getElem?_map,dgs_at (by omega)];exact hj)
  ·
   rw [List.getElem?_eq_none (by rw [dgs_len];omega)] at hj;cases hj
structure DO (w:World) (a:Option Addr) (n c y:Nat) (W:World):Prop where
 mid:Mid W w.heap.size 3 1 (.slice a n c) n ((dgs n y).map IN)
 bel:Below w.heap.size w W
theorem DO.nil (w:World) (y:Nat):DO w none 0 0 y w:=⟨Mid.nil w w.heap.size 3 1,Below.refl _ _⟩
theorem DO.dw {w W:World} {a:Option Addr} {n c y:Nat} (h:DO w a n c y W):DW W a n c y:=Sl.ofMid h.mid
theorem DO.len {w W:World} {a:Option Addr} {n c y:Nat} (h:DO w a n c y W):n≤c∧c≤9223372036854775807:=h.dw.len
theorem DO.call {w W W':World} {a:Option Addr} {n c y:Nat} (h:DO w a n c y W) (hb:Below W.heap.size W W'):DO w a n c y W' :=
 ⟨h.mid.below hb fun k hk=>(h.mid.lt k hk).2,bthen h.bel hb⟩
theorem DO.to {w W:World} {a:Option Addr} {n c y:Nat} (h:DO w a n c y W) (z:Nat) (hz:dgs n y=dgs n z):DO w a n c z W:=⟨hz▸h.mid,h.bel⟩
theorem DO.push {w W W5:World} {a a5:Option Addr} {n c c5 y:Nat} {ds:List Nat} {ob:Obj} (h:DO w a n c y W) (hd:dgs (n+ds.length) y=dgs n y++ds)
  (hm:Mid W5 w.heap.size 3 1 (.slice a5 (n+ds.length) c5) (n+ds.length) ((dgs n y).map IN++ds.map IN)) (hg:(W.alloc ob).grownBy W5 (Value.slice a n c).ownBlock):DO w a5 (n+ds.length) c5 y W5:=by
 refine ⟨by rw [hd,List.map_append];exact hm,Below.trans h.bel ?_⟩
 have h1:Below w.heap.size (W.alloc ob) W5:=(Keeps.of_grown hg (S:=fun b=>w.heap.size≤b) fun b hb=>(h.mid.lt b hb).1).below (Nat.le_trans h.bel.size (by simp)) fun b hb=>hb
 exact Below.trans ((belowBox W ob).mono h.bel.size) h1
theorem DO.base {w w6 W:World} {a:Option Addr} {n c y:Nat} (h:DO w6 a n c y W) (hb:Below w.heap.size w w6):DO w a n c y W:=⟨h.mid.mono hb.size,bthen hb h.bel⟩
def OwnS (w:World) (a:Option Addr) (n c:Nat):Prop:=∀ k,(Value.slice a n c).ownBlock=some k→w.heap.size≤k
theorem DO.own {w W:World} {a:Option Addr} {n c y:Nat} (h:DO w a n c y W):OwnS w a n c:=fun k hk=>(h.mid.lt k hk).1
theorem OwnS.nil (w:World):OwnS w none 0 0:=fun k hk=>by cases hk
theorem OwnS.base {w w6:World} {a:Option Addr} {n c:Nat} (h:OwnS w6 a n c) (hb:w.heap.size≤w6.heap.size):OwnS w a n c:=fun k hk=>Nat.le_trans hb (h k hk)
def RetD (y:Nat) (w:World) (e:Ending) (w':World):Prop:=∃ a n c,e=.returned (.slice a n c)∧RD w' a n c y∧Below w.heap.size w w'
def RetDO (y:Nat) (w:World) (e:Ending) (w':World):Prop:=∃ a n c,e=.returned (.slice a n c)∧n=nd y∧DO w a n c y w'
end Go.Proofs.YtmhainidincjhaaGreatDoor
namespace Go.Proofs.YtmhainidincjhaaGreatDoor
open Go.RowKit Go.Extern.Stop Go.Stop Go.Extern
theorem Tryz.underlyingIS:Tryz.prog.underlying 55=some (.slice 3):=by kernel_rfl
theorem Tryz.infoInt:(Tryz.prog.info? 3).map (fun i=>(i.zero,i.size,i.bytes))=some (some (.int .i64 0),1,8):=by kernel_rfl
theorem f2trim_own (a:Option Addr) (n c y:Nat) (w:World) (h:DW w a n c y) (hy:y<65536^n) (hn:n≤1099511627776):Calls Tryz.prog 137 #[.slice a n c] w (RetDO y w):=by
 obtain ⟨i0,hi,hz0,hz1,hz2'⟩:=info_parts Tryz.infoInt
 have HD:=Lib.hid h
 have hc:=h.len
 clear h
 go_enter Tryz.func137,Tryz.ntmps137
 go_wp2_with fail
 go_loopw [3] (fun v3 wr=>∃ k:Nat,k≤n∧v3=.int .i64 k∧wr=w∧y<65536^k) (fun v3 _=>(intOf v3).toNat)
 case atStart=>exact ⟨n,Nat.le_refl _,rfl,rfl,hy⟩
 case round =>
  obtain ⟨k,hk,rfl,rfl,hyk⟩:=hrel
  cases k with
  | zero =>
   have hnd:=nd_of hyk (.inl rfl)
   have HS:=Lib.hid ((HD.out.pre 0 (by omega)).src (P:=Tryz.prog) Tryz.underlyingIS (one_IN _))
   go_wp2_with (at_builtin;refine wpList_append_mid (v:=.slice none 0 0) rfl _ _ 55 55 rfl i0 (.int .i64 0) 8 Tryz.underlyingIS hi hz0 hz1 hz2' rfl rfl (Mid.nil _ _ 3 1) _ rfl 0 _ HS.out (by unfold maxLen;omega) (by omega) (Nat.le_refl _) ?_;intro a5 c5 w5 hmo hgo hbo;have HP:=Lib.hid hmo;have HG:=Lib.hid hgo;clear hmo hgo hbo;go_wp2_with fail)
   go_ret
   rw [Nat.zero_add,List.nil_append] at HP
   exact ⟨a5,_,c5,rfl,hnd.symm,HP.out,(Keeps.of_grown HG.out (S:=fun _=>False) (fun b hb=>by cases hb)).below (Nat.le_refl _) (fun b hb=>hb.elim)⟩
  | succ k =>
   obtain ⟨b,o,ha,hb,hcell⟩:=HD.out.get k (by omega)
   have HA:=Lib.hid ha
   subst ha
   have e1:((k+1:Nat):Int) - 1=(k:Int):=by omega
   by_cases hz:y / 65536^k % 65536=0
   ·
    rw [hz] at hcell
    go_wp2_with fail
    go_roundw
    case rel=>exact ⟨k,by omega,by go_num,trivial,lt_less hyk hz⟩
    case measure=>simp [intOf]
   ·
    have hnd:=nd_of hyk (.inr hz)
    have hz2:((y / 65536^k % 65536:Nat):Int)≠0:=by omega
    generalize ((y / 65536^k % 65536:Nat):Int)=q at hcell hz2
    have HS:=Lib.hid ((HD.out.pre (k+1) (by omega)).src (P:=Tryz.prog) Tryz.underlyingIS (one_IN _))
    go_wp2_with (at_builtin;refine wpList_append_mid (v:=.slice none 0 0) rfl _ _ 55 55 rfl i0 (.int .i64 0) 8 Tryz.underlyingIS hi hz0 hz1 hz2' rfl rfl (Mid.nil _ _ 3 1) _ rfl (k+1) _ HS.out (by unfold maxLen;omega) (by omega) (Nat.le_refl _) ?_;intro a5 c5 w5 hmo hgo hbo;have HP:=Lib.hid hmo;have HG:=Lib.hid hgo;clear hmo hgo hbo;go_wp2_with fail)
    go_ret
    rw [Nat.zero_add,List.nil_append] at HP
    exact ⟨a5,_,c5,rfl,hnd.symm,HP.out,(Keeps.of_grown HG.out (S:=fun _=>False) (fun b hb=>by cases hb)).below (Nat.le_refl _) (fun b hb=>hb.elim)⟩
theorem f2trim_any (a:Option Addr) (n c y:Nat) (w:World) (h:DW w a n c y) (hy:y<65536^n) (hn:n≤1099511627776):Calls Tryz.prog 137 #[.slice a n c] w (RetD y w) :=
 (f2trim_own a n c y w h hy hn).mono fun _ _ ⟨a',n',c',e,h1,h2⟩=>⟨a',n',c',e,⟨h1,h2.dw⟩,h2.bel⟩
def carS (x m add k:Nat):Nat:=(x % 65536^k*m+add) / 65536^k
theorem carS_zero (x m add:Nat):carS x m add 0=add:=by unfold carS;simp [Nat.mod_one]
theorem carS_lt {x m add k:Nat} (hm:m≤65536) (ha:add<65536):carS x m add k<65536:=by
 unfold carS
 have hp:0<65536^k:=Nat.pow_pos (by omega)
 have h1:x % 65536^k<65536^k:=Nat.mod_lt _ hp
 refine Nat.div_lt_of_lt_mul ?_
 have h2:x % 65536^k*m≤(65536^k - 1)*65536:=Nat.mul_le_mul (by omega) hm
 have h3:(65536^k - 1)*65536=65536^k*65536 - 65536:=by rw [Nat.sub_mul,Nat.one_mul]
 omega
theorem carS_step (x m add k:Nat):x / 65536^k % 65536*m+carS x m add k=(x % 65536^(k+1)*m+add) / 65536^k:=by
 unfold carS
 have hp:0<65536^k:=Nat.pow_pos (by omega)
 rw [Nat.pow_succ,Nat.mod_mul,Nat.add_mul,Nat.mul_assoc,Nat.add_right_comm,Nat.add_mul_div_left _ _ hp,Nat.add_comm]
theorem carS_next (x m add k:Nat):(x / 65536^k % 65536*m+carS x m add k) / 65536=carS x m add (k+1):=by
 rw [carS_step,Nat.div_div_eq_div_mul,← Nat.pow_succ];rfl
theorem carS_dig (x m add k:Nat):(x / 65536^k % 65536*m+carS x m add k) % 65536=(x*m+add) / 65536^k % 65536:=by
 rw [carS_step]
 have hp:0<65536^(k+1):=Nat.pow_pos (by omega)
 have h1:x*m+add=(x % 65536^(k+1)*m+add)+65536^k*(65536*(x / 65536^(k+1)*m)):=by
  have:=Nat.mod_add_div x (65536^(k+1))
  have h2:65536^k*(65536*(x / 65536^(k+1)*m))=65536^(k+1)*(x / 65536^(k+1))*m:=by rw [Nat.pow_succ];simp only [Nat.mul_assoc]
  rw [h2,Nat.add_right_comm,← Nat.add_mul,this]
 rw [h1,Nat.add_mul_div_left _ _ (Nat.pow_pos (by omega)),Nat.add_mul_mod_self_left]
theorem small_own (a:Option Addr) (n c x m add:Nat) (w:World) (h:RD w a n c x) (hm:m≤65536) (hadd:add<65536) (hn:n≤549755813888):Calls Tryz.prog 159 #[.slice a n c,.int .i64 m,.int .i64 add] w (RetDO (x*m+add) w):=by
 obtain ⟨i0,hi,hz0,hz1,hz2⟩:=info_parts Tryz.infoInt
 obtain ⟨y,hy⟩:∃ y,x*m+add=y:=⟨_,rfl⟩
 have HD:=Lib.hid h
 have HC:=Lib.hid (fun k=>carS_lt (x:=x) (k:=k) hm hadd)
 have HST:=Lib.hid (carS_next x m add)
 have HDG:=Lib.hid (carS_dig x m add)
 have HEND:=Lib.hid (show y=x % 65536^n*m+add by rw [← hy,Nat.mod_eq_of_lt (by rw [h.1];exact lt_nd x)])
 have h0:=carS_zero x m add
 have HCN:=Lib.hid (show carS x m add n=y / 65536^n by rw [HEND.out];rfl)
 rw [hy] at HDG ⊢
 clear h hadd hy HEND
 generalize carS x m add=car at *
 go_enter Tryz.func159,Tryz.ntmps159
 go_wp2_with fail
 go_loopw [7,8,9] (fun v7 v8 v9 wr=>∃ (k:Nat) (a5:Option Addr) (c5:Nat),k≤n∧v7=.slice a5 k c5∧v8=.int .i64 (car k)∧v9=.int .i64 k∧DO w a5 k c5 y wr) (fun _ _ v9 _=>n - (intOf v9).toNat)
 case atStart=>exact ⟨0,none,0,Nat.zero_le _,rfl,by rw [h0],rfl,DO.nil w y⟩
 case round =>
  obtain ⟨k,a5,c5,hk,rfl,rfl,rfl,ho⟩:=hrel
  have HO:=Lib.hid ho
  have hcl:=ho.len
  by_cases hlt:k<n
  ·
   obtain ⟨b,o,ha,hb,hcell⟩:=(HD.out.2.below ho.bel).get k hlt
   have hp:=dg_lt x k
   have hst:=HST.out k
   have hdg:=HDG.out k
   have hck:=HC.out k
   generalize x / 65536^k % 65536=p at hcell hp hst hdg
   have hpm:p*m≤65535*65536:=Nat.mul_le_mul (by omega) hm
   obtain ⟨q,hq⟩:∃ q,p*m+car k=q:=⟨_,rfl⟩
   rw [hq] at hst hdg
   have hqb:q≤4294967295:=by omega
   have e0:(p:Int)*(m:Int)=((p*m:Nat):Int):=by push_cast;rfl
   generalize p*m=pm at hpm hq e0
   have e1:(pm:Int)+(car k:Int)=(q:Int):=by omega
   have e2:(q:Int).tmod 65536=((q % 65536:Nat):Int):=by rw [Int.tmod_eq_emod_of_nonneg (by omega)];omega
   have e3:(q:Int).tdiv 65536=((q / 65536:Nat):Int):=by rw [Int.tdiv_eq_ediv_of_nonneg (by omega)];omega
   have hd:dgs (k+[q % 65536].length) y=dgs k y++[q % 65536]:=by rw [hdg];exact dgs_snoc k y
   rw [hst] at e3
   subst ha
   clear ho hst hdg
   have HM3:=Lib.hid (HO.out.mid.alloc (.cells #[.int .i64 ((q % 65536:Nat):Int)] 3))
   have HS3:=Lib.hid ((Sl.lit wr 3 1 1 ([q % 65536].map IN) (by unfold maxLen;omega) rfl).src (P:=Tryz.prog) Tryz.underlyingIS (one_IN [q % 65536]))
   have HW3:=Lib.hid (Nat.le_trans HO.out.bel.size (belowBox wr (.cells #[.int .i64 ((q % 65536:Nat):Int)] 3)).size)
   go_wp2_with (at_builtin;refine wpList_append_mid (v:=.slice a5 k c5) rfl _ _ 55 55 rfl i0 (.int .i64 0) 8 Tryz.underlyingIS hi hz0 hz1 hz2 rfl rfl HM3.out _ rfl 1 _ HS3.out (by unfold maxLen;omega) (by omega) HW3.out ?_;intro a6 c6 w6 hmo hgo hbo;have HP:=Lib.hid (show DO _ a6 (k+1) c6 y w6 from HO.out.push (ds:=[q % 65536]) hd hmo hgo);clear hmo hgo hbo HM3 HS3 HW3;go_wp2_with fail)
   go_roundw
   case rel =>
    have hck1:=HC.out (k+1)
    exact ⟨k+1,a6,c6,by omega,rfl,by rw [IntWalk.wrap64_in _ (by omega)],by go_num,HP.out⟩
   case measure=>simp [intOf];omega
  ·
   obtain rfl:k=n:=by omega
   have hck:=HC.out k
   have hcn:=HCN.out
   have hyl:y<65536^(k+2):=by
    have h1:y / 65536^k<65536:=by omega
    have h2:y<65536*65536^k:=(Nat.div_lt_iff_lt_mul (Nat.pow_pos (by omega))).1 h1
    have h3:65536^k*65536≤65536^(k+2):=by rw [← Nat.pow_succ];exact Nat.pow_le_pow_right (by omega) (by omega)
    omega
   have hd:dgs (k+[car k % 65536,car k / 65536].length) y=dgs k y++[car k % 65536,car k / 65536]:=by
    show dgs (k+1+1) y=_
    have h1:y / 65536^(k+1)=car k / 65536:=by rw [Nat.pow_succ,← Nat.div_div_eq_div_mul,hcn]
    rw [dgs_snoc,dgs_snoc,List.append_assoc,h1,← hcn,Nat.mod_eq_of_lt (show car k / 65536<65536 by omega)];rfl
   generalize car k=q at hck hd
   have e2:(q:Int).tmod 65536=((q % 65536:Nat):Int):=by rw [Int.tmod_eq_emod_of_nonneg (by omega)];omega
   have e3:(q:Int).tdiv 65536=((q / 65536:Nat):Int):=by rw [Int.tdiv_eq_ediv_of_nonneg (by omega)];omega
   clear ho hcn
   have HM3:=Lib.hid (HO.out.mid.alloc (.cells #[.int .i64 ((q % 65536:Nat):Int),.int .i64 ((q / 65536:Nat):Int)] 3))
   have HS3:=Lib.hid ((Sl.lit wr 3 1 2 ([q % 65536,q / 65536].map IN) (by unfold maxLen;omega) rfl).src (P:=Tryz.prog) Tryz.underlyingIS (one_IN [q % 65536,q / 65536]))
   have HW3:=Lib.hid (Nat.le_trans HO.out.bel.size (belowBox wr (.cells #[.int .i64 ((q % 65536:Nat):Int),.int .i64 ((q / 65536:Nat):Int)] 3)).size)
   go_wp2_with (at_builtin;refine wpList_append_mid (v:=.slice a5 k c5) rfl _ _ 55 55 rfl i0 (.int .i64 0) 8 Tryz.underlyingIS hi hz0 hz1 hz2 rfl rfl HM3.out _ rfl 2 _ HS3.out (by unfold maxLen;omega) (by omega) HW3.out ?_;intro a6 c6 w6 hmo hgo hbo;have HP:=Lib.hid (show DO _ a6 (k+2) c6 y w6 from HO.out.push (ds:=[q % 65536,q / 65536]) hd hmo hgo);clear hmo hgo hbo HM3 HS3 HW3;go_wp2_with fail)
   refine (f2trim_own a6 (k+2) c6 y _ HP.out.dw hyl (by omega)).mono ?_
   rintro e w7 ⟨a7,n7,c7,rfl,hr,hb⟩
   have HR:=Lib.hid hr
   have HB:=Lib.hid hb
   clear hr hb
   go_wp2_with fail
   go_ret
   exact ⟨a7,n7,c7,rfl,HR.out,HB.out.base HP.out.bel⟩
theorem small_any (a:Option Addr) (n c x m add:Nat) (w:World) (h:RD w a n c x) (hm:m≤65536) (hadd:add<65536) (hn:n≤549755813888):Calls Tryz.prog 159 #[.slice a n c,.int .i64 m,.int .i64 add] w (RetD (x*m+add) w) :=
 (small_own a n c x m add w h hm hadd hn).mono fun _ _ ⟨a',n',c',e,h1,h2⟩=>⟨a',n',c',e,⟨h1,h2.dw⟩,h2.bel⟩
end Go.Proofs.YtmhainidincjhaaGreatDoor
namespace Go.Proofs.YtmhainidincjhaaGreatDoor
open Go.RowKit
structure JS (W0:World) (g:Nat) (xs:List Nat) (W:World):Prop where
 blk:W.heap[g]?=some (.cells (xs.map IN).toArray 3 (0,0))
 bel:Below W0.heap.size W0 W
 new:W0.heap.size≤g
section
variable {W0 W W' : World} {g : Nat} {xs : List Nat}
theorem JS.made (W0:World) (xs:List Nat):JS W0 W0.heap.size xs (W0.alloc (.cells (xs.map IN).toArray 3)):=⟨heap_alloc_new _ _,belowBox _ _,Nat.le_refl _⟩
theorem JS.lt (h:JS W0 g xs W):g<W.heap.size:=(Array.getElem?_eq_some_iff.1 h.blk).1
theorem JS.below (h:JS W0 g xs W) (hb:Below W.heap.size W W'):JS W0 g xs W':=⟨(hb.block g h.lt).trans h.blk,bthen h.bel hb,h.new⟩
theorem JS.drewN (h:JS W0 g xs W) (k:Nat):JS W0 g xs (W.drewN k):=⟨h.blk,belowDrawn h.bel _,h.new⟩
theorem JS.cell (h:JS W0 g xs W) {j:Nat} (hj:j<xs.length):W.cell? ⟨g,j,none⟩=some (IN xs[j]):=by
 simp only [World.cell?,h.blk,Option.isSome_none,Bool.false_eq_true,if_false]
 simp [List.getElem?_eq_getElem hj]
theorem JS.free (h:JS W0 g xs W) (j:Nat):W.frozen? ⟨g,j,none⟩=false:=by simp [World.frozen?,h.blk]
theorem JS.set (h:JS W0 g xs W) (j x:Nat):JS W0 g (xs.set j x) (W.setCell ⟨g,j,none⟩ (IN x)) :=
 ⟨by rw [heap_setCell_same W g j _ _ _ h.blk];simp [List.map_set],h.bel.setCell h.new _,h.new⟩
theorem JS.sl (h:JS W0 g xs W) (hm:xs.length≤maxLen):Sl W 1 (.slice (some ⟨g,0,none⟩) xs.length xs.length) xs.length (xs.map IN):=by
 refine ⟨by simp,.inr ⟨g,0,xs.length,rfl,Nat.le_refl _,hm,h.lt,fun j u hj=>?_⟩⟩
 rw [List.getElem?_map] at hj
 obtain ⟨x,hx,rfl⟩:=Option.map_eq_some_iff.1 hj
 obtain ⟨hl,rfl⟩:=List.getElem?_eq_some_iff.1 hx
 rw [Nat.zero_add]
 exact h.cell hl
theorem JS.old (h:JS W0 g xs W) {b o:Nat} {v:Value} (hc:W0.cell? ⟨b,o,none⟩=some v):W.cell? ⟨b,o,none⟩=some v :=
 (h.bel.cell (p:=⟨b,o,none⟩) (World.block_lt_of_cell? _ _ hc)).trans hc
theorem JS.oldFree (h:JS W0 g xs W) {b o:Nat} (hb:b<W0.heap.size) (hc:W0.frozen? ⟨b,o,none⟩=false):W.frozen? ⟨b,o,none⟩=false :=
 (h.bel.frozen (p:=⟨b,o,none⟩) hb).trans hc
theorem JS.nat (h:JS W0 g xs W) {a:Option Addr} {c n:Nat} (hn:NatW W0 a c n):NatW W a c n:=hn.below h.bel
end
theorem JS.cell0 {W0 W:World} {g M:Nat} {f:Nat→Nat} (h:JS W0 g (fnL M f) W) {t:Nat} (ht:t<M):W.cell? ⟨g,t,none⟩=some (IN (f t)):=by
 rw [h.cell (show t<(fnL M f).length by rw [fnL_len];exact ht),fnL_get]
theorem madeI (m:Nat):madeCells (Value.cells (.int .i64 0)) m=((List.replicate m 0).map IN).toArray:=by
 apply Array.ext'
 apply List.ext_getElem
 ·
  simp [size_madeCells]
 ·
  intro i h1 h2
  simp [madeCells,Value.cells,Nat.mod_one]
def zeroI (n:Nat):Array Value:=((List.replicate n 0).map IN).toArray
theorem make_ints (k:Int) (K:Nat) (hk:k=K) (hb:K≤1099511627776) (W:World):(Instr.makeSlice 55 (.int .i64 k) (.int .i64 k)).run Tryz.prog W=.ok (.slice (some ⟨W.heap.size,0,none⟩) K K) (W.alloc (.cells (zeroI K) 3)):=by
 subst hk
 obtain ⟨ti,hi,hz0,hz1,hz2⟩:=info_parts Tryz.infoInt
 have:=run_make (P:=Tryz.prog) W 55 3 ti _ Tryz.underlyingIS hi hz0 .i64 .i64 (K:Int) (K:Int) (by omega) (by omega) (by rw [hz2];omega) (by omega)
 rw [Int.toNat_natCast,hz1,Nat.mul_one,madeI] at this
 exact this
theorem replicate_fnL (M:Nat):List.replicate M 0=fnL M fun _=>0:=by
 apply List.ext_getElem
 ·
  rw [List.length_replicate,fnL_len]
 ·
  intro i h1 h2;rw [fnL_get];simp
theorem half_step (t m:Nat) (hm:0<m):(t / 65536 % m*65536+t % 65536) / m=t / m % 65536∧(t / 65536 % m*65536+t % 65536) % m=t % m:=by
 obtain ⟨u,hu⟩:∃ u,t / 65536=u:=⟨_,rfl⟩
 have h1:t=65536*u+t % 65536:=by omega
 have h2:m*(u / m)+u % m=u:=Nat.div_add_mod u m
 have h3:u % m<m:=Nat.mod_lt _ hm
 have hr:t % 65536<65536:=Nat.mod_lt _ (by omega)
 rw [hu]
 generalize t % 65536=r at h1 hr
 generalize hv:u / m=v at h2
 generalize u % m=z at h2 h3 ⊢
 have h4:t=z*65536+r+m*(65536*v):=by
  rw [h1,← h2,Nat.mul_add,Nat.mul_left_comm];omega
 rw [h4,Nat.add_mul_div_left _ _ hm,Nat.add_mul_mod_self_left,Nat.add_mul_mod_self_left]
 refine ⟨(Nat.mod_eq_of_lt ?_).symm,rfl⟩
 refine Nat.div_lt_of_lt_mul ?_
 have h6:(z+1)*65536≤m*65536:=Nat.mul_le_mul_right _ h3
 omega
theorem half_dig (x m j:Nat) (hm:0<m):(x / 65536^(j+1) % m*65536+x / 65536^j % 65536) / m=x / m / 65536^j % 65536∧(x / 65536^(j+1) % m*65536+x / 65536^j % 65536) % m=x / 65536^j % m:=by
 have h:=half_step (x / 65536^j) m hm
 rw [Nat.div_div_eq_div_mul,← Nat.pow_succ,Nat.div_div_eq_div_mul x,Nat.mul_comm (65536^j) m,← Nat.div_div_eq_div_mul] at h
 exact h
def halfF (x m j:Nat) (i:Nat):Nat:=if j≤i then x / m / 65536^i % 65536 else 0
theorem half_own (a:Option Addr) (n c x m:Nat) (w:World) (h:RD w a n c x) (hm0:0<m) (hm:m≤65536) (hn:n≤549755813888):Calls Tryz.prog 185 #[.slice a n c,.int .i64 m] w
  fun e w'=>∃ a' n' c',e=.returned (.tuple #[.slice a' n' c',.int .i64 (x % m:Nat)])∧n'=nd (x / m)∧DO w a' n' c' (x / m) w':=by
 have HD:=Lib.hid h.2
 have hxn:x<65536^n:=by rw [h.1];exact lt_nd x
 have h0:x / 65536^n % m=0:=by rw [Nat.div_eq_of_lt hxn];exact Nat.zero_mod m
 have HST:=Lib.hid (fun j=>half_dig x m j hm0)
 have HLT:=Lib.hid (fun j=>Nat.mod_lt (x / 65536^j) hm0)
 have HEND:=Lib.hid (show x / 65536^0 % m=x % m by simp)
 have HYN:=Lib.hid (show x / m<65536^n from Nat.lt_of_le_of_lt (Nat.div_le_self _ _) hxn)
 have HFN:=Lib.hid (show ∀ j,j<n→(fnL n (halfF x m (j+1))).set j (x / m / 65536^j % 65536)=fnL n (halfF x m j) from fun j hj=>fnL_set hj (by unfold halfF;rw [if_pos (Nat.le_refl _)]) fun i _ hi=>by
  unfold halfF
  by_cases h1:j+1≤i
  ·
   rw [if_pos h1,if_pos (by omega)]
  ·
   rw [if_neg h1,if_neg (by omega)])
 have HF0:=Lib.hid (show fnL n (halfF x m 0)=dgs n (x / m) from fnL_congr fun j _=>by unfold halfF;rw [if_pos (Nat.zero_le _)])
 have HMADE:=Lib.hid (JS.made w (fnL n (halfF x m n)))
 have hz:fnL n (halfF x m n)=List.replicate n 0:=by rw [replicate_fnL];exact fnL_congr fun j hj=>by unfold halfF;rw [if_neg (by omega)]
 rw [hz] at HMADE
 have hmk:=make_ints (n:Int) n rfl (by omega)
 clear h hxn
 have hcl:=HD.out.len
 go_enter Tryz.func185,Tryz.ntmps185
 go_wp2_with fail
 go_loopw [7,8] (fun v7 v8 wr=>∃ j:Nat,j≤n∧v7=.int .i64 (x / 65536^j % m:Nat)∧v8=.int .i64 ((j:Int) - 1)∧JS w w.heap.size (fnL n (halfF x m j)) wr) (fun _ v8 _=>(intOf v8+1).toNat)
 case atStart=>exact ⟨n,Nat.le_refl _,by rw [h0];rfl,rfl,by rw [hz];exact HMADE.out⟩
 case round =>
  obtain ⟨j,hj,rfl,rfl,hjs⟩:=hrel
  have HJ:=Lib.hid hjs
  cases j with
  | zero =>
   rw [HEND.out]
   obtain ⟨r9,h9⟩:∃ r9,x % m=r9:=⟨_,rfl⟩
   rw [h9]
   have H9:=Lib.hid h9
   clear h9
   go_wp2_with fail
   have hsl:=hjs.sl (by rw [fnL_len];unfold maxLen;omega)
   rw [fnL_len,HF0.out] at hsl
   refine (f2trim_own _ n n (x / m) _ hsl HYN.out (by omega)).mono ?_
   rintro e w7 ⟨a7,n7,c7,rfl,hr,hb⟩
   have HR:=Lib.hid hr
   have HB:=Lib.hid hb
   clear hr hb hsl hjs
   go_wp2_with fail
   go_ret2
   exact ⟨a7,n7,c7,by rw [H9.out];rfl,HR.out,⟨HB.out.mid.mono HJ.out.bel.size,bthen HJ.out.bel HB.out.bel⟩⟩
  | succ k =>
   have e0:((k+1:Nat):Int) - 1=(k:Int):=by omega
   rw [e0]
   obtain ⟨b,o,ha,hb,hcell⟩:=(HD.out.below hjs.bel).get k (by omega)
   subst ha
   have hst:=HST.out k
   have hlt:=HLT.out (k+1)
   generalize x / 65536^(k+1) % m=l at hst hlt ⊢
   have hp:=dg_lt x k
   generalize x / 65536^k % 65536=p at hcell hst hp
   obtain ⟨q,hq⟩:∃ q,l*65536+p=q:=⟨_,rfl⟩
   rw [hq] at hst
   have e1:(l:Int)*65536+(p:Int)=(q:Int):=by omega
   have hqb:q≤4294967295:=by omega
   have e2:(q:Int).tdiv (m:Int)=((q / m:Nat):Int):=by rw [Int.tdiv_eq_ediv_of_nonneg (by omega)];push_cast;rfl
   have e3:(q:Int).tmod (m:Int)=((q % m:Nat):Int):=by rw [Int.tmod_eq_emod_of_nonneg (by omega)];push_cast;rfl
   rw [hst.1] at e2
   rw [hst.2] at e3
   have hd9:=dg_lt (x / m) k
   have hm9:=HLT.out k
   have hfn:=HFN.out k (by omega)
   generalize x / m / 65536^k % 65536=d9 at hd9 e2 hfn
   obtain ⟨m9,h9⟩:∃ m9,x / 65536^k % m=m9:=⟨_,rfl⟩
   rw [h9] at e3 hm9
   have H9:=Lib.hid h9
   have HFK:=Lib.hid hfn
   clear h9 hfn
   have hc:=HJ.out.cell0 (show k<n by omega)
   have hf:=HJ.out.free k
   have hmz:(m:Int)≠0:=by omega
   clear hst hjs
   go_wp2_with fail
   go_roundw
   case rel =>
    refine ⟨k,by omega,by rw [H9.out],by go_num,?_⟩
    rw [← HFK.out]
    exact HJ.out.set _ _
   case measure=>simp [intOf]
theorem half_any (a:Option Addr) (n c x m:Nat) (w:World) (h:RD w a n c x) (hm0:0<m) (hm:m≤65536) (hn:n≤549755813888):Calls Tryz.prog 185 #[.slice a n c,.int .i64 m] w
  fun e w'=>∃ a' n' c',e=.returned (.tuple #[.slice a' n' c',.int .i64 (x % m:Nat)])∧RD w' a' n' c' (x / m)∧Below w.heap.size w w' :=
 (half_own a n c x m w h hm0 hm hn).mono fun _ _ ⟨a',n',c',e,h1,h2⟩=>⟨a',n',c',e,⟨h1,h2.dw⟩,h2.bel⟩
end Go.Proofs.YtmhainidincjhaaGreatDoor
namespace Go.Proofs.YtmhainidincjhaaGreatDoor
open Go.RowKit Go.Extern.Stop Go.Stop Go.Extern
set_option maxRecDepth 100000
set_option maxHeartbeats 4000000
theorem dg_over {x n k:Nat} (h:x<65536^n) (hk:n≤k):x / 65536^k % 65536=0:=by
 rw [Nat.div_eq_of_lt (Nat.lt_of_lt_of_le h (Nat.pow_le_pow_right (by omega) hk))]
theorem f2digit (a:Option Addr) (n c x k:Nat) (w:World) (h:DW w a n c x) (hx:x<65536^n) (hk:k≤4611686018427387904):Calls Tryz.prog 192 #[.slice a n c,.int .i64 k] w fun e w'=>e=.returned (.int .i64 (x / 65536^k % 65536:Nat))∧w'=w:=by
 have hl:=h.len
 by_cases hlt:k<n
 ·
  obtain ⟨b,o,rfl,hb,hcell⟩:=h.get k hlt
  generalize x / 65536^k % 65536=d at hcell ⊢
  clear h hx
  go_enter Tryz.func192,Tryz.ntmps192
  go_wp2_with fail
  go_ret
  exact ⟨rfl,rfl⟩
 ·
  rw [dg_over hx (by omega)]
  clear h hx
  go_enter Tryz.func192,Tryz.ntmps192
  go_wp2_with fail
  go_ret
  exact ⟨rfl,rfl⟩
theorem f2power (k:Nat) (w:World) (hk:k≤16):Calls Tryz.prog 193 #[.int .i64 k] w fun e w'=>e=.returned (.int .i64 (2^k:Nat))∧w'=w:=by
 have HB:=Lib.hid (fun (i:Nat) (hi:i≤16)=>(Nat.pow_le_pow_right (by omega) hi:2^i≤2^16))
 have HS:=Lib.hid (fun (i:Nat)=>(by rw [Nat.pow_succ,Nat.mul_comm]:2^(i+1)=2*2^i))
 replace HB:=Lib.hid (show ∀ i,i≤16→2^i≤65536 from HB.out)
 have h0:2^0=1:=rfl
 generalize hp:(fun i:Nat=>2^i)=p
 have hpe:∀ i,2^i=p i:=fun i=>by rw [← hp]
 rw [hpe] at h0 ⊢
 simp only [hpe] at HB HS
 clear hp hpe
 go_enter Tryz.func193,Tryz.ntmps193
 go_wp2_with fail
 go_loopw [3,4] (fun v3 v4 wr=>∃ i:Nat,i≤k∧v3=.int .i64 (p i)∧v4=.int .i64 i∧wr=w) (fun _ v4 _=>k - (intOf v4).toNat)
 case atStart=>exact ⟨0,Nat.zero_le _,by rw [h0];rfl,rfl,rfl⟩
 case round =>
  obtain ⟨i,hi,rfl,rfl,rfl⟩:=hrel
  by_cases hlt:i<k
  ·
   have h1:=HB.out (i+1) (by omega)
   have h2:=HS.out i
   obtain ⟨z,hz⟩:∃ z,p i=z:=⟨_,rfl⟩
   rw [hz] at h2 ⊢
   have hzb:z≤32768:=by omega
   have H2:=Lib.hid h2
   clear h1 h2 hz
   go_wp2_with fail
   go_roundw
   case rel=>exact ⟨i+1,by omega,by rw [H2.out];go_num,by go_num,trivial⟩
   case measure=>simp [intOf];omega
  ·
   obtain rfl:i=k:=by omega
   go_wp2_with fail
   go_ret
   exact ⟨rfl,rfl⟩
theorem bl_half {q:Nat} (h:q≠0):bitLen q=bitLen (q / 2)+1:=by
 by_cases h1:q / 2=0
 ·
  have:q=1:=by omega
  subst this;rfl
 ·
  have:=bitLen_step (x:=q) (k:=1) (by simpa using h1)
  rw [Nat.pow_one] at this
  omega
theorem f2bits (a:Option Addr) (n c x:Nat) (w:World) (h:RD w a n c x) (hn:n≤549755813888):Calls Tryz.prog 100 #[.slice a n c] w fun e w'=>e=.returned (.int .i64 (bitLen x))∧w'=w:=by
 have hxn:x<65536^n:=by rw [h.1];exact lt_nd x
 have hl:=h.2.len
 cases n with
 | zero =>
  have:x=0:=by simpa using hxn
  subst this
  rw [bitLen_zero]
  clear h hxn
  go_enter Tryz.func100,Tryz.ntmps100
  go_wp2_with fail
  go_ret
  exact ⟨rfl,rfl⟩
 | succ m =>
  obtain ⟨b,o,rfl,hb,hcell⟩:=h.2.get m (by omega)
  have hx0:x≠0:=fun h0=>by have:=h.1;rw [h0,nd_zero] at this;omega
  have hge:65536^m≤x:=by have:=ndig_le (B:=65536) (by omega) hx0;rw [← nd,← h.1,Nat.add_sub_cancel] at this;exact this
  have ht:x / 65536^m % 65536=x / 65536^m:=Nat.mod_eq_of_lt (Nat.div_lt_of_lt_mul (by rw [Nat.pow_succ] at hxn;exact hxn))
  have ht0:x / 65536^m≠0:=by have:=Nat.div_pos hge (Nat.pow_pos (by omega));omega
  have hbl:bitLen x=16*m+bitLen (x / 65536^m):=by
   have e:(65536:Nat)^m=2^(16*m):=by rw [show (65536:Nat)=2^16 from rfl,← Nat.pow_mul]
   rw [e] at ht0 ⊢
   exact bitLen_step ht0
  have hd9:=dg_lt x m
  rw [ht] at hcell hd9
  generalize x / 65536^m=t at *
  have hbt:bitLen t≤16:=bitLen_le (by omega)
  have HB:=Lib.hid hbl
  clear h hxn hx0 hge ht ht0 hbl
  have e0:((m+1:Nat):Int) - 1=(m:Int):=by omega
  have e1:IntKind.i64.wrap (16*(m:Int))=((16*m:Nat):Int):=by rw [IntWalk.i64_left,IntWalk.wrap64_in _ (by omega)];push_cast;rfl
  go_enter Tryz.func100,Tryz.ntmps100
  go_wp2_with fail
  go_loopw [3,4] (fun v3 v4 wr=>∃ q r:Nat,q≤65535∧r+bitLen q=bitLen x∧r≤16*m+16∧v3=.int .i64 r∧v4=.int .i64 q∧wr=w) (fun _ v4 _=>(intOf v4).toNat)
  case atStart=>exact ⟨t,16*m,by omega,HB.out.symm,by omega,by go_num,rfl,rfl⟩
  case round =>
   obtain ⟨q,r,hq,hr,hrb,rfl,rfl,rfl⟩:=hrel
   by_cases hq0:q=0
   ·
    subst hq0
    rw [bitLen_zero] at hr
    have hr:r=bitLen x:=hr
    have HR:=Lib.hid hr
    clear hr
    go_wp2_with fail
    go_ret
    exact ⟨by rw [← HR.out];rfl,rfl⟩
   ·
    have hh:=bl_half hq0
    have e2:(q:Int).tdiv 2=((q / 2:Nat):Int):=by rw [Int.tdiv_eq_ediv_of_nonneg (by omega)];omega
    have hrb2:r+1≤16*m+16:=by have:=HB.out;omega
    have HH:=Lib.hid hh
    have HR:=Lib.hid hr
    clear hh hr
    go_wp2_with fail
    go_roundw
    case rel=>exact ⟨q / 2,r+1,by omega,by have:=HH.out;have:=HR.out;omega,hrb2,by go_num,by go_num,trivial⟩
    case measure=>simp [intOf];omega
def cmpF (x y:Nat):Int:=if x<y then -1 else if y<x then 1 else 0
theorem cmpF_lt {x y:Nat} (h:x<y):cmpF x y=-1:=if_pos h
theorem cmpF_gt {x y:Nat} (h:y<x):cmpF x y=1:=by unfold cmpF;rw [if_neg (by omega),if_pos h]
theorem cmpF_eq (x:Nat):cmpF x x=0:=by unfold cmpF;rw [if_neg (by omega),if_neg (by omega)]
theorem nd_mono {x y:Nat} (h:nd x<nd y):x<y:=by
 rcases Nat.lt_or_ge x y with h1 | h1
 ·
  exact h1
 ·
  have:=nd_le (Nat.lt_of_le_of_lt h1 (lt_nd x));omega
theorem dg_split (x k:Nat):x / 65536^k=65536*(x / 65536^(k+1))+x / 65536^k % 65536:=by
 rw [Nat.pow_succ,← Nat.div_div_eq_div_mul];omega
theorem lt_of_quot {x y b:Nat} (h:x / b<y / b):x<y:=by
 rcases Nat.lt_or_ge x y with h1 | h1
 ·
  exact h1
 ·
  have:=Nat.div_le_div_right (c:=b) h1;omega
theorem f2cmp (a b:Option Addr) (n c m d x y:Nat) (w:World) (h:RD w a n c x) (h2:RD w b m d y) (hn:n≤549755813888) (hm:m≤549755813888):Calls Tryz.prog 96 #[.slice a n c,.slice b m d] w fun e w'=>e=.returned (.int .i64 (cmpF x y))∧Below w.heap.size w w':=by
 have hl:=h.2.len
 have hl2:=h2.2.len
 rcases Nat.lt_trichotomy n m with hlt | heq | hgt
 ·
  have HR:=Lib.hid (cmpF_lt (nd_mono (show nd x<nd y by rw [← h.1,← h2.1];exact hlt)))
  clear h h2
  go_enter Tryz.func96,Tryz.ntmps96
  go_wp2_with fail
  go_ret
  exact ⟨by rw [HR.out];rfl,Below.refl _ _⟩
 ·
  subst heq
  have HD:=Lib.hid h.2
  have HD2:=Lib.hid h2.2
  have hx0:x / 65536^n=y / 65536^n:=by rw [Nat.div_eq_of_lt (by rw [h.1];exact lt_nd x),Nat.div_eq_of_lt (by rw [h2.1];exact lt_nd y)]
  clear h h2
  go_enter Tryz.func96,Tryz.ntmps96
  go_wp2_with fail
  go_loopw [5] (fun v5 wr=>∃ j:Nat,j≤n∧v5=.int .i64 ((j:Int) - 1)∧x / 65536^j=y / 65536^j∧Below w.heap.size w wr) (fun v5 _=>(intOf v5+1).toNat)
  case atStart=>exact ⟨n,Nat.le_refl _,rfl,hx0,Below.refl _ _⟩
  case round =>
   obtain ⟨j,hj,rfl,he,hbl⟩:=hrel
   have HBL:=Lib.hid hbl
   cases j with
   | zero =>
    have HR:=Lib.hid (show cmpF x y=0 by simp at he;rw [he,cmpF_eq])
    clear he hbl
    go_wp2_with fail
    go_ret
    exact ⟨by rw [HR.out];rfl,HBL.out⟩
   | succ k =>
    have e0:((k+1:Nat):Int) - 1=(k:Int):=by omega
    rw [e0]
    obtain ⟨b1,o1,ha1,hb1,hc1⟩:=(HD.out.below hbl).get k (by omega)
    obtain ⟨b2,o2,ha2,hb2,hc2⟩:=(HD2.out.below hbl).get k (by omega)
    subst ha1
    subst ha2
    have hs1:=dg_split x k
    have hs2:=dg_split y k
    rw [← he] at hs2
    have hp1:=dg_lt x k
    have hp2:=dg_lt y k
    generalize x / 65536^k % 65536=p at hc1 hs1 hp1
    generalize y / 65536^k % 65536=q at hc2 hs2 hp2
    have HS1:=Lib.hid hs1
    have HS2:=Lib.hid hs2
    clear hs1 hs2 he hbl
    rcases Nat.lt_trichotomy p q with h3 | h3 | h3
    ·
     have HR:=Lib.hid (cmpF_lt (lt_of_quot (show x / 65536^k<y / 65536^k by have:=HS1.out;have:=HS2.out;omega)))
     go_wp2
     go_quiet (fail)
     go_wp2
     go_ret
     exact ⟨by rw [HR.out];rfl,belowDrawn HBL.out _⟩
    ·
     subst h3
     go_wp2
     go_quiet (fail)
     go_wp2
     go_quiet (fail)
     go_wp2
     go_roundw
     case rel=>exact ⟨k,by omega,by go_num,by rw [HS1.out,HS2.out],belowDrawn HBL.out _⟩
     case measure=>simp [intOf]
    ·
     have HR:=Lib.hid (cmpF_gt (lt_of_quot (show y / 65536^k<x / 65536^k by have:=HS1.out;have:=HS2.out;omega)))
     go_wp2
     go_quiet (fail)
     go_wp2
     go_quiet (fail)
     go_wp2
     go_ret
     exact ⟨by rw [HR.out];rfl,belowDrawn (belowDrawn HBL.out _) _⟩
 ·
  have HR:=Lib.hid (cmpF_gt (nd_mono (show nd y<nd x by rw [← h.1,← h2.1];exact hgt)))
  clear h h2
  go_enter Tryz.func96,Tryz.ntmps96
  go_wp2_with fail
  go_ret
  exact ⟨by rw [HR.out];rfl,Below.refl _ _⟩
def carA (x y k:Nat):Nat:=(x % 65536^k+y % 65536^k) / 65536^k
theorem carA_zero (x y:Nat):carA x y 0=0:=by unfold carA;simp [Nat.mod_one]
theorem carA_le (x y k:Nat):carA x y k≤1:=by
 unfold carA
 have hp:0<65536^k:=Nat.pow_pos (by omega)
 have h1:=Nat.mod_lt x hp
 have h2:=Nat.mod_lt y hp
 have:(x % 65536^k+y % 65536^k) / 65536^k<2:=Nat.div_lt_of_lt_mul (by omega)
 omega
theorem carA_step (x y k:Nat):x / 65536^k % 65536+y / 65536^k % 65536+carA x y k=(x % 65536^(k+1)+y % 65536^(k+1)) / 65536^k:=by
 unfold carA
 have hp:0<65536^k:=Nat.pow_pos (by omega)
 rw [Nat.pow_succ,Nat.mod_mul,Nat.mod_mul,show x % 65536^k+65536^k*(x / 65536^k % 65536)+(y % 65536^k+65536^k*(y / 65536^k % 65536))=(x % 65536^k+y % 65536^k)+65536^k*(x / 65536^k % 65536+y / 65536^k % 65536) by rw [Nat.mul_add];omega,Nat.add_mul_div_left _ _ hp,Nat.add_comm]
theorem carA_next (x y k:Nat):(x / 65536^k % 65536+y / 65536^k % 65536+carA x y k) / 65536=carA x y (k+1):=by
 rw [carA_step,Nat.div_div_eq_div_mul,← Nat.pow_succ];rfl
theorem carA_dig (x y k:Nat):(x / 65536^k % 65536+y / 65536^k % 65536+carA x y k) % 65536=(x+y) / 65536^k % 65536:=by
 rw [carA_step]
 have h1:x+y=(x % 65536^(k+1)+y % 65536^(k+1))+65536^k*(65536*(x / 65536^(k+1)+y / 65536^(k+1))):=by
  have:=Nat.mod_add_div x (65536^(k+1))
  have:=Nat.mod_add_div y (65536^(k+1))
  have hB:∀ u,65536^k*(65536*u)=65536^(k+1)*u:=fun u=>by rw [← Nat.mul_assoc,← Nat.pow_succ]
  rw [hB,Nat.mul_add];omega
 rw [h1,Nat.add_mul_div_left _ _ (Nat.pow_pos (by omega)),Nat.add_mul_mod_self_left]
set_option maxRecDepth 100000
set_option maxHeartbeats 4000000
set_option maxRecDepth 100000
set_option maxHeartbeats 4000000
theorem DO.drewN {w W:World} {a:Option Addr} {n c y:Nat} (h:DO w a n c y W) (k:Nat):DO w a n c y (W.drewN k):=h.call (belowDrawn (Below.refl _ _) k)
theorem f2sub (a b:Option Addr) (n c m d x y z:Nat) (w:World) (h:RD w a n c x) (h2:RD w b m d y) (hxy:y+z=x) (hn:n≤549755813888) (hm:m≤549755813888):Calls Tryz.prog 157 #[.slice a n c,.slice b m d] w (RetD z w):=by
 obtain ⟨i0,hi,hz0,hz1,hz2⟩:=info_parts Tryz.infoInt
 have hl:=h.2.len
 have hl2:=h2.2.len
 have hxn:x<65536^n:=by rw [h.1];exact lt_nd x
 have hym:y<65536^m:=by rw [h2.1];exact lt_nd y
 have hzn:z<65536^n:=by omega
 have HD:=Lib.hid h.2
 have hdb:=(fun (k:Nat) (W:World) (hb:Below w.heap.size w W) (hk:k≤4611686018427387904)=>f2digit b m d y k W (h2.2.below hb) hym hk)
 have HC:=Lib.hid (fun k=>carA_le y z k)
 have hst:=carA_next y z
 have hdg:=carA_dig y z
 have hpx:=dg_lt x
 have hpy:=dg_lt y
 have hpz:=dg_lt z
 have h0:=carA_zero y z
 rw [hxy] at hdg
 have hds:=fun k=>dgs_snoc k z
 have hdc:=fun (W:World) (hb:Below w.heap.size w W) (k:Nat) (hk:k<n)=>(HD.out.below hb).get k hk
 obtain ⟨dx,hdx⟩:∃ f:Nat→Nat,∀ k,x / 65536^k % 65536=f k:=⟨_,fun _=>rfl⟩
 obtain ⟨dy,hdy⟩:∃ f:Nat→Nat,∀ k,y / 65536^k % 65536=f k:=⟨_,fun _=>rfl⟩
 obtain ⟨dz,hdz⟩:∃ f:Nat→Nat,∀ k,z / 65536^k % 65536=f k:=⟨_,fun _=>rfl⟩
 simp only [hdx] at hdg hpx hdc
 simp only [hdy] at hdb hst hdg hpy
 simp only [hdz] at hst hdg hpz hds
 have HDB:=Lib.hid hdb
 have HST:=Lib.hid hst
 have HDG:=Lib.hid hdg
 have HPX:=Lib.hid hpx
 have HPY:=Lib.hid hpy
 have HPZ:=Lib.hid hpz
 have HDS:=Lib.hid hds
 have HDC:=Lib.hid hdc
 clear h h2 hxn hym hdb hst hdg hpx hpy hpz hdx hdy hdz hds hdc hxy
 generalize carA y z=car at *
 go_enter Tryz.func157,Tryz.ntmps157
 go_wp2_with fail
 go_loopw [5,6,7] (fun v5 v6 v7 wr=>∃ (k:Nat) (a5:Option Addr) (c5:Nat),k≤n∧v5=.slice a5 k c5∧v6=.int .i64 (car k)∧v7=.int .i64 k∧DO w a5 k c5 z wr) (fun _ _ v7 _=>n - (intOf v7).toNat)
 case atStart=>exact ⟨0,none,0,Nat.zero_le _,rfl,by rw [h0];rfl,rfl,DO.nil w z⟩
 case round =>
  obtain ⟨k,a5,c5,hk,rfl,rfl,rfl,ho⟩:=hrel
  have hcl:=ho.len
  by_cases hlt:k<n
  ·
   have HB1:=Lib.hid (fun q=>HDB.out k (wr.drewN q) (ho.drewN q).bel (by omega))
   have HO:=Lib.hid ho
   have HO9:=Lib.hid (fun q=>ho.drewN q)
   obtain ⟨b1,o1,ha1,hb1,hcell⟩:=HDC.out wr ho.bel k hlt
   subst ha1
   have hpx:=HPX.out k
   have hpy:=HPY.out k
   have hpz:=HPZ.out k
   have hst:=HST.out k
   have hdg:=HDG.out k
   have hck:=HC.out k
   have hck1:=HC.out (k+1)
   have hd:dgs (k+[dz k].length) z=dgs k z++[dz k]:=HDS.out k
   generalize dx k=p at hpx hdg hcell
   generalize dy k=r at hpy hst hdg HB1
   generalize dz k=t at hpz hst hdg hd
   clear ho
   rcases Nat.lt_or_ge 0 (car (k+1)) with h1 | h1
   ·
    have HC1:=Lib.hid (show car (k+1)=1 by omega)
    have e1:(p:Int) - (r:Int) - (car k:Int)=(t:Int) - 65536:=by have:=HC1.out;omega
    have hrp:(p:Int) - (r:Int)≤65536∧-65536≤(p:Int) - (r:Int):=by omega
    have e4:decide ((t:Int) - 65536<0)=true:=decide_eq_true (by omega)
    clear hst hdg
    go_wp2
    go_quiet ((go_at_call 192;exact Calls.quiet_of_same (HB1.out _)))
    have HOq:=Lib.hid (HO9.out nq)
    have HM3:=Lib.hid (HOq.out.mid.alloc (.cells #[.int .i64 ((t:Nat):Int)] 3))
    have HS3:=Lib.hid ((Sl.lit (wr.drewN nq) 3 1 1 ([t].map IN) (by unfold maxLen;omega) rfl).src (P:=Tryz.prog) Tryz.underlyingIS (one_IN [t]))
    have HW3:=Lib.hid (Nat.le_trans HOq.out.bel.size (belowBox (wr.drewN nq) (.cells #[.int .i64 ((t:Nat):Int)] 3)).size)
    go_wp2_with (at_builtin;refine wpList_append_mid (v:=.slice a5 k c5) rfl _ _ 55 55 rfl i0 (.int .i64 0) 8 Tryz.underlyingIS hi hz0 hz1 hz2 rfl rfl HM3.out _ rfl 1 _ HS3.out (by unfold maxLen;omega) (by omega) HW3.out ?_;intro a6 c6 w6 hmo hgo hbo;have HP:=Lib.hid (show DO _ a6 (k+1) c6 z w6 from HOq.out.push (ds:=[t]) hd hmo hgo);clear hmo hgo hbo HM3 HS3 HW3;go_wp2_with fail)
    go_roundw
    case rel=>exact ⟨k+1,a6,c6,by omega,rfl,by rw [HC1.out];rfl,by go_num,HP.out⟩
    case measure=>simp [intOf];omega
   ·
    have HC1:=Lib.hid (show car (k+1)=0 by omega)
    have e1:(p:Int) - (r:Int) - (car k:Int)=(t:Int):=by have:=HC1.out;omega
    have hrp:(p:Int) - (r:Int)≤65536∧-65536≤(p:Int) - (r:Int):=by omega
    have e4:decide ((t:Int)<0)=false:=decide_eq_false (by omega)
    clear hst hdg
    go_wp2
    go_quiet ((go_at_call 192;exact Calls.quiet_of_same (HB1.out _)))
    have HOq:=Lib.hid (HO9.out nq)
    have HM3:=Lib.hid (HOq.out.mid.alloc (.cells #[.int .i64 ((t:Nat):Int)] 3))
    have HS3:=Lib.hid ((Sl.lit (wr.drewN nq) 3 1 1 ([t].map IN) (by unfold maxLen;omega) rfl).src (P:=Tryz.prog) Tryz.underlyingIS (one_IN [t]))
    have HW3:=Lib.hid (Nat.le_trans HOq.out.bel.size (belowBox (wr.drewN nq) (.cells #[.int .i64 ((t:Nat):Int)] 3)).size)
    go_wp2_with (at_builtin;refine wpList_append_mid (v:=.slice a5 k c5) rfl _ _ 55 55 rfl i0 (.int .i64 0) 8 Tryz.underlyingIS hi hz0 hz1 hz2 rfl rfl HM3.out _ rfl 1 _ HS3.out (by unfold maxLen;omega) (by omega) HW3.out ?_;intro a6 c6 w6 hmo hgo hbo;have HP:=Lib.hid (show DO _ a6 (k+1) c6 z w6 from HOq.out.push (ds:=[t]) hd hmo hgo);clear hmo hgo hbo HM3 HS3 HW3;go_wp2_with fail)
    go_roundw
    case rel=>exact ⟨k+1,a6,c6,by omega,rfl,by rw [HC1.out];rfl,by go_num,HP.out⟩
    case measure=>simp [intOf];omega
  ·
   obtain rfl:k=n:=by omega
   have HO:=Lib.hid ho
   refine (?_:_)
   clear ho
   go_wp2_with fail
   refine (f2trim_any a5 k c5 z _ HO.out.dw hzn (by omega)).mono ?_
   rintro e w7 ⟨a7,n7,c7,rfl,hr,hb⟩
   have HR:=Lib.hid hr
   have HB:=Lib.hid hb
   clear hr hb
   go_wp2_with fail
   go_ret
   exact ⟨a7,n7,c7,rfl,HR.out,bthen HO.out.bel HB.out⟩
set_option maxRecDepth 100000
set_option maxHeartbeats 4000000
theorem RD.nil (w:World):RD w none 0 0 0:=⟨nd_zero.symm,⟨rfl,.inl ⟨none,0,rfl,rfl,Nat.zero_le _,fun _=>rfl⟩⟩⟩
theorem nd_one:nd 1=1:=nd_of (by omega) (.inr (by omega))
theorem RD.one (W:World):RD (W.alloc (.cells #[.int .i64 1] 3)) (some ⟨W.heap.size,0,none⟩) 1 1 1:=⟨nd_one.symm,Sl.lit W 3 1 1 [IN 1] (by unfold maxLen;omega) rfl⟩
theorem RD.len {w:World} {a:Option Addr} {n c y:Nat} (h:RD w a n c y):n≤c∧c≤9223372036854775807:=h.2.len
theorem f2halved (a:Option Addr) (n c x:Nat) (w:World) (h:RD w a n c x) (hn:n≤549755813888):Calls Tryz.prog 156 #[.slice a n c] w (RetD (x / 2) w):=by
 have HH:=Lib.hid (half_any a n c x 2 w h (by omega) (by omega) hn)
 clear h
 go_enter Tryz.func156,Tryz.ntmps156
 go_wp2_with fail
 refine HH.out.mono ?_
 rintro e w' ⟨a',n',c',rfl,hr,hb⟩
 have HR:=Lib.hid hr
 have HB:=Lib.hid hb
 clear hr hb
 go_wp2_with fail
 go_ret
 exact ⟨a',n',c',rfl,HR.out,HB.out⟩
theorem f2even (a:Option Addr) (n c x:Nat) (w:World) (h:RD w a n c x):Calls Tryz.prog 155 #[.slice a n c] w fun e w'=>e=.returned (.bool (decide (x % 2=0)))∧w'=w:=by
 have hd:=f2digit a n c x 0 w h.2 (by rw [h.1];exact lt_nd x) (by omega)
 have h2:x % 2=x / 65536^0 % 65536 % 2:=by rw [Nat.pow_zero,Nat.div_one];omega
 have hp:=dg_lt x 0
 rw [h2]
 generalize x / 65536^0 % 65536=d at hd hp ⊢
 have HD:=Lib.hid hd
 have e2:(d:Int).tmod 2=((d % 2:Nat):Int):=by rw [Int.tmod_eq_emod_of_nonneg (by omega)];omega
 clear hd h h2
 rcases Nat.mod_two_eq_zero_or_one d with h3 | h3
 ·
  rw [h3] at e2 ⊢
  go_enter Tryz.func155,Tryz.ntmps155
  go_wp2_with fail
  refine HD.out.mono ?_
  rintro e w' ⟨rfl,rfl⟩
  go_wp2_with fail
  go_ret
  exact ⟨rfl,rfl⟩
 ·
  rw [h3] at e2 ⊢
  go_enter Tryz.func155,Tryz.ntmps155
  go_wp2_with fail
  refine HD.out.mono ?_
  rintro e w' ⟨rfl,rfl⟩
  go_wp2_with fail
  go_ret
  exact ⟨rfl,rfl⟩
theorem cmpF_ge {x y:Nat} (h:y≤x):cmpF x y=0∨cmpF x y=1:=by
 rcases Nat.lt_or_ge y x with h1 | h1
 ·
  exact .inr (cmpF_gt h1)
 ·
  obtain rfl:x=y:=by omega
  exact .inl (cmpF_eq x)
set_option maxRecDepth 100000
set_option maxHeartbeats 4000000
theorem Tryz.underlyingRN:Tryz.prog.underlying 56=some (.slice 3):=by kernel_rfl
theorem dgs_nought (k:Nat) (z:Nat):dgs k (z*65536^k)=List.replicate k 0:=by
 apply List.ext_getElem?
 intro i
 by_cases h:i<k
 ·
  rw [dgs_at h,List.getElem?_replicate,if_pos h]
  have h1:z*65536^k=z*65536^(k - i - 1)*65536*65536^i:=by
   rw [Nat.mul_assoc,Nat.mul_assoc,← Nat.pow_succ',← Nat.pow_add];congr 2;omega
  rw [h1,Nat.mul_div_cancel _ (Nat.pow_pos (by omega)),Nat.mul_mod_left]
 ·
  rw [List.getElem?_eq_none (by rw [dgs_len];omega),List.getElem?_eq_none (by rw [List.length_replicate];omega)]
theorem dgs_behind (k n z:Nat):dgs (k+n) (z*65536^k)=dgs k (z*65536^k)++dgs n z:=by
 apply List.ext_getElem?
 intro i
 by_cases h:i<k
 ·
  rw [List.getElem?_append_left (by rw [dgs_len];exact h),dgs_at h,dgs_at (by omega)]
 ·
  rw [List.getElem?_append_right (by rw [dgs_len];omega),dgs_len]
  by_cases h2:i<k+n
  ·
   rw [dgs_at h2,dgs_at (show i - k<n by omega)]
   have h1:65536^i=65536^k*65536^(i - k):=by rw [← Nat.pow_add];congr 1;omega
   rw [h1,← Nat.div_div_eq_div_mul,Nat.mul_div_cancel _ (Nat.pow_pos (by omega))]
  ·
   rw [List.getElem?_eq_none (by rw [dgs_len];omega),List.getElem?_eq_none (by rw [dgs_len];omega)]
theorem DO.push0 {w W W5:World} {a a5:Option Addr} {n c c5 y m z:Nat} (h:DO w a n c y W) (hd:dgs (n+m) y=dgs n y++dgs m z)
  (hm:Mid W5 w.heap.size 3 1 (.slice a5 (n+m) c5) (n+m) ((dgs n y).map IN++(dgs m z).map IN)) (hg:W.grownBy W5 (Value.slice a n c).ownBlock):DO w a5 (n+m) c5 y W5 :=
 ⟨by rw [hd,List.map_append];exact hm,Below.trans h.bel ((Keeps.of_grown hg (S:=fun b=>w.heap.size≤b) fun b hb=>(h.mid.lt b hb).1).below h.bel.size fun b hb=>hb)⟩
theorem f2shl (a:Option Addr) (n c x k:Nat) (w:World) (h:RD w a n c x) (hn:n≤274877906944) (hk:k≤1099511627776):Calls Tryz.prog 158 #[.slice a n c,.int .i64 k] w (RetD (x*2^k) w):=by
 obtain ⟨i0,hi,hz0,hz1,hz2⟩:=info_parts Tryz.infoInt
 obtain ⟨y,hy⟩:∃ y,x*2^k=y:=⟨_,rfl⟩
 obtain ⟨p,hp⟩:∃ p,2^(k % 16)=p:=⟨_,rfl⟩
 obtain ⟨z,hz⟩:∃ z,x*p+0=z:=⟨_,rfl⟩
 obtain ⟨K,hK⟩:∃ K,k / 16=K:=⟨_,rfl⟩
 obtain ⟨R,hR⟩:∃ R,k % 16=R:=⟨_,rfl⟩
 have hKb:K≤68719476736:=by omega
 have hRb:R≤15:=by omega
 have hyz:y=z*65536^K:=by
  rw [← hy,← hz,← hp,← hK,Nat.add_zero,show (65536:Nat)=2^16 from rfl,← Nat.pow_mul,Nat.mul_assoc,← Nat.pow_add]
  congr 2;omega
 have hp2:p≤65536:=by rw [← hp];exact (Nat.pow_le_pow_right (by omega) (by omega):2^(k % 16)≤2^16)
 have e1:(k:Int).tdiv 16=(K:Int):=by rw [Int.tdiv_eq_ediv_of_nonneg (by omega)];omega
 have e2:(k:Int).tmod 16=(R:Int):=by rw [Int.tmod_eq_emod_of_nonneg (by omega)];omega
 have HPW:=Lib.hid (fun W=>by have:=f2power R W (by omega);rw [← hR,hp] at this;rw [← hR];exact this:∀ W,Calls Tryz.prog 193 #[.int .i64 R] W fun e w'=>e=.returned (.int .i64 p)∧w'=W)
 have HSM:=Lib.hid (fun W (hb:Below w.heap.size w W)=>by have:=small_any a n c x p 0 W (h.below hb) hp2 (by omega) (by omega);rw [hz] at this;exact this:∀ W,Below w.heap.size w W→Calls Tryz.prog 159 #[.slice a n c,.int .i64 p,.int .i64 0] W (RetD z W))
 have HD0:=Lib.hid (fun j (hj:j<K)=>(by
  have h1:y / 65536^j % 65536=0:=by
   have:=dgs_at (k:=K) (y:=y) hj
   rw [hyz,dgs_nought,List.getElem?_replicate,if_pos hj] at this
   rw [hyz];exact (Option.some.inj this).symm
  show dgs (j+1) y=_
  rw [dgs_snoc,h1]:dgs (j+[0].length) y=dgs j y++[0]))
 have HZN:=Lib.hid (show nd z≤n+1 from nd_le (by
  have h1:x<65536^n:=by rw [h.1];exact lt_nd x
  rw [← hz,Nat.add_zero,Nat.pow_succ]
  exact Nat.mul_lt_mul_of_lt_of_le h1 hp2 (by omega)))
 have HYZ:=Lib.hid hyz
 have hl:=h.len
 rw [hy]
 clear h hyz hp hy hz hK hR
 go_enter Tryz.func158,Tryz.ntmps158
 go_wp2_with fail
 go_loopw [5,6] (fun v5 v6 wr=>∃ (j:Nat) (a5:Option Addr) (c5:Nat),j≤K∧v5=.slice a5 j c5∧v6=.int .i64 j∧DO w a5 j c5 y wr) (fun _ v6 _=>K - (intOf v6).toNat)
 case atStart=>exact ⟨0,none,0,Nat.zero_le _,rfl,rfl,DO.nil w y⟩
 case round =>
  obtain ⟨j,a5,c5,hj,rfl,rfl,ho⟩:=hrel
  have HO:=Lib.hid ho
  have hcl:=ho.len
  clear ho
  by_cases hlt:j<K
  ·
   have hd:=HD0.out j hlt
   have HM3:=Lib.hid (HO.out.mid.alloc (.cells #[.int .i64 ((0:Nat):Int)] 3))
   have HS3:=Lib.hid ((Sl.lit wr 3 1 1 ([0].map IN) (by unfold maxLen;omega) rfl).src (P:=Tryz.prog) Tryz.underlyingIS (one_IN [0]))
   have HW3:=Lib.hid (Nat.le_trans HO.out.bel.size (belowBox wr (.cells #[.int .i64 ((0:Nat):Int)] 3)).size)
   go_wp2_with (at_builtin;refine wpList_append_mid (v:=.slice a5 j c5) rfl _ _ 55 55 rfl i0 (.int .i64 0) 8 Tryz.underlyingIS hi hz0 hz1 hz2 rfl rfl HM3.out _ rfl 1 _ HS3.out (by unfold maxLen;omega) (by omega) HW3.out ?_;intro a6 c6 w6 hmo hgo hbo;have HP:=Lib.hid (show DO _ a6 (j+1) c6 y w6 from HO.out.push (ds:=[0]) hd hmo hgo);clear hmo hgo hbo HM3 HS3 HW3;go_wp2_with fail)
   go_roundw
   case rel=>exact ⟨j+1,a6,c6,by omega,rfl,by go_num,HP.out⟩
   case measure=>simp [intOf];omega
  ·
   obtain rfl:j=K:=by omega
   go_wp2_with fail
   refine (HPW.out _).mono ?_
   rintro e w2 ⟨rfl,rfl⟩
   go_wp2_with fail
   refine (HSM.out _ HO.out.bel).mono ?_
   rintro e w3 ⟨a3,n3,c3,rfl,hr3,hb3⟩
   have HO3:=Lib.hid (HO.out.call hb3)
   have hn3:n3≤n+1:=by rw [hr3.1];exact HZN.out
   have HS3:=Lib.hid (hr3.2.src (P:=Tryz.prog) Tryz.underlyingRN (one_IN _))
   have HR3:=Lib.hid hr3
   have hd:dgs (j+n3) y=dgs j y++dgs n3 z:=by rw [HYZ.out];exact dgs_behind j n3 z
   have HDD:=Lib.hid hd
   clear hr3 hb3 hd HO
   have HW3:=Lib.hid HO3.out.bel.size
   have HM3:=Lib.hid HO3.out.mid
   go_wp2_with (at_builtin;refine wpList_append_mid (v:=.slice a5 j c5) rfl _ _ 55 56 rfl i0 (.int .i64 0) 8 Tryz.underlyingIS hi hz0 hz1 hz2 rfl rfl HM3.out _ rfl n3 _ HS3.out (by unfold maxLen;omega) (by omega) HW3.out ?_;intro a6 c6 w6 hmo hgo hbo;have HP:=Lib.hid (HO3.out.push0 HDD.out hmo hgo);clear hmo hgo hbo;go_wp2_with fail)
   have hyl:y<65536^(j+n3):=by
    have h1:z<65536^n3:=by rw [HR3.out.1];exact lt_nd z
    rw [HYZ.out,Nat.pow_add,Nat.mul_comm]
    exact Nat.mul_lt_mul_of_pos_left h1 (Nat.pow_pos (by omega))
   refine (f2trim_any a6 _ c6 y _ HP.out.dw hyl (by omega)).mono ?_
   rintro e w7 ⟨a7,n7,c7,rfl,hr,hb⟩
   have HR:=Lib.hid hr
   have HB:=Lib.hid hb
   clear hr hb hyl
   go_wp2_with fail
   go_ret
   exact ⟨a7,n7,c7,rfl,HR.out,bthen HP.out.bel HB.out⟩
end Go.Proofs.YtmhainidincjhaaGreatDoor
