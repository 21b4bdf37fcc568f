/-
 What the laws stand on, part D: contracts and plain laws of NQuot, Prod3, Prod4, Prod5; the conditions are each law's own.
-/
import Derived.Test.YtmhainidincjhaaGreatDoorKA
set_option linter.unusedVariables false
set_option linter.unusedSimpArgs false
set_option maxRecDepth 100000
set_option maxHeartbeats 16000000
namespace Go.Proofs.YtmhainidincjhaaGreatDoor
theorem w64p:0<W64:=by unfold W64;omega
theorem w64m {y1 y0:Nat} (h:0<y1):0<y1*W64+y0:=by have h2:y1*1≤y1*W64:=Nat.mul_le_mul_left _ w64p;omega
structure Guess (y1 y0 u next q r:Nat):Prop where
 sum:u=q*y1+r
 ge:min ((u*W64+next) / (y1*W64+y0)) (W64 - 1)≤q
 lt:q<W64
section
variable {y1 y0 u next q r : Nat}
theorem Guess.low (h1:0<y1) (hn:next<W64) (hu:u / y1<W64):Guess y1 y0 u next (u / y1) (u % y1) :=
 ⟨(Trial.start (y0:=y0) h1 w64p hn).sum,Nat.le_trans (Nat.min_le_left _ _) (Trial.start h1 w64p hn).ge,hu⟩
theorem Guess.high (u1:Nat):Guess y1 y0 (y1*W64+u1) next (W64 - 1) (u1+y1) :=
 ⟨by rw [Nat.sub_mul,Nat.one_mul,Nat.mul_comm y1];have:y1≤W64*y1:=Nat.le_mul_of_pos_left _ w64p;omega,Nat.min_le_right _ _,Nat.sub_lt w64p Nat.one_pos⟩
theorem Guess.done (h:Guess y1 y0 u next q r) (h1:0<y1) (ht:q*y0≤r*W64+next):min ((u*W64+next) / (y1*W64+y0)) (W64 - 1)=q:=by
 refine Nat.le_antisymm h.ge (Nat.le_min.2 ⟨?_,by have:=h.lt;omega⟩)
 have hp:0<y1*W64+y0:=w64m h1
 rw [Nat.le_div_iff_mul_le hp]
 obtain ⟨e1,e2⟩:=expand y1 y0 W64 q r next
 rw [h.sum]
 omega
theorem Guess.over (h:Guess y1 y0 u next q r) (h1:0<y1) (hy:y0<W64) (hr:W64≤r):min ((u*W64+next) / (y1*W64+y0)) (W64 - 1)=q:=by
 refine h.done h1 ?_
 have h2:q*y0≤W64*W64:=Nat.mul_le_mul (by have:=h.lt;omega) (by omega)
 have h3:W64*W64≤r*W64:=Nat.mul_le_mul_right _ hr
 omega
theorem Guess.less (h:Guess y1 y0 u next q r) (h1:0<y1) (ht:r*W64+next<q*y0):0<q∧Guess y1 y0 u next (q - 1) (r+y1):=by
 have hp:0<y1*W64+y0:=w64m h1
 obtain ⟨e1,e2⟩:=expand y1 y0 W64 q r next
 have hlt:(u*W64+next) / (y1*W64+y0)<q:=by
  refine Nat.div_lt_of_lt_mul ?_
  have e3:u*W64+next=(q*y1+r)*W64+next:=congrArg (fun z=>z*W64+next) h.sum
  rw [Nat.mul_comm _ q,e1,e3,e2]
  exact Nat.add_lt_add_left ht _
 have hq:0<q:=Nat.lt_of_le_of_lt (Nat.zero_le _) hlt
 refine ⟨hq,?_,Nat.le_trans (Nat.min_le_left _ _) (Nat.le_sub_one_of_lt hlt),by have:=h.lt;omega⟩
 have:q*y1=(q - 1)*y1+y1:=by
  obtain ⟨q',rfl⟩:∃ q',q=q'+1:=⟨q - 1,by omega⟩
  rw [Nat.add_mul,Nat.one_mul,Nat.add_sub_cancel]
 have:=h.sum
 omega
theorem guess_test {H L x u0 r:Nat} (e:x=H*W64+L) (hL:L<W64) (hu:u0<W64):(H<r∨H=r∧L≤u0→x≤r*W64+u0)∧(¬ (H<r∨H=r∧L≤u0)→r*W64+u0<x):=by
 subst e
 constructor
 ·
  rintro (h | ⟨rfl,h⟩)
  ·
   have:(H+1)*W64≤r*W64:=Nat.mul_le_mul_right _ h
   rw [Nat.add_mul,Nat.one_mul] at this
   omega
  ·
   omega
 ·
  intro h
  rcases Nat.lt_trichotomy H r with h2 | h2 | h2
  ·
   exact absurd (.inl h2) h
  ·
   subst h2
   have:¬ L≤u0:=fun h3=>h (.inr ⟨rfl,h3⟩)
   omega
  ·
   have:(r+1)*W64≤H*W64:=Nat.mul_le_mul_right _ h2
   rw [Nat.add_mul,Nat.one_mul] at this
   omega
end
theorem guess_up (U V P Q:Nat) (hV:0<V) (hP:0<P) (h1:Q*(V / P)≤U / P) (hQ:Q<V / P):Q≤U / V+1:=by
 have v1:=Nat.mod_add_div V P
 have v2:=Nat.mod_lt V hP
 have u1:=Nat.mod_add_div U P
 have u2:=Nat.mod_lt U hP
 rcases Nat.lt_or_ge (U / V+1) Q with hlt | hge
 ·
  exfalso
  have h2:U<(U / V+1)*V:=by
   have e1:=Nat.mod_add_div U V
   have e2:=Nat.mod_lt U hV
   rw [Nat.add_mul,Nat.one_mul,Nat.mul_comm (U / V)];omega
  have h3:(U / V+1)*V≤(Q - 1)*V:=Nat.mul_le_mul_right _ (Nat.le_sub_one_of_lt hlt)
  have h4:Q*(V / P)*P≤U / P*P:=Nat.mul_le_mul_right _ h1
  have h5:Q*V=(Q - 1)*V+V:=by
   obtain ⟨Q',rfl⟩:=Nat.exists_eq_succ_of_ne_zero (Nat.ne_of_gt (Nat.lt_of_le_of_lt (Nat.zero_le _) hlt))
   rw [Nat.succ_mul,Nat.succ_sub_one]
  have h6:Q*V=Q*(V % P)+Q*(V / P)*P:=by
   have e:=congrArg (fun z=>Q*z) v1
   simp only [Nat.mul_add] at e
   rw [← e,Nat.mul_comm P,Nat.mul_assoc]
  have h7:Q*(V % P)≤Q*P:=Nat.mul_le_mul_left _ (by omega)
  have h8:Q*P≤(V / P - 1)*P:=Nat.mul_le_mul_right _ (Nat.le_sub_one_of_lt hQ)
  have h9:(V / P)*P=(V / P - 1)*P+P:=by
   obtain ⟨Z,hZ⟩:=Nat.exists_eq_succ_of_ne_zero (Nat.ne_of_gt (Nat.lt_of_le_of_lt (Nat.zero_le _) hQ))
   rw [hZ,Nat.succ_mul,Nat.succ_sub_one]
  have h10:U / P*P=P*(U / P):=Nat.mul_comm _ _
  have h11:V / P*P=P*(V / P):=Nat.mul_comm _ _
  clear hQ hlt h1
  generalize U / P=UP at *
  generalize V / P=VP at *
  generalize V % P=VM at *
  generalize U % P=UM at *
  generalize U / V=UV at *
  generalize VP - 1=VQ at *
  generalize Q - 1=QQ at *
  omega
 ·
  exact hge
theorem guess_word (U V P:Nat) (hV:0<V) (hP:0<P) (hU:U / V<W64) (hb:W64≤V / P):U / V≤min (U / P / (V / P)) (W64 - 1)∧min (U / P / (V / P)) (W64 - 1)≤U / V+1:=by
 have hV2:0<V / P:=by unfold W64 at hb;omega
 have hW:0<W64:=by unfold W64;omega
 constructor
 ·
  refine Nat.le_min.2 ⟨?_,by omega⟩
  rw [Nat.le_div_iff_mul_le hV2,Nat.le_div_iff_mul_le hP]
  have h1:U / V*V≤U:=Nat.div_mul_le_self _ _
  have h2:U / V*(V / P*P)≤U / V*V:=Nat.mul_le_mul_left _ (Nat.div_mul_le_self _ _)
  rw [← Nat.mul_assoc] at h2
  omega
 ·
  refine guess_up U V P _ hV hP ?_ (by have:=Nat.min_le_right (U / P / (V / P)) (W64 - 1);omega)
  exact Nat.le_trans (Nat.mul_le_mul_right _ (Nat.min_le_left _ _)) (Nat.div_mul_le_self _ _)
theorem top_words (U V m:Nat) (hm:2≤m) (hV:V<W64^m) (hU:U<W64^(m+1)) :
  U / W64^(m - 2)=(wordOf U m*W64+wordOf U (m - 1))*W64+wordOf U (m - 2)∧V / W64^(m - 2)=wordOf V (m - 1)*W64+wordOf V (m - 2):=by
 obtain ⟨k,rfl⟩:∃ k,m=k+2:=⟨m - 2,by omega⟩
 have st:∀ n j,n / W64^j=n / W64^(j+1)*W64+wordOf n j:=fun n j=>by
  unfold wordOf
  rw [Nat.pow_succ,← Nat.div_div_eq_div_mul]
  have:=Nat.mod_add_div (n / W64^j) W64
  rw [Nat.mul_comm] at this
  omega
 constructor
 ·
  have e1:=st U k
  have e2:=st U (k+1)
  have e3:=st U (k+2)
  rw [Nat.div_eq_of_lt hU,Nat.zero_mul,Nat.zero_add] at e3
  show U / W64^k=(wordOf U (k+2)*W64+wordOf U (k+1))*W64+wordOf U k
  rw [e1,e2,e3]
 ·
  have e1:=st V k
  have e2:=st V (k+1)
  rw [Nat.div_eq_of_lt hV,Nat.zero_mul,Nat.zero_add] at e2
  show V / W64^k=wordOf V (k+1)*W64+wordOf V k
  rw [e1,e2]
def leftU (U P m:Nat):Nat:=U+W64^(m+1) - P
theorem take_word (U P m k:Nat) (hP:P<W64^(m+1)) (hk:k≤m):(wordOf U k+(W64 - wordOf P k)+(W64 - borrowS U P k)) % W64=wordOf (leftU U P m) k∧(if wordOf U k<wordOf P k+borrowS U P k then 1 else 0)=borrowS U P (k+1):=by
 have h:=sub_word (U+1*W64^(m+1)) P k (by omega)
 have hb:∀ j,j≤m+1→borrowS (U+1*W64^(m+1)) P j=borrowS U P j:=fun j hj=>by unfold borrowS;rw [far_mod _ _ _ _ hj]
 rw [far_word _ _ _ _ (by omega),hb k (by omega),hb (k+1) (by omega),Nat.one_mul] at h
 exact h
theorem take_end (U P m:Nat) (hU:U<W64^(m+1)) (hP:P<W64^(m+1)):borrowS U P (m+1)=if U<P then 1 else 0:=by
 unfold borrowS;rw [Nat.mod_eq_of_lt hU,Nat.mod_eq_of_lt hP]
theorem take_right (U P m:Nat) (h:P≤U) (k:Nat) (hk:k≤m):wordOf (leftU U P m) k=wordOf (U - P) k:=by
 unfold leftU
 rw [show U+W64^(m+1) - P=(U - P)+1*W64^(m+1) by omega]
 exact far_word _ _ _ _ (by omega)
theorem back_right (U P V m:Nat) (h:U<P) (h2:P≤U+V) (hP:P<W64^(m+1)) (k:Nat) (hk:k≤m):wordOf (leftU U P m+V) k=wordOf (U+V - P) k:=by
 unfold leftU
 rw [show U+W64^(m+1) - P+V=(U+V - P)+1*W64^(m+1) by omega]
 exact far_word _ _ _ _ (by omega)
theorem over_word (V q m:Nat) (hV:V<W64^m) (hq:q<W64):carryM V q 0 m=wordOf (V*q) m∧V*q<W64^(m+1):=by
 have h1:V*q<W64^(m+1):=by rw [Nat.pow_succ];exact Nat.mul_lt_mul'' hV hq
 refine ⟨?_,h1⟩
 unfold carryM wordOf
 rw [Nat.mod_eq_of_lt hV,Nat.add_zero]
 refine (Nat.mod_eq_of_lt (Nat.div_lt_of_lt_mul ?_)).symm
 rwa [← Nat.pow_succ]
theorem back_last (D V m:Nat) (hV:V<W64^m):(wordOf D m+carryA D V m) % W64=wordOf (D+V) m:=by
 have:=(add_word D V m).1
 rwa [wordOf_big hV,Nat.add_zero] at this
theorem put_back (U V Q:Nat) (hV:0<V):(Q=U / V→V*Q≤U∧U - V*Q=U % V)∧(Q=U / V+1→U<V*Q∧V*Q≤U+V∧U+V - V*Q=U % V):=by
 have e:=Nat.mod_add_div U V
 have e2:=Nat.mod_lt U hV
 constructor
 ·
  rintro rfl;omega
 ·
  rintro rfl
  rw [Nat.mul_add,Nat.mul_one];omega
def leftX (X V k:Nat):Nat:=X % (V*W64^k)
theorem leftX_start (X V k:Nat) (h:X<V*W64^k):leftX X V k=X:=Nat.mod_eq_of_lt h
theorem leftX_end (X V:Nat):leftX X V 0=X % V:=by unfold leftX;rw [Nat.pow_zero,Nat.mul_one]
theorem leftX_lt (X V k:Nat) (hV:0<V):leftX X V k<V*W64^k:=Nat.mod_lt _ (Nat.mul_pos hV (W64_pos k))
theorem place_word (X V k:Nat) (hV:0<V):leftX X V (k+1) / W64^k / V=wordOf (X / V) k:=by
 unfold leftX wordOf
 have e:X % (V*W64^(k+1)) / (V*W64^k)=X / (V*W64^k) % W64:=by
  rw [Nat.pow_succ,← Nat.mul_assoc,Nat.mod_mul_right_div_self]
 rw [Nat.div_div_eq_div_mul,Nat.mul_comm (W64^k) V,e,← Nat.div_div_eq_div_mul]
theorem place_left (X V k:Nat):leftX X V k=leftX X V (k+1) / W64^k % V*W64^k+leftX X V (k+1) % W64^k:=by
 have hp:=W64_pos k
 have e1:leftX X V k=leftX X V (k+1) % (V*W64^k):=by
  unfold leftX
  rw [Nat.pow_succ,← Nat.mul_assoc,Nat.mod_mul_right_mod]
 rw [e1,Nat.mul_comm V,Nat.mod_mul]
 rw [Nat.add_comm,Nat.mul_comm]
theorem place_below (X V k:Nat) (hV:0<V):leftX X V (k+1) / W64^k<V*W64:=by
 refine Nat.div_lt_of_lt_mul ?_
 have:=leftX_lt X V (k+1) hV
 rw [Nat.pow_succ,← Nat.mul_assoc] at this
 rwa [Nat.mul_comm (W64^k),Nat.mul_right_comm]
theorem place_words (X V k j:Nat):wordOf (leftX X V k) j=if j<k then wordOf (leftX X V (k+1)) j else wordOf (leftX X V (k+1) / W64^k % V) (j - k):=by
 rw [place_left];exact rest_word _ _ _ _
end Go.Proofs.YtmhainidincjhaaGreatDoor
namespace Go.Proofs.YtmhainidincjhaaGreatDoor
open Go.RowKit Go.Extern.Stop Go.Stop Go.Extern
theorem words_any (a:Option Addr) (c n:Nat) (w:World) (h:NatW w a c n) (hs:lenW n≤17592186044416):Calls Tryz.prog 161 #[.agg #[.slice a (lenW n) c]] w (OwnR w 164 1 (lenW n) ((toWords n).map UV)):=by
 have HC:=Lib.hid (cloneW _ _ _ _ (h.sl.alloc (.cells #[.slice a (lenW n) c] 41)) (one_UV _) (by omega))
 obtain ⟨la,hla⟩:∃ la,lenW n=la:=⟨_,rfl⟩
 obtain ⟨ws,hws⟩:∃ ws,(toWords n).map UV=ws:=⟨_,rfl⟩
 rw [hla,hws] at HC ⊢
 clear h hs hla hws
 go_enter Tryz.func161,Tryz.ntmps161
 go_wp2_with fail
 refine HC.out.mono ?_
 rintro e w1 ⟨a1,c1,rfl,hm,hb⟩
 have HM:=Lib.hid hm
 have HB:=Lib.hid hb
 clear hm hb HC
 go_wp2_with fail
 go_ret
 exact ⟨a1,c1,rfl,HM.out.mono (belowBox w _).size,bthen (belowBox w _) HB.out⟩
theorem Sl.from {w:World} {n:Nat} {a:Option Addr} {c:Nat} {cs:List Value} (h:Sl w 1 (.slice a n c) n cs) (l:Nat) (hl:l≤n):Sl w 1 (.slice (if c=l then a else a.map (·.add l)) (n - l) (c - l)) (n - l) (cs.drop l):=by
 refine ⟨by rw [List.length_drop,h.1];omega,?_⟩
 rcases h.2 with ⟨a1,c1,e,h0,h1,h2⟩ | ⟨b,o,c1,e,h1,h2,h3,h4⟩
 ·
  cases e
  refine .inl ⟨_,c - l,rfl,by omega,by omega,fun he=>?_⟩
  split at he
  ·
   omega
  ·
   have:a=none:=by cases a <;> simp_all
   have:=h2 this;omega
 ·
  cases e
  by_cases hc:c=l
  ·
   exact .inl ⟨_,c - l,rfl,by omega,by omega,fun _=>by omega⟩
  ·
   rw [if_neg hc]
   refine .inr ⟨b,o+l,c - l,by simp [Addr.add],by omega,by omega,h3,fun j u hj=>?_⟩
   rw [List.getElem?_drop] at hj
   rw [Nat.add_assoc]
   exact h4 _ u hj
theorem mid_under4 {w w':World} {base:Nat} {e:TypeId} {size:Nat} {v:Value} {n:Nat} {xs:List Value} (hm:Mid w base e size v n xs) (hb:Below w.heap.size w w'):Mid w' base e size v n xs:=hm.below hb fun k hk=>(hm.lt k hk).2
end Go.Proofs.YtmhainidincjhaaGreatDoor
