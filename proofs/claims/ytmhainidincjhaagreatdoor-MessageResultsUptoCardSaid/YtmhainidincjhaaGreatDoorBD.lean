/-
 What the laws stand on, part D: contracts and plain laws of NQuot, Prod3, Prod4, Prod5; the conditions are each law's own.
-/
import Derived.Test.YtmhainidincjhaaGreatDoorBA
set_option linter.unusedVariables false
set_option linter.unusedSimpArgs false
set_option maxRecDepth 100000
set_option maxHeartbeats 16000000
namespace Go.Proofs.YtmhainidincjhaaGreatDoor
theorem w64p:0<W64:=by unfold W64;omega
theorem w64m {y1 y0:Nat} (h:0<y1):0<y1*W64+y0:=by have h2:y1*1≤y1*W64:=Nat.mul_le_mul_left _ w64p;omega
structure Guess (y1 y0 u next q r:Nat):Prop where
 sum:u=q*y1+r
 ge:min ((u*W64+next) / (y1*W64+y0)) (W64 - 1)≤q
 lt:q<W64
section
variable {y1 y0 u next q r : Nat}
theorem Guess.low (h1:0<y1) (hn:next<W64) (hu:u / y1<W64):Guess y1 y0 u next (u / y1) (u % y1) :=
 ⟨(Trial.start (y0:=y0) h1 w64p hn).sum,Nat.le_trans (Nat.min_le_left _ _) (Trial.start h1 w64p hn).ge,hu⟩
theorem Guess.high (u1:Nat):Guess y1 y0 (y1*W64+u1) next (W64 - 1) (u1+y1) :=
 ⟨by rw [Nat.sub_mul,Nat.one_mul,Nat.mul_comm y1];have:y1≤W64*y1:=Nat.le_mul_of_pos_left _ w64p;omega,Nat.min_le_right _ _,Nat.sub_lt w64p Nat.one_pos⟩
theorem Guess.done (h:Guess y1 y0 u next q r) (h1:0<y1) (ht:q*y0≤r*W64+next):min ((u*W64+next) / (y1*W64+y0)) (W64 - 1)=q:=by
 refine Nat.le_antisymm h.ge (Nat.le_min.2 ⟨?_,by have:=h.lt;omega⟩)
 have hp:0<y1*W64+y0:=w64m h1
 rw [Nat.le_div_iff_mul_le hp]
 obtain ⟨e1,e2⟩:=expand y1 y0 W64 q r next
 rw [h.sum]
 omega
theorem Guess.over (h:Guess y1 y0 u next q r) (h1:0<y1) (hy:y0<W64) (hr:W64≤r):min ((u*W64+next) / (y1*W64+y0)) (W64 - 1)=q:=by
 refine h.done h1 ?_
 have h2:q*y0≤W64*W64:=Nat.mul_le_mul (by have:=h.lt;omega) (by omega)
 have h3:W64*W64≤r*W64:=Nat.mul_le_mul_right _ hr
 omega
theorem Guess.less (h:Guess y1 y0 u next q r) (h1:0<y1) (ht:r*W64+next<q*y0):0<q∧Guess y1 y0 u next (q - 1) (r+y1):=by
 have hp:0<y1*W64+y0:=w64m h1
 obtain ⟨e1,e2⟩:=expand y1 y0 W64 q r next
 have hlt:(u*W64+next) / (y1*W64+y0)<q:=by
  refine Nat.div_lt_of_lt_mul ?_
  have e3:u*W64+next=(q*y1+r)*W64+next:=congrArg (fun z=>z*W64+next) h.sum
  rw [Nat.mul_comm _ q,e1,e3,e2]
  exact Nat.add_lt_add_left ht _
 have hq:0<q:=Nat.lt_of_le_of_lt (Nat.zero_le _) hlt
 refine ⟨hq,?_,Nat.le_trans (Nat.min_le_left _ _) (Nat.le_sub_one_of_lt hlt),by have:=h.lt;omega⟩
 have:q*y1=(q - 1)*y1+y1:=by
  obtain ⟨q',rfl⟩:∃ q',q=q'+1:=⟨q - 1,by omega⟩
  rw [Nat.add_mul,Nat.one_mul,Nat.add_sub_cancel]
 have:=h.sum
 omega
theorem guess_test {H L x u0 r:Nat} (e:x=H*W64+L) (hL:L<W64) (hu:u0<W64):(H<r∨H=r∧L≤u0→x≤r*W64+u0)∧(¬ (H<r∨H=r∧L≤u0)→r*W64+u0<x):=by
 subst e
 constructor
 ·
  rintro (h | ⟨rfl,h⟩)
  ·
   have:(H+1)*W64≤r*W64:=Nat.mul_le_mul_right _ h
   rw [Nat.add_mul,Nat.one_mul] at this
   omega
  ·
   omega
 ·
  intro h
  rcases Nat.lt_trichotomy H r with h2 | h2 | h2
  ·
   exact absurd (.inl h2) h
  ·
   subst h2
   have:¬ L≤u0:=fun h3=>h (.inr ⟨rfl,h3⟩)
   omega
  ·
   have:(r+1)*W64≤H*W64:=Nat.mul_le_mul_right _ h2
   rw [Nat.add_mul,Nat.one_mul] at this
   omega
end
theorem guess_up (U V P Q:Nat) (hV:0<V) (hP:0<P) (h1:Q*(V / P)≤U / P) (hQ:Q<V / P):Q≤U / V+1:=by
 have v1:=Nat.mod_add_div V P
 have v2:=Nat.mod_lt V hP
 have u1:=Nat.mod_add_div U P
 have u2:=Nat.mod_lt U hP
 rcases Nat.lt_or_ge (U / V+1) Q with hlt | hge
 ·
  exfalso
  have h2:U<(U / V+1)*V:=by
   have e1:=Nat.mod_add_div U V
   have e2:=Nat.mod_lt U hV
   rw [Nat.add_mul,Nat.one_mul,Nat.mul_comm (U / V)];omega
  have h3:(U / V+1)*V≤(Q - 1)*V:=Nat.mul_le_mul_right _ (Nat.le_sub_one_of_lt hlt)
  have h4:Q*(V / P)*P≤U / P*P:=Nat.mul_le_mul_right _ h1
  have h5:Q*V=(Q - 1)*V+V:=by
   obtain ⟨Q',rfl⟩:=Nat.exists_eq_succ_of_ne_zero (Nat.ne_of_gt (Nat.lt_of_le_of_lt (Nat.zero_le _) hlt))
   rw [Nat.succ_mul,Nat.succ_sub_one]
  have h6:Q*V=Q*(V % P)+Q*(V / P)*P:=by
   have e:=congrArg (fun z=>Q*z) v1
   simp only [Nat.mul_add] at e
   rw [← e,Nat.mul_comm P,Nat.mul_assoc]
  have h7:Q*(V % P)≤Q*P:=Nat.mul_le_mul_left _ (by omega)
  have h8:Q*P≤(V / P - 1)*P:=Nat.mul_le_mul_right _ (Nat.le_sub_one_of_lt hQ)
  have h9:(V / P)*P=(V / P - 1)*P+P:=by
   obtain ⟨Z,hZ⟩:=Nat.exists_eq_succ_of_ne_zero (Nat.ne_of_gt (Nat.lt_of_le_of_lt (Nat.zero_le _) hQ))
   rw [hZ,Nat.succ_mul,Nat.succ_sub_one]
  have h10:U / P*P=P*(U / P):=Nat.mul_comm _ _
  have h11:V / P*P=P*(V / P):=Nat.mul_comm _ _
  clear hQ hlt h1
  generalize U / P=UP at *
  generalize V / P=VP at *
  generalize V % P=VM at *
  generalize U % P=UM at *
  generalize U / V=UV at *
  generalize VP - 1=VQ at *
  generalize Q - 1=QQ at *
  omega
 ·
  exact hge
theorem guess_word (U V P:Nat) (hV:0<V) (hP:0<P) (hU:U / V<W64) (hb:W64≤V / P):U / V≤min (U / P / (V / P)) (W64 - 1)∧min (U / P / (V / P)) (W64 - 1)≤U / V+1:=by
 have hV2:0<V / P:=by unfold W64 at hb;omega
 have hW:0<W64:=by unfold W64;omega
 constructor
 ·
  refine Nat.le_min.2 ⟨?_,by omega⟩
  rw [Nat.le_div_iff_mul_le hV2,Nat.le_div_iff_mul_le hP]
  have h1:U / V*V≤U:=Nat.div_mul_le_self _ _
  have h2:U / V*(V / P*P)≤U / V*V:=Nat.mul_le_mul_left _ (Nat.div_mul_le_self _ _)
  rw [← Nat.mul_assoc] at h2
  omega
 ·
  refine guess_up U V P _ hV hP ?_ (by have:=Nat.min_le_right (U / P / (V / P)) (W64 - 1);omega)
  exact Nat.le_trans (Nat.mul_le_mul_right _ (Nat.min_le_left _ _)) (Nat.div_mul_le_self _ _)
theorem top_words (U V m:Nat) (hm:2≤m) (hV:V<W64^m) (hU:U<W64^(m+1)) :
  U / W64^(m - 2)=(wordOf U m*W64+wordOf U (m - 1))*W64+wordOf U (m - 2)∧V / W64^(m - 2)=wordOf V (m - 1)*W64+wordOf V (m - 2):=by
 obtain ⟨k,rfl⟩:∃ k,m=k+2:=⟨m - 2,by omega⟩
 have st:∀ n j,n / W64^j=n / W64^(j+1)*W64+wordOf n j:=fun n j=>by
  unfold wordOf
  rw [Nat.pow_succ,← Nat.div_div_eq_div_mul]
  have:=Nat.mod_add_div (n / W64^j) W64
  rw [Nat.mul_comm] at this
  omega
 constructor
 ·
  have e1:=st U k
  have e2:=st U (k+1)
  have e3:=st U (k+2)
  rw [Nat.div_eq_of_lt hU,Nat.zero_mul,Nat.zero_add] at e3
  show U / W64^k=(wordOf U (k+2)*W64+wordOf U (k+1))*W64+wordOf U k
  rw [e1,e2,e3]
 ·
  have e1:=st V k
  have e2:=st V (k+1)
  rw [Nat.div_eq_of_lt hV,Nat.zero_mul,Nat.zero_add] at e2
  show V / W64^k=wordOf V (k+1)*W64+wordOf V k
  rw [e1,e2]
def leftU (U P m:Nat):Nat:=U+W64^(m+1) - P
theorem take_word (U P m k:Nat) (hP:P<W64^(m+1)) (hk:k≤m):(wordOf U k+(W64 - wordOf P k)+(W64 - borrowS U P k)) % W64=wordOf (leftU U P m) k∧(if wordOf U k<wordOf P k+borrowS U P k then 1 else 0)=borrowS U P (k+1):=by
 have h:=sub_word (U+1*W64^(m+1)) P k (by omega)
 have hb:∀ j,j≤m+1→borrowS (U+1*W64^(m+1)) P j=borrowS U P j:=fun j hj=>by unfold borrowS;rw [far_mod _ _ _ _ hj]
 rw [far_word _ _ _ _ (by omega),hb k (by omega),hb (k+1) (by omega),Nat.one_mul] at h
 exact h
theorem take_end (U P m:Nat) (hU:U<W64^(m+1)) (hP:P<W64^(m+1)):borrowS U P (m+1)=if U<P then 1 else 0:=by
 unfold borrowS;rw [Nat.mod_eq_of_lt hU,Nat.mod_eq_of_lt hP]
theorem take_right (U P m:Nat) (h:P≤U) (k:Nat) (hk:k≤m):wordOf (leftU U P m) k=wordOf (U - P) k:=by
 unfold leftU
 rw [show U+W64^(m+1) - P=(U - P)+1*W64^(m+1) by omega]
 exact far_word _ _ _ _ (by omega)
theorem back_right (U P V m:Nat) (h:U<P) (h2:P≤U+V) (hP:P<W64^(m+1)) (k:Nat) (hk:k≤m):wordOf (leftU U P m+V) k=wordOf (U+V - P) k:=by
 unfold leftU
 rw [show U+W64^(m+1) - P+V=(U+V - P)+1*W64^(m+1) by omega]
 exact far_word _ _ _ _ (by omega)
theorem over_word (V q m:Nat) (hV:V<W64^m) (hq:q<W64):carryM V q 0 m=wordOf (V*q) m∧V*q<W64^(m+1):=by
 have h1:V*q<W64^(m+1):=by rw [Nat.pow_succ];exact Nat.mul_lt_mul'' hV hq
 refine ⟨?_,h1⟩
 unfold carryM wordOf
 rw [Nat.mod_eq_of_lt hV,Nat.add_zero]
 refine (Nat.mod_eq_of_lt (Nat.div_lt_of_lt_mul ?_)).symm
 rwa [← Nat.pow_succ]
theorem back_last (D V m:Nat) (hV:V<W64^m):(wordOf D m+carryA D V m) % W64=wordOf (D+V) m:=by
 have:=(add_word D V m).1
 rwa [wordOf_big hV,Nat.add_zero] at this
theorem put_back (U V Q:Nat) (hV:0<V):(Q=U / V→V*Q≤U∧U - V*Q=U % V)∧(Q=U / V+1→U<V*Q∧V*Q≤U+V∧U+V - V*Q=U % V):=by
 have e:=Nat.mod_add_div U V
 have e2:=Nat.mod_lt U hV
 constructor
 ·
  rintro rfl;omega
 ·
  rintro rfl
  rw [Nat.mul_add,Nat.mul_one];omega
def leftX (X V k:Nat):Nat:=X % (V*W64^k)
theorem leftX_start (X V k:Nat) (h:X<V*W64^k):leftX X V k=X:=Nat.mod_eq_of_lt h
theorem leftX_end (X V:Nat):leftX X V 0=X % V:=by unfold leftX;rw [Nat.pow_zero,Nat.mul_one]
theorem leftX_lt (X V k:Nat) (hV:0<V):leftX X V k<V*W64^k:=Nat.mod_lt _ (Nat.mul_pos hV (W64_pos k))
theorem place_word (X V k:Nat) (hV:0<V):leftX X V (k+1) / W64^k / V=wordOf (X / V) k:=by
 unfold leftX wordOf
 have e:X % (V*W64^(k+1)) / (V*W64^k)=X / (V*W64^k) % W64:=by
  rw [Nat.pow_succ,← Nat.mul_assoc,Nat.mod_mul_right_div_self]
 rw [Nat.div_div_eq_div_mul,Nat.mul_comm (W64^k) V,e,← Nat.div_div_eq_div_mul]
theorem place_left (X V k:Nat):leftX X V k=leftX X V (k+1) / W64^k % V*W64^k+leftX X V (k+1) % W64^k:=by
 have hp:=W64_pos k
 have e1:leftX X V k=leftX X V (k+1) % (V*W64^k):=by
  unfold leftX
  rw [Nat.pow_succ,← Nat.mul_assoc,Nat.mod_mul_right_mod]
 rw [e1,Nat.mul_comm V,Nat.mod_mul]
 rw [Nat.add_comm,Nat.mul_comm]
theorem place_below (X V k:Nat) (hV:0<V):leftX X V (k+1) / W64^k<V*W64:=by
 refine Nat.div_lt_of_lt_mul ?_
 have:=leftX_lt X V (k+1) hV
 rw [Nat.pow_succ,← Nat.mul_assoc] at this
 rwa [Nat.mul_comm (W64^k),Nat.mul_right_comm]
theorem place_words (X V k j:Nat):wordOf (leftX X V k) j=if j<k then wordOf (leftX X V (k+1)) j else wordOf (leftX X V (k+1) / W64^k % V) (j - k):=by
 rw [place_left];exact rest_word _ _ _ _
end Go.Proofs.YtmhainidincjhaaGreatDoor
namespace Go.Proofs.YtmhainidincjhaaGreatDoor
open Go.RowKit Go.Extern.Stop Go.Stop Go.Extern
theorem words_any (a:Option Addr) (c n:Nat) (w:World) (h:NatW w a c n) (hs:lenW n≤17592186044416):Calls Tryz.prog 161 #[.agg #[.slice a (lenW n) c]] w (OwnR w 164 1 (lenW n) ((toWords n).map UV)):=by
 have HC:=qH (cloneW _ _ _ _ (h.sl.alloc (.cells #[.slice a (lenW n) c] 41)) (one_UV _) (by omega))
 obtain ⟨la,hla⟩:∃ la,lenW n=la:=⟨_,rfl⟩
 obtain ⟨ws,hws⟩:∃ ws,(toWords n).map UV=ws:=⟨_,rfl⟩
 rw [hla,hws] at HC ⊢
 clear h hs hla hws
 go_enter Tryz.func161,Tryz.ntmps161
 go_wp2_with fail
 refine HC.out.mono ?_
 rintro e w1 ⟨a1,c1,rfl,hm,hb⟩
 have HM:=qH hm
 have HB:=qH hb
 clear hm hb HC
 go_wp2_with fail
 go_ret
 exact ⟨a1,c1,rfl,HM.out.mono (belowBox w _).size,bthen (belowBox w _) HB.out⟩
theorem Sl.till {w:World} {size n:Nat} {a:Option Addr} {c:Nat} {cs:List Value} (h:Sl w size (.slice a n c) n cs) (m:Nat) (hm:m≤n):Sl w size (.slice a m c) m (cs.take (m*size)):=by
 have hl:m*size≤n*size:=Nat.mul_le_mul_right _ hm
 refine ⟨by rw [List.length_take,h.1];omega,?_⟩
 rcases h.2 with ⟨a1,c1,e,h0,h1,h2⟩ | ⟨b,o,c1,e,h1,h2,h3,h4⟩
 ·
  cases e
  exact .inl ⟨a,c,by rw [show m=0 by omega],by omega,h1,h2⟩
 ·
  cases e
  refine .inr ⟨b,o,c,rfl,by omega,h2,h3,fun j u hj=>h4 j u ?_⟩
  rw [List.getElem?_take] at hj
  split at hj
  ·
   exact hj
  ·
   cases hj
theorem Sl.from {w:World} {n:Nat} {a:Option Addr} {c:Nat} {cs:List Value} (h:Sl w 1 (.slice a n c) n cs) (l:Nat) (hl:l≤n):Sl w 1 (.slice (if c=l then a else a.map (·.add l)) (n - l) (c - l)) (n - l) (cs.drop l):=by
 refine ⟨by rw [List.length_drop,h.1];omega,?_⟩
 rcases h.2 with ⟨a1,c1,e,h0,h1,h2⟩ | ⟨b,o,c1,e,h1,h2,h3,h4⟩
 ·
  cases e
  refine .inl ⟨_,c - l,rfl,by omega,by omega,fun he=>?_⟩
  split at he
  ·
   omega
  ·
   have:a=none:=by cases a <;> simp_all
   have:=h2 this;omega
 ·
  cases e
  by_cases hc:c=l
  ·
   exact .inl ⟨_,c - l,rfl,by omega,by omega,fun _=>by omega⟩
  ·
   rw [if_neg hc]
   refine .inr ⟨b,o+l,c - l,by simp [Addr.add],by omega,by omega,h3,fun j u hj=>?_⟩
   rw [List.getElem?_drop] at hj
   rw [Nat.add_assoc]
   exact h4 _ u hj
theorem val_take_words (n k:Nat) (hk:k≤lenW n):val ((toWords n).take k)=n % W64^k∧val ((toWords n).drop k)=n / W64^k:=by
 have h1:=val_append ((toWords n).take k) ((toWords n).drop k)
 have hl:((toWords n).take k).length=k:=by rw [List.length_take];exact Nat.min_eq_left hk
 rw [List.take_append_drop,val_toWords,hl] at h1
 have h2:=val_lt ((toWords n).take k) fun x hx=>toWords_lt n x (List.mem_of_mem_take hx)
 rw [hl] at h2
 have hp:=W64_pos k
 constructor
 ·
  have h3:=congrArg (· % W64^k) h1
  simp only [Nat.add_mul_mod_self_left,Nat.mod_eq_of_lt h2] at h3
  exact h3.symm
 ·
  have h3:=congrArg (· / W64^k) h1
  simp only [Nat.add_mul_div_left _ _ hp,Nat.div_eq_of_lt h2,Nat.zero_add] at h3
  exact h3.symm
def RetN2 (m n:Nat) (w:World) (e:Ending) (w':World):Prop:=∃ a c b d,e=.returned (.tuple #[.agg #[.slice a (lenW m) c],.agg #[.slice b (lenW n) d]])∧NatW w' a c m∧NatW w' b d n∧Below w.heap.size w w'
theorem cut_lo (a:Option Addr) (c n p:Nat) (w:World) (h:NatW w a c n) (hs:lenW n≤17592186044416) (hp:p≤17592186044416) (hx:lenW n<p):Calls Tryz.prog 205 #[.agg #[.slice a (lenW n) c],.int .i64 p] w (RetN2 (n % W64^p) (n / W64^p) w):=by
 obtain ⟨k,hk⟩:∃ k,min p (lenW n)=k:=⟨_,rfl⟩
 have hkl:k≤lenW n:=by omega
 have hkp:k≤p:=by omega
 obtain ⟨v1,v2⟩:=val_take_words n k hkl
 have e1:n % W64^k=n % W64^p∧n / W64^k=n / W64^p:=by
  by_cases h1:p≤lenW n
  ·
   rw [show k=p by omega];exact ⟨rfl,rfl⟩
  ·
   have h2:n<W64^lenW n:=lt_pow_len n
   have h3:n<W64^p:=Nat.lt_of_lt_of_le h2 (Nat.pow_le_pow_right (by unfold W64;omega) (show lenW n≤p by omega))
   have a1:n % W64^k=n:=Nat.mod_eq_of_lt (by rw [show k=lenW n by omega];exact h2)
   have a2:n / W64^k=0:=Nat.div_eq_of_lt (by rw [show k=lenW n by omega];exact h2)
   rw [a1,a2,Nat.mod_eq_of_lt h3,Nat.div_eq_of_lt h3];exact ⟨rfl,rfl⟩
 rw [e1.1] at v1
 rw [e1.2] at v2
 have hof:∀ (a1:Option Addr) (c1:Nat) (W:World),Sl W 1 (.slice a1 (lenW n) c1) (lenW n) ((toWords n).map UV)→Calls Tryz.prog 68 #[.slice a1 k c1] W (RetN (n % W64^p) W)∧∀ d,d=lenW n - k→Calls Tryz.prog 68 #[.slice (if c1=k then a1 else a1.map (·.add k)) d (c1 - k)] W (RetN (n / W64^p) W):=fun a1 c1 W hm=>by
  have s1:=Sl.till hm k hkl
  have s2:=Sl.from hm k hkl
  rw [Nat.mul_one,← List.map_take] at s1
  rw [← List.map_drop] at s2
  have r1:=of_any a1 c1 k _ W s1 (fun x hx=>toWords_lt n x (List.mem_of_mem_take hx)) (by omega)
  have r2:=of_any _ (c1 - k) (lenW n - k) _ W s2 (fun x hx=>toWords_lt n x (List.mem_of_mem_drop hx)) (by omega)
  rw [v1] at r1
  rw [v2] at r2
  exact ⟨r1,fun d hd=>by rw [hd];exact r2⟩
 have HWD:=qH (words_any a c n _ (h.below (below3 w (.cells #[.slice a (lenW n) c] 41) (.cells #[.slice none 0 0] 41) (.cells #[.slice none 0 0] 41))) hs)
 have HOF:=qH hof
 obtain ⟨e0,e1',e2⟩:=heap3 w (.cells #[.slice a (lenW n) c] 41) (.cells #[.slice none 0 0] 41) (.cells #[.slice none 0 0] 41)
 have hb0:=below3 w (.cells #[.slice a (lenW n) c] 41) (.cells #[.slice none 0 0] 41) (.cells #[.slice none 0 0] 41)
 obtain ⟨la,hla⟩:∃ la,lenW n=la:=⟨_,rfl⟩
 obtain ⟨ws,hws⟩:∃ ws,(toWords n).map UV=ws:=⟨_,rfl⟩
 obtain ⟨qa,hqa⟩:∃ q,n % W64^p=q:=⟨_,rfl⟩
 obtain ⟨qb,hqb⟩:∃ q,n / W64^p=q:=⟨_,rfl⟩
 rw [hla] at hx hkl hs hk e0 e1' e2 hb0
 rw [hla,hws] at HWD
 rw [hla,hws,hqa,hqb] at HOF
 rw [hla,hqa,hqb]
 obtain ⟨W0,hW0⟩:∃ W0,W0=(((w.alloc (.cells #[.slice a la c] 41)).alloc (.cells #[.slice none 0 0] 41)).alloc (.cells #[.slice none 0 0] 41)):=⟨_,rfl⟩
 rw [← hW0] at HWD e0 e1' e2 hb0
 obtain rfl:la=k:=by omega
 have HW0:=qH hW0
 have HE0:=qH e0
 have HE1:=qH e1'
 have HE2:=qH e2
 have HB:=qH hb0
 have hmin:(la:Int)≤17592186044416:=by omega
 have hk0:(0:Int)≤(la:Int):=by omega
 have hk2:(la:Int)<(p:Int):=by omega
 clear hkl hkp h hk v1 v2 e1 hof e0 e1' e2 hb0 hla hws hqa hqb hW0
 go_enter Tryz.func205,Tryz.ntmps205
 go_upto_region 1 with fail
 rw [← HW0.out]
 have k0:=cell_of_block (j:=0) HE0.out rfl
 go_wp2_with fail
 clear k0
 refine HWD.out.mono ?_
 rintro e w1 ⟨a1,c1,rfl,hm,hb⟩
 have HM:=qH hm
 replace HB:=qH (bthen HB.out hb)
 replace HE1:=qH ((hb.block _ (lt_of_block HE1.out)).trans HE1.out)
 replace HE2:=qH ((hb.block _ (lt_of_block HE2.out)).trans HE2.out)
 have hlc:la≤c1∧c1≤9223372036854775807:=by
  obtain ⟨x,y,e9,h1,h2,_⟩:=(Sl.ofMid hm).len
  cases e9
  unfold maxLen at h2;exact ⟨h1,by omega⟩
 have hpc:la≤c1:=by omega
 clear hm hb HWD HE0
 go_upto_region 3 with fail
 refine wp_region_held_drew (S:=fun _=>True) (by kernel_rfl) (trivial) (fun hHeld=>?_)
 replace HM:=qH HM.out.drew
 replace HB:=qH HB.out.drew
 replace HE1:=qH (show w1.drew.heap[_]?=_ from HE1.out)
 replace HE2:=qH (show w1.drew.heap[_]?=_ from HE2.out)
 generalize w1.drew=wd at HM HB HE1 HE2 hHeld ⊢
 refine tm 0 (some 13) ?_
 refine tm 1 (some 14) ?_
 refine tm 2 (some 15) ?_
 refine tm 4 (some 17) ?_
 refine tm 5 (some 18) ?_
 refine tm 6 (some 19) ?_
 refine wpAnyH_ready (rs:=[3]) (by kernel_rfl) (by simp) ?_
 refine (AllReadyH.cons rfl (fun K hK=>?_) AllReadyH.nil)
 go_simp
 refine (HOF.out _ _ wd (Sl.ofMid HM.out)).1.mono ?_
 rintro e x1 ⟨a2,c2,rfl,hn2,hb⟩
 have HN2:=qH hn2
 replace HM:=qH (HM.out.below hb fun k hk=>(HM.out.lt k hk).2)
 replace HB:=qH (bthen HB.out hb)
 replace HE1:=qH ((hb.block _ (lt_of_block HE1.out)).trans HE1.out)
 replace HE2:=qH ((hb.block _ (lt_of_block HE2.out)).trans HE2.out)
 clear hn2 hb
 refine hK.out _ _ (trivial) (fun hHeld2=>?_)
 clear hK K hHeld
 rename _=>hHeld
 try simp only [Act.put,stB,stZ,stS]
 refine wpAnyH_ready (rs:=[7]) (by kernel_rfl) (by simp) ?_
 refine (AllReadyH.cons rfl (fun K hK=>?_) AllReadyH.nil)
 go_simp
 refine ((HOF.out _ _ x1 (Sl.ofMid HM.out)).2 _ (by omega)).mono ?_
 rintro e x2 ⟨a3,c3,rfl,hn3,hb⟩
 have HN3:=qH hn3
 replace HN2:=qH (HN2.out.below hb)
 replace HB:=qH (bthen HB.out hb)
 replace HE1:=qH ((hb.block _ (lt_of_block HE1.out)).trans HE1.out)
 replace HE2:=qH ((hb.block _ (lt_of_block HE2.out)).trans HE2.out)
 clear hn3 hb
 refine hK.out _ _ (trivial) (fun hHeld2=>?_)
 clear hK K hHeld
 rename _=>hHeld
 try simp only [Act.put,stB,stZ,stS]
 refine wpAnyH_ready (rs:=[8]) (by kernel_rfl) (by simp) ?_
 refine (AllReadyH.cons rfl (fun K hK=>?_) AllReadyH.nil)
 have k1:=cell_of_block (j:=0) HE1.out rfl
 have f1:=free_of_block (j:=0) HE1.out
 go_simp
 replace HN2:=qH (HN2.out.set k1 (fun _=>by simp) (.slice a2 (lenW qa) c2))
 replace HN3:=qH (HN3.out.set k1 (fun _=>by simp) (.slice a2 (lenW qa) c2))
 replace HB:=qH (HB.out.setCell (show w.heap.size≤(⟨w.heap.size+1,0,none⟩:Addr).block by simp) (.slice a2 (lenW qa) c2))
 have hk:=Keeps.setCell x2 ⟨w.heap.size+1,0,none⟩ (.slice a2 (lenW qa) c2) (S:=fun z=>z=w.heap.size+1) rfl
 replace HE2:=qH ((hk.block _ (lt_of_block HE2.out) (by omega)).trans HE2.out)
 replace HE1:=qH (heap_setCell_same x2 (w.heap.size+1) 0 _ _ (.slice a2 (lenW qa) c2) HE1.out)
 clear k1 f1 hk
 refine hK.out _ _ (trivial) (fun hHeld2=>?_)
 clear hK K hHeld
 rename _=>hHeld
 try simp only [Act.put,stB,stZ,stS]
 refine wpAnyH_ready (rs:=[9]) (by kernel_rfl) (by simp) ?_
 refine (AllReadyH.cons rfl (fun K hK=>?_) AllReadyH.nil)
 have k1:=cell_of_block (j:=0) HE2.out rfl
 have f1:=free_of_block (j:=0) HE2.out
 go_simp
 generalize x2.setCell ⟨w.heap.size+1,0,none⟩ (.slice a2 (lenW qa) c2)=x3 at HN2 HN3 HB HE1 HE2 k1 f1 ⊢
 have HN2':=qH (HN2.out.set k1 (fun _=>by simp) (.slice a3 (lenW qb) c3))
 have HN3':=qH (HN3.out.set k1 (fun _=>by simp) (.slice a3 (lenW qb) c3))
 have HBZ:=qH (HB.out.setCell (show w.heap.size≤(⟨w.heap.size+1+1,0,none⟩:Addr).block by simp;omega) (.slice a3 (lenW qb) c3))
 have hk:=Keeps.setCell x3 ⟨w.heap.size+1+1,0,none⟩ (.slice a3 (lenW qb) c3) (S:=fun z=>z=w.heap.size+1+1) rfl
 have j1:=cell_of_block (j:=0) ((hk.block _ (lt_of_block HE1.out) (by omega)).trans HE1.out) rfl
 have j2:=cell_of_block (j:=0) (heap_setCell_same x3 (w.heap.size+1+1) 0 _ _ (.slice a3 (lenW qb) c3) HE2.out) rfl
 clear k1 f1 hk
 refine hK.out _ _ (trivial) (fun hHeld2=>?_)
 clear hK K hHeld
 rename _=>hHeld
 try simp only [Act.put,stB,stZ,stS]
 refine wpAnyH_done (by kernel_rfl) ?_ _
 go_wp2_with fail
 all_goals refine bodyPost_ret (v:=.tuple #[.agg #[.slice a2 (lenW qa) c2],.agg #[.slice a3 (lenW qb) c3]]) (by simp [results,Tryz.results205,go_sem,j1,j2]) rfl ?_
 all_goals exact ⟨a2,c2,a3,c3,rfl,HN2'.out,HN3'.out,HBZ.out⟩
theorem cut_hi (a:Option Addr) (c n p:Nat) (w:World) (h:NatW w a c n) (hs:lenW n≤17592186044416) (hp:p≤17592186044416) (hx:¬ lenW n<p):Calls Tryz.prog 205 #[.agg #[.slice a (lenW n) c],.int .i64 p] w (RetN2 (n % W64^p) (n / W64^p) w):=by
 obtain ⟨k,hk⟩:∃ k,min p (lenW n)=k:=⟨_,rfl⟩
 have hkl:k≤lenW n:=by omega
 have hkp:k≤p:=by omega
 obtain ⟨v1,v2⟩:=val_take_words n k hkl
 have e1:n % W64^k=n % W64^p∧n / W64^k=n / W64^p:=by
  by_cases h1:p≤lenW n
  ·
   rw [show k=p by omega];exact ⟨rfl,rfl⟩
  ·
   have h2:n<W64^lenW n:=lt_pow_len n
   have h3:n<W64^p:=Nat.lt_of_lt_of_le h2 (Nat.pow_le_pow_right (by unfold W64;omega) (show lenW n≤p by omega))
   have a1:n % W64^k=n:=Nat.mod_eq_of_lt (by rw [show k=lenW n by omega];exact h2)
   have a2:n / W64^k=0:=Nat.div_eq_of_lt (by rw [show k=lenW n by omega];exact h2)
   rw [a1,a2,Nat.mod_eq_of_lt h3,Nat.div_eq_of_lt h3];exact ⟨rfl,rfl⟩
 rw [e1.1] at v1
 rw [e1.2] at v2
 have hof:∀ (a1:Option Addr) (c1:Nat) (W:World),Sl W 1 (.slice a1 (lenW n) c1) (lenW n) ((toWords n).map UV)→Calls Tryz.prog 68 #[.slice a1 k c1] W (RetN (n % W64^p) W)∧∀ d,d=lenW n - k→Calls Tryz.prog 68 #[.slice (if c1=k then a1 else a1.map (·.add k)) d (c1 - k)] W (RetN (n / W64^p) W):=fun a1 c1 W hm=>by
  have s1:=Sl.till hm k hkl
  have s2:=Sl.from hm k hkl
  rw [Nat.mul_one,← List.map_take] at s1
  rw [← List.map_drop] at s2
  have r1:=of_any a1 c1 k _ W s1 (fun x hx=>toWords_lt n x (List.mem_of_mem_take hx)) (by omega)
  have r2:=of_any _ (c1 - k) (lenW n - k) _ W s2 (fun x hx=>toWords_lt n x (List.mem_of_mem_drop hx)) (by omega)
  rw [v1] at r1
  rw [v2] at r2
  exact ⟨r1,fun d hd=>by rw [hd];exact r2⟩
 have HWD:=qH (words_any a c n _ (h.below (below3 w (.cells #[.slice a (lenW n) c] 41) (.cells #[.slice none 0 0] 41) (.cells #[.slice none 0 0] 41))) hs)
 have HOF:=qH hof
 obtain ⟨e0,e1',e2⟩:=heap3 w (.cells #[.slice a (lenW n) c] 41) (.cells #[.slice none 0 0] 41) (.cells #[.slice none 0 0] 41)
 have hb0:=below3 w (.cells #[.slice a (lenW n) c] 41) (.cells #[.slice none 0 0] 41) (.cells #[.slice none 0 0] 41)
 obtain ⟨la,hla⟩:∃ la,lenW n=la:=⟨_,rfl⟩
 obtain ⟨ws,hws⟩:∃ ws,(toWords n).map UV=ws:=⟨_,rfl⟩
 obtain ⟨qa,hqa⟩:∃ q,n % W64^p=q:=⟨_,rfl⟩
 obtain ⟨qb,hqb⟩:∃ q,n / W64^p=q:=⟨_,rfl⟩
 rw [hla] at hx hkl hs hk e0 e1' e2 hb0
 rw [hla,hws] at HWD
 rw [hla,hws,hqa,hqb] at HOF
 rw [hla,hqa,hqb]
 obtain ⟨W0,hW0⟩:∃ W0,W0=(((w.alloc (.cells #[.slice a la c] 41)).alloc (.cells #[.slice none 0 0] 41)).alloc (.cells #[.slice none 0 0] 41)):=⟨_,rfl⟩
 rw [← hW0] at HWD e0 e1' e2 hb0
 obtain rfl:p=k:=by omega
 have HW0:=qH hW0
 have HE0:=qH e0
 have HE1:=qH e1'
 have HE2:=qH e2
 have HB:=qH hb0
 have hmin:(la:Int)≤17592186044416:=by omega
 have hk0:(0:Int)≤(p:Int):=by omega
 have hk1:(p:Int)≤(la:Int):=by omega
 clear hkl hkp h hk v1 v2 e1 hof e0 e1' e2 hb0 hla hws hqa hqb hW0
 go_enter Tryz.func205,Tryz.ntmps205
 go_upto_region 1 with fail
 rw [← HW0.out]
 have k0:=cell_of_block (j:=0) HE0.out rfl
 go_wp2_with fail
 clear k0
 refine HWD.out.mono ?_
 rintro e w1 ⟨a1,c1,rfl,hm,hb⟩
 have HM:=qH hm
 replace HB:=qH (bthen HB.out hb)
 replace HE1:=qH ((hb.block _ (lt_of_block HE1.out)).trans HE1.out)
 replace HE2:=qH ((hb.block _ (lt_of_block HE2.out)).trans HE2.out)
 have hlc:la≤c1∧c1≤9223372036854775807:=by
  obtain ⟨x,y,e9,h1,h2,_⟩:=(Sl.ofMid hm).len
  cases e9
  unfold maxLen at h2;exact ⟨h1,by omega⟩
 have hpc:p≤c1:=by omega
 have hpl:p≤la:=by omega
 clear hm hb HWD HE0
 go_upto_region 3 with fail
 refine wp_region_held_drew (S:=fun _=>True) (by kernel_rfl) (trivial) (fun hHeld=>?_)
 replace HM:=qH HM.out.drew
 replace HB:=qH HB.out.drew
 replace HE1:=qH (show w1.drew.heap[_]?=_ from HE1.out)
 replace HE2:=qH (show w1.drew.heap[_]?=_ from HE2.out)
 generalize w1.drew=wd at HM HB HE1 HE2 hHeld ⊢
 refine tm 0 (some 13) ?_
 refine tm 1 (some 14) ?_
 refine tm 2 (some 15) ?_
 refine tm 4 (some 17) ?_
 refine tm 5 (some 18) ?_
 refine tm 6 (some 19) ?_
 refine wpAnyH_ready (rs:=[3]) (by kernel_rfl) (by simp) ?_
 refine (AllReadyH.cons rfl (fun K hK=>?_) AllReadyH.nil)
 go_simp
 refine (HOF.out _ _ wd (Sl.ofMid HM.out)).1.mono ?_
 rintro e x1 ⟨a2,c2,rfl,hn2,hb⟩
 have HN2:=qH hn2
 replace HM:=qH (HM.out.below hb fun k hk=>(HM.out.lt k hk).2)
 replace HB:=qH (bthen HB.out hb)
 replace HE1:=qH ((hb.block _ (lt_of_block HE1.out)).trans HE1.out)
 replace HE2:=qH ((hb.block _ (lt_of_block HE2.out)).trans HE2.out)
 clear hn2 hb
 refine hK.out _ _ (trivial) (fun hHeld2=>?_)
 clear hK K hHeld
 rename _=>hHeld
 try simp only [Act.put,stB,stZ,stS]
 refine wpAnyH_ready (rs:=[7]) (by kernel_rfl) (by simp) ?_
 refine (AllReadyH.cons rfl (fun K hK=>?_) AllReadyH.nil)
 go_simp
 refine ((HOF.out _ _ x1 (Sl.ofMid HM.out)).2 _ (by omega)).mono ?_
 rintro e x2 ⟨a3,c3,rfl,hn3,hb⟩
 have HN3:=qH hn3
 replace HN2:=qH (HN2.out.below hb)
 replace HB:=qH (bthen HB.out hb)
 replace HE1:=qH ((hb.block _ (lt_of_block HE1.out)).trans HE1.out)
 replace HE2:=qH ((hb.block _ (lt_of_block HE2.out)).trans HE2.out)
 clear hn3 hb
 refine hK.out _ _ (trivial) (fun hHeld2=>?_)
 clear hK K hHeld
 rename _=>hHeld
 try simp only [Act.put,stB,stZ,stS]
 refine wpAnyH_ready (rs:=[8]) (by kernel_rfl) (by simp) ?_
 refine (AllReadyH.cons rfl (fun K hK=>?_) AllReadyH.nil)
 have k1:=cell_of_block (j:=0) HE1.out rfl
 have f1:=free_of_block (j:=0) HE1.out
 go_simp
 replace HN2:=qH (HN2.out.set k1 (fun _=>by simp) (.slice a2 (lenW qa) c2))
 replace HN3:=qH (HN3.out.set k1 (fun _=>by simp) (.slice a2 (lenW qa) c2))
 replace HB:=qH (HB.out.setCell (show w.heap.size≤(⟨w.heap.size+1,0,none⟩:Addr).block by simp) (.slice a2 (lenW qa) c2))
 have hk:=Keeps.setCell x2 ⟨w.heap.size+1,0,none⟩ (.slice a2 (lenW qa) c2) (S:=fun z=>z=w.heap.size+1) rfl
 replace HE2:=qH ((hk.block _ (lt_of_block HE2.out) (by omega)).trans HE2.out)
 replace HE1:=qH (heap_setCell_same x2 (w.heap.size+1) 0 _ _ (.slice a2 (lenW qa) c2) HE1.out)
 clear k1 f1 hk
 refine hK.out _ _ (trivial) (fun hHeld2=>?_)
 clear hK K hHeld
 rename _=>hHeld
 try simp only [Act.put,stB,stZ,stS]
 refine wpAnyH_ready (rs:=[9]) (by kernel_rfl) (by simp) ?_
 refine (AllReadyH.cons rfl (fun K hK=>?_) AllReadyH.nil)
 have k1:=cell_of_block (j:=0) HE2.out rfl
 have f1:=free_of_block (j:=0) HE2.out
 go_simp
 generalize x2.setCell ⟨w.heap.size+1,0,none⟩ (.slice a2 (lenW qa) c2)=x3 at HN2 HN3 HB HE1 HE2 k1 f1 ⊢
 have HN2':=qH (HN2.out.set k1 (fun _=>by simp) (.slice a3 (lenW qb) c3))
 have HN3':=qH (HN3.out.set k1 (fun _=>by simp) (.slice a3 (lenW qb) c3))
 have HBZ:=qH (HB.out.setCell (show w.heap.size≤(⟨w.heap.size+1+1,0,none⟩:Addr).block by simp;omega) (.slice a3 (lenW qb) c3))
 have hk:=Keeps.setCell x3 ⟨w.heap.size+1+1,0,none⟩ (.slice a3 (lenW qb) c3) (S:=fun z=>z=w.heap.size+1+1) rfl
 have j1:=cell_of_block (j:=0) ((hk.block _ (lt_of_block HE1.out) (by omega)).trans HE1.out) rfl
 have j2:=cell_of_block (j:=0) (heap_setCell_same x3 (w.heap.size+1+1) 0 _ _ (.slice a3 (lenW qb) c3) HE2.out) rfl
 clear k1 f1 hk
 refine hK.out _ _ (trivial) (fun hHeld2=>?_)
 clear hK K hHeld
 rename _=>hHeld
 try simp only [Act.put,stB,stZ,stS]
 refine wpAnyH_done (by kernel_rfl) ?_ _
 go_wp2_with fail
 all_goals refine bodyPost_ret (v:=.tuple #[.agg #[.slice a2 (lenW qa) c2],.agg #[.slice a3 (lenW qb) c3]]) (by simp [results,Tryz.results205,go_sem,j1,j2]) rfl ?_
 all_goals exact ⟨a2,c2,a3,c3,rfl,HN2'.out,HN3'.out,HBZ.out⟩
theorem cut_any (a:Option Addr) (c n p:Nat) (w:World) (h:NatW w a c n) (hs:lenW n≤17592186044416) (hp:p≤17592186044416):Calls Tryz.prog 205 #[.agg #[.slice a (lenW n) c],.int .i64 p] w (RetN2 (n % W64^p) (n / W64^p) w):=by
 by_cases hx:lenW n<p
 ·
  exact cut_lo a c n p w h hs hp hx
 ·
  exact cut_hi a c n p w h hs hp hx
theorem hu4 {w W:World} {b o:Nat} {v:Value} (hb:Below w.heap.size w W) (h:w.cell? ⟨b,o,none⟩=some v):W.cell? ⟨b,o,none⟩=some v:=(hb.cell (World.block_lt_of_cell? _ _ h)).trans h
theorem mid_under4 {w w':World} {base:Nat} {e:TypeId} {size:Nat} {v:Value} {n:Nat} {xs:List Value} (hm:Mid w base e size v n xs) (hb:Below w.heap.size w w'):Mid w' base e size v n xs:=hm.below hb fun k hk=>(hm.lt k hk).2
theorem heap2' (w:World) (o1 o2:Obj):((w.alloc o1).alloc o2).heap[w.heap.size]?=some o1∧((w.alloc o1).alloc o2).heap[w.heap.size+1]?=some o2:=by
 have h1:=heap_alloc_new w o1
 have h2:=heap_alloc_new (w.alloc o1) o2
 have e1:(w.alloc o1).heap.size=w.heap.size+1:=by simp
 exact ⟨(Below.heap_alloc _ _ _ (by rw [e1];omega)).trans h1,by rw [← e1];exact h2⟩
theorem val_zeros (k:Nat):val (List.replicate k 0)=0:=by
 induction k with
 | zero=>rfl
 | succ k ih=>simp [List.replicate_succ,val,ih]
theorem val_raised (n k:Nat):val (List.replicate k 0++toWords n)=n*W64^k:=by
 rw [val_append,val_zeros,List.length_replicate,val_toWords,Nat.zero_add,Nat.mul_comm]
theorem zero_mid {base:Nat} {W:World} (k:Nat) (hk:k≤35184372088832) (hb:base≤W.heap.size):Mid (W.alloc (.cells (zeroC k) 164)) base 164 1 (.slice (some ⟨W.heap.size,0,none⟩) k k) k ((List.replicate k 0).map UV):=by
 have h1:(zeroC k).toList=(List.replicate k 0).map UV:=by unfold zeroC;simp
 have h2:(zeroC k).size=k:=by rw [← Array.length_toList,h1];simp
 have h:=Mid.new (base:=base) W 164 1 k k (zeroC k) hb (Nat.le_refl _) (by unfold maxLen;omega) (by rw [h2];omega)
 rw [h1,Nat.mul_one,List.take_of_length_le (by simp)] at h
 exact h
theorem raised_any (a:Option Addr) (c n k:Nat) (w:World) (h:NatW w a c n) (hs:lenW n+k≤17592186044416):Calls Tryz.prog 208 #[.agg #[.slice a (lenW n) c],.int .i64 k] w (RetN (n*W64^k) w):=by
 obtain ⟨ti,hz1,hz2,hz3,hz4⟩:=info_parts Tryz.info_words
 have hwd:∀ W,Below w.heap.size w W→Calls Tryz.prog 161 #[.agg #[.slice a (lenW n) c]] W (OwnR W 164 1 (lenW n) ((toWords n).map UV)):=fun W hb=>words_any a c n W (h.below hb) (by omega)
 have hof:∀ (a1:Option Addr) (c1:Nat) (W:World),Sl W 1 (.slice a1 (k+lenW n) c1) (k+lenW n) ((List.replicate k 0).map UV++(toWords n).map UV)→Calls Tryz.prog 68 #[.slice a1 (k+lenW n) c1] W (RetN (n*W64^k) W):=fun a1 c1 W hm=>by
  rw [← List.map_append] at hm
  have r:=of_any a1 c1 (k+lenW n) _ W hm (fun x hx=>by
   rcases List.mem_append.1 hx with hx | hx
   ·
    rw [(List.mem_replicate.1 hx).2];unfold W64;omega
   ·
    exact toWords_lt n x hx) (by omega)
  rw [val_raised] at r
  exact r
 have hb0:=belowBox2 w (.cells #[.slice a (lenW n) c] 41) (.cells #[.slice none 0 0] 41)
 obtain ⟨e0,e1⟩:=heap2' w (.cells #[.slice a (lenW n) c] 41) (.cells #[.slice none 0 0] 41)
 have hwo:∀ u∈(toWords n).map UV,u.oneCell'=true:=one_UV _
 obtain ⟨la,hla⟩:∃ la,lenW n=la:=⟨_,rfl⟩
 obtain ⟨ws,hws⟩:∃ ws,(toWords n).map UV=ws:=⟨_,rfl⟩
 obtain ⟨q,hq⟩:∃ q,n*W64^k=q:=⟨_,rfl⟩
 rw [hla] at hs hb0 e0 e1
 rw [hla,hws] at hwd
 rw [hla,hws,hq] at hof
 rw [hws] at hwo
 rw [hla,hq]
 obtain ⟨W0,hW0⟩:∃ W0,W0=((w.alloc (.cells #[.slice a la c] 41)).alloc (.cells #[.slice none 0 0] 41)):=⟨_,rfl⟩
 rw [← hW0] at hb0 e0 e1
 have HWD:=qH (fun (W:World) (hb:Below W0.heap.size W0 W)=>hwd W (hb0.trans (hb.mono hb0.size)))
 have HOF:=qH hof
 have HWO:=qH hwo
 have HE1:=qH e1
 have HB0:=qH hb0
 have HB:=qH (Below.refl W0.heap.size W0)
 have K0:=qH (cell_of_block (j:=0) e0 rfl)
 have HW0:=qH hW0
 clear h hwd hof hwo e0 e1 hb0 hla hws hq hW0
 go_enter Tryz.func208,Tryz.ntmps208
 go_upto_region 1 with fail
 rw [← HW0.out]
 refine wp_region_held_drew (S:=fun W=>W.cell? ⟨w.heap.size,0,none⟩=some (.slice a la c)) (by kernel_rfl) (hu4 HB.out.drew K0.out) (fun hHeld=>?_)
 replace HB:=qH HB.out.drew
 generalize W0.drew=wd at HB hHeld ⊢
 refine tm 0 (some 5) ?_
 refine tl 2 (some 7) ?_
 refine wpAnyH_ready (rs:=[1,3]) (by kernel_rfl) (by simp) ?_
 refine (AllReadyH.cons rfl (fun K hK=>?_) (AllReadyH.cons rfl (fun K hK=>?_) AllReadyH.nil))
 ·
  skip
  have hmk:=make_words (k:Int) k rfl (by omega) wd
  go_simp
  clear hmk
  have hb:=belowBox wd (.cells (zeroC k) 164)
  have HMZ:=qH (zero_mid (base:=W0.heap.size) k (by omega) HB.out.size)
  replace HB:=qH (bthen HB.out hb)
  clear hb
  generalize wd.heap.size=g at HMZ ⊢
  generalize wd.alloc (.cells (zeroC k) 164)=x1 at HMZ HB ⊢
  refine hK.out _ _ (hu4 HB.out K0.out) (fun hHeld2=>?_)
  clear hK K hHeld
  rename _=>hHeld
  try simp only [Act.put,stB,stZ,stS]
  refine wpAnyH_ready (rs:=[3]) (by kernel_rfl) (by simp) ?_
  refine (AllReadyH.cons rfl (fun K hK=>?_) AllReadyH.nil)
  go_simp
  refine (HWD.out x1 HB.out).mono ?_
  rintro e x2 ⟨a1,c1,rfl,hm,hb⟩
  have HMW:=qH (show Mid x2 0 164 1 (.slice a1 la c1) la ws from hm.mono (Nat.zero_le _))
  replace HB:=qH (bthen HB.out hb)
  replace HMZ:=qH (mid_under4 HMZ.out hb)
  clear hm hb
  refine hK.out _ _ (hu4 HB.out K0.out) (fun hHeld2=>?_)
  clear hK K hHeld
  rename _=>hHeld
  try simp only [Act.put,stB,stZ,stS]
  refine wpAnyH_ready (rs:=[4]) (by kernel_rfl) (by simp) ?_
  refine (AllReadyH.cons rfl (fun K hK=>?_) AllReadyH.nil)
  refine step_append_mid (v:=.slice (some ⟨g,0,none⟩) k k) (by rfl) _ _ 22 22 (by rfl) ti (.int .u64 0) 8 Tryz.underlying22 hz1 hz2 hz3 hz4 rfl (by rfl) HMZ.out _ (by rfl) la _ ((Sl.ofMid HMW.out).src Tryz.underlying22 HWO.out) (by unfold maxLen;omega) (by omega) HB.out.size ?_
  intro a9 c9 x3 hmo hgo hbo
  have HMO:=qH hmo
  replace HB:=qH (HB.out.grown hgo HB.out.size fun z hz=>(HMZ.out.lt z hz).1)
  clear hmo hgo hbo
  try dsimp only
  refine hK.out _ _ (hu4 HB.out K0.out) (fun hHeld2=>?_)
  clear hK K hHeld
  rename _=>hHeld
  try simp only [Act.put,stB,stZ,stS]
  refine wpAnyH_ready (rs:=[5]) (by kernel_rfl) (by simp) ?_
  refine (AllReadyH.cons rfl (fun K hK=>?_) AllReadyH.nil)
  go_simp
  refine (HOF.out a9 c9 x3 (Sl.ofMid HMO.out)).mono ?_
  rintro e x4 ⟨a2,c2,rfl,hn2,hb⟩
  have HN2:=qH hn2
  replace HB:=qH (bthen HB.out hb)
  clear hn2 hb
  refine hK.out _ _ (hu4 HB.out K0.out) (fun hHeld2=>?_)
  clear hK K hHeld
  rename _=>hHeld
  try simp only [Act.put,stB,stZ,stS]
  refine wpAnyH_ready (rs:=[6]) (by kernel_rfl) (by simp) ?_
  refine (AllReadyH.cons rfl (fun K hK=>?_) AllReadyH.nil)
  have k1:=(HB.out.cell (lt_of_block HE1.out)).trans (cell_of_block (j:=0) HE1.out rfl)
  have f1:=(HB.out.frozen (lt_of_block HE1.out)).trans (free_of_block (j:=0) HE1.out)
  go_simp
  have HNE:=qH (HN2.out.set k1 (fun _=>by simp) (.slice a2 (lenW q) c2))
  have HBZ:=qH ((HB0.out.trans (HB.out.mono HB0.out.size)).setCell (show w.heap.size≤(⟨w.heap.size+1,0,none⟩:Addr).block by simp) (.slice a2 (lenW q) c2))
  have j1:=cell_of_block (j:=0) (heap_setCell_same x4 (w.heap.size+1) 0 _ _ (.slice a2 (lenW q) c2) ((HB.out.block _ (lt_of_block HE1.out)).trans HE1.out)) rfl
  clear k1 f1
  refine hK.out _ _ ((World.cell?_setCell_far _ _ _ _ (show (⟨w.heap.size+1,0,none⟩:Addr).block≠(⟨w.heap.size,0,none⟩:Addr).block by simp)).trans (hu4 HB.out K0.out)) (fun hHeld2=>?_)
  clear hK K hHeld
  rename _=>hHeld
  try simp only [Act.put,stB,stZ,stS]
  refine wpAnyH_done (by kernel_rfl) ?_ _
  go_wp2_with fail
  refine bodyPost_ret (v:=.agg #[.slice a2 (lenW q) c2]) (by simp [results,Tryz.results208,go_sem,j1]) rfl ?_
  exact ⟨a2,c2,rfl,HNE.out,HBZ.out⟩
 ·
  skip
  go_simp
  refine (HWD.out wd HB.out).mono ?_
  rintro e x1 ⟨a1,c1,rfl,hm,hb⟩
  have HMW:=qH (show Mid x1 0 164 1 (.slice a1 la c1) la ws from hm.mono (Nat.zero_le _))
  replace HB:=qH (bthen HB.out hb)
  clear hm hb
  refine hK.out _ _ (hu4 HB.out K0.out) (fun hHeld2=>?_)
  clear hK K hHeld
  rename _=>hHeld
  try simp only [Act.put,stB,stZ,stS]
  refine wpAnyH_ready (rs:=[1]) (by kernel_rfl) (by simp) ?_
  refine (AllReadyH.cons rfl (fun K hK=>?_) AllReadyH.nil)
  have hmk:=make_words (k:Int) k rfl (by omega) x1
  go_simp
  clear hmk
  have hb:=belowBox x1 (.cells (zeroC k) 164)
  have HMZ:=qH (zero_mid (base:=W0.heap.size) k (by omega) HB.out.size)
  replace HB:=qH (bthen HB.out hb)
  replace HMW:=qH (mid_under4 HMW.out hb)
  clear hb
  generalize x1.heap.size=g at HMZ ⊢
  generalize x1.alloc (.cells (zeroC k) 164)=x2 at HMZ HB HMW ⊢
  refine hK.out _ _ (hu4 HB.out K0.out) (fun hHeld2=>?_)
  clear hK K hHeld
  rename _=>hHeld
  try simp only [Act.put,stB,stZ,stS]
  refine wpAnyH_ready (rs:=[4]) (by kernel_rfl) (by simp) ?_
  refine (AllReadyH.cons rfl (fun K hK=>?_) AllReadyH.nil)
  refine step_append_mid (v:=.slice (some ⟨g,0,none⟩) k k) (by rfl) _ _ 22 22 (by rfl) ti (.int .u64 0) 8 Tryz.underlying22 hz1 hz2 hz3 hz4 rfl (by rfl) HMZ.out _ (by rfl) la _ ((Sl.ofMid HMW.out).src Tryz.underlying22 HWO.out) (by unfold maxLen;omega) (by omega) HB.out.size ?_
  intro a9 c9 x3 hmo hgo hbo
  have HMO:=qH hmo
  replace HB:=qH (HB.out.grown hgo HB.out.size fun z hz=>(HMZ.out.lt z hz).1)
  clear hmo hgo hbo
  try dsimp only
  refine hK.out _ _ (hu4 HB.out K0.out) (fun hHeld2=>?_)
  clear hK K hHeld
  rename _=>hHeld
  try simp only [Act.put,stB,stZ,stS]
  refine wpAnyH_ready (rs:=[5]) (by kernel_rfl) (by simp) ?_
  refine (AllReadyH.cons rfl (fun K hK=>?_) AllReadyH.nil)
  go_simp
  refine (HOF.out a9 c9 x3 (Sl.ofMid HMO.out)).mono ?_
  rintro e x4 ⟨a2,c2,rfl,hn2,hb⟩
  have HN2:=qH hn2
  replace HB:=qH (bthen HB.out hb)
  clear hn2 hb
  refine hK.out _ _ (hu4 HB.out K0.out) (fun hHeld2=>?_)
  clear hK K hHeld
  rename _=>hHeld
  try simp only [Act.put,stB,stZ,stS]
  refine wpAnyH_ready (rs:=[6]) (by kernel_rfl) (by simp) ?_
  refine (AllReadyH.cons rfl (fun K hK=>?_) AllReadyH.nil)
  have k1:=(HB.out.cell (lt_of_block HE1.out)).trans (cell_of_block (j:=0) HE1.out rfl)
  have f1:=(HB.out.frozen (lt_of_block HE1.out)).trans (free_of_block (j:=0) HE1.out)
  go_simp
  have HNE:=qH (HN2.out.set k1 (fun _=>by simp) (.slice a2 (lenW q) c2))
  have HBZ:=qH ((HB0.out.trans (HB.out.mono HB0.out.size)).setCell (show w.heap.size≤(⟨w.heap.size+1,0,none⟩:Addr).block by simp) (.slice a2 (lenW q) c2))
  have j1:=cell_of_block (j:=0) (heap_setCell_same x4 (w.heap.size+1) 0 _ _ (.slice a2 (lenW q) c2) ((HB.out.block _ (lt_of_block HE1.out)).trans HE1.out)) rfl
  clear k1 f1
  refine hK.out _ _ ((World.cell?_setCell_far _ _ _ _ (show (⟨w.heap.size+1,0,none⟩:Addr).block≠(⟨w.heap.size,0,none⟩:Addr).block by simp)).trans (hu4 HB.out K0.out)) (fun hHeld2=>?_)
  clear hK K hHeld
  rename _=>hHeld
  try simp only [Act.put,stB,stZ,stS]
  refine wpAnyH_done (by kernel_rfl) ?_ _
  go_wp2_with fail
  refine bodyPost_ret (v:=.agg #[.slice a2 (lenW q) c2]) (by simp [results,Tryz.results208,go_sem,j1]) rfl ?_
  exact ⟨a2,c2,rfl,HNE.out,HBZ.out⟩
theorem lenW_pow (k:Nat):lenW (W64^k)≤k+1:=lenW_le (by rw [Nat.pow_succ];have:=W64_pos k;unfold W64 at *;omega)
theorem lenW_half (n p:Nat) (h:lenW n≤2*p):lenW (n / W64^p)≤p:=by
 refine lenW_le (Nat.div_lt_of_lt_mul ?_)
 rw [← Nat.pow_add,← Nat.two_mul];exact lt_pow_of h
theorem half_mid (l p:Nat) (h:(l+1) / 2=p) (hl:l≤17592186044416):IntKind.i64.wrap ((IntKind.i64.wrap ((l:Int)+1)).tdiv 2)=p:=by
 have h1:IntKind.i64.wrap ((l:Int)+1)=(l:Int)+1:=Go.IntWalk.i64_in _ (by omega)
 rw [h1,Go.IntWalk.i64_quo _ _ (by omega)];omega
theorem half_sum (n p:Nat):n % W64^p+n / W64^p*W64^p=n:=by rw [Nat.mul_comm];exact Nat.mod_add_div _ _
theorem mul_step {K:Nat} (hK:K≤4398046511104) (ih:MulUpto K) (a b:Option Addr) (c d m n:Nat) (w:World) (ha:NatW w a c m) (hb:NatW w b d n) (hs:lenW m+lenW n≤K+1) (h8:8≤lenW m) (h8b:8≤lenW n):Calls Tryz.prog 189 #[.agg #[.slice a (lenW m) c],.agg #[.slice b (lenW n) d]] w (RetN (m*n) w):=by
 obtain ⟨p,hp⟩:∃ p,(max (lenW m) (lenW n)+1) / 2=p:=⟨_,rfl⟩
 have hmp:lenW (m % W64^p)≤p:=lenW_le (Nat.mod_lt _ (W64_pos p))
 have hnp:lenW (n % W64^p)≤p:=lenW_le (Nat.mod_lt _ (W64_pos p))
 have hmq:lenW (m / W64^p)≤p:=lenW_half m p (by omega)
 have hnq:lenW (n / W64^p)≤p:=lenW_half n p (by omega)
 obtain ⟨hres,hle⟩:=three_products (m % W64^p) (m / W64^p) (n % W64^p) (n / W64^p) (W64^p)
 rw [half_sum m p,half_sum n p,← Nat.pow_add,← Nat.two_mul] at hres
 have hLA:=fun W=>nlen_any a c m W
 have hLB:=fun W=>nlen_any b d n W
 have hCA:=fun (W:World) (q:NatW W a c m)=>cut_any a c m p W q (by omega) (by omega)
 have hCB:=fun (W:World) (q:NatW W b d n)=>cut_any b d n p W q (by omega) (by omega)
 obtain ⟨a0,ha0⟩:∃ z,m % W64^p=z:=⟨_,rfl⟩
 obtain ⟨a1,ha1⟩:∃ z,m / W64^p=z:=⟨_,rfl⟩
 obtain ⟨b0,hb0⟩:∃ z,n % W64^p=z:=⟨_,rfl⟩
 obtain ⟨b1,hb1⟩:∃ z,n / W64^p=z:=⟨_,rfl⟩
 rw [ha0,ha1,hb0,hb1] at hres hle
 rw [ha0] at hmp
 rw [ha1] at hmq
 rw [hb0] at hnp
 rw [hb1] at hnq
 rw [ha0,ha1] at hCA
 rw [hb0,hb1] at hCB
 have hs1:lenW (a0+a1)≤p+1:=lenW_add hmp hmq
 have hs2:lenW (b0+b1)≤p+1:=lenW_add hnp hnq
 have hx1:lenW (a0*b0)≤2*p:=Nat.le_trans (lenW_mul _ _) (by omega)
 have hy1:lenW (a1*b1)≤2*p:=Nat.le_trans (lenW_mul _ _) (by omega)
 have hz1:lenW ((a0+a1)*(b0+b1))≤2*p+2:=Nat.le_trans (lenW_mul _ _) (by omega)
 have hu1:lenW (a0*b0+a1*b1)≤2*p+1:=lenW_add hx1 hy1
 have hv1:lenW ((a0+a1)*(b0+b1) - (a0*b0+a1*b1))≤2*p+2:=Nat.le_trans (lenW_mono (Nat.sub_le _ _)) hz1
 have hX1:lenW (((a0+a1)*(b0+b1) - (a0*b0+a1*b1))*W64^p)≤3*p+3:=Nat.le_trans (lenW_mul _ _) (by have h9:=lenW_pow p;have h9b:=lenW_pow (2*p);omega)
 have hY1:lenW (a1*b1*W64^(2*p))≤4*p+1:=Nat.le_trans (lenW_mul _ _) (by have h9:=lenW_pow p;have h9b:=lenW_pow (2*p);omega)
 have hZ1:lenW (((a0+a1)*(b0+b1) - (a0*b0+a1*b1))*W64^p+a1*b1*W64^(2*p))≤4*p+4:=lenW_add (k:=4*p+3) (by omega) (by omega)
 have hM0:=fun (aa bb:Option Addr) (cc dd:Nat) (W:World) (q1:NatW W aa cc a0) (q2:NatW W bb dd b0)=>(ih aa bb cc dd a0 b0 W q1 q2 (by omega):Calls Tryz.prog 189 #[.agg #[.slice aa (lenW a0) cc],.agg #[.slice bb (lenW b0) dd]] W (RetN (a0*b0) W))
 have hM1:=fun (aa bb:Option Addr) (cc dd:Nat) (W:World) (q1:NatW W aa cc a1) (q2:NatW W bb dd b1)=>(ih aa bb cc dd a1 b1 W q1 q2 (by omega):Calls Tryz.prog 189 #[.agg #[.slice aa (lenW a1) cc],.agg #[.slice bb (lenW b1) dd]] W (RetN (a1*b1) W))
 have hMB:=fun (aa bb:Option Addr) (cc dd:Nat) (W:World) (q1:NatW W aa cc (a0+a1)) (q2:NatW W bb dd (b0+b1))=>(ih aa bb cc dd (a0+a1) (b0+b1) W q1 q2 (by omega):Calls Tryz.prog 189 #[.agg #[.slice aa (lenW (a0+a1)) cc],.agg #[.slice bb (lenW (b0+b1)) dd]] W (RetN ((a0+a1)*(b0+b1)) W))
 have hAa:=fun (aa bb:Option Addr) (cc dd:Nat) (W:World) (q1:NatW W aa cc a0) (q2:NatW W bb dd a1)=>(nadd_any aa bb cc dd a0 a1 W q1 q2 (by omega) (by omega):Calls Tryz.prog 206 #[.agg #[.slice aa (lenW a0) cc],.agg #[.slice bb (lenW a1) dd]] W (RetN (a0+a1) W))
 have hAb:=fun (aa bb:Option Addr) (cc dd:Nat) (W:World) (q1:NatW W aa cc b0) (q2:NatW W bb dd b1)=>(nadd_any aa bb cc dd b0 b1 W q1 q2 (by omega) (by omega):Calls Tryz.prog 206 #[.agg #[.slice aa (lenW b0) cc],.agg #[.slice bb (lenW b1) dd]] W (RetN (b0+b1) W))
 obtain ⟨x,hx⟩:∃ z,a0*b0=z:=⟨_,rfl⟩
 obtain ⟨y,hy⟩:∃ z,a1*b1=z:=⟨_,rfl⟩
 obtain ⟨s,hs'⟩:∃ z,a0+a1=z:=⟨_,rfl⟩
 obtain ⟨t,ht⟩:∃ z,b0+b1=z:=⟨_,rfl⟩
 rw [hx] at hM0
 rw [hy] at hM1
 rw [hs',ht] at hMB
 rw [hs'] at hAa
 rw [ht] at hAb
 rw [hx,hy,hs',ht] at hres hle hv1 hX1 hZ1
 rw [hx,hy] at hu1
 rw [hx] at hx1
 rw [hy] at hy1 hY1
 rw [hs',ht] at hz1
 obtain ⟨z,hz⟩:∃ k,s*t=k:=⟨_,rfl⟩
 rw [hz] at hMB hres hle hv1 hX1 hZ1 hz1
 have hAu:=fun (aa bb:Option Addr) (cc dd:Nat) (W:World) (q1:NatW W aa cc x) (q2:NatW W bb dd y)=>(nadd_any aa bb cc dd x y W q1 q2 (by omega) (by omega):Calls Tryz.prog 206 #[.agg #[.slice aa (lenW x) cc],.agg #[.slice bb (lenW y) dd]] W (RetN (x+y) W))
 obtain ⟨u,hu⟩:∃ k,x+y=k:=⟨_,rfl⟩
 rw [hu] at hAu hres hle hu1 hv1 hX1 hZ1
 have hSu:=fun (aa bb:Option Addr) (cc dd:Nat) (W:World) (q1:NatW W aa cc z) (q2:NatW W bb dd u)=>(nsub_any aa bb cc dd z u W q1 q2 hle (by omega):Calls Tryz.prog 207 #[.agg #[.slice aa (lenW z) cc],.agg #[.slice bb (lenW u) dd]] W (RetNB (z - u) true W))
 obtain ⟨v,hv⟩:∃ k,z - u=k:=⟨_,rfl⟩
 rw [hv] at hSu hres hv1 hX1 hZ1
 have hR1:=fun (aa:Option Addr) (cc:Nat) (W:World) (q1:NatW W aa cc v)=>raised_any aa cc v p W q1 (by omega)
 have hR2:=fun (aa:Option Addr) (cc:Nat) (W:World) (q1:NatW W aa cc y)=>(show Calls Tryz.prog 208 #[.agg #[.slice aa (lenW y) cc],.int .i64 (IntKind.i64.wrap (2*(p:Int)))] W (RetN (y*W64^(2*p)) W) from by have h:=raised_any aa cc y (2*p) W q1 (by omega);rwa [show ((2*p:Nat):Int)=IntKind.i64.wrap (2*(p:Int)) by rw [Go.IntWalk.i64_in _ (by omega)];omega] at h)
 obtain ⟨X,hX⟩:∃ k,v*W64^p=k:=⟨_,rfl⟩
 obtain ⟨Y,hY⟩:∃ k,y*W64^(2*p)=k:=⟨_,rfl⟩
 rw [hX] at hR1 hres hX1 hZ1
 rw [hY] at hR2 hres hY1 hZ1
 have hAX:=fun (aa bb:Option Addr) (cc dd:Nat) (W:World) (q1:NatW W aa cc X) (q2:NatW W bb dd Y)=>(nadd_any aa bb cc dd X Y W q1 q2 (by omega) (by omega):Calls Tryz.prog 206 #[.agg #[.slice aa (lenW X) cc],.agg #[.slice bb (lenW Y) dd]] W (RetN (X+Y) W))
 obtain ⟨Z,hZ⟩:∃ k,X+Y=k:=⟨_,rfl⟩
 rw [hZ] at hAX hres hZ1
 have hAR:=fun (aa bb:Option Addr) (cc dd:Nat) (W:World) (q1:NatW W aa cc x) (q2:NatW W bb dd Z)=>(by rw [hres];exact nadd_any aa bb cc dd x Z W q1 q2 (by omega) (by omega):Calls Tryz.prog 206 #[.agg #[.slice aa (lenW x) cc],.agg #[.slice bb (lenW Z) dd]] W (RetN (m*n) W))
 obtain ⟨R,hR⟩:∃ k,m*n=k:=⟨_,rfl⟩
 rw [hR] at hAR
 rw [hR]
 obtain ⟨la,hla⟩:∃ z,lenW m=z:=⟨_,rfl⟩
 obtain ⟨lb,hlb⟩:∃ z,lenW n=z:=⟨_,rfl⟩
 have q1:(8:Int)≤la:=by omega
 have q2:(8:Int)≤lb:=by omega
 have q3:(la:Int)≤17592186044416:=by omega
 have q4:(lb:Int)≤17592186044416:=by omega
 have q5:(p:Int)≤17592186044416:=by omega
 have HLA:=qH hLA
 have HLB:=qH hLB
 have HCA:=qH hCA
 have HCB:=qH hCB
 have HM0:=qH hM0
 have HM1:=qH hM1
 have HMB:=qH hMB
 have HAA:=qH hAa
 have HAB:=qH hAb
 have HAU:=qH hAu
 have HSU:=qH hSu
 have HR1:=qH hR1
 have HR2:=qH hR2
 have HAX:=qH hAX
 have HAR:=qH hAR
 have HPP:=qH (show (max la lb+1) / 2=p by rw [← hp,hla,hlb])
 rw [hla] at HLA HCA
 rw [hlb] at HLB HCB
 rw [hla,hlb]
 clear hLA hLB hCA hCB hM0 hM1 hMB hAa hAb hAu hSu hR1 hR2 hAX hAR hres hle hmp hnp hmq hnq hs1 hs2 hx1 hy1 hz1 hu1 hv1 hX1 hY1 hZ1 ha0 ha1 hb0 hb1 hx hy hs' ht hz hu hv hX hY hZ hR ih hK hp hs h8 h8b
 obtain ⟨W0,hW0⟩:∃ W0,W0=(((w.alloc (.cells #[.slice a la c] 41)).alloc (.cells #[.slice b lb d] 41)).alloc (.cells #[.slice none 0 0] 41)):=⟨_,rfl⟩
 have hbs:BS w [⟨w.heap.size,41,[.slice a la c]⟩,⟨w.heap.size+1,41,[.slice b lb d]⟩,⟨w.heap.size+1+1,41,[.slice none 0 0]⟩] [⟨a,c,m⟩,⟨b,d,n⟩] (((w.alloc (.cells #[.slice a la c] 41)).alloc (.cells #[.slice b lb d] 41)).alloc (.cells #[.slice none 0 0] 41)) :=
   ((((BS.begin [⟨a,c,m⟩,⟨b,d,n⟩] (fun y hy=>by
    rcases List.mem_cons.1 hy with rfl | hy
    ·
     exact ha
    rw [List.mem_singleton.1 hy];exact hb)).alloc (p:=w.heap.size) rfl 41 [.slice a la c] rfl).alloc (p:=w.heap.size+1) (by simp) 41 [.slice b lb d] rfl).alloc (p:=w.heap.size+1+1) (by simp) 41 [.slice none 0 0] rfl)
 rw [← hW0] at hbs
 have HW0:=qH hW0
 have HN:=qH hbs
 clear hW0 hbs
 clear ha hb hla hlb
 go_enter Tryz.func189,Tryz.ntmps189
 go_upto_region 1 with fail
 rw [← HW0.out]
 go_cut [20] (fun v20 wx=>v20=.bool false∧BS w [⟨w.heap.size,41,[.slice a la c]⟩,⟨w.heap.size+1,41,[.slice b lb d]⟩,⟨w.heap.size+1+1,41,[.slice none 0 0]⟩] [⟨a,c,m⟩,⟨b,d,n⟩] wx)
 case first =>
  have hbd:Below W0.heap.size W0 W0.drew:=(Below.refl _ _).drew
  have HKS:=qH (fun (W:World) (h:Below W0.heap.size W0 W)=>(⟨(HN.out.call h).cell 0 0 rfl rfl,(HN.out.call h).cell 1 0 rfl rfl⟩:W.cell? ⟨w.heap.size,0,none⟩=some (.slice a la c)∧W.cell? ⟨w.heap.size+1,0,none⟩=some (.slice b lb d)))
  have HLA2:=qH (fun (W:World) (h:Below W0.heap.size W0 W)=>(HLA.out W).mono fun e w' (k:_∧_)=>(⟨k.1,bthen h k.2⟩:e=.returned (.int .i64 la)∧Below W0.heap.size W0 w'))
  have HLB2:=qH (fun (W:World) (h:Below W0.heap.size W0 W)=>(HLB.out W).mono fun e w' (k:_∧_)=>(⟨k.1,bthen h k.2⟩:e=.returned (.int .i64 lb)∧Below W0.heap.size W0 w'))
  have HBD:=qH hbd
  clear hbd
  have hpp:=HPP.out
  rcases Nat.lt_or_ge lb la with hab | hab
  all_goals
   rcases Nat.lt_or_ge la lb with hba | hba
  all_goals
   first | omega | skip
  all_goals
   go_region_held3 (fun W=>W.cell? ⟨w.heap.size,0,none⟩=some (.slice a la c)∧W.cell? ⟨w.heap.size+1,0,none⟩=some (.slice b lb d)) (first | exact HKS.out _ HBD.out | exact HKS.out _ (by assumption)) (first
    | (go_at_call_of 162 (Value.agg #[Value.slice a la c]);refine (HLA2.out _ (by first | exact HBD.out | assumption)).mono ?_;rintro e w1 ⟨rfl,hb1⟩)
    | (go_at_call_of 162 (Value.agg #[Value.slice b lb d]);refine (HLB2.out _ (by first | assumption | exact HBD.out)).mono ?_;rintro e w2 ⟨rfl,hb2⟩))
  all_goals
   go_wp2_with fail
   go_meet
   refine ⟨?_,HN.out.call (by assumption)⟩
   first | rfl | (simp;omega)
 case rest =>
  obtain ⟨w1,rfl⟩:∃ w1:World,w1=wc:=⟨_,rfl⟩
  obtain ⟨rfl,hn0⟩:=hcut
  have HN:=qH hn0
  clear hn0
  have ⟨k00,f00⟩:=HN.out.cf1 0 rfl
  have ⟨k10,f10⟩:=HN.out.cf1 1 rfl
  have ⟨k20,f20⟩:=HN.out.cf1 2 rfl
  go_upto_region 3 with fail
  clear k00 f00 k10 f10 k20 f20
  go_cut [5] (fun v5 wx=>v5=.int .i64 p∧BS w [⟨w.heap.size,41,[.slice a la c]⟩,⟨w.heap.size+1,41,[.slice b lb d]⟩,⟨w.heap.size+1+1,41,[.slice none 0 0]⟩] [⟨a,c,m⟩,⟨b,d,n⟩] wx)
  case first =>
   have hbd:Below w1.heap.size w1 w1.drew:=(Below.refl _ _).drew
   have HKS:=qH (fun (W:World) (h:Below w1.heap.size w1 W)=>(⟨(HN.out.call h).cell 0 0 rfl rfl,(HN.out.call h).cell 1 0 rfl rfl⟩:W.cell? ⟨w.heap.size,0,none⟩=some (.slice a la c)∧W.cell? ⟨w.heap.size+1,0,none⟩=some (.slice b lb d)))
   have HLA2:=qH (fun (W:World) (h:Below w1.heap.size w1 W)=>(HLA.out W).mono fun e w' (k:_∧_)=>(⟨k.1,bthen h k.2⟩:e=.returned (.int .i64 la)∧Below w1.heap.size w1 w'))
   have HLB2:=qH (fun (W:World) (h:Below w1.heap.size w1 W)=>(HLB.out W).mono fun e w' (k:_∧_)=>(⟨k.1,bthen h k.2⟩:e=.returned (.int .i64 lb)∧Below w1.heap.size w1 w'))
   have HBD:=qH hbd
   clear hbd
   have hpp:=HPP.out
   rcases Nat.lt_or_ge lb la with hab | hab
   all_goals
    rcases Nat.lt_or_ge la lb with hba | hba
   all_goals
    first | omega | skip
   all_goals
    go_region_held3 (fun W=>W.cell? ⟨w.heap.size,0,none⟩=some (.slice a la c)∧W.cell? ⟨w.heap.size+1,0,none⟩=some (.slice b lb d)) (first | exact HKS.out _ HBD.out | exact HKS.out _ (by assumption)) (first
     | (go_at_call_of 162 (Value.agg #[Value.slice a la c]);refine (HLA2.out _ (by first | exact HBD.out | assumption)).mono ?_;rintro e w1 ⟨rfl,hb1⟩)
     | (go_at_call_of 162 (Value.agg #[Value.slice b lb d]);refine (HLB2.out _ (by first | assumption | exact HBD.out)).mono ?_;rintro e w2 ⟨rfl,hb2⟩))
   all_goals
    go_wp2_with fail
    go_meet
    refine ⟨?_,HN.out.call (by assumption)⟩
    first | rw [half_mid la p (by omega) (by omega)] | rw [half_mid lb p (by omega) (by omega)]
  case rest =>
   obtain ⟨w2,rfl⟩:∃ w2:World,w2=wc:=⟨_,rfl⟩
   obtain ⟨rfl,hn0⟩:=hcut
   have HN:=qH hn0
   clear hn0
   have ⟨k00,f00⟩:=HN.out.cf1 0 rfl
   have ⟨k10,f10⟩:=HN.out.cf1 1 rfl
   have ⟨k20,f20⟩:=HN.out.cf1 2 rfl
   go_wp2_with fail
   clear k00 f00 k10 f10 k20 f20
   refine (HCA.out _ (HN.out.nat 0 rfl)).mono ?_
   rintro e w3 ⟨aa0,ca0,aa1,ca1,rfl,hq0,hq1,hb⟩
   replace HN:=qH (((HN.out.call hb).got hq0).got hq1)
   clear hb hq0 hq1
   have ⟨k00,f00⟩:=HN.out.cf1 0 rfl
   have l0:=HN.out.lt 0 rfl
   have ⟨k10,f10⟩:=HN.out.cf1 1 rfl
   have l1:=HN.out.lt 1 rfl
   have ⟨k20,f20⟩:=HN.out.cf1 2 rfl
   have l2:=HN.out.lt 2 rfl
   have HP:=qH ((HN.out.alloc (p:=w3.heap.size) rfl 41 [.slice aa0 (lenW a0) ca0] rfl).alloc (p:=w3.heap.size+1) (by simp) 41 [.slice aa1 (lenW a1) ca1] rfl)
   have ⟨k00p,f00p⟩:=HP.out.cf1 0 rfl
   have ⟨k10p,f10p⟩:=HP.out.cf1 1 rfl
   have ⟨k20p,f20p⟩:=HP.out.cf1 2 rfl
   have ⟨k30p,f30p⟩:=HP.out.cf1 3 rfl
   have ⟨k40p,f40p⟩:=HP.out.cf1 4 rfl
   go_wp2_with fail
   clear k00 f00 l0 k10 f10 l1 k20 f20 l2 k00p f00p k10p f10p k20p f20p k30p f30p k40p f40p HN
   have HN:=HP
   clear HP
   generalize ((w3.alloc (.cells #[.slice aa0 (lenW a0) ca0] 41)).alloc (.cells #[.slice aa1 (lenW a1) ca1] 41))=wa4 at HN  ⊢
   refine (HCB.out _ (HN.out.nat 1 rfl)).mono ?_
   rintro e w5 ⟨ab0,cb0,ab1,cb1,rfl,hq0,hq1,hb⟩
   replace HN:=qH (((HN.out.call hb).got hq0).got hq1)
   clear hb hq0 hq1
   have ⟨k00,f00⟩:=HN.out.cf1 0 rfl
   have l0:=HN.out.lt 0 rfl
   have ⟨k10,f10⟩:=HN.out.cf1 1 rfl
   have l1:=HN.out.lt 1 rfl
   have ⟨k20,f20⟩:=HN.out.cf1 2 rfl
   have l2:=HN.out.lt 2 rfl
   have ⟨k30,f30⟩:=HN.out.cf1 3 rfl
   have l3:=HN.out.lt 3 rfl
   have ⟨k40,f40⟩:=HN.out.cf1 4 rfl
   have l4:=HN.out.lt 4 rfl
   have HP:=qH ((HN.out.alloc (p:=w5.heap.size) rfl 41 [.slice ab0 (lenW b0) cb0] rfl).alloc (p:=w5.heap.size+1) (by simp) 41 [.slice ab1 (lenW b1) cb1] rfl)
   have ⟨k00p,f00p⟩:=HP.out.cf1 0 rfl
   have ⟨k10p,f10p⟩:=HP.out.cf1 1 rfl
   have ⟨k20p,f20p⟩:=HP.out.cf1 2 rfl
   have ⟨k30p,f30p⟩:=HP.out.cf1 3 rfl
   have ⟨k40p,f40p⟩:=HP.out.cf1 4 rfl
   have ⟨k50p,f50p⟩:=HP.out.cf1 5 rfl
   have ⟨k60p,f60p⟩:=HP.out.cf1 6 rfl
   go_upto_region 6 with fail
   clear k00 f00 l0 k10 f10 l1 k20 f20 l2 k30 f30 l3 k40 f40 l4 k00p f00p k10p f10p k20p f20p k30p f30p k40p f40p k50p f50p k60p f60p HN
   have HN:=HP
   clear HP
   generalize ((w5.alloc (.cells #[.slice ab0 (lenW b0) cb0] 41)).alloc (.cells #[.slice ab1 (lenW b1) cb1] 41))=wa6 at HN  ⊢
   go_cut [10,11] (fun v10 v11 wx=>∃ p10 p11 xa xc ya yc,v10=.pointer (some ⟨p10,0,none⟩)∧v11=.pointer (some ⟨p11,0,none⟩)∧BS w [⟨w.heap.size+1+1,41,[.slice none 0 0]⟩,⟨w3.heap.size,41,[.slice aa0 (lenW a0) ca0]⟩,⟨w3.heap.size+1,41,[.slice aa1 (lenW a1) ca1]⟩,⟨w5.heap.size,41,[.slice ab0 (lenW b0) cb0]⟩,⟨w5.heap.size+1,41,[.slice ab1 (lenW b1) cb1]⟩,⟨p10,41,[.slice xa (lenW x) xc]⟩,⟨p11,41,[.slice ya (lenW y) yc]⟩] [⟨a,c,m⟩,⟨b,d,n⟩,⟨aa0,ca0,a0⟩,⟨aa1,ca1,a1⟩,⟨ab0,cb0,b0⟩,⟨ab1,cb1,b1⟩,⟨xa,xc,x⟩,⟨ya,yc,y⟩] wx)
   case first =>
    replace HN:=qH HN.out.drew
    refine wp_region_held_drew (S:=fun W=>W.cell? ⟨w3.heap.size,0,none⟩=some (.slice aa0 (lenW a0) ca0)∧W.cell? ⟨w3.heap.size+1,0,none⟩=some (.slice aa1 (lenW a1) ca1)∧W.cell? ⟨w5.heap.size,0,none⟩=some (.slice ab0 (lenW b0) cb0)∧W.cell? ⟨w5.heap.size+1,0,none⟩=some (.slice ab1 (lenW b1) cb1)) (by kernel_rfl) (⟨HN.out.cell 3 0 rfl rfl,HN.out.cell 4 0 rfl rfl,HN.out.cell 5 0 rfl rfl,HN.out.cell 6 0 rfl rfl⟩) (fun hHeld=>?_)
    generalize wa6.drew=wd at HN hHeld ⊢
    refine tl 0 (some 43) ?_
    refine tl 1 (some 44) ?_
    refine tl 3 (some 46) ?_
    refine tl 4 (some 47) ?_
    have tg:=Mk.mk (v:=0) (d:=0)
    iterate 6
     all_goals first
     | refine qz3 0 tg 2 0 1 6 1 2 7 2 3 ?_ ?_ ?_
     | refine qz3 1 tg 5 3 4 6 1 5 7 2 6 ?_ ?_ ?_
     | refine qz2 2 tg 2 0 5 7 2 7 ?_ ?_
     | refine qz2 3 tg 2 0 6 6 4 7 ?_ ?_
     | refine qz2 4 tg 6 1 8 7 2 9 ?_ ?_
     | refine qz2 5 tg 5 3 8 7 2 10 ?_ ?_
     | refine qz2 6 tg 5 3 9 6 4 10 ?_ ?_
     | refine qz1 7 tg 2 0 10 ?_
     | refine qz1 8 tg 7 2 11 ?_
     | refine qz1 9 tg 6 4 11 ?_
     | refine qz1 10 tg 5 3 11 ?_
     | refine qz1 11 tg 8 5 12 ?_
     | refine qz1 12 tg 9 6 13 ?_
     all_goals intro K hK tg
     all_goals first
     |
      have _:Mk 0 _:=tg
      go_simp
      refine (HM0.out _ _ _ _ _ (HN.out.nat 2 rfl) (HN.out.nat 4 rfl)).mono ?_
      rintro e wd ⟨xa,xc,rfl,hq0,hb⟩
      replace HN:=qH ((HN.out.call hb).got hq0)
      clear hb hq0
      go_wp2_with fail
     |
      have _:Mk 1 _:=tg
      go_simp
      replace HN:=qH (HN.out.alloc (p:=wd.heap.size) rfl 41 [.slice none 0 0] rfl)
      generalize wd.heap.size=p6_ at HN ⊢
      generalize wd.alloc (.cells #[.slice none 0 0] 41)=wd at HN  ⊢
     |
      have _:Mk 2 _:=tg
      go_simp
      replace HN:=qH (HN.out.alloc (p:=wd.heap.size) rfl 41 [.slice none 0 0] rfl)
      generalize wd.heap.size=p7_ at HN ⊢
      generalize wd.alloc (.cells #[.slice none 0 0] 41)=wd at HN  ⊢
     |
      have _:Mk 3 _:=tg
      go_simp
      refine (HM1.out _ _ _ _ _ (HN.out.nat 3 rfl) (HN.out.nat 5 rfl)).mono ?_
      rintro e wd ⟨ya,yc,rfl,hq0,hb⟩
      replace HN:=qH ((HN.out.call hb).got hq0)
      clear hb hq0
      go_wp2_with fail
     |
      have _:Mk 4 _:=tg
      go_simp
      replace HN:=qH ((HN.out.alloc (p:=wd.heap.size) rfl 41 [.slice none 0 0] rfl).ins 7)
      generalize wd.heap.size=p6_ at HN ⊢
      generalize wd.alloc (.cells #[.slice none 0 0] 41)=wd at HN  ⊢
     |
      have _:Mk 5 _:=tg
      have hc0:=HN.out.cell 7 0 rfl rfl
      have hf0:=HN.out.free 7 0 rfl
      go_simp
      clear hc0 hf0
      replace HN:=qH ((HN.out).set 7 0 rfl rfl (fun _=>by simp) (.slice xa (lenW x) xc))
      generalize (wd.setCell ⟨p6_,0,none⟩ (.slice xa (lenW x) xc))=wd at HN ⊢
     |
      have _:Mk 6 _:=tg
      have hc0:=HN.out.cell 8 0 rfl rfl
      have hf0:=HN.out.free 8 0 rfl
      go_simp
      clear hc0 hf0
      replace HN:=qH ((HN.out).set 8 0 rfl rfl (fun _=>by simp) (.slice ya (lenW y) yc))
      generalize (wd.setCell ⟨p7_,0,none⟩ (.slice ya (lenW y) yc))=wd at HN ⊢
     all_goals
      refine hK.out _ _ (⟨HN.out.cell 3 0 rfl rfl,HN.out.cell 4 0 rfl rfl,HN.out.cell 5 0 rfl rfl,HN.out.cell 6 0 rfl rfl⟩) (fun hHeld2=>?_)
      clear hK K hHeld
      rename _=>hHeld
      try simp only [Act.put,stB,stZ,stS]
    all_goals (refine wpAnyH_done (by kernel_rfl) ?_ _)
    all_goals
     go_wp2_with fail
     go_meet
     exact ⟨_,_,_,_,_,_,rfl,rfl,(HN.out.only (List.Sublist.cons _ (List.Sublist.cons _ (List.Sublist.cons_cons _ (List.Sublist.cons_cons _ (List.Sublist.cons_cons _ (List.Sublist.cons_cons _ (List.Sublist.cons_cons _ (List.Sublist.cons_cons _ (List.Sublist.cons_cons _ List.Sublist.slnil))))))))) (fun z hz=>hz))⟩
   case rest =>
    obtain ⟨w7,rfl⟩:∃ w7:World,w7=wc:=⟨_,rfl⟩
    obtain ⟨p10,p11,xa,xc,ya,yc,rfl,rfl,hn0⟩:=hcut
    have HN:=qH hn0
    clear hn0
    have ⟨k00,f00⟩:=HN.out.cf1 0 rfl
    have ⟨k10,f10⟩:=HN.out.cf1 1 rfl
    have ⟨k20,f20⟩:=HN.out.cf1 2 rfl
    have ⟨k30,f30⟩:=HN.out.cf1 3 rfl
    have ⟨k40,f40⟩:=HN.out.cf1 4 rfl
    have ⟨k50,f50⟩:=HN.out.cf1 5 rfl
    have ⟨k60,f60⟩:=HN.out.cf1 6 rfl
    go_upto_region 7 with fail
    clear k00 f00 k10 f10 k20 f20 k30 f30 k40 f40 k50 f50 k60 f60
    go_cut [12] (fun v12 wx=>∃ p12 sa sc ta tc za zc,v12=.pointer (some ⟨p12,0,none⟩)∧BS w [⟨w.heap.size+1+1,41,[.slice none 0 0]⟩,⟨p10,41,[.slice xa (lenW x) xc]⟩,⟨p11,41,[.slice ya (lenW y) yc]⟩,⟨p12,41,[.slice za (lenW z) zc]⟩] [⟨a,c,m⟩,⟨b,d,n⟩,⟨aa0,ca0,a0⟩,⟨aa1,ca1,a1⟩,⟨ab0,cb0,b0⟩,⟨ab1,cb1,b1⟩,⟨xa,xc,x⟩,⟨ya,yc,y⟩,⟨sa,sc,s⟩,⟨ta,tc,t⟩,⟨za,zc,z⟩] wx)
    case first =>
     replace HN:=qH HN.out.drew
     refine wp_region_held_drew (S:=fun W=>W.cell? ⟨w3.heap.size,0,none⟩=some (.slice aa0 (lenW a0) ca0)∧W.cell? ⟨w3.heap.size+1,0,none⟩=some (.slice aa1 (lenW a1) ca1)∧W.cell? ⟨w5.heap.size,0,none⟩=some (.slice ab0 (lenW b0) cb0)∧W.cell? ⟨w5.heap.size+1,0,none⟩=some (.slice ab1 (lenW b1) cb1)) (by kernel_rfl) (⟨HN.out.cell 1 0 rfl rfl,HN.out.cell 2 0 rfl rfl,HN.out.cell 3 0 rfl rfl,HN.out.cell 4 0 rfl rfl⟩) (fun hHeld=>?_)
     generalize w7.drew=wd at HN hHeld ⊢
     refine tl 0 (some 49) ?_
     refine tl 1 (some 50) ?_
     refine tl 3 (some 52) ?_
     refine tl 4 (some 53) ?_
     have tg:=Mk.mk (v:=0) (d:=0)
     iterate 5
      all_goals first
      | refine qz2 0 tg 2 0 1 7 1 2 ?_ ?_
      | refine qz2 1 tg 5 2 3 7 1 4 ?_ ?_
      | refine qz1 2 tg 2 0 4 ?_
      | refine qz2 3 tg 6 3 5 7 1 6 ?_ ?_
      | refine qz1 4 tg 5 2 6 ?_
      | refine qz1 5 tg 7 1 7 ?_
      | refine qz1 6 tg 6 3 7 ?_
      | refine qz1 7 tg 8 4 8 ?_
      all_goals intro K hK tg
      all_goals first
      |
       have _:Mk 0 _:=tg
       go_simp
       refine (HAA.out _ _ _ _ _ (HN.out.nat 2 rfl) (HN.out.nat 3 rfl)).mono ?_
       rintro e wd ⟨sa,sc,rfl,hq0,hb⟩
       replace HN:=qH ((HN.out.call hb).got hq0)
       clear hb hq0
       go_wp2_with fail
      |
       have _:Mk 1 _:=tg
       go_simp
       replace HN:=qH (HN.out.alloc (p:=wd.heap.size) rfl 41 [.slice none 0 0] rfl)
       generalize wd.heap.size=p7_ at HN ⊢
       generalize wd.alloc (.cells #[.slice none 0 0] 41)=wd at HN  ⊢
      |
       have _:Mk 2 _:=tg
       go_simp
       refine (HAB.out _ _ _ _ _ (HN.out.nat 4 rfl) (HN.out.nat 5 rfl)).mono ?_
       rintro e wd ⟨ta,tc,rfl,hq0,hb⟩
       replace HN:=qH ((HN.out.call hb).got hq0)
       clear hb hq0
       go_wp2_with fail
      |
       have _:Mk 3 _:=tg
       go_simp
       refine (HMB.out _ _ _ _ _ (HN.out.nat 8 rfl) (HN.out.nat 9 rfl)).mono ?_
       rintro e wd ⟨za,zc,rfl,hq0,hb⟩
       replace HN:=qH ((HN.out.call hb).got hq0)
       clear hb hq0
       go_wp2_with fail
      |
       have _:Mk 4 _:=tg
       have hc0:=HN.out.cell 7 0 rfl rfl
       have hf0:=HN.out.free 7 0 rfl
       go_simp
       clear hc0 hf0
       replace HN:=qH ((HN.out).set 7 0 rfl rfl (fun _=>by simp) (.slice za (lenW z) zc))
       generalize (wd.setCell ⟨p7_,0,none⟩ (.slice za (lenW z) zc))=wd at HN ⊢
      all_goals
       refine hK.out _ _ (⟨HN.out.cell 1 0 rfl rfl,HN.out.cell 2 0 rfl rfl,HN.out.cell 3 0 rfl rfl,HN.out.cell 4 0 rfl rfl⟩) (fun hHeld2=>?_)
       clear hK K hHeld
       rename _=>hHeld
       try simp only [Act.put,stB,stZ,stS]
     all_goals (refine wpAnyH_done (by kernel_rfl) ?_ _)
     all_goals
      go_wp2_with fail
      go_meet
      exact ⟨_,_,_,_,_,_,_,rfl,(HN.out.only (List.Sublist.cons_cons _ (List.Sublist.cons _ (List.Sublist.cons _ (List.Sublist.cons _ (List.Sublist.cons _ (List.Sublist.cons_cons _ (List.Sublist.cons_cons _ (List.Sublist.cons_cons _ List.Sublist.slnil)))))))) (fun z hz=>hz))⟩
    case rest =>
     obtain ⟨w8,rfl⟩:∃ w8:World,w8=wc:=⟨_,rfl⟩
     obtain ⟨p12,sa,sc,ta,tc,za,zc,rfl,hn0⟩:=hcut
     have HN:=qH hn0
     clear hn0
     have ⟨k00,f00⟩:=HN.out.cf1 0 rfl
     have ⟨k10,f10⟩:=HN.out.cf1 1 rfl
     have ⟨k20,f20⟩:=HN.out.cf1 2 rfl
     have ⟨k30,f30⟩:=HN.out.cf1 3 rfl
     go_upto_region 8 with fail
     clear k00 f00 k10 f10 k20 f20 k30 f30
     go_cut [13,14] (fun v13 v14 wx=>∃ p13 ua uc va vc,v13=.pointer (some ⟨p13,0,none⟩)∧v14=.bool true∧BS w [⟨w.heap.size+1+1,41,[.slice none 0 0]⟩,⟨p10,41,[.slice xa (lenW x) xc]⟩,⟨p11,41,[.slice ya (lenW y) yc]⟩,⟨p13,41,[.slice va (lenW v) vc]⟩] [⟨a,c,m⟩,⟨b,d,n⟩,⟨aa0,ca0,a0⟩,⟨aa1,ca1,a1⟩,⟨ab0,cb0,b0⟩,⟨ab1,cb1,b1⟩,⟨xa,xc,x⟩,⟨ya,yc,y⟩,⟨sa,sc,s⟩,⟨ta,tc,t⟩,⟨za,zc,z⟩,⟨ua,uc,u⟩,⟨va,vc,v⟩] wx)
     case first =>
      replace HN:=qH HN.out.drew
      refine wp_region_held_drew (S:=fun W=>W.cell? ⟨p12,0,none⟩=some (.slice za (lenW z) zc)∧W.cell? ⟨p10,0,none⟩=some (.slice xa (lenW x) xc)∧W.cell? ⟨p11,0,none⟩=some (.slice ya (lenW y) yc)) (by kernel_rfl) (⟨HN.out.cell 3 0 rfl rfl,HN.out.cell 1 0 rfl rfl,HN.out.cell 2 0 rfl rfl⟩) (fun hHeld=>?_)
      generalize w8.drew=wd at HN hHeld ⊢
      refine tl 0 (some 57) ?_
      refine tl 1 (some 58) ?_
      refine tl 2 (some 59) ?_
      have tg:=Mk.mk (v:=0) (d:=0)
      iterate 4
       all_goals first
       | refine qz2 0 tg 3 0 1 8 1 2 ?_ ?_
       | refine qz2 1 tg 4 2 3 8 1 4 ?_ ?_
       | refine qz1 2 tg 3 0 4 ?_
       | refine qz1 3 tg 8 1 5 ?_
       | refine qz1 4 tg 4 2 5 ?_
       | refine qz1 5 tg 9 3 6 ?_
       all_goals intro K hK tg
       all_goals first
       |
        have _:Mk 0 _:=tg
        go_simp
        refine (HAU.out _ _ _ _ _ (HN.out.nat 6 rfl) (HN.out.nat 7 rfl)).mono ?_
        rintro e wd ⟨ua,uc,rfl,hq0,hb⟩
        replace HN:=qH ((HN.out.call hb).got hq0)
        clear hb hq0
        go_wp2_with fail
       |
        have _:Mk 1 _:=tg
        go_simp
        replace HN:=qH (HN.out.alloc (p:=wd.heap.size) rfl 41 [.slice none 0 0] rfl)
        generalize wd.heap.size=p8_ at HN ⊢
        generalize wd.alloc (.cells #[.slice none 0 0] 41)=wd at HN  ⊢
       |
        have _:Mk 2 _:=tg
        go_simp
        refine (HSU.out _ _ _ _ _ (HN.out.nat 10 rfl) (HN.out.nat 11 rfl)).mono ?_
        rintro e wd ⟨va,vc,rfl,hq0,hb⟩
        replace HN:=qH ((HN.out.call hb).got hq0)
        clear hb hq0
        go_wp2_with fail
       |
        have _:Mk 3 _:=tg
        have hc0:=HN.out.cell 4 0 rfl rfl
        have hf0:=HN.out.free 4 0 rfl
        go_simp
        clear hc0 hf0
        replace HN:=qH ((HN.out).set 4 0 rfl rfl (fun _=>by simp) (.slice va (lenW v) vc))
        generalize (wd.setCell ⟨p8_,0,none⟩ (.slice va (lenW v) vc))=wd at HN ⊢
       all_goals
        refine hK.out _ _ (⟨HN.out.cell 3 0 rfl rfl,HN.out.cell 1 0 rfl rfl,HN.out.cell 2 0 rfl rfl⟩) (fun hHeld2=>?_)
        clear hK K hHeld
        rename _=>hHeld
        try simp only [Act.put,stB,stZ,stS]
       all_goals first
       |
        have _:Mk 2 _:=tg
        refine tm 5 (some 56) ?_
        refine tm 6 (some 62) ?_
        refine tm 7 (some 63) ?_
       |
        have _:Mk 3 _:=tg
        refine tm 10 (some 14) ?_
       | skip
      all_goals (refine wpAnyH_done (by kernel_rfl) ?_ _)
      all_goals
       go_wp2_with fail
       go_meet
       exact ⟨_,_,_,_,_,rfl,rfl,(HN.out.only (List.Sublist.cons_cons _ (List.Sublist.cons_cons _ (List.Sublist.cons_cons _ (List.Sublist.cons _ (List.Sublist.cons_cons _ List.Sublist.slnil))))) (fun z hz=>hz))⟩
     case rest =>
      obtain ⟨w9,rfl⟩:∃ w9:World,w9=wc:=⟨_,rfl⟩
      obtain ⟨p13,ua,uc,va,vc,rfl,rfl,hn0⟩:=hcut
      have HN:=qH hn0
      clear hn0
      have ⟨k00,f00⟩:=HN.out.cf1 0 rfl
      have ⟨k10,f10⟩:=HN.out.cf1 1 rfl
      have ⟨k20,f20⟩:=HN.out.cf1 2 rfl
      have ⟨k30,f30⟩:=HN.out.cf1 3 rfl
      go_upto_region 9 with fail
      clear k00 f00 k10 f10 k20 f20 k30 f30
      replace HN:=qH HN.out.drew
      refine wp_region_held_drew (S:=fun W=>W.cell? ⟨p10,0,none⟩=some (.slice xa (lenW x) xc)∧W.cell? ⟨p13,0,none⟩=some (.slice va (lenW v) vc)∧W.cell? ⟨p11,0,none⟩=some (.slice ya (lenW y) yc)) (by kernel_rfl) (⟨HN.out.cell 1 0 rfl rfl,HN.out.cell 3 0 rfl rfl,HN.out.cell 2 0 rfl rfl⟩) (fun hHeld=>?_)
      generalize w9.drew=wd at HN hHeld ⊢
      refine tl 0 (some 64) ?_
      refine tl 1 (some 65) ?_
      refine tm 2 (some 66) ?_
      refine tl 4 (some 68) ?_
      refine tm 5 (some 69) ?_
      refine tm 6 (some 70) ?_
      have tg:=Mk.mk (v:=0) (d:=0)
      iterate 5
       all_goals first
       | refine qz1 0 tg 3 0 1 ?_
       | refine qz1 1 tg 7 1 2 ?_
       | refine qz1 2 tg 8 2 3 ?_
       | refine qz1 3 tg 9 3 4 ?_
       | refine qz1 4 tg 10 4 5 ?_
       all_goals intro K hK tg
       all_goals first
       |
        have _:Mk 0 _:=tg
        go_simp
        refine (HR1.out _ _ _ (HN.out.nat 12 rfl)).mono ?_
        rintro e wd ⟨aX,cX,rfl,hq0,hb⟩
        replace HN:=qH ((HN.out.call hb).got hq0)
        clear hb hq0
        go_wp2_with fail
       |
        have _:Mk 1 _:=tg
        go_simp
        refine (HR2.out _ _ _ (HN.out.nat 7 rfl)).mono ?_
        rintro e wd ⟨aY,cY,rfl,hq0,hb⟩
        replace HN:=qH ((HN.out.call hb).got hq0)
        clear hb hq0
        go_wp2_with fail
       |
        have _:Mk 2 _:=tg
        go_simp
        refine (HAX.out _ _ _ _ _ (HN.out.nat 13 rfl) (HN.out.nat 14 rfl)).mono ?_
        rintro e wd ⟨Za,Zc,rfl,hq0,hb⟩
        replace HN:=qH ((HN.out.call hb).got hq0)
        clear hb hq0
        go_wp2_with fail
       |
        have _:Mk 3 _:=tg
        go_simp
        refine (HAR.out _ _ _ _ _ (HN.out.nat 6 rfl) (HN.out.nat 15 rfl)).mono ?_
        rintro e wd ⟨Ra,Rc,rfl,hq0,hb⟩
        replace HN:=qH ((HN.out.call hb).got hq0)
        clear hb hq0
        go_wp2_with fail
       |
        have _:Mk 4 _:=tg
        have hc0:=HN.out.cell 0 0 rfl rfl
        have hf0:=HN.out.free 0 0 rfl
        go_simp
        clear hc0 hf0
        replace HN:=qH ((HN.out).set 0 0 rfl rfl (fun _=>by simp) (.slice Ra (lenW R) Rc))
        generalize (wd.setCell ⟨w.heap.size+1+1,0,none⟩ (.slice Ra (lenW R) Rc))=wd at HN ⊢
       all_goals
        refine hK.out _ _ (⟨HN.out.cell 1 0 rfl rfl,HN.out.cell 3 0 rfl rfl,HN.out.cell 2 0 rfl rfl⟩) (fun hHeld2=>?_)
        clear hK K hHeld
        rename _=>hHeld
        try simp only [Act.put,stB,stZ,stS]
      all_goals (refine wpAnyH_done (by kernel_rfl) ?_ _)
      all_goals
       have j0_0:=HN.out.cell 0 0 rfl rfl
       go_wp2_with fail
       refine bodyPost_ret (v:=.agg #[.slice Ra (lenW R) Rc]) (by simp [results,Tryz.results189,go_sem,j0_0]) rfl ?_
       exact ⟨Ra,Rc,rfl,HN.out.nat 16 rfl,HN.out.bel⟩
theorem mul_upto (K:Nat) (hK:K≤4398046511104):MulUpto K:=by
 induction K with
 | zero=>exact fun a b c d m n w ha hb h=>mul_small a b c d m n w ha hb (by omega) (by omega)
 | succ K ih =>
  intro a b c d m n w ha hb h
  by_cases h1:8≤lenW m
  ·
   by_cases h2:8≤lenW n
   ·
    exact mul_step (by omega) (ih (by omega)) a b c d m n w ha hb h h1 h2
   ·
    exact mul_small a b c d m n w ha hb (by omega) (by omega)
  ·
   exact mul_small a b c d m n w ha hb (by omega) (by omega)
end Go.Proofs.YtmhainidincjhaaGreatDoor
