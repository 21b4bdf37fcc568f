/-
 What the laws stand on, part E: contracts and plain laws of NShift, NQuot2, Quot3, Quot4, Quot5, Quot6, Quot7; the conditions are each law's own.
-/
import Derived.Test.YtmhainidincjhaaGreatDoorBA
import Derived.Test.YtmhainidincjhaaGreatDoorBD
import Derived.IntWalk
set_option linter.unusedVariables false
set_option linter.unusedSimpArgs false
set_option maxRecDepth 100000
set_option maxHeartbeats 16000000
namespace Go.Proofs.YtmhainidincjhaaGreatDoor
def upX (n s i:Nat):Nat:=n % W64^i*2^s
theorem two_le_word {s:Nat} (hs:s≤64):2^s≤W64:=by
 have:(2:Nat)^s≤2^64:=Nat.pow_le_pow_right (by omega) hs
 exact this
theorem upX_zero (n s:Nat):upX n s 0=0:=by unfold upX;rw [Nat.pow_zero,Nat.mod_one,Nat.zero_mul]
theorem upX_lt (n s i:Nat):upX n s i<W64^i*2^s:=Nat.mul_lt_mul_of_pos_right (Nat.mod_lt _ (W64_pos i)) (Nat.two_pow_pos s)
theorem upX_end {n i:Nat} (s:Nat) (h:n<W64^i):upX n s i=n*2^s:=by unfold upX;rw [Nat.mod_eq_of_lt h]
theorem upX_fit (n:Nat) {s:Nat} (i:Nat) (hs:s≤64):upX n s i<W64^(i+1):=by
 rw [Nat.pow_succ];exact Nat.lt_of_lt_of_le (upX_lt n s i) (Nat.mul_le_mul_left _ (two_le_word hs))
theorem upX_next (n s i:Nat):upX n s (i+1)=upX n s i+wordOf n i*2^s*W64^i:=by
 unfold upX;rw [mod_succ,Nat.add_mul,Nat.mul_comm (W64^i),Nat.mul_right_comm]
theorem upX_over (n s i:Nat):upX n s i / W64^i<2^s:=Nat.div_lt_of_lt_mul (upX_lt n s i)
theorem upX_at (n:Nat) {s:Nat} (i:Nat) (hs:s≤64):wordOf (upX n s i) i=upX n s i / W64^i:=Nat.mod_eq_of_lt (Nat.lt_of_lt_of_le (upX_over n s i) (two_le_word hs))
theorem upX_div (n s i:Nat):upX n s (i+1) / W64^i=upX n s i / W64^i+wordOf n i*2^s:=by
 rw [upX_next,Nat.add_mul_div_right _ _ (W64_pos i)]
theorem mod_part {x s:Nat} (hs:s≤64):∃ y,x*2^s % W64=2^s*y∧2^s*y+2^s≤W64:=by
 refine ⟨x % 2^(64 - s),?_,?_⟩
 ·
  rw [W64_split hs,Nat.mul_mod_mul_right,Nat.mul_comm]
 ·
  have h:x % 2^(64 - s)+1≤2^(64 - s):=Nat.mod_lt _ (Nat.two_pow_pos _)
  have h2:=Nat.mul_le_mul_left (2^s) h
  rw [Nat.mul_add,Nat.mul_one,Nat.mul_comm _ (2^(64 - s)),← W64_split hs] at h2
  rw [Nat.mul_comm (2^s) (x % _)] at h2 ⊢
  exact h2
theorem upX_here (n:Nat) {s:Nat} (i:Nat) (hs:s≤64):wordOf (upX n s (i+1)) i=wordOf (upX n s i) i+wordOf n i*2^s % W64:=by
 obtain ⟨y,e,hy⟩:=mod_part (x:=wordOf n i) hs
 have ho:=upX_over n s i
 rw [upX_at n i hs]
 unfold wordOf at e ⊢
 show upX n s (i+1) / W64^i % W64=_
 rw [upX_div]
 unfold wordOf
 rw [e,Nat.add_mod,e,Nat.mod_eq_of_lt (Nat.lt_of_lt_of_le ho (two_le_word hs)),Nat.mod_eq_of_lt (by omega)]
theorem upX_above (n:Nat) {s:Nat} (i:Nat) (hs:s≤64):wordOf (upX n s (i+1)) (i+1)=wordOf n i / 2^(64 - s):=by
 rw [upX_at n (i+1) hs,Nat.pow_succ,← Nat.div_div_eq_div_mul,upX_div]
 have h1:(upX n s i / W64^i+wordOf n i*2^s) / 2^s=wordOf n i:=by
  rw [Nat.add_mul_div_right _ _ (Nat.two_pow_pos s),Nat.div_eq_of_lt (upX_over n s i),Nat.zero_add]
 have h2:W64=2^s*2^(64 - s):=by rw [Nat.mul_comm];exact W64_split hs
 generalize upX n s i / W64^i+wordOf n i*2^s=z at h1 ⊢
 rw [h2,← Nat.div_div_eq_div_mul,h1]
theorem upX_low (n s i j:Nat) (h:j<i):wordOf (upX n s (i+1)) j=wordOf (upX n s i) j:=by
 rw [upX_next];exact far_word _ _ _ _ h
theorem upX_high (n:Nat) {s:Nat} (i j:Nat) (hs:s≤64) (h:i<j):wordOf (upX n s i) j=0:=wordOf_big (Nat.lt_of_lt_of_le (upX_fit n i hs) (pow_mono h))
theorem w64p0:0<W64:=by unfold W64;omega
theorem upX_or (n:Nat) {s:Nat} (i:Nat) (hs:s≤64):bits .or .u64 ((wordOf (upX n s i) i:Nat):Int) (IntKind.u64.wrap ((wordOf n i:Int)*2^s))=((wordOf (upX n s (i+1)) i:Nat):Int):=by
 obtain ⟨y,e,hy⟩:=mod_part (x:=wordOf n i) hs
 have ho:wordOf (upX n s i) i<2^s:=by rw [upX_at n i hs];exact upX_over n s i
 rw [u64_shl,u64_or _ _ (wordOf_lt _ _) (Nat.mod_lt _ w64p0),upX_here n i hs,e,Nat.or_comm,← Nat.two_pow_add_eq_or_of_lt ho,Nat.add_comm]
theorem down_or (n i:Nat) {s:Nat} (hs:s<64):bits .or .u64 ((wordOf n i:Int) / 2^s) (IntKind.u64.wrap ((wordOf n (i+1):Int)*2^(64 - s)))=((wordOf (n / 2^s) i:Nat):Int):=by
 have hs2:64 - s≤64:=by omega
 obtain ⟨y,e,hy⟩:=mod_part (x:=wordOf n (i+1)) hs2
 have hb:wordOf n i / 2^s<2^(64 - s):=Nat.div_lt_of_lt_mul (by rw [Nat.mul_comm,← W64_split (by omega)];exact wordOf_lt _ _)
 have hb2:wordOf n i / 2^s<W64:=Nat.lt_of_le_of_lt (Nat.div_le_self _ _) (wordOf_lt _ _)
 rw [u64_shl,u64_shr,u64_or _ _ hb2 (Nat.mod_lt _ w64p0),shr_word n i s hs,e,Nat.or_comm,← Nat.two_pow_add_eq_or_of_lt hb,Nat.add_comm]
theorem down_fit {n s k:Nat} (h:n<W64^k):n / 2^s<W64^k:=Nat.lt_of_le_of_lt (Nat.div_le_self _ _) h
def upS (n:Nat):Nat:=64 - bitLen (wordOf n (lenW n - 1))
theorem upS_lt {n:Nat} (h:n≠0):upS n<64:=by
 unfold upS
 have h1:=top_ne h
 have:bitLen (wordOf n (lenW n - 1))≠0:=fun e=>by
  have h2:=bitLen_lt (wordOf n (lenW n - 1))
  rw [e] at h2
  omega
 omega
theorem up_fit {n:Nat} (h:n≠0):n*2^upS n<W64^lenW n:=by
 have hp:=lenW_pos h
 have h1:=word_top h
 have h2:=lead_top (top_ne h) (wordOf_lt n _)
 have hb:bitLen (wordOf n (lenW n - 1))≤64:=bitLen_le (by have:=wordOf_lt n (lenW n - 1);unfold W64 at this;exact this)
 have h3:=bitLen_lt (wordOf n (lenW n - 1))
 obtain ⟨y,hy⟩:∃ y,wordOf n (lenW n - 1)=y:=⟨_,rfl⟩
 obtain ⟨l,hl⟩:∃ l,lenW n=l+1:=⟨lenW n - 1,by omega⟩
 unfold upS
 rw [hy] at h1 h3 hb
 rw [hy]
 rw [hl,Nat.add_sub_cancel] at h1
 rw [hl]
 have e1:n<(y+1)*W64^l:=by
  rw [h1]
  have a1:=Nat.mod_add_div n (W64^l)
  have a2:=Nat.mod_lt n (W64_pos l)
  rw [Nat.add_mul,Nat.one_mul,Nat.mul_comm (n / _)]
  omega
 have e2:(y+1)*2^(64 - bitLen y)≤W64:=by
  have:(y+1)*2^(64 - bitLen y)≤2^bitLen y*2^(64 - bitLen y):=Nat.mul_le_mul_right _ h3
  rw [← Nat.pow_add,show bitLen y+(64 - bitLen y)=64 by omega] at this
  exact this
 have e3:n*2^(64 - bitLen y)<(y+1)*W64^l*2^(64 - bitLen y):=Nat.mul_lt_mul_of_pos_right e1 (Nat.two_pow_pos _)
 rw [Nat.mul_right_comm] at e3
 have e4:=Nat.mul_le_mul_right (W64^l) e2
 rw [Nat.pow_succ,Nat.mul_comm (W64^l)]
 omega
theorem up_len {n:Nat} (h:n≠0):lenW (n*2^upS n)=lenW n :=
 Nat.le_antisymm (lenW_le (up_fit h)) (lenW_mono (Nat.le_mul_of_pos_right _ (Nat.two_pow_pos _)))
theorem up_len1 (n:Nat) {s:Nat} (hs:s≤64):lenW (n*2^s)≤lenW n+1:=lenW_le (by
 have:=upX_fit n (lenW n) hs
 rwa [upX_end s (lt_lenW n)] at this)
theorem left_first {m n s:Nat} (h:n≠0) (hmn:lenW n≤lenW m):leftX (m*2^s) (n*2^s) (lenW m - lenW n+1)=m*2^s:=by
 refine leftX_start _ _ _ ?_
 have h1:=lt_lenW m
 have h2:=lenW_ge h
 have hp:=lenW_pos h
 have h3:W64^lenW m≤n*W64^(lenW m - lenW n+1):=by
  have e:lenW m=(lenW n - 1)+(lenW m - lenW n+1):=by omega
  calc W64^lenW m=W64^(lenW n - 1)*W64^(lenW m - lenW n+1):=by rw [← Nat.pow_add,← e]
   _≤n*W64^(lenW m - lenW n+1):=Nat.mul_le_mul_right _ h2
 rw [Nat.mul_right_comm]
 exact Nat.mul_lt_mul_of_pos_right (Nat.lt_of_lt_of_le h1 h3) (Nat.two_pow_pos s)
def placeU (X V k:Nat):Nat:=leftX X V (k+1) / W64^k
theorem placeU_fit {X V k M:Nat} (hV:0<V) (hM:V<W64^M):placeU X V k<W64^(M+1):=by
 have h:=place_below X V k hV
 rw [Nat.pow_succ]
 exact Nat.lt_trans h (Nat.mul_lt_mul_of_pos_right hM w64p)
theorem placeU_word (X V k j:Nat):wordOf (placeU X V k) j=wordOf (leftX X V (k+1)) (k+j):=word_down _ _ _
theorem placeU_quot (X V k:Nat) (hV:0<V):placeU X V k / V<W64∧placeU X V k / V=wordOf (X / V) k:=by
 have h:=place_word X V k hV
 exact ⟨by unfold placeU;rw [h];exact wordOf_lt _ _,h⟩
theorem place_guess {X V k:Nat} (h2:2≤lenW V):0<wordOf V (lenW V - 1)∧wordOf (placeU X V k) (lenW V)≤wordOf V (lenW V - 1) ∧
  ∃ Q,min (((wordOf (placeU X V k) (lenW V)*W64+wordOf (placeU X V k) (lenW V - 1))*W64+wordOf (placeU X V k) (lenW V - 2)) / (wordOf V (lenW V - 1)*W64+wordOf V (lenW V - 2))) (W64 - 1)=Q∧Q<W64∧(Q=wordOf (X / V) k∧V*Q≤placeU X V k∨Q=wordOf (X / V) k+1∧placeU X V k<V*Q):=by
 have hV0:V≠0:=fun e=>by rw [e,lenW_zero] at h2;omega
 have hV:0<V:=Nat.pos_of_ne_zero hV0
 have hm:=lt_lenW V
 have hg:=lenW_ge hV0
 have ht:=top_ne hV0
 have htw:=word_top hV0
 have hU:=placeU_fit (X:=X) (k:=k) hV hm
 have hB:=place_below X V k hV
 obtain ⟨hq,hqe⟩:=placeU_quot X V k hV
 obtain ⟨m,hme⟩:∃ m,lenW V=m:=⟨_,rfl⟩
 rw [hme] at h2 hm hg ht htw hU ⊢
 obtain ⟨e1,e2⟩:=top_words (placeU X V k) V m h2 hm hU
 refine ⟨Nat.pos_of_ne_zero ht,?_,?_⟩
 ·
  have:wordOf (placeU X V k) m=placeU X V k / W64^m:=by
   unfold wordOf
   refine Nat.mod_eq_of_lt (Nat.div_lt_of_lt_mul ?_)
   rw [← Nat.pow_succ];exact hU
  rw [this,htw]
  obtain ⟨l,rfl⟩:∃ l,m=l+1:=⟨m - 1,by omega⟩
  rw [Nat.add_sub_cancel,Nat.pow_succ,Nat.mul_comm,← Nat.div_div_eq_div_mul]
  refine Nat.div_le_div_right ?_
  exact Nat.le_of_lt (Nat.div_lt_of_lt_mul (by rw [Nat.mul_comm];exact hB))
 ·
  rw [← e1,← e2]
  have hb:W64≤V / W64^(m - 2):=by
   rw [Nat.le_div_iff_mul_le (W64_pos _),Nat.mul_comm,← Nat.pow_succ]
   exact (show W64^(m - 2+1)≤V by rw [show m - 2+1=m - 1 by omega];exact hg)
  obtain ⟨g1,g2⟩:=guess_word (placeU X V k) V (W64^(m - 2)) hV (W64_pos _) hq hb
  rw [hqe] at g1 g2
  obtain ⟨Q,hQ⟩:∃ Q,min (placeU X V k / W64^(m - 2) / (V / W64^(m - 2))) (W64 - 1)=Q:=⟨_,rfl⟩
  rw [hQ] at g1 g2
  have hQW:Q<W64:=by
   have:=Nat.min_le_right (placeU X V k / W64^(m - 2) / (V / W64^(m - 2))) (W64 - 1)
   rw [hQ] at this
   have:=w64p
   omega
  refine ⟨Q,hQ,hQW,?_⟩
  obtain ⟨p1,p2⟩:=put_back (placeU X V k) V Q hV
  rw [hqe] at p1 p2
  rcases Nat.eq_or_lt_of_le g1 with e | e
  ·
   exact .inl ⟨e.symm,(p1 e.symm).1⟩
  ·
   have e9:Q=wordOf (X / V) k+1:=by omega
   exact .inr ⟨e9,(p2 e9).1⟩
theorem place_right {X V k Q M:Nat} (hV:0<V) (hM:V<W64^M) (hQ:Q=wordOf (X / V) k) (hle:V*Q≤placeU X V k) (j:Nat) :
  (if k≤j∧j<k+(M+1) then wordOf (leftU (placeU X V k) (V*Q) M) (j - k) else wordOf (leftX X V (k+1)) j)=wordOf (leftX X V k) j:=by
 have e:=(put_back (placeU X V k) V Q hV).1 (by rw [(placeU_quot X V k hV).2];exact hQ)
 rw [place_words X V k j]
 by_cases h:k≤j∧j<k+(M+1)
 ·
  rw [if_pos h,if_neg (by omega),take_right _ _ _ hle _ (by omega),e.2];rfl
 ·
  rw [if_neg h]
  by_cases h1:j<k
  ·
   rw [if_pos h1]
  ·
   rw [if_neg h1]
   have h2:k+(M+1)≤j:=by omega
   have h3:leftX X V (k+1)<W64^j:=by
    refine Nat.lt_of_lt_of_le (leftX_lt X V (k+1) hV) ?_
    refine Nat.le_trans (Nat.mul_le_mul_right _ (Nat.le_of_lt hM)) ?_
    rw [← Nat.pow_add];exact pow_mono (by omega)
   have h4:leftX X V (k+1) / W64^k % V<W64^(j - k):=Nat.lt_trans (Nat.mod_lt _ hV) (Nat.lt_of_lt_of_le hM (pow_mono (by omega)))
   rw [wordOf_big h3,wordOf_big h4]
theorem place_back {X V k Q M:Nat} (hV:0<V) (hM:V<W64^M) (hQ:Q=wordOf (X / V) k+1) (hlt:placeU X V k<V*Q) (hP:V*Q<W64^(M+1)) (j:Nat) :
  (if k≤j∧j<k+(M+1) then wordOf (leftU (placeU X V k) (V*Q) M+V) (j - k) else wordOf (leftX X V (k+1)) j)=wordOf (leftX X V k) j:=by
 have e:=(put_back (placeU X V k) V Q hV).2 (by rw [(placeU_quot X V k hV).2];exact hQ)
 rw [place_words X V k j]
 by_cases h:k≤j∧j<k+(M+1)
 ·
  rw [if_pos h,if_neg (by omega),back_right _ _ _ _ hlt e.2.1 hP _ (by omega),e.2.2];rfl
 ·
  rw [if_neg h]
  by_cases h1:j<k
  ·
   rw [if_pos h1]
  ·
   rw [if_neg h1]
   have h2:k+(M+1)≤j:=by omega
   have h3:leftX X V (k+1)<W64^j:=by
    refine Nat.lt_of_lt_of_le (leftX_lt X V (k+1) hV) ?_
    refine Nat.le_trans (Nat.mul_le_mul_right _ (Nat.le_of_lt hM)) ?_
    rw [← Nat.pow_add];exact pow_mono (by omega)
   have h4:leftX X V (k+1) / W64^k % V<W64^(j - k):=Nat.lt_trans (Nat.mod_lt _ hV) (Nat.lt_of_lt_of_le hM (pow_mono (by omega)))
   rw [wordOf_big h3,wordOf_big h4]
theorem leftU_fit {U P M:Nat} (h:U<P):leftU U P M<W64^(M+1):=by have:=W64_pos (M+1);unfold leftU;omega
theorem long_done (m n s:Nat):m*2^s / (n*2^s)=m / n∧m*2^s % (n*2^s) / 2^s=m % n:=by
 obtain ⟨h1,h2⟩:=shifted m n (2^s) (Nat.two_pow_pos s)
 exact ⟨h1,by rw [h2,Nat.mul_div_cancel _ (Nat.two_pow_pos s)]⟩
theorem quot_fit {m n:Nat} (h:n≠0) (hmn:lenW n≤lenW m):m / n<W64^(lenW m - lenW n+1):=by
 have:=left_first (m:=m) (s:=0) h hmn
 refine Nat.div_lt_of_lt_mul ?_
 have h2:=lt_lenW m
 have h3:=lenW_ge h
 have hp:=lenW_pos h
 have e:lenW m=(lenW n - 1)+(lenW m - lenW n+1):=by omega
 calc m<W64^lenW m:=h2
  _=W64^(lenW n - 1)*W64^(lenW m - lenW n+1):=by rw [← Nat.pow_add,← e]
  _≤n*W64^(lenW m - lenW n+1):=Nat.mul_le_mul_right _ h3
end Go.Proofs.YtmhainidincjhaaGreatDoor
namespace Go.Proofs.YtmhainidincjhaaGreatDoor
open Go.RowKit
theorem guess_lo (u2 u1 u0 v1 v0:Nat) (w:World) (hu1:u1<W64) (hu0:u0<W64) (hv1:v1<W64) (hv0:v0<W64) (hp:0<v1) (h2:u2<v1):Calls Tryz.prog 216 #[UV u2,UV u1,UV u0,UV v1,UV v0] w fun e w'=>e=.returned (UV (min (((u2*W64+u1)*W64+u0) / (v1*W64+v0)) (W64 - 1)))∧Below w.heap.size w w':=by
 have hg:=Guess.low (y0:=v0) (u:=u2*W64+u1) hp hu0 (Nat.div_lt_of_lt_mul (by have h3:(u2+1)*W64≤v1*W64:=Nat.mul_le_mul_right _ h2;rw [Nat.add_mul,Nat.one_mul] at h3;omega))
 have hD:=div_any u2 u1 v1 hu1 hv1 h2 w
 have hr0:=Nat.mod_lt (u2*W64+u1) hp
 obtain ⟨U,hU⟩:∃ U,u2*W64+u1=U:=⟨_,rfl⟩
 rw [hU] at hg hD hr0 ⊢
 obtain ⟨q0,hq0⟩:∃ q,U / v1=q:=⟨_,rfl⟩
 obtain ⟨r0,hr0'⟩:∃ r,U % v1=r:=⟨_,rfl⟩
 rw [hq0,hr0'] at hg hD
 rw [hr0'] at hr0
 have HG:=qH hg
 have HD:=qH hD
 clear hg hD hU hq0 hr0' h2
 go_enter Tryz.func216,Tryz.ntmps216
 go_wp2_with fail
 refine HD.out.mono ?_
 rintro e w1 ⟨rfl,hb1⟩
 have HB1:=qH hb1
 clear hb1 HD
 go_wp2_with fail
 go_loopw [11,12] (fun v z wr=>∃ q r:Nat,v=UV q∧z=UV r∧Guess v1 v0 U u0 q r∧r<W64∧Below w.heap.size w wr) (fun v _ _=>(intOf v).toNat)
 case atStart=>exact ⟨_,_,rfl,rfl,HG.out,by omega,HB1.out⟩
 case round =>
  obtain ⟨q,r,rfl,rfl,hg,hr,hb⟩:=hrel
  obtain ⟨H,hH⟩:∃ H,q*v0 / W64=H:=⟨_,rfl⟩
  obtain ⟨L,hL⟩:∃ L,q*v0 % W64=L:=⟨_,rfl⟩
  have hL1:L<W64:=hL▸Nat.mod_lt _ w64p
  have hT:=guess_test (r:=r) (show q*v0=H*W64+L by have h9:=Nat.div_add_mod (q*v0) W64;rw [hH,hL,Nat.mul_comm W64] at h9;exact h9.symm) hL1 hu0
  have HM:=qH (fun (W:World)=>mul_at hg.lt hv0 hH hL W)
  have HT:=qH hT
  have HB:=qH hb
  have HG2:=qH hg
  clear hT hb hg hH hL hL1 HG HB1
  go_wp2_with fail
  refine (HM.out _).mono ?_
  rintro e w2 ⟨rfl,rfl⟩
  clear HM
  obtain ⟨S,hS⟩:∃ S,(r+v1) % W64=S:=⟨_,rfl⟩
  obtain ⟨C,hC⟩:∃ C,(r+v1) / W64=C:=⟨_,rfl⟩
  have HA:=qH (fun (W:World)=>add_at0 hr hv1 hS hC W)
  have HS:=qH (show r+v1=C*W64+S by rw [← hS,← hC,Nat.mul_comm];exact (Nat.div_add_mod _ _).symm)
  have HS2:=qH (show S<W64 from hS▸Nat.mod_lt _ w64p)
  have HR:=qH hr
  have HL:=qH hp
  have HV1:=qH hv1
  have HV0:=qH hv0
  clear hS hC hr hu1 hu0 hv1 hv0
  rcases Nat.lt_trichotomy H r with h1 | h1 | h1
  ·
   have HD:=qH (HG2.out.done HL.out (HT.out.1 (.inl h1))).symm
   go_wp2_with fail
   go_ret
   exact ⟨congrArg (fun z:Nat=>Ending.returned (UV z)) HD.out,HB.out⟩
  ·
   subst h1
   by_cases h2:L≤u0
   ·
    have HD:=qH (HG2.out.done HL.out (HT.out.1 (by omega))).symm
    go_wp2_with fail
    go_ret
    exact ⟨congrArg (fun z:Nat=>Ending.returned (UV z)) HD.out,HB.out⟩
   ·
    obtain ⟨hq0,hless⟩:=HG2.out.less HL.out (HT.out.2 (by omega))
    have HLS:=qH hless
    clear hless
    go_upto_region 11 with fail
    have hql:(q:Int)<18446744073709551616:=by have h9:=HG2.out.lt;unfold W64 at h9;omega
    go_wp2_with fail
    refine (HA.out _).mono ?_
    rintro e w3 ⟨rfl,rfl⟩
    by_cases h3:C=1
    ·
     subst h3
     have hov:=HLS.out.over HL.out HV0.out (by have:=HS.out;omega)
     go_wp2_with fail
     go_ret
     refine ⟨?_,HB.out⟩
     rw [hov]
     exact congrArg (fun z=>Ending.returned (Value.int .u64 z)) (by first | omega | (rw [IntKind.wrap_u64];omega))
    ·
     have hc0:C=0:=by
      have h5:=HS.out
      have h6:=HR.out
      have h7:=HV1.out
      rcases Nat.lt_or_ge C 2 with h8 | h8
      ·
       omega
      ·
       have:2*W64≤C*W64:=Nat.mul_le_mul_right _ h8
       omega
     subst hc0
     go_wp2_with fail
     go_roundw
     case rel=>exact ⟨q - 1,S,congrArg (Value.int .u64) (by first | omega | (rw [IntKind.wrap_u64];omega)),rfl,by have h5:=HS.out;rw [Nat.zero_mul,Nat.zero_add] at h5;rw [← h5];exact HLS.out,HS2.out,HB.out⟩
     case measure=>simp [intOf];omega
  ·
   obtain ⟨hq0,hless⟩:=HG2.out.less HL.out (HT.out.2 (by omega))
   have n1:¬ ((H:Int)<(r:Int)):=by omega
   have n2:¬ ((H:Int)=(r:Int)):=by omega
   clear h1
   have HLS:=qH hless
   clear hless
   go_upto_region 11 with fail
   clear n1 n2
   have hql:(q:Int)<18446744073709551616:=by have h9:=HG2.out.lt;unfold W64 at h9;omega
   go_wp2_with fail
   refine (HA.out _).mono ?_
   rintro e w3 ⟨rfl,rfl⟩
   by_cases h3:C=1
   ·
    subst h3
    have hov:=HLS.out.over HL.out HV0.out (by have:=HS.out;omega)
    go_wp2_with fail
    go_ret
    refine ⟨?_,HB.out⟩
    rw [hov]
    exact congrArg (fun z=>Ending.returned (Value.int .u64 z)) (by first | omega | (rw [IntKind.wrap_u64];omega))
   ·
    have hc0:C=0:=by
     have h5:=HS.out
     have h6:=HR.out
     have h7:=HV1.out
     rcases Nat.lt_or_ge C 2 with h8 | h8
     ·
      omega
     ·
      have:2*W64≤C*W64:=Nat.mul_le_mul_right _ h8
      omega
    subst hc0
    go_wp2_with fail
    go_roundw
    case rel=>exact ⟨q - 1,S,congrArg (Value.int .u64) (by first | omega | (rw [IntKind.wrap_u64];omega)),rfl,by have h5:=HS.out;rw [Nat.zero_mul,Nat.zero_add] at h5;rw [← h5];exact HLS.out,HS2.out,HB.out⟩
    case measure=>simp [intOf];omega
theorem guess_hi (u2 u1 u0 v1 v0:Nat) (w:World) (hu1:u1<W64) (hu0:u0<W64) (hv1:v1<W64) (hv0:v0<W64) (hp:0<v1) (h2:u2=v1):Calls Tryz.prog 216 #[UV u2,UV u1,UV u0,UV v1,UV v0] w fun e w'=>e=.returned (UV (min (((u2*W64+u1)*W64+u0) / (v1*W64+v0)) (W64 - 1)))∧Below w.heap.size w w':=by
 subst h2
 have hg:=Guess.high (y1:=u2) (y0:=v0) (next:=u0) u1
 have hD:=div_no u2 u1 u2 (Nat.le_refl _) w
 obtain ⟨U,hU⟩:∃ U,u2*W64+u1=U:=⟨_,rfl⟩
 rw [hU] at hg ⊢
 obtain ⟨S,hS⟩:∃ S,(u1+u2) % W64=S:=⟨_,rfl⟩
 obtain ⟨C,hC⟩:∃ C,(u1+u2) / W64=C:=⟨_,rfl⟩
 have HA0:=qH (fun (W:World)=>add_at0 hu1 hv1 hS hC W)
 have HS0:=qH (show u1+u2=C*W64+S by rw [← hS,← hC,Nat.mul_comm];exact (Nat.div_add_mod _ _).symm)
 have HS1:=qH (show S<W64 from hS▸Nat.mod_lt _ w64p)
 have HG0:=qH hg
 have HD:=qH hD
 obtain ⟨v1,hv⟩:∃ v,u2=v:=⟨_,rfl⟩
 rw [hv] at hv1 hp HG0 HS0 HA0 HD ⊢
 have hD2:=HD.out
 have HD:=qH hD2
 clear hg hD hU hS hC hD2 hv
 go_enter Tryz.func216,Tryz.ntmps216
 go_wp2_with fail
 refine HD.out.mono ?_
 rintro e w1 ⟨rfl,rfl⟩
 clear HD
 go_wp2_with fail
 refine (HA0.out _).mono ?_
 rintro e w2 ⟨rfl,rfl⟩
 clear HA0
 have HB1:=qH (Below.refl w.heap.size w)
 by_cases hc1:C=1
 ·
  subst hc1
  have hov:=HG0.out.over hp hv0 (by have:=HS0.out;omega)
  go_wp2_with fail
  go_ret
  exact ⟨congrArg (fun z:Nat=>Ending.returned (UV z)) hov.symm,HB1.out⟩
 ·
  have hc0:C=0:=by
   have h5:=HS0.out
   rcases Nat.lt_or_ge C 2 with h8 | h8
   ·
    omega
   ·
    have:2*W64≤C*W64:=Nat.mul_le_mul_right _ h8
    omega
  subst hc0
  have HG:=qH (show Guess v1 v0 U u0 (W64 - 1) S by have h5:=HS0.out;rw [Nat.zero_mul,Nat.zero_add] at h5;rw [← h5];exact HG0.out)
  clear HG0 HS0 hc1
  go_wp2_with fail
  go_loopw [11,12] (fun v z wr=>∃ q r:Nat,v=UV q∧z=UV r∧Guess v1 v0 U u0 q r∧r<W64∧Below w.heap.size w wr) (fun v _ _=>(intOf v).toNat)
  case atStart=>exact ⟨_,_,rfl,rfl,HG.out,HS1.out,HB1.out⟩
  case round =>
   obtain ⟨q,r,rfl,rfl,hg,hr,hb⟩:=hrel
   obtain ⟨H,hH⟩:∃ H,q*v0 / W64=H:=⟨_,rfl⟩
   obtain ⟨L,hL⟩:∃ L,q*v0 % W64=L:=⟨_,rfl⟩
   have hL1:L<W64:=hL▸Nat.mod_lt _ w64p
   have hT:=guess_test (r:=r) (show q*v0=H*W64+L by have h9:=Nat.div_add_mod (q*v0) W64;rw [hH,hL,Nat.mul_comm W64] at h9;exact h9.symm) hL1 hu0
   have HM:=qH (fun (W:World)=>mul_at hg.lt hv0 hH hL W)
   have HT:=qH hT
   have HB:=qH hb
   have HG2:=qH hg
   clear hT hb hg hH hL hL1 HG HB1
   go_wp2_with fail
   refine (HM.out _).mono ?_
   rintro e w2 ⟨rfl,rfl⟩
   clear HM
   obtain ⟨S,hS⟩:∃ S,(r+v1) % W64=S:=⟨_,rfl⟩
   obtain ⟨C,hC⟩:∃ C,(r+v1) / W64=C:=⟨_,rfl⟩
   have HA:=qH (fun (W:World)=>add_at0 hr hv1 hS hC W)
   have HS:=qH (show r+v1=C*W64+S by rw [← hS,← hC,Nat.mul_comm];exact (Nat.div_add_mod _ _).symm)
   have HS2:=qH (show S<W64 from hS▸Nat.mod_lt _ w64p)
   have HR:=qH hr
   have HL:=qH hp
   have HV1:=qH hv1
   have HV0:=qH hv0
   clear hS hC hr hu1 hu0 hv1 hv0
   rcases Nat.lt_trichotomy H r with h1 | h1 | h1
   ·
    have HD:=qH (HG2.out.done HL.out (HT.out.1 (.inl h1))).symm
    go_wp2_with fail
    go_ret
    exact ⟨congrArg (fun z:Nat=>Ending.returned (UV z)) HD.out,HB.out⟩
   ·
    subst h1
    by_cases h2:L≤u0
    ·
     have HD:=qH (HG2.out.done HL.out (HT.out.1 (by omega))).symm
     go_wp2_with fail
     go_ret
     exact ⟨congrArg (fun z:Nat=>Ending.returned (UV z)) HD.out,HB.out⟩
    ·
     obtain ⟨hq0,hless⟩:=HG2.out.less HL.out (HT.out.2 (by omega))
     have HLS:=qH hless
     clear hless
     go_upto_region 11 with fail
     have hql:(q:Int)<18446744073709551616:=by have h9:=HG2.out.lt;unfold W64 at h9;omega
     go_wp2_with fail
     refine (HA.out _).mono ?_
     rintro e w3 ⟨rfl,rfl⟩
     by_cases h3:C=1
     ·
      subst h3
      have hov:=HLS.out.over HL.out HV0.out (by have:=HS.out;omega)
      go_wp2_with fail
      go_ret
      refine ⟨?_,HB.out⟩
      rw [hov]
      exact congrArg (fun z=>Ending.returned (Value.int .u64 z)) (by first | omega | (rw [IntKind.wrap_u64];omega))
     ·
      have hc0:C=0:=by
       have h5:=HS.out
       have h6:=HR.out
       have h7:=HV1.out
       rcases Nat.lt_or_ge C 2 with h8 | h8
       ·
        omega
       ·
        have:2*W64≤C*W64:=Nat.mul_le_mul_right _ h8
        omega
      subst hc0
      go_wp2_with fail
      go_roundw
      case rel=>exact ⟨q - 1,S,congrArg (Value.int .u64) (by first | omega | (rw [IntKind.wrap_u64];omega)),rfl,by have h5:=HS.out;rw [Nat.zero_mul,Nat.zero_add] at h5;rw [← h5];exact HLS.out,HS2.out,HB.out⟩
      case measure=>simp [intOf];omega
   ·
    obtain ⟨hq0,hless⟩:=HG2.out.less HL.out (HT.out.2 (by omega))
    have n1:¬ ((H:Int)<(r:Int)):=by omega
    have n2:¬ ((H:Int)=(r:Int)):=by omega
    clear h1
    have HLS:=qH hless
    clear hless
    go_upto_region 11 with fail
    clear n1 n2
    have hql:(q:Int)<18446744073709551616:=by have h9:=HG2.out.lt;unfold W64 at h9;omega
    go_wp2_with fail
    refine (HA.out _).mono ?_
    rintro e w3 ⟨rfl,rfl⟩
    by_cases h3:C=1
    ·
     subst h3
     have hov:=HLS.out.over HL.out HV0.out (by have:=HS.out;omega)
     go_wp2_with fail
     go_ret
     refine ⟨?_,HB.out⟩
     rw [hov]
     exact congrArg (fun z=>Ending.returned (Value.int .u64 z)) (by first | omega | (rw [IntKind.wrap_u64];omega))
    ·
     have hc0:C=0:=by
      have h5:=HS.out
      have h6:=HR.out
      have h7:=HV1.out
      rcases Nat.lt_or_ge C 2 with h8 | h8
      ·
       omega
      ·
       have:2*W64≤C*W64:=Nat.mul_le_mul_right _ h8
       omega
     subst hc0
     go_wp2_with fail
     go_roundw
     case rel=>exact ⟨q - 1,S,congrArg (Value.int .u64) (by first | omega | (rw [IntKind.wrap_u64];omega)),rfl,by have h5:=HS.out;rw [Nat.zero_mul,Nat.zero_add] at h5;rw [← h5];exact HLS.out,HS2.out,HB.out⟩
     case measure=>simp [intOf];omega
theorem guess_any (u2 u1 u0 v1 v0:Nat) (w:World) (hu1:u1<W64) (hu0:u0<W64) (hv1:v1<W64) (hv0:v0<W64) (hp:0<v1) (h2:u2≤v1):Calls Tryz.prog 216 #[UV u2,UV u1,UV u0,UV v1,UV v0] w fun e w'=>e=.returned (UV (min (((u2*W64+u1)*W64+u0) / (v1*W64+v0)) (W64 - 1)))∧Below w.heap.size w w':=by
 rcases Nat.lt_or_eq_of_le h2 with h | h
 ·
  exact guess_lo u2 u1 u0 v1 v0 w hu1 hu0 hv1 hv0 hp h
 ·
  exact guess_hi u2 u1 u0 v1 v0 w hu1 hu0 hv1 hv0 hp h
def OwnF (W:World) (g:Nat) (M:Nat × Nat) (f:Nat→Nat):Prop:=∃ cs,W.heap[g]?=some (.cells cs 164 (0,0))∧∀ j,(M.1≤j∧j<M.2)→cs[j]?=some (UV (f j))
section
variable {W W' : World} {g : Nat} {M : Nat × Nat} {f f' : Nat → Nat}
theorem OwnF.lt (h:OwnF W g M f):g<W.heap.size:=by obtain ⟨cs,h,_⟩:=h;exact lt_of_block h
theorem OwnF.cell (h:OwnF W g M f) {j:Nat} (hj:M.1≤j∧j<M.2):W.cell? ⟨g,j,none⟩=some (UV (f j)):=by obtain ⟨cs,h,hc⟩:=h;exact cell_of_block h (hc j hj)
theorem OwnF.free (h:OwnF W g M f) (j:Nat):W.frozen? ⟨g,j,none⟩=false:=by obtain ⟨cs,h,hc⟩:=h;exact free_of_block h
theorem OwnF.same (h:OwnF W g M f) (hs:W'.heap[g]?=W.heap[g]?):OwnF W' g M f:=by obtain ⟨cs,h,hc⟩:=h;exact ⟨cs,hs.trans h,hc⟩
theorem OwnF.word (h:OwnF W g M f):WordB W g:=by obtain ⟨cs,h,_⟩:=h;exact ⟨cs,h⟩
theorem OwnF.congr (h:OwnF W g M f) (hf:∀ j,(M.1≤j∧j<M.2)→f' j=f j):OwnF W g M f':=by obtain ⟨cs,h,hc⟩:=h;exact ⟨cs,h,fun j hj=>by rw [hf j hj];exact hc j hj⟩
theorem OwnF.set (h:OwnF W g M f) (t x:Nat) (hf:∀ j,(M.1≤j∧j<M.2)→f' j=if j=t then x else f j):OwnF (W.setCell ⟨g,t,none⟩ (UV x)) g M f':=by
 obtain ⟨cs,h,hc⟩:=h
 refine ⟨_,heap_setCell_same W g t cs _ (UV x) h,fun j hj=>?_⟩
 rw [hf j hj]
 have hjc:=hc j hj
 have hlt:j<cs.size:=by
  rcases Nat.lt_or_ge j cs.size with h1 | h1
  ·
   exact h1
  ·
   rw [Array.getElem?_eq_none h1] at hjc;cases hjc
 by_cases e:j=t
 ·
  subst e;rw [if_pos rfl,Array.getElem?_setIfInBounds_self_of_lt hlt]
 ·
  rw [if_neg e,Array.getElem?_setIfInBounds_ne (fun e2=>e e2.symm)];exact hjc
end
theorem NatW.off {w w':World} {a:Option Addr} {c n:Nat} {S:Nat→Prop} (h:NatW w a c n) (hk:Keeps w w' S) (hn:∀ k,(Value.slice a (lenW n) c).ownBlock=some k→¬ S k):NatW w' a c n :=
 ⟨Sl.keeps h.sl hk fun k _ e=>hn k e,fun h0 k e=>(h.ty h0 k e).same (hk.block k (h.ty h0 k e).lt (hn k e))⟩
def putF (f:Nat→Nat) (o n x j:Nat):Nat:=if o≤j∧j<o+n then wordOf x (j - o) else f j
theorem putF_zero (f:Nat→Nat) (o x j:Nat):putF f o 0 x j=f j:=by unfold putF;rw [if_neg (by omega)]
theorem putF_next (f:Nat→Nat) (o k x j:Nat):putF f o (k+1) x j=if j=o+k then wordOf x k else putF f o k x j:=by
 unfold putF
 by_cases e:j=o+k
 ·
  subst e;rw [if_pos rfl,if_pos (by omega),Nat.add_sub_cancel_left]
 ·
  rw [if_neg e]
  by_cases h:o≤j∧j<o+k
  ·
   rw [if_pos h,if_pos (by omega)]
  ·
   rw [if_neg h,if_neg (by omega)]
theorem putF_at (f:Nat→Nat) (o k x:Nat):putF f o k x (o+k)=f (o+k):=by unfold putF;rw [if_neg (by omega)]
structure TS (w:World) (g:Nat) (M:Nat × Nat) (f:Nat→Nat) (b:Nat) (v:Value) (W:World):Prop where
 keep:Keeps w W (fun z=>z=g)
 own:OwnF W g M f
 box:W.heap[b]?=some (.cells #[v] 41 (0,0))
section
variable {w W W' : World} {g b : Nat} {M : Nat × Nat} {f f' : Nat → Nat} {v : Value}
theorem TS.below (h:TS w g M f b v W) (hb:Below W.heap.size W W'):TS w g M f b v W' :=
 ⟨h.keep.trans (Keeps.of_below hb (S:=fun z=>z=g) fun z h1 h2=>absurd h1 (Nat.not_le_of_lt h2)) fun z _ h2=>h2,h.own.same (hb.block _ h.own.lt),(hb.block _ (lt_of_block h.box)).trans h.box⟩
theorem TS.drew (h:TS w g M f b v W):TS w g M f b v W.drew:=h.below (Below.refl _ _).drew
theorem TS.cell (h:TS w g M f b v W):W.cell? ⟨b,0,none⟩=some v:=cell_of_block h.box rfl
theorem TS.set (h:TS w g M f b v W) (hbg:b≠g) (t x:Nat) (hf:∀ j,(M.1≤j∧j<M.2)→f' j=if j=t then x else f j):TS w g M f' b v (W.setCell ⟨g,t,none⟩ (UV x)) :=
 ⟨h.keep.trans (Keeps.setCell W ⟨g,t,none⟩ (UV x) (S:=fun z=>z=g) rfl) fun z _ h2=>h2,h.own.set t x hf,(Below.heap_setCell _ _ _ _ hbg).trans h.box⟩
theorem TS.congr (h:TS w g M f b v W) (hf:∀ j,(M.1≤j∧j<M.2)→f' j=f j):TS w g M f' b v W:=⟨h.keep,h.own.congr hf,h.box⟩
theorem TS.start (h:OwnF w g M f) (v:Value):TS w g M f w.heap.size v (w.alloc (.cells #[v] 41)) :=
 ⟨Keeps.alloc _ _ _,h.same (Below.heap_alloc _ _ _ h.lt),heap_alloc_new _ _⟩
end
def RetT (v:Value) (g:Nat) (M:Nat × Nat) (f:Nat→Nat) (w:World) (e:Ending) (w':World):Prop:=e=.returned v∧Keeps w w' (fun z=>z=g)∧OwnF w' g M f
theorem muladd0_at {x y p H L:Nat} (hx:x<W64) (hy:y<W64) (hp:p<W64) (hH:(x*y+p) / W64=H) (hL:(x*y+p) % W64=L) (w:World) :
  Calls Tryz.prog 191 #[UV x,UV y,UV p,.int .u64 0] w fun e w'=>e=.returned (.tuple #[UV H,UV L])∧Below w.heap.size w w' :=
 madd_at (q:=0) hx hy hp w64p (by rw [Nat.add_zero];exact hH) (by rw [Nat.add_zero];exact hL) w
theorem take_any (g o:Nat) (M:Nat × Nat) (cap:Nat) (f:Nat→Nat) (a:Option Addr) (c V U:Nat) (w:World) (hown:OwnF w g M f) (hv:NatW w a c V) (hne:∀ k,(Value.slice a (lenW V) c).ownBlock=some k→¬ k=g) (hL:M.1≤o∧o+lenW V+1≤M.2) (hM:lenW V+1≤35184372088832) (hcap:lenW V+1≤cap∧cap≤9223372036854775807) (hU:U<W64^(lenW V+1)) (hf:∀ k,k≤lenW V→f (o+k)=wordOf U k) (q:Nat) (hq:q<W64):Calls Tryz.prog 217 #[.slice (some ⟨g,o,none⟩) (lenW V+1) cap,.agg #[.slice a (lenW V) c],UV q] w (RetT (.bool (decide (U<V*q))) g M (putF f o (lenW V+1) (leftU U (V*q) (lenW V))) w):=by
 have hbg:w.heap.size≠g:=fun e=>by have:=hown.lt;omega
 have hVm:=lt_lenW V
 have hts:=TS.start hown (.slice a (lenW V) c)
 have hLN:=fun (f':Nat→Nat) (W:World) (h:TS w g M f' w.heap.size (.slice a (lenW V) c) W)=>(nlen_any a c V W).mono fun e w' (k:_∧_)=>(⟨k.1,h.below k.2⟩:e=.returned (.int .i64 (lenW V))∧TS w g M f' w.heap.size (.slice a (lenW V) c) w')
 have hWD:=fun (f':Nat→Nat) (j:Nat) (W:World) (h:TS w g M f' w.heap.size (.slice a (lenW V) c) W) (hj:j≤9223372036854775807)=>(word_any a c V j W (hv.off h.keep hne) hj).mono fun e w' (k:_∧_)=>(⟨k.1,h.below k.2⟩:e=.returned (UV (wordOf V j))∧TS w g M f' w.heap.size (.slice a (lenW V) c) w')
 obtain ⟨m,hm⟩:∃ m,lenW V=m:=⟨_,rfl⟩
 rw [hm] at hL hM hcap hU hVm hts hLN hWD hf
 rw [hm]
 obtain ⟨hov,hPm⟩:=over_word V q m hVm hq
 obtain ⟨D,hD⟩:∃ D,leftU U (V*q) m=D:=⟨_,rfl⟩
 have hTW:=fun k hk=>take_word U (V*q) m k hPm hk
 rw [hD] at hTW
 rw [hD]
 have hend:=take_end U (V*q) m hU hPm
 have hMW:=fun k=>mul_word V q 0 k
 obtain ⟨Pq,hP⟩:∃ z,V*q=z:=⟨_,rfl⟩
 rw [hP] at hov hTW hend
 rw [hP]
 have hSW:=fun (f':Nat→Nat) (k:Nat) (hk:k≤m) (W:World) (h:TS w g M f' w.heap.size (.slice a m c) W)=>(sub_at (wordOf_lt U k) (wordOf_lt Pq k) (borrowS_le U Pq k) (hTW k hk).1 (hTW k hk).2 W).mono fun e w' (k':_∧_)=>(⟨k'.1,k'.2▸h⟩:e=.returned (.tuple #[UV (wordOf D k),UV (borrowS U Pq (k+1))])∧TS w g M f' w.heap.size (.slice a m c) w')
 have hMA:=fun (f':Nat→Nat) (k:Nat) (W:World) (h:TS w g M f' w.heap.size (.slice a m c) W)=>(muladd0_at (wordOf_lt V k) hq (carryM_lt V q 0 k hq w64p) (hMW k).2 (hMW k).1 W).mono fun e w' (k':_∧_)=>(⟨k'.1,h.below k'.2⟩:e=.returned (.tuple #[UV (carryM V q 0 (k+1)),UV (wordOf (V*q+0) k)])∧TS w g M f' w.heap.size (.slice a m c) w')
 rw [Nat.add_zero,hP] at hMA
 have HTS:=qH hts
 have HLN:=qH hLN
 have HWD:=qH hWD
 have HBG:=qH hbg
 have HL:=qH hL
 have HF:=qH hf
 have hm1:(m:Int)+1≤35184372088832:=by omega
 have hc1:(m:Int)+1≤(cap:Int):=by omega
 have HSW:=qH hSW
 have HMA:=qH hMA
 have HOV:=qH hov
 have HEND:=qH hend
 clear hbg hts hLN hWD hSW hMA hov hend hown hv hne hTW hMW hVm hPm hm hq hU hD hP hf hL hM hcap
 go_enter Tryz.func217,Tryz.ntmps217
 have k0:=HTS.out.cell
 go_wp2_with fail
 clear k0
 refine (HLN.out _ _ HTS.out).mono ?_
 rintro e w1 ⟨rfl,h1⟩
 have HT1:=qH h1
 clear h1 HTS
 go_wp2_with fail
 go_loopw [7,8,14] (fun v7 v8 v14 wr=>∃ k:Nat,k≤m∧v7=UV (carryM V q 0 k)∧v8=UV (borrowS U Pq k)∧v14=.int .i64 k∧TS w g M (putF f o k D) w.heap.size (.slice a m c) wr) (fun _ _ v14 _=>m - (intOf v14).toNat)
 case atStart=>exact ⟨0,Nat.zero_le _,by rw [carryM_zero];rfl,by rw [borrowS_zero];rfl,rfl,HT1.out.congr fun j _=>putF_zero _ _ _ _⟩
 case round =>
  obtain ⟨k,hk,rfl,rfl,rfl,hts⟩:=hrel
  clear HT1
  have HTR:=qH hts
  clear hts
  by_cases hlt:k<m
  ·
   have k0:=HTR.out.cell
   go_wp2_with fail
   clear k0
   refine (HWD.out _ _ _ HTR.out (by omega)).mono ?_
   rintro e w2 ⟨rfl,h2⟩
   have HT2:=qH h2
   clear h2
   go_wp2_with fail
   refine (HMA.out _ _ _ HT2.out).mono ?_
   rintro e w3 ⟨rfl,h3⟩
   have HT3:=qH h3
   clear h3
   have hok:M.1≤o+k∧o+k<M.2:=by have:=HL.out;omega
   have kc:=HT3.out.own.cell hok
   rw [putF_at,HF.out k (by omega)] at kc
   go_wp2_with fail
   clear kc
   refine (HSW.out _ k (by omega) _ HT3.out).mono ?_
   rintro e w4 ⟨rfl,h4⟩
   have HT4:=qH h4
   clear h4
   have kc:=HT4.out.own.cell hok
   rw [putF_at,HF.out k (by omega)] at kc
   have kf:=HT4.out.own.free (o+k)
   go_wp2_with fail
   clear kc kf
   go_roundw
   case rel=>exact ⟨k+1,by omega,rfl,rfl,by go_num,HT4.out.set HBG.out (o+k) (wordOf D k) fun j _=>putF_next _ _ _ _ _⟩
   case measure=>simp [intOf];omega
  ·
   obtain rfl:k=m:=by omega
   have hok:M.1≤o+k∧o+k<M.2:=by have:=HL.out;omega
   rw [HOV.out]
   have HCL:=qH (fun (W:World) (h:TS w g M (putF f o k D) w.heap.size (.slice a k c) W)=>show W.cell? ⟨g,o+k,none⟩=some (UV (wordOf U k)) by have h9:=h.own.cell hok;rwa [putF_at,HF.out k (Nat.le_refl _)] at h9)
   have HSB:=qH (fun (W:World) (h:TS w g M (putF f o k D) w.heap.size (.slice a k c) W)=>HSW.out _ k (Nat.le_refl _) W h)
   have HST:=qH (fun (W:World) (h:TS w g M (putF f o k D) w.heap.size (.slice a k c) W)=>show TS w g M (putF f o (k+1) D) w.heap.size (.slice a k c) (W.setCell ⟨g,o+k,none⟩ (UV (wordOf D k))) from h.set HBG.out (o+k) (wordOf D k) fun j _=>putF_next _ _ _ _ _)
   by_cases hlo:U<Pq
   ·
    have hbe:borrowS U Pq (k+1)=1:=by rw [HEND.out,if_pos hlo]
    rw [hbe] at HSB
    have HDEC:=qH (decide_eq_true hlo)
    clear hbe hlo hk hlt
    have kk:(k:Int)<(k:Int)+1:=by omega
    have kk0:(0:Int)≤(k:Int):=by omega
    go_upto_region 9 with fail
    have hn:=HTR.out.drew
    refine wp_region_held_drew (S:=fun W=>W.cell? ⟨w.heap.size,0,none⟩=some (.slice a k c)) (by kernel_rfl) (hn.cell) (fun hHeld=>?_)
    refine tm 0 (some 42) ?_
    refine tl 1 (some 43) ?_
    refine tm 3 (some 45) ?_
    refine tl 4 (some 46) ?_
    refine tm 8 (some 50) ?_
    refine tm 9 (some 51) ?_
    refine wpAnyH_ready (rs:=[2]) (by kernel_rfl) (by simp) ?_
    refine (AllReadyH.cons rfl (fun K hK=>?_) AllReadyH.nil)
    go_simp
    refine (HLN.out _ _ hn).mono ?_
    rintro e w1 ⟨rfl,hn1⟩
    clear hn
    have hn:=hn1
    clear hn1
    go_wp2_with fail
    refine hK.out _ _ (hn.cell) (fun hHeld2=>?_)
    clear hK K hHeld
    rename _=>hHeld
    try simp only [Act.put,stB,stZ,stS]
    refine wpAnyH_ready (rs:=[5]) (by kernel_rfl) (by simp) ?_
    refine (AllReadyH.cons rfl (fun K hK=>?_) AllReadyH.nil)
    go_simp
    refine (HLN.out _ _ hn).mono ?_
    rintro e w1 ⟨rfl,hn1⟩
    clear hn
    have hn:=hn1
    clear hn1
    go_wp2_with fail
    refine hK.out _ _ (hn.cell) (fun hHeld2=>?_)
    clear hK K hHeld
    rename _=>hHeld
    try simp only [Act.put,stB,stZ,stS]
    refine tl 6 (some 48) ?_
    refine wpAnyH_ready (rs:=[7]) (by kernel_rfl) (by simp) ?_
    refine (AllReadyH.cons rfl (fun K hK=>?_) AllReadyH.nil)
    have hc:=HCL.out _ hn
    go_simp
    clear hc
    refine hK.out _ _ (hn.cell) (fun hHeld2=>?_)
    clear hK K hHeld
    rename _=>hHeld
    try simp only [Act.put,stB,stZ,stS]
    refine wpAnyH_ready (rs:=[10]) (by kernel_rfl) (by simp) ?_
    refine (AllReadyH.cons rfl (fun K hK=>?_) AllReadyH.nil)
    go_simp
    refine (HSB.out _ hn).mono ?_
    rintro e w1 ⟨rfl,hn1⟩
    clear hn
    have hn:=hn1
    clear hn1
    go_wp2_with fail
    refine hK.out _ _ (hn.cell) (fun hHeld2=>?_)
    clear hK K hHeld
    rename _=>hHeld
    try simp only [Act.put,stB,stZ,stS]
    refine tm 11 (some 41) ?_
    refine tm 12 (some 53) ?_
    refine tm 13 (some 54) ?_
    refine tl 14 (some 55) ?_
    refine wpAnyH_ready (rs:=[15]) (by kernel_rfl) (by simp) ?_
    refine (AllReadyH.cons rfl (fun K hK=>?_) AllReadyH.nil)
    have hc:=HCL.out _ hn
    have hf:=hn.own.free (o+k)
    go_simp
    clear hc hf
    have hn1:=HST.out _ hn
    clear hn
    have hn:=hn1
    clear hn1
    refine hK.out _ _ (hn.cell) (fun hHeld2=>?_)
    clear hK K hHeld
    rename _=>hHeld
    try simp only [Act.put,stB,stZ,stS]
    refine tm 16 (some 8) ?_
    refine wpAnyH_done (by kernel_rfl) ?_ _
    have HN:=qH hn
    clear hn
    go_wp2_with fail
    go_ret
    exact ⟨congrArg (fun z:Bool=>Ending.returned (.bool z)) (by first | (rw [HDEC.out];done) | (rw [HDEC.out];simp)),HN.out.keep,HN.out.own⟩
   ·
    have hbe:borrowS U Pq (k+1)=0:=by rw [HEND.out,if_neg hlo]
    rw [hbe] at HSB
    have HDEC:=qH (decide_eq_false hlo)
    clear hbe hlo hk hlt
    have kk:(k:Int)<(k:Int)+1:=by omega
    have kk0:(0:Int)≤(k:Int):=by omega
    go_upto_region 9 with fail
    have hn:=HTR.out.drew
    refine wp_region_held_drew (S:=fun W=>W.cell? ⟨w.heap.size,0,none⟩=some (.slice a k c)) (by kernel_rfl) (hn.cell) (fun hHeld=>?_)
    refine tm 0 (some 42) ?_
    refine tl 1 (some 43) ?_
    refine tm 3 (some 45) ?_
    refine tl 4 (some 46) ?_
    refine tm 8 (some 50) ?_
    refine tm 9 (some 51) ?_
    refine wpAnyH_ready (rs:=[2]) (by kernel_rfl) (by simp) ?_
    refine (AllReadyH.cons rfl (fun K hK=>?_) AllReadyH.nil)
    go_simp
    refine (HLN.out _ _ hn).mono ?_
    rintro e w1 ⟨rfl,hn1⟩
    clear hn
    have hn:=hn1
    clear hn1
    go_wp2_with fail
    refine hK.out _ _ (hn.cell) (fun hHeld2=>?_)
    clear hK K hHeld
    rename _=>hHeld
    try simp only [Act.put,stB,stZ,stS]
    refine wpAnyH_ready (rs:=[5]) (by kernel_rfl) (by simp) ?_
    refine (AllReadyH.cons rfl (fun K hK=>?_) AllReadyH.nil)
    go_simp
    refine (HLN.out _ _ hn).mono ?_
    rintro e w1 ⟨rfl,hn1⟩
    clear hn
    have hn:=hn1
    clear hn1
    go_wp2_with fail
    refine hK.out _ _ (hn.cell) (fun hHeld2=>?_)
    clear hK K hHeld
    rename _=>hHeld
    try simp only [Act.put,stB,stZ,stS]
    refine tl 6 (some 48) ?_
    refine wpAnyH_ready (rs:=[7]) (by kernel_rfl) (by simp) ?_
    refine (AllReadyH.cons rfl (fun K hK=>?_) AllReadyH.nil)
    have hc:=HCL.out _ hn
    go_simp
    clear hc
    refine hK.out _ _ (hn.cell) (fun hHeld2=>?_)
    clear hK K hHeld
    rename _=>hHeld
    try simp only [Act.put,stB,stZ,stS]
    refine wpAnyH_ready (rs:=[10]) (by kernel_rfl) (by simp) ?_
    refine (AllReadyH.cons rfl (fun K hK=>?_) AllReadyH.nil)
    go_simp
    refine (HSB.out _ hn).mono ?_
    rintro e w1 ⟨rfl,hn1⟩
    clear hn
    have hn:=hn1
    clear hn1
    go_wp2_with fail
    refine hK.out _ _ (hn.cell) (fun hHeld2=>?_)
    clear hK K hHeld
    rename _=>hHeld
    try simp only [Act.put,stB,stZ,stS]
    refine tm 11 (some 41) ?_
    refine tm 12 (some 53) ?_
    refine tm 13 (some 54) ?_
    refine tl 14 (some 55) ?_
    refine wpAnyH_ready (rs:=[15]) (by kernel_rfl) (by simp) ?_
    refine (AllReadyH.cons rfl (fun K hK=>?_) AllReadyH.nil)
    have hc:=HCL.out _ hn
    have hf:=hn.own.free (o+k)
    go_simp
    clear hc hf
    have hn1:=HST.out _ hn
    clear hn
    have hn:=hn1
    clear hn1
    refine hK.out _ _ (hn.cell) (fun hHeld2=>?_)
    clear hK K hHeld
    rename _=>hHeld
    try simp only [Act.put,stB,stZ,stS]
    refine tm 16 (some 8) ?_
    refine wpAnyH_done (by kernel_rfl) ?_ _
    have HN:=qH hn
    clear hn
    go_wp2_with fail
    go_ret
    exact ⟨congrArg (fun z:Bool=>Ending.returned (.bool z)) (by first | (rw [HDEC.out];done) | (rw [HDEC.out];simp)),HN.out.keep,HN.out.own⟩
theorem wrap_add_words (x y:Nat) (hx:x<W64) (hy:y<W64) (z:Nat) (h:(x+y) % W64=z):IntKind.u64.wrap ((x:Int)+(y:Int))=(z:Int):=by rw [u64_add,h]
theorem back_any (g o:Nat) (M:Nat × Nat) (cap:Nat) (f:Nat→Nat) (a:Option Addr) (c V U:Nat) (w:World) (hown:OwnF w g M f) (hv:NatW w a c V) (hne:∀ k,(Value.slice a (lenW V) c).ownBlock=some k→¬ k=g) (hL:M.1≤o∧o+lenW V+1≤M.2) (hM:lenW V+1≤35184372088832) (hcap:lenW V+1≤cap∧cap≤9223372036854775807) (hU:U<W64^(lenW V+1)) (hf:∀ k,k≤lenW V→f (o+k)=wordOf U k):Calls Tryz.prog 218 #[.slice (some ⟨g,o,none⟩) (lenW V+1) cap,.agg #[.slice a (lenW V) c]] w (RetT (.tuple #[]) g M (putF f o (lenW V+1) (U+V)) w):=by
 have hbg:w.heap.size≠g:=fun e=>by have:=hown.lt;omega
 have hVm:=lt_lenW V
 have hts:=TS.start hown (.slice a (lenW V) c)
 have hLN:=fun (f':Nat→Nat) (W:World) (h:TS w g M f' w.heap.size (.slice a (lenW V) c) W)=>(nlen_any a c V W).mono fun e w' (k:_∧_)=>(⟨k.1,h.below k.2⟩:e=.returned (.int .i64 (lenW V))∧TS w g M f' w.heap.size (.slice a (lenW V) c) w')
 have hWD:=fun (f':Nat→Nat) (j:Nat) (W:World) (h:TS w g M f' w.heap.size (.slice a (lenW V) c) W) (hj:j≤9223372036854775807)=>(word_any a c V j W (hv.off h.keep hne) hj).mono fun e w' (k:_∧_)=>(⟨k.1,h.below k.2⟩:e=.returned (UV (wordOf V j))∧TS w g M f' w.heap.size (.slice a (lenW V) c) w')
 obtain ⟨m,hm⟩:∃ m,lenW V=m:=⟨_,rfl⟩
 rw [hm] at hL hM hcap hU hVm hts hLN hWD hf
 rw [hm]
 obtain ⟨D,hD⟩:∃ D,U+V=D:=⟨_,rfl⟩
 have hAW:=fun k=>add_word U V k
 have hlast:=back_last U V m hVm
 rw [hD] at hAW hlast
 rw [hD]
 have hAD:=fun (f':Nat→Nat) (k:Nat) (W:World) (h:TS w g M f' w.heap.size (.slice a m c) W)=>(add_at (wordOf_lt U k) (wordOf_lt V k) (carryA_le U V k) (hAW k).1 (hAW k).2 W).mono fun e w' (k':_∧_)=>(⟨k'.1,k'.2▸h⟩:e=.returned (.tuple #[UV (wordOf D k),UV (carryA U V (k+1))])∧TS w g M f' w.heap.size (.slice a m c) w')
 have hwr:=wrap_add_words (wordOf U m) (carryA U V m) (wordOf_lt _ _) (Nat.lt_of_le_of_lt (carryA_le _ _ _) (by unfold W64;omega)) _ hlast
 have HTS:=qH hts
 have HLN:=qH hLN
 have HWD:=qH hWD
 have HBG:=qH hbg
 have HL:=qH hL
 have HF:=qH hf
 have hm1:(m:Int)+1≤35184372088832:=by omega
 have hc1:(m:Int)+1≤(cap:Int):=by omega
 have HADK:=qH hAD
 have HWR:=qH hwr
 clear hbg hts hLN hWD hAD hwr hown hv hne hAW hVm hm hU hD hf hL hM hcap hlast
 go_enter Tryz.func218,Tryz.ntmps218
 have k0:=HTS.out.cell
 go_wp2_with fail
 clear k0
 refine (HLN.out _ _ HTS.out).mono ?_
 rintro e w1 ⟨rfl,h1⟩
 have HT1:=qH h1
 clear h1 HTS
 go_wp2_with fail
 go_loopw [4,8] (fun v4 v8 wr=>∃ k:Nat,k≤m∧v4=UV (carryA U V k)∧v8=.int .i64 k∧TS w g M (putF f o k D) w.heap.size (.slice a m c) wr) (fun _ v8 _=>m - (intOf v8).toNat)
 case atStart=>exact ⟨0,Nat.zero_le _,by rw [carryA_zero];rfl,rfl,HT1.out.congr fun j _=>putF_zero _ _ _ _⟩
 case round =>
  obtain ⟨k,hk,rfl,rfl,hts⟩:=hrel
  clear HT1
  have HTR:=qH hts
  clear hts
  have hok:M.1≤o+k∧o+k<M.2:=by have:=HL.out;omega
  by_cases hlt:k<m
  ·
   have HCL:=qH (fun (W:World) (h:TS w g M (putF f o k D) w.heap.size (.slice a m c) W)=>show W.cell? ⟨g,o+k,none⟩=some (UV (wordOf U k)) by have h9:=h.own.cell hok;rwa [putF_at,HF.out k hk] at h9)
   have HAD:=qH (fun (f':Nat→Nat) (W:World) (h:TS w g M f' w.heap.size (.slice a m c) W)=>HADK.out f' k W h)
   have HST:=qH (fun (W:World) (h:TS w g M (putF f o k D) w.heap.size (.slice a m c) W)=>show TS w g M (putF f o (k+1) D) w.heap.size (.slice a m c) (W.setCell ⟨g,o+k,none⟩ (UV (wordOf D k))) from h.set HBG.out (o+k) (wordOf D k) fun j _=>putF_next _ _ _ _ _)
   have kk:(k:Int)<(m:Int)+1:=by omega
   have kk0:(0:Int)≤(k:Int):=by omega
   go_upto_region 5 with fail
   have hn:=HTR.out.drew
   refine wp_region_held_drew (S:=fun W=>W.cell? ⟨w.heap.size,0,none⟩=some (.slice a m c)) (by kernel_rfl) (hn.cell) (fun hHeld=>?_)
   refine tm 0 (some 12) ?_
   refine tm 1 (some 13) ?_
   refine tm 2 (some 14) ?_
   refine tm 3 (some 15) ?_
   refine tl 4 (some 16) ?_
   refine tl 6 (some 18) ?_
   refine tm 7 (some 19) ?_
   refine tm 9 (some 21) ?_
   refine wpAnyH_ready (rs:=[5,8]) (by kernel_rfl) (by simp) ?_
   refine (AllReadyH.cons rfl (fun K hK=>?_) (AllReadyH.cons rfl (fun K hK=>?_) AllReadyH.nil))
   ·
    skip
    have hc:=HCL.out _ hn
    go_simp
    clear hc
    refine hK.out _ _ (hn.cell) (fun hHeld2=>?_)
    clear hK K hHeld
    rename _=>hHeld
    try simp only [Act.put,stB,stZ,stS]
    refine wpAnyH_ready (rs:=[8]) (by kernel_rfl) (by simp) ?_
    refine (AllReadyH.cons rfl (fun K hK=>?_) AllReadyH.nil)
    go_simp
    refine (HWD.out _ _ _ hn (by omega)).mono ?_
    rintro e w1 ⟨rfl,hn1⟩
    clear hn
    have hn:=hn1
    clear hn1
    go_wp2_with fail
    refine hK.out _ _ (hn.cell) (fun hHeld2=>?_)
    clear hK K hHeld
    rename _=>hHeld
    try simp only [Act.put,stB,stZ,stS]
    refine wpAnyH_ready (rs:=[10]) (by kernel_rfl) (by simp) ?_
    refine (AllReadyH.cons rfl (fun K hK=>?_) AllReadyH.nil)
    go_simp
    refine (HAD.out _ _ hn).mono ?_
    rintro e w1 ⟨rfl,hn1⟩
    clear hn
    have hn:=hn1
    clear hn1
    go_wp2_with fail
    refine hK.out _ _ (hn.cell) (fun hHeld2=>?_)
    clear hK K hHeld
    rename _=>hHeld
    try simp only [Act.put,stB,stZ,stS]
    refine tm 11 (some 11) ?_
    refine tm 12 (some 23) ?_
    refine tm 13 (some 24) ?_
    refine tl 14 (some 25) ?_
    refine wpAnyH_ready (rs:=[15]) (by kernel_rfl) (by simp) ?_
    refine (AllReadyH.cons rfl (fun K hK=>?_) AllReadyH.nil)
    have hc:=HCL.out _ hn
    have hf:=hn.own.free (o+k)
    go_simp
    clear hc hf
    have hn1:=HST.out _ hn
    clear hn
    have hn:=hn1
    clear hn1
    refine hK.out _ _ (hn.cell) (fun hHeld2=>?_)
    clear hK K hHeld
    rename _=>hHeld
    try simp only [Act.put,stB,stZ,stS]
    refine tm 16 (some 4) ?_
    refine wpAnyH_done (by kernel_rfl) ?_ _
    have HN:=qH hn
    clear hn
    go_wp2_with fail
    go_roundw
    case rel=>exact ⟨k+1,by omega,rfl,by go_num,HN.out⟩
    case measure=>simp [intOf];omega
   ·
    skip
    go_simp
    refine (HWD.out _ _ _ hn (by omega)).mono ?_
    rintro e w1 ⟨rfl,hn1⟩
    clear hn
    have hn:=hn1
    clear hn1
    go_wp2_with fail
    refine hK.out _ _ (hn.cell) (fun hHeld2=>?_)
    clear hK K hHeld
    rename _=>hHeld
    try simp only [Act.put,stB,stZ,stS]
    refine wpAnyH_ready (rs:=[5]) (by kernel_rfl) (by simp) ?_
    refine (AllReadyH.cons rfl (fun K hK=>?_) AllReadyH.nil)
    have hc:=HCL.out _ hn
    go_simp
    clear hc
    refine hK.out _ _ (hn.cell) (fun hHeld2=>?_)
    clear hK K hHeld
    rename _=>hHeld
    try simp only [Act.put,stB,stZ,stS]
    refine wpAnyH_ready (rs:=[10]) (by kernel_rfl) (by simp) ?_
    refine (AllReadyH.cons rfl (fun K hK=>?_) AllReadyH.nil)
    go_simp
    refine (HAD.out _ _ hn).mono ?_
    rintro e w1 ⟨rfl,hn1⟩
    clear hn
    have hn:=hn1
    clear hn1
    go_wp2_with fail
    refine hK.out _ _ (hn.cell) (fun hHeld2=>?_)
    clear hK K hHeld
    rename _=>hHeld
    try simp only [Act.put,stB,stZ,stS]
    refine tm 11 (some 11) ?_
    refine tm 12 (some 23) ?_
    refine tm 13 (some 24) ?_
    refine tl 14 (some 25) ?_
    refine wpAnyH_ready (rs:=[15]) (by kernel_rfl) (by simp) ?_
    refine (AllReadyH.cons rfl (fun K hK=>?_) AllReadyH.nil)
    have hc:=HCL.out _ hn
    have hf:=hn.own.free (o+k)
    go_simp
    clear hc hf
    have hn1:=HST.out _ hn
    clear hn
    have hn:=hn1
    clear hn1
    refine hK.out _ _ (hn.cell) (fun hHeld2=>?_)
    clear hK K hHeld
    rename _=>hHeld
    try simp only [Act.put,stB,stZ,stS]
    refine tm 16 (some 4) ?_
    refine wpAnyH_done (by kernel_rfl) ?_ _
    have HN:=qH hn
    clear hn
    go_wp2_with fail
    go_roundw
    case rel=>exact ⟨k+1,by omega,rfl,by go_num,HN.out⟩
    case measure=>simp [intOf];omega
  ·
   obtain rfl:k=m:=by omega
   have k0:=HTR.out.cell
   clear hk hlt
   have kk:(k:Int)<(k:Int)+1:=by omega
   have kk0:(0:Int)≤(k:Int):=by omega
   go_wp2_with fail
   clear k0
   refine (HLN.out _ _ HTR.out).mono ?_
   rintro e w2 ⟨rfl,h2⟩
   have HT2:=qH h2
   clear h2
   have kc:=HT2.out.own.cell hok
   rw [putF_at,HF.out k (Nat.le_refl _)] at kc
   have kf:=HT2.out.own.free (o+k)
   have hwr:=HWR.out
   go_wp2_with fail
   clear kc kf
   refine bodyPost_ret (v:=.tuple #[]) (by simp [results,Tryz.results218,go_sem]) rfl ?_
   have HT3:=HT2.out.set HBG.out (f':=putF f o (k+1) D) (o+k) (wordOf D k) fun j _=>putF_next _ _ _ _ _
   first | exact ⟨rfl,HT3.keep,HT3.own⟩ | (rw [hwr];exact ⟨rfl,HT3.keep,HT3.own⟩)
theorem heap2q (w:World) (o1 o2:Obj):((w.alloc o1).alloc o2).heap[w.heap.size]?=some o1∧((w.alloc o1).alloc o2).heap[w.heap.size+1]?=some o2:=by
 have h1:=heap_alloc_new w o1
 have h2:=heap_alloc_new (w.alloc o1) o2
 have e1:(w.alloc o1).heap.size=w.heap.size+1:=by simp
 exact ⟨(Below.heap_alloc _ _ _ (by rw [e1];omega)).trans h1,by rw [← e1];exact h2⟩
theorem shl_any (a:Option Addr) (c n s:Nat) (w:World) (h:NatW w a c n) (hl:lenW n≤17592186044416) (hs:s<64):Calls Tryz.prog 215 #[.agg #[.slice a (lenW n) c],.int .i64 s] w (RetNB (n*2^s) true w):=by
 have hb0:=belowBox2 w (.cells #[.slice a (lenW n) c] 41) (.cells #[.slice none 0 0] 41)
 obtain ⟨e0,e1⟩:=heap2q w (.cells #[.slice a (lenW n) c] 41) (.cells #[.slice none 0 0] 41)
 have hx:=h.below hb0
 have hfit:=lt_lenW n
 have hwd0:=fun (j:Nat) (W:World) (h:NatW W a c n) (hj:j≤9223372036854775807)=>word_any a c n j W h hj
 obtain ⟨la,hla⟩:∃ la,lenW n=la:=⟨_,rfl⟩
 have HLA:=qH hla
 rw [hla] at hl hb0 e0 e1 hx hfit hwd0
 rw [hla]
 obtain ⟨W0,hW0⟩:∃ W0,W0=((w.alloc (.cells #[.slice a la c] 41)).alloc (.cells #[.slice none 0 0] 41)):=⟨_,rfl⟩
 have z0:W0.heap.size=w.heap.size+1+1:=by rw [hW0];simp
 rw [← hW0] at hb0 e0 e1 hx
 obtain ⟨M,hM⟩:∃ M,la+1=M:=⟨_,rfl⟩
 have hMI:((la:Nat):Int)+1=(M:Int):=by omega
 have hmk:=make_words ((la:Int)+1) M hMI (by omega)
 have hM0:(0:Int)≤(M:Int):=by omega
 have s1:(s:Int)<64:=by omega
 have s0:(0:Int)≤(s:Int):=by omega
 have sq:(s:Int) / 64=0:=by omega
 have sm:(s:Int) % 64=(s:Int):=by omega
 have st:Int.tdiv (s:Int) 64=0:=by rw [Int.tdiv_eq_ediv_of_nonneg s0];exact sq
 have sr:Int.tmod (s:Int) 64=(s:Int):=by rw [Int.tmod_eq_emod_of_nonneg s0];exact sm
 have HW0:=qH hW0
 have HWD00:=qH hwd0
 have HB0:=qH hb0
 have HX:=qH hx
 have HZ0:=qH z0
 have HFIT:=qH hfit
 have HS:=qH hs
 have HM:=qH hM
 have K0:=qH (fun (W:World) (h:Below W0.heap.size W0 W)=>((h.cell (p:=⟨_,0,none⟩) (lt_of_block e0)).trans (cell_of_block e0 rfl):W.cell? ⟨w.heap.size,0,none⟩=some (.slice a la c)))
 have K1:=qH (fun (W:World) (h:Below W0.heap.size W0 W)=>(⟨(h.cell (p:=⟨_,0,none⟩) (lt_of_block e1)).trans (cell_of_block e1 rfl),(h.frozen (p:=⟨_,0,none⟩) (lt_of_block e1)).trans (free_of_block e1)⟩:W.cell? ⟨w.heap.size+1,0,none⟩=some (.slice none 0 0)∧W.frozen? ⟨w.heap.size+1,0,none⟩=false))
 have HMADE:=qH (show NS W0 (w.heap.size+1+1) (List.replicate M 0) (((w.alloc (.cells #[.slice a la c] 41)).alloc (.cells #[.slice none 0 0] 41)).alloc (.cells (zeroC M) 164)) by rw [← hW0,← z0];exact NS.made _ _)
 clear hW0 hwd0 e0 e1 hb0 hx h hs z0 hfit hla hMI hM
 go_enter Tryz.func215,Tryz.ntmps215
 go_wp2_with fail
 go_loopw [30,8,9] (fun v30 v8 v9 wr=>∃ k:Nat,k≤la∧v30=.int .i64 k∧NS W0 (w.heap.size+1+1) (fnL M (wordOf (upX n s k))) wr) (fun v30 _ _ _=>la - (intOf v30).toNat)
 case atStart=>exact ⟨0,Nat.zero_le _,rfl,by rw [upX_zero,fnL_zero];exact HMADE.out⟩
 case round =>
  obtain ⟨k,hk,rfl,hns⟩:=hrel
  have HN:=qH hns
  clear hns HMADE hmk
  by_cases hlt:k<la
  ·
   obtain ⟨b1,o1,e1,hb1,hc1⟩:=(HX.out.below HN.out.bel).word (show k<lenW n by rw [HLA.out];exact hlt)
   subst e1
   have hs64:s≤64:=by have:=HS.out;omega
   have hor:=upX_or n k hs64
   have hab:=upX_above n k hs64
   have hkM:k<M:=by have:=HM.out;omega
   have hkM1:k+1<M:=by have:=HM.out;omega
   have hkc:=fnL_cell HN.out hkM
   have hkf:=HN.out.free k
   have hst:∀ W,NS W0 (w.heap.size+1+1) (fnL M (wordOf (upX n s k))) W→NS W0 (w.heap.size+1+1) (fnL M (wordOf (upX n s (k+1)))) ((W.setCell ⟨w.heap.size+1+1,k,none⟩ (UV (wordOf (upX n s (k+1)) k))).drew.setCell ⟨w.heap.size+1+1,k+1,none⟩ (UV (wordOf n k / 2^(64 - s)))):=fun W hW=>by
    have h1:=((hW.set k (wordOf (upX n s (k+1)) k)).drewN 1).set (k+1) (wordOf n k / 2^(64 - s))
    rw [fnL_set (g:=fun j=>if j=k then wordOf (upX n s (k+1)) k else wordOf (upX n s k) j) hkM (by simp) (fun j _ hj=>by rw [if_neg hj]),fnL_set (g:=wordOf (upX n s (k+1))) hkM1 hab (fun j hj hj2=>by
     by_cases e:j=k
     ·
      rw [if_pos e,e]
     ·
      rw [if_neg e]
      rcases Nat.lt_or_gt_of_ne e with h2 | h2
      ·
       exact (upX_low n s k j h2).symm
      ·
       rw [upX_high n k j hs64 h2,upX_high n (k+1) j hs64 (by omega)])] at h1
    exact h1
   have hsc:∀ W,NS W0 (w.heap.size+1+1) (fnL M (wordOf (upX n s k))) W→∃ z,(W.setCell ⟨w.heap.size+1+1,k,none⟩ (UV (wordOf (upX n s (k+1)) k))).drew.cell? ⟨w.heap.size+1+1,k+1,none⟩=some z∧(W.setCell ⟨w.heap.size+1+1,k,none⟩ (UV (wordOf (upX n s (k+1)) k))).drew.frozen? ⟨w.heap.size+1+1,k+1,none⟩=false:=fun W hW=>by
    have h1:=(hW.set k (wordOf (upX n s (k+1)) k)).drewN 1
    exact ⟨_,h1.cell (j:=k+1) (by rw [List.length_set,fnL_len];exact hkM1),h1.free _⟩
   have hsh:=u64_shr (wordOf n k) (64 - s)
   have h64:(64:Int) - (s:Int)=((64 - s:Nat):Int):=by omega
   obtain ⟨f,hf⟩:∃ f,fnL M (wordOf (upX n s k))=f:=⟨_,rfl⟩
   rw [hf] at hst hsc
   have HN9:=qH (hf▸HN.out)
   have HST:=qH hst
   have HSC:=qH hsc
   clear hst hsc hf HN
   obtain ⟨f1,hf1⟩:∃ f1,fnL M (wordOf (upX n s (k+1)))=f1:=⟨_,rfl⟩
   rw [hf1] at HST
   have HF1:=qH hf1
   obtain ⟨oo,ho⟩:∃ z,wordOf (upX n s k) k=z:=⟨_,rfl⟩
   obtain ⟨o2,ho2⟩:∃ z,wordOf (upX n s (k+1)) k=z:=⟨_,rfl⟩
   obtain ⟨x,hx⟩:∃ z,wordOf n k=z:=⟨_,rfl⟩
   obtain ⟨x2,hx2⟩:∃ z,wordOf n k / 2^(64 - s)=z:=⟨_,rfl⟩
   rw [hx2,ho2] at HST
   rw [ho2] at HSC
   rw [ho,ho2,hx] at hor
   rw [hx2,hx] at hsh
   rw [hx] at hc1
   rw [ho] at hkc
   have kk0:(0:Int)≤(k:Int):=by omega
   have kk1:(k:Int)<(la:Int):=by omega
   have kkM:(k:Int)+1<(M:Int):=by omega
   have k0:=K0.out _ HN9.out.bel
   clear hx2 hx ho ho2 hab hf1 hb1
   go_wp2_with fail
   go_region
   obtain ⟨z,hsc1,hsc2⟩:=HSC.out _ HN9.out
   go_wp2_with fail
   go_roundw
   case rel=>exact ⟨k+1,by omega,by go_num,by rw [HF1.out];exact HST.out _ HN9.out⟩
   case measure=>simp [intOf];omega
  ·
   obtain rfl:k=la:=by omega
   have hlen:=fnL_len M (wordOf (upX n s k))
   have hsl:=HN.out.sl (by rw [hlen];have:=HM.out;unfold maxLen;omega)
   rw [hlen] at hsl
   have HT:=qH (trim_any _ _ _ _ wr hsl (fnL_lt (wordOf_lt _)) (fun _=>HN.out.words))
   rw [fnL_val (by rw [← HM.out];exact upX_fit n k (by have:=HS.out;omega)),upX_end s HFIT.out] at HT
   obtain ⟨k1,f1⟩:=K1.out _ HN.out.bel
   clear hsl hlen
   go_wp2_with fail
   refine HT.out.mono ?_
   rintro e w2 ⟨a2,c2,rfl,hn2,hb2⟩
   have k2:=((bcell hb2).1 _ _ (World.block_lt_of_cell? _ _ k1)).trans k1
   have f2:=((bcell hb2).2 _ _ (World.block_lt_of_cell? _ _ k1)).trans f1
   have HN2:=qH hn2
   have HB2:=qH hb2
   clear hn2 hb2 HT k1 f1
   go_wp2_with fail
   refine bodyPost_ret (v:=.tuple #[.agg #[.slice a2 (lenW (n*2^s)) c2],.bool true]) (by simp [results,Tryz.results215,go_sem,k2]) rfl ?_
   exact ⟨a2,c2,rfl,HN2.out.set k2 (fun _=>by simp) _,((HB0.out.trans (HN.out.bel.mono HB0.out.size)).trans (HB2.out.mono (HB0.out.trans (HN.out.bel.mono HB0.out.size)).size)).setCell (by simp) _⟩
theorem shr_zero (a:Option Addr) (c s:Nat) (w:World) (hs:s<64):Calls Tryz.prog 219 #[.agg #[.slice a 0 c],.int .i64 s] w (RetN 0 w):=by
 have s1:(s:Int)<64:=by omega
 have s0:(0:Int)≤(s:Int):=by omega
 have sq:(s:Int) / 64=0:=by omega
 have st:Int.tdiv (s:Int) 64=0:=by rw [Int.tdiv_eq_ediv_of_nonneg s0];exact sq
 clear hs
 go_enter Tryz.func219,Tryz.ntmps219
 go_wp2_with fail
 refine bodyPost_ret (v:=.agg #[.slice none 0 0]) (by simp [results,Tryz.results219,go_sem]) rfl ?_
 have hb:=((belowBox w (.cells #[.slice a 0 c] 41)).alloc (show w.heap.size≤_ by simp) (.cells #[.slice none 0 0] 41))
 exact ⟨none,0,by rw [lenW_zero],NatW.zero _,hb⟩
theorem shr_pos (a:Option Addr) (c n s:Nat) (w:World) (h:NatW w a c n) (hl:lenW n≤17592186044416) (hs:s<64) (hp:0<lenW n):Calls Tryz.prog 219 #[.agg #[.slice a (lenW n) c],.int .i64 s] w (RetN (n / 2^s) w):=by
 have hb0:=belowBox2 w (.cells #[.slice a (lenW n) c] 41) (.cells #[.slice none 0 0] 41)
 obtain ⟨e0,e1⟩:=heap2q w (.cells #[.slice a (lenW n) c] 41) (.cells #[.slice none 0 0] 41)
 have hx:=h.below hb0
 have hfit:=lt_lenW n
 have hwd0:=fun (j:Nat) (W:World) (h:NatW W a c n) (hj:j≤9223372036854775807)=>word_any a c n j W h hj
 obtain ⟨la,hla⟩:∃ la,lenW n=la:=⟨_,rfl⟩
 have HLA:=qH hla
 rw [hla] at hp hl hb0 e0 e1 hx hfit hwd0
 rw [hla]
 obtain ⟨W0,hW0⟩:∃ W0,W0=((w.alloc (.cells #[.slice a la c] 41)).alloc (.cells #[.slice none 0 0] 41)):=⟨_,rfl⟩
 have z0:W0.heap.size=w.heap.size+1+1:=by rw [hW0];simp
 rw [← hW0] at hb0 e0 e1 hx
 obtain ⟨M,hM⟩:∃ M,la=M:=⟨_,rfl⟩
 have hMI:((la:Nat):Int)=(M:Int):=by omega
 have hmk:=make_words (la:Int) M hMI (by omega)
 have hM0:(0:Int)≤(M:Int):=by omega
 have s1:(s:Int)<64:=by omega
 have s0:(0:Int)≤(s:Int):=by omega
 have sq:(s:Int) / 64=0:=by omega
 have sm:(s:Int) % 64=(s:Int):=by omega
 have st:Int.tdiv (s:Int) 64=0:=by rw [Int.tdiv_eq_ediv_of_nonneg s0];exact sq
 have sr:Int.tmod (s:Int) 64=(s:Int):=by rw [Int.tmod_eq_emod_of_nonneg s0];exact sm
 have HW0:=qH hW0
 have HWD00:=qH hwd0
 have HB0:=qH hb0
 have HX:=qH hx
 have HZ0:=qH z0
 have HFIT:=qH hfit
 have HS:=qH hs
 have HM:=qH hM
 have K0:=qH (fun (W:World) (h:Below W0.heap.size W0 W)=>((h.cell (p:=⟨_,0,none⟩) (lt_of_block e0)).trans (cell_of_block e0 rfl):W.cell? ⟨w.heap.size,0,none⟩=some (.slice a la c)))
 have K1:=qH (fun (W:World) (h:Below W0.heap.size W0 W)=>(⟨(h.cell (p:=⟨_,0,none⟩) (lt_of_block e1)).trans (cell_of_block e1 rfl),(h.frozen (p:=⟨_,0,none⟩) (lt_of_block e1)).trans (free_of_block e1)⟩:W.cell? ⟨w.heap.size+1,0,none⟩=some (.slice none 0 0)∧W.frozen? ⟨w.heap.size+1,0,none⟩=false))
 have HMADE:=qH (show NS W0 (w.heap.size+1+1) (List.replicate M 0) (((w.alloc (.cells #[.slice a la c] 41)).alloc (.cells #[.slice none 0 0] 41)).alloc (.cells (zeroC M) 164)) by rw [← hW0,← z0];exact NS.made _ _)
 clear hW0 hwd0 e0 e1 hb0 hx h hs z0 hfit hla hMI hM
 have hz1:decide (la=0)=false:=decide_eq_false (by omega)
 have hz2:decide ((s:Int)<0)=false:=decide_eq_false (by omega)
 go_enter Tryz.func219,Tryz.ntmps219
 go_wp2_with fail
 go_loopw [30,7] (fun v30 v7 wr=>∃ k:Nat,k≤M∧v30=.int .i64 k∧NS W0 (w.heap.size+1+1) (fillN (n / 2^s) M k) wr) (fun v30 _ _=>M - (intOf v30).toNat)
 case atStart=>exact ⟨0,Nat.zero_le _,rfl,by rw [fillN_zero];exact HMADE.out⟩
 case round =>
  obtain ⟨k,hk,rfl,hns⟩:=hrel
  have HN:=qH hns
  clear hns HMADE hmk
  by_cases hlt:k<M
  ·
   have hor:=down_or n k HS.out
   have hla2:k+1≤17592186044416:=by have:=HM.out;omega
   have HCL:=qH (fun (W:World) (h:NS W0 (w.heap.size+1+1) (fillN (n / 2^s) M k) W)=>(show W.cell? ⟨w.heap.size+1+1,k,none⟩=some (UV 0) from by
    have hx:=h.cell (j:=k) (by rw [fillN_len];exact hlt)
    have e:=fillN_at (n / 2^s) M k k hlt
    rw [if_neg (Nat.lt_irrefl k),List.getElem?_eq_getElem (by rw [fillN_len];exact hlt)] at e
    rw [hx,Option.some.inj e]))
   have HSET:=qH (fun (W:World) (h:NS W0 (w.heap.size+1+1) (fillN (n / 2^s) M k) W)=>show NS W0 (w.heap.size+1+1) (fillN (n / 2^s) M (k+1)) (W.setCell ⟨w.heap.size+1+1,k,none⟩ (UV (wordOf (n / 2^s) k))) by
    have h1:=h.set k (wordOf (n / 2^s) k)
    rwa [fillN_set] at h1)
   have HWD:=qH (fun (j:Nat) (W:World) (h:NS W0 (w.heap.size+1+1) (fillN (n / 2^s) M k) W) (hj:j≤9223372036854775807)=>(HWD00.out j W (HX.out.below h.bel) hj).mono fun e w' (k':_∧_)=>(⟨k'.1,h.below k'.2⟩:e=.returned (UV (wordOf n j))∧NS W0 (w.heap.size+1+1) (fillN (n / 2^s) M k) w'))
   obtain ⟨f,hf⟩:∃ f,fillN (n / 2^s) M k=f:=⟨_,rfl⟩
   rw [hf] at HCL HSET HWD
   have hn:=(hf▸HN.out:NS W0 (w.heap.size+1+1) f wr).drewN 1
   obtain ⟨z,hz⟩:∃ z,wordOf (n / 2^s) k=z:=⟨_,rfl⟩
   obtain ⟨x0,hx0⟩:∃ z,wordOf n k=z:=⟨_,rfl⟩
   obtain ⟨x1,hx1⟩:∃ z,wordOf n (k+1)=z:=⟨_,rfl⟩
   have HWD0:=qH (fun (W:World) (h:NS W0 (w.heap.size+1+1) f W)=>HWD.out k W h (by omega))
   have HWD1:=qH (fun (W:World) (h:NS W0 (w.heap.size+1+1) f W)=>HWD.out (k+1) W h (by omega))
   rw [show ((k+1:Nat):Int)=(k:Int)+1 from rfl] at HWD1
   rw [hx0] at HWD0
   rw [hx1] at HWD1
   rw [hz] at HSET hor
   rw [hx0,hx1] at hor
   have h64:(64:Int) - (s:Int)=((64 - s:Nat):Int):=by have:=HS.out;omega
   have k0:=K0.out _ HN.out.bel
   have kk0:(0:Int)≤(k:Int):=by omega
   have kk1:(k:Int)<(M:Int):=by omega
   have kk2:(k:Int)+1≤17592186044416:=by omega
   have wz:IntKind.i64.wrap 0=0:=IntWalk.i64_in _ (by omega)
   have wk:IntKind.i64.wrap (k:Int)=(k:Int):=IntWalk.i64_in _ (by omega)
   have wk1:IntKind.i64.wrap ((k:Int)+1)=(k:Int)+1:=IntWalk.i64_in _ (by omega)
   have ws:IntKind.i64.wrap ((64 - s:Nat):Int)=((64 - s:Nat):Int):=IntWalk.i64_in _ (by omega)
   clear hf HN hz hx0 hx1 HWD
   go_upto_region 8 with fail
   refine wp_region_held_drew (S:=fun W=>W.cell? ⟨w.heap.size,0,none⟩=some (.slice a la c)) (by kernel_rfl) (K0.out _ hn.bel) (fun hHeld=>?_)
   refine tm 0 (some 33) ?_
   refine tm 1 (some 34) ?_
   refine tl 2 (some 35) ?_
   refine tm 3 (some 36) ?_
   refine tm 4 (some 37) ?_
   refine tm 5 (some 38) ?_
   refine tm 6 (some 39) ?_
   refine tm 8 (some 41) ?_
   refine tl 10 (some 43) ?_
   refine tm 11 (some 44) ?_
   refine tm 12 (some 45) ?_
   refine tm 13 (some 46) ?_
   refine tm 14 (some 47) ?_
   refine tm 15 (some 48) ?_
   refine tm 17 (some 50) ?_
   refine tm 18 (some 51) ?_
   refine wpAnyH_ready (rs:=[7]) (by kernel_rfl) (by simp) ?_
   refine (AllReadyH.cons rfl (fun K hK=>?_) AllReadyH.nil)
   go_simp
   refine (HWD0.out _ hn).mono ?_
   rintro e w1 ⟨rfl,hn1⟩
   clear hn
   have hn:=hn1
   clear hn1
   go_wp2_with fail
   refine hK.out _ _ (K0.out _ hn.bel) (fun hHeld2=>?_)
   clear hK K hHeld
   rename _=>hHeld
   try simp only [Act.put,stB,stZ,stS]
   refine tm 9 (some 42) ?_
   refine wpAnyH_ready (rs:=[16]) (by kernel_rfl) (by simp) ?_
   refine (AllReadyH.cons rfl (fun K hK=>?_) AllReadyH.nil)
   go_simp
   refine (HWD1.out _ hn).mono ?_
   rintro e w1 ⟨rfl,hn1⟩
   clear hn
   have hn:=hn1
   clear hn1
   go_wp2_with fail
   refine hK.out _ _ (K0.out _ hn.bel) (fun hHeld2=>?_)
   clear hK K hHeld
   rename _=>hHeld
   try simp only [Act.put,stB,stZ,stS]
   refine tm 19 (some 52) ?_
   refine tm 20 (some 53) ?_
   refine tl 21 (some 54) ?_
   refine wpAnyH_ready (rs:=[22]) (by kernel_rfl) (by simp) ?_
   refine (AllReadyH.cons rfl (fun K hK=>?_) AllReadyH.nil)
   have hc:=HCL.out _ hn
   have hf:=hn.free k
   go_simp
   clear hc hf
   have hn1:=HSET.out _ hn
   clear hn
   have hn:=hn1
   clear hn1
   refine hK.out _ _ (K0.out _ hn.bel) (fun hHeld2=>?_)
   clear hK K hHeld
   rename _=>hHeld
   try simp only [Act.put,stB,stZ,stS]
   refine wpAnyH_done (by kernel_rfl) ?_ _
   have HN:=qH hn
   clear hn
   go_wp2_with fail
   go_roundw
   clear wz wk wk1 ws
   case rel=>exact ⟨k+1,by omega,by go_num,HN.out⟩
   case measure=>simp [intOf];omega
  ·
   obtain rfl:M=k:=by omega
   have hlen:=fillN_len (n / 2^s) M M
   have hsl:=HN.out.sl (by rw [hlen];have:=HM.out;unfold maxLen;omega)
   rw [hlen] at hsl
   have HT:=qH (trim_any _ _ _ _ wr hsl (fillN_lt _ _ _) (fun _=>HN.out.words))
   rw [fillN_val (by rw [← HM.out];exact down_fit HFIT.out)] at HT
   obtain ⟨k1,f1⟩:=K1.out _ HN.out.bel
   clear hsl hlen
   go_wp2_with fail
   refine HT.out.mono ?_
   rintro e w2 ⟨a2,c2,rfl,hn2,hb2⟩
   have k2:=((bcell hb2).1 _ _ (World.block_lt_of_cell? _ _ k1)).trans k1
   have f2:=((bcell hb2).2 _ _ (World.block_lt_of_cell? _ _ k1)).trans f1
   have HN2:=qH hn2
   have HB2:=qH hb2
   clear hn2 hb2 HT k1 f1
   go_wp2_with fail
   refine bodyPost_ret (v:=.agg #[.slice a2 (lenW (n / 2^s)) c2]) (by simp [results,Tryz.results219,go_sem,k2]) rfl ?_
   exact ⟨a2,c2,rfl,HN2.out.set k2 (fun _=>by simp) _,((HB0.out.trans (HN.out.bel.mono HB0.out.size)).trans (HB2.out.mono (HB0.out.trans (HN.out.bel.mono HB0.out.size)).size)).setCell (by simp) _⟩
theorem shr_any (a:Option Addr) (c n s:Nat) (w:World) (h:NatW w a c n) (hl:lenW n≤17592186044416) (hs:s<64):Calls Tryz.prog 219 #[.agg #[.slice a (lenW n) c],.int .i64 s] w (RetN (n / 2^s) w):=by
 by_cases h0:n=0
 ·
  subst h0
  rw [lenW_zero,Nat.zero_div];exact shr_zero a c s w hs
 ·
  exact shr_pos a c n s w h hl hs (lenW_pos h0)
end Go.Proofs.YtmhainidincjhaaGreatDoor
namespace Go.Proofs.YtmhainidincjhaaGreatDoor
open Go.RowKit Go.Extern.Stop Go.Stop Go.Extern
theorem Sl.lenI6 {w:World} {size n:Nat} {a:Option Addr} {c:Nat} {cs:List Value} (h:Sl w size (.slice a n c) n cs):n≤c∧c≤9223372036854775807:=by
 obtain ⟨a',c',e,h1,h2,_⟩:=h.len
 cases e
 unfold maxLen at h2;omega
theorem OwnF.ofMid {W:World} {base N c:Nat} {a:Option Addr} {xs:List Nat} (h:Mid W base 164 1 (.slice a N c) N (xs.map UV)) (hN:0<N) :
  ∃ g o,a=some ⟨g,o,none⟩∧base≤g∧N≤c∧c≤maxLen∧OwnF W g (o,o+N) (fun j=>xs.getD (j - o) 0):=by
 rcases h.2 with ⟨e,h0⟩ | ⟨g,o,cap,cur,e,hb,hg,h1,h2,h3,h4⟩
 ·
  omega
 ·
  cases e
  refine ⟨g,o,rfl,hb,h1,h2,cur,hg,fun j hj=>?_⟩
  obtain ⟨i,rfl⟩:=Nat.exists_eq_add_of_le hj.1
  have hj2:i<N:=by have:=hj.2;omega
  have e1:(xs.map UV)[i]?=cur[o+i]?:=by
   rw [← h4,List.getElem?_take,if_pos (by omega),List.getElem?_drop,Array.getElem?_toList]
  have hx:i<xs.length:=by have:=h.1;rw [List.length_map] at this;omega
  show cur[o+i]?=some (UV (xs.getD (o+i - o) 0))
  rw [← e1,List.getElem?_map,List.getElem?_eq_getElem hx,Nat.add_sub_cancel_left,List.getD_eq_getElem?_getD,List.getElem?_eq_getElem hx]
  rfl
theorem OwnF.sub {W:World} {g:Nat} {M M':Nat × Nat} {f f':Nat→Nat} (h:OwnF W g M f) (h1:M.1≤M'.1) (h2:M'.2≤M.2) (hf:∀ j,(M'.1≤j∧j<M'.2)→f' j=f j):OwnF W g M' f':=by
 obtain ⟨cs,h,hc⟩:=h
 exact ⟨cs,h,fun j hj=>by rw [hf j hj];exact hc j ⟨by omega,by omega⟩⟩
theorem OwnF.sl {W:World} {g o N c:Nat} {f:Nat→Nat} (h:OwnF W g (o,o+N) f) (hc:N≤c) (hm:c≤maxLen):Sl W 1 (.slice (some ⟨g,o,none⟩) N c) N ((fnL N fun i=>f (o+i)).map UV):=by
 refine ⟨by simp [fnL_len],.inr ⟨g,o,c,rfl,hc,hm,h.lt,fun j u hj=>?_⟩⟩
 have hjN:j<N:=by
  rcases Nat.lt_or_ge j N with h1 | h1
  ·
   exact h1
  ·
   rw [List.getElem?_eq_none (by simp [fnL_len];omega)] at hj;cases hj
 rw [List.getElem?_map,fnL_at _ hjN] at hj
 rw [← Option.some.inj hj]
 exact h.cell (j:=o+j) ⟨by simp,by simp;omega⟩
theorem OwnF.zero (w:World) (K:Nat) (f:Nat→Nat) (hf:∀ j,j<K→f j=0):OwnF (w.alloc (.cells (zeroC K) 164)) w.heap.size (0,K) f:=by
 refine ⟨_,heap_alloc_new _ _,fun j hj=>?_⟩
 have hj2:j<K:=hj.2
 rw [hf j hj2]
 show (((List.replicate K 0).map UV).toArray)[j]?=some (UV 0)
 simp [hj2]
structure LS (w9:World) (g:Nat) (M:Nat × Nat) (f:Nat→Nat) (gq Kq:Nat) (fq:Nat→Nat) (W:World):Prop where
 bel:Below w9.heap.size w9 W
 u:OwnF W g M f
 q:OwnF W gq (0,Kq) fq
section
variable {w9 W W' : World} {g gq Kq : Nat} {M : Nat × Nat} {f f' fq : Nat → Nat}
theorem LS.call (h:LS w9 g M f gq Kq fq W) (hb:Below W.heap.size W W'):LS w9 g M f gq Kq fq W':=⟨bthen h.bel hb,h.u.same (hb.block _ h.u.lt),h.q.same (hb.block _ h.q.lt)⟩
theorem LS.drew (h:LS w9 g M f gq Kq fq W):LS w9 g M f gq Kq fq W.drew:=h.call (Below.drawn W 1)
theorem LS.setQ (h:LS w9 g M f gq Kq fq W) (hg:w9.heap.size≤gq) (hne:g≠gq) (t x:Nat) (hf:∀ j,(0≤j∧j<Kq)→f' j=if j=t then x else fq j):LS w9 g M f gq Kq f' (W.setCell ⟨gq,t,none⟩ (UV x)) :=
 ⟨h.bel.setCell hg _,h.u.same (Below.heap_setCell _ _ _ _ hne),h.q.set t x hf⟩
theorem LS.took (h:LS w9 g M f gq Kq fq W) (hg:w9.heap.size≤g) (hne:g≠gq) (hk:Keeps W W' fun z=>z=g) (hu:OwnF W' g M f'):LS w9 g M f' gq Kq fq W' :=
 ⟨h.bel.trans (hk.below h.bel.size fun z e=>e▸hg),hu,h.q.same (hk.block _ h.q.lt fun e=>hne e.symm)⟩
theorem LS.with (h:LS w9 g M f gq Kq fq W) {fq':Nat→Nat} (hf:∀ j,(M.1≤j∧j<M.2)→f' j=f j) (hq:∀ j,(0≤j∧j<Kq)→fq' j=fq j):LS w9 g M f' gq Kq fq' W:=⟨h.bel,h.u.congr hf,h.q.congr hq⟩
end
def RetNL (n l:Nat) (ok:Bool) (w:World) (e:Ending) (w':World):Prop:=∃ a c,e=.returned (.tuple #[.agg #[.slice a l c],.bool ok])∧NatW w' a c n∧Below w.heap.size w w'
theorem put_place {o k n x:Nat} {f0 f1:Nat→Nat} (h:∀ i,(if k≤i∧i<k+n then wordOf x (i - k) else f0 i)=f1 i) (j:Nat) (hj:o≤j):putF (fun j=>f0 (j - o)) (o+k) n x j=f1 (j - o):=by
 obtain ⟨i,rfl⟩:=Nat.exists_eq_add_of_le hj
 unfold putF
 rw [Nat.add_sub_cancel_left,← h i]
 by_cases hc:k≤i∧i<k+n
 ·
  rw [if_pos hc,if_pos (by omega),show o+i - (o+k)=i - k by omega]
 ·
  rw [if_neg hc,if_neg (by omega)]
  show f0 (o+i - o)=f0 i
  rw [Nat.add_sub_cancel_left]
theorem putF_two (f:Nat→Nat) (o n x y j:Nat):putF (putF f o n x) o n y j=putF f o n y j:=by
 unfold putF
 by_cases h:o≤j∧j<o+n
 ·
  rw [if_pos h,if_pos h]
 ·
  rw [if_neg h,if_neg h,if_neg h]
theorem words_zeros (X i r:Nat):(toWords X++List.replicate r 0).getD i 0=wordOf X i:=by
 rw [← word_toWords X i,List.getD_eq_getElem?_getD,List.getD_eq_getElem?_getD]
 rcases Nat.lt_or_ge i (toWords X).length with h | h
 ·
  rw [List.getElem?_append_left h]
 ·
  rw [List.getElem?_append_right h,List.getElem?_eq_none (l:=toWords X) h,List.getElem?_replicate]
  split <;> rfl
theorem divMod_less (a b:Option Addr) (c d m n:Nat) (w:World) (ha:NatW w a c m) (hb:NatW w b d n) (h2:2≤lenW n) (hlt:m<n):Calls Tryz.prog 200 #[.agg #[.slice a (lenW m) c],.agg #[.slice b (lenW n) d]] w (RetDM 0 m true w):=by
 have hL:=fun W=>nlen_any b d n W
 have hC:∀ W,NatW W a c m→NatW W b d n→Calls Tryz.prog 87 #[.agg #[.slice a (lenW m) c],.agg #[.slice b (lenW n) d]] W fun e w'=>e=.returned (.int .i64 (-1))∧Below W.heap.size W w':=fun W h1 h3=>by
  have:=ncmp_any a b c d m n W h1 h3
  rwa [cmpN_lt hlt] at this
 obtain ⟨la,hla⟩:∃ la,lenW m=la:=⟨_,rfl⟩
 obtain ⟨lb,hlb⟩:∃ lb,lenW n=lb:=⟨_,rfl⟩
 rw [hlb] at hL h2
 rw [hla,hlb] at hC
 rw [hla,hlb]
 have hbs:BS w [⟨w.heap.size,41,[.slice a la c]⟩,⟨w.heap.size+1,41,[.slice b lb d]⟩,⟨w.heap.size+1+1,41,[.slice none 0 0]⟩,⟨w.heap.size+1+1+1,41,[.slice none 0 0]⟩] [⟨a,c,m⟩,⟨b,d,n⟩] ((((w.alloc (.cells #[.slice a la c] 41)).alloc (.cells #[.slice b lb d] 41)).alloc (.cells #[.slice none 0 0] 41)).alloc (.cells #[.slice none 0 0] 41)) :=
  (((((BS.begin [⟨a,c,m⟩,⟨b,d,n⟩] (fun y hy=>by
   rcases List.mem_cons.1 hy with rfl | hy
   ·
    exact ha
   ·
    rw [List.mem_singleton.1 hy];exact hb)).alloc (p:=w.heap.size) rfl 41 [.slice a la c] rfl).alloc (p:=w.heap.size+1) (by simp) 41 [.slice b lb d] rfl).alloc (p:=w.heap.size+1+1) (by simp) 41 [.slice none 0 0] rfl).alloc (p:=w.heap.size+1+1+1) (by simp) 41 [.slice none 0 0] rfl)
 have HL:=qH hL
 have HC:=qH hC
 have HBS:=qH hbs
 have HLA:=qH hla
 have hlb1:(1:Int)<(lb:Int):=by omega
 clear ha hb hla hlb hbs hL hC hlt
 go_enter Tryz.func200,Tryz.ntmps200
 go_wp2_with fail
 refine (HL.out _).mono ?_
 rintro e w1 ⟨rfl,hb1⟩
 have HN1:=qH (HBS.out.call hb1)
 have c0:=HN1.out.cell 0 0 rfl rfl
 have c1:=HN1.out.cell 1 0 rfl rfl
 clear hb1
 go_wp2_with fail
 clear c0 c1
 refine (HC.out _ (HN1.out.nat 0 rfl) (HN1.out.nat 1 rfl)).mono ?_
 rintro e w2 ⟨rfl,hb2⟩
 have HN2:=qH (HN1.out.call hb2)
 clear hb2
 go_upto_region 5 with fail
 have hn:=HN2.out.drew
 refine wp_region_held_drew (S:=fun W=>W.cell? ⟨w.heap.size,0,none⟩=some (.slice a la c)) (by kernel_rfl) (hn.cell 0 0 rfl rfl) (fun hHeld=>?_)
 refine tm 0 (some 39) ?_
 refine tl 1 (some 40) ?_
 refine wpAnyH_ready (rs:=[2]) (by kernel_rfl) (by simp) ?_
 refine (AllReadyH.cons rfl (fun K hK=>?_) AllReadyH.nil)
 have hc:=hn.cell 2 0 rfl rfl
 have hf:=hn.free 2 0 rfl
 have hc2:=HN2.out.cell 2 0 rfl rfl
 have hf2:=HN2.out.free 2 0 rfl
 go_simp
 clear hc hf hc2 hf2
 have hn1:=hn.set 2 0 rfl rfl (fun _=>by simp) (.slice none 0 0)
 clear hn
 have hn:=hn1
 clear hn1
 refine hK.out _ _ (hn.cell 0 0 rfl rfl) (fun hHeld2=>?_)
 clear hK K hHeld
 rename _=>hHeld
 try simp only [Act.put,stB,stZ,stS]
 refine wpAnyH_ready (rs:=[3]) (by kernel_rfl) (by simp) ?_
 refine (AllReadyH.cons rfl (fun K hK=>?_) AllReadyH.nil)
 have hc:=hn.cell 3 0 rfl rfl
 have hf:=hn.free 3 0 rfl
 have hc2:=HN2.out.cell 3 0 rfl rfl
 have hf2:=HN2.out.free 3 0 rfl
 go_simp
 clear hc hf hc2 hf2
 have hn1:=hn.set 3 0 rfl rfl (fun _=>by simp) (.slice a la c)
 clear hn
 have hn:=hn1
 clear hn1
 refine hK.out _ _ (hn.cell 0 0 rfl rfl) (fun hHeld2=>?_)
 clear hK K hHeld
 rename _=>hHeld
 try simp only [Act.put,stB,stZ,stS]
 refine tm 4 (some 6) ?_
 refine wpAnyH_done (by kernel_rfl) ?_ _
 have h4:=hn.cell 2 0 rfl rfl
 have h5:=hn.cell 3 0 rfl rfl
 have HN:=qH hn
 clear hn
 go_wp2_with fail
 refine bodyPost_ret (v:=.tuple #[.agg #[.slice none 0 0],.agg #[.slice a la c],.bool true]) (by simp [results,Tryz.results200,go_sem,h4,h5,HN2.out.cell 2 0 rfl rfl,HN2.out.cell 3 0 rfl rfl]) rfl ?_
 exact ⟨none,0,a,c,by rw [lenW_zero,HLA.out],NatW.zero _,HN.out.nat 0 rfl,HN.out.bel⟩
theorem divMod_long (a b:Option Addr) (c d m n:Nat) (w:World) (ha:NatW w a c m) (hb:NatW w b d n) (h2:2≤lenW n) (hle:n≤m) (hs:lenW m≤4398046511104):Calls Tryz.prog 200 #[.agg #[.slice a (lenW m) c],.agg #[.slice b (lenW n) d]] w (RetDM (m / n) (m % n) true w):=by
 obtain ⟨ti,hz1,hz2,hz3,hz4⟩:=info_parts Tryz.info_words
 have hn0:n≠0:=fun e=>by rw [e,lenW_zero] at h2;omega
 have hlm:lenW n≤lenW m:=lenW_mono hle
 obtain ⟨s,hsE⟩:∃ s,upS n=s:=⟨_,rfl⟩
 have hs64:s<64:=hsE▸upS_lt hn0
 have hVl:=up_len hn0
 have hXl:=up_len1 m (s:=s) (by omega)
 have hXg:lenW m≤lenW (m*2^s):=lenW_mono (Nat.le_mul_of_pos_right _ (Nat.two_pow_pos _))
 have hdone:=long_done m n s
 have hfirst:=left_first (s:=s) hn0 hlm
 have hfit:=quot_fit hn0 hlm
 have hV0:0<n*2^s:=Nat.mul_pos (Nat.pos_of_ne_zero hn0) (Nat.two_pow_pos _)
 have hL:=fun W=>nlen_any b d n W
 have hLM:=fun W=>nlen_any a c m W
 have hC:∀ W,NatW W a c m→NatW W b d n→Calls Tryz.prog 87 #[.agg #[.slice a (lenW m) c],.agg #[.slice b (lenW n) d]] W fun e w'=>e=.returned (.int .i64 (cmpN m n))∧Below W.heap.size W w':=fun W h1 h3=>ncmp_any a b c d m n W h1 h3
 have hcz:=cmpN_ge hle
 have hWT:∀ W,NatW W b d n→Calls Tryz.prog 182 #[.agg #[.slice b (lenW n) d],.int .i64 ((lenW n:Int) - 1)] W fun e w'=>e=.returned (UV (wordOf n (lenW n - 1)))∧Below W.heap.size W w':=fun W h=>by
  have:=word_any b d n (lenW n - 1) W h (by omega)
  rwa [show ((lenW n - 1:Nat):Int)=(lenW n:Int) - 1 by omega] at this
 have hLD:∀ W,Calls Tryz.prog 201 #[UV (wordOf n (lenW n - 1))] W fun e w'=>e=.returned (.int .i64 (s:Int))∧Below W.heap.size W w':=fun W=>by
  have:=lead_any (wordOf n (lenW n - 1)) (wordOf_lt _ _) W
  rwa [show 64 - bitLen (wordOf n (lenW n - 1))=s from hsE] at this
 rw [hsE] at hVl
 obtain ⟨V,hV⟩:∃ V,n*2^s=V:=⟨_,rfl⟩
 obtain ⟨X,hX⟩:∃ X,m*2^s=X:=⟨_,rfl⟩
 rw [hV] at hVl hdone hfirst hV0
 rw [hX] at hXl hXg hdone hfirst
 have hSV:∀ W,NatW W b d n→Calls Tryz.prog 215 #[.agg #[.slice b (lenW n) d],.int .i64 (s:Int)] W (RetNL V (lenW n) true W):=fun W h=>(shl_any b d n s W h (by omega) hs64).mono fun e w' ⟨a1,c1,he,h1,h2⟩=>⟨a1,c1,by rw [he,hV,hVl],by rw [← hV];exact h1,h2⟩
 have hSX:∀ W,NatW W a c m→Calls Tryz.prog 215 #[.agg #[.slice a (lenW m) c],.int .i64 (s:Int)] W (RetNL X (lenW X) true W):=fun W h=>(shl_any a c m s W h (by omega) hs64).mono fun e w' ⟨a1,c1,he,h1,h2⟩=>⟨a1,c1,by rw [he,hX],by rw [← hX];exact h1,h2⟩
 have hWS:=fun xa xc W (h:NatW W xa xc X)=>words_any xa xc X W h (by omega)
 have hLV:=fun va vc W=>nlen_any va vc V W
 have hSR:=fun ra rc W (h:NatW W ra rc (X % V))=>shr_any ra rc (X % V) s W h (Nat.le_trans (lenW_mono (Nat.mod_le _ _)) (by omega)) hs64
 have hpg:=fun k=>place_guess (X:=X) (V:=V) (k:=k) (by omega)
 have hWV:=fun va vc j W (h:NatW W va vc V) (hj:j≤9223372036854775807)=>word_any va vc V j W h hj
 have hTK:=fun (g o:Nat) (M:Nat × Nat) (cap:Nat) (f:Nat→Nat) (a:Option Addr) (c U:Nat) (w:World) hown hv hne hL hM hcap hU hf q hq=>take_any g o M cap f a c V U w hown hv hne hL hM hcap hU hf q hq
 have hBK:=fun (g o:Nat) (M:Nat × Nat) (cap:Nat) (f:Nat→Nat) (a:Option Addr) (c U:Nat) (w:World) hown hv hne hL hM hcap hU hf=>back_any g o M cap f a c V U w hown hv hne hL hM hcap hU hf
 have hVf:=lt_lenW V
 have hpl:=fun k=>placeU_fit (X:=X) (k:=k) hV0 (lt_lenW V)
 have hXf:X<W64^lenW X:=lt_lenW X
 have hRf:X % V<W64^(lenW m+1):=Nat.lt_of_le_of_lt (Nat.mod_le _ _) (Nat.lt_of_lt_of_le hXf (pow_mono hXl))
 rw [hVl] at hLV hpg hWV hTK hBK hVf hpl
 rw [← hdone.2,← hdone.1]
 rw [← hdone.1] at hfit
 have hWX:(toWords X).map UV++[UV 0,UV 0]=(toWords X++List.replicate 2 0).map UV:=by rw [List.map_append];rfl
 obtain ⟨la,hla⟩:∃ la,lenW m=la:=⟨_,rfl⟩
 obtain ⟨lb,hlb⟩:∃ lb,lenW n=lb:=⟨_,rfl⟩
 obtain ⟨lx,hlx⟩:∃ lx,lenW X=lx:=⟨_,rfl⟩
 obtain ⟨y,hy⟩:∃ y,wordOf n (lenW n - 1)=y:=⟨_,rfl⟩
 obtain ⟨z,hz⟩:∃ z,cmpN m n=z:=⟨_,rfl⟩
 rw [hz] at hC hcz
 rw [hy] at hWT hLD
 rw [hlb] at hL hC hWT hSV h2 hlm hfirst hLV hpg hWV hTK hBK hVf hpl hfit hVl
 rw [hla] at hLM hC hSX hs hlm hXl hXg hfirst hRf hfit
 rw [hlx] at hSX hWS hXl hXg hXf
 rw [hla,hlb]
 obtain ⟨Kq,hKq⟩:∃ Kq,la - lb+1=Kq:=⟨_,rfl⟩
 rw [hKq] at hfirst hfit
 obtain ⟨QQ,hQQ⟩:∃ QQ,X / V=QQ:=⟨_,rfl⟩
 obtain ⟨RR,hRR⟩:∃ RR,X % V=RR:=⟨_,rfl⟩
 rw [hRR] at hSR hRf
 rw [hQQ] at hpg hfit
 rw [hQQ,hRR]
 have hbs:BS w [⟨w.heap.size,41,[.slice a la c]⟩,⟨w.heap.size+1,41,[.slice b lb d]⟩,⟨w.heap.size+1+1,41,[.slice none 0 0]⟩,⟨w.heap.size+1+1+1,41,[.slice none 0 0]⟩] [⟨a,c,m⟩,⟨b,d,n⟩] ((((w.alloc (.cells #[.slice a la c] 41)).alloc (.cells #[.slice b lb d] 41)).alloc (.cells #[.slice none 0 0] 41)).alloc (.cells #[.slice none 0 0] 41)) :=
  (((((BS.begin [⟨a,c,m⟩,⟨b,d,n⟩] (fun y hy=>by
   rcases List.mem_cons.1 hy with rfl | hy
   ·
    exact ha
   ·
    rw [List.mem_singleton.1 hy];exact hb)).alloc (p:=w.heap.size) rfl 41 [.slice a la c] rfl).alloc (p:=w.heap.size+1) (by simp) 41 [.slice b lb d] rfl).alloc (p:=w.heap.size+1+1) (by simp) 41 [.slice none 0 0] rfl).alloc (p:=w.heap.size+1+1+1) (by simp) 41 [.slice none 0 0] rfl)
 have HL:=qH hL
 have HLM:=qH hLM
 have HC:=qH hC
 have HWT:=qH hWT
 have HLD:=qH hLD
 have HSV:=qH hSV
 have HSX:=qH hSX
 have HWS:=qH hWS
 have HLV:=qH hLV
 have HSR:=qH hSR
 have HPG:=qH hpg
 have HWV:=qH hWV
 have HTK0:=qH hTK
 have HBK0:=qH hBK
 have HVF:=qH hVf
 have HVL:=qH hVl
 have HPL:=qH hpl
 have HRF:=qH hRf
 have HFIT:=qH hfit
 have HFIRST:=qH hfirst
 have HV0:=qH hV0
 have HQQ:=qH hQQ
 have HRR:=qH hRR
 have HKQ0:=qH hKq
 have HWX:=qH hWX
 have HBS:=qH hbs
 have hlb1:(1:Int)<(lb:Int):=by omega
 have hlaB:(la:Int)≤4398046511104:=by omega
 have hlbl:(lb:Int)≤(la:Int):=by omega
 have hlx1:(la:Int)≤(lx:Int):=by omega
 have hlx2:(lx:Int)≤(la:Int)+1:=by omega
 clear ha hb hla hlb hlx hy hz hn0 hsE hs64 hVl hdone hfirst hV0 hV hX hL hLM hC hWT hLD hSV hSX hWS hLV hSR hpg hWV hTK hBK hVf hpl hXf hRf hfit hQQ hRR hbs hle hKq hWX
 go_enter Tryz.func200,Tryz.ntmps200
 go_wp2_with fail
 refine (HL.out _).mono ?_
 rintro e w1 ⟨rfl,hb1⟩
 have HN1:=qH (HBS.out.call hb1)
 have c0:=HN1.out.cell 0 0 rfl rfl
 have c1:=HN1.out.cell 1 0 rfl rfl
 clear hb1
 go_wp2_with fail
 clear c0 c1
 refine (HC.out _ (HN1.out.nat 0 rfl) (HN1.out.nat 1 rfl)).mono ?_
 rintro e w2 ⟨rfl,hb2⟩
 have HN2:=qH (HN1.out.call hb2)
 clear hb2
 have wl:IntKind.i64.wrap ((lb:Int) - 1)=(lb:Int) - 1:=IntWalk.i64_in _ (by omega)
 go_upto_region 6 with fail
 have hn:=HN2.out.drew
 refine wp_region_held_drew (S:=fun W=>W.cell? ⟨w.heap.size+1,0,none⟩=some (.slice b lb d)) (by kernel_rfl) (hn.cell 1 0 rfl rfl) (fun hHeld=>?_)
 refine tl 0 (some 41) ?_
 refine tl 1 (some 42) ?_
 refine wpAnyH_ready (rs:=[2]) (by kernel_rfl) (by simp) ?_
 refine (AllReadyH.cons rfl (fun K hK=>?_) AllReadyH.nil)
 go_simp
 refine (HL.out _).mono ?_
 rintro e w9 ⟨rfl,hb9⟩
 have hn1:=hn.call hb9
 clear hn hb9
 have hn:=hn1
 clear hn1
 go_wp2_with fail
 refine hK.out _ _ (hn.cell 1 0 rfl rfl) (fun hHeld2=>?_)
 clear hK K hHeld
 rename _=>hHeld
 try simp only [Act.put,stB,stZ,stS]
 refine tm 3 (some 44) ?_
 refine wpAnyH_ready (rs:=[4]) (by kernel_rfl) (by simp) ?_
 refine (AllReadyH.cons rfl (fun K hK=>?_) AllReadyH.nil)
 go_simp
 refine (HWT.out _ (hn.nat 1 rfl)).mono ?_
 rintro e w9 ⟨rfl,hb9⟩
 have hn1:=hn.call hb9
 clear hn hb9
 have hn:=hn1
 clear hn1
 go_wp2_with fail
 refine hK.out _ _ (hn.cell 1 0 rfl rfl) (fun hHeld2=>?_)
 clear hK K hHeld
 rename _=>hHeld
 try simp only [Act.put,stB,stZ,stS]
 refine wpAnyH_ready (rs:=[5]) (by kernel_rfl) (by simp) ?_
 refine (AllReadyH.cons rfl (fun K hK=>?_) AllReadyH.nil)
 go_simp
 refine (HLD.out _).mono ?_
 rintro e w9 ⟨rfl,hb9⟩
 have hn1:=hn.call hb9
 clear hn hb9
 have hn:=hn1
 clear hn1
 go_wp2_with fail
 refine hK.out _ _ (hn.cell 1 0 rfl rfl) (fun hHeld2=>?_)
 clear hK K hHeld
 rename _=>hHeld
 try simp only [Act.put,stB,stZ,stS]
 refine tm 6 (some 10) ?_
 refine wpAnyH_done (by kernel_rfl) ?_ _
 (try simp only [Exit.inBlock,Exit.then])
 clear hHeld
 have HN5:=qH hn
 clear hn wl
 have c0:=HN5.out.cell 0 0 rfl rfl
 have c1:=HN5.out.cell 1 0 rfl rfl
 go_wp2_with fail
 clear c0 c1
 refine (HSV.out _ (HN5.out.nat 1 rfl)).mono ?_
 rintro e w6 ⟨va,vc,rfl,hv,hb6⟩
 have HN6:=qH (((HN5.out.call hb6).got hv).alloc (p:=w6.heap.size) rfl 41 [.slice va lb vc] rfl)
 clear hv hb6
 go_upto_region 8 with fail
 generalize w6.heap.size=pv at HN6 ⊢
 generalize w6.alloc (.cells #[.slice va lb vc] 41)=w6b at HN6 ⊢
 have c0:=HN6.out.cell 0 0 rfl rfl
 go_wp2_with fail
 clear c0
 refine (HSX.out _ (HN6.out.nat 0 rfl)).mono ?_
 rintro e w7 ⟨xa,xc,rfl,hx,hb7⟩
 have HN9:=qH (((HN6.out.call hb7).got hx).alloc (p:=w7.heap.size) rfl 41 [.slice xa lx xc] rfl)
 clear hx hb7
 go_upto_region 9 with fail
 generalize w7.heap.size=px at HN9 ⊢
 generalize w7.alloc (.cells #[.slice xa lx xc] 41)=w8 at HN9 ⊢
 have HB:=qH (Below.refl w8.heap.size w8)
 have HUF:=qH (fun (W:World) (g o:Nat) (h:OwnF W g (o,o+(lx+2)) (fun j=>(toWords X++List.replicate 2 0).getD (j - o) 0))=>(show OwnF W g (o,o+(la+1)) (fun j=>wordOf X (j - o)) from h.sub (Nat.le_refl _) (by simp;omega) fun j _=>(words_zeros X (j - o) 2).symm))
 have wa:IntKind.i64.wrap ((la:Int)+1)=(la:Int)+1:=IntWalk.i64_in _ (by omega)
 go_cut [15] (fun v15 wx=>∃ g o cu,v15=.slice (some ⟨g,o,none⟩) (la+1) cu∧la+1≤cu∧cu≤9223372036854775807∧w8.heap.size≤g∧Below w8.heap.size w8 wx∧OwnF wx g (o,o+(la+1)) (fun j=>wordOf X (j - o)))
 case first =>
  refine wp_region_held_drew (S:=fun W=>W.cell? ⟨px,0,none⟩=some (.slice xa lx xc)∧W.cell? ⟨w.heap.size,0,none⟩=some (.slice a la c)) (by kernel_rfl) (⟨(HN9.out.call HB.out).cell 5 0 rfl rfl,(HN9.out.call HB.out).cell 0 0 rfl rfl⟩) (fun hHeld=>?_)
  replace HB:=qH HB.out.drew
  generalize w8.drew=wd at HB hHeld ⊢
  refine tk 0 (some 59) (v:=?_) rfl rfl ?_ ?_
  rotate_left
  ·
   (intro w hSw;(try dsimp only at hSw);((try obtain ⟨hS0,hS1⟩:=hSw);go_simp);(try with_reducible rfl))
  simp only [Act.put,stB,stZ,stS]
  refine tk 4 (some 63) (v:=?_) rfl rfl ?_ ?_
  rotate_left
  ·
   (intro w hSw;(try dsimp only at hSw);((try obtain ⟨hS0,hS1⟩:=hSw);go_simp);(try with_reducible rfl))
  simp only [Act.put,stB,stZ,stS]
  refine wpAnyH_ready (rs:=[1,2]) (by kernel_rfl) (by simp) ?_
  refine (AllReadyH.cons rfl (fun K hK=>?_) (AllReadyH.cons rfl (fun K hK=>?_) AllReadyH.nil))
  ·
   skip
   go_simp
   refine (HWS.out xa xc wd ((HN9.out.call HB.out).nat 3 rfl)).mono ?_
   rintro e y1 ⟨a1,c1,rfl,hm,hb⟩
   have HMW:=qH (hm.mono HB.out.size)
   clear hm
   replace HB:=qH (bthen HB.out hb)
   clear hb
   refine hK.out _ _ (⟨(HN9.out.call HB.out).cell 5 0 rfl rfl,(HN9.out.call HB.out).cell 0 0 rfl rfl⟩) (fun hHeld2=>?_)
   clear hK K hHeld
   rename _=>hHeld
   try simp only [Act.put,stB,stZ,stS]
   refine wpAnyH_ready (rs:=[2]) (by kernel_rfl) (by simp) ?_
   refine (AllReadyH.cons rfl (fun K hK=>?_) AllReadyH.nil)
   go_simp
   have hb:=belowBox y1 (.cells #[UV 0,UV 0] 164)
   have HSL:=qH (Sl.lit y1 164 1 2 [UV 0,UV 0] (by unfold maxLen;omega) rfl)
   replace HMW:=qH (mid_under4 HMW.out hb)
   replace HB:=qH (bthen HB.out hb)
   clear hb
   generalize y1.heap.size=g0 at HSL ⊢
   generalize y1.alloc (.cells #[UV 0,UV 0] 164)=y2 at HSL HB HMW ⊢
   refine hK.out _ _ (⟨(HN9.out.call HB.out).cell 5 0 rfl rfl,(HN9.out.call HB.out).cell 0 0 rfl rfl⟩) (fun hHeld2=>?_)
   clear hK K hHeld
   rename _=>hHeld
   try simp only [Act.put,stB,stZ,stS]
   refine wpAnyH_ready (rs:=[3]) (by kernel_rfl) (by simp) ?_
   refine (AllReadyH.cons rfl (fun K hK=>?_) AllReadyH.nil)
   refine step_append_mid (v:=.slice a1 lx c1) (by rfl) _ _ 22 22 (by rfl) ti (.int .u64 0) 8 Tryz.underlying22 hz1 hz2 hz3 hz4 rfl (by rfl) HMW.out _ (by rfl) 2 _ (HSL.out.src Tryz.underlying22 (one_UV [0,0])) (by unfold maxLen;omega) (by omega) HB.out.size ?_
   intro a9 c9 y3 hmo hgo hbo
   have HMO:=qH hmo
   have hcl:=Sl.lenI6 (Sl.ofMid hmo)
   have hc9:(la:Int)+1≤(c9:Int):=by omega
   have hc0:(0:Int)≤(la:Int)+1:=by omega
   replace HB:=qH (HB.out.grown hgo HB.out.size fun z hz=>(HMW.out.lt z hz).1)
   clear hmo hgo hbo HMW HSL
   try dsimp only
   refine hK.out _ _ (⟨(HN9.out.call HB.out).cell 5 0 rfl rfl,(HN9.out.call HB.out).cell 0 0 rfl rfl⟩) (fun hHeld2=>?_)
   clear hK K hHeld
   rename _=>hHeld
   try simp only [Act.put,stB,stZ,stS]
   refine wpAnyH_ready (rs:=[5]) (by kernel_rfl) (by simp) ?_
   refine (AllReadyH.cons rfl (fun K hK=>?_) AllReadyH.nil)
   go_simp
   refine (HLM.out y3).mono ?_
   rintro e y4 ⟨rfl,hb⟩
   replace HMO:=qH (mid_under4 HMO.out hb)
   replace HB:=qH (bthen HB.out hb)
   clear hb
   go_wp2_with fail
   refine hK.out _ _ (⟨(HN9.out.call HB.out).cell 5 0 rfl rfl,(HN9.out.call HB.out).cell 0 0 rfl rfl⟩) (fun hHeld2=>?_)
   clear hK K hHeld
   rename _=>hHeld
   try simp only [Act.put,stB,stZ,stS]
   refine tm 6 (some 65) ?_
   refine tm 7 (some 66) ?_
   refine tm 8 (some 15) ?_
   refine wpAnyH_done (by kernel_rfl) ?_ _
   (try simp only [Exit.inBlock,Exit.then])
   clear hHeld
   go_wp2_with fail
   go_meet
   obtain ⟨g,o,rfl,hg,h1,h2,hu⟩:=OwnF.ofMid (xs:=toWords X++List.replicate 2 0) (by have h9:=HMO.out;rwa [HWX.out] at h9) (by omega)
   exact ⟨g,o,_,rfl,by omega,by unfold maxLen at h2;omega,hg,HB.out,HUF.out _ g o hu⟩
  ·
   skip
   go_simp
   have hb:=belowBox wd (.cells #[UV 0,UV 0] 164)
   have HSL:=qH (Sl.lit wd 164 1 2 [UV 0,UV 0] (by unfold maxLen;omega) rfl)
   replace HB:=qH (bthen HB.out hb)
   clear hb
   generalize wd.heap.size=g0 at HSL ⊢
   generalize wd.alloc (.cells #[UV 0,UV 0] 164)=y1 at HSL HB ⊢
   refine hK.out _ _ (⟨(HN9.out.call HB.out).cell 5 0 rfl rfl,(HN9.out.call HB.out).cell 0 0 rfl rfl⟩) (fun hHeld2=>?_)
   clear hK K hHeld
   rename _=>hHeld
   try simp only [Act.put,stB,stZ,stS]
   refine wpAnyH_ready (rs:=[1]) (by kernel_rfl) (by simp) ?_
   refine (AllReadyH.cons rfl (fun K hK=>?_) AllReadyH.nil)
   go_simp
   refine (HWS.out xa xc y1 ((HN9.out.call HB.out).nat 3 rfl)).mono ?_
   rintro e y2 ⟨a1,c1,rfl,hm,hb⟩
   have HMW:=qH (hm.mono HB.out.size)
   clear hm
   replace HSL:=qH (HSL.out.below hb)
   replace HB:=qH (bthen HB.out hb)
   clear hb
   refine hK.out _ _ (⟨(HN9.out.call HB.out).cell 5 0 rfl rfl,(HN9.out.call HB.out).cell 0 0 rfl rfl⟩) (fun hHeld2=>?_)
   clear hK K hHeld
   rename _=>hHeld
   try simp only [Act.put,stB,stZ,stS]
   refine wpAnyH_ready (rs:=[3]) (by kernel_rfl) (by simp) ?_
   refine (AllReadyH.cons rfl (fun K hK=>?_) AllReadyH.nil)
   refine step_append_mid (v:=.slice a1 lx c1) (by rfl) _ _ 22 22 (by rfl) ti (.int .u64 0) 8 Tryz.underlying22 hz1 hz2 hz3 hz4 rfl (by rfl) HMW.out _ (by rfl) 2 _ (HSL.out.src Tryz.underlying22 (one_UV [0,0])) (by unfold maxLen;omega) (by omega) HB.out.size ?_
   intro a9 c9 y3 hmo hgo hbo
   have HMO:=qH hmo
   have hcl:=Sl.lenI6 (Sl.ofMid hmo)
   have hc9:(la:Int)+1≤(c9:Int):=by omega
   have hc0:(0:Int)≤(la:Int)+1:=by omega
   replace HB:=qH (HB.out.grown hgo HB.out.size fun z hz=>(HMW.out.lt z hz).1)
   clear hmo hgo hbo HMW HSL
   try dsimp only
   refine hK.out _ _ (⟨(HN9.out.call HB.out).cell 5 0 rfl rfl,(HN9.out.call HB.out).cell 0 0 rfl rfl⟩) (fun hHeld2=>?_)
   clear hK K hHeld
   rename _=>hHeld
   try simp only [Act.put,stB,stZ,stS]
   refine wpAnyH_ready (rs:=[5]) (by kernel_rfl) (by simp) ?_
   refine (AllReadyH.cons rfl (fun K hK=>?_) AllReadyH.nil)
   go_simp
   refine (HLM.out y3).mono ?_
   rintro e y4 ⟨rfl,hb⟩
   replace HMO:=qH (mid_under4 HMO.out hb)
   replace HB:=qH (bthen HB.out hb)
   clear hb
   go_wp2_with fail
   refine hK.out _ _ (⟨(HN9.out.call HB.out).cell 5 0 rfl rfl,(HN9.out.call HB.out).cell 0 0 rfl rfl⟩) (fun hHeld2=>?_)
   clear hK K hHeld
   rename _=>hHeld
   try simp only [Act.put,stB,stZ,stS]
   refine tm 6 (some 65) ?_
   refine tm 7 (some 66) ?_
   refine tm 8 (some 15) ?_
   refine wpAnyH_done (by kernel_rfl) ?_ _
   (try simp only [Exit.inBlock,Exit.then])
   clear hHeld
   go_wp2_with fail
   go_meet
   obtain ⟨g,o,rfl,hg,h1,h2,hu⟩:=OwnF.ofMid (xs:=toWords X++List.replicate 2 0) (by have h9:=HMO.out;rwa [HWX.out] at h9) (by omega)
   exact ⟨g,o,_,rfl,by omega,by unfold maxLen at h2;omega,hg,HB.out,HUF.out _ g o hu⟩
 case rest =>
  obtain ⟨wB,rfl⟩:∃ wB:World,wB=wc:=⟨_,rfl⟩
  obtain ⟨g,o,cu,rfl,hcu1,hcu2,hgge,hbel,huX⟩:=hcut
  have HGE:=qH hgge
  replace HB:=qH hbel
  have HU:=qH huX
  clear hgge hbel huX wa HUF HWX HWS
  have c4:=(HN9.out.call HB.out).cell 4 0 rfl rfl
  go_wp2_with fail
  clear c4
  refine (HLV.out va vc _).mono ?_
  rintro e w10 ⟨rfl,hb10⟩
  replace HB:=qH (bthen HB.out hb10)
  replace HU:=qH (HU.out.same (hb10.block _ HU.out.lt))
  clear hb10
  have c0:=(HN9.out.call HB.out).cell 0 0 rfl rfl
  go_wp2_with fail
  clear c0
  refine (HLM.out _).mono ?_
  rintro e w11 ⟨rfl,hb11⟩
  replace HB:=qH (bthen HB.out hb11)
  replace HU:=qH (HU.out.same (hb11.block _ HU.out.lt))
  clear hb11
  have hmk:=make_words ((la:Int) - (lb:Int)+1) Kq (by have:=HKQ0.out;omega) (by have:=HKQ0.out;omega) w11
  go_upto_region 12 with fail
  clear hmk
  have hal:=belowBox w11 (.cells (zeroC Kq) 164)
  have HQ:=qH (OwnF.zero w11 Kq (fun j=>if Kq≤j then wordOf QQ j else 0) (fun j hj=>if_neg (by omega)))
  have HGQ:=qH (show w8.heap.size≤w11.heap.size from HB.out.size)
  have HNE:=qH (show g≠w11.heap.size by have:=HU.out.lt;omega)
  replace HB:=qH (bthen HB.out hal)
  replace HU:=qH (HU.out.same (hal.block _ HU.out.lt))
  clear hal
  generalize w11.heap.size=gq at HQ HGQ HNE ⊢
  generalize w11.alloc (.cells (zeroC Kq) 164)=w12 at HQ HB HU ⊢
  have hKq1:(Kq:Int)=(la:Int) - (lb:Int)+1:=by have:=HKQ0.out;omega
  have HKQ1:=qH hKq1
  have hKq2:(Kq:Int)≤4398046511104:=by omega
  clear hKq1
  go_wp2_with fail
  go_loopw [18] (fun v18 wr=>∃ (k:Nat) (zi:Int),k≤Kq∧zi=(k:Int) - 1∧v18=.int .i64 zi∧LS w8 g (o,o+(la+1)) (fun j=>wordOf (leftX X V k) (j - o)) gq Kq (fun j=>if k≤j then wordOf QQ j else 0) wr) (fun v18 _=>(intOf v18+1).toNat)
  case atStart=>exact ⟨Kq,_,Nat.le_refl _,rfl,rfl,HB.out,by rw [HFIRST.out];exact HU.out,HQ.out⟩
  case round =>
   obtain ⟨k0,zi,hk,hzi,rfl,hls⟩:=hrel
   clear HB HU HQ
   have HVN:=qH (fun (W:World) (h:Below w8.heap.size w8 W)=>(show NatW W va vc V from (HN9.out.call h).nat 2 rfl))
   have HPV:=qH (fun (W:World) (h:Below w8.heap.size w8 W)=>(show W.cell? ⟨pv,0,none⟩=some (.slice va lb vc) from (HN9.out.call h).cell 4 0 rfl rfl))
   by_cases hk0:k0=0
   ·
    have hz:zi=-1:=by omega
    rw [hk0] at hls
    have HLS:=qH hls
    rw [hz]
    clear hls hk0 hzi hk hz
    have HOQ:=qH (fun (W:World) (h:OwnF W gq (0,Kq) (fun j=>if 0≤j then wordOf QQ j else 0))=>(show Calls Tryz.prog 68 #[.slice (some ⟨gq,0,none⟩) Kq Kq] W (RetN QQ W) from by
     have h1:OwnF W gq (0,0+Kq) (wordOf QQ):=by rw [Nat.zero_add];exact h.congr fun j _=>(if_pos (Nat.zero_le j)).symm
     have h2:=of_any _ _ Kq _ W (h1.sl (Nat.le_refl _) (by unfold maxLen;omega)) (fnL_lt fun j=>wordOf_lt _ _) (by omega)
     rw [fnL_congr (g:=wordOf QQ) (fun j _=>by rw [Nat.zero_add]),fnL_val HFIT.out] at h2
     exact h2))
    have HOU:=qH (fun (W:World) (h:OwnF W g (o,o+(la+1)) (fun j=>wordOf (leftX X V 0) (j - o)))=>(show Calls Tryz.prog 68 #[.slice (some ⟨g,o,none⟩) (la+1) cu] W (RetN RR W) from by
     have h2:=of_any _ _ (la+1) _ W (h.sl hcu1 (by unfold maxLen;omega)) (fnL_lt fun j=>wordOf_lt _ _) (by omega)
     rw [fnL_congr (g:=wordOf RR) (fun j _=>by rw [Nat.add_sub_cancel_left,leftX_end,HRR.out]),fnL_val HRF.out] at h2
     exact h2))
    go_wp2_with fail
    refine (HOQ.out _ HLS.out.q).mono ?_
    rintro e w20 ⟨qa,qc,rfl,hq,hb20⟩
    replace HLS:=qH (HLS.out.call hb20)
    have HQN:=qH hq
    clear hq hb20 HOQ
    go_wp2_with fail
    refine (HOU.out _ HLS.out.u).mono ?_
    rintro e w21 ⟨ra,rc,rfl,hr,hb21⟩
    replace HLS:=qH (HLS.out.call hb21)
    replace HQN:=qH (HQN.out.below hb21)
    have HRN:=qH hr
    clear hr hb21 HOU
    go_wp2_with fail
    refine (HSR.out ra rc _ HRN.out).mono ?_
    rintro e w22 ⟨sa,sc,rfl,hs2,hb22⟩
    have HNF:=qH (((HN9.out.call (HLS.out.call hb22).bel).got (HQN.out.below hb22)).got hs2)
    clear hs2 hb22 HLS HQN HRN
    have c2:=HNF.out.cell 2 0 rfl rfl
    have f2:=HNF.out.free 2 0 rfl
    have c3:=HNF.out.cell 3 0 rfl rfl
    have f3:=HNF.out.free 3 0 rfl
    go_wp2_with fail
    refine bodyPost_ret (v:=.tuple #[.agg #[.slice qa (lenW QQ) qc],.agg #[.slice sa (lenW (RR / 2^s)) sc],.bool true]) (by simp [results,Tryz.results200,go_sem,c2,c3]) rfl ?_
    have HNZ:=(HNF.out.set 2 0 rfl rfl (fun _=>by simp) (.slice qa (lenW QQ) qc)).set 3 0 rfl rfl (fun _=>by simp) (.slice sa (lenW (RR / 2^s)) sc)
    exact ⟨qa,qc,sa,sc,rfl,HNZ.nat 4 rfl,HNZ.nat 5 rfl,HNZ.bel⟩
   ·
    obtain ⟨k,hk1⟩:∃ k,k0=k+1:=⟨k0 - 1,by omega⟩
    have hz:zi=(k:Int):=by omega
    rw [hk1] at hls hk
    have HLS:=qH hls
    rw [hz]
    clear hls hk0 hzi hk1 hz
    have hkl:k+lb≤la:=by have:=HKQ0.out;omega
    obtain ⟨l1,hl1⟩:∃ l1,lb - 1=l1:=⟨_,rfl⟩
    obtain ⟨l2,hl2⟩:∃ l2,lb - 2=l2:=⟨_,rfl⟩
    obtain ⟨i2,hi2⟩:∃ i2,k+lb=i2:=⟨_,rfl⟩
    obtain ⟨i1,hi1⟩:∃ i1,k+l1=i1:=⟨_,rfl⟩
    obtain ⟨i0,hi0⟩:∃ i0,k+l2=i0:=⟨_,rfl⟩
    obtain ⟨i3,hi3⟩:∃ i3,i2+1=i3:=⟨_,rfl⟩
    have hl1b:l1≤lb:=by omega
    have hl2b:l2≤lb:=by omega
    have hl1m:l1≤9223372036854775807:=by omega
    have hl2m:l2≤9223372036854775807:=by omega
    have hkK:k<Kq:=by omega
    have hkk:¬ k+1≤k:=by omega
    have hlp:0<lb:=by omega
    have HOK:=qH (show (o,o+(la+1)).1≤o+k∧o+k+lb+1≤(o,o+(la+1)).2 from ⟨Nat.le_add_right _ _,by show o+k+lb+1≤o+(la+1);omega⟩)
    have HLB:=qH (show lb+1≤35184372088832 by omega)
    have kI0:(0:Int)≤(k:Int):=by omega
    have kI1:(k:Int)<(Kq:Int):=by omega
    have iI0:(i0:Int)<(la:Int)+1:=by omega
    have iI1:(i1:Int)<(la:Int)+1:=by omega
    have iI2:(i2:Int)<(la:Int)+1:=by omega
    have we2:IntKind.i64.wrap ((k:Int)+(lb:Int))=(i2:Int):=by rw [show (k:Int)+(lb:Int)=(i2:Int) by omega];exact IntWalk.i64_in _ (by omega)
    have we1:IntKind.i64.wrap ((i2:Int) - 1)=(i1:Int):=by rw [show (i2:Int) - 1=(i1:Int) by omega];exact IntWalk.i64_in _ (by omega)
    have we0:IntKind.i64.wrap ((i2:Int) - 2)=(i0:Int):=by rw [show (i2:Int) - 2=(i0:Int) by omega];exact IntWalk.i64_in _ (by omega)
    have wl1:IntKind.i64.wrap ((lb:Int) - 1)=(l1:Int):=by rw [show (lb:Int) - 1=(l1:Int) by omega];exact IntWalk.i64_in _ (by omega)
    have wl2:IntKind.i64.wrap ((lb:Int) - 2)=(l2:Int):=by rw [show (lb:Int) - 2=(l2:Int) by omega];exact IntWalk.i64_in _ (by omega)
    have hi3b:i3≤la+1:=by omega
    have hki3:k≤i3:=by omega
    have hi3c:i3≤cu:=by omega
    have hi3e:i3 - k=lb+1:=by omega
    have hkcu:k<cu:=by omega
    have hcuk:lb+1≤cu - k:=by omega
    have hcuk2:cu - k≤9223372036854775807:=by omega
    have hPW:∀ j,wordOf (placeU X V k) j=wordOf (leftX X V (k+1)) (k+j):=placeU_word X V k
    obtain ⟨U,hU⟩:∃ U,placeU X V k=U:=⟨_,rfl⟩
    simp only [hU] at hPW
    have hcl:∀ j,j≤lb→∀ W,OwnF W g (o,o+(la+1)) (fun j=>wordOf (leftX X V (k+1)) (j - o))→W.cell? ⟨g,o+(k+j),none⟩=some (UV (wordOf U j)):=fun j hj W h=>by
     have h9:=h.cell (j:=o+(k+j)) ⟨by simp,by simp;omega⟩
     rw [Nat.add_sub_cancel_left,← hPW] at h9
     exact h9
    obtain ⟨hg1,hg2,Q,hQ,hQw,hcase⟩:=HPG.out k
    have hplk:=HPL.out k
    have hPR:=fun (hQ:Q=wordOf (X / V) k) (hle:V*Q≤placeU X V k) (j:Nat)=>place_right HV0.out HVF.out hQ hle j
    have hPB:=fun (hQ:Q=wordOf (X / V) k+1) (hlt:placeU X V k<V*Q) (j:Nat)=>place_back HV0.out HVF.out hQ hlt (over_word V Q lb HVF.out hQw).2 j
    rw [HQQ.out] at hPR hPB
    rw [hU] at hg2 hQ hcase hplk hPR hPB
    rw [hl1] at hg1 hg2 hQ
    rw [hl2] at hQ
    obtain ⟨u2,hu2⟩:∃ u2,wordOf U lb=u2:=⟨_,rfl⟩
    obtain ⟨u1,hu1⟩:∃ u1,wordOf U l1=u1:=⟨_,rfl⟩
    obtain ⟨u0,hu0⟩:∃ u0,wordOf U l2=u0:=⟨_,rfl⟩
    obtain ⟨v1,hv1⟩:∃ v1,wordOf V l1=v1:=⟨_,rfl⟩
    obtain ⟨v0,hv0⟩:∃ v0,wordOf V l2=v0:=⟨_,rfl⟩
    have HU2:=qH (fun (W:World) (h:OwnF W g (o,o+(la+1)) (fun j=>wordOf (leftX X V (k+1)) (j - o)))=>(show W.cell? ⟨g,o+i2,none⟩=some (UV u2) from by have:=hcl lb (Nat.le_refl _) W h;rwa [hi2,hu2] at this))
    have HU1:=qH (fun (W:World) (h:OwnF W g (o,o+(la+1)) (fun j=>wordOf (leftX X V (k+1)) (j - o)))=>(show W.cell? ⟨g,o+i1,none⟩=some (UV u1) from by have:=hcl l1 hl1b W h;rwa [hi1,hu1] at this))
    have HU0:=qH (fun (W:World) (h:OwnF W g (o,o+(la+1)) (fun j=>wordOf (leftX X V (k+1)) (j - o)))=>(show W.cell? ⟨g,o+i0,none⟩=some (UV u0) from by have:=hcl l2 hl2b W h;rwa [hi0,hu0] at this))
    have HW1:=qH (fun (W:World) (h:NatW W va vc V)=>(show Calls Tryz.prog 182 #[.agg #[.slice va lb vc],.int .i64 (l1:Int)] W fun e w'=>e=.returned (UV v1)∧Below W.heap.size W w' from by have:=HWV.out va vc l1 W h hl1m;rwa [hv1] at this))
    have HW2:=qH (fun (W:World) (h:NatW W va vc V)=>(show Calls Tryz.prog 182 #[.agg #[.slice va lb vc],.int .i64 (l2:Int)] W fun e w'=>e=.returned (UV v0)∧Below W.heap.size W w' from by have:=HWV.out va vc l2 W h hl2m;rwa [hv0] at this))
    rw [hu2,hu1,hu0,hv1,hv0] at hQ
    rw [hv1] at hg1
    rw [hu2,hv1] at hg2
    have HGS:=qH (fun (W:World)=>(show Calls Tryz.prog 216 #[UV u2,UV u1,UV u0,UV v1,UV v0] W fun e w'=>e=.returned (UV Q)∧Below W.heap.size W w' from by
     have:=guess_any u2 u1 u0 v1 v0 W (hu1▸wordOf_lt _ _) (hu0▸wordOf_lt _ _) (hv1▸wordOf_lt _ _) (hv0▸wordOf_lt _ _) hg1 hg2
     rwa [hQ] at this))
    have HKQ:=qH (show (0,Kq).1≤k∧k<(0,Kq).2 from ⟨Nat.zero_le _,hkK⟩)
    have HKK:=qH hkk
    have HVG:=qH (show ∀ z,(Value.slice va lb vc).ownBlock=some z→¬ z=g from fun z hz e=>by
     have h1:=((HN9.out.nat 2 rfl).ty (by show 0<lenW V;rw [HVL.out];exact hlp) z (by show (Value.slice va (lenW V) vc).ownBlock=some z;rw [HVL.out];exact hz)).lt
     rw [e] at h1
     exact absurd h1 (Nat.not_lt_of_le HGE.out))
    have HFW:=qH (show ∀ j,j≤lb→(fun j=>wordOf (leftX X V (k+1)) (j - o)) (o+k+j)=wordOf U j from fun j _=>by
     show wordOf (leftX X V (k+1)) (o+k+j - o)=_
     rw [hPW,Nat.add_assoc,Nat.add_sub_cancel_left])
    have HQC:=qH (fun (W:World) (h:OwnF W gq (0,Kq) (fun j=>if j=k then Q else if k+1≤j then wordOf QQ j else 0))=>(show W.cell? ⟨gq,k,none⟩=some (UV Q) from by have h9:=h.cell (j:=k) HKQ.out;rwa [if_pos rfl] at h9))
    have HCASE:=qH hcase
    have HPR:=qH hPR
    have HPB:=qH hPB
    have HPLK:=qH hplk
    have HQW:=qH hQw
    have HI3:=qH hi3
    have HI2:=qH hi2
    have HKL:=qH hkl
    have HI3E:=qH hi3e
    have HCK:=qH (show ¬ cu=k from fun e=>absurd hkcu (by rw [e];exact Nat.lt_irrefl _))
    clear hcl hcase hPR hPB hplk hQw hQ hg1 hg2 hPW hU hu2 hu1 hu0 hv1 hv0 hl1 hl2 hi2 hi1 hi0 hi3 hi3e hk hkl hl1b hl2b hl1m hl2m hkK hkk hlp
    go_upto_region 15 with fail
    go_cut [] (fun wx=>LS w8 g (o,o+(la+1)) (fun j=>wordOf (leftX X V (k+1)) (j - o)) gq Kq (fun j=>if j=k then Q else if k+1≤j then wordOf QQ j else 0) wx)
    case first =>
     have hn:=HLS.out.drew
     refine wp_region_held_drew (S:=fun W=>W.cell? ⟨g,o+i2,none⟩=some (UV u2)∧W.cell? ⟨g,o+i1,none⟩=some (UV u1)∧W.cell? ⟨g,o+i0,none⟩=some (UV u0)∧W.cell? ⟨pv,0,none⟩=some (.slice va lb vc)) (by kernel_rfl) (⟨HU2.out _ hn.u,HU1.out _ hn.u,HU0.out _ hn.u,HPV.out _ hn.bel⟩) (fun hHeld=>?_)
     refine tm 0 (some 82) ?_
     refine tm 1 (some 83) ?_
     refine tm 2 (some 84) ?_
     refine tm 3 (some 85) ?_
     refine tm 4 (some 86) ?_
     refine tm 5 (some 87) ?_
     refine tk 6 (some 88) (v:=?_) rfl rfl ?_ ?_
     rotate_left
     ·
      (intro w hSw;(try dsimp only at hSw);((try obtain ⟨hS0,hS1,hS2,hS3⟩:=hSw);go_simp);(try with_reducible rfl))
     simp only [Act.put,stB,stZ,stS]
     refine tk 7 (some 89) (v:=?_) rfl rfl ?_ ?_
     rotate_left
     ·
      (intro w hSw;(try dsimp only at hSw);((try obtain ⟨hS0,hS1,hS2,hS3⟩:=hSw);go_simp);(try with_reducible rfl))
     simp only [Act.put,stB,stZ,stS]
     refine tm 8 (some 90) ?_
     refine tm 9 (some 91) ?_
     refine tm 10 (some 92) ?_
     refine tm 11 (some 93) ?_
     refine tm 12 (some 94) ?_
     refine tk 13 (some 95) (v:=?_) rfl rfl ?_ ?_
     rotate_left
     ·
      (intro w hSw;(try dsimp only at hSw);((try obtain ⟨hS0,hS1,hS2,hS3⟩:=hSw);go_simp);(try with_reducible rfl))
     simp only [Act.put,stB,stZ,stS]
     refine tk 14 (some 96) (v:=?_) rfl rfl ?_ ?_
     rotate_left
     ·
      (intro w hSw;(try dsimp only at hSw);((try obtain ⟨hS0,hS1,hS2,hS3⟩:=hSw);go_simp);(try with_reducible rfl))
     simp only [Act.put,stB,stZ,stS]
     refine tm 15 (some 97) ?_
     refine tm 16 (some 98) ?_
     refine tm 17 (some 99) ?_
     refine tm 18 (some 100) ?_
     refine tm 19 (some 101) ?_
     refine tk 20 (some 102) (v:=?_) rfl rfl ?_ ?_
     rotate_left
     ·
      (intro w hSw;(try dsimp only at hSw);((try obtain ⟨hS0,hS1,hS2,hS3⟩:=hSw);go_simp);(try with_reducible rfl))
     simp only [Act.put,stB,stZ,stS]
     refine tk 21 (some 103) (v:=?_) rfl rfl ?_ ?_
     rotate_left
     ·
      (intro w hSw;(try dsimp only at hSw);((try obtain ⟨hS0,hS1,hS2,hS3⟩:=hSw);go_simp);(try with_reducible rfl))
     simp only [Act.put,stB,stZ,stS]
     refine tk 22 (some 104) (v:=?_) rfl rfl ?_ ?_
     rotate_left
     ·
      (intro w hSw;(try dsimp only at hSw);((try obtain ⟨hS0,hS1,hS2,hS3⟩:=hSw);go_simp);(try with_reducible rfl))
     simp only [Act.put,stB,stZ,stS]
     refine tm 23 (some 105) ?_
     refine tm 24 (some 106) ?_
     refine tk 26 (some 108) (v:=?_) rfl rfl ?_ ?_
     rotate_left
     ·
      (intro w hSw;(try dsimp only at hSw);((try obtain ⟨hS0,hS1,hS2,hS3⟩:=hSw);go_simp);(try with_reducible rfl))
     simp only [Act.put,stB,stZ,stS]
     refine tm 27 (some 109) ?_
     refine tm 28 (some 110) ?_
     refine wpAnyH_ready (rs:=[25]) (by kernel_rfl) (by simp) ?_
     refine (AllReadyH.cons rfl (fun K hK=>?_) AllReadyH.nil)
     go_simp
     refine (HW1.out _ (HVN.out _ hn.bel)).mono ?_
     rintro e w9 ⟨rfl,hb9⟩
     have hn1:=hn.call hb9
     clear hn hb9
     have hn:=hn1
     clear hn1
     go_wp2_with fail
     refine hK.out _ _ (⟨HU2.out _ hn.u,HU1.out _ hn.u,HU0.out _ hn.u,HPV.out _ hn.bel⟩) (fun hHeld2=>?_)
     clear hK K hHeld
     rename _=>hHeld
     try simp only [Act.put,stB,stZ,stS]
     refine wpAnyH_ready (rs:=[29]) (by kernel_rfl) (by simp) ?_
     refine (AllReadyH.cons rfl (fun K hK=>?_) AllReadyH.nil)
     go_simp
     refine (HW2.out _ (HVN.out _ hn.bel)).mono ?_
     rintro e w9 ⟨rfl,hb9⟩
     have hn1:=hn.call hb9
     clear hn hb9
     have hn:=hn1
     clear hn1
     go_wp2_with fail
     refine hK.out _ _ (⟨HU2.out _ hn.u,HU1.out _ hn.u,HU0.out _ hn.u,HPV.out _ hn.bel⟩) (fun hHeld2=>?_)
     clear hK K hHeld
     rename _=>hHeld
     try simp only [Act.put,stB,stZ,stS]
     refine wpAnyH_ready (rs:=[30]) (by kernel_rfl) (by simp) ?_
     refine (AllReadyH.cons rfl (fun K hK=>?_) AllReadyH.nil)
     go_simp
     refine (HGS.out _).mono ?_
     rintro e w9 ⟨rfl,hb9⟩
     have hn1:=hn.call hb9
     clear hn hb9
     have hn:=hn1
     clear hn1
     go_wp2_with fail
     refine hK.out _ _ (⟨HU2.out _ hn.u,HU1.out _ hn.u,HU0.out _ hn.u,HPV.out _ hn.bel⟩) (fun hHeld2=>?_)
     clear hK K hHeld
     rename _=>hHeld
     try simp only [Act.put,stB,stZ,stS]
     refine tk 31 (some 113) (v:=?_) rfl rfl ?_ ?_
     rotate_left
     ·
      (intro w hSw;(try dsimp only at hSw);((try obtain ⟨hS0,hS1,hS2,hS3⟩:=hSw);go_simp);(try with_reducible rfl))
     simp only [Act.put,stB,stZ,stS]
     refine wpAnyH_ready (rs:=[32]) (by kernel_rfl) (by simp) ?_
     refine (AllReadyH.cons rfl (fun K hK=>?_) AllReadyH.nil)
     have hc:=hn.q.cell (j:=k) HKQ.out
     rw [if_neg HKK.out] at hc
     have hf:=hn.q.free k
     go_simp
     clear hc hf
     have hn1:=hn.setQ HGQ.out HNE.out k Q (f':=fun j=>if j=k then Q else if k+1≤j then wordOf QQ j else 0) (fun j _=>rfl)
     clear hn
     have hn:=hn1
     clear hn1
     refine hK.out _ _ (⟨HU2.out _ hn.u,HU1.out _ hn.u,HU0.out _ hn.u,HPV.out _ hn.bel⟩) (fun hHeld2=>?_)
     clear hK K hHeld
     rename _=>hHeld
     try simp only [Act.put,stB,stZ,stS]
     refine wpAnyH_done (by kernel_rfl) ?_ _
     (try simp only [Exit.inBlock,Exit.then])
     clear hHeld
     have HNX:=qH hn
     clear hn
     go_wp2_with fail
     go_meet
     exact HNX.out
    case rest =>
     obtain ⟨wC,rfl⟩:∃ wC:World,wC=wc:=⟨_,rfl⟩
     replace HLS:=qH hcut
     have hi3w:IntKind.i64.wrap ((i2:Int)+1)=(i3:Int):=by rw [show (i2:Int)+1=(i3:Int) by have:=HI3.out;omega];exact IntWalk.i64_in _ (by omega)
     clear hcut we1 we0 wl1 wl2 HU2 HU1 HU0 HW1 HW2 HGS
     rcases HCASE.out with ⟨hq1,hq2⟩ | ⟨hq1,hq2⟩
     ·
      have HTK:=qH (fun (W:World) (h:LS w8 g (o,o+(la+1)) (fun j=>wordOf (leftX X V (k+1)) (j - o)) gq Kq (fun j=>if j=k then Q else if k+1≤j then wordOf QQ j else 0) W)=>(show Calls Tryz.prog 217 #[.slice (if cu=k then some ⟨g,o,none⟩ else some ⟨g,o+k,none⟩) (i3 - k) (cu - k),.agg #[.slice va lb vc],UV Q] W (RetT (.bool false) g (o,o+(la+1)) (putF (fun j=>wordOf (leftX X V (k+1)) (j - o)) (o+k) (lb+1) (leftU U (V*Q) lb)) W) from by
       rw [if_neg HCK.out,HI3E.out]
       have h9:=HTK0.out g (o+k) (o,o+(la+1)) (cu - k) _ va vc U W h.u (HVN.out W h.bel) HVG.out HOK.out HLB.out ⟨hcuk,hcuk2⟩ HPLK.out HFW.out Q HQW.out
       rwa [decide_eq_false (Nat.not_lt_of_le hq2)] at h9))
      have HFA:=qH (fun (j:Nat) (hj:(o,o+(la+1)).1≤j∧j<(o,o+(la+1)).2)=>(show wordOf (leftX X V k) (j - o)=putF (fun j=>wordOf (leftX X V (k+1)) (j - o)) (o+k) (lb+1) (leftU U (V*Q) lb) j from (put_place (f0:=wordOf (leftX X V (k+1))) (f1:=wordOf (leftX X V k)) (HPR.out hq1 hq2) j hj.1).symm))
      have HQA:=qH (fun (j:Nat) (_:0≤j∧j<Kq)=>(show (if k≤j then wordOf QQ j else 0)=(if j=k then Q else if k+1≤j then wordOf QQ j else 0) from by
       by_cases e:j=k
       ·
        rw [if_pos e,e,if_pos (Nat.le_refl _),hq1]
       ·
        rw [if_neg e]
        by_cases e2:k≤j
        ·
         rw [if_pos e2,if_pos (by omega)]
        ·
         rw [if_neg e2,if_neg (by omega)]))
      clear hq1 hq2
      go_upto_region 16 with fail
      have hn:=HLS.out.drew
      refine wp_region_held_drew (S:=fun W=>W.cell? ⟨pv,0,none⟩=some (.slice va lb vc)∧W.cell? ⟨gq,k,none⟩=some (UV Q)) (by kernel_rfl) (⟨HPV.out _ hn.bel,HQC.out _ hn.q⟩) (fun hHeld=>?_)
      refine tm 0 (some 114) ?_
      refine tm 1 (some 115) ?_
      refine tm 2 (some 116) ?_
      refine tm 3 (some 117) ?_
      refine tm 4 (some 118) ?_
      refine tm 5 (some 119) ?_
      refine tm 6 (some 120) ?_
      refine tk 7 (some 121) (v:=?_) rfl rfl ?_ ?_
      rotate_left
      ·
       (intro w hSw;(try dsimp only at hSw);((try obtain ⟨hS0,hS1⟩:=hSw);go_simp);(try with_reducible rfl))
      simp only [Act.put,stB,stZ,stS]
      refine tm 8 (some 122) ?_
      refine tm 9 (some 123) ?_
      refine tk 10 (some 124) (v:=?_) rfl rfl ?_ ?_
      rotate_left
      ·
       (intro w hSw;(try dsimp only at hSw);((try obtain ⟨hS0,hS1⟩:=hSw);go_simp);(try with_reducible rfl))
      simp only [Act.put,stB,stZ,stS]
      refine tk 11 (some 125) (v:=?_) rfl rfl ?_ ?_
      rotate_left
      ·
       (intro w hSw;(try dsimp only at hSw);((try obtain ⟨hS0,hS1⟩:=hSw);go_simp);(try with_reducible rfl))
      simp only [Act.put,stB,stZ,stS]
      refine wpAnyH_ready (rs:=[12]) (by kernel_rfl) (by simp) ?_
      refine (AllReadyH.cons rfl (fun K hK=>?_) AllReadyH.nil)
      go_simp
      refine (HTK.out _ hn).mono ?_
      rintro e w9 ⟨rfl,hk9,hu9⟩
      have hn1:=hn.took HGE.out HNE.out hk9 hu9
      clear hn hk9 hu9
      have hn:=hn1
      clear hn1
      go_wp2_with fail
      refine hK.out _ _ (⟨HPV.out _ hn.bel,HQC.out _ hn.q⟩) (fun hHeld2=>?_)
      clear hK K hHeld
      rename _=>hHeld
      try simp only [Act.put,stB,stZ,stS]
      refine wpAnyH_done (by kernel_rfl) ?_ _
      (try simp only [Exit.inBlock,Exit.then])
      clear hHeld
      have HNT:=qH hn
      clear hn
      clear hi3w we2
      go_wp2_with fail
      go_roundw
      case rel=>exact ⟨k,(k:Int) - 1,by omega,rfl,by go_num,HNT.out.with HFA.out HQA.out⟩
      case measure=>(simp [intOf];try omega)
     ·
      obtain ⟨D,hD⟩:∃ D,leftU U (V*Q) lb=D:=⟨_,rfl⟩
      have hDf:D<W64^(lb+1):=by rw [← hD];exact leftU_fit hq2
      have HTK:=qH (fun (W:World) (h:LS w8 g (o,o+(la+1)) (fun j=>wordOf (leftX X V (k+1)) (j - o)) gq Kq (fun j=>if j=k then Q else if k+1≤j then wordOf QQ j else 0) W)=>(show Calls Tryz.prog 217 #[.slice (if cu=k then some ⟨g,o,none⟩ else some ⟨g,o+k,none⟩) (i3 - k) (cu - k),.agg #[.slice va lb vc],UV Q] W (RetT (.bool true) g (o,o+(la+1)) (putF (fun j=>wordOf (leftX X V (k+1)) (j - o)) (o+k) (lb+1) D) W) from by
       rw [if_neg HCK.out,HI3E.out]
       have h9:=HTK0.out g (o+k) (o,o+(la+1)) (cu - k) _ va vc U W h.u (HVN.out W h.bel) HVG.out HOK.out HLB.out ⟨hcuk,hcuk2⟩ HPLK.out HFW.out Q HQW.out
       rwa [decide_eq_true hq2,hD] at h9))
      have HBK:=qH (fun (W:World) (h:LS w8 g (o,o+(la+1)) (putF (fun j=>wordOf (leftX X V (k+1)) (j - o)) (o+k) (lb+1) D) gq Kq (fun j=>if k≤j then wordOf QQ j else 0) W)=>(show Calls Tryz.prog 218 #[.slice (some ⟨g,o+k,none⟩) (i3 - k) (cu - k),.agg #[.slice va lb vc]] W (RetT (.tuple #[]) g (o,o+(la+1)) (putF (putF (fun j=>wordOf (leftX X V (k+1)) (j - o)) (o+k) (lb+1) D) (o+k) (lb+1) (D+V)) W) from by
       rw [HI3E.out]
       exact HBK0.out g (o+k) (o,o+(la+1)) (cu - k) _ va vc D W h.u (HVN.out W h.bel) HVG.out HOK.out HLB.out ⟨hcuk,hcuk2⟩ hDf (fun j hj=>by unfold putF;rw [if_pos ⟨Nat.le_add_right _ _,by omega⟩,Nat.add_sub_cancel_left])))
      have HFA:=qH (fun (j:Nat) (hj:(o,o+(la+1)).1≤j∧j<(o,o+(la+1)).2)=>(show wordOf (leftX X V k) (j - o)=putF (putF (fun j=>wordOf (leftX X V (k+1)) (j - o)) (o+k) (lb+1) D) (o+k) (lb+1) (D+V) j from by
       rw [putF_two,← hD]
       exact (put_place (f0:=wordOf (leftX X V (k+1))) (f1:=wordOf (leftX X V k)) (HPB.out hq1 hq2) j hj.1).symm))
      obtain ⟨Q1,hQ1⟩:∃ Q1,wordOf QQ k=Q1:=⟨_,rfl⟩
      rw [hQ1] at hq1
      have hQ1w:(Q1:Int)<18446744073709551616:=by have:=wordOf_lt QQ k;rw [hQ1] at this;unfold W64 at this;omega
      have hqq:(Q:Int) - 1=(Q1:Int):=by omega
      have HQB:=qH (fun (j:Nat) (_:0≤j∧j<Kq)=>(show (if k≤j then wordOf QQ j else 0)=(if j=k then Q1 else if j=k then Q else if k+1≤j then wordOf QQ j else 0) from by
       by_cases e:j=k
       ·
        rw [if_pos e,e,if_pos (Nat.le_refl _),hQ1]
       ·
        rw [if_neg e,if_neg e]
        by_cases e2:k≤j
        ·
         rw [if_pos e2,if_pos (by omega)]
        ·
         rw [if_neg e2,if_neg (by omega)]))
      have wq:IntKind.u64.wrap (Q1:Int)=(Q1:Int):=by rw [IntKind.wrap_u64];omega
      have HWQ:=qH wq
      have HQQ1:=qH hqq
      clear hq1 hq2 hDf hD hQ1 wq hqq hQ1w
      go_upto_region 16 with fail
      have hn:=HLS.out.drew
      refine wp_region_held_drew (S:=fun W=>W.cell? ⟨pv,0,none⟩=some (.slice va lb vc)∧W.cell? ⟨gq,k,none⟩=some (UV Q)) (by kernel_rfl) (⟨HPV.out _ hn.bel,HQC.out _ hn.q⟩) (fun hHeld=>?_)
      refine tm 0 (some 114) ?_
      refine tm 1 (some 115) ?_
      refine tm 2 (some 116) ?_
      refine tm 3 (some 117) ?_
      refine tm 4 (some 118) ?_
      refine tm 5 (some 119) ?_
      refine tm 6 (some 120) ?_
      refine tk 7 (some 121) (v:=?_) rfl rfl ?_ ?_
      rotate_left
      ·
       (intro w hSw;(try dsimp only at hSw);((try obtain ⟨hS0,hS1⟩:=hSw);go_simp);(try with_reducible rfl))
      simp only [Act.put,stB,stZ,stS]
      refine tm 8 (some 122) ?_
      refine tm 9 (some 123) ?_
      refine tk 10 (some 124) (v:=?_) rfl rfl ?_ ?_
      rotate_left
      ·
       (intro w hSw;(try dsimp only at hSw);((try obtain ⟨hS0,hS1⟩:=hSw);go_simp);(try with_reducible rfl))
      simp only [Act.put,stB,stZ,stS]
      refine tk 11 (some 125) (v:=?_) rfl rfl ?_ ?_
      rotate_left
      ·
       (intro w hSw;(try dsimp only at hSw);((try obtain ⟨hS0,hS1⟩:=hSw);go_simp);(try with_reducible rfl))
      simp only [Act.put,stB,stZ,stS]
      refine wpAnyH_ready (rs:=[12]) (by kernel_rfl) (by simp) ?_
      refine (AllReadyH.cons rfl (fun K hK=>?_) AllReadyH.nil)
      go_simp
      refine (HTK.out _ hn).mono ?_
      rintro e w9 ⟨rfl,hk9,hu9⟩
      have hn1:=hn.took HGE.out HNE.out hk9 hu9
      clear hn hk9 hu9
      have hn:=hn1
      clear hn1
      go_wp2_with fail
      refine hK.out _ _ (⟨HPV.out _ hn.bel,HQC.out _ hn.q⟩) (fun hHeld2=>?_)
      clear hK K hHeld
      rename _=>hHeld
      try simp only [Act.put,stB,stZ,stS]
      refine wpAnyH_done (by kernel_rfl) ?_ _
      (try simp only [Exit.inBlock,Exit.then])
      clear hHeld
      have HNT:=qH hn
      clear hn
      have wq:=HWQ.out
      have hqq:=HQQ1.out
      have kc:=HQC.out _ HNT.out.q
      have kf:=HNT.out.q.free k
      go_upto_region 18 with fail
      clear kc kf
      have hn:=(HNT.out.setQ HGQ.out HNE.out k Q1 (f':=fun j=>if k≤j then wordOf QQ j else 0) (fun j hj=>HQB.out j hj)).drew
      clear hqq wq
      refine wp_region_held_drew (S:=fun W=>W.cell? ⟨pv,0,none⟩=some (.slice va lb vc)) (by kernel_rfl) (HPV.out _ hn.bel) (fun hHeld=>?_)
      refine tm 0 (some 133) ?_
      refine tm 1 (some 134) ?_
      refine tm 2 (some 135) ?_
      refine tm 3 (some 136) ?_
      refine tm 4 (some 137) ?_
      refine tm 5 (some 138) ?_
      refine tm 6 (some 139) ?_
      refine tl 7 (some 140) ?_
      refine wpAnyH_ready (rs:=[8]) (by kernel_rfl) (by simp) ?_
      refine (AllReadyH.cons rfl (fun K hK=>?_) AllReadyH.nil)
      go_simp
      refine (HBK.out _ hn).mono ?_
      rintro e w9 ⟨rfl,hk9,hu9⟩
      have hn1:=hn.took HGE.out HNE.out hk9 hu9
      clear hn hk9 hu9
      have hn:=hn1
      clear hn1
      go_wp2_with fail
      refine hK.out _ _ (HPV.out _ hn.bel) (fun hHeld2=>?_)
      clear hK K hHeld
      rename _=>hHeld
      try simp only [Act.put,stB,stZ,stS]
      refine wpAnyH_done (by kernel_rfl) ?_ _
      (try simp only [Exit.inBlock,Exit.then])
      clear hHeld
      have HNB:=qH hn
      clear hn
      clear hi3w we2
      go_wp2_with fail
      go_roundw
      case rel=>exact ⟨k,(k:Int) - 1,by omega,rfl,by go_num,HNB.out.with HFA.out fun j _=>rfl⟩
      case measure=>(simp [intOf];try omega)
theorem qdivMod_any (a b:Option Addr) (c d m n:Nat) (w:World) (ha:NatW w a c m) (hb:NatW w b d n) (hs:lenW m≤4398046511104) (h0:n≠0):Calls Tryz.prog 200 #[.agg #[.slice a (lenW m) c],.agg #[.slice b (lenW n) d]] w (RetDM (m / n) (m % n) true w):=by
 rcases Nat.lt_or_ge (lenW n) 2 with h1 | h1
 ·
  exact divMod_word a b c d m n w ha hb (by omega) (by omega) h0
 ·
  rcases Nat.lt_or_ge m n with h2 | h2
  ·
   rw [Nat.div_eq_of_lt h2,Nat.mod_eq_of_lt h2];exact divMod_less a b c d m n w ha hb h1 h2
  ·
   exact divMod_long a b c d m n w ha hb h1 h2 hs
theorem div_upto:DivUpto 4398046511104 4398046511104:=fun a b c d m n w ha hb hm _ h0=>qdivMod_any a b c d m n w ha hb hm h0
end Go.Proofs.YtmhainidincjhaaGreatDoor
