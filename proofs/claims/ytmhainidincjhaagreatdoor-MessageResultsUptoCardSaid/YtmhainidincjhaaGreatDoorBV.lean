/-
 What the laws stand on, part V: contracts and plain laws of PRv, NDig, DMem, DBytes, DBuild, NPack, NText, DText, DPut, DParse, DTake, DByWord, DRead, DInt, DRText, DCut, NEx9; the conditions are each law's own.
-/
import Derived.Test.YtmhainidincjhaaGreatDoorBA
import Derived.Test.YtmhainidincjhaaGreatDoorBB
import Derived.Lib.Builder
import Derived.Deep.LoopGhost
import Derived.Test.YtmhainidincjhaaGreatDoorBW
import Derived.IntWalk
import Derived.Deep.QuietTactic
import Derived.BigQuiet
import Derived.OwnWalk
set_option linter.unusedVariables false
set_option linter.unusedSimpArgs false
set_option maxRecDepth 100000
set_option maxHeartbeats 16000000
namespace Go.Proofs.YtmhainidincjhaaGreatDoor
open Go.RowKit
theorem hu {w W:World} {b o:Nat} {v:Value} (hb:Below w.heap.size w W) (h:w.cell? ⟨b,o,none⟩=some v):W.cell? ⟨b,o,none⟩=some v:=(hb.cell (World.block_lt_of_cell? _ _ h)).trans h
theorem mid_under {w w':World} {base:Nat} {e:TypeId} {size:Nat} {v:Value} {n:Nat} {xs:List Value} (hm:Mid w base e size v n xs) (hb:Below w.heap.size w w'):Mid w' base e size v n xs:=hm.below hb fun k hk=>(hm.lt k hk).2
structure Rv where
 s:Bool
 a:Option Addr
 l:Nat
 c:Nat
 b:Option Addr
 m:Nat
 d:Nat
 q:Rat
def Rv.cells (v:Rv):List Value:=[.bool v.s,.slice v.a v.l v.c,.slice v.b v.m v.d]
def Rv.val (v:Rv):Value:=.agg #[.bool v.s,.slice v.a v.l v.c,.slice v.b v.m v.d]
theorem rvCells_len (v:Rv):v.cells.length=3:=rfl
structure Rv.ok (w:World) (v:Rv):Prop where
 s:v.s=decide (v.q.num<0)
 l:v.l=lenW v.q.num.natAbs
 m:v.m=lenW (denN v.q.den)
 num:NatW w v.a v.c v.q.num.natAbs
 den:NatW w v.b v.d (denN v.q.den)
theorem Rv.ok.below {w w':World} {v:Rv} (h:v.ok w) (hb:Below w.heap.size w w'):v.ok w':=⟨h.s,h.l,h.m,h.num.below hb,h.den.below hb⟩
theorem Rv.ok.keeps {w w':World} {v:Rv} {S:Nat→Prop} (h:v.ok w) (hk:Keeps w w' S) (hs:∀ k,S k→¬ WordB w k):v.ok w':=⟨h.s,h.l,h.m,h.num.keeps hk hs,h.den.keeps hk hs⟩
theorem Rv.ok.val {w:World} {v:Rv} (h:v.ok w):v.val=ratV v.a v.c v.b v.d v.q:=by
 unfold Rv.val ratV
 rw [← h.s,← h.l,← h.m]
def Rv.zero:Rv:=⟨false,none,0,0,none,0,0,0⟩
theorem Rv.zero_ok (w:World):Rv.zero.ok w:=⟨rfl,lenW_zero.symm,lenW_zero.symm,NatW.zero w,NatW.zero w⟩
def RvR (q:Rat) (w:World) (e:Ending) (w':World):Prop:=∃ v:Rv,e=.returned v.val∧v.ok w'∧v.q=q∧Below w.heap.size w w'
theorem RvR.of {q:Rat} {w w':World} {e:Ending} (h:RetR q w e w'):RvR q w e w':=by
 obtain ⟨a,c,b,d,he,h1,h2,h3⟩:=h
 exact ⟨⟨decide (q.num<0),a,lenW q.num.natAbs,c,b,lenW (denN q.den),d,q⟩,he,⟨rfl,rfl,rfl,h1,h2⟩,rfl,h3⟩
theorem rv_get {w:World} {a:Option Addr} {c:Nat} {vs:List Rv} (h:Sl w 3 (.slice a vs.length c) vs.length (vs.flatMap Rv.cells)) (k:Nat) (hk:k<vs.length) :
  ∃ b o,a=some ⟨b,o,none⟩∧b<w.heap.size∧w.cell? ⟨b,o+k*3,none⟩=some (.bool vs[k].s)∧w.cell? ⟨b,o+k*3+1,none⟩=some (.slice vs[k].a vs[k].l vs[k].c)∧w.cell? ⟨b,o+k*3+2,none⟩=some (.slice vs[k].b vs[k].m vs[k].d):=by
 obtain ⟨b,o,c',e,h1,h2,h3,h4⟩:=h.plain (by omega)
 cases e
 have hc:=fun j u hj=>h4 _ u (flat_at Rv.cells 3 rvCells_len vs k hk j u hj)
 have c0:=hc 0 _ rfl
 have c1:=hc 1 _ rfl
 have c2:=hc 2 _ rfl
 simp only [← Nat.add_assoc,Nat.add_zero] at c0 c1 c2
 exact ⟨b,o,rfl,h3,c0,c1,c2⟩
theorem Sl.lenI {w:World} {size n:Nat} {a:Option Addr} {c:Nat} {cs:List Value} (h:Sl w size (.slice a n c) n cs):n≤9223372036854775807∧n≤c∧c≤9223372036854775807:=by
 obtain ⟨a',c',e,h1,h2,_⟩:=h.len
 cases e
 unfold maxLen at h2;omega
structure VecW (w:World) (a:Option Addr) (n c:Nat) (vs:List Rv):Prop where
 len:vs.length=n
 sl:Sl w 3 (.slice a n c) n (vs.flatMap Rv.cells)
 ok:∀ v,v∈vs→v.ok w
theorem VecW.below {w w':World} {a:Option Addr} {n c:Nat} {vs:List Rv} (h:VecW w a n c vs) (hb:Below w.heap.size w w'):VecW w' a n c vs:=⟨h.len,h.sl.below hb,fun v hv=>(h.ok v hv).below hb⟩
theorem VecW.get {w:World} {a:Option Addr} {n c:Nat} {vs:List Rv} (h:VecW w a n c vs) (k:Nat) (hk:k<n):∃ b o v,a=some ⟨b,o,none⟩∧vs[k]?=some v∧b<w.heap.size∧w.cell? ⟨b,o+k*3,none⟩=some (.bool v.s)∧w.cell? ⟨b,o+k*3+1,none⟩=some (.slice v.a v.l v.c)∧w.cell? ⟨b,o+k*3+2,none⟩=some (.slice v.b v.m v.d)∧v.ok w:=by
 obtain ⟨hl,hs,ho⟩:=h
 subst hl
 obtain ⟨b,o,e,hb,h0,h1,h2⟩:=rv_get hs k hk
 exact ⟨b,o,vs[k],e,List.getElem?_eq_getElem hk,hb,h0,h1,h2,ho _ (List.getElem_mem hk)⟩
theorem Tryz.infoRat:(Tryz.prog.info? 45).map (fun i=>(i.zero,i.size,i.bytes))=some (some (.agg #[.bool false,.slice none 0 0,.slice none 0 0]),3,56):=by kernel_rfl
def qs (vs:List Rv):List Rat:=vs.map (·.q)
theorem qs_len (vs:List Rv):(qs vs).length=vs.length:=List.length_map _
theorem qs_get {vs:List Rv} {k:Nat} {v:Rv} (h:vs[k]?=some v):(qs vs)[k]?=some v.q:=by unfold qs;rw [List.getElem?_map,h];rfl
theorem noWord_of {w:World} {b:Nat} {cs:Array Value} {ty:TypeId} {o:Nat × Nat} (h:w.heap[b]?=some (.cells cs ty o)) (ht:ty≠164):¬ WordB w b:=fun ⟨cs2,hc⟩=>by
 rw [h] at hc
 injection hc with hc
 injection hc with _ h2
 exact ht h2
theorem set3k (w:World) (z:Nat) (a b c:Value):Keeps w (((w.setCell ⟨z,0,none⟩ a).setCell ⟨z,1,none⟩ b).setCell ⟨z,2,none⟩ c) fun k=>k=z :=
 ((Keeps.setCell _ _ _ (S:=fun k=>k=z) rfl).trans (Keeps.setCell _ _ _ (S:=fun k=>k=z) rfl) fun _ _ h=>h).trans (Keeps.setCell _ _ _ (S:=fun k=>k=z) rfl) fun _ _ h=>h
theorem grown_keeps {w3 w4:World} {ob:Obj} {row:Option Nat} (h:(w3.alloc ob).grownBy w4 row):Keeps w3 w4 fun k=>row=some k :=
 (Keeps.alloc w3 ob (fun k=>row=some k)).trans (Keeps.of_grown h (S:=fun k=>row=some k) fun b h=>h) fun _ _ h=>h
theorem Mid.noWord {w:World} {base:Nat} {e:TypeId} {size n:Nat} {v:Value} {xs:List Value} (h:Mid w base e size v n xs) (he:e≠164) (k:Nat) (hk:v.ownBlock=some k):¬ WordB w k:=by
 rcases h.2 with ⟨rfl,_⟩ | ⟨g,o,cap,cur,rfl,hb,hg,_⟩
 ·
  cases hk
 ·
  cases hk
  exact noWord_of hg he
structure VB (w0:World) (l:List Rat) (a:Option Addr) (n c:Nat) (vs:List Rv) (W:World):Prop where
 mid:Mid W w0.heap.size 45 3 (.slice a n c) n (vs.flatMap Rv.cells)
 len:vs.length=n
 ok:∀ v,v∈vs→v.ok W
 q:qs vs=l
 bel:Below w0.heap.size w0 W
section
variable {w0 W W' : World} {l : List Rat} {a : Option Addr} {n c : Nat} {vs : List Rv}
theorem VB.nil (w0:World):VB w0 [] none 0 0 [] w0:=⟨by simpa using Mid.nil w0 w0.heap.size 45 3,rfl,fun _ h=>(by cases h),rfl,Below.refl _ _⟩
theorem VB.call (h:VB w0 l a n c vs W) (hb:Below W.heap.size W W'):VB w0 l a n c vs W':=⟨mid_under h.mid hb,h.len,fun v hv=>(h.ok v hv).below hb,h.q,bthen h.bel hb⟩
theorem VB.grown (h:VB w0 l a n c vs W) {ob:Obj} (hg:(W.alloc ob).grownBy W' (Value.slice a n c).ownBlock):(∀ v:Rv,v.ok W→v.ok W')∧Below w0.heap.size w0 W' :=
 ⟨fun v hv=>hv.keeps (grown_keeps hg) fun k hk=>h.mid.noWord (by decide) k hk,(h.bel.alloc h.bel.size ob).grown hg (by have:=h.bel.size;simp;omega) fun k hk=>(h.mid.lt k hk).1⟩
theorem VB.push (h:VB w0 l a n c vs W) {ob:Obj} {v:Rv} {a':Option Addr} {c':Nat} (hv:v.ok W) (hm:Mid W' w0.heap.size 45 3 (.slice a' (n+1) c') (n+1) (vs.flatMap Rv.cells++v.cells)) (hg:(W.alloc ob).grownBy W' (Value.slice a n c).ownBlock):VB w0 (l++[v.q]) a' (n+1) c' (vs++[v]) W':=by
 obtain ⟨h1,h2⟩:=h.grown hg
 refine ⟨by rw [List.flatMap_append];simpa using hm,by rw [List.length_append,h.len];rfl,fun u hu=>?_,?_,h2⟩
 ·
  rcases List.mem_append.1 hu with hu | hu
  ·
   exact h1 u (h.ok u hu)
  ·
   rw [List.mem_singleton.1 hu];exact h1 v hv
 ·
  unfold qs
  rw [List.map_append,← h.q];rfl
end
end Go.Proofs.YtmhainidincjhaaGreatDoor
namespace Go.Proofs.YtmhainidincjhaaGreatDoor
def undig (B:Nat) (l:List Nat):Nat:=l.foldl (fun a d=>a*B+d) 0
def ndig (B n:Nat):Nat:=if h:n=0∨B<2 then 0 else ndig B (n / B)+1
termination_by n
decreasing_by exact Nat.div_lt_self (by omega) (by omega)
def dig (B n:Nat):List Nat:=(List.range (ndig B n)).map fun j=>n / B^(ndig B n - 1 - j) % B
theorem undig_snoc (B:Nat) (l:List Nat) (d:Nat):undig B (l++[d])=undig B l*B+d:=by simp [undig,List.foldl_append]
theorem undig_from (B:Nat) (m:List Nat) (a:Nat):m.foldl (fun a d=>a*B+d) a=a*B^m.length+undig B m:=by
 induction m generalizing a with
 | nil=>simp [undig]
 | cons d m ih => 
  unfold undig
  rw [List.foldl_cons,List.foldl_cons,ih,ih (0*B+d),List.length_cons,Nat.pow_succ]
  grind
theorem undig_append (B:Nat) (l m:List Nat):undig B (l++m)=undig B l*B^m.length+undig B m:=by
 unfold undig
 rw [List.foldl_append,undig_from];rfl
theorem undig_cons (B d:Nat) (m:List Nat):undig B (d::m)=d*B^m.length+undig B m:=by
 rw [show d::m=[d]++m from rfl,undig_append];simp [undig]
theorem undig_lt {B:Nat} (l:List Nat) (h:∀ x∈l,x<B):undig B l<B^l.length:=by
 induction l with
 | nil=>simp [undig]
 | cons d m ih =>
  rw [undig_cons,List.length_cons,Nat.pow_succ]
  have h1:=ih fun x hx=>h x (List.mem_cons_of_mem _ hx)
  have h2:=h d List.mem_cons_self
  have h3:(d+1)*B^m.length≤B*B^m.length:=Nat.mul_le_mul_right _ h2
  rw [Nat.add_mul] at h3
  rw [Nat.mul_comm (B^m.length) B]
  omega
theorem ndig_zero (B:Nat):ndig B 0=0:=by rw [ndig];simp
theorem ndig_pos {B n:Nat} (hB:2≤B) (h:n≠0):ndig B n=ndig B (n / B)+1:=by rw [ndig,dif_neg (by omega)]
theorem lt_ndig {B:Nat} (hB:2≤B) (n:Nat):n<B^ndig B n:=by
 induction n using Nat.strongRecOn with
 | ind n ih =>
  by_cases h:n=0
  ·
   subst h;exact Nat.pow_pos (by omega)
  ·
   rw [ndig_pos hB h,Nat.pow_succ]
   exact (Nat.div_lt_iff_lt_mul (by omega)).1 (ih (n / B) (Nat.div_lt_self (by omega) (by omega)))
theorem ndig_le {B:Nat} (hB:2≤B) {n:Nat} (h:n≠0):B^(ndig B n - 1)≤n:=by
 induction n using Nat.strongRecOn with
 | ind n ih =>
  rw [ndig_pos hB h,Nat.add_sub_cancel]
  by_cases h1:n / B=0
  ·
   rw [h1,ndig_zero];simp;omega
  ·
   have h2:=ih (n / B) (Nat.div_lt_self (by omega) (by omega)) h1
   have h3:ndig B (n / B)=ndig B (n / B) - 1+1:=by rw [ndig_pos hB h1];omega
   rw [h3,Nat.pow_succ]
   exact (Nat.le_div_iff_mul_le (by omega)).1 h2
theorem ndig_of {B:Nat} (hB:2≤B) {n k:Nat} (h1:B^k≤n) (h2:n<B^(k+1)):ndig B n=k+1:=by
 have h0:n≠0:=fun e=>by have:=Nat.pow_pos (n:=k) (show 0<B by omega);omega
 have h3:=lt_ndig hB n
 have h4:=ndig_le hB h0
 have h5:k<ndig B n:=(Nat.pow_lt_pow_iff_right (by omega)).1 (Nat.lt_of_le_of_lt h1 h3)
 have h6:ndig B n - 1<k+1:=(Nat.pow_lt_pow_iff_right (by omega)).1 (Nat.lt_of_le_of_lt h4 h2)
 omega
theorem ndig_lt {B:Nat} (hB:2≤B) {n k:Nat} (h:n<B^k):ndig B n≤k:=by
 by_cases h0:n=0
 ·
  subst h0;rw [ndig_zero];omega
 ·
  have:=(Nat.pow_lt_pow_iff_right (show 1<B by omega)).1 (Nat.lt_of_le_of_lt (ndig_le hB h0) h)
  omega
theorem dig_len (B n:Nat):(dig B n).length=ndig B n:=by simp [dig]
theorem dig_at {B n j:Nat} (h:j<ndig B n):(dig B n)[j]?=some (n / B^(ndig B n - 1 - j) % B):=by
 unfold dig;rw [List.getElem?_map,List.getElem?_range h];rfl
theorem dig_lt {B:Nat} (hB:2≤B) (n:Nat):∀ x∈dig B n,x<B:=fun x hx=>by
 obtain ⟨j,_,rfl⟩:=List.mem_map.1 hx
 exact Nat.mod_lt _ (by omega)
theorem dig_zero (B:Nat):dig B 0=[]:=by unfold dig;rw [ndig_zero];rfl
theorem dig_step {B n:Nat} (hB:2≤B) (h:n≠0):dig B n=dig B (n / B)++[n % B]:=by
 unfold dig
 rw [ndig_pos hB h,List.range_succ,List.map_append]
 congr 1
 ·
  apply List.map_congr_left
  intro j hj
  have hj:=List.mem_range.1 hj
  rw [show ndig B (n / B)+1 - 1 - j=(ndig B (n / B) - 1 - j)+1 by omega,Nat.pow_succ,Nat.mul_comm,Nat.div_div_eq_div_mul]
 ·
  simp
theorem undig_dig {B:Nat} (hB:2≤B) (n:Nat):undig B (dig B n)=n:=by
 induction n using Nat.strongRecOn with
 | ind n ih =>
  by_cases h:n=0
  ·
   subst h;rw [dig_zero];rfl
  ·
   rw [dig_step hB h,undig_snoc,ih _ (Nat.div_lt_self (by omega) (by omega))]
   exact Nat.div_add_mod' n B
theorem dig_undig {B:Nat} (hB:2≤B) (l:List Nat) (h:∀ x∈l,x<B) (h0:∀ x,l.head?=some x→x≠0):dig B (undig B l)=l:=by
 induction hl:l.length generalizing l with
 | zero=>rw [List.length_eq_zero_iff.1 hl];exact dig_zero B
 | succ k ih =>
  have hne:l≠[]:=fun e=>by rw [e] at hl;simp at hl
  obtain ⟨m,d,rfl⟩:∃ m d,l=m++[d]:=⟨l.dropLast,l.getLast hne,(List.dropLast_concat_getLast hne).symm⟩
  have hd:d<B:=h d (by simp)
  have hm:dig B (undig B m)=m:=by
   refine ih m (fun x hx=>h x (by simp [hx])) ?_ (by simpa using hl)
   intro x hx
   cases m with
   | nil=>cases hx
   | cons y m=>exact h0 x (by simpa using hx)
  have hn:undig B (m++[d])≠0:=by
   rw [undig_snoc]
   cases m with
   | nil=>have:=h0 d rfl;omega
   | cons y m =>
    have h1:=h0 y rfl
    intro e
    have h2:undig B (y::m)*B=0:=by omega
    have h3:undig B (y::m)=0:=by
     rcases Nat.mul_eq_zero.1 h2 with h | h <;> omega
    rw [undig_cons] at h3
    have h4:0<B^m.length:=Nat.pow_pos (by omega)
    have:=Nat.mul_pos (show 0<y by omega) h4
    omega
  rw [dig_step hB hn,undig_snoc,show (undig B m*B+d) / B=undig B m by rw [Nat.mul_comm,Nat.mul_add_div (by omega),Nat.div_eq_of_lt hd,Nat.add_zero],hm,show (undig B m*B+d) % B=d by rw [Nat.mul_comm,Nat.mul_add_mod,Nat.mod_eq_of_lt hd]]
theorem dig_head {B:Nat} (hB:2≤B) (n:Nat):∀ x,(dig B n).head?=some x→x≠0:=fun x hx=>by
 by_cases h:n=0
 ·
  subst h;rw [dig_zero] at hx;cases hx
 ·
  have h1:0<ndig B n:=by rw [ndig_pos hB h];omega
  rw [List.head?_eq_getElem?,dig_at h1] at hx
  injection hx with hx
  have h2:=ndig_le hB h
  have h3:=lt_ndig hB n
  rw [Nat.sub_zero] at hx
  have h4:n / B^(ndig B n - 1)<B:=by
   rw [Nat.div_lt_iff_lt_mul (Nat.pow_pos (by omega)),Nat.mul_comm,← Nat.pow_succ,show (ndig B n - 1).succ=ndig B n by omega]
   exact h3
  rw [Nat.mod_eq_of_lt h4] at hx
  have h5:1≤n / B^(ndig B n - 1):=(Nat.le_div_iff_mul_le (Nat.pow_pos (by omega))).2 (by omega)
  omega
theorem undig_at {B:Nat} (l:List Nat) (h:∀ x∈l,x<B) {k:Nat} (hk:k<l.length):l[l.length - 1 - k]?=some (undig B l / B^k % B):=by
 have hi:l.length - 1 - k<l.length:=by omega
 have hs:l=l.take (l.length - 1 - k)++l[l.length - 1 - k]::l.drop (l.length - 1 - k+1):=by
  have h1:=List.drop_eq_getElem_cons hi
  rw [← h1,List.take_append_drop]
 have hx:l[l.length - 1 - k]<B:=h _ (List.getElem_mem hi)
 have hd:undig B (l.drop (l.length - 1 - k+1))<B^k:=by
  have:=undig_lt (B:=B) (l.drop (l.length - 1 - k+1)) (fun x hx=>h x (List.mem_of_mem_drop hx))
  rw [List.length_drop,show l.length - (l.length - 1 - k+1)=k by omega] at this
  exact this
 have hl:(l.drop (l.length - 1 - k+1)).length=k:=by rw [List.length_drop];omega
 have hv:undig B l=(undig B (l.take (l.length - 1 - k))*B+l[l.length - 1 - k])*B^k+undig B (l.drop (l.length - 1 - k+1)):=by
  conv=>lhs;rw [hs]
  rw [undig_append,undig_cons,List.length_cons,hl,Nat.pow_succ]
  grind
 rw [List.getElem?_eq_getElem hi,hv]
 congr 1
 have hp:0<B^k:=Nat.pow_pos (by omega)
 rw [Nat.mul_comm _ (B^k),Nat.mul_add_div hp,Nat.div_eq_of_lt hd,Nat.add_zero,Nat.mul_comm _ B,Nat.mul_add_mod,Nat.mod_eq_of_lt hx]
theorem size_dig (n:Nat):(bitLen n+7) / 8=ndig 256 n:=by
 by_cases h:n=0
 ·
  subst h;rw [ndig_zero];rfl
 ·
  have h1:=bitLen_lt n
  have h2:=bitLen_ge h
  have h3:0<bitLen n:=by
   rcases Nat.eq_zero_or_pos (bitLen n) with e | e
   ·
    rw [e] at h1;simp at h1;omega
   ·
    exact e
  have h4:(bitLen n+7) / 8=(bitLen n - 1) / 8+1:=by omega
  rw [h4,ndig_of (B:=256) (by omega) (k:=(bitLen n - 1) / 8)]
  ·
   rw [show (256:Nat)=2^8 from rfl,← Nat.pow_mul]
   exact Nat.le_trans (Nat.pow_le_pow_right (by omega) (by omega)) h2
  ·
   rw [show (256:Nat)=2^8 from rfl,← Nat.pow_mul]
   exact Nat.lt_of_lt_of_le h1 (Nat.pow_le_pow_right (by omega) (by omega))
theorem byte_word (n k:Nat):wordOf n (k / 8) / 2^(8*(k % 8)) % 256=n / 256^k % 256:=by
 unfold wordOf
 have h1:(W64:Nat)=2^(8*(k % 8))*2^(64 - 8*(k % 8)):=by
  rw [← Nat.pow_add,show 8*(k % 8)+(64 - 8*(k % 8))=64 by omega]
 have h2:(256:Nat)∣2^(64 - 8*(k % 8)):=⟨2^(64 - 8*(k % 8) - 8),by rw [show (256:Nat)=2^8 from rfl,← Nat.pow_add];congr 1;omega⟩
 rw [show n / W64^(k / 8) % W64 / 2^(8*(k % 8))=n / W64^(k / 8) / 2^(8*(k % 8)) % 2^(64 - 8*(k % 8)) by
  generalize n / W64^(k / 8)=z
  rw [h1,Nat.mod_mul_right_div_self],Nat.mod_mod_of_dvd _ h2,Nat.div_div_eq_div_mul,W64_pow,← Nat.pow_add,show (256:Nat)^k=2^(8*k) by rw [show (256:Nat)=2^8 from rfl,← Nat.pow_mul]]
 congr 3
 omega
theorem byte_lay (v k j:Nat):wordOf (v % 256^(k+1)) j=if j=k / 8 then wordOf (v % 256^k) j+v / 256^k % 256*2^(8*(k % 8)) else wordOf (v % 256^k) j:=by
 have hp:(256:Nat)^k=W64^(k / 8)*2^(8*(k % 8)):=by
  rw [W64_pow,← Nat.pow_add,show (256:Nat)^k=2^(8*k) by rw [show (256:Nat)=2^8 from rfl,← Nat.pow_mul]]
  congr 1;omega
 have hs:v % 256^(k+1)=v % 256^k+v / 256^k % 256*2^(8*(k % 8))*W64^(k / 8):=by
  rw [Nat.pow_succ,Nat.mod_mul,hp];grind
 have hd:v / 256^k % 256<256:=Nat.mod_lt _ (by omega)
 have hl:v % 256^k<256^k:=Nat.mod_lt _ (Nat.pow_pos (by omega))
 rw [hs]
 generalize v / 256^k % 256=d at *
 generalize v % 256^k=x at *
 have hdw:d*2^(8*(k % 8))+2^(8*(k % 8))≤W64:=by
  have h1:(d+1)*2^(8*(k % 8))≤256*2^(8*(k % 8)):=Nat.mul_le_mul_right _ hd
  have h2:256*2^(8*(k % 8))≤W64:=by
   rw [show (256:Nat)=2^8 from rfl,← Nat.pow_add]
   exact Nat.le_trans (Nat.pow_le_pow_right (by omega) (show 8+8*(k % 8)≤64 by omega)) (by unfold W64;omega)
  rw [Nat.add_mul] at h1;omega
 have hx:x / W64^(k / 8)<2^(8*(k % 8)):=Nat.div_lt_of_lt_mul (by rwa [← hp])
 unfold wordOf
 by_cases h1:j=k / 8
 ·
  rw [if_pos h1,h1,Nat.add_mul_div_right _ _ (W64_pos _)]
  rw [Nat.mod_eq_of_lt (a:=x / W64^(k / 8)) (by omega),Nat.mod_eq_of_lt (by omega)]
 ·
  rw [if_neg h1]
  by_cases h2:j<k / 8
  ·
   obtain ⟨i,hi⟩:∃ i,k / 8=j+1+i:=⟨k / 8 - j - 1,by omega⟩
   rw [hi,Nat.pow_add,Nat.pow_succ,show d*2^(8*(k % 8))*(W64^j*W64*W64^i)=d*2^(8*(k % 8))*W64^i*W64*W64^j by grind,Nat.add_mul_div_right _ _ (W64_pos _),Nat.add_mul_mod_self_right]
  ·
   have h3:k / 8+1≤j:=by omega
   have hb:∀ y,y<W64^(k / 8+1)→y / W64^j=0:=fun y hy=>Nat.div_eq_of_lt (Nat.lt_of_lt_of_le hy (pow_mono h3))
   rw [hb,hb]
   ·
    rw [Nat.pow_succ]
    have h4:x<W64^(k / 8)*2^(8*(k % 8)):=by rwa [← hp]
    have h5:2^(8*(k % 8))≤W64:=by omega
    exact Nat.lt_of_lt_of_le h4 (Nat.mul_le_mul_left _ h5)
   ·
    rw [Nat.pow_succ]
    have h4:x<W64^(k / 8)*2^(8*(k % 8)):=by rwa [← hp]
    have h6:d*2^(8*(k % 8))*W64^(k / 8)+2^(8*(k % 8))*W64^(k / 8)≤W64*W64^(k / 8):=by
     rw [← Nat.add_mul];exact Nat.mul_le_mul_right _ hdw
    rw [Nat.mul_comm (W64^(k / 8)) (2^(8*(k % 8)))] at h4
    rw [Nat.mul_comm (W64^(k / 8)) W64]
    omega
theorem byte_or (v k:Nat):wordOf (v % 256^k) (k / 8) ||| v / 256^k % 256*2^(8*(k % 8))=wordOf (v % 256^(k+1)) (k / 8):=by
 rw [byte_lay,if_pos rfl,Nat.or_comm,Nat.add_comm]
 have hp:(256:Nat)^k=W64^(k / 8)*2^(8*(k % 8)):=by
  rw [W64_pow,← Nat.pow_add,show (256:Nat)^k=2^(8*k) by rw [show (256:Nat)=2^8 from rfl,← Nat.pow_mul]]
  congr 1;omega
 have hx:v % 256^k / W64^(k / 8)<2^(8*(k % 8)):=Nat.div_lt_of_lt_mul (by rw [← hp];exact Nat.mod_lt _ (Nat.pow_pos (by omega)))
 have hw:wordOf (v % 256^k) (k / 8)<2^(8*(k % 8)):=Nat.lt_of_le_of_lt (Nat.mod_le _ _) hx
 rw [← Nat.shiftLeft_eq,Nat.shiftLeft_add_eq_or_of_lt hw]
end Go.Proofs.YtmhainidincjhaaGreatDoor
namespace Go.Proofs.YtmhainidincjhaaGreatDoor
open Go.RowKit
abbrev BN (x:Nat):Value:=.int .u8 x
def BytesN (w:World) (v:Value) (l:List Nat):Prop:=Sl w 1 v l.length (l.map BN)
theorem one_BN (l:List Nat):∀ u∈l.map BN,u.oneCell'=true:=fun u hu=>by
 obtain ⟨_,_,rfl⟩:=List.mem_map.1 hu;rfl
theorem BytesN.below {w w':World} {v:Value} {l:List Nat} (h:BytesN w v l) (hb:Below w.heap.size w w'):BytesN w' v l:=Sl.below h hb
theorem Sl.sub1 {w:World} {a:Option Addr} {n c:Nat} {cs:List Value} (h:Sl w 1 (.slice a n c) n cs) (l k:Nat) (hl:l≤k) (hk:k≤n) :
  Sl w 1 (.slice (if c=l then a else a.map (·.add l)) (k - l) (c - l)) (k - l) ((cs.take k).drop l):=by
 have hlen:=h.1
 refine ⟨by rw [List.length_drop,List.length_take];omega,?_⟩
 obtain ⟨a',c',e,hnc,hcm,h0⟩:=h.len
 cases e
 by_cases hkl:k=l
 ·
  refine .inl ⟨_,_,rfl,by omega,by omega,fun ha=>?_⟩
  split at ha
  ·
   omega
  ·
   have:a=none:=by simpa using ha
   have:=h0 this
   omega
 ·
  obtain ⟨b,o,c'',e,_,_,hlt,hc⟩:=h.plain (by omega)
  cases e
  rw [if_neg (by omega)]
  refine .inr ⟨b,o+l,c - l,by rw [Option.map_some,Addr.add_lit],by omega,by omega,hlt,fun j u hj=>?_⟩
  rw [List.getElem?_drop,List.getElem?_take] at hj
  split at hj
  ·
   have:=hc (l+j) u hj
   rwa [← Nat.add_assoc] at this
  ·
   cases hj
theorem BytesN.get {w:World} {a:Option Addr} {n c:Nat} {l:List Nat} (h:BytesN w (.slice a n c) l) (k:Nat) {x:Nat} (hk:l[k]?=some x) :
  ∃ b o,a=some ⟨b,o,none⟩∧b<w.heap.size∧w.cell? ⟨b,o+k,none⟩=some (.int .u8 x):=by
 have h1:k<l.length:=(List.getElem?_eq_some_iff.1 hk).1
 obtain ⟨b,o,c',e,_,_,hlt,hc⟩:=Sl.plain h (by omega)
 cases e
 exact ⟨b,o,rfl,hlt,hc k _ (by rw [List.getElem?_map,hk];rfl)⟩
theorem BytesN.len {w:World} {a:Option Addr} {n c:Nat} {l:List Nat} (h:BytesN w (.slice a n c) l):n=l.length∧n≤c∧c≤9223372036854775807∧(a=none→c=0):=by
 obtain ⟨a',c',e,h1,h2,h3⟩:=Sl.len h
 cases e
 exact ⟨rfl,h1,by unfold maxLen at h2;omega,h3⟩
theorem BytesN.sub {w:World} {a:Option Addr} {n c:Nat} {bs:List Nat} (h:BytesN w (.slice a n c) bs) (l k:Nat) (hl:l≤k) (hk:k≤n) :
  BytesN w (.slice (if c=l then a else a.map (·.add l)) (k - l) (c - l)) ((bs.take k).drop l):=by
 have hn:=h.len.1
 subst hn
 have h1:=Sl.sub1 h l k hl hk
 unfold BytesN
 rw [List.length_drop,List.length_take,Nat.min_eq_left hk,List.map_drop,List.map_take]
 exact h1
structure YS (W0:World) (g:Nat) (xs:List Nat) (W:World):Prop where
 blk:W.heap[g]?=some (.cells (xs.map BN).toArray 5 (0,0))
 bel:Below W0.heap.size W0 W
 new:W0.heap.size≤g
section
variable {W0 W W' : World} {g : Nat} {xs : List Nat}
theorem YS.made (W0:World) (xs:List Nat):YS W0 W0.heap.size xs (W0.alloc (.cells (xs.map BN).toArray 5)):=⟨heap_alloc_new _ _,belowBox _ _,Nat.le_refl _⟩
theorem YS.lt (h:YS W0 g xs W):g<W.heap.size:=(Array.getElem?_eq_some_iff.1 h.blk).1
theorem YS.below (h:YS W0 g xs W) (hb:Below W.heap.size W W'):YS W0 g xs W':=⟨(hb.block g h.lt).trans h.blk,bthen h.bel hb,h.new⟩
theorem YS.drewN (h:YS W0 g xs W) (k:Nat):YS W0 g xs (W.drewN k):=⟨h.blk,belowDrawn h.bel _,h.new⟩
theorem YS.cell (h:YS W0 g xs W) {j:Nat} (hj:j<xs.length):W.cell? ⟨g,j,none⟩=some (BN xs[j]):=by
 simp only [World.cell?,h.blk,Option.isSome_none,Bool.false_eq_true,if_false]
 simp [List.getElem?_eq_getElem hj]
theorem YS.free (h:YS W0 g xs W) (j:Nat):W.frozen? ⟨g,j,none⟩=false:=by simp [World.frozen?,h.blk]
theorem YS.set (h:YS W0 g xs W) (j x:Nat):YS W0 g (xs.set j x) (W.setCell ⟨g,j,none⟩ (BN x)) :=
 ⟨by rw [heap_setCell_same W g j _ _ _ h.blk];simp [List.map_set],h.bel.setCell h.new _,h.new⟩
theorem YS.sl (h:YS W0 g xs W) (hm:xs.length≤maxLen):Sl W 1 (.slice (some ⟨g,0,none⟩) xs.length xs.length) xs.length (xs.map BN):=by
 refine ⟨by simp,.inr ⟨g,0,xs.length,rfl,Nat.le_refl _,hm,h.lt,fun j u hj=>?_⟩⟩
 rw [List.getElem?_map] at hj
 obtain ⟨x,hx,rfl⟩:=Option.map_eq_some_iff.1 hj
 obtain ⟨hl,rfl⟩:=List.getElem?_eq_some_iff.1 hx
 rw [Nat.zero_add]
 exact h.cell hl
theorem YS.old (h:YS W0 g xs W) {b o:Nat} {v:Value} (hc:W0.cell? ⟨b,o,none⟩=some v):W.cell? ⟨b,o,none⟩=some v :=
 (h.bel.cell (p:=⟨b,o,none⟩) (World.block_lt_of_cell? _ _ hc)).trans hc
theorem YS.oldFree (h:YS W0 g xs W) {b o:Nat} (hb:b<W0.heap.size) (hc:W0.frozen? ⟨b,o,none⟩=false):W.frozen? ⟨b,o,none⟩=false :=
 (h.bel.frozen (p:=⟨b,o,none⟩) hb).trans hc
theorem YS.nat (h:YS W0 g xs W) {a:Option Addr} {c n:Nat} (hn:NatW W0 a c n):NatW W a c n:=hn.below h.bel
end
section
variable {W0 W : World} {g : Nat} {xs : List Nat}
theorem YS.cell0 {W0 W:World} {g M:Nat} {f:Nat→Nat} (h:YS W0 g (fnL M f) W) {t:Nat} (ht:t<M):W.cell? ⟨g,t,none⟩=some (BN (f t)):=by
 rw [h.cell (show t<(fnL M f).length by rw [fnL_len];exact ht),fnL_get]
theorem YS.bytes (h:YS W0 g xs W) (hm:xs.length≤maxLen):BytesN W (.slice (some ⟨g,0,none⟩) xs.length xs.length) xs:=h.sl hm
theorem YS.mid (h:YS W0 g xs W) (hm:xs.length≤maxLen):Mid W W0.heap.size 5 1 (.slice (some ⟨g,0,none⟩) xs.length xs.length) xs.length (xs.map BN):=by
 refine ⟨by simp,.inr ⟨g,0,xs.length,_,rfl,h.new,h.blk,Nat.le_refl _,hm,by simp,by simp [List.take_of_length_le]⟩⟩
end
theorem madeB (m:Nat):madeCells (Value.cells (.int .u8 0)) m=((List.replicate m 0).map BN).toArray:=by
 apply Array.ext'
 apply List.ext_getElem
 ·
  simp [size_madeCells]
 ·
  intro i h1 h2
  simp [madeCells,Value.cells,Nat.mod_one]
def zeroB (n:Nat):Array Value:=((List.replicate n 0).map BN).toArray
theorem Tryz.info_bytes:(Tryz.prog.info? 5).map (fun i=>(i.zero,i.size,i.bytes))=some (some (.int .u8 0),1,1):=by kernel_rfl
theorem make_bytes (k:Int) (K:Nat) (hk:k=K) (hb:K≤140737488355328) (W:World):(Instr.makeSlice 32 (.int .i64 k) (.int .i64 k)).run Tryz.prog W=.ok (.slice (some ⟨W.heap.size,0,none⟩) K K) (W.alloc (.cells (zeroB K) 5)):=by
 subst hk
 obtain ⟨ti,hi,hz0,hz1,hz2⟩:=info_parts Tryz.info_bytes
 have:=run_make (P:=Tryz.prog) W 32 5 ti _ Tryz.underlying32 hi hz0 .i64 .i64 (K:Int) (K:Int) (by omega) (by omega) (by rw [hz2];omega) (by omega)
 rw [Int.toNat_natCast,hz1,Nat.mul_one,madeB] at this
 exact this
theorem ndig_words {n K:Nat} (h:lenW n≤K):ndig 256 n≤8*K:=by
 refine ndig_lt (by omega) (Nat.lt_of_lt_of_le (lt_pow_of h) ?_)
 rw [W64_pow,show (256:Nat)=2^8 from rfl,← Nat.pow_mul]
 exact Nat.pow_le_pow_right (by omega) (by omega)
theorem size_any (a:Option Addr) (c n:Nat) (w:World) (ha:NatW w a c n) (hs:lenW n≤1099511627776):Calls Tryz.prog 80 #[.agg #[.slice a (lenW n) c]] w fun e w'=>e=.returned (.int .i64 (ndig 256 n))∧Below w.heap.size w w':=by
 have HB:=qH (fun W (h:NatW W a c n)=>nbits_any a c n W h (by omega))
 have hq:((bitLen n:Int)+7).tdiv 8=(ndig 256 n:Int):=by
  rw [← size_dig,Int.tdiv_eq_ediv_of_nonneg (by omega)];omega
 have hbl:=bits_le n
 have hb2:bitLen n≤70368744177664:=by omega
 have hb3:ndig 256 n≤8796093022208:=by have:=ndig_words hs;omega
 have HA:=qH (ha.alloc (.cells #[.slice a (lenW n) c] 41))
 clear ha hbl hs
 go_enter Tryz.func80,Tryz.ntmps80
 go_wp2_with fail
 refine (HB.out _ HA.out).mono ?_
 rintro e w1 ⟨rfl,hb⟩
 go_wp2_with fail
 go_ret
 exact ⟨rfl,(belowBox _ _).trans (hb.mono (by simp))⟩
def bytF (n M k j:Nat):Nat:=if M - k≤j then n / 256^(M - 1 - j) % 256 else 0
theorem bytF_all (n:Nat):fnL (ndig 256 n) (bytF n (ndig 256 n) (ndig 256 n))=dig 256 n:=by
 unfold fnL dig
 apply List.map_congr_left
 intro j _
 unfold bytF
 rw [if_pos (by omega)]
theorem bytF_zero (n M:Nat):fnL M (bytF n M 0)=List.replicate M 0:=by
 rw [← fnL_zero]
 exact fnL_congr fun j hj=>by unfold bytF;rw [if_neg (by omega),wordOf_zero]
theorem bytes_any (a:Option Addr) (c n:Nat) (w:World) (ha:NatW w a c n) (hs:lenW n≤1099511627776):Calls Tryz.prog 140 #[.agg #[.slice a (lenW n) c]] w (OwnR w 5 1 (ndig 256 n) ((dig 256 n).map BN)):=by
 have hSz:=fun W (h:NatW W a c n)=>size_any a c n W h hs
 have hWd:=fun W k (h:NatW W a c n) hk=>word_any a c n k W h hk
 have hM8:=ndig_words hs
 have hall:=bytF_all n
 have hbs:=((BS.begin [⟨a,c,n⟩] (fun y hy=>by rw [List.mem_singleton.1 hy];exact ha)).alloc (p:=w.heap.size) rfl 41 [.slice a (lenW n) c] rfl)
 obtain ⟨M,hM⟩:∃ M,ndig 256 n=M:=⟨_,rfl⟩
 obtain ⟨L,hL⟩:∃ L,lenW n=L:=⟨_,rfl⟩
 rw [hM] at hSz hM8 hall ⊢
 rw [hL] at hSz hWd hbs ⊢
 have HSz:=qH hSz
 have HWd:=qH hWd
 have HBS:=qH hbs
 have HALL:=qH hall
 have hmk:=make_bytes (M:Int) M rfl (by omega)
 have hM9:M≤8796093022208:=by omega
 clear ha hSz hWd hbs hM hL hall hs hM8
 go_enter Tryz.func140,Tryz.ntmps140
 go_wp2_with fail
 refine (HSz.out _ (HBS.out.nat 0 rfl)).mono ?_
 rintro e w1 ⟨rfl,hb1⟩
 have HN1:=qH (HBS.out.call hb1)
 clear hb1
 have HMADE:=qH (YS.made w1 (List.replicate M 0))
 have HKS:=qH (fun (xs:List Nat) (W:World) (h:YS w1 w1.heap.size xs W)=>(h.old (HN1.out.cell 0 0 rfl rfl):W.cell? ⟨w.heap.size,0,none⟩=some (.slice a L c)))
 have HA:=qH (HN1.out.nat 0 rfl)
 go_wp2_with fail
 go_loopw [11] (fun v11 wr=>∃ k:Nat,k≤M∧v11=.int .i64 k∧YS w1 w1.heap.size (fnL M (bytF n M k)) wr) (fun v11 _=>M - (intOf v11).toNat)
 case atStart=>exact ⟨0,Nat.zero_le _,rfl,by rw [bytF_zero];exact HMADE.out⟩
 case round =>
  obtain ⟨k,hkM,rfl,hns⟩:=hrel
  by_cases hlt:k<M
  ·
   have hdiv:(k:Int).tdiv 8=((k / 8:Nat):Int):=by rw [Int.tdiv_eq_ediv_of_nonneg (by omega)];omega
   have hmod:(k:Int).tmod 8=((k % 8:Nat):Int):=by rw [Int.tmod_eq_emod_of_nonneg (by omega)];omega
   have hm8:k % 8≤7:=by omega
   have hd8:k / 8≤8796093022208:=by omega
   have i0:(0:Int)≤(M:Int) - 1 - (k:Int):=by omega
   have i1:(M:Int) - 1 - (k:Int)<(M:Int):=by omega
   have k0:=HKS.out _ _ hns
   have HWi:=qH (fun (W:World) (h:YS w1 w1.heap.size (fnL M (bytF n M k)) W)=>(HWd.out W (k / 8) (HA.out.below h.bel) (by omega)).mono fun e w' (h1:_∧_)=>(⟨h1.1,h.below h1.2⟩:e=.returned (UV (wordOf n (k / 8)))∧YS w1 w1.heap.size (fnL M (bytF n M k)) w'))
   have HNS:=qH hns
   clear hns
   go_wp2_with fail
   refine (HWi.out _ HNS.out).mono ?_
   rintro e w3 ⟨rfl,hn3⟩
   have hc:=hn3.cell0 (show M - 1 - k<M by omega)
   have hf:=hn3.free (M - 1 - k)
   have HN3:=qH hn3
   clear hn3 k0
   go_wp2_with fail
   go_roundw
   case rel =>
    refine ⟨k+1,by omega,by go_num,?_⟩
    have e:=fnL_set (v:=n / 256^k % 256) (f:=bytF n M k) (g:=bytF n M (k+1)) (show M - 1 - k<M by omega) (by unfold bytF;rw [if_pos (by omega),show M - 1 - (M - 1 - k)=k by omega]) (fun j _ hj=>by
     unfold bytF
     by_cases h1:M - k≤j
     ·
      rw [if_pos h1,if_pos (by omega)]
     ·
      rw [if_neg h1,if_neg (by omega)])
    rw [← e,show ((wordOf n (k / 8):Nat):Int) / 2^(8*(k % 8)) % 256=((n / 256^k % 256:Nat):Int) by rw [← byte_word];push_cast;rfl]
    exact HN3.out.set _ _
   case measure=>simp [intOf];omega
  ·
   obtain rfl:k=M:=by omega
   have hlen:=fnL_len k (bytF n k k)
   have hsl:=hns.mid (by rw [hlen];unfold maxLen;omega)
   rw [hlen] at hsl
   have HSL:=qH hsl
   have HBL:=qH hns.bel
   clear hns hsl
   go_wp2_with fail
   go_ret
   refine ⟨_,_,rfl,?_,?_⟩
   ·
    rw [← HALL.out];exact HSL.out.mono HN1.out.bel.size
   ·
    exact bthen HN1.out.bel HBL.out
abbrev IsB (B b:Nat) (bs:List Nat) (w:World):Prop:=Lib.IsBuilder 250 5 B b (bs.map BN) w
theorem IsB.fresh (w:World):IsB w.heap.size w.heap.size [] (w.alloc (.cells #[.pointer none,.slice none 0 0] 250)) :=
 .inl ⟨Nat.le_refl _,.slice none 0 0,heap_alloc_new _ _,⟨by simp,.inl ⟨rfl,rfl⟩⟩,by simp [Value.ownBlock]⟩
theorem IsB.lt {B b:Nat} {bs:List Nat} {w:World} (h:IsB B b bs w):B≤b∧b<w.heap.size:=by
 rcases h with ⟨h0,v,hv,_⟩ | ⟨h0,v,hv,_⟩ <;> exact ⟨h0,lt_of_block hv⟩
theorem IsB.below {B b:Nat} {bs:List Nat} {w w':World} (h:IsB B b bs w) (hb:Below w.heap.size w w'):IsB B b bs w':=by
 have key:∀ p,Lib.BuilderAt 250 5 B b p (bs.map BN) w→Lib.BuilderAt 250 5 B b p (bs.map BN) w':=fun p ⟨h0,v,hv,ho,hn⟩=>by
  refine ⟨h0,v,(hb.block b (lt_of_block hv)).trans hv,⟨ho.1,?_⟩,hn⟩
  rcases ho.2 with h1 | ⟨g,cap,cur,h1,h2,h3,h4⟩
  ·
   exact .inl h1
  ·
   exact .inr ⟨g,cap,cur,h1,h2,(hb.block g (lt_of_block h3)).trans h3,h4⟩
 exact h.imp (key _) (key _)
end Go.Proofs.YtmhainidincjhaaGreatDoor
namespace Go.Proofs.YtmhainidincjhaaGreatDoor
structure Flt where
 n:Int
 at?:Option (List Nat × Int)
def sDiv:List Nat:=[100,105,118,105,115,111,114]
def sNum:List Nat:=[110,117,109,98,101,114]
def partB (n:Nat):Option (List Nat):=if 255<ndig 256 n then none else some (ndig 256 n::dig 256 n)
def tagR (q:Rat):Nat:=if q=0 then 0 else (if q.den=1 then 1 else 3)+(if q.num<0 then 1 else 0)
def encR (q:Rat):Except Flt (List Nat) :=
 if q=0 then .ok [0]
 else match (if q.den=1 then some [] else partB q.den) with
  | none=>.error ⟨3,some (sDiv,ndig 256 q.den)⟩
  | some d=>match partB q.num.natAbs with
   | none=>.error ⟨3,some (sNum,ndig 256 q.num.natAbs)⟩
   | some p=>.ok (tagR q::(d++p))
def takeB (b:List Nat):Except Int (Nat × List Nat) :=
 match b with
 | []=>.error 90
 | n::r=>if r.length<n then .error 90 else if (r.take n).head?=some 0∨undig 256 (r.take n)=0 then .error 91 else .ok (undig 256 (r.take n),r.drop n)
def sgnI (t p:Nat):Int:=if t % 2=0 then -(p:Int) else (p:Int)
def decR (b:List Nat):Except Flt (Rat × Nat) :=
 match b with
 | []=>.error ⟨90,none⟩
 | t::r=>if t=0 then .ok (0,1) else if 4<t then .error ⟨91,none⟩ else
  match (if 3≤t then takeB r else .ok (1,r)) with
  | .error e=>.error ⟨e,some (sDiv,1)⟩
  | .ok (d,r2)=>match takeB r2 with
   | .error e=>.error ⟨e,some (sNum,(((t::r).length - r2.length:Nat):Int))⟩
   | .ok (p,r3)=>if tagR (Rat.divInt (sgnI t p) d)=t∧(Rat.divInt (sgnI t p) d).den=d then .ok (Rat.divInt (sgnI t p) d,(t::r).length - r3.length) else .error ⟨91,none⟩
theorem take_part {n:Nat} (h0:n≠0) {l:List Nat} (h:partB n=some l) (more:List Nat):takeB (l++more)=.ok (n,more):=by
 unfold partB at h
 split at h
 ·
  cases h
 ·
  injection h with h
  subst h
  have hl:=dig_len 256 n
  have ht:(dig 256 n++more).take (ndig 256 n)=dig 256 n:=by rw [← hl,List.take_left]
  have hd:(dig 256 n++more).drop (ndig 256 n)=more:=by rw [← hl,List.drop_left]
  unfold takeB
  simp only [List.cons_append]
  rw [if_neg (by rw [List.length_append,hl];omega),ht,hd,undig_dig (by omega),if_neg]
  rintro (h | h)
  ·
   exact dig_head (by omega) n 0 h rfl
  ·
   exact h0 h
theorem part_take {b:List Nat} (hb:∀ x∈b,x<256) {n:Nat} {r:List Nat} (h:takeB b=.ok (n,r)):n≠0∧∃ l,partB n=some l∧b=l++r∧1≤l.length:=by
 cases b with
 | nil=>cases h
 | cons k b =>
  unfold takeB at h
  simp only at h
  split at h
  ·
   cases h
  ·
   split at h
   ·
    cases h
   ·
    rename_i h1 h2
    injection h with h
    injection h with h3 h4
    have hk:k<256:=hb k List.mem_cons_self
    have hlt:(b.take k).length=k:=by rw [List.length_take];omega
    have hx:=dig_undig (B:=256) (by omega) (b.take k) (fun x hx=>hb x (List.mem_cons_of_mem _ (List.mem_of_mem_take hx))) (fun x hx e=>h2 (.inl (by rw [hx,e])))
    rw [h3] at hx
    have hn:ndig 256 n=k:=by rw [← dig_len,hx,hlt]
    refine ⟨fun e=>h2 (.inr (by rw [h3,e])),_,by unfold partB;rw [if_neg (by omega)],?_,by simp⟩
    rw [hn,hx,← h4,List.cons_append,List.take_append_drop]
theorem part_len {n:Nat} {l:List Nat} (h:partB n=some l):l.length=ndig 256 n+1∧ndig 256 n≤255:=by
 unfold partB at h
 split at h
 ·
  cases h
 ·
  injection h with h;subst h;exact ⟨by rw [List.length_cons,dig_len],by omega⟩
theorem part_lt {n:Nat} {l:List Nat} (h:partB n=some l):∀ x∈l,x<256:=by
 unfold partB at h
 split at h
 ·
  cases h
 ·
  injection h with h;subst h
  intro x hx
  rcases List.mem_cons.1 hx with rfl | hx
  ·
   omega
  ·
   exact dig_lt (by omega) n x hx
theorem tagR_zero:tagR 0=0:=by unfold tagR;rw [if_pos rfl]
theorem tagR_ne {q:Rat} (h:q≠0):tagR q=(if q.den=1 then 1 else 3)+(if q.num<0 then 1 else 0):=by unfold tagR;rw [if_neg h]
theorem tagR_facts {q:Rat} (h:q≠0):1≤tagR q∧tagR q≤4∧(3≤tagR q↔q.den≠1)∧(tagR q % 2=0↔q.num<0):=by
 rw [tagR_ne h]
 split <;> split <;> simp_all
theorem sgn_back {q:Rat} (h:q≠0):Rat.divInt (sgnI (tagR q) q.num.natAbs) q.den=q:=by
 have h1:=(tagR_facts h).2.2.2
 have:sgnI (tagR q) q.num.natAbs=q.num:=by
  unfold sgnI
  split
  ·
   rename_i h2;have:=h1.1 h2;omega
  ·
   rename_i h2
   have:¬ q.num<0:=fun h3=>h2 (h1.2 h3)
   omega
 rw [this]
 exact Rat.num_divInt_den q
theorem dec_enc {q:Rat} {l:List Nat} (h:encR q=.ok l) (more:List Nat):decR (l++more)=.ok (q,l.length):=by
 unfold encR at h
 split at h
 ·
  rename_i h0;subst h0;injection h with h;subst h;rfl
 ·
  rename_i h0
  split at h
  ·
   cases h
  ·
   rename_i d hd
   split at h
   ·
    cases h
   ·
    rename_i p hp
    injection h with h
    subst h
    obtain ⟨f1,f2,f3,f4⟩:=tagR_facts h0
    have hn0:q.num.natAbs≠0:=fun e=>h0 (Rat.num_eq_zero.1 (by omega))
    have hb:decR (tagR q::(d++p)++more)=decR (tagR q::(d++(p++more))):=by rw [List.cons_append,List.append_assoc]
    have hd2:(if 3≤tagR q then takeB (d++(p++more)) else .ok (1,d++(p++more)))=.ok (q.den,p++more):=by
     by_cases h1:q.den=1
     ·
      rw [if_pos h1] at hd
      injection hd with hd
      rw [if_neg (fun h2=>f3.1 h2 h1),← hd,h1];rfl
     ·
      rw [if_neg h1] at hd
      rw [if_pos (f3.2 h1)]
      exact take_part q.den_nz hd _
    rw [hb]
    unfold decR
    simp only
    rw [if_neg (by omega),if_neg (by omega),hd2]
    simp only
    rw [take_part hn0 hp]
    simp only
    rw [sgn_back h0,if_pos ⟨rfl,rfl⟩]
    congr 2
    simp only [List.length_cons,List.length_append]
    omega
theorem enc_lt {q:Rat} {l:List Nat} (h:encR q=.ok l):(∀ x∈l,x<256)∧1≤l.length:=by
 unfold encR at h
 split at h
 ·
  injection h with h;subst h;exact ⟨fun x hx=>by rw [List.mem_singleton.1 hx];omega,by simp⟩
 ·
  rename_i h0
  split at h
  ·
   cases h
  ·
   rename_i d hd
   split at h
   ·
    cases h
   ·
    rename_i p hp
    injection h with h
    subst h
    refine ⟨fun x hx=>?_,by simp⟩
    rcases List.mem_cons.1 hx with rfl | hx
    ·
     have:=tagR_facts h0;omega
    ·
     rcases List.mem_append.1 hx with hx | hx
     ·
      by_cases h1:q.den=1
      ·
       rw [if_pos h1] at hd;injection hd with hd;subst hd;cases hx
      ·
       rw [if_neg h1] at hd;exact part_lt hd x hx
     ·
      exact part_lt hp x hx
theorem enc_dec {b:List Nat} (hb:∀ x∈b,x<256) {q:Rat} {n:Nat} (h:decR b=.ok (q,n)):encR q=.ok (b.take n)∧1≤n∧n≤b.length:=by
 cases b with
 | nil=>cases h
 | cons t r =>
  unfold decR at h
  simp only at h
  have hr:∀ x∈r,x<256:=fun x hx=>hb x (List.mem_cons_of_mem _ hx)
  split at h
  ·
   rename_i h0
   injection h with h
   injection h with h1 h2
   subst h1 h2 h0
   exact ⟨by unfold encR;rw [if_pos rfl];rfl,by omega,by simp⟩
  ·
   rename_i ht0
   split at h
   ·
    cases h
   ·
    rename_i ht4
    split at h
    ·
     cases h
    ·
     rename_i d r2 hd
     split at h
     ·
      cases h
     ·
      rename_i p r3 hp
      split at h
      ·
       rename_i hq
       injection h with h
       injection h with h1 h2
       rw [h1] at hq
       obtain ⟨hq1,hq2⟩:=hq
       have hne:q≠0:=fun e=>by rw [e,tagR_zero] at hq1;exact ht0 hq1.symm
       have f:=tagR_facts hne
       rw [hq1] at f
       have hdd:∃ dl,(if q.den=1 then some [] else partB q.den)=some dl∧r=dl++r2:=by
        by_cases h3:3≤t
        ·
         rw [if_pos h3] at hd
         obtain ⟨_,l,hl,hr2,_⟩:=part_take hr hd
         exact ⟨l,by rw [if_neg (f.2.2.1.1 h3),hq2];exact hl,hr2⟩
        ·
         rw [if_neg h3] at hd
         injection hd with hd
         injection hd with hd1 hd2
         exact ⟨[],by rw [if_pos (by omega)],hd2.symm▸rfl⟩
       obtain ⟨dl,hdl,hr2⟩:=hdd
       have hr2':∀ x∈r2,x<256:=fun x hx=>hr x (by rw [hr2];exact List.mem_append_right _ hx)
       obtain ⟨hp0,pl,hpl,hr3,hpl1⟩:=part_take hr2' hp
       have hnum:q.num.natAbs=p:=by
        have hsg:Rat.divInt (sgnI t p) q.den=Rat.divInt q.num q.den:=by rw [Rat.num_divInt_den,hq2,h1]
        have hdn:(q.den:Int)≠0:=by have:=q.den_nz;omega
        have h5:sgnI t p=q.num:=by
         have h6:=(Rat.divInt_eq_divInt_iff hdn hdn).1 hsg
         exact Int.eq_of_mul_eq_mul_right hdn h6
        rw [← h5]
        unfold sgnI
        split <;> omega
       have hlen:(t::r).length - r3.length=(dl++pl).length+1:=by
        rw [hr2,hr3];simp only [List.length_cons,List.length_append];omega
       rw [hlen] at h2
       refine ⟨?_,by omega,?_⟩
       ·
        unfold encR
        rw [if_neg hne,hdl]
        simp only
        rw [hnum,hpl]
        simp only
        rw [hq1,← h2,List.take_succ_cons,hr2,hr3,← List.append_assoc,List.take_left]
       ·
        rw [← h2,hr2,hr3];simp only [List.length_cons,List.length_append];omega
      ·
       cases h
theorem take_length {b:List Nat} {n:Nat} {r:List Nat} (h:takeB b=.ok (n,r)):r.length<b.length:=by
 cases b with
 | nil=>cases h
 | cons k b =>
  unfold takeB at h
  simp only at h
  split at h
  ·
   cases h
  ·
   split at h
   ·
    cases h
   ·
    injection h with h
    injection h with h1 h2
    rw [← h2,List.length_drop,List.length_cons];omega
theorem enc_size (q:Rat):(255<ndig 256 q.num.natAbs∨(q.den≠1∧255<ndig 256 q.den)→∃ f,encR q=.error f∧f.n=3)∧(¬ (255<ndig 256 q.num.natAbs∨(q.den≠1∧255<ndig 256 q.den))→∃ l,encR q=.ok l∧l.length=if q=0 then 1 else if q.den=1 then 2+ndig 256 q.num.natAbs else 3+ndig 256 q.num.natAbs+ndig 256 q.den):=by
 unfold encR
 by_cases h0:q=0
 ·
  subst h0
  rw [if_pos rfl]
  refine ⟨fun h=>?_,fun _=>⟨[0],rfl,rfl⟩⟩
  rcases h with h | ⟨h,_⟩
  ·
   rw [show (0:Rat).num.natAbs=0 from rfl,ndig_zero] at h;omega
  ·
   exact absurd rfl h
 ·
  rw [if_neg h0]
  by_cases h1:q.den=1
  ·
   rw [if_pos h1]
   simp only
   by_cases h2:255<ndig 256 q.num.natAbs
   ·
    rw [show partB q.num.natAbs=none by unfold partB;rw [if_pos h2]]
    exact ⟨fun _=>⟨_,rfl,rfl⟩,fun h=>absurd (Or.inl h2) h⟩
   ·
    rw [show partB q.num.natAbs=some (ndig 256 q.num.natAbs::dig 256 q.num.natAbs) by unfold partB;rw [if_neg h2]]
    refine ⟨fun h=>?_,fun _=>⟨_,rfl,?_⟩⟩
    ·
     rcases h with h | ⟨h,_⟩
     ·
      exact absurd h h2
     ·
      exact absurd h1 h
    ·
     rw [if_neg h0,if_pos h1]
     simp only [List.length_cons,List.length_append,List.length_nil,dig_len];omega
  ·
   rw [if_neg h1]
   by_cases h3:255<ndig 256 q.den
   ·
    rw [show partB q.den=none by unfold partB;rw [if_pos h3]]
    exact ⟨fun _=>⟨_,rfl,rfl⟩,fun h=>absurd (Or.inr ⟨h1,h3⟩) h⟩
   ·
    rw [show partB q.den=some (ndig 256 q.den::dig 256 q.den) by unfold partB;rw [if_neg h3]]
    simp only
    by_cases h2:255<ndig 256 q.num.natAbs
    ·
     rw [show partB q.num.natAbs=none by unfold partB;rw [if_pos h2]]
     exact ⟨fun _=>⟨_,rfl,rfl⟩,fun h=>absurd (Or.inl h2) h⟩
    ·
     rw [show partB q.num.natAbs=some (ndig 256 q.num.natAbs::dig 256 q.num.natAbs) by unfold partB;rw [if_neg h2]]
     refine ⟨fun h=>?_,fun _=>⟨_,rfl,?_⟩⟩
     ·
      rcases h with h | ⟨_,h⟩
      ·
       exact absurd h h2
      ·
       exact absurd h h3
     ·
      rw [if_neg h0,if_neg h1]
      simp only [List.length_cons,List.length_append,dig_len];omega
end Go.Proofs.YtmhainidincjhaaGreatDoor
namespace Go.Proofs.YtmhainidincjhaaGreatDoor
open Go.RowKit
def strB (l:List Nat):ByteArray:=⟨(l.map UInt8.ofNat).toArray⟩
theorem BS.keeps {w W W':World} {bs:List Bk} {ns:List Nm} {S:Nat→Prop} (h:BS w bs ns W) (hk:Keeps W W' S) (h1:∀ k,S k→w.heap.size≤k) (h2:∀ k,S k→∀ b,b∈bs→b.p≠k) (h3:∀ k,S k→¬ WordB W k):BS w bs ns W' :=
 ⟨h.bel.trans (hk.below h.bel.size h1),fun b hb=>⟨(hk.block b.p (lt_of_block (h.box b hb).1) fun hs=>h2 _ hs b hb rfl).trans (h.box b hb).1,(h.box b hb).2⟩,h.nod,fun x hx=>(h.num x hx).keeps hk h3⟩
structure YB (w:World) (bs:List Bk) (ns:List Nm) (a:Option Addr) (n c:Nat) (xs:List Nat) (W:World):Prop where
 st:BS w bs ns W
 mid:Mid W w.heap.size 5 1 (.slice a n c) n (xs.map BN)
 nod:∀ k,(Value.slice a n c).ownBlock=some k→∀ b,b∈bs→b.p≠k
section
variable {w W W' : World} {bs : List Bk} {ns : List Nm} {a : Option Addr} {n c : Nat} {xs : List Nat}
theorem YB.start (h:BS w bs ns W):YB w bs ns none 0 0 [] W:=⟨h,Mid.nil _ _ _ _,fun k hk=>by cases hk⟩
theorem YB.call (h:YB w bs ns a n c xs W) (hb:Below W.heap.size W W'):YB w bs ns a n c xs W':=⟨h.st.call hb,mid_under h.mid hb,h.nod⟩
theorem YB.got (h:YB w bs ns a n c xs W) {a2:Option Addr} {c2 m:Nat} (hn:NatW W a2 c2 m):YB w bs (ns++[⟨a2,c2,m⟩]) a n c xs W:=⟨h.st.got hn,h.mid,h.nod⟩
theorem YB.alloc (h:YB w bs ns a n c xs W) {p:Nat} (hp:W.heap.size=p) (T:TypeId) (cs:List Value) {o:Obj} (ho:o=.cells cs.toArray T (0,0)):YB w (bs++[⟨p,T,cs⟩]) ns a n c xs (W.alloc o) :=
 ⟨h.st.alloc hp T cs ho,h.mid.alloc _,fun k hk b hb=>by
  rcases List.mem_append.1 hb with hb | hb
  ·
   exact h.nod k hk b hb
  ·
   rw [List.mem_singleton.1 hb]
   have:=(h.mid.lt k hk).2
   simp only;omega⟩
theorem YB.set (h:YB w bs ns a n c xs W) (i j:Nat) {b:Bk} {u0:Value} (hi:bs[i]?=some b) (hj:b.cs[j]?=some u0) (h0:∀ x,u0≠.int .u64 x) (v:Value):YB w (bs.set i ⟨b.p,b.T,b.cs.set j v⟩) ns a n c xs (W.setCell ⟨b.p,j,none⟩ v) :=
 ⟨h.st.set i j hi hj h0 v,h.mid.setCell v fun e=>h.nod b.p e b (List.mem_of_getElem? hi) rfl,fun k hk b2 hb2=>by
  rcases List.mem_or_eq_of_mem_set hb2 with hb2 | rfl
  ·
   exact h.nod k hk b2 hb2
  ·
   exact h.nod k hk b (List.mem_of_getElem? hi)⟩
theorem YB.only (h:YB w bs ns a n c xs W) {bs':List Bk} {ns':List Nm} (hb:bs'.Sublist bs) (hn:∀ x,x∈ns'→x∈ns):YB w bs' ns' a n c xs W:=⟨h.st.only hb hn,h.mid,fun k hk b hb2=>h.nod k hk b (hb.subset hb2)⟩
theorem YB.push (h:YB w bs ns a n c xs W) {ob:Obj} {a':Option Addr} {c':Nat} {ys:List Nat} {m:Nat} (hm:Mid W' w.heap.size 5 1 (.slice a' (n+m) c') (n+m) (xs.map BN++ys.map BN)) (hg:(W.alloc ob).grownBy W' (Value.slice a n c).ownBlock) (hb:(Value.slice a' (n+m) c').ownBlock=(Value.slice a n c).ownBlock∨(Value.slice a' (n+m) c').ownBlock=some (W.alloc ob).heap.size):YB w bs ns a' (n+m) c' (xs++ys) W':=by
 refine ⟨h.st.keeps (grown_keeps hg) (fun k hk=>(h.mid.lt k hk).1) (fun k hk=>h.nod k hk) (fun k hk=>h.mid.noWord (by decide) k hk),by rw [List.map_append];exact hm,fun k hk b hbb=>?_⟩
 rcases hb with e | e
 ·
  exact h.nod k (by rw [← e];exact hk) b hbb
 ·
  rw [hk] at e
  injection e with e
  have:=lt_of_block (h.st.box b hbb).1
  simp at e
  omega
theorem YB.len (h:YB w bs ns a n c xs W):xs.length=n:=by simpa using h.mid.1
theorem YB.bytes (h:YB w bs ns a n c xs W):BytesN W (.slice a n c) xs:=by
 have:=Sl.ofMid h.mid
 unfold BytesN
 rw [h.len];exact this
end
end Go.Proofs.YtmhainidincjhaaGreatDoor
namespace Go.Proofs.YtmhainidincjhaaGreatDoor
open Go.RowKit Go.Extern.Stop Go.Stop Go.Extern
theorem signZ_neg {z:Int} (h:z<0):signZ z=-1:=by unfold signZ;rw [if_pos h]
theorem signZ_pos {z:Int} (h:¬ z<0) (h0:z≠0):signZ z=1:=by unfold signZ;rw [if_neg h,if_neg h0]
theorem isint_any (a b:Option Addr) (c d:Nat) (q:Rat) (w:World):Calls Tryz.prog 49 #[ratV a c b d q] w fun e w'=>e=.returned (.bool (decide (q.den=1)))∧Below w.heap.size w w':=by
 have HC:=qH (fun (W:World)=>(show Calls Tryz.prog 69 #[.agg #[.slice b (lenW (denN q.den)) d]] W _ from nzero_any b d (denN q.den) W))
 rw [show decide (q.den=1)=decide (denN q.den=0) from decide_eq_decide.2 (denN_zero q).symm]
 obtain ⟨bb,hbb⟩:∃ bb,decide (denN q.den=0)=bb:=⟨_,rfl⟩
 rw [hbb] at HC ⊢
 clear hbb
 unfold ratV
 obtain ⟨sg,hsg⟩:∃ z,decide (q.num<0)=z:=⟨_,rfl⟩
 obtain ⟨lm,hlm⟩:∃ z,lenW q.num.natAbs=z:=⟨_,rfl⟩
 obtain ⟨ld,hld⟩:∃ z,lenW (denN q.den)=z:=⟨_,rfl⟩
 rw [hsg,hlm,hld]
 rw [hld] at HC
 clear hsg hlm hld
 go_enter Tryz.func49,Tryz.ntmps49
 go_wp2_with fail
 refine (HC.out _).mono ?_
 rintro e w1 ⟨rfl,hb⟩
 have HB:=qH (bthen (belowBox w (.cells #[.bool sg,.slice a lm c,.slice b ld d] 45)) hb)
 clear hb
 go_wp2_with fail
 go_ret
 exact ⟨rfl,HB.out⟩
theorem rsign_any (a b:Option Addr) (c d:Nat) (q:Rat) (w:World):Calls Tryz.prog 139 #[ratV a c b d q] w fun e w'=>e=.returned (.int .i64 (signZ q.num))∧Below w.heap.size w w':=by
 have HC:=qH (fun (W:World)=>(show Calls Tryz.prog 109 #[.agg #[.bool (decide (q.num<0)),.slice a (lenW q.num.natAbs) c]] W _ from isign_any q.num a c W))
 obtain ⟨zz,hzz⟩:∃ zz,signZ q.num=zz:=⟨_,rfl⟩
 rw [hzz] at HC ⊢
 clear hzz
 unfold ratV
 obtain ⟨sg,hsg⟩:∃ z,decide (q.num<0)=z:=⟨_,rfl⟩
 obtain ⟨lm,hlm⟩:∃ z,lenW q.num.natAbs=z:=⟨_,rfl⟩
 obtain ⟨ld,hld⟩:∃ z,lenW (denN q.den)=z:=⟨_,rfl⟩
 rw [hsg,hlm,hld]
 rw [hsg,hlm] at HC
 clear hsg hlm hld
 go_enter Tryz.func139,Tryz.ntmps139
 go_wp2_with fail
 refine (HC.out _).mono ?_
 rintro e w1 ⟨rfl,hb⟩
 have HB:=qH (bthen (belowBox w (.cells #[.bool sg,.slice a lm c,.slice b ld d] 45)) hb)
 clear hb
 go_wp2_with fail
 go_ret
 exact ⟨rfl,HB.out⟩
theorem num_any (a b:Option Addr) (c d:Nat) (q:Rat) (w:World):Calls Tryz.prog 45 #[ratV a c b d q] w fun e w'=>e=.returned (.agg #[.bool (decide (q.num<0)),.slice a (lenW q.num.natAbs) c])∧Below w.heap.size w w':=by
 unfold ratV
 obtain ⟨sg,hsg⟩:∃ z,decide (q.num<0)=z:=⟨_,rfl⟩
 obtain ⟨lm,hlm⟩:∃ z,lenW q.num.natAbs=z:=⟨_,rfl⟩
 obtain ⟨ld,hld⟩:∃ z,lenW (denN q.den)=z:=⟨_,rfl⟩
 rw [hsg,hlm,hld]
 clear hsg hlm hld
 go_enter Tryz.func45,Tryz.ntmps45
 go_wp2
 refine bodyPost_ret (v:=.agg #[.bool sg,.slice a lm c]) (by simp [results,Tryz.results45,go_sem]) rfl ?_
 exact ⟨rfl,bthen (belowBox w _) (belowBox _ _)⟩
theorem tag_zero (a b:Option Addr) (c d:Nat) (q:Rat) (w:World) (h0:q=0):Calls Tryz.prog 77 #[ratV a c b d q] w fun e w'=>e=.returned (.int .u8 0)∧Below w.heap.size w w':=by
 have hZ:=fun W=>rzero_any a b c d (lenW (denN q.den)) q W
 have hI:=fun W=>isint_any a b c d q W
 have hS:=fun W=>rsign_any a b c d q W
 rw [decide_eq_true h0] at hZ
 unfold ratV at hI hS ⊢
 obtain ⟨sg,hsg⟩:∃ z,decide (q.num<0)=z:=⟨_,rfl⟩
 obtain ⟨lm,hlm⟩:∃ z,lenW q.num.natAbs=z:=⟨_,rfl⟩
 obtain ⟨ld,hld⟩:∃ z,lenW (denN q.den)=z:=⟨_,rfl⟩
 rw [hsg,hlm,hld] at hZ hI hS ⊢
 obtain ⟨w1,hw1⟩:∃ w1,w.alloc (.cells #[.bool sg,.slice a lm c,.slice b ld d] 45)=w1:=⟨_,rfl⟩
 have hbx:=(belowBox w (.cells #[.bool sg,.slice a lm c,.slice b ld d] 45))
 have hbk:=heap_alloc_new w (.cells #[.bool sg,.slice a lm c,.slice b ld d] 45)
 rw [hw1] at hbx hbk
 have HW1:=qH hw1
 have HZ:=qH hZ
 have HI:=qH hI
 have HS:=qH hS
 have HB:=qH hbx
 have HK:=qH (fun (W:World) (hb:Below w1.heap.size w1 W)=>(hb.block w.heap.size (lt_of_block hbk)).trans hbk)
 have k0:=cell_of_block (j:=0) hbk rfl
 have k1:=cell_of_block (j:=1) hbk rfl
 have k2:=cell_of_block (j:=2) hbk rfl
 clear hw1 hZ hI hS hsg hlm hld hbx hbk
 go_enter Tryz.func77,Tryz.ntmps77
 go_upto_region 1 with fail
 (try simp only [HW1.out])
 go_wp2_with fail
 refine (HZ.out w1).mono ?_
 rintro e w2 ⟨rfl,hb2⟩
 have HB2:=qH hb2
 clear hb2 k0 k1 k2
 go_wp2_with fail
 go_ret
 exact ⟨rfl,bthen HB.out HB2.out⟩
theorem tag_t1 (a b:Option Addr) (c d:Nat) (q:Rat) (w:World) (h0:q≠0) (h1:q.den=1) (h2:¬ q.num<0):Calls Tryz.prog 77 #[ratV a c b d q] w fun e w'=>e=.returned (.int .u8 1)∧Below w.heap.size w w':=by
 have hZ:=fun W=>rzero_any a b c d (lenW (denN q.den)) q W
 have hI:=fun W=>isint_any a b c d q W
 have hS:=fun W=>rsign_any a b c d q W
 rw [decide_eq_false h0] at hZ
 rw [decide_eq_true h1] at hI
 rw [signZ_pos h2 (fun e=>h0 (Rat.num_eq_zero.1 e))] at hS
 unfold ratV at hI hS ⊢
 obtain ⟨sg,hsg⟩:∃ z,decide (q.num<0)=z:=⟨_,rfl⟩
 obtain ⟨lm,hlm⟩:∃ z,lenW q.num.natAbs=z:=⟨_,rfl⟩
 obtain ⟨ld,hld⟩:∃ z,lenW (denN q.den)=z:=⟨_,rfl⟩
 rw [hsg,hlm,hld] at hZ hI hS ⊢
 obtain ⟨w1,hw1⟩:∃ w1,w.alloc (.cells #[.bool sg,.slice a lm c,.slice b ld d] 45)=w1:=⟨_,rfl⟩
 have hbx:=(belowBox w (.cells #[.bool sg,.slice a lm c,.slice b ld d] 45))
 have hbk:=heap_alloc_new w (.cells #[.bool sg,.slice a lm c,.slice b ld d] 45)
 rw [hw1] at hbx hbk
 have HW1:=qH hw1
 have HZ:=qH hZ
 have HI:=qH hI
 have HS:=qH hS
 have HB:=qH hbx
 have HK:=qH (fun (W:World) (hb:Below w1.heap.size w1 W)=>(hb.block w.heap.size (lt_of_block hbk)).trans hbk)
 have k0:=cell_of_block (j:=0) hbk rfl
 have k1:=cell_of_block (j:=1) hbk rfl
 have k2:=cell_of_block (j:=2) hbk rfl
 clear hw1 hZ hI hS hsg hlm hld hbx hbk
 go_enter Tryz.func77,Tryz.ntmps77
 go_upto_region 1 with fail
 (try simp only [HW1.out])
 go_wp2_with fail
 refine (HZ.out w1).mono ?_
 rintro e w2 ⟨rfl,hb2⟩
 have HB2:=qH hb2
 clear hb2 k0 k1 k2
 have k0:=cell_of_block (j:=0) (HK.out w2 HB2.out) rfl
 have k1:=cell_of_block (j:=1) (HK.out w2 HB2.out) rfl
 have k2:=cell_of_block (j:=2) (HK.out w2 HB2.out) rfl
 go_wp2_with fail
 refine (HI.out w2).mono ?_
 rintro e w3 ⟨rfl,hb3⟩
 have HB3:=qH (bthen HB2.out hb3)
 clear hb3 k0 k1 k2
 have k0:=cell_of_block (j:=0) (HK.out w3 HB3.out) rfl
 have k1:=cell_of_block (j:=1) (HK.out w3 HB3.out) rfl
 have k2:=cell_of_block (j:=2) (HK.out w3 HB3.out) rfl
 go_wp2_with fail
 refine (HS.out w3).mono ?_
 rintro e w4 ⟨rfl,hb4⟩
 have HB4:=qH (bthen HB3.out hb4)
 clear hb4 k0 k1 k2
 go_wp2_with fail
 go_ret
 exact ⟨rfl,bthen HB.out HB4.out⟩
theorem tag_t2 (a b:Option Addr) (c d:Nat) (q:Rat) (w:World) (h0:q≠0) (h1:q.den=1) (h2:q.num<0):Calls Tryz.prog 77 #[ratV a c b d q] w fun e w'=>e=.returned (.int .u8 2)∧Below w.heap.size w w':=by
 have hZ:=fun W=>rzero_any a b c d (lenW (denN q.den)) q W
 have hI:=fun W=>isint_any a b c d q W
 have hS:=fun W=>rsign_any a b c d q W
 rw [decide_eq_false h0] at hZ
 rw [decide_eq_true h1] at hI
 rw [signZ_neg h2] at hS
 unfold ratV at hI hS ⊢
 obtain ⟨sg,hsg⟩:∃ z,decide (q.num<0)=z:=⟨_,rfl⟩
 obtain ⟨lm,hlm⟩:∃ z,lenW q.num.natAbs=z:=⟨_,rfl⟩
 obtain ⟨ld,hld⟩:∃ z,lenW (denN q.den)=z:=⟨_,rfl⟩
 rw [hsg,hlm,hld] at hZ hI hS ⊢
 obtain ⟨w1,hw1⟩:∃ w1,w.alloc (.cells #[.bool sg,.slice a lm c,.slice b ld d] 45)=w1:=⟨_,rfl⟩
 have hbx:=(belowBox w (.cells #[.bool sg,.slice a lm c,.slice b ld d] 45))
 have hbk:=heap_alloc_new w (.cells #[.bool sg,.slice a lm c,.slice b ld d] 45)
 rw [hw1] at hbx hbk
 have HW1:=qH hw1
 have HZ:=qH hZ
 have HI:=qH hI
 have HS:=qH hS
 have HB:=qH hbx
 have HK:=qH (fun (W:World) (hb:Below w1.heap.size w1 W)=>(hb.block w.heap.size (lt_of_block hbk)).trans hbk)
 have k0:=cell_of_block (j:=0) hbk rfl
 have k1:=cell_of_block (j:=1) hbk rfl
 have k2:=cell_of_block (j:=2) hbk rfl
 clear hw1 hZ hI hS hsg hlm hld hbx hbk
 go_enter Tryz.func77,Tryz.ntmps77
 go_upto_region 1 with fail
 (try simp only [HW1.out])
 go_wp2_with fail
 refine (HZ.out w1).mono ?_
 rintro e w2 ⟨rfl,hb2⟩
 have HB2:=qH hb2
 clear hb2 k0 k1 k2
 have k0:=cell_of_block (j:=0) (HK.out w2 HB2.out) rfl
 have k1:=cell_of_block (j:=1) (HK.out w2 HB2.out) rfl
 have k2:=cell_of_block (j:=2) (HK.out w2 HB2.out) rfl
 go_wp2_with fail
 refine (HI.out w2).mono ?_
 rintro e w3 ⟨rfl,hb3⟩
 have HB3:=qH (bthen HB2.out hb3)
 clear hb3 k0 k1 k2
 have k0:=cell_of_block (j:=0) (HK.out w3 HB3.out) rfl
 have k1:=cell_of_block (j:=1) (HK.out w3 HB3.out) rfl
 have k2:=cell_of_block (j:=2) (HK.out w3 HB3.out) rfl
 go_wp2_with fail
 refine (HS.out w3).mono ?_
 rintro e w4 ⟨rfl,hb4⟩
 have HB4:=qH (bthen HB3.out hb4)
 clear hb4 k0 k1 k2
 go_wp2_with fail
 go_ret
 exact ⟨rfl,bthen HB.out HB4.out⟩
theorem tag_t3 (a b:Option Addr) (c d:Nat) (q:Rat) (w:World) (h0:q≠0) (h1:¬ q.den=1) (h2:¬ q.num<0):Calls Tryz.prog 77 #[ratV a c b d q] w fun e w'=>e=.returned (.int .u8 3)∧Below w.heap.size w w':=by
 have hZ:=fun W=>rzero_any a b c d (lenW (denN q.den)) q W
 have hI:=fun W=>isint_any a b c d q W
 have hS:=fun W=>rsign_any a b c d q W
 rw [decide_eq_false h0] at hZ
 rw [decide_eq_false h1] at hI
 rw [signZ_pos h2 (fun e=>h0 (Rat.num_eq_zero.1 e))] at hS
 unfold ratV at hI hS ⊢
 obtain ⟨sg,hsg⟩:∃ z,decide (q.num<0)=z:=⟨_,rfl⟩
 obtain ⟨lm,hlm⟩:∃ z,lenW q.num.natAbs=z:=⟨_,rfl⟩
 obtain ⟨ld,hld⟩:∃ z,lenW (denN q.den)=z:=⟨_,rfl⟩
 rw [hsg,hlm,hld] at hZ hI hS ⊢
 obtain ⟨w1,hw1⟩:∃ w1,w.alloc (.cells #[.bool sg,.slice a lm c,.slice b ld d] 45)=w1:=⟨_,rfl⟩
 have hbx:=(belowBox w (.cells #[.bool sg,.slice a lm c,.slice b ld d] 45))
 have hbk:=heap_alloc_new w (.cells #[.bool sg,.slice a lm c,.slice b ld d] 45)
 rw [hw1] at hbx hbk
 have HW1:=qH hw1
 have HZ:=qH hZ
 have HI:=qH hI
 have HS:=qH hS
 have HB:=qH hbx
 have HK:=qH (fun (W:World) (hb:Below w1.heap.size w1 W)=>(hb.block w.heap.size (lt_of_block hbk)).trans hbk)
 have k0:=cell_of_block (j:=0) hbk rfl
 have k1:=cell_of_block (j:=1) hbk rfl
 have k2:=cell_of_block (j:=2) hbk rfl
 clear hw1 hZ hI hS hsg hlm hld hbx hbk
 go_enter Tryz.func77,Tryz.ntmps77
 go_upto_region 1 with fail
 (try simp only [HW1.out])
 go_wp2_with fail
 refine (HZ.out w1).mono ?_
 rintro e w2 ⟨rfl,hb2⟩
 have HB2:=qH hb2
 clear hb2 k0 k1 k2
 have k0:=cell_of_block (j:=0) (HK.out w2 HB2.out) rfl
 have k1:=cell_of_block (j:=1) (HK.out w2 HB2.out) rfl
 have k2:=cell_of_block (j:=2) (HK.out w2 HB2.out) rfl
 go_wp2_with fail
 refine (HI.out w2).mono ?_
 rintro e w3 ⟨rfl,hb3⟩
 have HB3:=qH (bthen HB2.out hb3)
 clear hb3 k0 k1 k2
 have k0:=cell_of_block (j:=0) (HK.out w3 HB3.out) rfl
 have k1:=cell_of_block (j:=1) (HK.out w3 HB3.out) rfl
 have k2:=cell_of_block (j:=2) (HK.out w3 HB3.out) rfl
 go_wp2_with fail
 refine (HS.out w3).mono ?_
 rintro e w4 ⟨rfl,hb4⟩
 have HB4:=qH (bthen HB3.out hb4)
 clear hb4 k0 k1 k2
 go_wp2_with fail
 go_ret
 exact ⟨rfl,bthen HB.out HB4.out⟩
theorem tag_t4 (a b:Option Addr) (c d:Nat) (q:Rat) (w:World) (h0:q≠0) (h1:¬ q.den=1) (h2:q.num<0):Calls Tryz.prog 77 #[ratV a c b d q] w fun e w'=>e=.returned (.int .u8 4)∧Below w.heap.size w w':=by
 have hZ:=fun W=>rzero_any a b c d (lenW (denN q.den)) q W
 have hI:=fun W=>isint_any a b c d q W
 have hS:=fun W=>rsign_any a b c d q W
 rw [decide_eq_false h0] at hZ
 rw [decide_eq_false h1] at hI
 rw [signZ_neg h2] at hS
 unfold ratV at hI hS ⊢
 obtain ⟨sg,hsg⟩:∃ z,decide (q.num<0)=z:=⟨_,rfl⟩
 obtain ⟨lm,hlm⟩:∃ z,lenW q.num.natAbs=z:=⟨_,rfl⟩
 obtain ⟨ld,hld⟩:∃ z,lenW (denN q.den)=z:=⟨_,rfl⟩
 rw [hsg,hlm,hld] at hZ hI hS ⊢
 obtain ⟨w1,hw1⟩:∃ w1,w.alloc (.cells #[.bool sg,.slice a lm c,.slice b ld d] 45)=w1:=⟨_,rfl⟩
 have hbx:=(belowBox w (.cells #[.bool sg,.slice a lm c,.slice b ld d] 45))
 have hbk:=heap_alloc_new w (.cells #[.bool sg,.slice a lm c,.slice b ld d] 45)
 rw [hw1] at hbx hbk
 have HW1:=qH hw1
 have HZ:=qH hZ
 have HI:=qH hI
 have HS:=qH hS
 have HB:=qH hbx
 have HK:=qH (fun (W:World) (hb:Below w1.heap.size w1 W)=>(hb.block w.heap.size (lt_of_block hbk)).trans hbk)
 have k0:=cell_of_block (j:=0) hbk rfl
 have k1:=cell_of_block (j:=1) hbk rfl
 have k2:=cell_of_block (j:=2) hbk rfl
 clear hw1 hZ hI hS hsg hlm hld hbx hbk
 go_enter Tryz.func77,Tryz.ntmps77
 go_upto_region 1 with fail
 (try simp only [HW1.out])
 go_wp2_with fail
 refine (HZ.out w1).mono ?_
 rintro e w2 ⟨rfl,hb2⟩
 have HB2:=qH hb2
 clear hb2 k0 k1 k2
 have k0:=cell_of_block (j:=0) (HK.out w2 HB2.out) rfl
 have k1:=cell_of_block (j:=1) (HK.out w2 HB2.out) rfl
 have k2:=cell_of_block (j:=2) (HK.out w2 HB2.out) rfl
 go_wp2_with fail
 refine (HI.out w2).mono ?_
 rintro e w3 ⟨rfl,hb3⟩
 have HB3:=qH (bthen HB2.out hb3)
 clear hb3 k0 k1 k2
 have k0:=cell_of_block (j:=0) (HK.out w3 HB3.out) rfl
 have k1:=cell_of_block (j:=1) (HK.out w3 HB3.out) rfl
 have k2:=cell_of_block (j:=2) (HK.out w3 HB3.out) rfl
 go_wp2_with fail
 refine (HS.out w3).mono ?_
 rintro e w4 ⟨rfl,hb4⟩
 have HB4:=qH (bthen HB3.out hb4)
 clear hb4 k0 k1 k2
 go_wp2_with fail
 go_ret
 exact ⟨rfl,bthen HB.out HB4.out⟩
theorem tag_any (a b:Option Addr) (c d:Nat) (q:Rat) (w:World):Calls Tryz.prog 77 #[ratV a c b d q] w fun e w'=>e=.returned (.int .u8 (tagR q))∧Below w.heap.size w w':=by
 by_cases h0:q=0
 ·
  rw [show tagR q=0 by rw [h0];exact tagR_zero];exact tag_zero a b c d q w h0
 ·
  rw [tagR_ne h0]
  by_cases h1:q.den=1 <;> by_cases h2:q.num<0
  ·
   rw [if_pos h1,if_pos h2];exact tag_t2 a b c d q w h0 h1 h2
  ·
   rw [if_pos h1,if_neg h2];exact tag_t1 a b c d q w h0 h1 h2
  ·
   rw [if_neg h1,if_pos h2];exact tag_t4 a b c d q w h0 h1 h2
  ·
   rw [if_neg h1,if_neg h2];exact tag_t3 a b c d q w h0 h1 h2
theorem YB.push0 {w W W':World} {bs:List Bk} {ns:List Nm} {a:Option Addr} {n c:Nat} {xs:List Nat} (h:YB w bs ns a n c xs W) {a':Option Addr} {c':Nat} {ys:List Nat} {m:Nat} (hm:Mid W' w.heap.size 5 1 (.slice a' (n+m) c') (n+m) (xs.map BN++ys.map BN)) (hg:W.grownBy W' (Value.slice a n c).ownBlock) (hb:(Value.slice a' (n+m) c').ownBlock=(Value.slice a n c).ownBlock∨(Value.slice a' (n+m) c').ownBlock=some W.heap.size):YB w bs ns a' (n+m) c' (xs++ys) W':=by
 refine ⟨h.st.keeps (Keeps.of_grown hg (S:=fun z=>(Value.slice a n c).ownBlock=some z) fun z hz=>hz) (fun k hk=>(h.mid.lt k hk).1) (fun k hk=>h.nod k hk) (fun k hk=>h.mid.noWord (by decide) k hk),by rw [List.map_append];exact hm,fun k hk b hbb=>?_⟩
 rcases hb with e | e
 ·
  exact h.nod k (by rw [← e];exact hk) b hbb
 ·
  rw [hk] at e
  injection e with e
  have:=lt_of_block (h.st.box b hbb).1
  omega
theorem put_big (o:Option Addr) (n k:Nat) (a:Option Addr) (c m:Nat) (w:World) (ha:NatW w a c m) (hs:lenW m≤1099511627776) (hb:255<ndig 256 m):Calls Tryz.prog 78 #[.slice o n k,.agg #[.slice a (lenW m) c]] w fun e w'=>e=.returned (.tuple #[.slice none 0 0,eE 3])∧Below w.heap.size w w':=by
 have HBY:=qH (fun (W:World) (h:NatW W a c m)=>bytes_any a c m W h hs)
 have HA:=qH (ha.alloc (.cells #[.slice a (lenW m) c] 41))
 obtain ⟨L,hL⟩:∃ L,ndig 256 m=L:=⟨_,rfl⟩
 rw [hL] at HBY hb
 have hbi:(255:Int)<(L:Int):=by omega
 clear ha hs hL
 unfold eE
 go_enter Tryz.func78,Tryz.ntmps78
 go_wp2_with fail
 refine (HBY.out _ HA.out).mono ?_
 rintro e w1 ⟨a1,c1,rfl,_,hb1⟩
 have HB:=qH (bthen (belowBox w (.cells #[.slice a (lenW m) c] 41)) hb1)
 clear hb1
 go_wp2_with fail
 refine bodyPost_ret (v:=.tuple #[.slice none 0 0,eE 3]) (by simp [results,Tryz.results78,go_sem,eE]) rfl ?_
 exact ⟨rfl,HB.out⟩
theorem put_ok {w0:World} {bs:List Bk} {ns:List Nm} (o:Option Addr) (n k:Nat) (xs:List Nat) (a:Option Addr) (c m:Nat) (w:World) (h:YB w0 bs ns o n k xs w) (ha:NatW w a c m) (hs:lenW m≤1099511627776) (hb:ndig 256 m≤255) (hn:n≤100000):Calls Tryz.prog 78 #[.slice o n k,.agg #[.slice a (lenW m) c]] w fun e w'=>∃ a2 c2,e=.returned (.tuple #[.slice a2 (n+1+ndig 256 m) c2,.nilIface])∧YB w0 bs ns a2 (n+1+ndig 256 m) c2 (xs++[ndig 256 m]++dig 256 m) w'∧Below w0.heap.size w w':=by
 obtain ⟨i0,hi,hz0,hz1,hz2⟩:=info_parts Tryz.info_bytes
 have HBY:=qH (fun (W:World) (h:NatW W a c m)=>bytes_any a c m W h hs)
 have HA:=qH (ha.alloc (.cells #[.slice a (lenW m) c] 41))
 have hDL:=dig_len 256 m
 obtain ⟨D,hD⟩:∃ D,dig 256 m=D:=⟨_,rfl⟩
 obtain ⟨L,hL⟩:∃ L,ndig 256 m=L:=⟨_,rfl⟩
 rw [hL,hD] at HBY
 rw [hD,hL] at hDL
 rw [hL] at hb
 rw [hL,hD]
 have hbi:¬ (255:Int)<(L:Int):=by omega
 have HY:=qH (h.alloc (p:=w.heap.size) rfl 41 [.slice a (lenW m) c] rfl)
 have HBX:=qH (show Below w0.heap.size w (w.alloc (.cells #[.slice a (lenW m) c] 41)) from (belowBox w _).mono h.st.bel.size)
 have HDL:=qH hDL
 clear ha hs hL hD h hDL
 go_enter Tryz.func78,Tryz.ntmps78
 go_wp2_with fail
 refine (HBY.out _ HA.out).mono ?_
 rintro e w1 ⟨a1,c1,rfl,hm1,hb1⟩
 have HY1:=qH (HY.out.call hb1)
 have HBZ:=qH (HBX.out.trans (hb1.mono HY.out.st.bel.size))
 have HM1:=qH hm1
 have HNE:=qH (show ∀ z,(Value.slice a1 L c1).ownBlock=some z→(Value.slice o n k).ownBlock≠some z from fun z hz e=>by
  have h1:=(hm1.lt z hz).1
  have h2:=(HY.out.mid.lt z e).2
  omega)
 clear hb1 hm1
 have HM3:=qH (HY1.out.mid.alloc (.cells #[.int .u8 L] 5))
 have HS3:=qH ((Sl.lit w1 5 1 1 [BN L] (by unfold maxLen;omega) rfl).src (P:=Tryz.prog) Tryz.underlying32 (one_BN [L]))
 have HW3:=qH (Nat.le_trans HY1.out.st.bel.size (belowBox w1 (.cells #[.int .u8 L] 5)).size)
 go_wp2_with (at_builtin;refine wpList_append_mid (v:=.slice o n k) rfl _ _ 32 32 rfl i0 (.int .u8 0) 1 Tryz.underlying32 hi hz0 hz1 hz2 rfl rfl HM3.out _ rfl 1 _ HS3.out (by unfold maxLen;omega) (by omega) HW3.out ?_;intro a5 c5 w5 hmo hgo hbo;have HP:=qH (HY1.out.push (ys:=[L]) hmo hgo hbo);have HG:=qH (grown_keeps hgo);clear hmo hgo hbo;have HS5:=qH (((Sl.ofMid HM1.out).keeps HG.out (fun z _ hz e=>HNE.out z hz e)).src (P:=Tryz.prog) Tryz.underlying32 (one_BN D));have HM5:=qH HP.out.mid;have HW5:=qH HP.out.st.bel.size;go_wp2_with (at_builtin;refine wpList_append_mid (v:=.slice a5 (n+1) c5) rfl _ _ 32 32 rfl i0 (.int .u8 0) 1 Tryz.underlying32 hi hz0 hz1 hz2 rfl rfl HM5.out _ rfl L _ HS5.out (by unfold maxLen;omega) (by omega) HW5.out ?_;intro a6 c6 w6 hmo hgo hbo;have HP6:=qH (HP.out.push0 (ys:=D) hmo hgo hbo);have HG6:=qH hgo;clear hmo hgo hbo))
 refine bodyPost_ret (v:=.tuple #[.slice a6 (n+1+L) c6,.nilIface]) (by simp [results,Tryz.results78,go_sem]) rfl ?_
 refine ⟨a6,c6,rfl,HP6.out.only (List.sublist_append_left _ _) (fun x hx=>hx),?_⟩
 exact HBZ.out.trans ((HG.out.below HY1.out.st.bel.size (fun z hz=>(HY1.out.mid.lt z hz).1)).trans ((Keeps.of_grown HG6.out (S:=fun z=>(Value.slice a5 (n+1) c5).ownBlock=some z) (fun z hz=>hz)).below HP.out.st.bel.size (fun z hz=>(HP.out.mid.lt z hz).1)))
end Go.Proofs.YtmhainidincjhaaGreatDoor
namespace Go.Proofs.YtmhainidincjhaaGreatDoor
open Go.RowKit
theorem plain_any (a:Option Addr) (n c:Nat) (bs:List Nat) (w:World) (h:BytesN w (.slice a n c) bs):Calls Tryz.prog 186 #[.slice a n c] w fun e w'=>e=.returned (.bool (decide (bs.head?≠some 0)))∧Below w.heap.size w w':=by
 have hl:=h.len.1
 cases bs with
 | nil =>
  have hl0:n=0:=hl
  subst hl0
  rw [show decide (([]:List Nat).head?≠some 0)=true by simp]
  clear h hl
  go_enter Tryz.func186,Tryz.ntmps186
  go_wp2_with fail
  go_ret
  exact ⟨rfl,Below.refl _ _⟩
 | cons x l =>
  obtain ⟨b,o,rfl,hb,hc⟩:=h.get 0 (x:=x) rfl
  have hl2:n=l.length+1:=hl
  have h1:((n:Int)==0)=false:=beq_eq_false_iff_ne.2 (by omega)
  have h0:(0:Int)<(n:Int):=by omega
  have hx:decide ((x::l).head?≠some 0)=!((x:Int)==0):=by
   by_cases e:x=0
   ·
    subst e;rfl
   ·
    have:((x:Int)==0)=false:=beq_eq_false_iff_ne.2 (by omega)
    rw [this];simp [e]
  rw [hx]
  clear h hl hl2 hx
  rw [Nat.add_zero] at hc
  go_enter Tryz.func186,Tryz.ntmps186
  go_wp2_with fail
  go_ret
  exact ⟨rfl,Below.refl _ _⟩
theorem parse_no (a:Option Addr) (n c:Nat) (bs:List Nat) (w:World) (h:BytesN w (.slice a n c) bs) (h0:bs.head?=some 0):Calls Tryz.prog 146 #[.slice a n c] w (RetNB 0 false w):=by
 have hP:=fun W (h:BytesN W (.slice a n c) bs)=>plain_any a n c bs W h
 rw [h0,show decide (some (0:Nat)≠some 0)=false from by simp] at hP
 have HP:=qH hP
 have HB:=qH (h.below (belowBox w (.cells #[.slice none 0 0] 41)))
 clear h h0 hP
 go_enter Tryz.func146,Tryz.ntmps146
 go_wp2_with fail
 refine (HP.out _ HB.out).mono ?_
 rintro e w1 ⟨rfl,hb⟩
 have hb1:=(belowBox w (.cells #[.slice none 0 0] 41))
 have k1:w1.cell? ⟨w.heap.size,0,none⟩=some (.slice none 0 0):=((bcell hb).1 _ _ (by simp)).trans (by simp)
 have f1:w1.frozen? ⟨w.heap.size,0,none⟩=false:=((bcell hb).2 _ _ (by simp)).trans (by simp)
 have HBB:=qH (bthen hb1 hb)
 clear hb hb1 HB
 go_wp2_with fail
 refine bodyPost_ret (v:=.tuple #[.agg #[.slice none 0 0],.bool false]) (by simp [results,Tryz.results146,go_sem,k1]) rfl ?_
 exact ⟨none,0,by rw [lenW_zero],NatW.zero _,HBB.out.setCell (by simp) _⟩
theorem lay_or (v k x:Nat) (hx:x=v / 256^k % 256):bits .or .u64 ((wordOf (v % 256^k) (k / 8):Nat):Int) (IntKind.u64.wrap ((x:Int)*2^(8*(k % 8))))=((wordOf (v % 256^(k+1)) (k / 8):Nat):Int):=by
 subst hx
 have hd:v / 256^k % 256<256:=Nat.mod_lt _ (by omega)
 have h2:256*2^(8*(k % 8))≤W64:=by
  rw [show (256:Nat)=2^8 from rfl,← Nat.pow_add]
  exact Nat.le_trans (Nat.pow_le_pow_right (by omega) (show 8+8*(k % 8)≤64 by omega)) (by unfold W64;omega)
 have h3:v / 256^k % 256*2^(8*(k % 8))<W64:=Nat.lt_of_lt_of_le (Nat.mul_lt_mul_of_pos_right hd (Nat.two_pow_pos _)) h2
 rw [u64_shl,Nat.mod_eq_of_lt h3,u64_or _ _ (wordOf_lt _ _) h3,byte_or]
theorem parse_yes (a:Option Addr) (n c:Nat) (bs:List Nat) (w:World) (h:BytesN w (.slice a n c) bs) (h0:bs.head?≠some 0) (hx:∀ x∈bs,x<256) (hs:n≤17592186044416):Calls Tryz.prog 146 #[.slice a n c] w (RetNB (undig 256 bs) true w):=by
 have hP:=fun W (h:BytesN W (.slice a n c) bs)=>plain_any a n c bs W h
 rw [decide_eq_true h0] at hP
 obtain ⟨M,hM⟩:∃ M,(n+7) / 8=M:=⟨_,rfl⟩
 have hq:((n:Int)+7).tdiv 8=(M:Int):=by rw [Int.tdiv_eq_ediv_of_nonneg (by omega)];omega
 have hM4:M≤17592186044416:=by omega
 have hmk:=make_words (M:Int) M rfl (by omega)
 have hn:=h.len.1
 obtain ⟨v,hv⟩:∃ v,undig 256 bs=v:=⟨_,rfl⟩
 have hvb:v<256^n:=by rw [← hv,hn];exact undig_lt bs hx
 have hvM:v<W64^M:=by
  refine Nat.lt_of_lt_of_le hvb ?_
  rw [W64_pow,show (256:Nat)=2^8 from rfl,← Nat.pow_mul]
  exact Nat.pow_le_pow_right (by omega) (by omega)
 rw [hv]
 have HAT:=qH (fun k (hk:k<n)=>(by rw [← hv,hn];exact undig_at bs hx (by omega):bs[n - 1 - k]?=some (v / 256^k % 256)))
 have HP:=qH hP
 have HB:=qH h
 have HVM:=qH hvM
 have HVB:=qH hvb
 have HM:=qH hM
 clear h h0 hP hv hvb hvM hn hx hM
 go_enter Tryz.func146,Tryz.ntmps146
 go_wp2_with fail
 refine (HP.out _ (HB.out.below (belowBox w _))).mono ?_
 rintro e w1 ⟨rfl,hb⟩
 have hb1:=(belowBox w (.cells #[.slice none 0 0] 41))
 have k1:w1.cell? ⟨w.heap.size,0,none⟩=some (.slice none 0 0):=((bcell hb).1 _ _ (by simp)).trans (by simp)
 have f1:w1.frozen? ⟨w.heap.size,0,none⟩=false:=((bcell hb).2 _ _ (by simp)).trans (by simp)
 have HBB:=qH (bthen hb1 hb)
 clear hb hb1
 have HMADE:=qH (NS.made w1 (List.replicate M 0))
 have HK:=qH (fun (xs:List Nat) (W:World) (h:NS w1 w1.heap.size xs W)=>(⟨h.old k1,h.oldFree (World.block_lt_of_cell? _ _ k1) f1⟩:W.cell? ⟨w.heap.size,0,none⟩=some (.slice none 0 0)∧W.frozen? ⟨w.heap.size,0,none⟩=false))
 go_wp2_with fail
 clear k1 f1 hmk
 go_loopw [17] (fun v17 wr=>∃ k:Nat,k≤n∧v17=.int .i64 k∧NS w1 w1.heap.size (fnL M (wordOf (v % 256^k))) wr) (fun v17 _=>n - (intOf v17).toNat)
 case atStart=>exact ⟨0,Nat.zero_le _,rfl,by rw [Nat.pow_zero,Nat.mod_one,fnL_zero];exact HMADE.out⟩
 case round =>
  obtain ⟨k,hk,rfl,hns⟩:=hrel
  have HN:=qH hns
  clear hns HMADE
  by_cases hlt:k<n
  ·
   have hdiv:(k:Int).tdiv 8=((k / 8:Nat):Int):=by rw [Int.tdiv_eq_ediv_of_nonneg (by omega)];omega
   have hmod:(k:Int).tmod 8=((k % 8:Nat):Int):=by rw [Int.tmod_eq_emod_of_nonneg (by omega)];omega
   have hm8:k % 8≤7:=by omega
   have hkM:k / 8<M:=by have:=HM.out;omega
   have hkMi:((k / 8:Nat):Int)<(M:Int):=by omega
   have i0:(0:Int)≤(n:Int) - 1 - (k:Int):=by omega
   have i1:(n:Int) - 1 - (k:Int)<(n:Int):=by omega
   obtain ⟨x,hx⟩:∃ x,v / 256^k % 256=x:=⟨_,rfl⟩
   have hx256:x<256:=by rw [← hx];exact Nat.mod_lt _ (by omega)
   obtain ⟨b,o,eb,hbl,hbc⟩:=((HB.out.below HBB.out).below HN.out.bel).get (n - 1 - k) (HAT.out k hlt)
   rw [hx] at hbc
   have eb':a=some ⟨b,o,none⟩:=eb
   subst eb'
   have hor:=lay_or v k x hx.symm
   have hkc:=fnL_cell HN.out hkM
   have hkf:=HN.out.free (k / 8)
   clear eb hbl hx
   go_wp2_with fail
   go_region
   go_wp2_with fail
   go_roundw
   case rel =>
    refine ⟨k+1,by omega,by go_num,?_⟩
    have h1:=(HN.out.set (k / 8) (wordOf (v % 256^(k+1)) (k / 8))).drewN 1
    rw [fnL_set (g:=wordOf (v % 256^(k+1))) hkM rfl (fun j _ hj=>by rw [byte_lay,if_neg hj])] at h1
    exact h1
   case measure=>simp [intOf];omega
  ·
   obtain rfl:k=n:=by omega
   have hlen:=fnL_len M (wordOf v)
   rw [Nat.mod_eq_of_lt HVB.out] at HN
   have hsl:=HN.out.sl (by rw [hlen];unfold maxLen;omega)
   rw [hlen] at hsl
   have HT:=qH (of_any _ _ _ _ wr hsl (fnL_lt (wordOf_lt _)) hM4)
   rw [fnL_val HVM.out] at HT
   obtain ⟨k1,f1⟩:=HK.out _ _ HN.out
   clear hlen hsl
   go_wp2_with fail
   refine HT.out.mono ?_
   rintro e w2 ⟨a2,c2,rfl,hn2,hb2⟩
   have k2:=((bcell hb2).1 _ _ (World.block_lt_of_cell? _ _ k1)).trans k1
   have f2:=((bcell hb2).2 _ _ (World.block_lt_of_cell? _ _ k1)).trans f1
   have HN2:=qH hn2
   have HB2:=qH hb2
   clear hn2 hb2 HT k1 f1
   go_wp2_with fail
   refine bodyPost_ret (v:=.tuple #[.agg #[.slice a2 (lenW v) c2],.bool true]) (by simp [results,Tryz.results146,go_sem,k2]) rfl ?_
   exact ⟨a2,c2,rfl,HN2.out.set k2 (fun _=>by simp) _,((bthen HBB.out (bthen HN.out.bel HB2.out))).setCell (by simp) _⟩
end Go.Proofs.YtmhainidincjhaaGreatDoor
namespace Go.Proofs.YtmhainidincjhaaGreatDoor
open Go.RowKit Go.Extern.Stop Go.Stop Go.Extern
def RetT9 (R:World→Prop) (r:Except Int (Nat × List Nat)) (w:World) (e:Ending) (w':World):Prop:=match r with
 | .error n=>e=.returned (.tuple #[.agg #[.slice none 0 0],.slice none 0 0,eE n])∧Below w.heap.size w w'
 | .ok x=>∃ a2 c2 a3 c3,e=.returned (.tuple #[.agg #[.slice a2 (lenW x.1) c2],.slice a3 x.2.length c3,.nilIface])∧NatW w' a2 c2 x.1∧(∀ W,R W→BytesN W (.slice a3 x.2.length c3) x.2)∧Below w.heap.size w w'
theorem ptk_nil (a:Option Addr) (c:Nat) (w:World):Calls Tryz.prog 86 #[.slice a 0 c] w fun e w'=>e=.returned (.tuple #[.agg #[.slice none 0 0],.slice none 0 0,eE 90])∧Below w.heap.size w w':=by
 obtain ⟨w1,hw1⟩:∃ w1,w.alloc (.cells #[.slice none 0 0] 41)=w1:=⟨_,rfl⟩
 have HW1:=qH hw1
 have HB1:=qH (show BS w [⟨w.heap.size,41,[.slice none 0 0]⟩] [] w1 from hw1▸((BS.start w).alloc (p:=w.heap.size) rfl 41 [.slice none 0 0] rfl))
 clear hw1
 go_enter Tryz.func86,Tryz.ntmps86
 go_upto_region 1 with fail
 (try simp only [HW1.out])
 have ⟨k0,f0⟩:=HB1.out.cf1 0 rfl
 have HE:=qH (HB1.out.set 0 0 rfl rfl (fun _=>by simp) (.slice none 0 0))
 go_wp2_with fail
 have j0:=HE.out.cell 0 0 rfl rfl
 refine bodyPost_ret (v:=.tuple #[.agg #[.slice none 0 0],.slice none 0 0,eE 90]) (by simp [results,Tryz.results86,go_sem,j0,eE]) rfl ?_
 exact ⟨rfl,HE.out.bel⟩
theorem ptk_short (a:Option Addr) (n c k:Nat) (r:List Nat) (w:World) (h:BytesN w (.slice a n c) (k::r)) (hk:r.length<k) (hk2:k<256) (hs:n≤17592186044416):Calls Tryz.prog 86 #[.slice a n c] w fun e w'=>e=.returned (.tuple #[.agg #[.slice none 0 0],.slice none 0 0,eE 90])∧Below w.heap.size w w':=by
 obtain ⟨b,o,ea,hlt,hc⟩:=h.get 0 (x:=k) rfl
 have hlen:=h.len
 have hn:n=r.length+1:=hlen.1
 rw [Nat.add_zero] at hc
 have ea':a=some ⟨b,o,none⟩:=ea
 clear ea
 subst ea'
 obtain ⟨w1,hw1⟩:∃ w1,w.alloc (.cells #[.slice none 0 0] 41)=w1:=⟨_,rfl⟩
 have HW1:=qH hw1
 have HB1:=qH (show BS w [⟨w.heap.size,41,[.slice none 0 0]⟩] [] w1 from hw1▸((BS.start w).alloc (p:=w.heap.size) rfl 41 [.slice none 0 0] rfl))
 clear hw1
 have c1:=(HB1.out.bel.cell (p:=⟨b,o,none⟩) hlt).trans hc
 have h0:((n:Int)==0)=false:=beq_eq_false_iff_ne.2 (by omega)
 have h1:(n:Int) - 1<(k:Int):=by omega
 have h2:(0:Int)<(n:Int):=by omega
 clear h hlt hc hlen hn
 go_enter Tryz.func86,Tryz.ntmps86
 go_upto_region 1 with fail
 (try simp only [HW1.out])
 have ⟨k0,f0⟩:=HB1.out.cf1 0 rfl
 have HE:=qH (HB1.out.set 0 0 rfl rfl (fun _=>by simp) (.slice none 0 0))
 go_wp2_with fail
 have j0:=HE.out.cell 0 0 rfl rfl
 refine bodyPost_ret (v:=.tuple #[.agg #[.slice none 0 0],.slice none 0 0,eE 90]) (by simp [results,Tryz.results86,go_sem,j0,eE]) rfl ?_
 exact ⟨rfl,HE.out.bel⟩
theorem sub_head {w:World} {b o n c k:Nat} {r:List Nat} (h:BytesN w (.slice (some ⟨b,o,none⟩) n c) (k::r)) (hk:k≤r.length) :
  (c=1→BytesN w (.slice (some ⟨b,o,none⟩) k 0) (r.take k))∧(c≠1→BytesN w (.slice (some ⟨b,o+1,none⟩) k (c - 1)) (r.take k)):=by
 have hn:n=r.length+1:=h.len.1
 have h1:=h.sub 1 (1+k) (by omega) (by omega)
 rw [show ((k::r).take (1+k)).drop 1=r.take k by rw [Nat.add_comm];rfl,show 1+k - 1=k by omega] at h1
 constructor
 ·
  intro hc;subst hc;simpa using h1
 ·
  intro hc;rw [if_neg hc,Option.map_some,Addr.add_lit] at h1;exact h1
theorem sub_tail {w:World} {b o n c k:Nat} {r:List Nat} (h:BytesN w (.slice (some ⟨b,o,none⟩) n c) (k::r)) (hk:k≤r.length) :
  (c=1+k→BytesN w (.slice (some ⟨b,o,none⟩) (r.drop k).length 0) (r.drop k))∧(c≠1+k→BytesN w (.slice (some ⟨b,o+(1+k),none⟩) (r.drop k).length (c - (1+k))) (r.drop k)):=by
 have hn:n=r.length+1:=h.len.1
 have h1:=h.sub (1+k) n (by omega) (by omega)
 rw [show ((k::r).take n).drop (1+k)=r.drop k by rw [List.take_of_length_le (by simp;omega),Nat.add_comm];rfl,show n - (1+k)=(r.drop k).length by rw [List.length_drop];omega] at h1
 constructor
 ·
  intro hc;subst hc;simpa using h1
 ·
  intro hc;rw [if_neg hc,Option.map_some,Addr.add_lit] at h1;exact h1
theorem ptk_badA (a:Option Addr) (n c k:Nat) (r:List Nat) (w:World) (h:BytesN w (.slice a n c) (k::r)) (hk:k≤r.length) (hk2:k<256) (hs:n≤17592186044416) (hb8:∀ x,x∈r.take k→x<256) (hx:(r.take k).head?=some 0) (hc1:c=1):Calls Tryz.prog 86 #[.slice a n c] w fun e w'=>e=.returned (.tuple #[.agg #[.slice none 0 0],.slice none 0 0,eE 91])∧Below w.heap.size w w':=by
 obtain ⟨b,o,ea,hlt,hc⟩:=h.get 0 (x:=k) rfl
 have hlen:=h.len
 have hn:n=r.length+1:=hlen.1
 rw [Nat.add_zero] at hc
 have ea':a=some ⟨b,o,none⟩:=ea
 clear ea
 subst ea'
 have HS:=qH (fun (W:World) (hb:Below w.heap.size w W)=>(sub_head (h.below hb) hk).1 hc1)
 have HPA:=qH (fun (W:World) (hb:Below w.heap.size w W)=>(parse_no _ _ _ _ W (HS.out W hb) hx:Calls Tryz.prog 146 #[.slice (some ⟨b,o,none⟩) k 0] W (RetNB 0 false W)))
 obtain ⟨w1,hw1⟩:∃ w1,w.alloc (.cells #[.slice none 0 0] 41)=w1:=⟨_,rfl⟩
 have HW1:=qH hw1
 have HB1:=qH (show BS w [⟨w.heap.size,41,[.slice none 0 0]⟩] [] w1 from hw1▸((BS.start w).alloc (p:=w.heap.size) rfl 41 [.slice none 0 0] rfl))
 clear hw1
 have c1:=(HB1.out.bel.cell (p:=⟨b,o,none⟩) hlt).trans hc
 have h0:((n:Int)==0)=false:=beq_eq_false_iff_ne.2 (by omega)
 have h1:¬ (n:Int) - 1<(k:Int):=by omega
 have h2:(0:Int)<(n:Int):=by omega
 have h3:(1:Int)+(k:Int)≤(c:Int):=by omega
 have h4:c≤9223372036854775807:=by omega
 subst hc1
 clear h hlt hc hlen hn hx hb8 
 go_enter Tryz.func86,Tryz.ntmps86
 go_upto_region 1 with fail
 (try simp only [HW1.out])
 go_wp2_with fail
 refine (HPA.out w1 HB1.out.bel).mono ?_
 rintro e w2 ⟨a2,c2,rfl,hn2,hb2⟩
 have HB2:=qH (((HB1.out.call hb2).got hn2).alloc (p:=w2.heap.size) rfl 41 [.slice a2 (lenW 0) c2] rfl)
 clear hn2 hb2
 have ⟨k0,f0⟩:=HB2.out.cf1 0 rfl
 have HE:=qH (HB2.out.set 0 0 rfl rfl (fun _=>by simp) (.slice none 0 0))
 go_wp2_with fail
 have j0:=HE.out.cell 0 0 rfl rfl
 refine bodyPost_ret (v:=.tuple #[.agg #[.slice none 0 0],.slice none 0 0,eE 91]) (by simp [results,Tryz.results86,go_sem,j0,eE]) rfl ?_
 exact ⟨rfl,HE.out.bel⟩
theorem ptk_badB (a:Option Addr) (n c k:Nat) (r:List Nat) (w:World) (h:BytesN w (.slice a n c) (k::r)) (hk:k≤r.length) (hk2:k<256) (hs:n≤17592186044416) (hb8:∀ x,x∈r.take k→x<256) (hx:(r.take k).head?=some 0) (hc1:c≠1):Calls Tryz.prog 86 #[.slice a n c] w fun e w'=>e=.returned (.tuple #[.agg #[.slice none 0 0],.slice none 0 0,eE 91])∧Below w.heap.size w w':=by
 obtain ⟨b,o,ea,hlt,hc⟩:=h.get 0 (x:=k) rfl
 have hlen:=h.len
 have hn:n=r.length+1:=hlen.1
 rw [Nat.add_zero] at hc
 have ea':a=some ⟨b,o,none⟩:=ea
 clear ea
 subst ea'
 have HS:=qH (fun (W:World) (hb:Below w.heap.size w W)=>(sub_head (h.below hb) hk).2 hc1)
 have HPA:=qH (fun (W:World) (hb:Below w.heap.size w W)=>(parse_no _ _ _ _ W (HS.out W hb) hx:Calls Tryz.prog 146 #[.slice (some ⟨b,o+1,none⟩) k (c - 1)] W (RetNB 0 false W)))
 obtain ⟨w1,hw1⟩:∃ w1,w.alloc (.cells #[.slice none 0 0] 41)=w1:=⟨_,rfl⟩
 have HW1:=qH hw1
 have HB1:=qH (show BS w [⟨w.heap.size,41,[.slice none 0 0]⟩] [] w1 from hw1▸((BS.start w).alloc (p:=w.heap.size) rfl 41 [.slice none 0 0] rfl))
 clear hw1
 have c1:=(HB1.out.bel.cell (p:=⟨b,o,none⟩) hlt).trans hc
 have h0:((n:Int)==0)=false:=beq_eq_false_iff_ne.2 (by omega)
 have h1:¬ (n:Int) - 1<(k:Int):=by omega
 have h2:(0:Int)<(n:Int):=by omega
 have h3:(1:Int)+(k:Int)≤(c:Int):=by omega
 have h4:c≤9223372036854775807:=by omega
 skip
 clear h hlt hc hlen hn hx hb8 
 go_enter Tryz.func86,Tryz.ntmps86
 go_upto_region 1 with fail
 (try simp only [HW1.out])
 go_wp2_with fail
 refine (HPA.out w1 HB1.out.bel).mono ?_
 rintro e w2 ⟨a2,c2,rfl,hn2,hb2⟩
 have HB2:=qH (((HB1.out.call hb2).got hn2).alloc (p:=w2.heap.size) rfl 41 [.slice a2 (lenW 0) c2] rfl)
 clear hn2 hb2
 have ⟨k0,f0⟩:=HB2.out.cf1 0 rfl
 have HE:=qH (HB2.out.set 0 0 rfl rfl (fun _=>by simp) (.slice none 0 0))
 go_wp2_with fail
 have j0:=HE.out.cell 0 0 rfl rfl
 refine bodyPost_ret (v:=.tuple #[.agg #[.slice none 0 0],.slice none 0 0,eE 91]) (by simp [results,Tryz.results86,go_sem,j0,eE]) rfl ?_
 exact ⟨rfl,HE.out.bel⟩
theorem ptk_badC (a:Option Addr) (n c k:Nat) (r:List Nat) (w:World) (h:BytesN w (.slice a n c) (k::r)) (hk:k≤r.length) (hk2:k<256) (hs:n≤17592186044416) (hb8:∀ x,x∈r.take k→x<256) (hh:(r.take k).head?≠some 0) (hx:undig 256 (r.take k)=0) (hc1:c=1):Calls Tryz.prog 86 #[.slice a n c] w fun e w'=>e=.returned (.tuple #[.agg #[.slice none 0 0],.slice none 0 0,eE 91])∧Below w.heap.size w w':=by
 obtain ⟨b,o,ea,hlt,hc⟩:=h.get 0 (x:=k) rfl
 have hlen:=h.len
 have hn:n=r.length+1:=hlen.1
 rw [Nat.add_zero] at hc
 have ea':a=some ⟨b,o,none⟩:=ea
 clear ea
 subst ea'
 have HS:=qH (fun (W:World) (hb:Below w.heap.size w W)=>(sub_head (h.below hb) hk).1 hc1)
 have HPA:=qH (fun (W:World) (hb:Below w.heap.size w W)=>(by have h9:=parse_yes _ _ _ _ W (HS.out W hb) hh hb8 (by omega);rw [hx] at h9;exact h9:Calls Tryz.prog 146 #[.slice (some ⟨b,o,none⟩) k 0] W (RetNB 0 true W)))
 obtain ⟨w1,hw1⟩:∃ w1,w.alloc (.cells #[.slice none 0 0] 41)=w1:=⟨_,rfl⟩
 have HW1:=qH hw1
 have HB1:=qH (show BS w [⟨w.heap.size,41,[.slice none 0 0]⟩] [] w1 from hw1▸((BS.start w).alloc (p:=w.heap.size) rfl 41 [.slice none 0 0] rfl))
 clear hw1
 have c1:=(HB1.out.bel.cell (p:=⟨b,o,none⟩) hlt).trans hc
 have h0:((n:Int)==0)=false:=beq_eq_false_iff_ne.2 (by omega)
 have h1:¬ (n:Int) - 1<(k:Int):=by omega
 have h2:(0:Int)<(n:Int):=by omega
 have h3:(1:Int)+(k:Int)≤(c:Int):=by omega
 have h4:c≤9223372036854775807:=by omega
 subst hc1
 clear h hlt hc hlen hn hx hb8 hh
 go_enter Tryz.func86,Tryz.ntmps86
 go_upto_region 1 with fail
 (try simp only [HW1.out])
 go_wp2_with fail
 refine (HPA.out w1 HB1.out.bel).mono ?_
 rintro e w2 ⟨a2,c2,rfl,hn2,hb2⟩
 have HB2:=qH (((HB1.out.call hb2).got hn2).alloc (p:=w2.heap.size) rfl 41 [.slice a2 (lenW 0) c2] rfl)
 clear hn2 hb2
 have k1:=HB2.out.cell 1 0 rfl rfl
 go_wp2_with fail
 refine (show Calls Tryz.prog 69 #[.agg #[.slice a2 (lenW 0) c2]] _ _ from nzero_is a2 c2 0 _ rfl).mono ?_
 rintro e w3 ⟨rfl,hb3⟩
 have HB3:=qH (HB2.out.call hb3)
 clear hb3 k1
 have ⟨k0,f0⟩:=HB3.out.cf1 0 rfl
 have HE:=qH (HB3.out.set 0 0 rfl rfl (fun _=>by simp) (.slice none 0 0))
 go_wp2_with fail
 have j0:=HE.out.cell 0 0 rfl rfl
 refine bodyPost_ret (v:=.tuple #[.agg #[.slice none 0 0],.slice none 0 0,eE 91]) (by simp [results,Tryz.results86,go_sem,j0,eE]) rfl ?_
 exact ⟨rfl,HE.out.bel⟩
theorem ptk_badD (a:Option Addr) (n c k:Nat) (r:List Nat) (w:World) (h:BytesN w (.slice a n c) (k::r)) (hk:k≤r.length) (hk2:k<256) (hs:n≤17592186044416) (hb8:∀ x,x∈r.take k→x<256) (hh:(r.take k).head?≠some 0) (hx:undig 256 (r.take k)=0) (hc1:c≠1):Calls Tryz.prog 86 #[.slice a n c] w fun e w'=>e=.returned (.tuple #[.agg #[.slice none 0 0],.slice none 0 0,eE 91])∧Below w.heap.size w w':=by
 obtain ⟨b,o,ea,hlt,hc⟩:=h.get 0 (x:=k) rfl
 have hlen:=h.len
 have hn:n=r.length+1:=hlen.1
 rw [Nat.add_zero] at hc
 have ea':a=some ⟨b,o,none⟩:=ea
 clear ea
 subst ea'
 have HS:=qH (fun (W:World) (hb:Below w.heap.size w W)=>(sub_head (h.below hb) hk).2 hc1)
 have HPA:=qH (fun (W:World) (hb:Below w.heap.size w W)=>(by have h9:=parse_yes _ _ _ _ W (HS.out W hb) hh hb8 (by omega);rw [hx] at h9;exact h9:Calls Tryz.prog 146 #[.slice (some ⟨b,o+1,none⟩) k (c - 1)] W (RetNB 0 true W)))
 obtain ⟨w1,hw1⟩:∃ w1,w.alloc (.cells #[.slice none 0 0] 41)=w1:=⟨_,rfl⟩
 have HW1:=qH hw1
 have HB1:=qH (show BS w [⟨w.heap.size,41,[.slice none 0 0]⟩] [] w1 from hw1▸((BS.start w).alloc (p:=w.heap.size) rfl 41 [.slice none 0 0] rfl))
 clear hw1
 have c1:=(HB1.out.bel.cell (p:=⟨b,o,none⟩) hlt).trans hc
 have h0:((n:Int)==0)=false:=beq_eq_false_iff_ne.2 (by omega)
 have h1:¬ (n:Int) - 1<(k:Int):=by omega
 have h2:(0:Int)<(n:Int):=by omega
 have h3:(1:Int)+(k:Int)≤(c:Int):=by omega
 have h4:c≤9223372036854775807:=by omega
 skip
 clear h hlt hc hlen hn hx hb8 hh
 go_enter Tryz.func86,Tryz.ntmps86
 go_upto_region 1 with fail
 (try simp only [HW1.out])
 go_wp2_with fail
 refine (HPA.out w1 HB1.out.bel).mono ?_
 rintro e w2 ⟨a2,c2,rfl,hn2,hb2⟩
 have HB2:=qH (((HB1.out.call hb2).got hn2).alloc (p:=w2.heap.size) rfl 41 [.slice a2 (lenW 0) c2] rfl)
 clear hn2 hb2
 have k1:=HB2.out.cell 1 0 rfl rfl
 go_wp2_with fail
 refine (show Calls Tryz.prog 69 #[.agg #[.slice a2 (lenW 0) c2]] _ _ from nzero_is a2 c2 0 _ rfl).mono ?_
 rintro e w3 ⟨rfl,hb3⟩
 have HB3:=qH (HB2.out.call hb3)
 clear hb3 k1
 have ⟨k0,f0⟩:=HB3.out.cf1 0 rfl
 have HE:=qH (HB3.out.set 0 0 rfl rfl (fun _=>by simp) (.slice none 0 0))
 go_wp2_with fail
 have j0:=HE.out.cell 0 0 rfl rfl
 refine bodyPost_ret (v:=.tuple #[.agg #[.slice none 0 0],.slice none 0 0,eE 91]) (by simp [results,Tryz.results86,go_sem,j0,eE]) rfl ?_
 exact ⟨rfl,HE.out.bel⟩
theorem ptk_okA (a:Option Addr) (n c k:Nat) (r:List Nat) (w:World) {R:World→Prop} (hR:∀ W,R W→BytesN W (.slice a n c) (k::r)) (hRw:R w) (hk:k≤r.length) (hk2:k<256) (hs:n≤17592186044416) (hb8:∀ x,x∈r.take k→x<256) (hh:(r.take k).head?≠some 0) (hx:undig 256 (r.take k)≠0) (hc1:c≠1) (hc2:c=1+k):Calls Tryz.prog 86 #[.slice a n c] w (RetT9 R (.ok (undig 256 (r.take k),r.drop k)) w):=by
 have h:=hR w hRw
 obtain ⟨b,o,ea,hlt,hc⟩:=h.get 0 (x:=k) rfl
 have hlen:=h.len
 have hn:n=r.length+1:=hlen.1
 rw [Nat.add_zero] at hc
 have ea':a=some ⟨b,o,none⟩:=ea
 clear ea
 subst ea'
 have hcc:=hc
 have HS:=qH (fun (W:World) (hb:Below w.heap.size w W)=>(sub_head (h.below hb) hk).2 hc1)
 have HTL:=qH (fun (W:World) (hb:R W)=>(sub_tail (hR W hb) hk).1 hc2)
 have HPA:=qH (fun (W:World) (hb:Below w.heap.size w W)=>(by have h9:=parse_yes _ _ _ _ W (HS.out W hb) hh hb8 (by omega);rw [show c - 1=k by omega] at h9;exact h9:Calls Tryz.prog 146 #[.slice (some ⟨b,o+1,none⟩) k k] W (RetNB (undig 256 (r.take k)) true W)))
 have hdl:(r.drop k).length=n - (1+k):=by rw [List.length_drop];omega
 obtain ⟨Q,hQ⟩:∃ Q,r.drop k=Q:=⟨_,rfl⟩
 obtain ⟨v,hv⟩:∃ v,undig 256 (r.take k)=v:=⟨_,rfl⟩
 rw [hQ] at hdl HTL ⊢
 rw [hv] at HPA hx ⊢
 unfold RetT9
 rw [hdl] at HTL
 simp only [hdl]
 obtain ⟨w1,hw1⟩:∃ w1,w.alloc (.cells #[.slice none 0 0] 41)=w1:=⟨_,rfl⟩
 have HW1:=qH hw1
 have HB1:=qH (show BS w [⟨w.heap.size,41,[.slice none 0 0]⟩] [] w1 from hw1▸((BS.start w).alloc (p:=w.heap.size) rfl 41 [.slice none 0 0] rfl))
 clear hw1
 have c1:=(HB1.out.bel.cell (p:=⟨b,o,none⟩) hlt).trans hc
 have h0:((n:Int)==0)=false:=beq_eq_false_iff_ne.2 (by omega)
 have h1:¬ (n:Int) - 1<(k:Int):=by omega
 have h2:(0:Int)<(n:Int):=by omega
 have h3:(1:Int)+(k:Int)≤(c:Int):=by omega
 have h4:c≤9223372036854775807:=by omega
 have h5:(1:Int)+(k:Int)≤(n:Int):=by omega
 subst hc2
 have HZ:=qH (fun (a2:Option Addr) (c2:Nat) (W:World)=>nzero_no a2 c2 v W hx)
 clear h hc hlen hn hb8 hh hdl hQ hv hx hR hRw
 go_enter Tryz.func86,Tryz.ntmps86
 go_upto_region 1 with fail
 (try simp only [HW1.out])
 go_wp2_with fail
 refine (HPA.out w1 HB1.out.bel).mono ?_
 rintro e w2 ⟨a2,c2,rfl,hn2,hb2⟩
 have HB2:=qH (((HB1.out.call hb2).got hn2).alloc (p:=w2.heap.size) rfl 41 [.slice a2 (lenW v) c2] rfl)
 clear hn2 hb2
 have k1:=HB2.out.cell 1 0 rfl rfl
 go_wp2_with fail
 refine (HZ.out a2 c2 _).mono ?_
 rintro e w3 ⟨rfl,hb3⟩
 have HB3:=qH (HB2.out.call hb3)
 clear hb3 k1 c1
 have ⟨k0,f0⟩:=HB3.out.cf1 0 rfl
 have k1:=HB3.out.cell 1 0 rfl rfl
 have c1:=(HB3.out.bel.cell (p:=⟨b,o,none⟩) hlt).trans hcc
 go_wp2_with fail
 have HE:=qH ((HB3.out.set 0 0 rfl rfl (fun _=>by simp) (.slice a2 (lenW v) c2)).drew)
 go_region
 go_wp2_with fail
 have j0:=HE.out.cell 0 0 rfl rfl
 refine bodyPost_ret (v:=.tuple #[.agg #[.slice a2 (lenW v) c2],.slice (some ⟨b,o,none⟩) (n - (1+k)) 0,.nilIface]) (by simp [results,Tryz.results86,go_sem,j0]) rfl ?_
 exact ⟨a2,c2,some ⟨b,o,none⟩,0,rfl,HE.out.nat 0 rfl,HTL.out,HE.out.bel⟩
theorem ptk_okB (a:Option Addr) (n c k:Nat) (r:List Nat) (w:World) {R:World→Prop} (hR:∀ W,R W→BytesN W (.slice a n c) (k::r)) (hRw:R w) (hk:k≤r.length) (hk2:k<256) (hs:n≤17592186044416) (hb8:∀ x,x∈r.take k→x<256) (hh:(r.take k).head?≠some 0) (hx:undig 256 (r.take k)≠0) (hc1:c≠1) (hc2:c≠1+k):Calls Tryz.prog 86 #[.slice a n c] w (RetT9 R (.ok (undig 256 (r.take k),r.drop k)) w):=by
 have h:=hR w hRw
 obtain ⟨b,o,ea,hlt,hc⟩:=h.get 0 (x:=k) rfl
 have hlen:=h.len
 have hn:n=r.length+1:=hlen.1
 rw [Nat.add_zero] at hc
 have ea':a=some ⟨b,o,none⟩:=ea
 clear ea
 subst ea'
 have hcc:=hc
 have HS:=qH (fun (W:World) (hb:Below w.heap.size w W)=>(sub_head (h.below hb) hk).2 hc1)
 have HTL:=qH (fun (W:World) (hb:R W)=>(sub_tail (hR W hb) hk).2 hc2)
 have HPA:=qH (fun (W:World) (hb:Below w.heap.size w W)=>(parse_yes _ _ _ _ W (HS.out W hb) hh hb8 (by omega):Calls Tryz.prog 146 #[.slice (some ⟨b,o+1,none⟩) k (c - 1)] W (RetNB (undig 256 (r.take k)) true W)))
 have hdl:(r.drop k).length=n - (1+k):=by rw [List.length_drop];omega
 obtain ⟨Q,hQ⟩:∃ Q,r.drop k=Q:=⟨_,rfl⟩
 obtain ⟨v,hv⟩:∃ v,undig 256 (r.take k)=v:=⟨_,rfl⟩
 rw [hQ] at hdl HTL ⊢
 rw [hv] at HPA hx ⊢
 unfold RetT9
 rw [hdl] at HTL
 simp only [hdl]
 obtain ⟨w1,hw1⟩:∃ w1,w.alloc (.cells #[.slice none 0 0] 41)=w1:=⟨_,rfl⟩
 have HW1:=qH hw1
 have HB1:=qH (show BS w [⟨w.heap.size,41,[.slice none 0 0]⟩] [] w1 from hw1▸((BS.start w).alloc (p:=w.heap.size) rfl 41 [.slice none 0 0] rfl))
 clear hw1
 have c1:=(HB1.out.bel.cell (p:=⟨b,o,none⟩) hlt).trans hc
 have h0:((n:Int)==0)=false:=beq_eq_false_iff_ne.2 (by omega)
 have h1:¬ (n:Int) - 1<(k:Int):=by omega
 have h2:(0:Int)<(n:Int):=by omega
 have h3:(1:Int)+(k:Int)≤(c:Int):=by omega
 have h4:c≤9223372036854775807:=by omega
 have h5:(1:Int)+(k:Int)≤(n:Int):=by omega
 skip
 have HZ:=qH (fun (a2:Option Addr) (c2:Nat) (W:World)=>nzero_no a2 c2 v W hx)
 clear h hc hlen hn hb8 hh hdl hQ hv hx hR hRw
 go_enter Tryz.func86,Tryz.ntmps86
 go_upto_region 1 with fail
 (try simp only [HW1.out])
 go_wp2_with fail
 refine (HPA.out w1 HB1.out.bel).mono ?_
 rintro e w2 ⟨a2,c2,rfl,hn2,hb2⟩
 have HB2:=qH (((HB1.out.call hb2).got hn2).alloc (p:=w2.heap.size) rfl 41 [.slice a2 (lenW v) c2] rfl)
 clear hn2 hb2
 have k1:=HB2.out.cell 1 0 rfl rfl
 go_wp2_with fail
 refine (HZ.out a2 c2 _).mono ?_
 rintro e w3 ⟨rfl,hb3⟩
 have HB3:=qH (HB2.out.call hb3)
 clear hb3 k1 c1
 have ⟨k0,f0⟩:=HB3.out.cf1 0 rfl
 have k1:=HB3.out.cell 1 0 rfl rfl
 have c1:=(HB3.out.bel.cell (p:=⟨b,o,none⟩) hlt).trans hcc
 go_wp2_with fail
 have HE:=qH ((HB3.out.set 0 0 rfl rfl (fun _=>by simp) (.slice a2 (lenW v) c2)).drew)
 go_region
 go_wp2_with fail
 have j0:=HE.out.cell 0 0 rfl rfl
 refine bodyPost_ret (v:=.tuple #[.agg #[.slice a2 (lenW v) c2],.slice (some ⟨b,o+(1+k),none⟩) (n - (1+k)) (c - (1+k)),.nilIface]) (by simp [results,Tryz.results86,go_sem,j0]) rfl ?_
 exact ⟨a2,c2,some ⟨b,o+(1+k),none⟩,(c - (1+k)),rfl,HE.out.nat 0 rfl,HTL.out,HE.out.bel⟩
theorem ptk_any (a:Option Addr) (n c:Nat) (bs:List Nat) (w:World) {R:World→Prop} (hR:∀ W,R W→BytesN W (.slice a n c) bs) (hRw:R w) (hb8:∀ x,x∈bs→x<256) (hs:n≤17592186044416):Calls Tryz.prog 86 #[.slice a n c] w (RetT9 R (takeB bs) w):=by
 have h:=hR w hRw
 cases bs with
 | nil =>
  have hn:n=0:=h.len.1
  subst hn
  exact ptk_nil a c w
 | cons k r =>
  have hk2:=hb8 k List.mem_cons_self
  have hr:∀ x,x∈r.take k→x<256:=fun x hx=>hb8 x (List.mem_cons_of_mem _ (List.mem_of_mem_take hx))
  unfold takeB
  simp only
  by_cases h1:r.length<k
  ·
   rw [if_pos h1];exact ptk_short a n c k r w h h1 hk2 hs
  ·
   rw [if_neg h1]
   have hk:k≤r.length:=by omega
   have hlen:=h.len
   have hn:n=r.length+1:=hlen.1
   by_cases h2:(r.take k).head?=some 0
   ·
    rw [if_pos (.inl h2)]
    by_cases hc1:c=1
    ·
     exact ptk_badA a n c k r w h hk hk2 hs hr h2 hc1
    ·
     exact ptk_badB a n c k r w h hk hk2 hs hr h2 hc1
   ·
    by_cases h3:undig 256 (r.take k)=0
    ·
     rw [if_pos (.inr h3)]
     by_cases hc1:c=1
     ·
      exact ptk_badC a n c k r w h hk hk2 hs hr h2 h3 hc1
     ·
      exact ptk_badD a n c k r w h hk hk2 hs hr h2 h3 hc1
    ·
     rw [if_neg fun h4=>h4.elim h2 h3]
     have hc1:c≠1:=fun hc=>by
      have:r=[]:=List.eq_nil_of_length_eq_zero (by omega)
      subst this
      rw [List.take_nil] at h3
      exact h3 rfl
     by_cases hc2:c=1+k
     ·
      exact ptk_okA a n c k r w hR hRw hk hk2 hs hr h2 h3 hc1 hc2
     ·
      exact ptk_okB a n c k r w hR hRw hk hk2 hs hr h2 h3 hc1 hc2
end Go.Proofs.YtmhainidincjhaaGreatDoor
namespace Go.Proofs.YtmhainidincjhaaGreatDoor
open Go.RowKit
def natB (s:ByteArray):List Nat:=s.data.toList.map UInt8.toNat
theorem natB_len (s:ByteArray):(natB s).length=s.size:=by unfold natB;rw [List.length_map,Array.length_toList];rfl
theorem natB_lt (s:ByteArray):∀ c,c∈natB s→c<256:=fun c hc=>by
 obtain ⟨b,_,rfl⟩:=List.mem_map.1 hc
 exact b.toNat_lt
end Go.Proofs.YtmhainidincjhaaGreatDoor
namespace Go.Proofs.YtmhainidincjhaaGreatDoor
theorem ndig_small {B n:Nat} (hB:2≤B) (h0:n≠0) (h:n<B):ndig B n=1:=by
 rw [ndig_pos hB h0,Nat.div_eq_of_lt h,ndig_zero]
theorem dig_small {B n:Nat} (hB:2≤B) (h0:n≠0) (h:n<B):dig B n=[n]:=by
 rw [dig_step hB h0,Nat.div_eq_of_lt h,dig_zero,Nat.mod_eq_of_lt h];rfl
theorem part_small {n:Nat} (h0:n≠0) (h:n<256):partB n=some [1,n]:=by
 unfold partB
 rw [ndig_small (by omega) h0 h,dig_small (by omega) h0 h];rfl
end Go.Proofs.YtmhainidincjhaaGreatDoor
