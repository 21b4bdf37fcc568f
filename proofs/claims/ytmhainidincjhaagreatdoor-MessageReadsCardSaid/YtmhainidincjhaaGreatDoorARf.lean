/-
 What the laws stand on, part Rf: contracts and plain laws of FRow, FRef27, FShort; the conditions are each law's own.
-/
import Derived.Test.YtmhainidincjhaaGreatDoorARe
import Derived.Test.YtmhainidincjhaaGreatDoorAU
set_option linter.unusedVariables false
set_option linter.unusedSimpArgs false
set_option maxRecDepth 100000
set_option maxHeartbeats 16000000
namespace Go.Proofs.YtmhainidincjhaaGreatDoor
open Go.RowKit Go.Extern.Stop Go.Stop Go.Extern
def Off (k:Option Nat) (a:Option Addr) (n:Nat):Prop:=0<n→∀ b o,a=some ⟨b,o,none⟩→some b≠k
theorem Off.own {W:World} {k:Option Nat} {a:Option Addr} {n c:Nat} (h:OwnS W a n c) (hk:∀ r,k=some r→r<W.heap.size):Off k a n:=fun _ b o ha e=>by
 subst ha
 have h1:=h b rfl
 have h2:=hk b e.symm
 omega
theorem DW.kept {W W':World} {k:Option Nat} {a:Option Addr} {n c y:Nat} (h:DW W a n c y) (ho:Off k a n) (hg:W.grownBy W' k):DW W' a n c y:=by
 rcases Nat.eq_zero_or_pos n with h0 | h0
 ·
  subst h0
  obtain ⟨a',c',e,h1,h2,h3⟩:=Sl.len h
  cases e
  exact ⟨h.1,.inl ⟨_,_,rfl,rfl,h2,h3⟩⟩
 ·
  obtain ⟨b,o,c',e,h1,h2,h3,h4⟩:=Sl.plain h h0
  cases e
  refine ⟨h.1,.inr ⟨b,o,c,rfl,h1,h2,Nat.lt_of_lt_of_le h3 hg.size,fun j u hj=>?_⟩⟩
  rw [show W'.cell? ⟨b,o+j,none⟩=W.cell? ⟨b,o+j,none⟩ by simp only [World.cell?,hg.block b h3 (ho h0 b o rfl)]]
  exact h4 j u hj
theorem DW.new {W:World} {a:Option Addr} {n c y z:Nat} (h:DW W a n c y) (hz:W.heap.size≤z):Off (some z) a n:=fun h0 b o ha e=>by
 obtain ⟨b',o',c',e',_,_,h3,_⟩:=Sl.plain h h0
 cases e'
 cases ha
 cases e
 omega
def noughtV:Value→Bool
 | .int .i64 x=>x==0
 | _=>true
theorem RD.offz {w W:World} {bs:List Bk} {ns:List Nm} {a:Option Addr} {n c y:Nat} (h:RD W a n c y) (hb:BS w bs ns W) (i:Nat) {b:Bk} (hi:bs[i]?=some b) (hz:b.cs.all noughtV=true):Off (some b.p) a n:=fun h0 b' o ha e=>by
 obtain ⟨b2,o2,c',e',_,_,hlt,hc⟩:=Sl.plain h.2 h0
 cases e'
 cases ha
 injection e with e
 subst e
 have hat:=hb.at i hi
 have top:=hc (n - 1) (IN (y / 65536^(n - 1) % 65536)) (by rw [List.getElem?_map,dgs_at (by omega)];rfl)
 have hy:y / 65536^(n - 1) % 65536≠0:=fun hz=>by
  have h1:=lt_nd y
  rw [← h.1] at h1
  obtain ⟨k,rfl⟩:∃ k,n=k+1:=⟨n - 1,by omega⟩
  have h2:=nd_le (lt_less h1 (by simpa using hz))
  have h3:=h.1
  omega
 by_cases hj:o+(n - 1)<b.cs.length
 ·
  have c0:=hb.cell i (o+(n - 1)) hi (List.getElem?_eq_getElem hj)
  rw [c0] at top
  injection top with top
  have hm:=List.all_eq_true.1 hz _ (List.getElem_mem hj)
  rw [top] at hm
  unfold noughtV at hm
  have hm2:=of_decide_eq_true (p:=((y / 65536^(n - 1) % 65536:Nat):Int)=0) (by simpa using hm)
  exact hy (by omega)
 ·
  simp only [World.cell?,hat] at top
  rw [show b.cs.toArray[o+(n - 1)]?=none from by simp;omega] at top
  cases top
structure EvR (k:Option Nat) (W:World) (v:VE):Prop where
 ok:(VP.rat v.q v.s v.a v.n v.c v.b v.m v.d).ok W
 na:Off k v.a v.n
 nb:Off k v.b v.m
section
variable {w W W' : World} {k k' : Option Nat} {v : VE} {bs : List Bk} {ns : List Nm}
theorem EvR.none (h:EvR k W v):EvR Option.none W v:=⟨h.ok,(fun _ _ _ _ e=>by cases e),(fun _ _ _ _ e=>by cases e)⟩
theorem EvR.below (h:EvR k W v) (hb:Below W.heap.size W W'):EvR k W' v:=⟨VP.ok.below h.ok hb,h.na,h.nb⟩
theorem EvR.own {W0:World} (h:EvR Option.none W v) (h1:OwnS W0 v.a v.n v.c) (h2:OwnS W0 v.b v.m v.d) (hk:∀ r,k=some r→r<W0.heap.size):EvR k W v:=⟨h.ok,Off.own h1 hk,Off.own h2 hk⟩
theorem EvR.set (h:EvR k W v) (hb:BS w bs ns W) (i j:Nat) (u:Value) {b:Bk} {c0:Value} (hi:bs[i]?=some b) (hj:b.cs[j]?=some c0) (hn:∀ s,c0≠.int .i64 s):EvR k (W.setCell ⟨b.p,j,Option.none⟩ u) v :=
 ⟨⟨h.ok.1,h.ok.2.1.set hb i j u hi hj hn,h.ok.2.2⟩,h.na,h.nb⟩
theorem EvR.offz (h:EvR k W v) (hb:BS w bs ns W) (i:Nat) {b:Bk} (hi:bs[i]?=some b) (hz:b.cs.all noughtV=true):EvR (some b.p) W v :=
 ⟨h.ok,h.ok.2.1.num.offz hb i hi hz,h.ok.2.1.den.offz hb i hi hz⟩
theorem DW.setoff {a:Option Addr} {n c y p:Nat} (h:DW W a n c y) (ho:Off (some p) a n) (j:Nat) (u:Value):DW (W.setCell ⟨p,j,Option.none⟩ u) a n c y:=by
 rcases Nat.eq_zero_or_pos n with h0 | h0
 ·
  subst h0
  obtain ⟨a',c',e,h1,h2,h3⟩:=Sl.len h
  cases e
  exact ⟨h.1,.inl ⟨_,_,rfl,rfl,h2,h3⟩⟩
 ·
  obtain ⟨b,o,c',e,h1,h2,h3,h4⟩:=Sl.plain h h0
  cases e
  refine ⟨h.1,.inr ⟨b,o,c,rfl,h1,h2,by simpa using h3,fun i u2 hi=>?_⟩⟩
  rw [World.cell?_setCell_other]
  ·
   exact h4 i u2 hi
  ·
   intro e2
   injection e2 with e2
   exact ho h0 b o rfl (by rw [e2])
theorem EvR.setP {p:Nat} (h:EvR (some p) W v) (j:Nat) (u:Value):EvR (some p) (W.setCell ⟨p,j,Option.none⟩ u) v :=
 ⟨⟨h.ok.1,⟨⟨h.ok.2.1.num.1,DW.setoff h.ok.2.1.num.2 h.na j u⟩,⟨h.ok.2.1.den.1,DW.setoff h.ok.2.1.den.2 h.nb j u⟩⟩,h.ok.2.2⟩,h.na,h.nb⟩
theorem EvR.push {W6:World} {ob:Obj} (h:EvR k W v) (hg:(W.alloc ob).grownBy W6 k) (hk:k'=k∨k'=some (W.alloc ob).heap.size):EvR k' W6 v:=by
 have h1:=h.below (belowBox W ob)
 have hw:W.heap.size≤(W.alloc ob).heap.size:=(belowBox W ob).size
 refine ⟨⟨h1.ok.1,⟨⟨h1.ok.2.1.num.1,DW.kept h1.ok.2.1.num.2 h.na hg⟩,⟨h1.ok.2.1.den.1,DW.kept h1.ok.2.1.den.2 h.nb hg⟩⟩,h1.ok.2.2⟩,?_,?_⟩
 ·
  rcases hk with rfl | rfl
  ·
   exact h.na
  ·
   exact DW.new h.ok.2.1.num.2 hw
 ·
  rcases hk with rfl | rfl
  ·
   exact h.nb
  ·
   exact DW.new h.ok.2.1.den.2 hw
end
theorem Tryz.infoREn:(Tryz.prog.info? 154).map (fun i=>(i.zero,i.size,i.bytes))=some (some (.agg #[.int .i64 0,.bool false,.slice none 0 0,.slice none 0 0]),4,64):=by kernel_rfl
theorem Tryz.underlyingREs:Tryz.prog.underlying 61=some (.slice 154):=by kernel_rfl
theorem Tryz.infoRM:(Tryz.prog.info? 63).map (fun i=>(i.zero,i.size,i.bytes))=some (some (.agg #[.int .i64 0,.int .i64 0,.int .i64 0,.string ⟨#[]⟩,.string ⟨#[]⟩,.int .i64 0,.int .i64 0,.int .i64 0,.int .i64 0,.bool false,.slice none 0 0,.slice none 0 0,.slice none 0 0]),13,168):=by kernel_rfl
theorem f27place (k:Int) (w:World):Calls Tryz.prog 23 #[.int .i64 k] w fun e w'=>e=.returned (.string (if k=0 then ⟨#[]⟩ else ⟨#[98,121,116,101]⟩))∧Below w.heap.size w w':=by
 by_cases h:k=0
 ·
  subst h
  rw [if_pos rfl]
  go_enter Tryz.func23,Tryz.ntmps23
  go_wp2_with fail
  go_ret
  exact ⟨rfl,Below.refl _ _⟩
 ·
  rw [if_neg h]
  have h0:(k==0)=false:=beq_eq_false_iff_ne.2 h
  clear h
  go_enter Tryz.func23,Tryz.ntmps23
  go_wp2_with fail
  go_ret
  exact ⟨rfl,Below.refl _ _⟩
end Go.Proofs.YtmhainidincjhaaGreatDoor
