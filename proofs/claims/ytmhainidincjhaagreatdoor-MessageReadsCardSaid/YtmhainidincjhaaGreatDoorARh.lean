/-
 What the laws stand on, part Rh: contracts and plain laws of FDec, FDec2; the conditions are each law's own.
-/
import Derived.Test.YtmhainidincjhaaGreatDoorARg
import Derived.Test.YtmhainidincjhaaGreatDoorARc
import Derived.Test.YtmhainidincjhaaGreatDoorARb
import Derived.Test.YtmhainidincjhaaGreatDoorAL
set_option linter.unusedVariables false
set_option linter.unusedSimpArgs false
set_option maxRecDepth 100000
set_option maxHeartbeats 16000000
namespace Go.Proofs.YtmhainidincjhaaGreatDoor
open Go.RowKit Go.Extern.Stop Go.Stop Go.Extern
theorem RT.fin {w W:World} {bs:List Bk} {ns:List Nm} {a:Option Addr} {n c y p:Nat} {T:TypeId} {st:ByteArray} (h:RT W a n c y) (hb:BS w bs ns W) (i:Nat) (hi:bs[i]?=some ⟨p,T,[.int .i64 0,.string st,.int .i64 0]⟩) (v0 v1 v2:Value) :
  RT (((W.setCell ⟨p,0,none⟩ v0).setCell ⟨p,1,none⟩ v1).setCell ⟨p,2,none⟩ v2) a n c y:=by
 rcases Nat.eq_zero_or_pos n with h0 | h0
 ·
  subst h0
  refine ⟨h.1,h.2.1,.inl ?_⟩
  obtain ⟨a',c',e,h1,h2,h3⟩:=Sl.len h.2
  cases e
  exact ⟨_,_,rfl,rfl,h2,h3⟩
 ·
  obtain ⟨b,o,c',e,hl1,hl2,hlt,hc⟩:=Sl.plain h.2 h0
  have hne:b≠p:=fun hbp=>by
   subst hbp
   have c0:=hb.cell i 0 hi rfl
   have c1:=hb.cell i 1 hi rfl
   have c2:=hb.cell i 2 hi rfl
   have hat:=hb.at i hi
   have top:=hc (n - 1) (IN (y / 65536^(n - 1) % 65536)) (by rw [List.getElem?_map,dgs_at (by omega)];rfl)
   have hy:y / 65536^(n - 1) % 65536≠0:=fun hz=>by
    have h1:=lt_nd y
    rw [← h.1] at h1
    obtain ⟨k,rfl⟩:∃ k,n=k+1:=⟨n - 1,by omega⟩
    have h2:=nd_le (lt_less h1 (by simpa using hz))
    have h3:=h.1
    omega
   obtain ⟨z,hz⟩:∃ z,o+(n - 1)=z:=⟨_,rfl⟩
   rw [hz] at top
   rcases (show z=0∨z=1∨z=2∨2<z by omega) with rfl | rfl | rfl | h3
   ·
    rw [c0] at top;injection top with top;injection top with _ top;exact hy (by omega)
   ·
    rw [c1] at top;injection top with top;cases top
   ·
    rw [c2] at top;injection top with top;injection top with _ top;exact hy (by omega)
   ·
    have:W.cell? ⟨b,z,none⟩=none:=by
     simp only [World.cell?,hat]
     simp;omega
    rw [this] at top;cases top
  refine ⟨h.1,h.2.1,.inr ⟨b,o,c',e,hl1,hl2,by simpa using hlt,fun j u hj=>?_⟩⟩
  have h9:=hc j u hj
  rw [World.cell?_setCell_other,World.cell?_setCell_other,World.cell?_setCell_other]
  ·
   exact h9
  all_goals
   intro e9
   injection e9 with e9
   exact hne e9.symm
theorem BS.old {w W:World} {bs:List Bk} {ns:List Nm} {b o:Nat} {v:Value} (h:BS w bs ns W) (hb:b<w.heap.size) (hc:w.cell? ⟨b,o,none⟩=some v):W.cell? ⟨b,o,none⟩=some v∧b<W.heap.size :=
 ⟨(h.bel.cell (p:=⟨b,o,none⟩) hb).trans hc,Nat.lt_of_lt_of_le hb h.bel.size⟩
theorem OwnS.box {w W:World} {bs:List Bk} {ns:List Nm} (h:BS w bs ns W) (i:Nat) {b:Bk} (hi:bs[i]?=some b):OwnS w (some ⟨b.p,0,none⟩) 1 1:=fun k hk=>by
 injection hk with hk
 rw [← hk]
 exact (h.box b (List.mem_of_getElem? hi)).2
theorem f9dec_nil (a:Option Addr) (c:Nat) (w:World):Calls Tryz.prog 36 #[.slice a 0 c] w (fun e w'=>∃ a9 n9 c9 b9 m9 d9,e=.returned (.tuple #[.agg #[.bool false,.slice a9 n9 c9,.slice b9 m9 d9],.int .i64 0,.agg #[.int .i64 90,.string ⟨#[]⟩,.int .i64 0]])∧(QW w' a9 n9 c9 b9 m9 d9 0 1∧OwnS w a9 n9 c9∧OwnS w b9 m9 d9)∧Below w.heap.size w w'):=by
 obtain ⟨W0,hW0⟩:∃ W0,W0=((((w.alloc (.cells #[.bool false,.slice none 0 0,.slice none 0 0] 60)).alloc (.cells #[.int .i64 0,.string ⟨#[]⟩,.int .i64 0] 74)).alloc (.cells #[.int .i64 1] 3)).alloc (.cells #[.bool false,.slice none 0 0,.slice (some ⟨w.heap.size+1+1,0,none⟩) 1 1] 60)):=⟨_,rfl⟩
 have hbs:BS w [⟨w.heap.size,60,[.bool false,.slice none 0 0,.slice none 0 0]⟩,⟨w.heap.size+1,74,[.int .i64 0,.string ⟨#[]⟩,.int .i64 0]⟩,⟨w.heap.size+1+1,3,[.int .i64 1]⟩,⟨w.heap.size+1+1+1,60,[.bool false,.slice none 0 0,.slice (some ⟨w.heap.size+1+1,0,none⟩) 1 1]⟩] [] ((((w.alloc (.cells #[.bool false,.slice none 0 0,.slice none 0 0] 60)).alloc (.cells #[.int .i64 0,.string ⟨#[]⟩,.int .i64 0] 74)).alloc (.cells #[.int .i64 1] 3)).alloc (.cells #[.bool false,.slice none 0 0,.slice (some ⟨w.heap.size+1+1,0,none⟩) 1 1] 60)) :=
   (((((BS.start w).alloc (p:=w.heap.size) rfl 60 [.bool false,.slice none 0 0,.slice none 0 0] rfl).alloc (p:=w.heap.size+1) (by simp) 74 [.int .i64 0,.string ⟨#[]⟩,.int .i64 0] rfl).alloc (p:=w.heap.size+1+1) (by simp) 3 [.int .i64 1] rfl).alloc (p:=w.heap.size+1+1+1) (by simp) 60 [.bool false,.slice none 0 0,.slice (some ⟨w.heap.size+1+1,0,none⟩) 1 1] rfl)
 rw [← hW0] at hbs
 have HW0:=Lib.hid hW0
 have HN:=Lib.hid hbs
 clear hW0 hbs
 go_enter Tryz.func36,Tryz.ntmps36
 go_upto_region 3 with fail
 rw [← HW0.out]
 have HD1:=Lib.hid (RT.one (HN.out.at 2 rfl))
 have ⟨k00,f00,k01,f01,k02,f02⟩:=HN.out.cf3 0 rfl
 have ⟨k10,f10,k11,f11,k12,f12⟩:=HN.out.cf3 1 rfl
 have ⟨k30,f30,k31,f31,k32,f32⟩:=HN.out.cf3 3 rfl
 have B0:=Lib.hid (HN.out.set 0 0 rfl rfl (fun _=>by simp) (.bool false))
 have B1:=Lib.hid (B0.out.set 0 1 rfl rfl (fun _=>by simp) (.slice none 0 0))
 have B2:=Lib.hid (B1.out.set 0 2 rfl rfl (fun _=>by simp) (.slice (some ⟨w.heap.size+1+1,0,none⟩) 1 1))
 have B3:=Lib.hid (B2.out.set 1 0 rfl rfl (fun _=>by simp) (.int .i64 90))
 have B4:=Lib.hid (B3.out.set 1 1 rfl rfl (fun _=>by simp) (.string ⟨#[]⟩))
 have HE:=Lib.hid (B4.out.set 1 2 rfl rfl (fun _=>by simp) (.int .i64 0))
 have HD1E:=Lib.hid (RT.fin (RT.set (RT.set (RT.set HD1.out HN.out 0 0 (.bool false) rfl rfl (fun _=>by simp)) B0.out 0 1 (.slice none 0 0) rfl rfl (fun _=>by simp)) B1.out 0 2 (.slice (some ⟨w.heap.size+1+1,0,none⟩) 1 1) rfl rfl (fun _=>by simp)) B2.out 1 rfl (.int .i64 90) (.string ⟨#[]⟩) (.int .i64 0))
 have ⟨j0_0,j1_0,j2_0⟩:=HE.out.cg3 0 rfl
 have ⟨j0_1,j1_1,j2_1⟩:=HE.out.cg3 1 rfl
 go_wp2_with fail
 refine bodyPost_ret (v:=.tuple #[.agg #[.bool false,.slice none 0 0,.slice (some ⟨w.heap.size+1+1,0,none⟩) 1 1],.int .i64 0,.agg #[.int .i64 90,.string ⟨#[]⟩,.int .i64 0]]) (by simp [results,Tryz.results36,go_sem,j0_0,j1_0,j2_0,j0_1,j1_1,j2_1]) rfl ?_
 exact ⟨none,0,0,_,_,_,rfl,⟨⟨RD.nil _,HD1E.out.rd⟩,OwnS.nil w,OwnS.box HN.out 2 rfl⟩,HE.out.bel⟩
theorem f9dec_big (b o n c t:Nat) (w:World) (hcl:n≤c∧c≤9223372036854775807) (hn:0<n) (hb:b<w.heap.size) (hcell:w.cell? ⟨b,o,none⟩=some (.int .u8 (t:Nat))) (ht:4<t):Calls Tryz.prog 36 #[.slice (some ⟨b,o,none⟩) n c] w (fun e w'=>∃ a9 n9 c9 b9 m9 d9,e=.returned (.tuple #[.agg #[.bool false,.slice a9 n9 c9,.slice b9 m9 d9],.int .i64 0,.agg #[.int .i64 91,.string ⟨#[]⟩,.int .i64 0]])∧(QW w' a9 n9 c9 b9 m9 d9 0 1∧OwnS w a9 n9 c9∧OwnS w b9 m9 d9)∧Below w.heap.size w w'):=by
 have e0:((n:Int)==0)=false:=beq_eq_false_iff_ne.2 (by omega)
 obtain ⟨W0,hW0⟩:∃ W0,W0=((((w.alloc (.cells #[.bool false,.slice none 0 0,.slice none 0 0] 60)).alloc (.cells #[.int .i64 0,.string ⟨#[]⟩,.int .i64 0] 74)).alloc (.cells #[.int .i64 1] 3)).alloc (.cells #[.bool false,.slice none 0 0,.slice (some ⟨w.heap.size+1+1,0,none⟩) 1 1] 60)):=⟨_,rfl⟩
 have hbs:BS w [⟨w.heap.size,60,[.bool false,.slice none 0 0,.slice none 0 0]⟩,⟨w.heap.size+1,74,[.int .i64 0,.string ⟨#[]⟩,.int .i64 0]⟩,⟨w.heap.size+1+1,3,[.int .i64 1]⟩,⟨w.heap.size+1+1+1,60,[.bool false,.slice none 0 0,.slice (some ⟨w.heap.size+1+1,0,none⟩) 1 1]⟩] [] ((((w.alloc (.cells #[.bool false,.slice none 0 0,.slice none 0 0] 60)).alloc (.cells #[.int .i64 0,.string ⟨#[]⟩,.int .i64 0] 74)).alloc (.cells #[.int .i64 1] 3)).alloc (.cells #[.bool false,.slice none 0 0,.slice (some ⟨w.heap.size+1+1,0,none⟩) 1 1] 60)) :=
   (((((BS.start w).alloc (p:=w.heap.size) rfl 60 [.bool false,.slice none 0 0,.slice none 0 0] rfl).alloc (p:=w.heap.size+1) (by simp) 74 [.int .i64 0,.string ⟨#[]⟩,.int .i64 0] rfl).alloc (p:=w.heap.size+1+1) (by simp) 3 [.int .i64 1] rfl).alloc (p:=w.heap.size+1+1+1) (by simp) 60 [.bool false,.slice none 0 0,.slice (some ⟨w.heap.size+1+1,0,none⟩) 1 1] rfl)
 rw [← hW0] at hbs
 have HW0:=Lib.hid hW0
 have HN:=Lib.hid hbs
 clear hW0 hbs
 go_enter Tryz.func36,Tryz.ntmps36
 go_upto_region 2 with fail
 rw [← HW0.out]
 have ⟨hc0,hl0⟩:=HN.out.old hb hcell
 go_upto_region 5 with fail
 clear hc0 hl0
 have HD1:=Lib.hid (RT.one (HN.out.at 2 rfl))
 have ⟨k00,f00,k01,f01,k02,f02⟩:=HN.out.cf3 0 rfl
 have ⟨k10,f10,k11,f11,k12,f12⟩:=HN.out.cf3 1 rfl
 have ⟨k30,f30,k31,f31,k32,f32⟩:=HN.out.cf3 3 rfl
 have B0:=Lib.hid (HN.out.set 0 0 rfl rfl (fun _=>by simp) (.bool false))
 have B1:=Lib.hid (B0.out.set 0 1 rfl rfl (fun _=>by simp) (.slice none 0 0))
 have B2:=Lib.hid (B1.out.set 0 2 rfl rfl (fun _=>by simp) (.slice (some ⟨w.heap.size+1+1,0,none⟩) 1 1))
 have B3:=Lib.hid (B2.out.set 1 0 rfl rfl (fun _=>by simp) (.int .i64 91))
 have B4:=Lib.hid (B3.out.set 1 1 rfl rfl (fun _=>by simp) (.string ⟨#[]⟩))
 have HE:=Lib.hid (B4.out.set 1 2 rfl rfl (fun _=>by simp) (.int .i64 0))
 have HD1E:=Lib.hid (RT.fin (RT.set (RT.set (RT.set HD1.out HN.out 0 0 (.bool false) rfl rfl (fun _=>by simp)) B0.out 0 1 (.slice none 0 0) rfl rfl (fun _=>by simp)) B1.out 0 2 (.slice (some ⟨w.heap.size+1+1,0,none⟩) 1 1) rfl rfl (fun _=>by simp)) B2.out 1 rfl (.int .i64 91) (.string ⟨#[]⟩) (.int .i64 0))
 have ⟨j0_0,j1_0,j2_0⟩:=HE.out.cg3 0 rfl
 have ⟨j0_1,j1_1,j2_1⟩:=HE.out.cg3 1 rfl
 go_wp2_with fail
 refine bodyPost_ret (v:=.tuple #[.agg #[.bool false,.slice none 0 0,.slice (some ⟨w.heap.size+1+1,0,none⟩) 1 1],.int .i64 0,.agg #[.int .i64 91,.string ⟨#[]⟩,.int .i64 0]]) (by simp [results,Tryz.results36,go_sem,j0_0,j1_0,j2_0,j0_1,j1_1,j2_1]) rfl ?_
 exact ⟨none,0,0,_,_,_,rfl,⟨⟨RD.nil _,HD1E.out.rd⟩,OwnS.nil w,OwnS.box HN.out 2 rfl⟩,HE.out.bel⟩
theorem f9dec_zero (b o n c:Nat) (w:World) (hcl:n≤c∧c≤9223372036854775807) (hn:0<n) (hb:b<w.heap.size) (hcell:w.cell? ⟨b,o,none⟩=some (.int .u8 0)):Calls Tryz.prog 36 #[.slice (some ⟨b,o,none⟩) n c] w (fun e w'=>∃ a9 n9 c9 b9 m9 d9,e=.returned (.tuple #[.agg #[.bool false,.slice a9 n9 c9,.slice b9 m9 d9],.int .i64 1,.agg #[.int .i64 0,.string ⟨#[]⟩,.int .i64 0]])∧(QW w' a9 n9 c9 b9 m9 d9 0 1∧OwnS w a9 n9 c9∧OwnS w b9 m9 d9)∧Below w.heap.size w w'):=by
 have e0:((n:Int)==0)=false:=beq_eq_false_iff_ne.2 (by omega)
 obtain ⟨W0,hW0⟩:∃ W0,W0=((((w.alloc (.cells #[.bool false,.slice none 0 0,.slice none 0 0] 60)).alloc (.cells #[.int .i64 0,.string ⟨#[]⟩,.int .i64 0] 74)).alloc (.cells #[.int .i64 1] 3)).alloc (.cells #[.bool false,.slice none 0 0,.slice (some ⟨w.heap.size+1+1,0,none⟩) 1 1] 60)):=⟨_,rfl⟩
 have hbs:BS w [⟨w.heap.size,60,[.bool false,.slice none 0 0,.slice none 0 0]⟩,⟨w.heap.size+1,74,[.int .i64 0,.string ⟨#[]⟩,.int .i64 0]⟩,⟨w.heap.size+1+1,3,[.int .i64 1]⟩,⟨w.heap.size+1+1+1,60,[.bool false,.slice none 0 0,.slice (some ⟨w.heap.size+1+1,0,none⟩) 1 1]⟩] [] ((((w.alloc (.cells #[.bool false,.slice none 0 0,.slice none 0 0] 60)).alloc (.cells #[.int .i64 0,.string ⟨#[]⟩,.int .i64 0] 74)).alloc (.cells #[.int .i64 1] 3)).alloc (.cells #[.bool false,.slice none 0 0,.slice (some ⟨w.heap.size+1+1,0,none⟩) 1 1] 60)) :=
   (((((BS.start w).alloc (p:=w.heap.size) rfl 60 [.bool false,.slice none 0 0,.slice none 0 0] rfl).alloc (p:=w.heap.size+1) (by simp) 74 [.int .i64 0,.string ⟨#[]⟩,.int .i64 0] rfl).alloc (p:=w.heap.size+1+1) (by simp) 3 [.int .i64 1] rfl).alloc (p:=w.heap.size+1+1+1) (by simp) 60 [.bool false,.slice none 0 0,.slice (some ⟨w.heap.size+1+1,0,none⟩) 1 1] rfl)
 rw [← hW0] at hbs
 have HW0:=Lib.hid hW0
 have HN:=Lib.hid hbs
 clear hW0 hbs
 go_enter Tryz.func36,Tryz.ntmps36
 go_upto_region 2 with fail
 rw [← HW0.out]
 have ⟨hc0,hl0⟩:=HN.out.old hb hcell
 go_upto_region 7 with fail
 clear hc0 hl0
 have HD1:=Lib.hid (RT.one (HN.out.at 2 rfl))
 have ⟨k00,f00,k01,f01,k02,f02⟩:=HN.out.cf3 0 rfl
 have ⟨k10,f10,k11,f11,k12,f12⟩:=HN.out.cf3 1 rfl
 have ⟨k30,f30,k31,f31,k32,f32⟩:=HN.out.cf3 3 rfl
 have B0:=Lib.hid (HN.out.set 0 0 rfl rfl (fun _=>by simp) (.bool false))
 have B1:=Lib.hid (B0.out.set 0 1 rfl rfl (fun _=>by simp) (.slice none 0 0))
 have B2:=Lib.hid (B1.out.set 0 2 rfl rfl (fun _=>by simp) (.slice (some ⟨w.heap.size+1+1,0,none⟩) 1 1))
 have B3:=Lib.hid (B2.out.set 1 0 rfl rfl (fun _=>by simp) (.int .i64 0))
 have B4:=Lib.hid (B3.out.set 1 1 rfl rfl (fun _=>by simp) (.string ⟨#[]⟩))
 have HE:=Lib.hid (B4.out.set 1 2 rfl rfl (fun _=>by simp) (.int .i64 0))
 have HD1E:=Lib.hid (RT.fin (RT.set (RT.set (RT.set HD1.out HN.out 0 0 (.bool false) rfl rfl (fun _=>by simp)) B0.out 0 1 (.slice none 0 0) rfl rfl (fun _=>by simp)) B1.out 0 2 (.slice (some ⟨w.heap.size+1+1,0,none⟩) 1 1) rfl rfl (fun _=>by simp)) B2.out 1 rfl (.int .i64 0) (.string ⟨#[]⟩) (.int .i64 0))
 have ⟨j0_0,j1_0,j2_0⟩:=HE.out.cg3 0 rfl
 have ⟨j0_1,j1_1,j2_1⟩:=HE.out.cg3 1 rfl
 go_wp2_with fail
 refine bodyPost_ret (v:=.tuple #[.agg #[.bool false,.slice none 0 0,.slice (some ⟨w.heap.size+1+1,0,none⟩) 1 1],.int .i64 1,.agg #[.int .i64 0,.string ⟨#[]⟩,.int .i64 0]]) (by simp [results,Tryz.results36,go_sem,j0_0,j1_0,j2_0,j0_1,j1_1,j2_1]) rfl ?_
 exact ⟨none,0,0,_,_,_,rfl,⟨⟨RD.nil _,HD1E.out.rd⟩,OwnS.nil w,OwnS.box HN.out 2 rfl⟩,HE.out.bel⟩
theorem f9dec_w_err (b o n c:Nat) (t:Nat) (ht:1≤t) (ht4:t≤2) (x2:Int) (hx2:(x2 != 0)=true) (w:World) (hcl:n≤c∧c≤9223372036854775807) (hn:0<n) (hb:b<w.heap.size) (hcell:w.cell? ⟨b,o,none⟩=some (.int .u8 (t:Nat)))
  (HT2:Hid (∀ W,Below w.heap.size w W→Calls Tryz.prog 93 #[.slice (some ⟨b,o,none⟩) n c,.int .i64 1] W fun e w'=>e=.returned (.tuple #[.slice none 0 0,.int .i64 0,.int .i64 x2])∧Below W.heap.size W w')) :
  Calls Tryz.prog 36 #[.slice (some ⟨b,o,none⟩) n c] w (fun e w'=>∃ a9 n9 c9 b9 m9 d9,e=.returned (.tuple #[.agg #[.bool false,.slice a9 n9 c9,.slice b9 m9 d9],.int .i64 0,.agg #[.int .i64 x2,.string ⟨#[110,117,109,98,101,114]⟩,.int .i64 1]])∧(QW w' a9 n9 c9 b9 m9 d9 0 1∧OwnS w a9 n9 c9∧OwnS w b9 m9 d9)∧Below w.heap.size w w'):=by
 have e0:((n:Int)==0)=false:=beq_eq_false_iff_ne.2 (by omega)
 have e1:((t:Int)==0)=false:=beq_eq_false_iff_ne.2 (by omega)
 obtain ⟨W0,hW0⟩:∃ W0,W0=((((w.alloc (.cells #[.bool false,.slice none 0 0,.slice none 0 0] 60)).alloc (.cells #[.int .i64 0,.string ⟨#[]⟩,.int .i64 0] 74)).alloc (.cells #[.int .i64 1] 3)).alloc (.cells #[.bool false,.slice none 0 0,.slice (some ⟨w.heap.size+1+1,0,none⟩) 1 1] 60)):=⟨_,rfl⟩
 have hbs:BS w [⟨w.heap.size,60,[.bool false,.slice none 0 0,.slice none 0 0]⟩,⟨w.heap.size+1,74,[.int .i64 0,.string ⟨#[]⟩,.int .i64 0]⟩,⟨w.heap.size+1+1,3,[.int .i64 1]⟩,⟨w.heap.size+1+1+1,60,[.bool false,.slice none 0 0,.slice (some ⟨w.heap.size+1+1,0,none⟩) 1 1]⟩] [] ((((w.alloc (.cells #[.bool false,.slice none 0 0,.slice none 0 0] 60)).alloc (.cells #[.int .i64 0,.string ⟨#[]⟩,.int .i64 0] 74)).alloc (.cells #[.int .i64 1] 3)).alloc (.cells #[.bool false,.slice none 0 0,.slice (some ⟨w.heap.size+1+1,0,none⟩) 1 1] 60)) :=
   (((((BS.start w).alloc (p:=w.heap.size) rfl 60 [.bool false,.slice none 0 0,.slice none 0 0] rfl).alloc (p:=w.heap.size+1) (by simp) 74 [.int .i64 0,.string ⟨#[]⟩,.int .i64 0] rfl).alloc (p:=w.heap.size+1+1) (by simp) 3 [.int .i64 1] rfl).alloc (p:=w.heap.size+1+1+1) (by simp) 60 [.bool false,.slice none 0 0,.slice (some ⟨w.heap.size+1+1,0,none⟩) 1 1] rfl)
 rw [← hW0] at hbs
 have HW0:=Lib.hid hW0
 have HN:=Lib.hid hbs
 clear hW0 hbs
 go_enter Tryz.func36,Tryz.ntmps36
 go_upto_region 2 with fail
 rw [← HW0.out]
 have ⟨hc0,hl0⟩:=HN.out.old hb hcell
 go_upto_region 9 with fail
 have HP:=Lib.hid (HN.out.alloc (p:=W0.heap.size) rfl 3 [.int .i64 1] rfl)
 go_wp2_with fail
 clear HN
 have HN:=HP
 clear HP
 obtain ⟨p0,hp0⟩:∃ p0,W0.heap.size=p0:=⟨_,rfl⟩
 rw [hp0] at HN
 (try simp only [hp0])
 clear hp0
 generalize W0.alloc (.cells #[.int .i64 1] 3)=wa1 at HN ⊢
 refine (HT2.out _ HN.out.bel).mono ?_
 rintro e w2 ⟨rfl,hb⟩
 replace HN:=Lib.hid (HN.out.call hb)
 clear hb 
 clear hc0 hl0
 have HD1:=Lib.hid (RT.one (HN.out.at 2 rfl))
 have ⟨k00,f00,k01,f01,k02,f02⟩:=HN.out.cf3 0 rfl
 have ⟨k10,f10,k11,f11,k12,f12⟩:=HN.out.cf3 1 rfl
 have ⟨k30,f30,k31,f31,k32,f32⟩:=HN.out.cf3 3 rfl
 have B0:=Lib.hid (HN.out.set 0 0 rfl rfl (fun _=>by simp) (.bool false))
 have B1:=Lib.hid (B0.out.set 0 1 rfl rfl (fun _=>by simp) (.slice none 0 0))
 have B2:=Lib.hid (B1.out.set 0 2 rfl rfl (fun _=>by simp) (.slice (some ⟨w.heap.size+1+1,0,none⟩) 1 1))
 have B3:=Lib.hid (B2.out.set 1 0 rfl rfl (fun _=>by simp) (.int .i64 x2))
 have B4:=Lib.hid (B3.out.set 1 1 rfl rfl (fun _=>by simp) (.string ⟨#[110,117,109,98,101,114]⟩))
 have HE:=Lib.hid (B4.out.set 1 2 rfl rfl (fun _=>by simp) (.int .i64 1))
 have HD1E:=Lib.hid (RT.fin (RT.set (RT.set (RT.set HD1.out HN.out 0 0 (.bool false) rfl rfl (fun _=>by simp)) B0.out 0 1 (.slice none 0 0) rfl rfl (fun _=>by simp)) B1.out 0 2 (.slice (some ⟨w.heap.size+1+1,0,none⟩) 1 1) rfl rfl (fun _=>by simp)) B2.out 1 rfl (.int .i64 x2) (.string ⟨#[110,117,109,98,101,114]⟩) (.int .i64 1))
 have ⟨j0_0,j1_0,j2_0⟩:=HE.out.cg3 0 rfl
 have ⟨j0_1,j1_1,j2_1⟩:=HE.out.cg3 1 rfl
 go_wp2_with fail
 refine bodyPost_ret (v:=.tuple #[.agg #[.bool false,.slice none 0 0,.slice (some ⟨w.heap.size+1+1,0,none⟩) 1 1],.int .i64 0,.agg #[.int .i64 x2,.string ⟨#[110,117,109,98,101,114]⟩,.int .i64 1]]) (by simp [results,Tryz.results36,go_sem,j0_0,j1_0,j2_0,j0_1,j1_1,j2_1]) rfl ?_
 exact ⟨none,0,0,_,_,_,rfl,⟨⟨RD.nil _,HD1E.out.rd⟩,OwnS.nil w,OwnS.box HN.out 2 rfl⟩,HE.out.bel⟩
theorem f9dec_w_ok1 (b o n c:Nat) (p t2 k:Nat) (hk:((1:Int)+(t2:Int))=(k:Int)) (hkb:k≤1048577) (qs:Bool) (w:World) (hcl:n≤c∧c≤9223372036854775807) (hn:0<n) (hb:b<w.heap.size) (hcell:w.cell? ⟨b,o,none⟩=some (.int .u8 1))
  (HT2:Hid (∀ W,Below w.heap.size w W→Calls Tryz.prog 93 #[.slice (some ⟨b,o,none⟩) n c,.int .i64 1] W fun e w'=>∃ a4 m4 c4,e=.returned (.tuple #[.slice a4 m4 c4,.int .i64 (t2:Nat),.int .i64 0])∧RD w' a4 m4 c4 p∧OwnS w a4 m4 c4∧Below W.heap.size W w'))
  (HNW:Hid (∀ a4 m4 c4 W,RT W a4 m4 c4 p→Calls Tryz.prog 76 #[.bool false,.slice a4 m4 c4] W fun e w'=>e=.returned (.agg #[.bool qs,.slice a4 m4 c4])∧Below W.heap.size W w')) :
  Calls Tryz.prog 36 #[.slice (some ⟨b,o,none⟩) n c] w (fun e w'=>∃ a9 n9 c9 b9 m9 d9,e=.returned (.tuple #[.agg #[.bool qs,.slice a9 n9 c9,.slice b9 m9 d9],.int .i64 (k:Nat),.agg #[.int .i64 0,.string ⟨#[]⟩,.int .i64 0]])∧(QW w' a9 n9 c9 b9 m9 d9 p 1∧OwnS w a9 n9 c9∧OwnS w b9 m9 d9)∧Below w.heap.size w w'):=by
 have e0:((n:Int)==0)=false:=beq_eq_false_iff_ne.2 (by omega)
 obtain ⟨W0,hW0⟩:∃ W0,W0=((((w.alloc (.cells #[.bool false,.slice none 0 0,.slice none 0 0] 60)).alloc (.cells #[.int .i64 0,.string ⟨#[]⟩,.int .i64 0] 74)).alloc (.cells #[.int .i64 1] 3)).alloc (.cells #[.bool false,.slice none 0 0,.slice (some ⟨w.heap.size+1+1,0,none⟩) 1 1] 60)):=⟨_,rfl⟩
 have hbs:BS w [⟨w.heap.size,60,[.bool false,.slice none 0 0,.slice none 0 0]⟩,⟨w.heap.size+1,74,[.int .i64 0,.string ⟨#[]⟩,.int .i64 0]⟩,⟨w.heap.size+1+1,3,[.int .i64 1]⟩,⟨w.heap.size+1+1+1,60,[.bool false,.slice none 0 0,.slice (some ⟨w.heap.size+1+1,0,none⟩) 1 1]⟩] [] ((((w.alloc (.cells #[.bool false,.slice none 0 0,.slice none 0 0] 60)).alloc (.cells #[.int .i64 0,.string ⟨#[]⟩,.int .i64 0] 74)).alloc (.cells #[.int .i64 1] 3)).alloc (.cells #[.bool false,.slice none 0 0,.slice (some ⟨w.heap.size+1+1,0,none⟩) 1 1] 60)) :=
   (((((BS.start w).alloc (p:=w.heap.size) rfl 60 [.bool false,.slice none 0 0,.slice none 0 0] rfl).alloc (p:=w.heap.size+1) (by simp) 74 [.int .i64 0,.string ⟨#[]⟩,.int .i64 0] rfl).alloc (p:=w.heap.size+1+1) (by simp) 3 [.int .i64 1] rfl).alloc (p:=w.heap.size+1+1+1) (by simp) 60 [.bool false,.slice none 0 0,.slice (some ⟨w.heap.size+1+1,0,none⟩) 1 1] rfl)
 rw [← hW0] at hbs
 have HW0:=Lib.hid hW0
 have HN:=Lib.hid hbs
 clear hW0 hbs
 go_enter Tryz.func36,Tryz.ntmps36
 go_upto_region 2 with fail
 rw [← HW0.out]
 have ⟨hc0,hl0⟩:=HN.out.old hb hcell
 go_upto_region 9 with fail
 have HP:=Lib.hid (HN.out.alloc (p:=W0.heap.size) rfl 3 [.int .i64 1] rfl)
 go_wp2_with fail
 clear HN
 have HN:=HP
 clear HP
 obtain ⟨p0,hp0⟩:∃ p0,W0.heap.size=p0:=⟨_,rfl⟩
 rw [hp0] at HN
 (try simp only [hp0])
 clear hp0
 generalize W0.alloc (.cells #[.int .i64 1] 3)=wa1 at HN ⊢
 refine (HT2.out _ HN.out.bel).mono ?_
 rintro e w2 ⟨a5,m5,c5,rfl,hr0,ho0,hb⟩
 have HOP:=Lib.hid ho0
 clear ho0
 have HP:=Lib.hid hr0.rt
 replace HN:=Lib.hid (HN.out.call hb)
 clear hb hr0
 clear hc0 hl0
 have ⟨hc0,hl0⟩:=HN.out.old hb hcell
 go_wp2_with fail
 refine (HNW.out _ _ _ _ HP.out).mono ?_
 rintro e w3 ⟨rfl,hb⟩
 replace HP:=Lib.hid (show RT w3 a5 m5 c5 p from HP.out.below hb HP.out.lt)
 replace HN:=Lib.hid (HN.out.call hb)
 clear hb 
 clear hc0 hl0
 have HM1:=Lib.hid (show RT w3 (some ⟨p0,0,none⟩) 1 1 1 from RT.one (HN.out.at 4 rfl))
 have ⟨k00,f00,k01,f01,k02,f02⟩:=HN.out.cf3 0 rfl
 have ⟨k10,f10,k11,f11,k12,f12⟩:=HN.out.cf3 1 rfl
 have ⟨k30,f30,k31,f31,k32,f32⟩:=HN.out.cf3 3 rfl
 have B0:=Lib.hid (HN.out.set 0 0 rfl rfl (fun _=>by simp) (.bool qs))
 have B1:=Lib.hid (B0.out.set 0 1 rfl rfl (fun _=>by simp) (.slice a5 m5 c5))
 have B2:=Lib.hid (B1.out.set 0 2 rfl rfl (fun _=>by simp) (.slice (some ⟨p0,0,none⟩) 1 1))
 have B3:=Lib.hid (B2.out.set 1 0 rfl rfl (fun _=>by simp) (.int .i64 0))
 have B4:=Lib.hid (B3.out.set 1 1 rfl rfl (fun _=>by simp) (.string ⟨#[]⟩))
 have HE:=Lib.hid (B4.out.set 1 2 rfl rfl (fun _=>by simp) (.int .i64 0))
 have HPE:=Lib.hid (RT.fin (RT.set (RT.set (RT.set HP.out HN.out 0 0 (.bool qs) rfl rfl (fun _=>by simp)) B0.out 0 1 (.slice a5 m5 c5) rfl rfl (fun _=>by simp)) B1.out 0 2 (.slice (some ⟨p0,0,none⟩) 1 1) rfl rfl (fun _=>by simp)) B2.out 1 rfl (.int .i64 0) (.string ⟨#[]⟩) (.int .i64 0))
 have HM1E:=Lib.hid (RT.fin (RT.set (RT.set (RT.set HM1.out HN.out 0 0 (.bool qs) rfl rfl (fun _=>by simp)) B0.out 0 1 (.slice a5 m5 c5) rfl rfl (fun _=>by simp)) B1.out 0 2 (.slice (some ⟨p0,0,none⟩) 1 1) rfl rfl (fun _=>by simp)) B2.out 1 rfl (.int .i64 0) (.string ⟨#[]⟩) (.int .i64 0))
 have ⟨j0_0,j1_0,j2_0⟩:=HE.out.cg3 0 rfl
 have ⟨j0_1,j1_1,j2_1⟩:=HE.out.cg3 1 rfl
 go_wp2_with fail
 refine bodyPost_ret (v:=.tuple #[.agg #[.bool qs,.slice a5 m5 c5,.slice (some ⟨p0,0,none⟩) 1 1],.int .i64 (k:Nat),.agg #[.int .i64 0,.string ⟨#[]⟩,.int .i64 0]]) (by simp [results,Tryz.results36,go_sem,j0_0,j1_0,j2_0,j0_1,j1_1,j2_1]) rfl ?_
 exact ⟨_,_,_,_,_,_,rfl,⟨⟨HPE.out.rd,HM1E.out.rd⟩,HOP.out,OwnS.box HN.out 4 rfl⟩,HE.out.bel⟩
theorem f9dec_w_ok2 (b o n c:Nat) (p t2 k:Nat) (hk:((1:Int)+(t2:Int))=(k:Int)) (hkb:k≤1048577) (qs:Bool) (w:World) (hcl:n≤c∧c≤9223372036854775807) (hn:0<n) (hb:b<w.heap.size) (hcell:w.cell? ⟨b,o,none⟩=some (.int .u8 2))
  (HT2:Hid (∀ W,Below w.heap.size w W→Calls Tryz.prog 93 #[.slice (some ⟨b,o,none⟩) n c,.int .i64 1] W fun e w'=>∃ a4 m4 c4,e=.returned (.tuple #[.slice a4 m4 c4,.int .i64 (t2:Nat),.int .i64 0])∧RD w' a4 m4 c4 p∧OwnS w a4 m4 c4∧Below W.heap.size W w'))
  (HNW:Hid (∀ a4 m4 c4 W,RT W a4 m4 c4 p→Calls Tryz.prog 76 #[.bool true,.slice a4 m4 c4] W fun e w'=>e=.returned (.agg #[.bool qs,.slice a4 m4 c4])∧Below W.heap.size W w')) :
  Calls Tryz.prog 36 #[.slice (some ⟨b,o,none⟩) n c] w (fun e w'=>∃ a9 n9 c9 b9 m9 d9,e=.returned (.tuple #[.agg #[.bool qs,.slice a9 n9 c9,.slice b9 m9 d9],.int .i64 (k:Nat),.agg #[.int .i64 0,.string ⟨#[]⟩,.int .i64 0]])∧(QW w' a9 n9 c9 b9 m9 d9 p 1∧OwnS w a9 n9 c9∧OwnS w b9 m9 d9)∧Below w.heap.size w w'):=by
 have e0:((n:Int)==0)=false:=beq_eq_false_iff_ne.2 (by omega)
 obtain ⟨W0,hW0⟩:∃ W0,W0=((((w.alloc (.cells #[.bool false,.slice none 0 0,.slice none 0 0] 60)).alloc (.cells #[.int .i64 0,.string ⟨#[]⟩,.int .i64 0] 74)).alloc (.cells #[.int .i64 1] 3)).alloc (.cells #[.bool false,.slice none 0 0,.slice (some ⟨w.heap.size+1+1,0,none⟩) 1 1] 60)):=⟨_,rfl⟩
 have hbs:BS w [⟨w.heap.size,60,[.bool false,.slice none 0 0,.slice none 0 0]⟩,⟨w.heap.size+1,74,[.int .i64 0,.string ⟨#[]⟩,.int .i64 0]⟩,⟨w.heap.size+1+1,3,[.int .i64 1]⟩,⟨w.heap.size+1+1+1,60,[.bool false,.slice none 0 0,.slice (some ⟨w.heap.size+1+1,0,none⟩) 1 1]⟩] [] ((((w.alloc (.cells #[.bool false,.slice none 0 0,.slice none 0 0] 60)).alloc (.cells #[.int .i64 0,.string ⟨#[]⟩,.int .i64 0] 74)).alloc (.cells #[.int .i64 1] 3)).alloc (.cells #[.bool false,.slice none 0 0,.slice (some ⟨w.heap.size+1+1,0,none⟩) 1 1] 60)) :=
   (((((BS.start w).alloc (p:=w.heap.size) rfl 60 [.bool false,.slice none 0 0,.slice none 0 0] rfl).alloc (p:=w.heap.size+1) (by simp) 74 [.int .i64 0,.string ⟨#[]⟩,.int .i64 0] rfl).alloc (p:=w.heap.size+1+1) (by simp) 3 [.int .i64 1] rfl).alloc (p:=w.heap.size+1+1+1) (by simp) 60 [.bool false,.slice none 0 0,.slice (some ⟨w.heap.size+1+1,0,none⟩) 1 1] rfl)
 rw [← hW0] at hbs
 have HW0:=Lib.hid hW0
 have HN:=Lib.hid hbs
 clear hW0 hbs
 go_enter Tryz.func36,Tryz.ntmps36
 go_upto_region 2 with fail
 rw [← HW0.out]
 have ⟨hc0,hl0⟩:=HN.out.old hb hcell
 go_upto_region 9 with fail
 have HP:=Lib.hid (HN.out.alloc (p:=W0.heap.size) rfl 3 [.int .i64 1] rfl)
 go_wp2_with fail
 clear HN
 have HN:=HP
 clear HP
 obtain ⟨p0,hp0⟩:∃ p0,W0.heap.size=p0:=⟨_,rfl⟩
 rw [hp0] at HN
 (try simp only [hp0])
 clear hp0
 generalize W0.alloc (.cells #[.int .i64 1] 3)=wa1 at HN ⊢
 refine (HT2.out _ HN.out.bel).mono ?_
 rintro e w2 ⟨a5,m5,c5,rfl,hr0,ho0,hb⟩
 have HOP:=Lib.hid ho0
 clear ho0
 have HP:=Lib.hid hr0.rt
 replace HN:=Lib.hid (HN.out.call hb)
 clear hb hr0
 clear hc0 hl0
 have ⟨hc0,hl0⟩:=HN.out.old hb hcell
 go_wp2_with fail
 refine (HNW.out _ _ _ _ HP.out).mono ?_
 rintro e w3 ⟨rfl,hb⟩
 replace HP:=Lib.hid (show RT w3 a5 m5 c5 p from HP.out.below hb HP.out.lt)
 replace HN:=Lib.hid (HN.out.call hb)
 clear hb 
 clear hc0 hl0
 have HM1:=Lib.hid (show RT w3 (some ⟨p0,0,none⟩) 1 1 1 from RT.one (HN.out.at 4 rfl))
 have ⟨k00,f00,k01,f01,k02,f02⟩:=HN.out.cf3 0 rfl
 have ⟨k10,f10,k11,f11,k12,f12⟩:=HN.out.cf3 1 rfl
 have ⟨k30,f30,k31,f31,k32,f32⟩:=HN.out.cf3 3 rfl
 have B0:=Lib.hid (HN.out.set 0 0 rfl rfl (fun _=>by simp) (.bool qs))
 have B1:=Lib.hid (B0.out.set 0 1 rfl rfl (fun _=>by simp) (.slice a5 m5 c5))
 have B2:=Lib.hid (B1.out.set 0 2 rfl rfl (fun _=>by simp) (.slice (some ⟨p0,0,none⟩) 1 1))
 have B3:=Lib.hid (B2.out.set 1 0 rfl rfl (fun _=>by simp) (.int .i64 0))
 have B4:=Lib.hid (B3.out.set 1 1 rfl rfl (fun _=>by simp) (.string ⟨#[]⟩))
 have HE:=Lib.hid (B4.out.set 1 2 rfl rfl (fun _=>by simp) (.int .i64 0))
 have HPE:=Lib.hid (RT.fin (RT.set (RT.set (RT.set HP.out HN.out 0 0 (.bool qs) rfl rfl (fun _=>by simp)) B0.out 0 1 (.slice a5 m5 c5) rfl rfl (fun _=>by simp)) B1.out 0 2 (.slice (some ⟨p0,0,none⟩) 1 1) rfl rfl (fun _=>by simp)) B2.out 1 rfl (.int .i64 0) (.string ⟨#[]⟩) (.int .i64 0))
 have HM1E:=Lib.hid (RT.fin (RT.set (RT.set (RT.set HM1.out HN.out 0 0 (.bool qs) rfl rfl (fun _=>by simp)) B0.out 0 1 (.slice a5 m5 c5) rfl rfl (fun _=>by simp)) B1.out 0 2 (.slice (some ⟨p0,0,none⟩) 1 1) rfl rfl (fun _=>by simp)) B2.out 1 rfl (.int .i64 0) (.string ⟨#[]⟩) (.int .i64 0))
 have ⟨j0_0,j1_0,j2_0⟩:=HE.out.cg3 0 rfl
 have ⟨j0_1,j1_1,j2_1⟩:=HE.out.cg3 1 rfl
 go_wp2_with fail
 refine bodyPost_ret (v:=.tuple #[.agg #[.bool qs,.slice a5 m5 c5,.slice (some ⟨p0,0,none⟩) 1 1],.int .i64 (k:Nat),.agg #[.int .i64 0,.string ⟨#[]⟩,.int .i64 0]]) (by simp [results,Tryz.results36,go_sem,j0_0,j1_0,j2_0,j0_1,j1_1,j2_1]) rfl ?_
 exact ⟨_,_,_,_,_,_,rfl,⟨⟨HPE.out.rd,HM1E.out.rd⟩,HOP.out,OwnS.box HN.out 4 rfl⟩,HE.out.bel⟩
theorem f9dec_f_derr (b o n c:Nat) (t:Nat) (ht:3≤t) (ht4:t≤4) (x1:Int) (hx1:(x1 != 0)=true) (w:World) (hcl:n≤c∧c≤9223372036854775807) (hn:0<n) (hb:b<w.heap.size) (hcell:w.cell? ⟨b,o,none⟩=some (.int .u8 (t:Nat)))
  (HT1:Hid (∀ W,Below w.heap.size w W→Calls Tryz.prog 93 #[.slice (some ⟨b,o,none⟩) n c,.int .i64 1] W fun e w'=>e=.returned (.tuple #[.slice none 0 0,.int .i64 0,.int .i64 x1])∧Below W.heap.size W w')) :
  Calls Tryz.prog 36 #[.slice (some ⟨b,o,none⟩) n c] w (fun e w'=>∃ a9 n9 c9 b9 m9 d9,e=.returned (.tuple #[.agg #[.bool false,.slice a9 n9 c9,.slice b9 m9 d9],.int .i64 0,.agg #[.int .i64 x1,.string ⟨#[100,105,118,105,115,111,114]⟩,.int .i64 1]])∧(QW w' a9 n9 c9 b9 m9 d9 0 1∧OwnS w a9 n9 c9∧OwnS w b9 m9 d9)∧Below w.heap.size w w'):=by
 have e0:((n:Int)==0)=false:=beq_eq_false_iff_ne.2 (by omega)
 have e1:((t:Int)==0)=false:=beq_eq_false_iff_ne.2 (by omega)
 obtain ⟨W0,hW0⟩:∃ W0,W0=((((w.alloc (.cells #[.bool false,.slice none 0 0,.slice none 0 0] 60)).alloc (.cells #[.int .i64 0,.string ⟨#[]⟩,.int .i64 0] 74)).alloc (.cells #[.int .i64 1] 3)).alloc (.cells #[.bool false,.slice none 0 0,.slice (some ⟨w.heap.size+1+1,0,none⟩) 1 1] 60)):=⟨_,rfl⟩
 have hbs:BS w [⟨w.heap.size,60,[.bool false,.slice none 0 0,.slice none 0 0]⟩,⟨w.heap.size+1,74,[.int .i64 0,.string ⟨#[]⟩,.int .i64 0]⟩,⟨w.heap.size+1+1,3,[.int .i64 1]⟩,⟨w.heap.size+1+1+1,60,[.bool false,.slice none 0 0,.slice (some ⟨w.heap.size+1+1,0,none⟩) 1 1]⟩] [] ((((w.alloc (.cells #[.bool false,.slice none 0 0,.slice none 0 0] 60)).alloc (.cells #[.int .i64 0,.string ⟨#[]⟩,.int .i64 0] 74)).alloc (.cells #[.int .i64 1] 3)).alloc (.cells #[.bool false,.slice none 0 0,.slice (some ⟨w.heap.size+1+1,0,none⟩) 1 1] 60)) :=
   (((((BS.start w).alloc (p:=w.heap.size) rfl 60 [.bool false,.slice none 0 0,.slice none 0 0] rfl).alloc (p:=w.heap.size+1) (by simp) 74 [.int .i64 0,.string ⟨#[]⟩,.int .i64 0] rfl).alloc (p:=w.heap.size+1+1) (by simp) 3 [.int .i64 1] rfl).alloc (p:=w.heap.size+1+1+1) (by simp) 60 [.bool false,.slice none 0 0,.slice (some ⟨w.heap.size+1+1,0,none⟩) 1 1] rfl)
 rw [← hW0] at hbs
 have HW0:=Lib.hid hW0
 have HN:=Lib.hid hbs
 clear hW0 hbs
 go_enter Tryz.func36,Tryz.ntmps36
 go_upto_region 2 with fail
 rw [← HW0.out]
 have ⟨hc0,hl0⟩:=HN.out.old hb hcell
 go_upto_region 9 with fail
 have HP:=Lib.hid (HN.out.alloc (p:=W0.heap.size) rfl 3 [.int .i64 1] rfl)
 go_wp2_with fail
 clear HN
 have HN:=HP
 clear HP
 obtain ⟨p0,hp0⟩:∃ p0,W0.heap.size=p0:=⟨_,rfl⟩
 rw [hp0] at HN
 (try simp only [hp0])
 clear hp0
 generalize W0.alloc (.cells #[.int .i64 1] 3)=wa1 at HN ⊢
 refine (HT1.out _ HN.out.bel).mono ?_
 rintro e w2 ⟨rfl,hb⟩
 replace HN:=Lib.hid (HN.out.call hb)
 clear hb 
 clear hc0 hl0
 have HD1:=Lib.hid (RT.one (HN.out.at 2 rfl))
 have ⟨k00,f00,k01,f01,k02,f02⟩:=HN.out.cf3 0 rfl
 have ⟨k10,f10,k11,f11,k12,f12⟩:=HN.out.cf3 1 rfl
 have ⟨k30,f30,k31,f31,k32,f32⟩:=HN.out.cf3 3 rfl
 have B0:=Lib.hid (HN.out.set 0 0 rfl rfl (fun _=>by simp) (.bool false))
 have B1:=Lib.hid (B0.out.set 0 1 rfl rfl (fun _=>by simp) (.slice none 0 0))
 have B2:=Lib.hid (B1.out.set 0 2 rfl rfl (fun _=>by simp) (.slice (some ⟨w.heap.size+1+1,0,none⟩) 1 1))
 have B3:=Lib.hid (B2.out.set 1 0 rfl rfl (fun _=>by simp) (.int .i64 x1))
 have B4:=Lib.hid (B3.out.set 1 1 rfl rfl (fun _=>by simp) (.string ⟨#[100,105,118,105,115,111,114]⟩))
 have HE:=Lib.hid (B4.out.set 1 2 rfl rfl (fun _=>by simp) (.int .i64 1))
 have HD1E:=Lib.hid (RT.fin (RT.set (RT.set (RT.set HD1.out HN.out 0 0 (.bool false) rfl rfl (fun _=>by simp)) B0.out 0 1 (.slice none 0 0) rfl rfl (fun _=>by simp)) B1.out 0 2 (.slice (some ⟨w.heap.size+1+1,0,none⟩) 1 1) rfl rfl (fun _=>by simp)) B2.out 1 rfl (.int .i64 x1) (.string ⟨#[100,105,118,105,115,111,114]⟩) (.int .i64 1))
 have ⟨j0_0,j1_0,j2_0⟩:=HE.out.cg3 0 rfl
 have ⟨j0_1,j1_1,j2_1⟩:=HE.out.cg3 1 rfl
 go_wp2_with fail
 refine bodyPost_ret (v:=.tuple #[.agg #[.bool false,.slice none 0 0,.slice (some ⟨w.heap.size+1+1,0,none⟩) 1 1],.int .i64 0,.agg #[.int .i64 x1,.string ⟨#[100,105,118,105,115,111,114]⟩,.int .i64 1]]) (by simp [results,Tryz.results36,go_sem,j0_0,j1_0,j2_0,j0_1,j1_1,j2_1]) rfl ?_
 exact ⟨none,0,0,_,_,_,rfl,⟨⟨RD.nil _,HD1E.out.rd⟩,OwnS.nil w,OwnS.box HN.out 2 rfl⟩,HE.out.bel⟩
theorem f9dec_f_nerr (b o n c:Nat) (t:Nat) (ht:3≤t) (ht4:t≤4) (d t1 j:Nat) (hj:(1:Int)+(t1:Int)=(j:Int)) (hjb:j≤1048577) (x2:Int) (hx2:(x2 != 0)=true) (w:World) (hcl:n≤c∧c≤9223372036854775807) (hn:0<n) (hb:b<w.heap.size) (hcell:w.cell? ⟨b,o,none⟩=some (.int .u8 (t:Nat)))
  (HT1:Hid (∀ W,Below w.heap.size w W→Calls Tryz.prog 93 #[.slice (some ⟨b,o,none⟩) n c,.int .i64 1] W fun e w'=>∃ a4 m4 c4,e=.returned (.tuple #[.slice a4 m4 c4,.int .i64 (t1:Nat),.int .i64 0])∧RD w' a4 m4 c4 d∧OwnS w a4 m4 c4∧Below W.heap.size W w'))
  (HT2:Hid (∀ W,Below w.heap.size w W→Calls Tryz.prog 93 #[.slice (some ⟨b,o,none⟩) n c,.int .i64 (j:Nat)] W fun e w'=>e=.returned (.tuple #[.slice none 0 0,.int .i64 0,.int .i64 x2])∧Below W.heap.size W w')) :
  Calls Tryz.prog 36 #[.slice (some ⟨b,o,none⟩) n c] w (fun e w'=>∃ a9 n9 c9 b9 m9 d9,e=.returned (.tuple #[.agg #[.bool false,.slice a9 n9 c9,.slice b9 m9 d9],.int .i64 0,.agg #[.int .i64 x2,.string ⟨#[110,117,109,98,101,114]⟩,.int .i64 (j:Nat)]])∧(QW w' a9 n9 c9 b9 m9 d9 0 1∧OwnS w a9 n9 c9∧OwnS w b9 m9 d9)∧Below w.heap.size w w'):=by
 have e0:((n:Int)==0)=false:=beq_eq_false_iff_ne.2 (by omega)
 have e1:((t:Int)==0)=false:=beq_eq_false_iff_ne.2 (by omega)
 obtain ⟨W0,hW0⟩:∃ W0,W0=((((w.alloc (.cells #[.bool false,.slice none 0 0,.slice none 0 0] 60)).alloc (.cells #[.int .i64 0,.string ⟨#[]⟩,.int .i64 0] 74)).alloc (.cells #[.int .i64 1] 3)).alloc (.cells #[.bool false,.slice none 0 0,.slice (some ⟨w.heap.size+1+1,0,none⟩) 1 1] 60)):=⟨_,rfl⟩
 have hbs:BS w [⟨w.heap.size,60,[.bool false,.slice none 0 0,.slice none 0 0]⟩,⟨w.heap.size+1,74,[.int .i64 0,.string ⟨#[]⟩,.int .i64 0]⟩,⟨w.heap.size+1+1,3,[.int .i64 1]⟩,⟨w.heap.size+1+1+1,60,[.bool false,.slice none 0 0,.slice (some ⟨w.heap.size+1+1,0,none⟩) 1 1]⟩] [] ((((w.alloc (.cells #[.bool false,.slice none 0 0,.slice none 0 0] 60)).alloc (.cells #[.int .i64 0,.string ⟨#[]⟩,.int .i64 0] 74)).alloc (.cells #[.int .i64 1] 3)).alloc (.cells #[.bool false,.slice none 0 0,.slice (some ⟨w.heap.size+1+1,0,none⟩) 1 1] 60)) :=
   (((((BS.start w).alloc (p:=w.heap.size) rfl 60 [.bool false,.slice none 0 0,.slice none 0 0] rfl).alloc (p:=w.heap.size+1) (by simp) 74 [.int .i64 0,.string ⟨#[]⟩,.int .i64 0] rfl).alloc (p:=w.heap.size+1+1) (by simp) 3 [.int .i64 1] rfl).alloc (p:=w.heap.size+1+1+1) (by simp) 60 [.bool false,.slice none 0 0,.slice (some ⟨w.heap.size+1+1,0,none⟩) 1 1] rfl)
 rw [← hW0] at hbs
 have HW0:=Lib.hid hW0
 have HN:=Lib.hid hbs
 clear hW0 hbs
 go_enter Tryz.func36,Tryz.ntmps36
 go_upto_region 2 with fail
 rw [← HW0.out]
 have ⟨hc0,hl0⟩:=HN.out.old hb hcell
 go_upto_region 9 with fail
 have HP:=Lib.hid (HN.out.alloc (p:=W0.heap.size) rfl 3 [.int .i64 1] rfl)
 go_wp2_with fail
 clear HN
 have HN:=HP
 clear HP
 obtain ⟨p0,hp0⟩:∃ p0,W0.heap.size=p0:=⟨_,rfl⟩
 rw [hp0] at HN
 (try simp only [hp0])
 clear hp0
 generalize W0.alloc (.cells #[.int .i64 1] 3)=wa1 at HN ⊢
 refine (HT1.out _ HN.out.bel).mono ?_
 rintro e w2 ⟨a4,m4,c4,rfl,hr0,ho0,hb⟩
 have HOD:=Lib.hid ho0
 clear ho0
 have HD:=Lib.hid hr0.rt
 replace HN:=Lib.hid (HN.out.call hb)
 clear hb hr0
 clear hc0 hl0
 go_wp2_with fail
 refine (HT2.out _ HN.out.bel).mono ?_
 rintro e w3 ⟨rfl,hb⟩
 replace HD:=Lib.hid (show RT w3 a4 m4 c4 d from HD.out.below hb HD.out.lt)
 replace HN:=Lib.hid (HN.out.call hb)
 clear hb 
 have HD1:=Lib.hid (RT.one (HN.out.at 2 rfl))
 have ⟨k00,f00,k01,f01,k02,f02⟩:=HN.out.cf3 0 rfl
 have ⟨k10,f10,k11,f11,k12,f12⟩:=HN.out.cf3 1 rfl
 have ⟨k30,f30,k31,f31,k32,f32⟩:=HN.out.cf3 3 rfl
 have B0:=Lib.hid (HN.out.set 0 0 rfl rfl (fun _=>by simp) (.bool false))
 have B1:=Lib.hid (B0.out.set 0 1 rfl rfl (fun _=>by simp) (.slice none 0 0))
 have B2:=Lib.hid (B1.out.set 0 2 rfl rfl (fun _=>by simp) (.slice (some ⟨w.heap.size+1+1,0,none⟩) 1 1))
 have B3:=Lib.hid (B2.out.set 1 0 rfl rfl (fun _=>by simp) (.int .i64 x2))
 have B4:=Lib.hid (B3.out.set 1 1 rfl rfl (fun _=>by simp) (.string ⟨#[110,117,109,98,101,114]⟩))
 have HE:=Lib.hid (B4.out.set 1 2 rfl rfl (fun _=>by simp) (.int .i64 (j:Nat)))
 have HD1E:=Lib.hid (RT.fin (RT.set (RT.set (RT.set HD1.out HN.out 0 0 (.bool false) rfl rfl (fun _=>by simp)) B0.out 0 1 (.slice none 0 0) rfl rfl (fun _=>by simp)) B1.out 0 2 (.slice (some ⟨w.heap.size+1+1,0,none⟩) 1 1) rfl rfl (fun _=>by simp)) B2.out 1 rfl (.int .i64 x2) (.string ⟨#[110,117,109,98,101,114]⟩) (.int .i64 (j:Nat)))
 have ⟨j0_0,j1_0,j2_0⟩:=HE.out.cg3 0 rfl
 have ⟨j0_1,j1_1,j2_1⟩:=HE.out.cg3 1 rfl
 go_wp2_with fail
 refine bodyPost_ret (v:=.tuple #[.agg #[.bool false,.slice none 0 0,.slice (some ⟨w.heap.size+1+1,0,none⟩) 1 1],.int .i64 0,.agg #[.int .i64 x2,.string ⟨#[110,117,109,98,101,114]⟩,.int .i64 (j:Nat)]]) (by simp [results,Tryz.results36,go_sem,j0_0,j1_0,j2_0,j0_1,j1_1,j2_1]) rfl ?_
 exact ⟨none,0,0,_,_,_,rfl,⟨⟨RD.nil _,HD1E.out.rd⟩,OwnS.nil w,OwnS.box HN.out 2 rfl⟩,HE.out.bel⟩
theorem f9dec_f_one (b o n c:Nat) (t:Nat) (ht:3≤t) (ht4:t≤4) (d t1 j:Nat) (hj:(1:Int)+(t1:Int)=(j:Int)) (hjb:j≤1048577) (p t2 k:Nat) (hk:((j:Int)+(t2:Int))=(k:Int)) (hkb:k≤1048577) (w:World) (hcl:n≤c∧c≤9223372036854775807) (hn:0<n) (hb:b<w.heap.size) (hcell:w.cell? ⟨b,o,none⟩=some (.int .u8 (t:Nat)))
  (HT1:Hid (∀ W,Below w.heap.size w W→Calls Tryz.prog 93 #[.slice (some ⟨b,o,none⟩) n c,.int .i64 1] W fun e w'=>∃ a4 m4 c4,e=.returned (.tuple #[.slice a4 m4 c4,.int .i64 (t1:Nat),.int .i64 0])∧RD w' a4 m4 c4 d∧OwnS w a4 m4 c4∧Below W.heap.size W w'))
  (HT2:Hid (∀ W,Below w.heap.size w W→Calls Tryz.prog 93 #[.slice (some ⟨b,o,none⟩) n c,.int .i64 (j:Nat)] W fun e w'=>∃ a4 m4 c4,e=.returned (.tuple #[.slice a4 m4 c4,.int .i64 (t2:Nat),.int .i64 0])∧RD w' a4 m4 c4 p∧OwnS w a4 m4 c4∧Below W.heap.size W w'))
  (HO1:Hid (∀ a4 m4 c4 W,RT W a4 m4 c4 d→Calls Tryz.prog 81 #[.slice a4 m4 c4] W fun e w'=>e=.returned (.bool true)∧Below W.heap.size W w')) :
  Calls Tryz.prog 36 #[.slice (some ⟨b,o,none⟩) n c] w (fun e w'=>∃ a9 n9 c9 b9 m9 d9,e=.returned (.tuple #[.agg #[.bool false,.slice a9 n9 c9,.slice b9 m9 d9],.int .i64 0,.agg #[.int .i64 91,.string ⟨#[]⟩,.int .i64 0]])∧(QW w' a9 n9 c9 b9 m9 d9 0 1∧OwnS w a9 n9 c9∧OwnS w b9 m9 d9)∧Below w.heap.size w w'):=by
 have e0:((n:Int)==0)=false:=beq_eq_false_iff_ne.2 (by omega)
 have e1:((t:Int)==0)=false:=beq_eq_false_iff_ne.2 (by omega)
 obtain ⟨W0,hW0⟩:∃ W0,W0=((((w.alloc (.cells #[.bool false,.slice none 0 0,.slice none 0 0] 60)).alloc (.cells #[.int .i64 0,.string ⟨#[]⟩,.int .i64 0] 74)).alloc (.cells #[.int .i64 1] 3)).alloc (.cells #[.bool false,.slice none 0 0,.slice (some ⟨w.heap.size+1+1,0,none⟩) 1 1] 60)):=⟨_,rfl⟩
 have hbs:BS w [⟨w.heap.size,60,[.bool false,.slice none 0 0,.slice none 0 0]⟩,⟨w.heap.size+1,74,[.int .i64 0,.string ⟨#[]⟩,.int .i64 0]⟩,⟨w.heap.size+1+1,3,[.int .i64 1]⟩,⟨w.heap.size+1+1+1,60,[.bool false,.slice none 0 0,.slice (some ⟨w.heap.size+1+1,0,none⟩) 1 1]⟩] [] ((((w.alloc (.cells #[.bool false,.slice none 0 0,.slice none 0 0] 60)).alloc (.cells #[.int .i64 0,.string ⟨#[]⟩,.int .i64 0] 74)).alloc (.cells #[.int .i64 1] 3)).alloc (.cells #[.bool false,.slice none 0 0,.slice (some ⟨w.heap.size+1+1,0,none⟩) 1 1] 60)) :=
   (((((BS.start w).alloc (p:=w.heap.size) rfl 60 [.bool false,.slice none 0 0,.slice none 0 0] rfl).alloc (p:=w.heap.size+1) (by simp) 74 [.int .i64 0,.string ⟨#[]⟩,.int .i64 0] rfl).alloc (p:=w.heap.size+1+1) (by simp) 3 [.int .i64 1] rfl).alloc (p:=w.heap.size+1+1+1) (by simp) 60 [.bool false,.slice none 0 0,.slice (some ⟨w.heap.size+1+1,0,none⟩) 1 1] rfl)
 rw [← hW0] at hbs
 have HW0:=Lib.hid hW0
 have HN:=Lib.hid hbs
 clear hW0 hbs
 go_enter Tryz.func36,Tryz.ntmps36
 go_upto_region 2 with fail
 rw [← HW0.out]
 have ⟨hc0,hl0⟩:=HN.out.old hb hcell
 go_upto_region 9 with fail
 have HP:=Lib.hid (HN.out.alloc (p:=W0.heap.size) rfl 3 [.int .i64 1] rfl)
 go_wp2_with fail
 clear HN
 have HN:=HP
 clear HP
 obtain ⟨p0,hp0⟩:∃ p0,W0.heap.size=p0:=⟨_,rfl⟩
 rw [hp0] at HN
 (try simp only [hp0])
 clear hp0
 generalize W0.alloc (.cells #[.int .i64 1] 3)=wa1 at HN ⊢
 refine (HT1.out _ HN.out.bel).mono ?_
 rintro e w2 ⟨a4,m4,c4,rfl,hr0,ho0,hb⟩
 have HOD:=Lib.hid ho0
 clear ho0
 have HD:=Lib.hid hr0.rt
 replace HN:=Lib.hid (HN.out.call hb)
 clear hb hr0
 clear hc0 hl0
 go_wp2_with fail
 refine (HT2.out _ HN.out.bel).mono ?_
 rintro e w3 ⟨a5,m5,c5,rfl,hr0,ho0,hb⟩
 have HOP:=Lib.hid ho0
 clear ho0
 replace HD:=Lib.hid (show RT w3 a4 m4 c4 d from HD.out.below hb HD.out.lt)
 have HP:=Lib.hid hr0.rt
 replace HN:=Lib.hid (HN.out.call hb)
 clear hb hr0
 have ⟨hc0,hl0⟩:=HN.out.old hb hcell
 go_wp2_with fail
 refine (HO1.out _ _ _ _ HD.out).mono ?_
 rintro e w4 ⟨rfl,hb⟩
 replace HD:=Lib.hid (show RT w4 a4 m4 c4 d from HD.out.below hb HD.out.lt)
 replace HP:=Lib.hid (show RT w4 a5 m5 c5 p from HP.out.below hb HP.out.lt)
 replace HN:=Lib.hid (HN.out.call hb)
 clear hb 
 clear hc0 hl0
 have HD1:=Lib.hid (RT.one (HN.out.at 2 rfl))
 have ⟨k00,f00,k01,f01,k02,f02⟩:=HN.out.cf3 0 rfl
 have ⟨k10,f10,k11,f11,k12,f12⟩:=HN.out.cf3 1 rfl
 have ⟨k30,f30,k31,f31,k32,f32⟩:=HN.out.cf3 3 rfl
 have B0:=Lib.hid (HN.out.set 0 0 rfl rfl (fun _=>by simp) (.bool false))
 have B1:=Lib.hid (B0.out.set 0 1 rfl rfl (fun _=>by simp) (.slice none 0 0))
 have B2:=Lib.hid (B1.out.set 0 2 rfl rfl (fun _=>by simp) (.slice (some ⟨w.heap.size+1+1,0,none⟩) 1 1))
 have B3:=Lib.hid (B2.out.set 1 0 rfl rfl (fun _=>by simp) (.int .i64 91))
 have B4:=Lib.hid (B3.out.set 1 1 rfl rfl (fun _=>by simp) (.string ⟨#[]⟩))
 have HE:=Lib.hid (B4.out.set 1 2 rfl rfl (fun _=>by simp) (.int .i64 0))
 have HD1E:=Lib.hid (RT.fin (RT.set (RT.set (RT.set HD1.out HN.out 0 0 (.bool false) rfl rfl (fun _=>by simp)) B0.out 0 1 (.slice none 0 0) rfl rfl (fun _=>by simp)) B1.out 0 2 (.slice (some ⟨w.heap.size+1+1,0,none⟩) 1 1) rfl rfl (fun _=>by simp)) B2.out 1 rfl (.int .i64 91) (.string ⟨#[]⟩) (.int .i64 0))
 have ⟨j0_0,j1_0,j2_0⟩:=HE.out.cg3 0 rfl
 have ⟨j0_1,j1_1,j2_1⟩:=HE.out.cg3 1 rfl
 go_wp2_with fail
 refine bodyPost_ret (v:=.tuple #[.agg #[.bool false,.slice none 0 0,.slice (some ⟨w.heap.size+1+1,0,none⟩) 1 1],.int .i64 0,.agg #[.int .i64 91,.string ⟨#[]⟩,.int .i64 0]]) (by simp [results,Tryz.results36,go_sem,j0_0,j1_0,j2_0,j0_1,j1_1,j2_1]) rfl ?_
 exact ⟨none,0,0,_,_,_,rfl,⟨⟨RD.nil _,HD1E.out.rd⟩,OwnS.nil w,OwnS.box HN.out 2 rfl⟩,HE.out.bel⟩
theorem f9dec_f_gcd (b o n c:Nat) (t:Nat) (ht:3≤t) (ht4:t≤4) (d t1 j:Nat) (hj:(1:Int)+(t1:Int)=(j:Int)) (hjb:j≤1048577) (p t2 k:Nat) (hk:((j:Int)+(t2:Int))=(k:Int)) (hkb:k≤1048577) (g:Nat) (w:World) (hcl:n≤c∧c≤9223372036854775807) (hn:0<n) (hb:b<w.heap.size) (hcell:w.cell? ⟨b,o,none⟩=some (.int .u8 (t:Nat)))
  (HT1:Hid (∀ W,Below w.heap.size w W→Calls Tryz.prog 93 #[.slice (some ⟨b,o,none⟩) n c,.int .i64 1] W fun e w'=>∃ a4 m4 c4,e=.returned (.tuple #[.slice a4 m4 c4,.int .i64 (t1:Nat),.int .i64 0])∧RD w' a4 m4 c4 d∧OwnS w a4 m4 c4∧Below W.heap.size W w'))
  (HT2:Hid (∀ W,Below w.heap.size w W→Calls Tryz.prog 93 #[.slice (some ⟨b,o,none⟩) n c,.int .i64 (j:Nat)] W fun e w'=>∃ a4 m4 c4,e=.returned (.tuple #[.slice a4 m4 c4,.int .i64 (t2:Nat),.int .i64 0])∧RD w' a4 m4 c4 p∧OwnS w a4 m4 c4∧Below W.heap.size W w'))
  (HO1:Hid (∀ a4 m4 c4 W,RT W a4 m4 c4 d→Calls Tryz.prog 81 #[.slice a4 m4 c4] W fun e w'=>e=.returned (.bool false)∧Below W.heap.size W w'))
  (HGC:Hid (∀ a4 m4 c4 b4 n4 d4 W,RT W a4 m4 c4 p→RT W b4 n4 d4 d→Calls Tryz.prog 94 #[.slice a4 m4 c4,.slice b4 n4 d4] W (RetD g W)))
  (HO2:Hid (∀ a4 m4 c4 W,RT W a4 m4 c4 g→Calls Tryz.prog 81 #[.slice a4 m4 c4] W fun e w'=>e=.returned (.bool false)∧Below W.heap.size W w')) :
  Calls Tryz.prog 36 #[.slice (some ⟨b,o,none⟩) n c] w (fun e w'=>∃ a9 n9 c9 b9 m9 d9,e=.returned (.tuple #[.agg #[.bool false,.slice a9 n9 c9,.slice b9 m9 d9],.int .i64 0,.agg #[.int .i64 91,.string ⟨#[]⟩,.int .i64 0]])∧(QW w' a9 n9 c9 b9 m9 d9 0 1∧OwnS w a9 n9 c9∧OwnS w b9 m9 d9)∧Below w.heap.size w w'):=by
 have e0:((n:Int)==0)=false:=beq_eq_false_iff_ne.2 (by omega)
 have e1:((t:Int)==0)=false:=beq_eq_false_iff_ne.2 (by omega)
 obtain ⟨W0,hW0⟩:∃ W0,W0=((((w.alloc (.cells #[.bool false,.slice none 0 0,.slice none 0 0] 60)).alloc (.cells #[.int .i64 0,.string ⟨#[]⟩,.int .i64 0] 74)).alloc (.cells #[.int .i64 1] 3)).alloc (.cells #[.bool false,.slice none 0 0,.slice (some ⟨w.heap.size+1+1,0,none⟩) 1 1] 60)):=⟨_,rfl⟩
 have hbs:BS w [⟨w.heap.size,60,[.bool false,.slice none 0 0,.slice none 0 0]⟩,⟨w.heap.size+1,74,[.int .i64 0,.string ⟨#[]⟩,.int .i64 0]⟩,⟨w.heap.size+1+1,3,[.int .i64 1]⟩,⟨w.heap.size+1+1+1,60,[.bool false,.slice none 0 0,.slice (some ⟨w.heap.size+1+1,0,none⟩) 1 1]⟩] [] ((((w.alloc (.cells #[.bool false,.slice none 0 0,.slice none 0 0] 60)).alloc (.cells #[.int .i64 0,.string ⟨#[]⟩,.int .i64 0] 74)).alloc (.cells #[.int .i64 1] 3)).alloc (.cells #[.bool false,.slice none 0 0,.slice (some ⟨w.heap.size+1+1,0,none⟩) 1 1] 60)) :=
   (((((BS.start w).alloc (p:=w.heap.size) rfl 60 [.bool false,.slice none 0 0,.slice none 0 0] rfl).alloc (p:=w.heap.size+1) (by simp) 74 [.int .i64 0,.string ⟨#[]⟩,.int .i64 0] rfl).alloc (p:=w.heap.size+1+1) (by simp) 3 [.int .i64 1] rfl).alloc (p:=w.heap.size+1+1+1) (by simp) 60 [.bool false,.slice none 0 0,.slice (some ⟨w.heap.size+1+1,0,none⟩) 1 1] rfl)
 rw [← hW0] at hbs
 have HW0:=Lib.hid hW0
 have HN:=Lib.hid hbs
 clear hW0 hbs
 go_enter Tryz.func36,Tryz.ntmps36
 go_upto_region 2 with fail
 rw [← HW0.out]
 have ⟨hc0,hl0⟩:=HN.out.old hb hcell
 go_upto_region 9 with fail
 have HP:=Lib.hid (HN.out.alloc (p:=W0.heap.size) rfl 3 [.int .i64 1] rfl)
 go_wp2_with fail
 clear HN
 have HN:=HP
 clear HP
 obtain ⟨p0,hp0⟩:∃ p0,W0.heap.size=p0:=⟨_,rfl⟩
 rw [hp0] at HN
 (try simp only [hp0])
 clear hp0
 generalize W0.alloc (.cells #[.int .i64 1] 3)=wa1 at HN ⊢
 refine (HT1.out _ HN.out.bel).mono ?_
 rintro e w2 ⟨a4,m4,c4,rfl,hr0,ho0,hb⟩
 have HOD:=Lib.hid ho0
 clear ho0
 have HD:=Lib.hid hr0.rt
 replace HN:=Lib.hid (HN.out.call hb)
 clear hb hr0
 clear hc0 hl0
 go_wp2_with fail
 refine (HT2.out _ HN.out.bel).mono ?_
 rintro e w3 ⟨a5,m5,c5,rfl,hr0,ho0,hb⟩
 have HOP:=Lib.hid ho0
 clear ho0
 replace HD:=Lib.hid (show RT w3 a4 m4 c4 d from HD.out.below hb HD.out.lt)
 have HP:=Lib.hid hr0.rt
 replace HN:=Lib.hid (HN.out.call hb)
 clear hb hr0
 have ⟨hc0,hl0⟩:=HN.out.old hb hcell
 go_wp2_with fail
 refine (HO1.out _ _ _ _ HD.out).mono ?_
 rintro e w4 ⟨rfl,hb⟩
 replace HD:=Lib.hid (show RT w4 a4 m4 c4 d from HD.out.below hb HD.out.lt)
 replace HP:=Lib.hid (show RT w4 a5 m5 c5 p from HP.out.below hb HP.out.lt)
 replace HN:=Lib.hid (HN.out.call hb)
 clear hb 
 go_wp2_with fail
 refine (HGC.out _ _ _ _ _ _ _ HP.out HD.out).mono ?_
 rintro e w5 ⟨a6,m6,c6,rfl,hr0,hb⟩
 replace HD:=Lib.hid (show RT w5 a4 m4 c4 d from HD.out.below hb HD.out.lt)
 replace HP:=Lib.hid (show RT w5 a5 m5 c5 p from HP.out.below hb HP.out.lt)
 have HG:=Lib.hid hr0.rt
 replace HN:=Lib.hid (HN.out.call hb)
 clear hb hr0
 go_wp2_with fail
 refine (HO2.out _ _ _ _ HG.out).mono ?_
 rintro e w6 ⟨rfl,hb⟩
 replace HD:=Lib.hid (show RT w6 a4 m4 c4 d from HD.out.below hb HD.out.lt)
 replace HP:=Lib.hid (show RT w6 a5 m5 c5 p from HP.out.below hb HP.out.lt)
 replace HG:=Lib.hid (show RT w6 a6 m6 c6 g from HG.out.below hb HG.out.lt)
 replace HN:=Lib.hid (HN.out.call hb)
 clear hb 
 clear hc0 hl0
 have HD1:=Lib.hid (RT.one (HN.out.at 2 rfl))
 have ⟨k00,f00,k01,f01,k02,f02⟩:=HN.out.cf3 0 rfl
 have ⟨k10,f10,k11,f11,k12,f12⟩:=HN.out.cf3 1 rfl
 have ⟨k30,f30,k31,f31,k32,f32⟩:=HN.out.cf3 3 rfl
 have B0:=Lib.hid (HN.out.set 0 0 rfl rfl (fun _=>by simp) (.bool false))
 have B1:=Lib.hid (B0.out.set 0 1 rfl rfl (fun _=>by simp) (.slice none 0 0))
 have B2:=Lib.hid (B1.out.set 0 2 rfl rfl (fun _=>by simp) (.slice (some ⟨w.heap.size+1+1,0,none⟩) 1 1))
 have B3:=Lib.hid (B2.out.set 1 0 rfl rfl (fun _=>by simp) (.int .i64 91))
 have B4:=Lib.hid (B3.out.set 1 1 rfl rfl (fun _=>by simp) (.string ⟨#[]⟩))
 have HE:=Lib.hid (B4.out.set 1 2 rfl rfl (fun _=>by simp) (.int .i64 0))
 have HD1E:=Lib.hid (RT.fin (RT.set (RT.set (RT.set HD1.out HN.out 0 0 (.bool false) rfl rfl (fun _=>by simp)) B0.out 0 1 (.slice none 0 0) rfl rfl (fun _=>by simp)) B1.out 0 2 (.slice (some ⟨w.heap.size+1+1,0,none⟩) 1 1) rfl rfl (fun _=>by simp)) B2.out 1 rfl (.int .i64 91) (.string ⟨#[]⟩) (.int .i64 0))
 have ⟨j0_0,j1_0,j2_0⟩:=HE.out.cg3 0 rfl
 have ⟨j0_1,j1_1,j2_1⟩:=HE.out.cg3 1 rfl
 go_wp2_with fail
 refine bodyPost_ret (v:=.tuple #[.agg #[.bool false,.slice none 0 0,.slice (some ⟨w.heap.size+1+1,0,none⟩) 1 1],.int .i64 0,.agg #[.int .i64 91,.string ⟨#[]⟩,.int .i64 0]]) (by simp [results,Tryz.results36,go_sem,j0_0,j1_0,j2_0,j0_1,j1_1,j2_1]) rfl ?_
 exact ⟨none,0,0,_,_,_,rfl,⟨⟨RD.nil _,HD1E.out.rd⟩,OwnS.nil w,OwnS.box HN.out 2 rfl⟩,HE.out.bel⟩
theorem f9dec_f_ok3 (b o n c:Nat) (d t1 j:Nat) (hj:(1:Int)+(t1:Int)=(j:Int)) (hjb:j≤1048577) (p t2 k:Nat) (hk:((j:Int)+(t2:Int))=(k:Int)) (hkb:k≤1048577) (g:Nat) (qs:Bool) (w:World) (hcl:n≤c∧c≤9223372036854775807) (hn:0<n) (hb:b<w.heap.size) (hcell:w.cell? ⟨b,o,none⟩=some (.int .u8 3))
  (HT1:Hid (∀ W,Below w.heap.size w W→Calls Tryz.prog 93 #[.slice (some ⟨b,o,none⟩) n c,.int .i64 1] W fun e w'=>∃ a4 m4 c4,e=.returned (.tuple #[.slice a4 m4 c4,.int .i64 (t1:Nat),.int .i64 0])∧RD w' a4 m4 c4 d∧OwnS w a4 m4 c4∧Below W.heap.size W w'))
  (HT2:Hid (∀ W,Below w.heap.size w W→Calls Tryz.prog 93 #[.slice (some ⟨b,o,none⟩) n c,.int .i64 (j:Nat)] W fun e w'=>∃ a4 m4 c4,e=.returned (.tuple #[.slice a4 m4 c4,.int .i64 (t2:Nat),.int .i64 0])∧RD w' a4 m4 c4 p∧OwnS w a4 m4 c4∧Below W.heap.size W w'))
  (HO1:Hid (∀ a4 m4 c4 W,RT W a4 m4 c4 d→Calls Tryz.prog 81 #[.slice a4 m4 c4] W fun e w'=>e=.returned (.bool false)∧Below W.heap.size W w'))
  (HGC:Hid (∀ a4 m4 c4 b4 n4 d4 W,RT W a4 m4 c4 p→RT W b4 n4 d4 d→Calls Tryz.prog 94 #[.slice a4 m4 c4,.slice b4 n4 d4] W (RetD g W)))
  (HO2:Hid (∀ a4 m4 c4 W,RT W a4 m4 c4 g→Calls Tryz.prog 81 #[.slice a4 m4 c4] W fun e w'=>e=.returned (.bool true)∧Below W.heap.size W w'))
  (HNW:Hid (∀ a4 m4 c4 W,RT W a4 m4 c4 p→Calls Tryz.prog 76 #[.bool false,.slice a4 m4 c4] W fun e w'=>e=.returned (.agg #[.bool qs,.slice a4 m4 c4])∧Below W.heap.size W w')) :
  Calls Tryz.prog 36 #[.slice (some ⟨b,o,none⟩) n c] w (fun e w'=>∃ a9 n9 c9 b9 m9 d9,e=.returned (.tuple #[.agg #[.bool qs,.slice a9 n9 c9,.slice b9 m9 d9],.int .i64 (k:Nat),.agg #[.int .i64 0,.string ⟨#[]⟩,.int .i64 0]])∧(QW w' a9 n9 c9 b9 m9 d9 p d∧OwnS w a9 n9 c9∧OwnS w b9 m9 d9)∧Below w.heap.size w w'):=by
 have e0:((n:Int)==0)=false:=beq_eq_false_iff_ne.2 (by omega)
 obtain ⟨W0,hW0⟩:∃ W0,W0=((((w.alloc (.cells #[.bool false,.slice none 0 0,.slice none 0 0] 60)).alloc (.cells #[.int .i64 0,.string ⟨#[]⟩,.int .i64 0] 74)).alloc (.cells #[.int .i64 1] 3)).alloc (.cells #[.bool false,.slice none 0 0,.slice (some ⟨w.heap.size+1+1,0,none⟩) 1 1] 60)):=⟨_,rfl⟩
 have hbs:BS w [⟨w.heap.size,60,[.bool false,.slice none 0 0,.slice none 0 0]⟩,⟨w.heap.size+1,74,[.int .i64 0,.string ⟨#[]⟩,.int .i64 0]⟩,⟨w.heap.size+1+1,3,[.int .i64 1]⟩,⟨w.heap.size+1+1+1,60,[.bool false,.slice none 0 0,.slice (some ⟨w.heap.size+1+1,0,none⟩) 1 1]⟩] [] ((((w.alloc (.cells #[.bool false,.slice none 0 0,.slice none 0 0] 60)).alloc (.cells #[.int .i64 0,.string ⟨#[]⟩,.int .i64 0] 74)).alloc (.cells #[.int .i64 1] 3)).alloc (.cells #[.bool false,.slice none 0 0,.slice (some ⟨w.heap.size+1+1,0,none⟩) 1 1] 60)) :=
   (((((BS.start w).alloc (p:=w.heap.size) rfl 60 [.bool false,.slice none 0 0,.slice none 0 0] rfl).alloc (p:=w.heap.size+1) (by simp) 74 [.int .i64 0,.string ⟨#[]⟩,.int .i64 0] rfl).alloc (p:=w.heap.size+1+1) (by simp) 3 [.int .i64 1] rfl).alloc (p:=w.heap.size+1+1+1) (by simp) 60 [.bool false,.slice none 0 0,.slice (some ⟨w.heap.size+1+1,0,none⟩) 1 1] rfl)
 rw [← hW0] at hbs
 have HW0:=Lib.hid hW0
 have HN:=Lib.hid hbs
 clear hW0 hbs
 go_enter Tryz.func36,Tryz.ntmps36
 go_upto_region 2 with fail
 rw [← HW0.out]
 have ⟨hc0,hl0⟩:=HN.out.old hb hcell
 go_upto_region 9 with fail
 have HP:=Lib.hid (HN.out.alloc (p:=W0.heap.size) rfl 3 [.int .i64 1] rfl)
 go_wp2_with fail
 clear HN
 have HN:=HP
 clear HP
 obtain ⟨p0,hp0⟩:∃ p0,W0.heap.size=p0:=⟨_,rfl⟩
 rw [hp0] at HN
 (try simp only [hp0])
 clear hp0
 generalize W0.alloc (.cells #[.int .i64 1] 3)=wa1 at HN ⊢
 refine (HT1.out _ HN.out.bel).mono ?_
 rintro e w2 ⟨a4,m4,c4,rfl,hr0,ho0,hb⟩
 have HOD:=Lib.hid ho0
 clear ho0
 have HD:=Lib.hid hr0.rt
 replace HN:=Lib.hid (HN.out.call hb)
 clear hb hr0
 clear hc0 hl0
 go_wp2_with fail
 refine (HT2.out _ HN.out.bel).mono ?_
 rintro e w3 ⟨a5,m5,c5,rfl,hr0,ho0,hb⟩
 have HOP:=Lib.hid ho0
 clear ho0
 replace HD:=Lib.hid (show RT w3 a4 m4 c4 d from HD.out.below hb HD.out.lt)
 have HP:=Lib.hid hr0.rt
 replace HN:=Lib.hid (HN.out.call hb)
 clear hb hr0
 have ⟨hc0,hl0⟩:=HN.out.old hb hcell
 go_wp2_with fail
 refine (HO1.out _ _ _ _ HD.out).mono ?_
 rintro e w4 ⟨rfl,hb⟩
 replace HD:=Lib.hid (show RT w4 a4 m4 c4 d from HD.out.below hb HD.out.lt)
 replace HP:=Lib.hid (show RT w4 a5 m5 c5 p from HP.out.below hb HP.out.lt)
 replace HN:=Lib.hid (HN.out.call hb)
 clear hb 
 go_wp2_with fail
 refine (HGC.out _ _ _ _ _ _ _ HP.out HD.out).mono ?_
 rintro e w5 ⟨a6,m6,c6,rfl,hr0,hb⟩
 replace HD:=Lib.hid (show RT w5 a4 m4 c4 d from HD.out.below hb HD.out.lt)
 replace HP:=Lib.hid (show RT w5 a5 m5 c5 p from HP.out.below hb HP.out.lt)
 have HG:=Lib.hid hr0.rt
 replace HN:=Lib.hid (HN.out.call hb)
 clear hb hr0
 go_wp2_with fail
 refine (HO2.out _ _ _ _ HG.out).mono ?_
 rintro e w6 ⟨rfl,hb⟩
 replace HD:=Lib.hid (show RT w6 a4 m4 c4 d from HD.out.below hb HD.out.lt)
 replace HP:=Lib.hid (show RT w6 a5 m5 c5 p from HP.out.below hb HP.out.lt)
 replace HG:=Lib.hid (show RT w6 a6 m6 c6 g from HG.out.below hb HG.out.lt)
 replace HN:=Lib.hid (HN.out.call hb)
 clear hb 
 clear hc0 hl0
 have ⟨hc0,hl0⟩:=HN.out.old hb hcell
 go_wp2_with fail
 refine (HNW.out _ _ _ _ HP.out).mono ?_
 rintro e w7 ⟨rfl,hb⟩
 replace HD:=Lib.hid (show RT w7 a4 m4 c4 d from HD.out.below hb HD.out.lt)
 replace HP:=Lib.hid (show RT w7 a5 m5 c5 p from HP.out.below hb HP.out.lt)
 replace HG:=Lib.hid (show RT w7 a6 m6 c6 g from HG.out.below hb HG.out.lt)
 replace HN:=Lib.hid (HN.out.call hb)
 clear hb 
 clear hc0 hl0
 have ⟨k00,f00,k01,f01,k02,f02⟩:=HN.out.cf3 0 rfl
 have ⟨k10,f10,k11,f11,k12,f12⟩:=HN.out.cf3 1 rfl
 have ⟨k30,f30,k31,f31,k32,f32⟩:=HN.out.cf3 3 rfl
 have B0:=Lib.hid (HN.out.set 0 0 rfl rfl (fun _=>by simp) (.bool qs))
 have B1:=Lib.hid (B0.out.set 0 1 rfl rfl (fun _=>by simp) (.slice a5 m5 c5))
 have B2:=Lib.hid (B1.out.set 0 2 rfl rfl (fun _=>by simp) (.slice a4 m4 c4))
 have B3:=Lib.hid (B2.out.set 1 0 rfl rfl (fun _=>by simp) (.int .i64 0))
 have B4:=Lib.hid (B3.out.set 1 1 rfl rfl (fun _=>by simp) (.string ⟨#[]⟩))
 have HE:=Lib.hid (B4.out.set 1 2 rfl rfl (fun _=>by simp) (.int .i64 0))
 have HPE:=Lib.hid (RT.fin (RT.set (RT.set (RT.set HP.out HN.out 0 0 (.bool qs) rfl rfl (fun _=>by simp)) B0.out 0 1 (.slice a5 m5 c5) rfl rfl (fun _=>by simp)) B1.out 0 2 (.slice a4 m4 c4) rfl rfl (fun _=>by simp)) B2.out 1 rfl (.int .i64 0) (.string ⟨#[]⟩) (.int .i64 0))
 have HDE:=Lib.hid (RT.fin (RT.set (RT.set (RT.set HD.out HN.out 0 0 (.bool qs) rfl rfl (fun _=>by simp)) B0.out 0 1 (.slice a5 m5 c5) rfl rfl (fun _=>by simp)) B1.out 0 2 (.slice a4 m4 c4) rfl rfl (fun _=>by simp)) B2.out 1 rfl (.int .i64 0) (.string ⟨#[]⟩) (.int .i64 0))
 have ⟨j0_0,j1_0,j2_0⟩:=HE.out.cg3 0 rfl
 have ⟨j0_1,j1_1,j2_1⟩:=HE.out.cg3 1 rfl
 go_wp2_with fail
 refine bodyPost_ret (v:=.tuple #[.agg #[.bool qs,.slice a5 m5 c5,.slice a4 m4 c4],.int .i64 (k:Nat),.agg #[.int .i64 0,.string ⟨#[]⟩,.int .i64 0]]) (by simp [results,Tryz.results36,go_sem,j0_0,j1_0,j2_0,j0_1,j1_1,j2_1]) rfl ?_
 exact ⟨_,_,_,_,_,_,rfl,⟨⟨HPE.out.rd,HDE.out.rd⟩,HOP.out,HOD.out⟩,HE.out.bel⟩
theorem f9dec_f_ok4 (b o n c:Nat) (d t1 j:Nat) (hj:(1:Int)+(t1:Int)=(j:Int)) (hjb:j≤1048577) (p t2 k:Nat) (hk:((j:Int)+(t2:Int))=(k:Int)) (hkb:k≤1048577) (g:Nat) (qs:Bool) (w:World) (hcl:n≤c∧c≤9223372036854775807) (hn:0<n) (hb:b<w.heap.size) (hcell:w.cell? ⟨b,o,none⟩=some (.int .u8 4))
  (HT1:Hid (∀ W,Below w.heap.size w W→Calls Tryz.prog 93 #[.slice (some ⟨b,o,none⟩) n c,.int .i64 1] W fun e w'=>∃ a4 m4 c4,e=.returned (.tuple #[.slice a4 m4 c4,.int .i64 (t1:Nat),.int .i64 0])∧RD w' a4 m4 c4 d∧OwnS w a4 m4 c4∧Below W.heap.size W w'))
  (HT2:Hid (∀ W,Below w.heap.size w W→Calls Tryz.prog 93 #[.slice (some ⟨b,o,none⟩) n c,.int .i64 (j:Nat)] W fun e w'=>∃ a4 m4 c4,e=.returned (.tuple #[.slice a4 m4 c4,.int .i64 (t2:Nat),.int .i64 0])∧RD w' a4 m4 c4 p∧OwnS w a4 m4 c4∧Below W.heap.size W w'))
  (HO1:Hid (∀ a4 m4 c4 W,RT W a4 m4 c4 d→Calls Tryz.prog 81 #[.slice a4 m4 c4] W fun e w'=>e=.returned (.bool false)∧Below W.heap.size W w'))
  (HGC:Hid (∀ a4 m4 c4 b4 n4 d4 W,RT W a4 m4 c4 p→RT W b4 n4 d4 d→Calls Tryz.prog 94 #[.slice a4 m4 c4,.slice b4 n4 d4] W (RetD g W)))
  (HO2:Hid (∀ a4 m4 c4 W,RT W a4 m4 c4 g→Calls Tryz.prog 81 #[.slice a4 m4 c4] W fun e w'=>e=.returned (.bool true)∧Below W.heap.size W w'))
  (HNW:Hid (∀ a4 m4 c4 W,RT W a4 m4 c4 p→Calls Tryz.prog 76 #[.bool true,.slice a4 m4 c4] W fun e w'=>e=.returned (.agg #[.bool qs,.slice a4 m4 c4])∧Below W.heap.size W w')) :
  Calls Tryz.prog 36 #[.slice (some ⟨b,o,none⟩) n c] w (fun e w'=>∃ a9 n9 c9 b9 m9 d9,e=.returned (.tuple #[.agg #[.bool qs,.slice a9 n9 c9,.slice b9 m9 d9],.int .i64 (k:Nat),.agg #[.int .i64 0,.string ⟨#[]⟩,.int .i64 0]])∧(QW w' a9 n9 c9 b9 m9 d9 p d∧OwnS w a9 n9 c9∧OwnS w b9 m9 d9)∧Below w.heap.size w w'):=by
 have e0:((n:Int)==0)=false:=beq_eq_false_iff_ne.2 (by omega)
 obtain ⟨W0,hW0⟩:∃ W0,W0=((((w.alloc (.cells #[.bool false,.slice none 0 0,.slice none 0 0] 60)).alloc (.cells #[.int .i64 0,.string ⟨#[]⟩,.int .i64 0] 74)).alloc (.cells #[.int .i64 1] 3)).alloc (.cells #[.bool false,.slice none 0 0,.slice (some ⟨w.heap.size+1+1,0,none⟩) 1 1] 60)):=⟨_,rfl⟩
 have hbs:BS w [⟨w.heap.size,60,[.bool false,.slice none 0 0,.slice none 0 0]⟩,⟨w.heap.size+1,74,[.int .i64 0,.string ⟨#[]⟩,.int .i64 0]⟩,⟨w.heap.size+1+1,3,[.int .i64 1]⟩,⟨w.heap.size+1+1+1,60,[.bool false,.slice none 0 0,.slice (some ⟨w.heap.size+1+1,0,none⟩) 1 1]⟩] [] ((((w.alloc (.cells #[.bool false,.slice none 0 0,.slice none 0 0] 60)).alloc (.cells #[.int .i64 0,.string ⟨#[]⟩,.int .i64 0] 74)).alloc (.cells #[.int .i64 1] 3)).alloc (.cells #[.bool false,.slice none 0 0,.slice (some ⟨w.heap.size+1+1,0,none⟩) 1 1] 60)) :=
   (((((BS.start w).alloc (p:=w.heap.size) rfl 60 [.bool false,.slice none 0 0,.slice none 0 0] rfl).alloc (p:=w.heap.size+1) (by simp) 74 [.int .i64 0,.string ⟨#[]⟩,.int .i64 0] rfl).alloc (p:=w.heap.size+1+1) (by simp) 3 [.int .i64 1] rfl).alloc (p:=w.heap.size+1+1+1) (by simp) 60 [.bool false,.slice none 0 0,.slice (some ⟨w.heap.size+1+1,0,none⟩) 1 1] rfl)
 rw [← hW0] at hbs
 have HW0:=Lib.hid hW0
 have HN:=Lib.hid hbs
 clear hW0 hbs
 go_enter Tryz.func36,Tryz.ntmps36
 go_upto_region 2 with fail
 rw [← HW0.out]
 have ⟨hc0,hl0⟩:=HN.out.old hb hcell
 go_upto_region 9 with fail
 have HP:=Lib.hid (HN.out.alloc (p:=W0.heap.size) rfl 3 [.int .i64 1] rfl)
 go_wp2_with fail
 clear HN
 have HN:=HP
 clear HP
 obtain ⟨p0,hp0⟩:∃ p0,W0.heap.size=p0:=⟨_,rfl⟩
 rw [hp0] at HN
 (try simp only [hp0])
 clear hp0
 generalize W0.alloc (.cells #[.int .i64 1] 3)=wa1 at HN ⊢
 refine (HT1.out _ HN.out.bel).mono ?_
 rintro e w2 ⟨a4,m4,c4,rfl,hr0,ho0,hb⟩
 have HOD:=Lib.hid ho0
 clear ho0
 have HD:=Lib.hid hr0.rt
 replace HN:=Lib.hid (HN.out.call hb)
 clear hb hr0
 clear hc0 hl0
 go_wp2_with fail
 refine (HT2.out _ HN.out.bel).mono ?_
 rintro e w3 ⟨a5,m5,c5,rfl,hr0,ho0,hb⟩
 have HOP:=Lib.hid ho0
 clear ho0
 replace HD:=Lib.hid (show RT w3 a4 m4 c4 d from HD.out.below hb HD.out.lt)
 have HP:=Lib.hid hr0.rt
 replace HN:=Lib.hid (HN.out.call hb)
 clear hb hr0
 have ⟨hc0,hl0⟩:=HN.out.old hb hcell
 go_wp2_with fail
 refine (HO1.out _ _ _ _ HD.out).mono ?_
 rintro e w4 ⟨rfl,hb⟩
 replace HD:=Lib.hid (show RT w4 a4 m4 c4 d from HD.out.below hb HD.out.lt)
 replace HP:=Lib.hid (show RT w4 a5 m5 c5 p from HP.out.below hb HP.out.lt)
 replace HN:=Lib.hid (HN.out.call hb)
 clear hb 
 go_wp2_with fail
 refine (HGC.out _ _ _ _ _ _ _ HP.out HD.out).mono ?_
 rintro e w5 ⟨a6,m6,c6,rfl,hr0,hb⟩
 replace HD:=Lib.hid (show RT w5 a4 m4 c4 d from HD.out.below hb HD.out.lt)
 replace HP:=Lib.hid (show RT w5 a5 m5 c5 p from HP.out.below hb HP.out.lt)
 have HG:=Lib.hid hr0.rt
 replace HN:=Lib.hid (HN.out.call hb)
 clear hb hr0
 go_wp2_with fail
 refine (HO2.out _ _ _ _ HG.out).mono ?_
 rintro e w6 ⟨rfl,hb⟩
 replace HD:=Lib.hid (show RT w6 a4 m4 c4 d from HD.out.below hb HD.out.lt)
 replace HP:=Lib.hid (show RT w6 a5 m5 c5 p from HP.out.below hb HP.out.lt)
 replace HG:=Lib.hid (show RT w6 a6 m6 c6 g from HG.out.below hb HG.out.lt)
 replace HN:=Lib.hid (HN.out.call hb)
 clear hb 
 clear hc0 hl0
 have ⟨hc0,hl0⟩:=HN.out.old hb hcell
 go_wp2_with fail
 refine (HNW.out _ _ _ _ HP.out).mono ?_
 rintro e w7 ⟨rfl,hb⟩
 replace HD:=Lib.hid (show RT w7 a4 m4 c4 d from HD.out.below hb HD.out.lt)
 replace HP:=Lib.hid (show RT w7 a5 m5 c5 p from HP.out.below hb HP.out.lt)
 replace HG:=Lib.hid (show RT w7 a6 m6 c6 g from HG.out.below hb HG.out.lt)
 replace HN:=Lib.hid (HN.out.call hb)
 clear hb 
 clear hc0 hl0
 have ⟨k00,f00,k01,f01,k02,f02⟩:=HN.out.cf3 0 rfl
 have ⟨k10,f10,k11,f11,k12,f12⟩:=HN.out.cf3 1 rfl
 have ⟨k30,f30,k31,f31,k32,f32⟩:=HN.out.cf3 3 rfl
 have B0:=Lib.hid (HN.out.set 0 0 rfl rfl (fun _=>by simp) (.bool qs))
 have B1:=Lib.hid (B0.out.set 0 1 rfl rfl (fun _=>by simp) (.slice a5 m5 c5))
 have B2:=Lib.hid (B1.out.set 0 2 rfl rfl (fun _=>by simp) (.slice a4 m4 c4))
 have B3:=Lib.hid (B2.out.set 1 0 rfl rfl (fun _=>by simp) (.int .i64 0))
 have B4:=Lib.hid (B3.out.set 1 1 rfl rfl (fun _=>by simp) (.string ⟨#[]⟩))
 have HE:=Lib.hid (B4.out.set 1 2 rfl rfl (fun _=>by simp) (.int .i64 0))
 have HPE:=Lib.hid (RT.fin (RT.set (RT.set (RT.set HP.out HN.out 0 0 (.bool qs) rfl rfl (fun _=>by simp)) B0.out 0 1 (.slice a5 m5 c5) rfl rfl (fun _=>by simp)) B1.out 0 2 (.slice a4 m4 c4) rfl rfl (fun _=>by simp)) B2.out 1 rfl (.int .i64 0) (.string ⟨#[]⟩) (.int .i64 0))
 have HDE:=Lib.hid (RT.fin (RT.set (RT.set (RT.set HD.out HN.out 0 0 (.bool qs) rfl rfl (fun _=>by simp)) B0.out 0 1 (.slice a5 m5 c5) rfl rfl (fun _=>by simp)) B1.out 0 2 (.slice a4 m4 c4) rfl rfl (fun _=>by simp)) B2.out 1 rfl (.int .i64 0) (.string ⟨#[]⟩) (.int .i64 0))
 have ⟨j0_0,j1_0,j2_0⟩:=HE.out.cg3 0 rfl
 have ⟨j0_1,j1_1,j2_1⟩:=HE.out.cg3 1 rfl
 go_wp2_with fail
 refine bodyPost_ret (v:=.tuple #[.agg #[.bool qs,.slice a5 m5 c5,.slice a4 m4 c4],.int .i64 (k:Nat),.agg #[.int .i64 0,.string ⟨#[]⟩,.int .i64 0]]) (by simp [results,Tryz.results36,go_sem,j0_0,j1_0,j2_0,j0_1,j1_1,j2_1]) rfl ?_
 exact ⟨_,_,_,_,_,_,rfl,⟨⟨HPE.out.rd,HDE.out.rd⟩,HOP.out,HOD.out⟩,HE.out.bel⟩
theorem dec_parts {t d p:Nat} (hd:d≠0) (hp:p≠0) (h1:1≤t) (h4:t≤4) (h3:t<3→d=1) :
  (tagR (Rat.divInt (sgnI t p) d)=t∧(Rat.divInt (sgnI t p) d).den=d↔(3≤t→d≠1∧Nat.gcd p d=1)) ∧
  (tagR (Rat.divInt (sgnI t p) d)=t∧(Rat.divInt (sgnI t p) d).den=d→(Rat.divInt (sgnI t p) d).num.natAbs=p∧decide ((Rat.divInt (sgnI t p) d).num<0)=decide (newI (t==2 || t==4) p<0)):=by
 have hdz:(d:Int)≠0:=by omega
 have hza:(sgnI t p).natAbs=p:=by unfold sgnI;split <;> omega
 have e1:(Rat.divInt (sgnI t p) d).den=d / Nat.gcd p d:=by rw [rat_den _ _ hdz,hza,Int.natAbs_natCast]
 have hg0:0<Nat.gcd p d:=Nat.gcd_pos_of_pos_right _ (by omega)
 have hgd:Nat.gcd p d∣d:=Nat.gcd_dvd_right _ _
 have e2:(Rat.divInt (sgnI t p) d).den=d↔Nat.gcd p d=1:=by
  rw [e1]
  constructor
  ·
   intro h
   have h5:=Nat.div_mul_cancel hgd
   rw [h] at h5
   have h6:d*Nat.gcd p d=d*1:=by rw [h5,Nat.mul_one]
   exact Nat.eq_of_mul_eq_mul_left (by omega) h6
  ·
   intro h;rw [h,Nat.div_one]
 have e3:Nat.gcd p d=1→(Rat.divInt (sgnI t p) d).num=sgnI t p:=fun hg=>by
  rw [rat_num _ _ hdz,hza,Int.natAbs_natCast,hg,Nat.div_one,show decide ((d:Int)<0)=false from decide_eq_false (by omega)]
  have h9:=newI_self (sgnI t p)
  rw [hza] at h9
  cases hb:decide (sgnI t p<0) <;> rw [hb] at h9 <;> exact h9
 have e4:sgnI t p≠0:=by unfold sgnI;split <;> omega
 have e5:Rat.divInt (sgnI t p) d≠0:=by
  intro h0
  have h1:(Rat.divInt (sgnI t p) d).num.natAbs=p / Nat.gcd p d:=by rw [rat_num _ _ hdz,newI_abs,hza,Int.natAbs_natCast]
  rw [h0] at h1
  have h2:0<p / Nat.gcd p d:=Nat.div_pos (Nat.le_of_dvd (by omega) (Nat.gcd_dvd_left _ _)) hg0
  have h3:(0:Rat).num.natAbs=0:=rfl
  omega
 have e6:(sgnI t p<0)↔t % 2=0:=by unfold sgnI;split <;> omega
 refine ⟨⟨fun h ht=>?_,fun h=>?_⟩,fun h=>?_⟩
 ·
  have hg:=e2.1 h.2
  refine ⟨fun hd1=>?_,hg⟩
  have h7:=(tagR_facts e5).2.2.1.1 (by rw [h.1];exact ht)
  rw [h.2] at h7
  exact h7 hd1
 ·
  have hg:Nat.gcd p d=1:=by
   by_cases ht:3≤t
   ·
    exact (h ht).2
   ·
    rw [h3 (by omega),Nat.gcd_one_right]
  have hden:=e2.2 hg
  refine ⟨?_,hden⟩
  rw [tagR_ne e5,hden,e3 hg]
  by_cases ht:3≤t
  ·
   rw [if_neg (h ht).1]
   by_cases hs:sgnI t p<0
   ·
    rw [if_pos hs];have:=e6.1 hs;omega
   ·
    rw [if_neg hs];have:=mt e6.2 hs;omega
  ·
   rw [if_pos (h3 (by omega))]
   by_cases hs:sgnI t p<0
   ·
    rw [if_pos hs];have:=e6.1 hs;omega
   ·
    rw [if_neg hs];have:=mt e6.2 hs;omega
 ·
  have hg:=e2.1 h.2
  rw [e3 hg,newI_sgn t p h4 (fun h0=>by omega),hza]
  exact ⟨rfl,rfl⟩
def RetQD (q:Rat) (fe fk:Int) (fs:ByteArray) (w:World) (e:Ending) (w':World) (k:Nat):Prop:=∃ a n c b m d,e=.returned (.tuple #[.agg #[.bool (decide (q.num<0)),.slice a n c,.slice b m d],.int .i64 (k:Nat),.agg #[.int .i64 fe,.string fs,.int .i64 fk]])∧(QW w' a n c b m d q.num.natAbs q.den∧OwnS w a n c∧OwnS w b m d)∧Below w.heap.size w w'
def eN {α:Type} (r:Except Flt α):Int:=match r with
 | .ok _=>0
 | .error f=>f.n
def eS {α:Type} (r:Except Flt α):ByteArray:=match r with
 | .ok _=>⟨#[]⟩
 | .error f=>match f.at? with
  | none=>⟨#[]⟩
  | some x=>strB x.1
def eK {α:Type} (r:Except Flt α):Int:=match r with
 | .ok _=>0
 | .error f=>match f.at? with
  | none=>0
  | some x=>x.2
theorem take_kind {b:List Nat} {x:Int} (h:takeB b=.error x):(x != 0)=true:=by
 cases b with
 | nil=>injection h with h;subst h;rfl
 | cons k r =>
  unfold takeB at h
  simp only at h
  split at h
  ·
   injection h with h;subst h;rfl
  ·
   split at h
   ·
    injection h with h;subst h;rfl
   ·
    cases h
theorem take_ok {b:List Nat} (h8:∀ x,x∈b→x<256) {x:Nat} {rest:List Nat} (h:takeB b=.ok (x,rest)):x≠0∧nd x≤b.length∧rest.length<b.length∧rest=b.drop (b.length - rest.length):=by
 cases b with
 | nil=>cases h
 | cons m r =>
  unfold takeB at h
  simp only at h
  split at h
  ·
   cases h
  ·
   split at h
   ·
    cases h
   ·
    rename_i h1 h2
    injection h with h
    injection h with h3 h4
    have h5:rest.length=r.length - m:=by rw [← h4,List.length_drop]
    refine ⟨fun e=>h2 (.inr (by rw [h3,e])),?_,by rw [List.length_cons];omega,?_⟩
    ·
     rw [← h3]
     have h6:=undig_nd (B:=256) (by omega) (r.take m) (fun y hy=>h8 y (List.mem_cons_of_mem _ (List.mem_of_mem_take hy)))
     rw [List.length_take] at h6
     rw [List.length_cons];omega
    ·
     rw [show (m::r).length - rest.length=m+1 by rw [List.length_cons];omega,List.drop_succ_cons]
     exact h4.symm
theorem tk_ok {n k t:Nat} {bs rest:List Nat} {x:Nat} {w w1:World} {e:Ending} {w':World} (hl:n=bs.length) (ht:k+t+rest.length=n) (h:RetTK n k bs (.ok (x,rest)) w1 e w') (hb1:w.heap.size≤w1.heap.size) :
  ∃ a4 m4 c4,e=.returned (.tuple #[.slice a4 m4 c4,.int .i64 (t:Nat),.int .i64 0])∧RD w' a4 m4 c4 x∧OwnS w a4 m4 c4∧Below w1.heap.size w1 w':=by
 obtain ⟨a,m,c,t2,he,⟨hr,how⟩,⟨_,h2,h3,_⟩,hb⟩:=h
 have h4:=congrArg List.length h2
 rw [List.length_drop,← hl] at h4
 obtain rfl:t2=t:=by omega
 exact ⟨a,m,c,he,hr,how.base hb1,hb⟩
theorem f9dec_own (a:Option Addr) (n c:Nat) (bs:List Nat) (w:World) (h:BytesN w (.slice a n c) bs) (h8:∀ x,x∈bs→x<256) (hn:n≤1048576) :
  Calls Tryz.prog 36 #[.slice a n c] w fun e w'=>RetQD (ratD (decR bs)) (eN (decR bs)) (eK (decR bs)) (eS (decR bs)) w e w' (numD (decR bs)):=by
 obtain ⟨hl,hcl,hcm,_⟩:=h.len
 have z1:(0:Rat).num.natAbs=0:=rfl
 have z2:(0:Rat).den=1:=rfl
 have z3:decide ((0:Rat).num<0)=false:=rfl
 cases bs with
 | nil =>
  obtain rfl:n=0:=hl
  unfold decR RetQD
  simp only [ratD,numD,eN,eS,eK]
  exact f9dec_nil a c w
 | cons t r =>
  have hn0:0<n:=by rw [hl];simp
  obtain ⟨bb,o,c',e,_,_,hlt,hc⟩:=Sl.plain h (by rw [hl] at hn0;exact hn0)
  injection e with q1 q2 q3
  subst q1
  have hcell:=hc 0 _ rfl
  rw [Nat.add_zero] at hcell
  have ht8:=h8 t List.mem_cons_self
  have hT:∀ (k:Nat) (W:World),Below w.heap.size w W→Calls Tryz.prog 93 #[.slice (some ⟨bb,o,none⟩) n c,.int .i64 k] W (RetTK n k (t::r) (takeB ((t::r).drop k)) W):=fun k W hb=>f9take _ n c k (t::r) W (h.below hb) h8 hn
  have hO:∀ (x:Nat) (v:Bool),decide (x=1)=v→∀ (a4:Option Addr) (m4 c4:Nat) (W:World),RT W a4 m4 c4 x→Calls Tryz.prog 81 #[.slice a4 m4 c4] W fun e w'=>e=.returned (.bool v)∧Below W.heap.size W w':=fun x v hv a4 m4 c4 W q=>is_bl hv (f9one a4 m4 c4 x W q)
  unfold RetQD
  obtain ⟨R,hR⟩:∃ R,decR (t::r)=R:=⟨_,rfl⟩
  rw [hR]
  unfold decR at hR
  simp only at hR
  by_cases t0:t=0
  ·
   subst t0
   rw [if_pos rfl] at hR
   subst hR
   simp only [ratD,numD,eN,eS,eK]
   exact f9dec_zero bb o n c w ⟨hcl,hcm⟩ hn0 hlt hcell
  ·
   rw [if_neg t0] at hR
   by_cases t4:4<t
   ·
    rw [if_pos t4] at hR
    subst hR
    simp only [ratD,numD,eN,eS,eK]
    exact f9dec_big bb o n c t w ⟨hcl,hcm⟩ hn0 hlt hcell t4
   ·
    rw [if_neg t4] at hR
    have hlr:r.length+1=n:=by rw [hl,List.length_cons]
    have h8r:∀ x,x∈r→x<256:=fun x hx=>h8 x (List.mem_cons_of_mem _ hx)
    have hT1:∀ (W:World),Below w.heap.size w W→Calls Tryz.prog 93 #[.slice (some ⟨bb,o,none⟩) n c,.int .i64 1] W (RetTK n 1 (t::r) (takeB r) W):=fun W hb=>hT 1 W hb
    have hN:∀ (sg:Bool) (p:Nat) (a4:Option Addr) (m4 c4:Nat) (W:World),RT W a4 m4 c4 p→Calls Tryz.prog 76 #[.bool sg,.slice a4 m4 c4] W fun e w'=>e=.returned (.agg #[.bool (decide (newI sg p<0)),.slice a4 m4 c4])∧Below W.heap.size W w':=fun sg p a4 m4 c4 W q=>f7new sg a4 m4 c4 p W q
    by_cases t3:3≤t
    ·
     rw [if_pos t3] at hR
     cases hx1:takeB r with
     | error x =>
      rw [hx1] at hT1 hR
      simp only at hR
      subst hR
      simp only [ratD,numD,eN,eS,eK]
      exact f9dec_f_derr bb o n c t t3 (by omega) x (take_kind hx1) w ⟨hcl,hcm⟩ hn0 hlt hcell (Lib.hid hT1)
     | ok y =>
      obtain ⟨d,r2⟩:=y
      rw [hx1] at hT1 hR
      simp only at hR
      obtain ⟨hd0,hdn,hd2,hd3⟩:=take_ok h8r hx1
      obtain ⟨t1,ht1⟩:∃ t1,r.length - r2.length=t1:=⟨_,rfl⟩
      rw [ht1] at hd3
      have h8q:∀ x,x∈r2→x<256:=fun x hx=>h8r x (by rw [hd3] at hx;exact List.mem_of_mem_drop hx)
      have hT2:∀ (W:World),Below w.heap.size w W→Calls Tryz.prog 93 #[.slice (some ⟨bb,o,none⟩) n c,.int .i64 (1+t1:Nat)] W (RetTK n (1+t1) (t::r) (takeB r2) W):=fun W hb=>by
       have h9:=hT (1+t1) W hb
       rw [Nat.add_comm 1 t1,List.drop_succ_cons,← hd3] at h9
       rw [Nat.add_comm 1 t1];exact h9
      have hT1':=Lib.hid fun (W:World) (hb:Below w.heap.size w W)=>(hT1 W hb).mono fun e w' hh=>tk_ok (t:=t1) hl (by omega) hh hb.size
      cases hx2:takeB r2 with
      | error x =>
       rw [hx2] at hT2 hR
       simp only at hR
       subst hR
       have hat:(((t::r).length - r2.length:Nat):Int)=((1+t1:Nat):Int):=by rw [List.length_cons];omega
       simp only [ratD,numD,eN,eS,eK,hat]
       exact f9dec_f_nerr bb o n c t t3 (by omega) d t1 (1+t1) (by omega) (by omega) x (take_kind hx2) w ⟨hcl,hcm⟩ hn0 hlt hcell hT1' (Lib.hid hT2)
      | ok y =>
       obtain ⟨p,r3⟩:=y
       rw [hx2] at hT2 hR
       simp only at hR
       obtain ⟨hp0,hpn,hp2,hp3⟩:=take_ok h8q hx2
       obtain ⟨t2,ht2⟩:∃ t2,r2.length - r3.length=t2:=⟨_,rfl⟩
       have hT2':=Lib.hid fun (W:World) (hb:Below w.heap.size w W)=>(hT2 W hb).mono fun e w' hh=>tk_ok (t:=t2) hl (by omega) hh hb.size
       obtain ⟨hpa,hpb⟩:=dec_parts hd0 hp0 (t:=t) (by omega) (by omega) (fun h=>absurd h (by omega))
       have hG:=fun (a4:Option Addr) (m4 c4:Nat) (b4:Option Addr) (n4 d4:Nat) (W:World) (q1:RT W a4 m4 c4 p) (q2:RT W b4 n4 d4 d)=>f2gcd a4 b4 m4 c4 n4 d4 p d W q1 q2 (by have:=q1.rd.1;omega) (by have:=q2.rd.1;omega)
       by_cases hd1:d=1
       ·
        rw [if_neg (fun h=>(hpa.1 h t3).1 hd1)] at hR
        subst hR
        simp only [ratD,numD,eN,eS,eK]
        exact f9dec_f_one bb o n c t t3 (by omega) d t1 (1+t1) (by omega) (by omega) p t2 (1+t1+t2) (by omega) (by omega) w ⟨hcl,hcm⟩ hn0 hlt hcell hT1' hT2' (Lib.hid (hO d true (decide_eq_true hd1)))
       ·
        by_cases hg1:Nat.gcd p d=1
        ·
         have hpos:=hpa.2 (fun _=>⟨hd1,hg1⟩)
         rw [if_pos hpos] at hR
         subst hR
         obtain ⟨hv1,hv2⟩:=hpb hpos
         have hnum:(t::r).length - r3.length=1+t1+t2:=by rw [List.length_cons];omega
         show Calls Tryz.prog 36 #[.slice (some ⟨bb,o,none⟩) n c] w fun e w'=>RetQD (Rat.divInt (sgnI t p) (d:Nat)) 0 0 ⟨#[]⟩ w e w' ((t::r).length - r3.length)
         rw [hnum]
         unfold RetQD
         rw [hv1,hpos.2,hv2]
         rw [hg1] at hG
         rcases (show t=3∨t=4 by omega) with rfl | rfl
         ·
          exact f9dec_f_ok3 bb o n c d t1 (1+t1) (by omega) (by omega) p t2 (1+t1+t2) (by omega) (by omega) 1 _ w ⟨hcl,hcm⟩ hn0 hlt hcell hT1' hT2' (Lib.hid (hO d false (decide_eq_false hd1))) (Lib.hid hG) (Lib.hid (hO 1 true rfl)) (Lib.hid (hN false p))
         ·
          exact f9dec_f_ok4 bb o n c d t1 (1+t1) (by omega) (by omega) p t2 (1+t1+t2) (by omega) (by omega) 1 _ w ⟨hcl,hcm⟩ hn0 hlt hcell hT1' hT2' (Lib.hid (hO d false (decide_eq_false hd1))) (Lib.hid hG) (Lib.hid (hO 1 true rfl)) (Lib.hid (hN true p))
        ·
         rw [if_neg (fun h=>hg1 (hpa.1 h t3).2)] at hR
         subst hR
         simp only [ratD,numD,eN,eS,eK]
         exact f9dec_f_gcd bb o n c t t3 (by omega) d t1 (1+t1) (by omega) (by omega) p t2 (1+t1+t2) (by omega) (by omega) _ w ⟨hcl,hcm⟩ hn0 hlt hcell hT1' hT2' (Lib.hid (hO d false (decide_eq_false hd1))) (Lib.hid hG) (Lib.hid (hO _ false (decide_eq_false hg1)))
    ·
     rw [if_neg t3] at hR
     simp only at hR
     cases hx2:takeB r with
     | error x =>
      rw [hx2] at hT1 hR
      simp only at hR
      subst hR
      have hat:(((t::r).length - r.length:Nat):Int)=1:=by rw [List.length_cons];omega
      simp only [ratD,numD,eN,eS,eK,hat]
      exact f9dec_w_err bb o n c t (by omega) (by omega) x (take_kind hx2) w ⟨hcl,hcm⟩ hn0 hlt hcell (Lib.hid hT1)
     | ok y =>
      obtain ⟨p,r3⟩:=y
      rw [hx2] at hT1 hR
      simp only at hR
      obtain ⟨hp0,hpn,hp2,hp3⟩:=take_ok h8r hx2
      obtain ⟨t2,ht2⟩:∃ t2,r.length - r3.length=t2:=⟨_,rfl⟩
      have hT1':=Lib.hid fun (W:World) (hb:Below w.heap.size w W)=>(hT1 W hb).mono fun e w' hh=>tk_ok (t:=t2) hl (by omega) hh hb.size
      obtain ⟨hpa,hpb⟩:=dec_parts (d:=1) (by omega) hp0 (t:=t) (by omega) (by omega) (fun h=>rfl)
      have hpos:=hpa.2 (fun h=>absurd h t3)
      rw [if_pos hpos] at hR
      subst hR
      obtain ⟨hv1,hv2⟩:=hpb hpos
      have hnum:(t::r).length - r3.length=1+t2:=by rw [List.length_cons];omega
      show Calls Tryz.prog 36 #[.slice (some ⟨bb,o,none⟩) n c] w fun e w'=>RetQD (Rat.divInt (sgnI t p) (1:Nat)) 0 0 ⟨#[]⟩ w e w' ((t::r).length - r3.length)
      rw [hnum]
      unfold RetQD
      rw [hv1,hpos.2,hv2]
      rcases (show t=1∨t=2 by omega) with rfl | rfl
      ·
       exact f9dec_w_ok1 bb o n c p t2 (1+t2) (by omega) (by omega) _ w ⟨hcl,hcm⟩ hn0 hlt hcell hT1' (Lib.hid (hN false p))
      ·
       exact f9dec_w_ok2 bb o n c p t2 (1+t2) (by omega) (by omega) _ w ⟨hcl,hcm⟩ hn0 hlt hcell hT1' (Lib.hid (hN true p))
end Go.Proofs.YtmhainidincjhaaGreatDoor
