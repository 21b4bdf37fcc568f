/-
 What the laws stand on, part B: contracts and plain laws of Int2, Rat1, Gcd1, Rat2, Rat3, Rat4; the conditions are each law's own.
-/
import Derived.Test.YtmhainidincjhaaGreatDoorBA
import Derived.Deep.LoopGhost
import Derived.Deep.DeepCutAuto
set_option linter.unusedVariables false
set_option linter.unusedSimpArgs false
set_option maxRecDepth 100000
set_option maxHeartbeats 16000000
namespace Go.Proofs.YtmhainidincjhaaGreatDoor
open Go.RowKit
theorem icmp_tf (a b:Option Addr) (c d m n:Nat) (w:World):Calls Tryz.prog 149 #[.agg #[.bool true,.slice a (lenW m) c],.agg #[.bool false,.slice b (lenW n) d]] w fun e w'=>e=.returned (.int .i64 (-1))∧Below w.heap.size w w':=by
 go_enter Tryz.func149,Tryz.ntmps149
 go_wp2
 go_ret
 exact ⟨rfl,belowBox2 _ _ _⟩
theorem icmp_ft (a b:Option Addr) (c d m n:Nat) (w:World):Calls Tryz.prog 149 #[.agg #[.bool false,.slice a (lenW m) c],.agg #[.bool true,.slice b (lenW n) d]] w fun e w'=>e=.returned (.int .i64 (1))∧Below w.heap.size w w':=by
 go_enter Tryz.func149,Tryz.ntmps149
 go_wp2
 go_ret
 exact ⟨rfl,belowBox2 _ _ _⟩
theorem icmp_tt (a b:Option Addr) (c d m n:Nat) (w:World) (ha:NatW w a c m) (hb:NatW w b d n):Calls Tryz.prog 149 #[.agg #[.bool true,.slice a (lenW m) c],.agg #[.bool true,.slice b (lenW n) d]] w fun e w'=>e=.returned (.int .i64 (cmpN n m))∧Below w.heap.size w w':=by
 have HC:=qH (ncmp_any b a d c n m ((w.alloc (.cells #[.bool true,.slice a (lenW m) c] 43)).alloc (.cells #[.bool true,.slice b (lenW n) d] 43)) (NatW.below (by assumption) (belowBox2 _ _ _)) (NatW.below (by assumption) (belowBox2 _ _ _)))
 clear ha hb
 go_enter Tryz.func149,Tryz.ntmps149
 go_wp2_with fail
 refine HC.out.mono ?_
 rintro e w1 ⟨rfl,hb1⟩
 go_wp2_with fail
 go_ret
 exact ⟨rfl,bthen (belowBox2 _ _ _) hb1⟩
theorem icmp_ff (a b:Option Addr) (c d m n:Nat) (w:World) (ha:NatW w a c m) (hb:NatW w b d n):Calls Tryz.prog 149 #[.agg #[.bool false,.slice a (lenW m) c],.agg #[.bool false,.slice b (lenW n) d]] w fun e w'=>e=.returned (.int .i64 (cmpN m n))∧Below w.heap.size w w':=by
 have HC:=qH (ncmp_any a b c d m n ((w.alloc (.cells #[.bool false,.slice a (lenW m) c] 43)).alloc (.cells #[.bool false,.slice b (lenW n) d] 43)) (NatW.below (by assumption) (belowBox2 _ _ _)) (NatW.below (by assumption) (belowBox2 _ _ _)))
 clear ha hb
 go_enter Tryz.func149,Tryz.ntmps149
 go_wp2_with fail
 refine HC.out.mono ?_
 rintro e w1 ⟨rfl,hb1⟩
 go_wp2_with fail
 go_ret
 exact ⟨rfl,bthen (belowBox2 _ _ _) hb1⟩
theorem icmp_any (x y:Int) (a b:Option Addr) (c d:Nat) (w:World) (ha:NatW w a c x.natAbs) (hb:NatW w b d y.natAbs):Calls Tryz.prog 149 #[.agg #[.bool (decide (x<0)),.slice a (lenW x.natAbs) c],.agg #[.bool (decide (y<0)),.slice b (lenW y.natAbs) d]] w fun e w'=>e=.returned (.int .i64 (cmpI x y))∧Below w.heap.size w w':=by
 by_cases h1:x<0 <;> by_cases h2:y<0
 ·
  rw [decide_eq_true h1,decide_eq_true h2,← cmpI_below x y h1 h2];exact icmp_tt a b c d _ _ w ha hb
 ·
  rw [decide_eq_true h1,decide_eq_false h2,cmpI_lt (by omega)];exact icmp_tf a b c d _ _ w
 ·
  rw [decide_eq_false h1,decide_eq_true h2,cmpI_gt (by omega)];exact icmp_ft a b c d _ _ w
 ·
  rw [decide_eq_false h1,decide_eq_false h2,← cmpI_above x y h1 h2];exact icmp_ff a b c d _ _ w ha hb
theorem iadd_ff (a b:Option Addr) (c d m n:Nat) (w:World) (ha:NatW w a c m) (hb:NatW w b d n) (h1:lenW m≤17592186044416) (h2:lenW n≤17592186044416):Calls Tryz.prog 197 #[.agg #[.bool false,.slice a (lenW m) c],.agg #[.bool false,.slice b (lenW n) d]] w (RetI (newI false (m+n)) w):=by
 obtain ⟨W0,hW0⟩:∃ W0,W0=(((w.alloc (.cells #[.bool false,.slice a (lenW m) c] 43)).alloc (.cells #[.bool false,.slice b (lenW n) d] 43)).alloc (.cells #[.bool false,.slice none 0 0] 43)):=⟨_,rfl⟩
 have hbs:BS w [⟨w.heap.size,43,[.bool false,.slice a (lenW m) c]⟩,⟨w.heap.size+1,43,[.bool false,.slice b (lenW n) d]⟩,⟨w.heap.size+1+1,43,[.bool false,.slice none 0 0]⟩] [⟨a,c,m⟩,⟨b,d,n⟩] (((w.alloc (.cells #[.bool false,.slice a (lenW m) c] 43)).alloc (.cells #[.bool false,.slice b (lenW n) d] 43)).alloc (.cells #[.bool false,.slice none 0 0] 43)) :=
  (((BS.begin [⟨a,c,m⟩,⟨b,d,n⟩] (fun y hy=>by
   rcases List.mem_cons.1 hy with rfl | hy
   ·
    exact ha
   ·
    rw [List.mem_singleton.1 hy];exact hb)).alloc (p:=w.heap.size) rfl 43 [.bool false,.slice a (lenW m) c] rfl).alloc (p:=w.heap.size+1) (by simp) 43 [.bool false,.slice b (lenW n) d] rfl).alloc (p:=w.heap.size+1+1) (by simp) 43 [.bool false,.slice none 0 0] rfl
 rw [← hW0] at hbs
 have HW0:=qH hW0
 have HBS:=qH hbs
 clear hW0 hbs
 have HA:=qH (fun (W:World) (q1:NatW W a c m) (q2:NatW W b d n)=>nadd_any a b c d m n W q1 q2 h1 h2)
 have HNew:=qH (fun (a2:Option Addr) (c2:Nat) (W:World) (q1:NatW W a2 c2 (m+n))=>inew_any false a2 c2 (m+n) W q1)
 clear ha hb h1 h2
 go_enter Tryz.func197,Tryz.ntmps197
 go_upto_region 2 with fail
 rw [← HW0.out]
 have hn:=HBS.out.drew
 refine wp_region_held_drew (S:=fun W=>W.cell? ⟨w.heap.size,0,none⟩=some (.bool false)∧W.cell? ⟨w.heap.size,1,none⟩=some (.slice a (lenW m) c)∧W.cell? ⟨w.heap.size+1,1,none⟩=some (.slice b (lenW n) d)) (by kernel_rfl) (⟨hn.cell 0 0 rfl rfl,hn.cell 0 1 rfl rfl,hn.cell 1 1 rfl rfl⟩) (fun hHeld=>?_)
 refine tm 0 (some 14) ?_
 refine tl 1 (some 15) ?_
 refine tm 2 (some 16) ?_
 refine tl 3 (some 17) ?_
 refine tm 4 (some 18) ?_
 refine tl 5 (some 19) ?_
 refine wpAnyH_ready (rs:=[6]) (by kernel_rfl) (by simp) ?_
 refine (AllReadyH.cons rfl (fun K hK=>?_) AllReadyH.nil)
 go_simp
 refine (HA.out _ (hn.nat 0 rfl) (hn.nat 1 rfl)).mono ?_
 rintro e w2 ⟨a8,c8,rfl,hq,hb2⟩
 have hn1:=(hn.call hb2).got hq
 clear hn hb2 hq
 have hn:=hn1
 clear hn1
 go_wp2_with fail
 refine hK.out _ _ (⟨hn.cell 0 0 rfl rfl,hn.cell 0 1 rfl rfl,hn.cell 1 1 rfl rfl⟩) (fun hHeld2=>?_)
 clear hK K hHeld
 rename _=>hHeld
 try simp only [Act.put,stB,stZ,stS]
 refine wpAnyH_ready (rs:=[7]) (by kernel_rfl) (by simp) ?_
 refine (AllReadyH.cons rfl (fun K hK=>?_) AllReadyH.nil)
 go_simp
 refine (HNew.out _ _ _ (hn.nat 2 rfl)).mono ?_
 rintro e w3 ⟨a9,c9,rfl,hq,hb3⟩
 have hn1:=(hn.call hb3).got hq
 clear hn hb3 hq
 have hn:=hn1
 clear hn1
 go_wp2_with fail
 refine hK.out _ _ (⟨hn.cell 0 0 rfl rfl,hn.cell 0 1 rfl rfl,hn.cell 1 1 rfl rfl⟩) (fun hHeld2=>?_)
 clear hK K hHeld
 rename _=>hHeld
 try simp only [Act.put,stB,stZ,stS]
 refine wpAnyH_ready (rs:=[8]) (by kernel_rfl) (by simp) ?_
 refine (AllReadyH.cons rfl (fun K hK=>?_) AllReadyH.nil)
 have k0:=hn.cell 2 0 rfl rfl
 have f0:=hn.free 2 0 rfl
 have k1:=hn.cell 2 1 rfl rfl
 have f1:=hn.free 2 1 rfl
 go_simp
 clear f0 f1
 have hn1:=(hn.set 2 0 rfl rfl (fun _=>by simp) (.bool (decide (newI false (m+n)<0)))).set 2 1 rfl rfl (fun _=>by simp) (.slice a9 (lenW (newI false (m+n)).natAbs) c9)
 clear hn
 have hn:=hn1
 clear hn1
 refine hK.out _ _ (⟨hn.cell 0 0 rfl rfl,hn.cell 0 1 rfl rfl,hn.cell 1 1 rfl rfl⟩) (fun hHeld2=>?_)
 clear hK K hHeld
 rename _=>hHeld
 try simp only [Act.put,stB,stZ,stS]
 refine wpAnyH_done (by kernel_rfl) ?_ _
 have j0:=hn.cell 2 0 rfl rfl
 have j1:=hn.cell 2 1 rfl rfl
 have HN:=qH hn
 clear hn
 go_wp2
 refine bodyPost_ret (v:=.agg #[.bool (decide (newI false (m+n)<0)),.slice a9 (lenW (newI false (m+n)).natAbs) c9]) (by simp [results,Tryz.results197,go_sem,j0,j1,k0,k1]) rfl ?_
 exact RetI.of rfl rfl rfl (HN.out.nat 3 rfl) HN.out.bel
theorem iadd_tf_ge (a b:Option Addr) (c d m n:Nat) (w:World) (ha:NatW w a c m) (hb:NatW w b d n) (h1:lenW m≤17592186044416) (hle:n≤m):Calls Tryz.prog 197 #[.agg #[.bool true,.slice a (lenW m) c],.agg #[.bool false,.slice b (lenW n) d]] w (RetI (newI true (m - n)) w):=by
 obtain ⟨W0,hW0⟩:∃ W0,W0=(((w.alloc (.cells #[.bool true,.slice a (lenW m) c] 43)).alloc (.cells #[.bool false,.slice b (lenW n) d] 43)).alloc (.cells #[.bool false,.slice none 0 0] 43)):=⟨_,rfl⟩
 have hbs:BS w [⟨w.heap.size,43,[.bool true,.slice a (lenW m) c]⟩,⟨w.heap.size+1,43,[.bool false,.slice b (lenW n) d]⟩,⟨w.heap.size+1+1,43,[.bool false,.slice none 0 0]⟩] [⟨a,c,m⟩,⟨b,d,n⟩] (((w.alloc (.cells #[.bool true,.slice a (lenW m) c] 43)).alloc (.cells #[.bool false,.slice b (lenW n) d] 43)).alloc (.cells #[.bool false,.slice none 0 0] 43)) :=
  (((BS.begin [⟨a,c,m⟩,⟨b,d,n⟩] (fun y hy=>by
   rcases List.mem_cons.1 hy with rfl | hy
   ·
    exact ha
   ·
    rw [List.mem_singleton.1 hy];exact hb)).alloc (p:=w.heap.size) rfl 43 [.bool true,.slice a (lenW m) c] rfl).alloc (p:=w.heap.size+1) (by simp) 43 [.bool false,.slice b (lenW n) d] rfl).alloc (p:=w.heap.size+1+1) (by simp) 43 [.bool false,.slice none 0 0] rfl
 rw [← hW0] at hbs
 have HW0:=qH hW0
 have HBS:=qH hbs
 clear hW0 hbs
 have HS:=qH (fun (W:World) (q1:NatW W a c m) (q2:NatW W b d n)=>nsub_any a b c d m n W q1 q2 hle h1)
 have HNew:=qH (fun (a2:Option Addr) (c2:Nat) (W:World) (q1:NatW W a2 c2 (m - n))=>inew_any true a2 c2 (m - n) W q1)
 clear ha hb h1 hle
 go_enter Tryz.func197,Tryz.ntmps197
 go_wp2_with fail
 rw [← HW0.out]
 refine (HS.out _ (HBS.out.nat 0 rfl) (HBS.out.nat 1 rfl)).mono ?_
 rintro e w1 ⟨a8,c8,rfl,hq,hb1⟩
 have hn0:=(HBS.out.call hb1).got hq
 have g2:=hn0.lt 2 rfl
 have HN1:=qH (hn0.alloc (p:=w1.heap.size) rfl 41 [.slice a8 (lenW (m - n)) c8] rfl)
 have k0:=hn0.cell 0 0 rfl rfl
 have l0:=hn0.lt 0 rfl
 clear hb1 hq hn0
 go_wp2_with fail
 refine (HNew.out _ _ _ (HN1.out.nat 2 rfl)).mono ?_
 rintro e w2 ⟨a9,c9,rfl,hq,hb2⟩
 have hn:=(HN1.out.call hb2).got hq
 clear k0 l0 g2
 have k0:=hn.cell 2 0 rfl rfl
 have k1:=hn.cell 2 1 rfl rfl
 have f0:=hn.free 2 0 rfl
 have f1:=hn.free 2 1 rfl
 have HN:=qH ((hn.set 2 0 rfl rfl (fun _=>by simp) (.bool (decide (newI true (m - n)<0)))).set 2 1 rfl rfl (fun _=>by simp) (.slice a9 (lenW (newI true (m - n)).natAbs) c9))
 have ⟨j0,j1⟩:=HN.out.cg2 2 rfl
 clear hq hb2 hn HN1
 go_wp2_with fail
 refine bodyPost_ret (v:=.agg #[.bool (decide (newI true (m - n)<0)),.slice a9 (lenW (newI true (m - n)).natAbs) c9]) (by simp [results,Tryz.results197,go_sem,j0,j1,k0,k1]) rfl ?_
 exact RetI.of rfl rfl rfl (HN.out.nat 3 rfl) HN.out.bel
theorem iadd_tf_lt (a b:Option Addr) (c d m n:Nat) (w:World) (ha:NatW w a c m) (hb:NatW w b d n) (h2:lenW n≤17592186044416) (hle:m<n):Calls Tryz.prog 197 #[.agg #[.bool true,.slice a (lenW m) c],.agg #[.bool false,.slice b (lenW n) d]] w (RetI (newI false (n - m)) w):=by
 obtain ⟨W0,hW0⟩:∃ W0,W0=(((w.alloc (.cells #[.bool true,.slice a (lenW m) c] 43)).alloc (.cells #[.bool false,.slice b (lenW n) d] 43)).alloc (.cells #[.bool false,.slice none 0 0] 43)):=⟨_,rfl⟩
 have hbs:BS w [⟨w.heap.size,43,[.bool true,.slice a (lenW m) c]⟩,⟨w.heap.size+1,43,[.bool false,.slice b (lenW n) d]⟩,⟨w.heap.size+1+1,43,[.bool false,.slice none 0 0]⟩] [⟨a,c,m⟩,⟨b,d,n⟩] (((w.alloc (.cells #[.bool true,.slice a (lenW m) c] 43)).alloc (.cells #[.bool false,.slice b (lenW n) d] 43)).alloc (.cells #[.bool false,.slice none 0 0] 43)) :=
  (((BS.begin [⟨a,c,m⟩,⟨b,d,n⟩] (fun y hy=>by
   rcases List.mem_cons.1 hy with rfl | hy
   ·
    exact ha
   ·
    rw [List.mem_singleton.1 hy];exact hb)).alloc (p:=w.heap.size) rfl 43 [.bool true,.slice a (lenW m) c] rfl).alloc (p:=w.heap.size+1) (by simp) 43 [.bool false,.slice b (lenW n) d] rfl).alloc (p:=w.heap.size+1+1) (by simp) 43 [.bool false,.slice none 0 0] rfl
 rw [← hW0] at hbs
 have HW0:=qH hW0
 have HBS:=qH hbs
 clear hW0 hbs
 have HS:=qH (fun (W:World) (q1:NatW W a c m) (q2:NatW W b d n)=>nsub_no a b c d m n W q1 q2 hle)
 have HS2:=qH (fun (W:World) (q1:NatW W a c m) (q2:NatW W b d n)=>nsub_any b a d c n m W q2 q1 (by omega) h2)
 have HNew:=qH (fun (a2:Option Addr) (c2:Nat) (W:World) (q1:NatW W a2 c2 (n - m))=>inew_any false a2 c2 (n - m) W q1)
 clear ha hb h2 hle
 go_enter Tryz.func197,Tryz.ntmps197
 go_wp2_with fail
 rw [← HW0.out]
 refine (HS.out _ (HBS.out.nat 0 rfl) (HBS.out.nat 1 rfl)).mono ?_
 rintro e w1 ⟨a8,c8,rfl,hq,hb1⟩
 have hn0:=(HBS.out.call hb1).got hq
 have HN1:=qH (hn0.alloc (p:=w1.heap.size) rfl 41 [.slice a8 (lenW 0) c8] rfl)
 have k0:=hn0.cell 0 1 rfl rfl
 have k1:=hn0.cell 1 1 rfl rfl
 have l0:=hn0.lt 0 rfl
 have l1:=hn0.lt 1 rfl
 clear hb1 hq hn0
 go_wp2_with fail
 refine (HS2.out _ (HN1.out.nat 0 rfl) (HN1.out.nat 1 rfl)).mono ?_
 rintro e w3 ⟨a7,c7,rfl,hq,hb3⟩
 have hn0:=(HN1.out.call hb3).got hq
 have HN3:=qH (hn0.alloc (p:=w3.heap.size) rfl 41 [.slice a7 (lenW (n - m)) c7] rfl)
 clear k0 k1 l0 l1
 have k1:=hn0.cell 1 0 rfl rfl
 have l1:=hn0.lt 1 rfl
 clear hq hb3 hn0 HN1
 go_wp2_with fail
 refine (HNew.out _ _ _ (HN3.out.nat 3 rfl)).mono ?_
 rintro e w2 ⟨a9,c9,rfl,hq,hb2⟩
 have hn:=(HN3.out.call hb2).got hq
 clear k1 l1
 have k0:=hn.cell 2 0 rfl rfl
 have k1:=hn.cell 2 1 rfl rfl
 have f0:=hn.free 2 0 rfl
 have f1:=hn.free 2 1 rfl
 have HN:=qH ((hn.set 2 0 rfl rfl (fun _=>by simp) (.bool (decide (newI false (n - m)<0)))).set 2 1 rfl rfl (fun _=>by simp) (.slice a9 (lenW (newI false (n - m)).natAbs) c9))
 have ⟨j0,j1⟩:=HN.out.cg2 2 rfl
 clear hq hb2 hn HN3
 go_wp2_with fail
 refine bodyPost_ret (v:=.agg #[.bool (decide (newI false (n - m)<0)),.slice a9 (lenW (newI false (n - m)).natAbs) c9]) (by simp [results,Tryz.results197,go_sem,j0,j1,k0,k1]) rfl ?_
 exact RetI.of rfl rfl rfl (HN.out.nat 4 rfl) HN.out.bel
theorem imul_tt {K:Nat} (hK:MulUpto K) (a b:Option Addr) (c d m n:Nat) (w:World) (ha:NatW w a c m) (hb:NatW w b d n) (h1:lenW m+lenW n≤K):Calls Tryz.prog 150 #[.agg #[.bool true,.slice a (lenW m) c],.agg #[.bool true,.slice b (lenW n) d]] w (RetI (newI false (m*n)) w):=by
 obtain ⟨W0,hW0⟩:∃ W0,W0=(((w.alloc (.cells #[.bool true,.slice a (lenW m) c] 43)).alloc (.cells #[.bool true,.slice b (lenW n) d] 43)).alloc (.cells #[.bool false,.slice none 0 0] 43)):=⟨_,rfl⟩
 have hbs:BS w [⟨w.heap.size,43,[.bool true,.slice a (lenW m) c]⟩,⟨w.heap.size+1,43,[.bool true,.slice b (lenW n) d]⟩,⟨w.heap.size+1+1,43,[.bool false,.slice none 0 0]⟩] [⟨a,c,m⟩,⟨b,d,n⟩] (((w.alloc (.cells #[.bool true,.slice a (lenW m) c] 43)).alloc (.cells #[.bool true,.slice b (lenW n) d] 43)).alloc (.cells #[.bool false,.slice none 0 0] 43)) :=
  (((BS.begin [⟨a,c,m⟩,⟨b,d,n⟩] (fun y hy=>by
   rcases List.mem_cons.1 hy with rfl | hy
   ·
    exact ha
   ·
    rw [List.mem_singleton.1 hy];exact hb)).alloc (p:=w.heap.size) rfl 43 [.bool true,.slice a (lenW m) c] rfl).alloc (p:=w.heap.size+1) (by simp) 43 [.bool true,.slice b (lenW n) d] rfl).alloc (p:=w.heap.size+1+1) (by simp) 43 [.bool false,.slice none 0 0] rfl
 rw [← hW0] at hbs
 have HW0:=qH hW0
 have HBS:=qH hbs
 clear hW0 hbs
 have HM:=qH (fun (W:World) (q1:NatW W a c m) (q2:NatW W b d n)=>hK a b c d m n W q1 q2 h1)
 have HNew:=qH (fun (a2:Option Addr) (c2:Nat) (W:World) (q1:NatW W a2 c2 (m*n))=>inew_any false a2 c2 (m*n) W q1)
 clear ha hb h1 hK
 go_enter Tryz.func150,Tryz.ntmps150
 go_upto_region 1 with fail
 rw [← HW0.out]
 have hn:=HBS.out.drew
 refine wp_region_held_drew (S:=fun W=>W.cell? ⟨w.heap.size,0,none⟩=some (.bool true)∧W.cell? ⟨w.heap.size+1,0,none⟩=some (.bool true)∧W.cell? ⟨w.heap.size,1,none⟩=some (.slice a (lenW m) c)∧W.cell? ⟨w.heap.size+1,1,none⟩=some (.slice b (lenW n) d)) (by kernel_rfl) (⟨hn.cell 0 0 rfl rfl,hn.cell 1 0 rfl rfl,hn.cell 0 1 rfl rfl,hn.cell 1 1 rfl rfl⟩) (fun hHeld=>?_)
 refine tm 0 (some 5) ?_
 refine tl 1 (some 6) ?_
 refine tm 2 (some 7) ?_
 refine tl 3 (some 8) ?_
 refine tm 4 (some 9) ?_
 refine tm 5 (some 10) ?_
 refine tl 6 (some 11) ?_
 refine tm 7 (some 12) ?_
 refine tl 8 (some 13) ?_
 refine wpAnyH_ready (rs:=[9]) (by kernel_rfl) (by simp) ?_
 refine (AllReadyH.cons rfl (fun K hK=>?_) AllReadyH.nil)
 go_simp
 refine (HM.out _ (hn.nat 0 rfl) (hn.nat 1 rfl)).mono ?_
 rintro e w2 ⟨a8,c8,rfl,hq,hb2⟩
 have hn1:=(hn.call hb2).got hq
 clear hn hb2 hq
 have hn:=hn1
 clear hn1
 go_wp2_with fail
 refine hK.out _ _ (⟨hn.cell 0 0 rfl rfl,hn.cell 1 0 rfl rfl,hn.cell 0 1 rfl rfl,hn.cell 1 1 rfl rfl⟩) (fun hHeld2=>?_)
 clear hK K hHeld
 rename _=>hHeld
 try simp only [Act.put,stB,stZ,stS]
 refine wpAnyH_ready (rs:=[10]) (by kernel_rfl) (by simp) ?_
 refine (AllReadyH.cons rfl (fun K hK=>?_) AllReadyH.nil)
 go_simp
 refine (HNew.out _ _ _ (hn.nat 2 rfl)).mono ?_
 rintro e w3 ⟨a9,c9,rfl,hq,hb3⟩
 have hn1:=(hn.call hb3).got hq
 clear hn hb3 hq
 have hn:=hn1
 clear hn1
 go_wp2_with fail
 refine hK.out _ _ (⟨hn.cell 0 0 rfl rfl,hn.cell 1 0 rfl rfl,hn.cell 0 1 rfl rfl,hn.cell 1 1 rfl rfl⟩) (fun hHeld2=>?_)
 clear hK K hHeld
 rename _=>hHeld
 try simp only [Act.put,stB,stZ,stS]
 refine wpAnyH_ready (rs:=[11]) (by kernel_rfl) (by simp) ?_
 refine (AllReadyH.cons rfl (fun K hK=>?_) AllReadyH.nil)
 have k0:=hn.cell 2 0 rfl rfl
 have f0:=hn.free 2 0 rfl
 have k1:=hn.cell 2 1 rfl rfl
 have f1:=hn.free 2 1 rfl
 go_simp
 clear f0 f1
 have hn1:=(hn.set 2 0 rfl rfl (fun _=>by simp) (.bool (decide (newI false (m*n)<0)))).set 2 1 rfl rfl (fun _=>by simp) (.slice a9 (lenW (newI false (m*n)).natAbs) c9)
 clear hn
 have hn:=hn1
 clear hn1
 refine hK.out _ _ (⟨hn.cell 0 0 rfl rfl,hn.cell 1 0 rfl rfl,hn.cell 0 1 rfl rfl,hn.cell 1 1 rfl rfl⟩) (fun hHeld2=>?_)
 clear hK K hHeld
 rename _=>hHeld
 try simp only [Act.put,stB,stZ,stS]
 refine wpAnyH_done (by kernel_rfl) ?_ _
 have j0:=hn.cell 2 0 rfl rfl
 have j1:=hn.cell 2 1 rfl rfl
 have HN:=qH hn
 clear hn
 go_wp2
 refine bodyPost_ret (v:=.agg #[.bool (decide (newI false (m*n)<0)),.slice a9 (lenW (newI false (m*n)).natAbs) c9]) (by simp [results,Tryz.results150,go_sem,j0,j1,k0,k1]) rfl ?_
 exact RetI.of rfl rfl rfl (HN.out.nat 3 rfl) HN.out.bel
theorem imul_tf {K:Nat} (hK:MulUpto K) (a b:Option Addr) (c d m n:Nat) (w:World) (ha:NatW w a c m) (hb:NatW w b d n) (h1:lenW m+lenW n≤K):Calls Tryz.prog 150 #[.agg #[.bool true,.slice a (lenW m) c],.agg #[.bool false,.slice b (lenW n) d]] w (RetI (newI true (m*n)) w):=by
 obtain ⟨W0,hW0⟩:∃ W0,W0=(((w.alloc (.cells #[.bool true,.slice a (lenW m) c] 43)).alloc (.cells #[.bool false,.slice b (lenW n) d] 43)).alloc (.cells #[.bool false,.slice none 0 0] 43)):=⟨_,rfl⟩
 have hbs:BS w [⟨w.heap.size,43,[.bool true,.slice a (lenW m) c]⟩,⟨w.heap.size+1,43,[.bool false,.slice b (lenW n) d]⟩,⟨w.heap.size+1+1,43,[.bool false,.slice none 0 0]⟩] [⟨a,c,m⟩,⟨b,d,n⟩] (((w.alloc (.cells #[.bool true,.slice a (lenW m) c] 43)).alloc (.cells #[.bool false,.slice b (lenW n) d] 43)).alloc (.cells #[.bool false,.slice none 0 0] 43)) :=
  (((BS.begin [⟨a,c,m⟩,⟨b,d,n⟩] (fun y hy=>by
   rcases List.mem_cons.1 hy with rfl | hy
   ·
    exact ha
   ·
    rw [List.mem_singleton.1 hy];exact hb)).alloc (p:=w.heap.size) rfl 43 [.bool true,.slice a (lenW m) c] rfl).alloc (p:=w.heap.size+1) (by simp) 43 [.bool false,.slice b (lenW n) d] rfl).alloc (p:=w.heap.size+1+1) (by simp) 43 [.bool false,.slice none 0 0] rfl
 rw [← hW0] at hbs
 have HW0:=qH hW0
 have HBS:=qH hbs
 clear hW0 hbs
 have HM:=qH (fun (W:World) (q1:NatW W a c m) (q2:NatW W b d n)=>hK a b c d m n W q1 q2 h1)
 have HNew:=qH (fun (a2:Option Addr) (c2:Nat) (W:World) (q1:NatW W a2 c2 (m*n))=>inew_any true a2 c2 (m*n) W q1)
 clear ha hb h1 hK
 go_enter Tryz.func150,Tryz.ntmps150
 go_upto_region 1 with fail
 rw [← HW0.out]
 have hn:=HBS.out.drew
 refine wp_region_held_drew (S:=fun W=>W.cell? ⟨w.heap.size,0,none⟩=some (.bool true)∧W.cell? ⟨w.heap.size+1,0,none⟩=some (.bool false)∧W.cell? ⟨w.heap.size,1,none⟩=some (.slice a (lenW m) c)∧W.cell? ⟨w.heap.size+1,1,none⟩=some (.slice b (lenW n) d)) (by kernel_rfl) (⟨hn.cell 0 0 rfl rfl,hn.cell 1 0 rfl rfl,hn.cell 0 1 rfl rfl,hn.cell 1 1 rfl rfl⟩) (fun hHeld=>?_)
 refine tm 0 (some 5) ?_
 refine tl 1 (some 6) ?_
 refine tm 2 (some 7) ?_
 refine tl 3 (some 8) ?_
 refine tm 4 (some 9) ?_
 refine tm 5 (some 10) ?_
 refine tl 6 (some 11) ?_
 refine tm 7 (some 12) ?_
 refine tl 8 (some 13) ?_
 refine wpAnyH_ready (rs:=[9]) (by kernel_rfl) (by simp) ?_
 refine (AllReadyH.cons rfl (fun K hK=>?_) AllReadyH.nil)
 go_simp
 refine (HM.out _ (hn.nat 0 rfl) (hn.nat 1 rfl)).mono ?_
 rintro e w2 ⟨a8,c8,rfl,hq,hb2⟩
 have hn1:=(hn.call hb2).got hq
 clear hn hb2 hq
 have hn:=hn1
 clear hn1
 go_wp2_with fail
 refine hK.out _ _ (⟨hn.cell 0 0 rfl rfl,hn.cell 1 0 rfl rfl,hn.cell 0 1 rfl rfl,hn.cell 1 1 rfl rfl⟩) (fun hHeld2=>?_)
 clear hK K hHeld
 rename _=>hHeld
 try simp only [Act.put,stB,stZ,stS]
 refine wpAnyH_ready (rs:=[10]) (by kernel_rfl) (by simp) ?_
 refine (AllReadyH.cons rfl (fun K hK=>?_) AllReadyH.nil)
 go_simp
 refine (HNew.out _ _ _ (hn.nat 2 rfl)).mono ?_
 rintro e w3 ⟨a9,c9,rfl,hq,hb3⟩
 have hn1:=(hn.call hb3).got hq
 clear hn hb3 hq
 have hn:=hn1
 clear hn1
 go_wp2_with fail
 refine hK.out _ _ (⟨hn.cell 0 0 rfl rfl,hn.cell 1 0 rfl rfl,hn.cell 0 1 rfl rfl,hn.cell 1 1 rfl rfl⟩) (fun hHeld2=>?_)
 clear hK K hHeld
 rename _=>hHeld
 try simp only [Act.put,stB,stZ,stS]
 refine wpAnyH_ready (rs:=[11]) (by kernel_rfl) (by simp) ?_
 refine (AllReadyH.cons rfl (fun K hK=>?_) AllReadyH.nil)
 have k0:=hn.cell 2 0 rfl rfl
 have f0:=hn.free 2 0 rfl
 have k1:=hn.cell 2 1 rfl rfl
 have f1:=hn.free 2 1 rfl
 go_simp
 clear f0 f1
 have hn1:=(hn.set 2 0 rfl rfl (fun _=>by simp) (.bool (decide (newI true (m*n)<0)))).set 2 1 rfl rfl (fun _=>by simp) (.slice a9 (lenW (newI true (m*n)).natAbs) c9)
 clear hn
 have hn:=hn1
 clear hn1
 refine hK.out _ _ (⟨hn.cell 0 0 rfl rfl,hn.cell 1 0 rfl rfl,hn.cell 0 1 rfl rfl,hn.cell 1 1 rfl rfl⟩) (fun hHeld2=>?_)
 clear hK K hHeld
 rename _=>hHeld
 try simp only [Act.put,stB,stZ,stS]
 refine wpAnyH_done (by kernel_rfl) ?_ _
 have j0:=hn.cell 2 0 rfl rfl
 have j1:=hn.cell 2 1 rfl rfl
 have HN:=qH hn
 clear hn
 go_wp2
 refine bodyPost_ret (v:=.agg #[.bool (decide (newI true (m*n)<0)),.slice a9 (lenW (newI true (m*n)).natAbs) c9]) (by simp [results,Tryz.results150,go_sem,j0,j1,k0,k1]) rfl ?_
 exact RetI.of rfl rfl rfl (HN.out.nat 3 rfl) HN.out.bel
theorem imul_ft {K:Nat} (hK:MulUpto K) (a b:Option Addr) (c d m n:Nat) (w:World) (ha:NatW w a c m) (hb:NatW w b d n) (h1:lenW m+lenW n≤K):Calls Tryz.prog 150 #[.agg #[.bool false,.slice a (lenW m) c],.agg #[.bool true,.slice b (lenW n) d]] w (RetI (newI true (m*n)) w):=by
 obtain ⟨W0,hW0⟩:∃ W0,W0=(((w.alloc (.cells #[.bool false,.slice a (lenW m) c] 43)).alloc (.cells #[.bool true,.slice b (lenW n) d] 43)).alloc (.cells #[.bool false,.slice none 0 0] 43)):=⟨_,rfl⟩
 have hbs:BS w [⟨w.heap.size,43,[.bool false,.slice a (lenW m) c]⟩,⟨w.heap.size+1,43,[.bool true,.slice b (lenW n) d]⟩,⟨w.heap.size+1+1,43,[.bool false,.slice none 0 0]⟩] [⟨a,c,m⟩,⟨b,d,n⟩] (((w.alloc (.cells #[.bool false,.slice a (lenW m) c] 43)).alloc (.cells #[.bool true,.slice b (lenW n) d] 43)).alloc (.cells #[.bool false,.slice none 0 0] 43)) :=
  (((BS.begin [⟨a,c,m⟩,⟨b,d,n⟩] (fun y hy=>by
   rcases List.mem_cons.1 hy with rfl | hy
   ·
    exact ha
   ·
    rw [List.mem_singleton.1 hy];exact hb)).alloc (p:=w.heap.size) rfl 43 [.bool false,.slice a (lenW m) c] rfl).alloc (p:=w.heap.size+1) (by simp) 43 [.bool true,.slice b (lenW n) d] rfl).alloc (p:=w.heap.size+1+1) (by simp) 43 [.bool false,.slice none 0 0] rfl
 rw [← hW0] at hbs
 have HW0:=qH hW0
 have HBS:=qH hbs
 clear hW0 hbs
 have HM:=qH (fun (W:World) (q1:NatW W a c m) (q2:NatW W b d n)=>hK a b c d m n W q1 q2 h1)
 have HNew:=qH (fun (a2:Option Addr) (c2:Nat) (W:World) (q1:NatW W a2 c2 (m*n))=>inew_any true a2 c2 (m*n) W q1)
 clear ha hb h1 hK
 go_enter Tryz.func150,Tryz.ntmps150
 go_upto_region 1 with fail
 rw [← HW0.out]
 have hn:=HBS.out.drew
 refine wp_region_held_drew (S:=fun W=>W.cell? ⟨w.heap.size,0,none⟩=some (.bool false)∧W.cell? ⟨w.heap.size+1,0,none⟩=some (.bool true)∧W.cell? ⟨w.heap.size,1,none⟩=some (.slice a (lenW m) c)∧W.cell? ⟨w.heap.size+1,1,none⟩=some (.slice b (lenW n) d)) (by kernel_rfl) (⟨hn.cell 0 0 rfl rfl,hn.cell 1 0 rfl rfl,hn.cell 0 1 rfl rfl,hn.cell 1 1 rfl rfl⟩) (fun hHeld=>?_)
 refine tm 0 (some 5) ?_
 refine tl 1 (some 6) ?_
 refine tm 2 (some 7) ?_
 refine tl 3 (some 8) ?_
 refine tm 4 (some 9) ?_
 refine tm 5 (some 10) ?_
 refine tl 6 (some 11) ?_
 refine tm 7 (some 12) ?_
 refine tl 8 (some 13) ?_
 refine wpAnyH_ready (rs:=[9]) (by kernel_rfl) (by simp) ?_
 refine (AllReadyH.cons rfl (fun K hK=>?_) AllReadyH.nil)
 go_simp
 refine (HM.out _ (hn.nat 0 rfl) (hn.nat 1 rfl)).mono ?_
 rintro e w2 ⟨a8,c8,rfl,hq,hb2⟩
 have hn1:=(hn.call hb2).got hq
 clear hn hb2 hq
 have hn:=hn1
 clear hn1
 go_wp2_with fail
 refine hK.out _ _ (⟨hn.cell 0 0 rfl rfl,hn.cell 1 0 rfl rfl,hn.cell 0 1 rfl rfl,hn.cell 1 1 rfl rfl⟩) (fun hHeld2=>?_)
 clear hK K hHeld
 rename _=>hHeld
 try simp only [Act.put,stB,stZ,stS]
 refine wpAnyH_ready (rs:=[10]) (by kernel_rfl) (by simp) ?_
 refine (AllReadyH.cons rfl (fun K hK=>?_) AllReadyH.nil)
 go_simp
 refine (HNew.out _ _ _ (hn.nat 2 rfl)).mono ?_
 rintro e w3 ⟨a9,c9,rfl,hq,hb3⟩
 have hn1:=(hn.call hb3).got hq
 clear hn hb3 hq
 have hn:=hn1
 clear hn1
 go_wp2_with fail
 refine hK.out _ _ (⟨hn.cell 0 0 rfl rfl,hn.cell 1 0 rfl rfl,hn.cell 0 1 rfl rfl,hn.cell 1 1 rfl rfl⟩) (fun hHeld2=>?_)
 clear hK K hHeld
 rename _=>hHeld
 try simp only [Act.put,stB,stZ,stS]
 refine wpAnyH_ready (rs:=[11]) (by kernel_rfl) (by simp) ?_
 refine (AllReadyH.cons rfl (fun K hK=>?_) AllReadyH.nil)
 have k0:=hn.cell 2 0 rfl rfl
 have f0:=hn.free 2 0 rfl
 have k1:=hn.cell 2 1 rfl rfl
 have f1:=hn.free 2 1 rfl
 go_simp
 clear f0 f1
 have hn1:=(hn.set 2 0 rfl rfl (fun _=>by simp) (.bool (decide (newI true (m*n)<0)))).set 2 1 rfl rfl (fun _=>by simp) (.slice a9 (lenW (newI true (m*n)).natAbs) c9)
 clear hn
 have hn:=hn1
 clear hn1
 refine hK.out _ _ (⟨hn.cell 0 0 rfl rfl,hn.cell 1 0 rfl rfl,hn.cell 0 1 rfl rfl,hn.cell 1 1 rfl rfl⟩) (fun hHeld2=>?_)
 clear hK K hHeld
 rename _=>hHeld
 try simp only [Act.put,stB,stZ,stS]
 refine wpAnyH_done (by kernel_rfl) ?_ _
 have j0:=hn.cell 2 0 rfl rfl
 have j1:=hn.cell 2 1 rfl rfl
 have HN:=qH hn
 clear hn
 go_wp2
 refine bodyPost_ret (v:=.agg #[.bool (decide (newI true (m*n)<0)),.slice a9 (lenW (newI true (m*n)).natAbs) c9]) (by simp [results,Tryz.results150,go_sem,j0,j1,k0,k1]) rfl ?_
 exact RetI.of rfl rfl rfl (HN.out.nat 3 rfl) HN.out.bel
theorem imul_ff {K:Nat} (hK:MulUpto K) (a b:Option Addr) (c d m n:Nat) (w:World) (ha:NatW w a c m) (hb:NatW w b d n) (h1:lenW m+lenW n≤K):Calls Tryz.prog 150 #[.agg #[.bool false,.slice a (lenW m) c],.agg #[.bool false,.slice b (lenW n) d]] w (RetI (newI false (m*n)) w):=by
 obtain ⟨W0,hW0⟩:∃ W0,W0=(((w.alloc (.cells #[.bool false,.slice a (lenW m) c] 43)).alloc (.cells #[.bool false,.slice b (lenW n) d] 43)).alloc (.cells #[.bool false,.slice none 0 0] 43)):=⟨_,rfl⟩
 have hbs:BS w [⟨w.heap.size,43,[.bool false,.slice a (lenW m) c]⟩,⟨w.heap.size+1,43,[.bool false,.slice b (lenW n) d]⟩,⟨w.heap.size+1+1,43,[.bool false,.slice none 0 0]⟩] [⟨a,c,m⟩,⟨b,d,n⟩] (((w.alloc (.cells #[.bool false,.slice a (lenW m) c] 43)).alloc (.cells #[.bool false,.slice b (lenW n) d] 43)).alloc (.cells #[.bool false,.slice none 0 0] 43)) :=
  (((BS.begin [⟨a,c,m⟩,⟨b,d,n⟩] (fun y hy=>by
   rcases List.mem_cons.1 hy with rfl | hy
   ·
    exact ha
   ·
    rw [List.mem_singleton.1 hy];exact hb)).alloc (p:=w.heap.size) rfl 43 [.bool false,.slice a (lenW m) c] rfl).alloc (p:=w.heap.size+1) (by simp) 43 [.bool false,.slice b (lenW n) d] rfl).alloc (p:=w.heap.size+1+1) (by simp) 43 [.bool false,.slice none 0 0] rfl
 rw [← hW0] at hbs
 have HW0:=qH hW0
 have HBS:=qH hbs
 clear hW0 hbs
 have HM:=qH (fun (W:World) (q1:NatW W a c m) (q2:NatW W b d n)=>hK a b c d m n W q1 q2 h1)
 have HNew:=qH (fun (a2:Option Addr) (c2:Nat) (W:World) (q1:NatW W a2 c2 (m*n))=>inew_any false a2 c2 (m*n) W q1)
 clear ha hb h1 hK
 go_enter Tryz.func150,Tryz.ntmps150
 go_upto_region 1 with fail
 rw [← HW0.out]
 have hn:=HBS.out.drew
 refine wp_region_held_drew (S:=fun W=>W.cell? ⟨w.heap.size,0,none⟩=some (.bool false)∧W.cell? ⟨w.heap.size+1,0,none⟩=some (.bool false)∧W.cell? ⟨w.heap.size,1,none⟩=some (.slice a (lenW m) c)∧W.cell? ⟨w.heap.size+1,1,none⟩=some (.slice b (lenW n) d)) (by kernel_rfl) (⟨hn.cell 0 0 rfl rfl,hn.cell 1 0 rfl rfl,hn.cell 0 1 rfl rfl,hn.cell 1 1 rfl rfl⟩) (fun hHeld=>?_)
 refine tm 0 (some 5) ?_
 refine tl 1 (some 6) ?_
 refine tm 2 (some 7) ?_
 refine tl 3 (some 8) ?_
 refine tm 4 (some 9) ?_
 refine tm 5 (some 10) ?_
 refine tl 6 (some 11) ?_
 refine tm 7 (some 12) ?_
 refine tl 8 (some 13) ?_
 refine wpAnyH_ready (rs:=[9]) (by kernel_rfl) (by simp) ?_
 refine (AllReadyH.cons rfl (fun K hK=>?_) AllReadyH.nil)
 go_simp
 refine (HM.out _ (hn.nat 0 rfl) (hn.nat 1 rfl)).mono ?_
 rintro e w2 ⟨a8,c8,rfl,hq,hb2⟩
 have hn1:=(hn.call hb2).got hq
 clear hn hb2 hq
 have hn:=hn1
 clear hn1
 go_wp2_with fail
 refine hK.out _ _ (⟨hn.cell 0 0 rfl rfl,hn.cell 1 0 rfl rfl,hn.cell 0 1 rfl rfl,hn.cell 1 1 rfl rfl⟩) (fun hHeld2=>?_)
 clear hK K hHeld
 rename _=>hHeld
 try simp only [Act.put,stB,stZ,stS]
 refine wpAnyH_ready (rs:=[10]) (by kernel_rfl) (by simp) ?_
 refine (AllReadyH.cons rfl (fun K hK=>?_) AllReadyH.nil)
 go_simp
 refine (HNew.out _ _ _ (hn.nat 2 rfl)).mono ?_
 rintro e w3 ⟨a9,c9,rfl,hq,hb3⟩
 have hn1:=(hn.call hb3).got hq
 clear hn hb3 hq
 have hn:=hn1
 clear hn1
 go_wp2_with fail
 refine hK.out _ _ (⟨hn.cell 0 0 rfl rfl,hn.cell 1 0 rfl rfl,hn.cell 0 1 rfl rfl,hn.cell 1 1 rfl rfl⟩) (fun hHeld2=>?_)
 clear hK K hHeld
 rename _=>hHeld
 try simp only [Act.put,stB,stZ,stS]
 refine wpAnyH_ready (rs:=[11]) (by kernel_rfl) (by simp) ?_
 refine (AllReadyH.cons rfl (fun K hK=>?_) AllReadyH.nil)
 have k0:=hn.cell 2 0 rfl rfl
 have f0:=hn.free 2 0 rfl
 have k1:=hn.cell 2 1 rfl rfl
 have f1:=hn.free 2 1 rfl
 go_simp
 clear f0 f1
 have hn1:=(hn.set 2 0 rfl rfl (fun _=>by simp) (.bool (decide (newI false (m*n)<0)))).set 2 1 rfl rfl (fun _=>by simp) (.slice a9 (lenW (newI false (m*n)).natAbs) c9)
 clear hn
 have hn:=hn1
 clear hn1
 refine hK.out _ _ (⟨hn.cell 0 0 rfl rfl,hn.cell 1 0 rfl rfl,hn.cell 0 1 rfl rfl,hn.cell 1 1 rfl rfl⟩) (fun hHeld2=>?_)
 clear hK K hHeld
 rename _=>hHeld
 try simp only [Act.put,stB,stZ,stS]
 refine wpAnyH_done (by kernel_rfl) ?_ _
 have j0:=hn.cell 2 0 rfl rfl
 have j1:=hn.cell 2 1 rfl rfl
 have HN:=qH hn
 clear hn
 go_wp2
 refine bodyPost_ret (v:=.agg #[.bool (decide (newI false (m*n)<0)),.slice a9 (lenW (newI false (m*n)).natAbs) c9]) (by simp [results,Tryz.results150,go_sem,j0,j1,k0,k1]) rfl ?_
 exact RetI.of rfl rfl rfl (HN.out.nat 3 rfl) HN.out.bel
theorem imul_any {K:Nat} (hK:MulUpto K) (x y:Int) (a b:Option Addr) (c d:Nat) (w:World) (ha:NatW w a c x.natAbs) (hb:NatW w b d y.natAbs) (h1:lenW x.natAbs+lenW y.natAbs≤K):Calls Tryz.prog 150 #[.agg #[.bool (decide (x<0)),.slice a (lenW x.natAbs) c],.agg #[.bool (decide (y<0)),.slice b (lenW y.natAbs) d]] w (RetI (x*y) w):=by
 rw [← newI_mul x y]
 cases hx:decide (x<0) <;> cases hy:decide (y<0)
 ·
  exact imul_ff hK a b c d _ _ w ha hb h1
 ·
  exact imul_ft hK a b c d _ _ w ha hb h1
 ·
  exact imul_tf hK a b c d _ _ w ha hb h1
 ·
  exact imul_tt hK a b c d _ _ w ha hb h1
structure RatW (w:World) (a:Option Addr) (c:Nat) (b:Option Addr) (d:Nat) (q:Rat):Prop where
 num:NatW w a c q.num.natAbs
 den:NatW w b d (denN q.den)
theorem RatW.below {w w':World} {a b:Option Addr} {c d:Nat} {q:Rat} (h:RatW w a c b d q) (hb:Below w.heap.size w w'):RatW w' a c b d q:=⟨h.num.below hb,h.den.below hb⟩
def ratV (a:Option Addr) (c:Nat) (b:Option Addr) (d:Nat) (q:Rat):Value:=.agg #[.bool (decide (q.num<0)),.slice a (lenW q.num.natAbs) c,.slice b (lenW (denN q.den)) d]
def RetR (q:Rat) (w:World) (e:Ending) (w':World):Prop:=∃ a c b d,e=.returned (ratV a c b d q)∧NatW w' a c q.num.natAbs∧NatW w' b d (denN q.den)∧Below w.heap.size w w'
theorem RetR.of {q:Rat} {sg:Bool} {m n:Nat} {w w':World} {e:Ending} {a b:Option Addr} {c d:Nat} (h1:decide (q.num<0)=sg) (h2:q.num.natAbs=m) (h3:denN q.den=n) (he:e=.returned (.agg #[.bool sg,.slice a (lenW m) c,.slice b (lenW n) d])) (hm:NatW w' a c m) (hn:NatW w' b d n) (hb:Below w.heap.size w w'):RetR q w e w':=by
 subst h1 h2 h3;exact ⟨a,c,b,d,he,hm,hn,hb⟩
theorem denN_ne {n:Nat} (h:n≠1):denN n=n:=by unfold denN;rw [if_neg h]
theorem denN_pos (q:Rat):denN q.den=0∨denN q.den=q.den∧q.den≠1:=by
 unfold denN
 by_cases h:q.den=1
 ·
  rw [if_pos h];exact .inl rfl
 ·
  rw [if_neg h];exact .inr ⟨rfl,h⟩
theorem denN_zero_den {q:Rat} (h:denN q.den=0):q.den=1:=(denN_zero q).1 h
theorem lenW_pos1:lenW 1=1:=by
 have h1:lenW 1≤1:=lenW_word.2 (by unfold W64;omega)
 have h2:=lenW_pos (show (1:Nat)≠0 by omega)
 omega
theorem rint_any (x:Int) (w:World) (h1:-9223372036854775808≤x) (h2:x≤9223372036854775807):Calls Tryz.prog 174 #[.int .i64 x] w (RetR (x:Rat) w):=by
 obtain ⟨W0,hW0⟩:∃ W0,W0=(w.alloc (.cells #[.bool false,.slice none 0 0,.slice none 0 0] 45)):=⟨_,rfl⟩
 have hbs:BS w [⟨w.heap.size,45,[.bool false,.slice none 0 0,.slice none 0 0]⟩] [] (w.alloc (.cells #[.bool false,.slice none 0 0,.slice none 0 0] 45)) :=
   ((BS.start w).alloc (p:=w.heap.size) rfl 45 [.bool false,.slice none 0 0,.slice none 0 0] rfl)
 rw [← hW0] at hbs
 have HW0:=qH hW0
 have HN:=qH hbs
 clear hW0 hbs
 have HI:=qH (fun W=>iof_any x W h1 h2)
 obtain ⟨sg,hsg⟩:∃ sg,decide (x<0)=sg:=⟨_,rfl⟩
 obtain ⟨m,hm⟩:∃ m,x.natAbs=m:=⟨_,rfl⟩
 unfold RetI at HI
 rw [hsg,hm] at HI
 have HS:=qH (show decide (((x:Rat)).num<0)=sg from hsg)
 have HM:=qH (show ((x:Rat)).num.natAbs=m from hm)
 clear hsg hm
 go_enter Tryz.func174,Tryz.ntmps174
 go_wp2_with fail
 rw [← HW0.out]
 refine (HI.out _).mono ?_
 rintro e w1 ⟨a,c,rfl,hq0,hb⟩
 replace HN:=qH ((HN.out.call hb).got hq0)
 clear hb hq0
 have ⟨k00,f00,k01,f01,k02,f02⟩:=HN.out.cf3 0 rfl
 have HE:=qH ((((HN.out).set 0 0 rfl rfl (fun _=>by simp) (.bool sg)).set 0 1 rfl rfl (fun _=>by simp) (.slice a (lenW m) c)).set 0 2 rfl rfl (fun _=>by simp) (.slice none 0 0))
 have ⟨j0_0,j1_0,j2_0⟩:=HE.out.cg3 0 rfl
 go_wp2_with fail
 refine bodyPost_ret (v:=.agg #[.bool sg,.slice a (lenW m) c,.slice none 0 0]) (by simp [results,Tryz.results174,go_sem,j0_0,j1_0,j2_0,k00,k01,k02]) rfl ?_
 exact RetR.of (n:=0) HS.out HM.out rfl (by rw [lenW_zero]) (HE.out.nat 0 rfl) (NatW.zero _) HE.out.bel
theorem den_one (sg:Bool) (a b:Option Addr) (lm c d n:Nat) (w:World) (h0:n=0):Calls Tryz.prog 48 #[.agg #[.bool sg,.slice a lm c,.slice b (lenW n) d]] w (RetN 1 w):=by
 obtain ⟨W0,hW0⟩:∃ W0,W0=((w.alloc (.cells #[.bool sg,.slice a lm c,.slice b (lenW n) d] 45)).alloc (.cells #[.slice none 0 0] 41)):=⟨_,rfl⟩
 have hbs:BS w [⟨w.heap.size,45,[.bool sg,.slice a lm c,.slice b (lenW n) d]⟩,⟨w.heap.size+1,41,[.slice none 0 0]⟩] [] ((w.alloc (.cells #[.bool sg,.slice a lm c,.slice b (lenW n) d] 45)).alloc (.cells #[.slice none 0 0] 41)) :=
   (((BS.start w).alloc (p:=w.heap.size) rfl 45 [.bool sg,.slice a lm c,.slice b (lenW n) d] rfl).alloc (p:=w.heap.size+1) (by simp) 41 [.slice none 0 0] rfl)
 rw [← hW0] at hbs
 have HW0:=qH hW0
 have HN:=qH hbs
 clear hW0 hbs
 have HZ:=qH (fun W=>nzero_is b d n W h0)
 have HO:=qH (fun (W:World) (g:Nat) (hg:W.heap.size=g)=>one_words 1 W (by unfold W64;omega) hg)
 have e1:UV 1=.int .u64 1:=rfl
 rw [e1] at HO
 clear h0 e1
 go_enter Tryz.func48,Tryz.ntmps48
 go_wp2_with fail
 rw [← HW0.out]
 refine (HZ.out _).mono ?_
 rintro e w1 ⟨rfl,hb⟩
 replace HN:=qH (HN.out.call hb)
 clear hb 
 have ⟨k00,f00,k01,f01,k02,f02⟩:=HN.out.cf3 0 rfl
 have ⟨k10,f10⟩:=HN.out.cf1 1 rfl
 go_wp2_with fail
 clear k00 f00 k01 f01 k02 f02 k10 f10
 replace HN:=qH (HN.out.call (belowBox w1 (.cells #[.int .u64 1] 164)))
 refine (HO.out _ _ rfl).mono ?_
 rintro e w2 ⟨a1,c1,rfl,hq0,hb⟩
 replace HN:=qH ((HN.out.call hb).got hq0)
 clear hb hq0
 have ⟨k00,f00,k01,f01,k02,f02⟩:=HN.out.cf3 0 rfl
 have ⟨k10,f10⟩:=HN.out.cf1 1 rfl
 have HE:=qH ((HN.out).set 1 0 rfl rfl (fun _=>by simp) (.slice a1 (lenW 1) c1))
 have j0_1:=HE.out.cell 1 0 rfl rfl
 go_wp2_with fail
 refine bodyPost_ret (v:=.agg #[.slice a1 (lenW 1) c1]) (by simp [results,Tryz.results48,go_sem,j0_1,k00,k01,k02,k10]) rfl ?_
 exact HE.out.ret 0 rfl rfl rfl
theorem den_own (sg:Bool) (a b:Option Addr) (lm c d n:Nat) (w:World) (hn:NatW w b d n) (h0:n≠0):Calls Tryz.prog 48 #[.agg #[.bool sg,.slice a lm c,.slice b (lenW n) d]] w (RetN n w):=by
 obtain ⟨W0,hW0⟩:∃ W0,W0=((w.alloc (.cells #[.bool sg,.slice a lm c,.slice b (lenW n) d] 45)).alloc (.cells #[.slice none 0 0] 41)):=⟨_,rfl⟩
 have hbs:BS w [⟨w.heap.size,45,[.bool sg,.slice a lm c,.slice b (lenW n) d]⟩,⟨w.heap.size+1,41,[.slice none 0 0]⟩] [⟨b,d,n⟩] ((w.alloc (.cells #[.bool sg,.slice a lm c,.slice b (lenW n) d] 45)).alloc (.cells #[.slice none 0 0] 41)) :=
   (((BS.begin [⟨b,d,n⟩] (fun y hy=>by
    rw [List.mem_singleton.1 hy];exact hn)).alloc (p:=w.heap.size) rfl 45 [.bool sg,.slice a lm c,.slice b (lenW n) d] rfl).alloc (p:=w.heap.size+1) (by simp) 41 [.slice none 0 0] rfl)
 rw [← hW0] at hbs
 have HW0:=qH hW0
 have HN:=qH hbs
 clear hW0 hbs
 have HZ:=qH (fun W=>nzero_no b d n W h0)
 clear h0 hn
 go_enter Tryz.func48,Tryz.ntmps48
 go_wp2_with fail
 rw [← HW0.out]
 refine (HZ.out _).mono ?_
 rintro e w1 ⟨rfl,hb⟩
 replace HN:=qH (HN.out.call hb)
 clear hb 
 have ⟨k00,f00,k01,f01,k02,f02⟩:=HN.out.cf3 0 rfl
 have ⟨k10,f10⟩:=HN.out.cf1 1 rfl
 have HE:=qH ((HN.out).set 1 0 rfl rfl (fun _=>by simp) (.slice b (lenW n) d))
 have j0_1:=HE.out.cell 1 0 rfl rfl
 go_wp2_with fail
 refine bodyPost_ret (v:=.agg #[.slice b (lenW n) d]) (by simp [results,Tryz.results48,go_sem,j0_1,k00,k01,k02,k10]) rfl ?_
 exact HE.out.ret 0 rfl rfl rfl
theorem den_any (sg:Bool) (a b:Option Addr) (lm c d:Nat) (q:Rat) (w:World) (hn:NatW w b d (denN q.den)):Calls Tryz.prog 48 #[.agg #[.bool sg,.slice a lm c,.slice b (lenW (denN q.den)) d]] w (RetN q.den w):=by
 rcases denN_pos q with h | ⟨h,h1⟩
 ·
  rw [denN_zero_den h];exact den_one sg a b lm c d _ w rfl
 ·
  rw [h] at hn ⊢
  exact den_own sg a b lm c d _ w hn q.den_nz
theorem rbelow_any (sg:Bool) (a b:Option Addr) (lm c d:Nat) (q:Rat) (w:World) (hn:NatW w b d (denN q.den)):Calls Tryz.prog 151 #[.agg #[.bool sg,.slice a lm c,.slice b (lenW (denN q.den)) d]] w (RetI (q.den:Int) w):=by
 obtain ⟨W0,hW0⟩:∃ W0,W0=((w.alloc (.cells #[.bool sg,.slice a lm c,.slice b (lenW (denN q.den)) d] 45)).alloc (.cells #[.bool false,.slice none 0 0] 43)):=⟨_,rfl⟩
 have hbs:BS w [⟨w.heap.size,45,[.bool sg,.slice a lm c,.slice b (lenW (denN q.den)) d]⟩,⟨w.heap.size+1,43,[.bool false,.slice none 0 0]⟩] [⟨b,d,denN q.den⟩] ((w.alloc (.cells #[.bool sg,.slice a lm c,.slice b (lenW (denN q.den)) d] 45)).alloc (.cells #[.bool false,.slice none 0 0] 43)) :=
   (((BS.begin [⟨b,d,denN q.den⟩] (fun y hy=>by
    rw [List.mem_singleton.1 hy];exact hn)).alloc (p:=w.heap.size) rfl 45 [.bool sg,.slice a lm c,.slice b (lenW (denN q.den)) d] rfl).alloc (p:=w.heap.size+1) (by simp) 43 [.bool false,.slice none 0 0] rfl)
 rw [← hW0] at hbs
 have HW0:=qH hW0
 have HN:=qH hbs
 clear hW0 hbs
 have HD:=qH (fun (W:World) (h:NatW W b d (denN q.den))=>den_any sg a b lm c d q W h)
 have HI:=qH (fun (a2:Option Addr) (c2:Nat) (W:World) (h:NatW W a2 c2 q.den)=>newI_false q.den▸inew_any false a2 c2 q.den W h)
 obtain ⟨sz,hsz⟩:∃ sz,decide ((q.den:Int)<0)=sz:=⟨_,rfl⟩
 obtain ⟨m,hm⟩:∃ m,(q.den:Int).natAbs=m:=⟨_,rfl⟩
 unfold RetI at HI
 rw [hsz,hm] at HI
 have HS:=qH hsz
 have HM:=qH hm
 clear hsz hm hn
 go_enter Tryz.func151,Tryz.ntmps151
 go_wp2_with fail
 rw [← HW0.out]
 refine (HD.out _ (HN.out.nat 0 rfl)).mono ?_
 rintro e w1 ⟨a1,c1,rfl,hq0,hb⟩
 replace HN:=qH ((HN.out.call hb).got hq0)
 clear hb hq0
 have ⟨k00,f00,k01,f01,k02,f02⟩:=HN.out.cf3 0 rfl
 have ⟨k10,f10,k11,f11⟩:=HN.out.cf2 1 rfl
 go_wp2_with fail
 clear k00 f00 k01 f01 k02 f02 k10 f10 k11 f11
 refine (HI.out _ _ _ (HN.out.nat 1 rfl)).mono ?_
 rintro e w2 ⟨a2,c2,rfl,hq0,hb⟩
 replace HN:=qH ((HN.out.call hb).got hq0)
 clear hb hq0
 have ⟨k00,f00,k01,f01,k02,f02⟩:=HN.out.cf3 0 rfl
 have ⟨k10,f10,k11,f11⟩:=HN.out.cf2 1 rfl
 have HE:=qH (((HN.out).set 1 0 rfl rfl (fun _=>by simp) (.bool sz)).set 1 1 rfl rfl (fun _=>by simp) (.slice a2 (lenW m) c2))
 have ⟨j0_1,j1_1⟩:=HE.out.cg2 1 rfl
 go_wp2_with fail
 refine bodyPost_ret (v:=.agg #[.bool sz,.slice a2 (lenW m) c2]) (by simp [results,Tryz.results151,go_sem,j0_1,j1_1,k00,k01,k02,k10,k11]) rfl ?_
 exact RetI.of HS.out HM.out rfl (HE.out.nat 2 rfl) HE.out.bel
theorem bare_one (sg:Bool) (a b:Option Addr) (c d m n:Nat) (w:World) (hm:NatW w a c m) (hn:NatW w b d n) (h1:n=1):Calls Tryz.prog 135 #[.agg #[.bool sg,.slice a (lenW m) c],.agg #[.slice b (lenW n) d]] w fun e w'=>∃ b2 d2,e=.returned (.agg #[.bool sg,.slice a (lenW m) c,.slice b2 (lenW 0) d2])∧NatW w' a c m∧NatW w' b2 d2 0∧Below w.heap.size w w':=by
 obtain ⟨W0,hW0⟩:∃ W0,W0=(((w.alloc (.cells #[.bool sg,.slice a (lenW m) c] 43)).alloc (.cells #[.slice b (lenW n) d] 41)).alloc (.cells #[.bool false,.slice none 0 0,.slice none 0 0] 45)):=⟨_,rfl⟩
 have hbs:BS w [⟨w.heap.size,43,[.bool sg,.slice a (lenW m) c]⟩,⟨w.heap.size+1,41,[.slice b (lenW n) d]⟩,⟨w.heap.size+1+1,45,[.bool false,.slice none 0 0,.slice none 0 0]⟩] [⟨a,c,m⟩,⟨b,d,n⟩] (((w.alloc (.cells #[.bool sg,.slice a (lenW m) c] 43)).alloc (.cells #[.slice b (lenW n) d] 41)).alloc (.cells #[.bool false,.slice none 0 0,.slice none 0 0] 45)) :=
   ((((BS.begin [⟨a,c,m⟩,⟨b,d,n⟩] (fun y hy=>by
    rcases List.mem_cons.1 hy with rfl | hy
    ·
     exact hm
    rw [List.mem_singleton.1 hy];exact hn)).alloc (p:=w.heap.size) rfl 43 [.bool sg,.slice a (lenW m) c] rfl).alloc (p:=w.heap.size+1) (by simp) 41 [.slice b (lenW n) d] rfl).alloc (p:=w.heap.size+1+1) (by simp) 45 [.bool false,.slice none 0 0,.slice none 0 0] rfl)
 rw [← hW0] at hbs
 have HW0:=qH hW0
 have HN:=qH hbs
 clear hW0 hbs
 have HU:=qH (fun (W:World) (hq:NatW W b d n)=>uint_one b d n W hq (by rw [h1,lenW_pos1];exact Nat.le_refl _))
 have e1:((n:Nat):Int)==1:=by simp [h1]
 clear hm hn h1
 go_enter Tryz.func135,Tryz.ntmps135
 go_wp2_with fail
 rw [← HW0.out]
 refine (HU.out _ (HN.out.nat 1 rfl)).mono ?_
 rintro e w1 ⟨rfl,hb⟩
 replace HN:=qH (HN.out.call hb)
 clear hb 
 have ⟨k00,f00,k01,f01⟩:=HN.out.cf2 0 rfl
 have ⟨k10,f10⟩:=HN.out.cf1 1 rfl
 have ⟨k20,f20,k21,f21,k22,f22⟩:=HN.out.cf3 2 rfl
 have HE:=qH ((((HN.out).set 2 0 rfl rfl (fun _=>by simp) (.bool sg)).set 2 1 rfl rfl (fun _=>by simp) (.slice a (lenW m) c)).set 2 2 rfl rfl (fun _=>by simp) (.slice none 0 0))
 have ⟨j0_2,j1_2,j2_2⟩:=HE.out.cg3 2 rfl
 go_wp2_with fail
 refine bodyPost_ret (v:=.agg #[.bool sg,.slice a (lenW m) c,.slice none 0 0]) (by simp [results,Tryz.results135,go_sem,j0_2,j1_2,j2_2,k00,k01,k10,k20,k21,k22]) rfl ?_
 exact ⟨none,0,by rw [lenW_zero],HE.out.nat 0 rfl,NatW.zero _,HE.out.bel⟩
theorem bare_word (sg:Bool) (a b:Option Addr) (c d m n:Nat) (w:World) (hm:NatW w a c m) (hn:NatW w b d n) (h1:n≠1) (h2:lenW n≤1):Calls Tryz.prog 135 #[.agg #[.bool sg,.slice a (lenW m) c],.agg #[.slice b (lenW n) d]] w fun e w'=>∃ b2 d2,e=.returned (.agg #[.bool sg,.slice a (lenW m) c,.slice b2 (lenW n) d2])∧NatW w' a c m∧NatW w' b2 d2 n∧Below w.heap.size w w':=by
 obtain ⟨W0,hW0⟩:∃ W0,W0=(((w.alloc (.cells #[.bool sg,.slice a (lenW m) c] 43)).alloc (.cells #[.slice b (lenW n) d] 41)).alloc (.cells #[.bool false,.slice none 0 0,.slice none 0 0] 45)):=⟨_,rfl⟩
 have hbs:BS w [⟨w.heap.size,43,[.bool sg,.slice a (lenW m) c]⟩,⟨w.heap.size+1,41,[.slice b (lenW n) d]⟩,⟨w.heap.size+1+1,45,[.bool false,.slice none 0 0,.slice none 0 0]⟩] [⟨a,c,m⟩,⟨b,d,n⟩] (((w.alloc (.cells #[.bool sg,.slice a (lenW m) c] 43)).alloc (.cells #[.slice b (lenW n) d] 41)).alloc (.cells #[.bool false,.slice none 0 0,.slice none 0 0] 45)) :=
   ((((BS.begin [⟨a,c,m⟩,⟨b,d,n⟩] (fun y hy=>by
    rcases List.mem_cons.1 hy with rfl | hy
    ·
     exact hm
    rw [List.mem_singleton.1 hy];exact hn)).alloc (p:=w.heap.size) rfl 43 [.bool sg,.slice a (lenW m) c] rfl).alloc (p:=w.heap.size+1) (by simp) 41 [.slice b (lenW n) d] rfl).alloc (p:=w.heap.size+1+1) (by simp) 45 [.bool false,.slice none 0 0,.slice none 0 0] rfl)
 rw [← hW0] at hbs
 have HW0:=qH hW0
 have HN:=qH hbs
 clear hW0 hbs
 have HU:=qH (fun (W:World) (hq:NatW W b d n)=>uint_one b d n W hq h2)
 have e1:(((n:Nat):Int)==1)=false:=beq_eq_false_iff_ne.2 (by omega)
 clear hm hn h1 h2
 go_enter Tryz.func135,Tryz.ntmps135
 go_wp2_with fail
 rw [← HW0.out]
 refine (HU.out _ (HN.out.nat 1 rfl)).mono ?_
 rintro e w1 ⟨rfl,hb⟩
 replace HN:=qH (HN.out.call hb)
 clear hb 
 have ⟨k00,f00,k01,f01⟩:=HN.out.cf2 0 rfl
 have ⟨k10,f10⟩:=HN.out.cf1 1 rfl
 have ⟨k20,f20,k21,f21,k22,f22⟩:=HN.out.cf3 2 rfl
 have HE:=qH ((((HN.out).set 2 0 rfl rfl (fun _=>by simp) (.bool sg)).set 2 1 rfl rfl (fun _=>by simp) (.slice a (lenW m) c)).set 2 2 rfl rfl (fun _=>by simp) (.slice b (lenW n) d))
 have ⟨j0_2,j1_2,j2_2⟩:=HE.out.cg3 2 rfl
 go_wp2_with fail
 refine bodyPost_ret (v:=.agg #[.bool sg,.slice a (lenW m) c,.slice b (lenW n) d]) (by simp [results,Tryz.results135,go_sem,j0_2,j1_2,j2_2,k00,k01,k10,k20,k21,k22]) rfl ?_
 exact ⟨b,d,by rfl,HE.out.nat 0 rfl,HE.out.nat 1 rfl,HE.out.bel⟩
theorem bare_long (sg:Bool) (a b:Option Addr) (c d m n:Nat) (w:World) (hm:NatW w a c m) (hn:NatW w b d n) (h1:n≠1) (h2:1<lenW n):Calls Tryz.prog 135 #[.agg #[.bool sg,.slice a (lenW m) c],.agg #[.slice b (lenW n) d]] w fun e w'=>∃ b2 d2,e=.returned (.agg #[.bool sg,.slice a (lenW m) c,.slice b2 (lenW n) d2])∧NatW w' a c m∧NatW w' b2 d2 n∧Below w.heap.size w w':=by
 obtain ⟨W0,hW0⟩:∃ W0,W0=(((w.alloc (.cells #[.bool sg,.slice a (lenW m) c] 43)).alloc (.cells #[.slice b (lenW n) d] 41)).alloc (.cells #[.bool false,.slice none 0 0,.slice none 0 0] 45)):=⟨_,rfl⟩
 have hbs:BS w [⟨w.heap.size,43,[.bool sg,.slice a (lenW m) c]⟩,⟨w.heap.size+1,41,[.slice b (lenW n) d]⟩,⟨w.heap.size+1+1,45,[.bool false,.slice none 0 0,.slice none 0 0]⟩] [⟨a,c,m⟩,⟨b,d,n⟩] (((w.alloc (.cells #[.bool sg,.slice a (lenW m) c] 43)).alloc (.cells #[.slice b (lenW n) d] 41)).alloc (.cells #[.bool false,.slice none 0 0,.slice none 0 0] 45)) :=
   ((((BS.begin [⟨a,c,m⟩,⟨b,d,n⟩] (fun y hy=>by
    rcases List.mem_cons.1 hy with rfl | hy
    ·
     exact hm
    rw [List.mem_singleton.1 hy];exact hn)).alloc (p:=w.heap.size) rfl 43 [.bool sg,.slice a (lenW m) c] rfl).alloc (p:=w.heap.size+1) (by simp) 41 [.slice b (lenW n) d] rfl).alloc (p:=w.heap.size+1+1) (by simp) 45 [.bool false,.slice none 0 0,.slice none 0 0] rfl)
 rw [← hW0] at hbs
 have HW0:=qH hW0
 have HN:=qH hbs
 clear hW0 hbs
 have HU:=qH (fun (W:World) (hq:NatW W b d n)=>uint_no b d n W h2)
 skip
 clear hm hn h1 h2
 go_enter Tryz.func135,Tryz.ntmps135
 go_wp2_with fail
 rw [← HW0.out]
 refine (HU.out _ (HN.out.nat 1 rfl)).mono ?_
 rintro e w1 ⟨rfl,hb⟩
 replace HN:=qH (HN.out.call hb)
 clear hb 
 have ⟨k00,f00,k01,f01⟩:=HN.out.cf2 0 rfl
 have ⟨k10,f10⟩:=HN.out.cf1 1 rfl
 have ⟨k20,f20,k21,f21,k22,f22⟩:=HN.out.cf3 2 rfl
 have HE:=qH ((((HN.out).set 2 0 rfl rfl (fun _=>by simp) (.bool sg)).set 2 1 rfl rfl (fun _=>by simp) (.slice a (lenW m) c)).set 2 2 rfl rfl (fun _=>by simp) (.slice b (lenW n) d))
 have ⟨j0_2,j1_2,j2_2⟩:=HE.out.cg3 2 rfl
 go_wp2_with fail
 refine bodyPost_ret (v:=.agg #[.bool sg,.slice a (lenW m) c,.slice b (lenW n) d]) (by simp [results,Tryz.results135,go_sem,j0_2,j1_2,j2_2,k00,k01,k10,k20,k21,k22]) rfl ?_
 exact ⟨b,d,by rfl,HE.out.nat 0 rfl,HE.out.nat 1 rfl,HE.out.bel⟩
theorem bare_any (sg:Bool) (a b:Option Addr) (c d m n:Nat) (w:World) (hm:NatW w a c m) (hn:NatW w b d n):Calls Tryz.prog 135 #[.agg #[.bool sg,.slice a (lenW m) c],.agg #[.slice b (lenW n) d]] w fun e w'=>∃ b2 d2,e=.returned (.agg #[.bool sg,.slice a (lenW m) c,.slice b2 (lenW (denN n)) d2])∧NatW w' a c m∧NatW w' b2 d2 (denN n)∧Below w.heap.size w w':=by
 by_cases h1:n=1
 ·
  have e:denN n=0:=by rw [h1];rfl
  rw [e];exact bare_one sg a b c d m n w hm hn h1
 ·
  rw [denN_ne h1]
  by_cases h2:lenW n≤1
  ·
   exact bare_word sg a b c d m n w hm hn h1 h2
  ·
   exact bare_long sg a b c d m n w hm hn h1 (by omega)
theorem rzero_any (a b:Option Addr) (c d ln:Nat) (q:Rat) (w:World):Calls Tryz.prog 44 #[.agg #[.bool (decide (q.num<0)),.slice a (lenW q.num.natAbs) c,.slice b ln d]] w fun e w'=>e=.returned (.bool (decide (q=0)))∧Below w.heap.size w w':=by
 obtain ⟨W0,hW0⟩:∃ W0,W0=(w.alloc (.cells #[.bool (decide (q.num<0)),.slice a (lenW q.num.natAbs) c,.slice b ln d] 45)):=⟨_,rfl⟩
 have hbs:BS w [⟨w.heap.size,45,[.bool (decide (q.num<0)),.slice a (lenW q.num.natAbs) c,.slice b ln d]⟩] [] (w.alloc (.cells #[.bool (decide (q.num<0)),.slice a (lenW q.num.natAbs) c,.slice b ln d] 45)) :=
   ((BS.start w).alloc (p:=w.heap.size) rfl 45 [.bool (decide (q.num<0)),.slice a (lenW q.num.natAbs) c,.slice b ln d] rfl)
 rw [← hW0] at hbs
 have HW0:=qH hW0
 have HN:=qH hbs
 clear hW0 hbs
 have HS:=qH (fun W=>isign_any q.num a c W)
 obtain ⟨sg,hsg⟩:∃ sg,decide (q.num<0)=sg:=⟨_,rfl⟩
 obtain ⟨z,hz⟩:∃ z,signZ q.num=z:=⟨_,rfl⟩
 have hv:(z==0)=decide (q=0):=by
  rw [← hz];unfold signZ
  by_cases h:q=0
  ·
   subst h;rfl
  ·
   have h':q.num≠0:=fun e=>h ((rat_zero q).1 e)
   rw [decide_eq_false h]
   split
   ·
    rfl
   ·
    first | rfl | (split <;> first | rfl | contradiction)
 rw [hsg,hz] at HS
 rw [hsg] at HN HW0
 rw [hsg,← hv]
 clear hsg hz hv
 go_enter Tryz.func44,Tryz.ntmps44
 go_wp2_with fail
 rw [← HW0.out]
 refine (HS.out _).mono ?_
 rintro e w1 ⟨rfl,hb⟩
 replace HN:=qH (HN.out.call hb)
 clear hb 
 have ⟨k00,f00,k01,f01,k02,f02⟩:=HN.out.cf3 0 rfl
 go_wp2_with fail
 clear k00 f00 k01 f01 k02 f02
 go_ret
 exact ⟨rfl,HN.out.bel⟩
theorem qdiv_any {K L:Nat} (hD:DivUpto K L) (a b:Option Addr) (c d m n:Nat) (w:World) (ha:NatW w a c m) (hb:NatW w b d n) (hm:lenW m≤K) (hn:lenW n≤L) (h0:n≠0):Calls Tryz.prog 178 #[.agg #[.slice a (lenW m) c],.agg #[.slice b (lenW n) d]] w (RetNB (m / n) true w):=by
 have hbs:BS w [⟨w.heap.size,41,[.slice a (lenW m) c]⟩,⟨w.heap.size+1,41,[.slice b (lenW n) d]⟩,⟨w.heap.size+1+1,41,[.slice none 0 0]⟩] [⟨a,c,m⟩,⟨b,d,n⟩] (((w.alloc (.cells #[.slice a (lenW m) c] 41)).alloc (.cells #[.slice b (lenW n) d] 41)).alloc (.cells #[.slice none 0 0] 41)) :=
  (((BS.begin [⟨a,c,m⟩,⟨b,d,n⟩] (fun y hy=>by
   rcases List.mem_cons.1 hy with rfl | hy
   ·
    exact ha
   ·
    rw [List.mem_singleton.1 hy];exact hb)).alloc (p:=w.heap.size) rfl 41 [.slice a (lenW m) c] rfl).alloc (p:=w.heap.size+1) (by simp) 41 [.slice b (lenW n) d] rfl).alloc (p:=w.heap.size+1+1) (by simp) 41 [.slice none 0 0] rfl
 have HD:=qH (fun (W:World) (h1:NatW W a c m) (h2:NatW W b d n)=>hD a b c d m n W h1 h2 hm hn h0)
 have HBS:=qH hbs
 clear ha hb hbs hm hn h0 hD
 go_enter Tryz.func178,Tryz.ntmps178
 go_wp2_with fail
 refine (HD.out _ (HBS.out.nat 0 rfl) (HBS.out.nat 1 rfl)).mono ?_
 rintro e w1 ⟨a1,c1,b1,d1,rfl,hq,hr,hb1⟩
 have hn:=(((HBS.out.call hb1).got hq).got hr)
 have k2:=hn.cell 2 0 rfl rfl
 have f2:=hn.free 2 0 rfl
 have l2:=hn.lt 2 rfl
 have hn3:=(hn.alloc (p:=w1.heap.size) rfl 41 [.slice a1 (lenW (m / n)) c1] rfl).alloc (p:=w1.heap.size+1) (by simp) 41 [.slice b1 (lenW (m % n)) d1] rfl
 have k4:=hn3.cell 2 0 rfl rfl
 have f4:=hn3.free 2 0 rfl
 have hn2:=hn3.set 2 0 rfl rfl (fun _=>by simp) (.slice a1 (lenW (m / n)) c1)
 have HN:=qH hn2
 clear hn hn2 hn3 hb1 hq hr HBS
 go_wp2_with fail
 have k3:=HN.out.cell 2 0 rfl rfl
 refine bodyPost_ret (v:=.tuple #[.agg #[.slice a1 (lenW (m / n)) c1],.bool true]) (by simp [results,Tryz.results178,go_sem,k3]) rfl ?_
 exact ⟨a1,c1,rfl,HN.out.nat 2 rfl,HN.out.bel⟩
theorem qmod_any {K L:Nat} (hD:DivUpto K L) (a b:Option Addr) (c d m n:Nat) (w:World) (ha:NatW w a c m) (hb:NatW w b d n) (hm:lenW m≤K) (hn:lenW n≤L) (h0:n≠0):Calls Tryz.prog 199 #[.agg #[.slice a (lenW m) c],.agg #[.slice b (lenW n) d]] w (RetNB (m % n) true w):=by
 have hbs:BS w [⟨w.heap.size,41,[.slice a (lenW m) c]⟩,⟨w.heap.size+1,41,[.slice b (lenW n) d]⟩,⟨w.heap.size+1+1,41,[.slice none 0 0]⟩] [⟨a,c,m⟩,⟨b,d,n⟩] (((w.alloc (.cells #[.slice a (lenW m) c] 41)).alloc (.cells #[.slice b (lenW n) d] 41)).alloc (.cells #[.slice none 0 0] 41)) :=
  (((BS.begin [⟨a,c,m⟩,⟨b,d,n⟩] (fun y hy=>by
   rcases List.mem_cons.1 hy with rfl | hy
   ·
    exact ha
   ·
    rw [List.mem_singleton.1 hy];exact hb)).alloc (p:=w.heap.size) rfl 41 [.slice a (lenW m) c] rfl).alloc (p:=w.heap.size+1) (by simp) 41 [.slice b (lenW n) d] rfl).alloc (p:=w.heap.size+1+1) (by simp) 41 [.slice none 0 0] rfl
 have HD:=qH (fun (W:World) (h1:NatW W a c m) (h2:NatW W b d n)=>hD a b c d m n W h1 h2 hm hn h0)
 have HBS:=qH hbs
 clear ha hb hbs hm hn h0 hD
 go_enter Tryz.func199,Tryz.ntmps199
 go_wp2_with fail
 refine (HD.out _ (HBS.out.nat 0 rfl) (HBS.out.nat 1 rfl)).mono ?_
 rintro e w1 ⟨a1,c1,b1,d1,rfl,hq,hr,hb1⟩
 have hn:=(((HBS.out.call hb1).got hq).got hr)
 have k2:=hn.cell 2 0 rfl rfl
 have f2:=hn.free 2 0 rfl
 have l2:=hn.lt 2 rfl
 have hn3:=(hn.alloc (p:=w1.heap.size) rfl 41 [.slice a1 (lenW (m / n)) c1] rfl).alloc (p:=w1.heap.size+1) (by simp) 41 [.slice b1 (lenW (m % n)) d1] rfl
 have k4:=hn3.cell 2 0 rfl rfl
 have f4:=hn3.free 2 0 rfl
 have hn2:=hn3.set 2 0 rfl rfl (fun _=>by simp) (.slice b1 (lenW (m % n)) d1)
 have HN:=qH hn2
 clear hn hn2 hn3 hb1 hq hr HBS
 go_wp2_with fail
 have k3:=HN.out.cell 2 0 rfl rfl
 refine bodyPost_ret (v:=.tuple #[.agg #[.slice b1 (lenW (m % n)) d1],.bool true]) (by simp [results,Tryz.results199,go_sem,k3]) rfl ?_
 exact ⟨b1,d1,rfl,HN.out.nat 3 rfl,HN.out.bel⟩
theorem gcd_any {K L:Nat} (hKL:L≤K) (hD:DivUpto K L) (a b:Option Addr) (c d m n:Nat) (w:World) (ha:NatW w a c m) (hb:NatW w b d n) (hm:lenW m≤K) (hn:lenW n≤L):Calls Tryz.prog 177 #[.agg #[.slice a (lenW m) c],.agg #[.slice b (lenW n) d]] w (RetN (Nat.gcd m n) w):=by
 have hbs:BS w [⟨w.heap.size,41,[.slice a (lenW m) c]⟩,⟨w.heap.size+1,41,[.slice b (lenW n) d]⟩,⟨w.heap.size+1+1,41,[.slice none 0 0]⟩] [⟨a,c,m⟩,⟨b,d,n⟩] (((w.alloc (.cells #[.slice a (lenW m) c] 41)).alloc (.cells #[.slice b (lenW n) d] 41)).alloc (.cells #[.slice none 0 0] 41)) :=
  (((BS.begin [⟨a,c,m⟩,⟨b,d,n⟩] (fun y hy=>by
   rcases List.mem_cons.1 hy with rfl | hy
   ·
    exact ha
   ·
    rw [List.mem_singleton.1 hy];exact hb)).alloc (p:=w.heap.size) rfl 41 [.slice a (lenW m) c] rfl).alloc (p:=w.heap.size+1) (by simp) 41 [.slice b (lenW n) d] rfl).alloc (p:=w.heap.size+1+1) (by simp) 41 [.slice none 0 0] rfl
 have HD:=qH (fun (a b:Option Addr) (c d x y:Nat) (W:World) (h1:NatW W a c x) (h2:NatW W b d y) (h3:lenW x≤K) (h4:lenW y≤L) (h5:y≠0)=>qmod_any hD a b c d x y W h1 h2 h3 h4 h5)
 have HBS:=qH hbs
 obtain ⟨G,hG⟩:∃ G,Nat.gcd m n=G:=⟨_,rfl⟩
 rw [hG]
 have HG:=qH hG
 clear ha hb hbs hD hG
 go_enter Tryz.func177,Tryz.ntmps177
 go_wp2_with fail
 go_loopg [] n (fun y wr=>∃ (x:Nat) (a1 b1:Option Addr) (c1 d1:Nat),Nat.gcd x y=G∧lenW x≤K∧lenW y≤L∧BS w [⟨w.heap.size,41,[.slice a1 (lenW x) c1]⟩,⟨w.heap.size+1,41,[.slice b1 (lenW y) d1]⟩,⟨w.heap.size+1+1,41,[.slice none 0 0]⟩] [⟨a1,c1,x⟩,⟨b1,d1,y⟩] wr)
 case atStart=>exact ⟨m,a,b,c,d,HG.out,hm,hn,HBS.out⟩
 case round =>
  obtain ⟨y,rfl⟩:∃ y,y=gk:=⟨_,rfl⟩
  obtain ⟨x,a1,b1,c1,d1,hg,hxK,hyL,hns⟩:=hrel
  have HN:=qH hns
  have HGG:=qH hg
  have k0:=hns.cell 0 0 rfl rfl
  have k1:=hns.cell 1 0 rfl rfl
  have k2:=hns.cell 2 0 rfl rfl
  have f2:=hns.free 2 0 rfl
  clear hns hg HBS hm hn
  by_cases h0:y=0
  ·
   have HZ:=qH (decide_eq_true h0▸fun W=>nzero_any b1 d1 y W)
   have HX:=qH (show x=G by rw [← HGG.out,h0,Nat.gcd_zero_right])
   clear h0 k0 k1 k2 f2
   have k1:=HN.out.cell 1 0 rfl rfl
   go_wp2_with fail
   refine (HZ.out _).mono ?_
   rintro e w2 ⟨rfl,hb2⟩
   have hn:=HN.out.call hb2
   have k0:=hn.cell 0 0 rfl rfl
   have k2:=hn.cell 2 0 rfl rfl
   have f2:=hn.free 2 0 rfl
   have hn2:=hn.set 2 0 rfl rfl (fun _=>by simp) (.slice a1 (lenW x) c1)
   have HN2:=qH hn2
   clear hn hn2 hb2 k1
   go_wp2_with fail
   refine bodyPost_ret (v:=.agg #[.slice a1 (lenW x) c1]) (by simp [results,Tryz.results177,go_sem,k2]) rfl ?_
   exact HN2.out.ret 0 rfl HX.out (by rw [HX.out])
  ·
   have HZ:=qH (decide_eq_false h0▸fun W=>nzero_any b1 d1 y W)
   have HM:=qH (fun W h1 h2=>HD.out a1 b1 c1 d1 x y W h1 h2 hxK hyL h0)
   have hlt:=Nat.mod_lt x (Nat.pos_of_ne_zero h0)
   have hgs:=gcd_step x y
   rw [HGG.out] at hgs
   have HGS:=qH hgs
   have hl2:=lenW_mono (Nat.le_of_lt hlt)
   clear h0 k0 k2 f2 hgs
   go_wp2_with fail
   refine (HZ.out _).mono ?_
   rintro e w2 ⟨rfl,hb2⟩
   have HN2:=qH (HN.out.call hb2)
   have k0:=HN2.out.cell 0 0 rfl rfl
   clear k1
   have k1:=HN2.out.cell 1 0 rfl rfl
   clear hb2
   go_wp2_with fail
   refine (HM.out _ (HN2.out.nat 0 rfl) (HN2.out.nat 1 rfl)).mono ?_
   rintro e w3 ⟨a2,c2,rfl,hr,hb3⟩
   have n1:w.heap.size≠w3.heap.size:=Nat.ne_of_lt ((HN2.out.call hb3).lt 0 rfl)
   have hn:=((HN2.out.call hb3).got hr).alloc (p:=w3.heap.size) rfl 41 [.slice a2 (lenW (x % y)) c2] rfl
   have HN3:=qH hn
   have e0:=hn.cell 0 0 rfl rfl
   have e1:=hn.cell 1 0 rfl rfl
   have e3:=hn.cell 3 0 rfl rfl
   have f0:=hn.free 0 0 rfl
   have f1:=hn.free 1 0 rfl
   clear hn hb3 hr k0 k1
   go_upto_region 3 with fail
   go_region
   all_goals
    have hfin:=((HN3.out.set 0 0 rfl rfl (fun _=>by simp) (.slice b1 (lenW y) d1)).set 1 0 rfl rfl (fun _=>by simp) (.slice a2 (lenW (x % y)) c2)).drew
    have HF:=qH (hfin.only (List.sublist_append_left ([⟨w.heap.size,41,[.slice b1 (lenW y) d1]⟩,⟨w.heap.size+1,41,[.slice a2 (lenW (x % y)) c2]⟩,⟨w.heap.size+1+1,41,[.slice none 0 0]⟩]:List Bk) ([⟨w3.heap.size,41,[.slice a2 (lenW (x % y)) c2]⟩]:List Bk)) (ns':=[⟨b1,d1,y⟩,⟨a2,c2,x % y⟩]) (fun z hz=>by
     simp only [List.mem_cons,List.not_mem_nil,or_false] at hz
     rcases hz with rfl | rfl <;> simp))
    clear hfin
    go_wp2
    go_roundg (x % y)
    case measure=>exact hlt
    case rel=>exact ⟨y,b1,a2,d1,c2,HGS.out.symm,by omega,by omega,HF.out⟩
def RetNN (x y:Nat) (w:World) (e:Ending) (w':World):Prop:=∃ a c b d,e=.returned (.tuple #[.agg #[.slice a (lenW x) c],.agg #[.slice b (lenW y) d]])∧NatW w' a c x∧NatW w' b d y∧Below w.heap.size w w'
theorem reduce_any {K L:Nat} (hKL:L≤K) (hD:DivUpto K L) (a b:Option Addr) (c d m n:Nat) (w:World) (ha:NatW w a c m) (hb:NatW w b d n) (hm:lenW m≤K) (hn:lenW n≤L) (h0:n≠0):Calls Tryz.prog 134 #[.agg #[.slice a (lenW m) c],.agg #[.slice b (lenW n) d]] w (RetNN (m / Nat.gcd m n) (n / Nat.gcd m n) w):=by
 have hbs:BS w [⟨w.heap.size,41,[.slice a (lenW m) c]⟩,⟨w.heap.size+1,41,[.slice b (lenW n) d]⟩,⟨w.heap.size+1+1,41,[.slice none 0 0]⟩,⟨w.heap.size+1+1+1,41,[.slice none 0 0]⟩] [⟨a,c,m⟩,⟨b,d,n⟩] ((((w.alloc (.cells #[.slice a (lenW m) c] 41)).alloc (.cells #[.slice b (lenW n) d] 41)).alloc (.cells #[.slice none 0 0] 41)).alloc (.cells #[.slice none 0 0] 41)) :=
  ((((BS.begin [⟨a,c,m⟩,⟨b,d,n⟩] (fun y hy=>by
   rcases List.mem_cons.1 hy with rfl | hy
   ·
    exact ha
   ·
    rw [List.mem_singleton.1 hy];exact hb)).alloc (p:=w.heap.size) rfl 41 [.slice a (lenW m) c] rfl).alloc (p:=w.heap.size+1) (by simp) 41 [.slice b (lenW n) d] rfl).alloc (p:=w.heap.size+1+1) (by simp) 41 [.slice none 0 0] rfl).alloc (p:=w.heap.size+1+1+1) (by simp) 41 [.slice none 0 0] rfl
 have hgn:Nat.gcd m n≤n:=Nat.gcd_le_right m (Nat.pos_of_ne_zero h0)
 have hg0:Nat.gcd m n≠0:=fun e=>h0 (Nat.eq_zero_of_gcd_eq_zero_right e)
 have hgl:=lenW_mono hgn
 obtain ⟨G,hG⟩:∃ G,Nat.gcd m n=G:=⟨_,rfl⟩
 have HG:=qH (fun (W:World) (h1:NatW W a c m) (h2:NatW W b d n)=>hG▸gcd_any hKL hD a b c d m n W h1 h2 hm hn)
 rw [hG] at hgn hg0 hgl ⊢
 have HD1:=qH (fun (a2:Option Addr) (c2:Nat) (W:World) (h1:NatW W a c m) (h2:NatW W a2 c2 G)=>qdiv_any hD a a2 c c2 m G W h1 h2 hm (by omega) hg0)
 have HD2:=qH (fun (a2:Option Addr) (c2:Nat) (W:World) (h1:NatW W b d n) (h2:NatW W a2 c2 G)=>qdiv_any hD b a2 d c2 n G W h1 h2 (by omega) (by omega) hg0)
 have HZ:=qH (decide_eq_false hg0▸fun (a2:Option Addr) (c2:Nat) W=>nzero_any a2 c2 G W)
 have HBS:=qH hbs
 clear ha hb hbs hD hG hgn hg0 hgl h0 hm hn
 go_enter Tryz.func134,Tryz.ntmps134
 go_wp2_with fail
 refine (HG.out _ (HBS.out.nat 0 rfl) (HBS.out.nat 1 rfl)).mono ?_
 rintro e w1 ⟨a2,c2,rfl,hg,hb1⟩
 have hn:=((HBS.out.call hb1).got hg).alloc (p:=w1.heap.size) rfl 41 [.slice a2 (lenW G) c2] rfl
 have HN1:=qH hn
 clear hb1 hg hn HBS
 go_wp2_with fail
 refine (HZ.out a2 c2 _).mono ?_
 rintro e w2 ⟨rfl,hb2⟩
 have HN2:=qH (HN1.out.call hb2)
 have k0:=HN2.out.cell 0 0 rfl rfl
 have k4:=HN2.out.cell 4 0 rfl rfl
 clear hb2 HN1
 go_wp2_with fail
 refine (HD1.out _ _ _ (HN2.out.nat 0 rfl) (HN2.out.nat 2 rfl)).mono ?_
 rintro e w3 ⟨a3,c3,rfl,hg,hb3⟩
 have hn0:=(HN2.out.call hb3).got hg
 have HL3:=qH (show w1.heap.size<w3.heap.size from hn0.lt 4 rfl)
 have HN3:=qH (hn0.alloc (p:=w3.heap.size) rfl 41 [.slice a3 (lenW (m / G)) c3] rfl)
 clear k0 k4 hb3 hg hn0 HN2
 have k1:=HN3.out.cell 1 0 rfl rfl
 have k4:=HN3.out.cell 4 0 rfl rfl
 go_wp2_with fail
 refine (HD2.out _ _ _ (HN3.out.nat 1 rfl) (HN3.out.nat 2 rfl)).mono ?_
 rintro e w4 ⟨a4,c4,rfl,hg,hb4⟩
 have hn0:=(HN3.out.call hb4).got hg
 have n5:w3.heap.size≠w4.heap.size:=Nat.ne_of_lt (hn0.lt 5 rfl)
 have n2:w.heap.size+1+1≠w4.heap.size:=Nat.ne_of_lt (hn0.lt 2 rfl)
 have n3:w.heap.size+1+1+1≠w4.heap.size:=Nat.ne_of_lt (hn0.lt 3 rfl)
 have m2:w.heap.size+1+1≠w3.heap.size:=by have:=List.pairwise_iff_getElem.1 hn0.nod 2 5 (by simp) (by simp) (by omega);simpa using this
 have m3:w.heap.size+1+1+1≠w3.heap.size:=by have:=List.pairwise_iff_getElem.1 hn0.nod 3 5 (by simp) (by simp) (by omega);simpa using this
 have HN4:=qH (hn0.alloc (p:=w4.heap.size) rfl 41 [.slice a4 (lenW (n / G)) c4] rfl)
 clear k1 k4 hb4 hg hn0 HN3
 have k5:=HN4.out.cell 5 0 rfl rfl
 have k6:=HN4.out.cell 6 0 rfl rfl
 have k2:=HN4.out.cell 2 0 rfl rfl
 have k3:=HN4.out.cell 3 0 rfl rfl
 have f2:=HN4.out.free 2 0 rfl
 have f3:=HN4.out.free 3 0 rfl
 go_upto_region 6 with fail
 go_region
 all_goals
  have hfin:=((HN4.out.set 2 0 rfl rfl (fun _=>by simp) (.slice a3 (lenW (m / G)) c3)).set 3 0 rfl rfl (fun _=>by simp) (.slice a4 (lenW (n / G)) c4)).drew
  have HF:=qH hfin
  have h2:=hfin.cell 2 0 rfl rfl
  have h3:=hfin.cell 3 0 rfl rfl
  clear hfin
  go_wp2
  refine bodyPost_ret (v:=.tuple #[.agg #[.slice a3 (lenW (m / G)) c3],.agg #[.slice a4 (lenW (n / G)) c4]]) (by simp [results,Tryz.results134,go_sem,h2,h3]) rfl ?_
  exact ⟨a3,c3,a4,c4,rfl,HF.out.nat 3 rfl,HF.out.nat 4 rfl,HF.out.bel⟩
def RetRB (q:Rat) (ok:Bool) (w:World) (e:Ending) (w':World):Prop:=∃ a c b d,e=.returned (.tuple #[ratV a c b d q,.bool ok])∧NatW w' a c q.num.natAbs∧NatW w' b d (denN q.den)∧Below w.heap.size w w'
theorem signZ_ne {z:Int} (h:z≠0):(signZ z==0)=false:=by
 unfold signZ
 by_cases h1:z<0
 ·
  rw [if_pos h1];rfl
 ·
  rw [if_neg h1,if_neg h];rfl
theorem rnew_any {K L:Nat} (hKL:L≤K) (hD:DivUpto K L) (x y:Int) (a b:Option Addr) (c d:Nat) (w:World) (ha:NatW w a c x.natAbs) (hb:NatW w b d y.natAbs) (h1:lenW x.natAbs≤K) (h2:lenW y.natAbs≤L) (hy:y≠0):Calls Tryz.prog 70 #[.agg #[.bool (decide (x<0)),.slice a (lenW x.natAbs) c],.agg #[.bool (decide (y<0)),.slice b (lenW y.natAbs) d]] w (RetRB (Rat.divInt x y) true w):=by
 have hg1:=rat_num x y hy
 have hg2:=rat_den x y hy
 have hy0:y.natAbs≠0:=by omega
 have HSG:=qH (fun W=>isign_any y b d W)
 have hzz:=signZ_ne hy
 have hR:=fun (W:World) (q1:NatW W a c x.natAbs) (q2:NatW W b d y.natAbs)=>reduce_any hKL hD a b c d _ _ W q1 q2 h1 h2 hy0
 obtain ⟨sx,hsx⟩:∃ sx,decide (x<0)=sx:=⟨_,rfl⟩
 obtain ⟨sy,hsy⟩:∃ sy,decide (y<0)=sy:=⟨_,rfl⟩
 obtain ⟨m,hm⟩:∃ m,x.natAbs=m:=⟨_,rfl⟩
 obtain ⟨n,hn⟩:∃ n,y.natAbs=n:=⟨_,rfl⟩
 obtain ⟨zz,hz⟩:∃ zz,signZ y=zz:=⟨_,rfl⟩
 obtain ⟨g1,hG1⟩:∃ g,x.natAbs / Nat.gcd x.natAbs y.natAbs=g:=⟨_,rfl⟩
 obtain ⟨g2,hG2⟩:∃ g,y.natAbs / Nat.gcd x.natAbs y.natAbs=g:=⟨_,rfl⟩
 obtain ⟨q,hq⟩:∃ q,Rat.divInt x y=q:=⟨_,rfl⟩
 rw [hG1,hG2] at hR
 rw [hG1,hsx,hsy,hq] at hg1
 rw [hG2,hq] at hg2
 rw [hsy,hn,hz] at HSG
 rw [hz] at hzz
 rw [hq]
 unfold RetNN at hR
 rw [hm,hn] at hR
 rw [hsx,hsy,hm,hn]
 rw [hm] at ha
 rw [hn] at hb
 clear hsx hsy hm hn hz hG1 hG2 hq h1 h2 hy hy0 hKL hD x y
 have hg3:q.num=newI (!(sx==sy)) g1:=hg1
 have HI:=qH (fun (a2:Option Addr) (c2:Nat) (W:World) (h:NatW W a2 c2 g1)=>hg3▸inew_any (!(sx==sy)) a2 c2 g1 W h)
 have HA1:=qH (fun W=>iabs_any sx a c m W)
 have HA2:=qH (fun W=>iabs_any sy b d n W)
 have HB1:=qH (fun W=>ibelow_any sx a c m W)
 have HB2:=qH (fun W=>ibelow_any sy b d n W)
 have HR:=qH hR
 have hd2:denN g2=denN q.den:=by rw [hg2]
 have HBA:=qH (fun (sg:Bool) (a2 b2:Option Addr) (c2 d2 m2:Nat) (W:World) (h1:NatW W a2 c2 m2) (h2:NatW W b2 d2 g2)=>hd2▸bare_any sg a2 b2 c2 d2 m2 g2 W h1 h2)
 obtain ⟨sz,hsz⟩:∃ sz,decide (q.num<0)=sz:=⟨_,rfl⟩
 obtain ⟨mz,hmz⟩:∃ m,q.num.natAbs=m:=⟨_,rfl⟩
 unfold RetI at HI
 rw [hsz,hmz] at HI
 unfold RetRB ratV
 rw [hsz,hmz]
 obtain ⟨dz,hdz⟩:∃ m,denN q.den=m:=⟨_,rfl⟩
 rw [hdz] at HBA ⊢
 clear hR hg1 hg2 hg3 hd2 hsz hmz hdz
 obtain ⟨W0,hW0⟩:∃ W0,W0=(((w.alloc (.cells #[.bool sx,.slice a (lenW m) c] 43)).alloc (.cells #[.bool sy,.slice b (lenW n) d] 43)).alloc (.cells #[.bool false,.slice none 0 0,.slice none 0 0] 45)):=⟨_,rfl⟩
 have hbs:BS w [⟨w.heap.size,43,[.bool sx,.slice a (lenW m) c]⟩,⟨w.heap.size+1,43,[.bool sy,.slice b (lenW n) d]⟩,⟨w.heap.size+1+1,45,[.bool false,.slice none 0 0,.slice none 0 0]⟩] [⟨a,c,m⟩,⟨b,d,n⟩] (((w.alloc (.cells #[.bool sx,.slice a (lenW m) c] 43)).alloc (.cells #[.bool sy,.slice b (lenW n) d] 43)).alloc (.cells #[.bool false,.slice none 0 0,.slice none 0 0] 45)) :=
   ((((BS.begin [⟨a,c,m⟩,⟨b,d,n⟩] (fun y hy=>by
    rcases List.mem_cons.1 hy with rfl | hy
    ·
     exact ha
    rw [List.mem_singleton.1 hy];exact hb)).alloc (p:=w.heap.size) rfl 43 [.bool sx,.slice a (lenW m) c] rfl).alloc (p:=w.heap.size+1) (by simp) 43 [.bool sy,.slice b (lenW n) d] rfl).alloc (p:=w.heap.size+1+1) (by simp) 45 [.bool false,.slice none 0 0,.slice none 0 0] rfl)
 rw [← hW0] at hbs
 have HW0:=qH hW0
 have HN:=qH hbs
 clear hW0 hbs
 clear ha hb
 go_enter Tryz.func70,Tryz.ntmps70
 go_wp2_with fail
 rw [← HW0.out]
 refine (HSG.out _).mono ?_
 rintro e w1 ⟨rfl,hb⟩
 replace HN:=qH (HN.out.call hb)
 clear hb 
 have ⟨k00,f00,k01,f01⟩:=HN.out.cf2 0 rfl
 have ⟨k10,f10,k11,f11⟩:=HN.out.cf2 1 rfl
 have ⟨k20,f20,k21,f21,k22,f22⟩:=HN.out.cf3 2 rfl
 go_upto_region 3 with fail
 clear k00 f00 k01 f01 k10 f10 k11 f11 k20 f20 k21 f21 k22 f22
 go_cut [6,7] (fun v6 v7 wx=>∃ p6 p7 a6 c6 a7 c7,v6=.pointer (some ⟨p6,0,none⟩)∧v7=.pointer (some ⟨p7,0,none⟩)∧BS w [⟨w.heap.size,43,[.bool sx,.slice a (lenW m) c]⟩,⟨w.heap.size+1,43,[.bool sy,.slice b (lenW n) d]⟩,⟨w.heap.size+1+1,45,[.bool false,.slice none 0 0,.slice none 0 0]⟩,⟨p6,41,[.slice a6 (lenW g1) c6]⟩,⟨p7,41,[.slice a7 (lenW g2) c7]⟩] [⟨a,c,m⟩,⟨b,d,n⟩,⟨a6,c6,g1⟩,⟨a7,c7,g2⟩] wx)
 case first =>
  replace HN:=qH HN.out.drew
  refine wp_region_held_drew (S:=fun W=>W.cell? ⟨w.heap.size,0,none⟩=some (.bool sx)∧W.cell? ⟨w.heap.size,1,none⟩=some (.slice a (lenW m) c)∧W.cell? ⟨w.heap.size+1,0,none⟩=some (.bool sy)∧W.cell? ⟨w.heap.size+1,1,none⟩=some (.slice b (lenW n) d)) (by kernel_rfl) (⟨HN.out.cell 0 0 rfl rfl,HN.out.cell 0 1 rfl rfl,HN.out.cell 1 0 rfl rfl,HN.out.cell 1 1 rfl rfl⟩) (fun hHeld=>?_)
  generalize w1.drew=wd at HN hHeld ⊢
  refine tl 0 (some 13) ?_
  refine tl 2 (some 15) ?_
  have tg:=Mk.mk (v:=0) (d:=0)
  iterate 7
   all_goals first
   | refine qz3 0 tg 1 0 1 8 1 2 9 2 3 ?_ ?_ ?_
   | refine qz3 1 tg 3 3 4 8 1 5 9 2 6 ?_ ?_ ?_
   | refine qz2 2 tg 1 0 5 9 2 7 ?_ ?_
   | refine qz2 3 tg 1 0 6 8 4 7 ?_ ?_
   | refine qz3 4 tg 4 5 8 8 1 9 9 2 10 ?_ ?_ ?_
   | refine qz2 5 tg 3 3 9 9 2 11 ?_ ?_
   | refine qz2 6 tg 3 3 10 8 4 11 ?_ ?_
   | refine qz1 7 tg 1 0 11 ?_
   | refine qz2 8 tg 8 1 12 9 2 13 ?_ ?_
   | refine qz2 9 tg 4 5 12 9 2 14 ?_ ?_
   | refine qz2 10 tg 4 5 13 8 4 14 ?_ ?_
   | refine qz1 11 tg 3 3 14 ?_
   | refine qz1 12 tg 9 2 15 ?_
   | refine qz1 13 tg 8 4 15 ?_
   | refine qz1 14 tg 4 5 15 ?_
   | refine qz1 15 tg 10 6 16 ?_
   | refine qz1 16 tg 11 7 17 ?_
   all_goals intro K hK tg
   all_goals first
   |
    have _:Mk 0 _:=tg
    go_simp
    refine (HA1.out _).mono ?_
    rintro e wd ⟨rfl,hb⟩
    replace HN:=qH (HN.out.call hb)
    clear hb 
    go_wp2_with fail
   |
    have _:Mk 1 _:=tg
    go_simp
    replace HN:=qH (HN.out.alloc (p:=wd.heap.size) rfl 41 [.slice none 0 0] rfl)
    generalize wd.heap.size=p8_ at HN ⊢
    generalize wd.alloc (.cells #[.slice none 0 0] 41)=wd at HN  ⊢
   |
    have _:Mk 2 _:=tg
    go_simp
    replace HN:=qH (HN.out.alloc (p:=wd.heap.size) rfl 41 [.slice none 0 0] rfl)
    generalize wd.heap.size=p9_ at HN ⊢
    generalize wd.alloc (.cells #[.slice none 0 0] 41)=wd at HN  ⊢
   |
    have _:Mk 3 _:=tg
    go_simp
    refine (HA2.out _).mono ?_
    rintro e wd ⟨rfl,hb⟩
    replace HN:=qH (HN.out.call hb)
    clear hb 
    go_wp2_with fail
   |
    have _:Mk 4 _:=tg
    go_simp
    replace HN:=qH ((HN.out.alloc (p:=wd.heap.size) rfl 41 [.slice none 0 0] rfl).ins 3)
    generalize wd.heap.size=p8_ at HN ⊢
    generalize wd.alloc (.cells #[.slice none 0 0] 41)=wd at HN  ⊢
   |
    have _:Mk 5 _:=tg
    go_simp
    refine (HR.out _ (HN.out.nat 0 rfl) (HN.out.nat 1 rfl)).mono ?_
    rintro e wd ⟨a6,c6,a7,c7,rfl,hq0,hq1,hb⟩
    replace HN:=qH (((HN.out.call hb).got hq0).got hq1)
    clear hb hq0 hq1
    go_wp2_with fail
   |
    have _:Mk 6 _:=tg
    have hc0:=HN.out.cell 3 0 rfl rfl
    have hf0:=HN.out.free 3 0 rfl
    go_simp
    clear hc0 hf0
    replace HN:=qH ((HN.out).set 3 0 rfl rfl (fun _=>by simp) (.slice a6 (lenW g1) c6))
    generalize (wd.setCell ⟨p8_,0,none⟩ (.slice a6 (lenW g1) c6))=wd at HN ⊢
   |
    have _:Mk 7 _:=tg
    have hc0:=HN.out.cell 4 0 rfl rfl
    have hf0:=HN.out.free 4 0 rfl
    go_simp
    clear hc0 hf0
    replace HN:=qH ((HN.out).set 4 0 rfl rfl (fun _=>by simp) (.slice a7 (lenW g2) c7))
    generalize (wd.setCell ⟨p9_,0,none⟩ (.slice a7 (lenW g2) c7))=wd at HN ⊢
   all_goals
    refine hK.out _ _ (⟨HN.out.cell 0 0 rfl rfl,HN.out.cell 0 1 rfl rfl,HN.out.cell 1 0 rfl rfl,HN.out.cell 1 1 rfl rfl⟩) (fun hHeld2=>?_)
    clear hK K hHeld
    rename _=>hHeld
    try simp only [Act.put,stB,stZ,stS]
   all_goals first
   |
    have _:Mk 5 _:=tg
    refine tm 5 (some 12) ?_
    refine tm 6 (some 18) ?_
    refine tm 7 (some 19) ?_
   | skip
  all_goals (refine wpAnyH_done (by kernel_rfl) ?_ _)
  all_goals
   go_wp2_with fail
   go_meet
   exact ⟨_,_,_,_,_,_,rfl,rfl,HN.out⟩
 case rest =>
  obtain ⟨w2,rfl⟩:∃ w2:World,w2=wc:=⟨_,rfl⟩
  obtain ⟨p6,p7,a6,c6,a7,c7,rfl,rfl,hn0⟩:=hcut
  have HN:=qH hn0
  clear hn0
  have ⟨k00,f00,k01,f01⟩:=HN.out.cf2 0 rfl
  have ⟨k10,f10,k11,f11⟩:=HN.out.cf2 1 rfl
  have ⟨k20,f20,k21,f21,k22,f22⟩:=HN.out.cf3 2 rfl
  have ⟨k30,f30⟩:=HN.out.cf1 3 rfl
  have ⟨k40,f40⟩:=HN.out.cf1 4 rfl
  go_upto_region 4 with fail
  clear k00 f00 k01 f01 k10 f10 k11 f11 k20 f20 k21 f21 k22 f22 k30 f30 k40 f40
  replace HN:=qH HN.out.drew
  refine wp_region_held_drew (S:=fun W=>W.cell? ⟨w.heap.size,0,none⟩=some (.bool sx)∧W.cell? ⟨w.heap.size,1,none⟩=some (.slice a (lenW m) c)∧W.cell? ⟨w.heap.size+1,0,none⟩=some (.bool sy)∧W.cell? ⟨w.heap.size+1,1,none⟩=some (.slice b (lenW n) d)∧W.cell? ⟨p6,0,none⟩=some (.slice a6 (lenW g1) c6)∧W.cell? ⟨p7,0,none⟩=some (.slice a7 (lenW g2) c7)) (by kernel_rfl) (⟨HN.out.cell 0 0 rfl rfl,HN.out.cell 0 1 rfl rfl,HN.out.cell 1 0 rfl rfl,HN.out.cell 1 1 rfl rfl,HN.out.cell 3 0 rfl rfl,HN.out.cell 4 0 rfl rfl⟩) (fun hHeld=>?_)
  generalize w2.drew=wd at HN hHeld ⊢
  refine tl 0 (some 20) ?_
  refine tl 2 (some 22) ?_
  refine tl 5 (some 25) ?_
  refine tl 7 (some 27) ?_
  have tg:=Mk.mk (v:=0) (d:=0)
  iterate 5
   all_goals first
   | refine qz1 0 tg 1 0 1 ?_
   | refine qz1 1 tg 3 1 2 ?_
   | refine qz1 2 tg 6 2 3 ?_
   | refine qz1 3 tg 8 3 4 ?_
   | refine qz1 4 tg 9 4 5 ?_
   all_goals intro K hK tg
   all_goals first
   |
    have _:Mk 0 _:=tg
    go_simp
    refine (HB1.out _).mono ?_
    rintro e wd ⟨rfl,hb⟩
    replace HN:=qH (HN.out.call hb)
    clear hb 
    go_wp2_with fail
   |
    have _:Mk 1 _:=tg
    go_simp
    refine (HB2.out _).mono ?_
    rintro e wd ⟨rfl,hb⟩
    replace HN:=qH (HN.out.call hb)
    clear hb 
    go_wp2_with fail
   |
    have _:Mk 2 _:=tg
    go_simp
    refine (HI.out _ _ _ (HN.out.nat 2 rfl)).mono ?_
    rintro e wd ⟨a8,c8,rfl,hq0,hb⟩
    replace HN:=qH ((HN.out.call hb).got hq0)
    clear hb hq0
    go_wp2_with fail
   |
    have _:Mk 3 _:=tg
    go_simp
    refine (HBA.out _ _ _ _ _ _ _ (HN.out.nat 4 rfl) (HN.out.nat 3 rfl)).mono ?_
    rintro e wd ⟨b9,d9,rfl,hq0,hq1,hb⟩
    replace HN:=qH (((HN.out.call hb).got hq0).got hq1)
    clear hb hq0 hq1
    go_wp2_with fail
   |
    have _:Mk 4 _:=tg
    have hc0:=HN.out.cell 2 0 rfl rfl
    have hf0:=HN.out.free 2 0 rfl
    have hc1:=HN.out.cell 2 1 rfl rfl
    have hf1:=HN.out.free 2 1 rfl
    have hc2:=HN.out.cell 2 2 rfl rfl
    have hf2:=HN.out.free 2 2 rfl
    go_simp
    clear hc0 hf0 hc1 hf1 hc2 hf2
    replace HN:=qH ((((HN.out).set 2 0 rfl rfl (fun _=>by simp) (.bool sz)).set 2 1 rfl rfl (fun _=>by simp) (.slice a8 (lenW mz) c8)).set 2 2 rfl rfl (fun _=>by simp) (.slice b9 (lenW dz) d9))
    generalize (((wd.setCell ⟨w.heap.size+1+1,0,none⟩ (.bool sz)).setCell ⟨w.heap.size+1+1,1,none⟩ (.slice a8 (lenW mz) c8)).setCell ⟨w.heap.size+1+1,2,none⟩ (.slice b9 (lenW dz) d9))=wd at HN ⊢
   all_goals
    refine hK.out _ _ (⟨HN.out.cell 0 0 rfl rfl,HN.out.cell 0 1 rfl rfl,HN.out.cell 1 0 rfl rfl,HN.out.cell 1 1 rfl rfl,HN.out.cell 3 0 rfl rfl,HN.out.cell 4 0 rfl rfl⟩) (fun hHeld2=>?_)
    clear hK K hHeld
    rename _=>hHeld
    try simp only [Act.put,stB,stZ,stS]
   all_goals first
   |
    have _:Mk 1 _:=tg
    refine tm 4 (some 24) ?_
   |
    have _:Mk 4 _:=tg
    refine tm 10 (some 5) ?_
   | skip
  all_goals (refine wpAnyH_done (by kernel_rfl) ?_ _)
  all_goals
   have ⟨j0_2,j1_2,j2_2⟩:=HN.out.cg3 2 rfl
   go_wp2_with fail
   refine bodyPost_ret (v:=.tuple #[.agg #[.bool sz,.slice a8 (lenW mz) c8,.slice b9 (lenW dz) d9],.bool true]) (by simp [results,Tryz.results70,go_sem,j0_2,j1_2,j2_2]) rfl ?_
   exact ⟨a8,c8,b9,d9,rfl,HN.out.nat 4 rfl,HN.out.nat 6 rfl,HN.out.bel⟩
theorem lenW_i64 {x:Int} (h1:-9223372036854775808≤x) (h2:x≤9223372036854775807):lenW x.natAbs≤1:=lenW_word.2 (by unfold W64;omega)
theorem rof_any {K L:Nat} (hKL:L≤K) (hD:DivUpto K L) (hK:1≤K) (hL:1≤L) (x y:Int) (w:World) (hx1:-9223372036854775808≤x) (hx2:x≤9223372036854775807) (hy1:-9223372036854775808≤y) (hy2:y≤9223372036854775807) (hy:y≠0):Calls Tryz.prog 55 #[.int .i64 x,.int .i64 y] w (RetRB (Rat.divInt x y) true w):=by
 have hI1:=fun W=>iof_any x W hx1 hx2
 have hI2:=fun W=>iof_any y W hy1 hy2
 have hNW:=fun (a b:Option Addr) (c d:Nat) (W:World) (q1:NatW W a c x.natAbs) (q2:NatW W b d y.natAbs)=>rnew_any hKL hD x y a b c d W q1 q2 (Nat.le_trans (lenW_i64 hx1 hx2) hK) (Nat.le_trans (lenW_i64 hy1 hy2) hL) hy
 obtain ⟨q,hq⟩:∃ q,Rat.divInt x y=q:=⟨_,rfl⟩
 rw [hq] at hNW ⊢
 obtain ⟨sx,hsx⟩:∃ sx,decide (x<0)=sx:=⟨_,rfl⟩
 obtain ⟨sy,hsy⟩:∃ sy,decide (y<0)=sy:=⟨_,rfl⟩
 obtain ⟨m,hm⟩:∃ m,x.natAbs=m:=⟨_,rfl⟩
 obtain ⟨n,hn⟩:∃ n,y.natAbs=n:=⟨_,rfl⟩
 unfold RetI at hI1 hI2
 unfold RetRB ratV at hNW ⊢
 rw [hsx,hm] at hI1
 rw [hsy,hn] at hI2
 rw [hsx,hsy,hm,hn] at hNW
 have HI1:=qH hI1
 have HI2:=qH hI2
 have HNW:=qH hNW
 clear hI1 hI2 hNW hq hsx hsy hm hn hK hL hy hKL hD
 obtain ⟨W0,hW0⟩:∃ W0,W0=(w.alloc (.cells #[.bool false,.slice none 0 0,.slice none 0 0] 45)):=⟨_,rfl⟩
 have hbs:BS w [⟨w.heap.size,45,[.bool false,.slice none 0 0,.slice none 0 0]⟩] [] (w.alloc (.cells #[.bool false,.slice none 0 0,.slice none 0 0] 45)) :=
   ((BS.start w).alloc (p:=w.heap.size) rfl 45 [.bool false,.slice none 0 0,.slice none 0 0] rfl)
 rw [← hW0] at hbs
 have HW0:=qH hW0
 have HN:=qH hbs
 clear hW0 hbs
 go_enter Tryz.func55,Tryz.ntmps55
 go_wp2_with fail
 rw [← HW0.out]
 refine (HI1.out _).mono ?_
 rintro e w1 ⟨a,c,rfl,hq0,hb⟩
 replace HN:=qH ((HN.out.call hb).got hq0)
 clear hb hq0
 have ⟨k00,f00,k01,f01,k02,f02⟩:=HN.out.cf3 0 rfl
 go_wp2_with fail
 clear k00 f00 k01 f01 k02 f02
 refine (HI2.out _).mono ?_
 rintro e w2 ⟨b,d,rfl,hq0,hb⟩
 replace HN:=qH ((HN.out.call hb).got hq0)
 clear hb hq0
 have ⟨k00,f00,k01,f01,k02,f02⟩:=HN.out.cf3 0 rfl
 go_wp2_with fail
 clear k00 f00 k01 f01 k02 f02
 refine (HNW.out _ _ _ _ _ (HN.out.nat 0 rfl) (HN.out.nat 1 rfl)).mono ?_
 rintro e w3 ⟨a8,c8,b9,d9,rfl,hq0,hq1,hb⟩
 replace HN:=qH (((HN.out.call hb).got hq0).got hq1)
 clear hb hq0 hq1
 have ⟨k00,f00,k01,f01,k02,f02⟩:=HN.out.cf3 0 rfl
 have HE:=qH ((((HN.out).set 0 0 rfl rfl (fun _=>by simp) (.bool (decide (q.num<0)))).set 0 1 rfl rfl (fun _=>by simp) (.slice a8 (lenW q.num.natAbs) c8)).set 0 2 rfl rfl (fun _=>by simp) (.slice b9 (lenW (denN q.den)) d9))
 have ⟨j0_0,j1_0,j2_0⟩:=HE.out.cg3 0 rfl
 go_wp2_with fail
 refine bodyPost_ret (v:=.tuple #[.agg #[.bool (decide (q.num<0)),.slice a8 (lenW q.num.natAbs) c8,.slice b9 (lenW (denN q.den)) d9],.bool true]) (by simp [results,Tryz.results55,go_sem,j0_0,j1_0,j2_0,k00,k01,k02]) rfl ?_
 exact ⟨a8,c8,b9,d9,rfl,HE.out.nat 2 rfl,HE.out.nat 3 rfl,HE.out.bel⟩
theorem rcmp_any {K:Nat} (hK:MulUpto K) (p q:Rat) (a b e f:Option Addr) (c d i g:Nat) (w:World) (ha:NatW w a c p.num.natAbs) (hb:NatW w b d (denN p.den)) (he:NatW w e i q.num.natAbs) (hf:NatW w f g (denN q.den)) (h1:lenW p.num.natAbs+lenW (q.den:Int).natAbs≤K) (h2:lenW q.num.natAbs+lenW (p.den:Int).natAbs≤K):Calls Tryz.prog 88 #[ratV a c b d p,ratV e i f g q] w fun e w'=>e=.returned (.int .i64 (cmpR p q))∧Below w.heap.size w w':=by
 have hBq:=fun (W:World) (h:NatW W f g (denN q.den))=>rbelow_any (decide (q.num<0)) e f (lenW q.num.natAbs) i g q W h
 have hBp:=fun (W:World) (h:NatW W b d (denN p.den))=>rbelow_any (decide (p.num<0)) a b (lenW p.num.natAbs) c d p W h
 have hM1:=fun (a2:Option Addr) (c2:Nat) (W:World) (q1:NatW W a c p.num.natAbs) (q2:NatW W a2 c2 (q.den:Int).natAbs)=>imul_any hK p.num (q.den:Int) a a2 c c2 W q1 q2 h1
 have hM2:=fun (a2:Option Addr) (c2:Nat) (W:World) (q1:NatW W e i q.num.natAbs) (q2:NatW W a2 c2 (p.den:Int).natAbs)=>imul_any hK q.num (p.den:Int) e a2 i c2 W q1 q2 h2
 have hC:=fun (a2 a3:Option Addr) (c2 c3:Nat) (W:World) (q1:NatW W a2 c2 (p.num*(q.den:Int)).natAbs) (q2:NatW W a3 c3 (q.num*(p.den:Int)).natAbs)=>icmp_any (p.num*(q.den:Int)) (q.num*(p.den:Int)) a2 a3 c2 c3 W q1 q2
 rw [rat_cmp p q] at hC
 obtain ⟨z,hz⟩:∃ z,cmpR p q=z:=⟨_,rfl⟩
 obtain ⟨sp,hsp⟩:∃ s,decide (p.num<0)=s:=⟨_,rfl⟩
 obtain ⟨mp,hmp⟩:∃ m,p.num.natAbs=m:=⟨_,rfl⟩
 obtain ⟨sq,hsq⟩:∃ s,decide (q.num<0)=s:=⟨_,rfl⟩
 obtain ⟨mq,hmq⟩:∃ m,q.num.natAbs=m:=⟨_,rfl⟩
 obtain ⟨bp,hbp⟩:∃ s,decide ((p.den:Int)<0)=s:=⟨_,rfl⟩
 obtain ⟨np,hnp⟩:∃ m,(p.den:Int).natAbs=m:=⟨_,rfl⟩
 obtain ⟨bq,hbq⟩:∃ s,decide ((q.den:Int)<0)=s:=⟨_,rfl⟩
 obtain ⟨nq,hnq⟩:∃ m,(q.den:Int).natAbs=m:=⟨_,rfl⟩
 obtain ⟨dp,hdp⟩:∃ m,denN p.den=m:=⟨_,rfl⟩
 obtain ⟨dq,hdq⟩:∃ m,denN q.den=m:=⟨_,rfl⟩
 obtain ⟨x,hx⟩:∃ x,p.num*(q.den:Int)=x:=⟨_,rfl⟩
 obtain ⟨y,hy⟩:∃ y,q.num*(p.den:Int)=y:=⟨_,rfl⟩
 obtain ⟨sx,hsx⟩:∃ s,decide (x<0)=s:=⟨_,rfl⟩
 obtain ⟨mx,hmx⟩:∃ m,x.natAbs=m:=⟨_,rfl⟩
 obtain ⟨sy,hsy⟩:∃ s,decide (y<0)=s:=⟨_,rfl⟩
 obtain ⟨my,hmy⟩:∃ m,y.natAbs=m:=⟨_,rfl⟩
 unfold RetI at hBq hBp hM1 hM2
 rw [hsq,hmq,hdq,hbq,hnq] at hBq
 rw [hsp,hmp,hdp,hbp,hnp] at hBp
 rw [hx,hsx,hmx,hsp,hmp,hbq,hnq] at hM1
 rw [hy,hsy,hmy,hsq,hmq,hbp,hnp] at hM2
 rw [hmp] at ha
 rw [hdp] at hb
 rw [hmq] at he
 rw [hdq] at hf
 have HBq:=qH hBq
 have HBp:=qH hBp
 have HM1:=qH hM1
 have HM2:=qH hM2
 rw [hz,hx,hy,hsx,hmx,hsy,hmy] at hC
 unfold ratV
 rw [hsp,hmp,hdp,hsq,hmq,hdq,hz]
 have HC:=qH hC
 clear hBq hBp hM1 hM2 hC hsp hmp hsq hmq hbp hnp hbq hnq hdp hdq hsx hmx hsy hmy hx hy hz h1 h2 hK
 obtain ⟨W0,hW0⟩:∃ W0,W0=((w.alloc (.cells #[.bool sp,.slice a (lenW mp) c,.slice b (lenW dp) d] 45)).alloc (.cells #[.bool sq,.slice e (lenW mq) i,.slice f (lenW dq) g] 45)):=⟨_,rfl⟩
 have hbs:BS w [⟨w.heap.size,45,[.bool sp,.slice a (lenW mp) c,.slice b (lenW dp) d]⟩,⟨w.heap.size+1,45,[.bool sq,.slice e (lenW mq) i,.slice f (lenW dq) g]⟩] [⟨a,c,mp⟩,⟨b,d,dp⟩,⟨e,i,mq⟩,⟨f,g,dq⟩] ((w.alloc (.cells #[.bool sp,.slice a (lenW mp) c,.slice b (lenW dp) d] 45)).alloc (.cells #[.bool sq,.slice e (lenW mq) i,.slice f (lenW dq) g] 45)) :=
   (((BS.begin [⟨a,c,mp⟩,⟨b,d,dp⟩,⟨e,i,mq⟩,⟨f,g,dq⟩] (fun y hy=>by
    rcases List.mem_cons.1 hy with rfl | hy
    ·
     exact ha
    rcases List.mem_cons.1 hy with rfl | hy
    ·
     exact hb
    rcases List.mem_cons.1 hy with rfl | hy
    ·
     exact he
    rw [List.mem_singleton.1 hy];exact hf)).alloc (p:=w.heap.size) rfl 45 [.bool sp,.slice a (lenW mp) c,.slice b (lenW dp) d] rfl).alloc (p:=w.heap.size+1) (by simp) 45 [.bool sq,.slice e (lenW mq) i,.slice f (lenW dq) g] rfl)
 rw [← hW0] at hbs
 have HW0:=qH hW0
 have HN:=qH hbs
 clear hW0 hbs
 clear ha hb he hf
 go_enter Tryz.func88,Tryz.ntmps88
 go_upto_region 1 with fail
 rw [← HW0.out]
 replace HN:=qH HN.out.drew
 refine wp_region_held_drew (S:=fun W=>W.cell? ⟨w.heap.size,0,none⟩=some (.bool sp)∧W.cell? ⟨w.heap.size,1,none⟩=some (.slice a (lenW mp) c)∧W.cell? ⟨w.heap.size,2,none⟩=some (.slice b (lenW dp) d)∧W.cell? ⟨w.heap.size+1,0,none⟩=some (.bool sq)∧W.cell? ⟨w.heap.size+1,1,none⟩=some (.slice e (lenW mq) i)∧W.cell? ⟨w.heap.size+1,2,none⟩=some (.slice f (lenW dq) g)) (by kernel_rfl) (⟨HN.out.cell 0 0 rfl rfl,HN.out.cell 0 1 rfl rfl,HN.out.cell 0 2 rfl rfl,HN.out.cell 1 0 rfl rfl,HN.out.cell 1 1 rfl rfl,HN.out.cell 1 2 rfl rfl⟩) (fun hHeld=>?_)
 generalize W0.drew=wd at HN hHeld ⊢
 refine tm 0 (some 5) ?_
 refine tl 1 (some 6) ?_
 refine tl 2 (some 7) ?_
 refine tm 5 (some 10) ?_
 refine tl 6 (some 11) ?_
 refine tl 7 (some 12) ?_
 refine wpAnyH_ready (rs:=[3]) (by kernel_rfl) (by simp) ?_
 refine (AllReadyH.cons rfl (fun K hK=>?_) AllReadyH.nil)
 go_simp
 refine (HBq.out _ (HN.out.nat 3 rfl)).mono ?_
 rintro e w1 ⟨a2,c2,rfl,hq0,hb⟩
 replace HN:=qH ((HN.out.call hb).got hq0)
 clear hb hq0
 go_wp2_with fail
 refine hK.out _ _ (⟨HN.out.cell 0 0 rfl rfl,HN.out.cell 0 1 rfl rfl,HN.out.cell 0 2 rfl rfl,HN.out.cell 1 0 rfl rfl,HN.out.cell 1 1 rfl rfl,HN.out.cell 1 2 rfl rfl⟩) (fun hHeld2=>?_)
 clear hK K hHeld
 rename _=>hHeld
 try simp only [Act.put,stB,stZ,stS]
 refine wpAnyH_ready (rs:=[4]) (by kernel_rfl) (by simp) ?_
 refine (AllReadyH.cons rfl (fun K hK=>?_) AllReadyH.nil)
 go_simp
 refine (HM1.out _ _ _ (HN.out.nat 0 rfl) (HN.out.nat 4 rfl)).mono ?_
 rintro e w2 ⟨a3,c3,rfl,hq0,hb⟩
 replace HN:=qH ((HN.out.call hb).got hq0)
 clear hb hq0
 go_wp2_with fail
 refine hK.out _ _ (⟨HN.out.cell 0 0 rfl rfl,HN.out.cell 0 1 rfl rfl,HN.out.cell 0 2 rfl rfl,HN.out.cell 1 0 rfl rfl,HN.out.cell 1 1 rfl rfl,HN.out.cell 1 2 rfl rfl⟩) (fun hHeld2=>?_)
 clear hK K hHeld
 rename _=>hHeld
 try simp only [Act.put,stB,stZ,stS]
 refine wpAnyH_ready (rs:=[8]) (by kernel_rfl) (by simp) ?_
 refine (AllReadyH.cons rfl (fun K hK=>?_) AllReadyH.nil)
 go_simp
 refine (HBp.out _ (HN.out.nat 1 rfl)).mono ?_
 rintro e w3 ⟨a4,c4,rfl,hq0,hb⟩
 replace HN:=qH ((HN.out.call hb).got hq0)
 clear hb hq0
 go_wp2_with fail
 refine hK.out _ _ (⟨HN.out.cell 0 0 rfl rfl,HN.out.cell 0 1 rfl rfl,HN.out.cell 0 2 rfl rfl,HN.out.cell 1 0 rfl rfl,HN.out.cell 1 1 rfl rfl,HN.out.cell 1 2 rfl rfl⟩) (fun hHeld2=>?_)
 clear hK K hHeld
 rename _=>hHeld
 try simp only [Act.put,stB,stZ,stS]
 refine wpAnyH_ready (rs:=[9]) (by kernel_rfl) (by simp) ?_
 refine (AllReadyH.cons rfl (fun K hK=>?_) AllReadyH.nil)
 go_simp
 refine (HM2.out _ _ _ (HN.out.nat 2 rfl) (HN.out.nat 6 rfl)).mono ?_
 rintro e w4 ⟨a5,c5,rfl,hq0,hb⟩
 replace HN:=qH ((HN.out.call hb).got hq0)
 clear hb hq0
 go_wp2_with fail
 refine hK.out _ _ (⟨HN.out.cell 0 0 rfl rfl,HN.out.cell 0 1 rfl rfl,HN.out.cell 0 2 rfl rfl,HN.out.cell 1 0 rfl rfl,HN.out.cell 1 1 rfl rfl,HN.out.cell 1 2 rfl rfl⟩) (fun hHeld2=>?_)
 clear hK K hHeld
 rename _=>hHeld
 try simp only [Act.put,stB,stZ,stS]
 refine wpAnyH_ready (rs:=[10]) (by kernel_rfl) (by simp) ?_
 refine (AllReadyH.cons rfl (fun K hK=>?_) AllReadyH.nil)
 go_simp
 refine (HC.out _ _ _ _ _ (HN.out.nat 5 rfl) (HN.out.nat 7 rfl)).mono ?_
 rintro e w5 ⟨rfl,hb⟩
 replace HN:=qH (HN.out.call hb)
 clear hb 
 go_wp2_with fail
 refine hK.out _ _ (⟨HN.out.cell 0 0 rfl rfl,HN.out.cell 0 1 rfl rfl,HN.out.cell 0 2 rfl rfl,HN.out.cell 1 0 rfl rfl,HN.out.cell 1 1 rfl rfl,HN.out.cell 1 2 rfl rfl⟩) (fun hHeld2=>?_)
 clear hK K hHeld
 rename _=>hHeld
 try simp only [Act.put,stB,stZ,stS]
 refine tm 11 (some 4) ?_
 refine wpAnyH_done (by kernel_rfl) ?_ _
 go_wp2_with fail
 refine bodyPost_ret (v:=.int .i64 z) (by simp [results,Tryz.results88,go_sem]) rfl ?_
 exact ⟨rfl,HN.out.bel⟩
theorem rsame_any {K:Nat} (hK:MulUpto K) (p q:Rat) (a b e f:Option Addr) (c d i g:Nat) (w:World) (ha:NatW w a c p.num.natAbs) (hb:NatW w b d (denN p.den)) (he:NatW w e i q.num.natAbs) (hf:NatW w f g (denN q.den)) (h1:lenW p.num.natAbs+lenW (q.den:Int).natAbs≤K) (h2:lenW q.num.natAbs+lenW (p.den:Int).natAbs≤K):Calls Tryz.prog 34 #[ratV a c b d p,ratV e i f g q] w fun e w'=>e=.returned (.bool (decide (p=q)))∧Below w.heap.size w w':=by
 have hC:=fun (W:World) (q1:NatW W a c p.num.natAbs) (q2:NatW W b d (denN p.den)) (q3:NatW W e i q.num.natAbs) (q4:NatW W f g (denN q.den))=>rcmp_any hK p q a b e f c d i g W q1 q2 q3 q4 h1 h2
 have hz2:(cmpR p q==0)=decide (p=q):=by
  by_cases h:p=q
  ·
   rw [decide_eq_true h,(cmpR_same p q).2 h];rfl
  ·
   rw [decide_eq_false h];exact beq_eq_false_iff_ne.2 fun h2=>h ((cmpR_same p q).1 h2)
 obtain ⟨z,hz⟩:∃ z,cmpR p q=z:=⟨_,rfl⟩
 rw [← hz2]
 unfold ratV at hC ⊢
 obtain ⟨sp,hsp⟩:∃ s,decide (p.num<0)=s:=⟨_,rfl⟩
 obtain ⟨mp,hmp⟩:∃ m,p.num.natAbs=m:=⟨_,rfl⟩
 obtain ⟨sq,hsq⟩:∃ s,decide (q.num<0)=s:=⟨_,rfl⟩
 obtain ⟨mq,hmq⟩:∃ m,q.num.natAbs=m:=⟨_,rfl⟩
 obtain ⟨dp,hdp⟩:∃ m,denN p.den=m:=⟨_,rfl⟩
 obtain ⟨dq,hdq⟩:∃ m,denN q.den=m:=⟨_,rfl⟩
 rw [hsp,hmp,hdp,hsq,hmq,hdq,hz] at hC
 rw [hsp,hmp,hdp,hsq,hmq,hdq,hz]
 rw [hmp] at ha
 rw [hdp] at hb
 rw [hmq] at he
 rw [hdq] at hf
 have HC:=qH hC
 clear hC hz2 hz hsp hmp hdp hsq hmq hdq h1 h2 hK
 obtain ⟨W0,hW0⟩:∃ W0,W0=((w.alloc (.cells #[.bool sp,.slice a (lenW mp) c,.slice b (lenW dp) d] 45)).alloc (.cells #[.bool sq,.slice e (lenW mq) i,.slice f (lenW dq) g] 45)):=⟨_,rfl⟩
 have hbs:BS w [⟨w.heap.size,45,[.bool sp,.slice a (lenW mp) c,.slice b (lenW dp) d]⟩,⟨w.heap.size+1,45,[.bool sq,.slice e (lenW mq) i,.slice f (lenW dq) g]⟩] [⟨a,c,mp⟩,⟨b,d,dp⟩,⟨e,i,mq⟩,⟨f,g,dq⟩] ((w.alloc (.cells #[.bool sp,.slice a (lenW mp) c,.slice b (lenW dp) d] 45)).alloc (.cells #[.bool sq,.slice e (lenW mq) i,.slice f (lenW dq) g] 45)) :=
   (((BS.begin [⟨a,c,mp⟩,⟨b,d,dp⟩,⟨e,i,mq⟩,⟨f,g,dq⟩] (fun y hy=>by
    rcases List.mem_cons.1 hy with rfl | hy
    ·
     exact ha
    rcases List.mem_cons.1 hy with rfl | hy
    ·
     exact hb
    rcases List.mem_cons.1 hy with rfl | hy
    ·
     exact he
    rw [List.mem_singleton.1 hy];exact hf)).alloc (p:=w.heap.size) rfl 45 [.bool sp,.slice a (lenW mp) c,.slice b (lenW dp) d] rfl).alloc (p:=w.heap.size+1) (by simp) 45 [.bool sq,.slice e (lenW mq) i,.slice f (lenW dq) g] rfl)
 rw [← hW0] at hbs
 have HW0:=qH hW0
 have HN:=qH hbs
 clear hW0 hbs
 clear ha hb he hf
 go_enter Tryz.func34,Tryz.ntmps34
 go_wp2_with fail
 rw [← HW0.out]
 refine (HC.out _ (HN.out.nat 0 rfl) (HN.out.nat 1 rfl) (HN.out.nat 2 rfl) (HN.out.nat 3 rfl)).mono ?_
 rintro e w1 ⟨rfl,hb⟩
 replace HN:=qH (HN.out.call hb)
 clear hb 
 have ⟨k00,f00,k01,f01,k02,f02⟩:=HN.out.cf3 0 rfl
 have ⟨k10,f10,k11,f11,k12,f12⟩:=HN.out.cf3 1 rfl
 go_wp2_with fail
 clear k00 f00 k01 f01 k02 f02 k10 f10 k11 f11 k12 f12
 go_ret
 exact ⟨rfl,HN.out.bel⟩
end Go.Proofs.YtmhainidincjhaaGreatDoor
