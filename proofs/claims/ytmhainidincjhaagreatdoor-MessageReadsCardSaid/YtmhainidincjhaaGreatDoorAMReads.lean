/-
 The walk of the law MessageReads: what the functions answer, handed over.
 Printed by a program of this repository (wip/rf45.py).
-/
import Derived.Test.YtmhainidincjhaaGreatDoorARk
import Derived.Test.YtmhainidincjhaaGreatDoorAG
import Derived.Test.YtmhainidincjhaaGreatDoorARl
set_option linter.unusedVariables false
set_option linter.unusedSimpArgs false
set_option maxRecDepth 100000
set_option maxHeartbeats 16000000
namespace Go.Proofs.YtmhainidincjhaaGreatDoor
open Go.RowKit Go.Extern.Stop Go.Stop Go.Extern
theorem RefM.dok.below {w w':World} {x:RefM} (h:x.dok w) (hb:Below w.heap.size w w'):x.dok w':=⟨h.v.imp_right fun q=>VP.ok.below q hb,h.es.below hb,fun e he=>VP.ok.below (h.ev e he) hb⟩
def DO9 (w:World) (y:RefM):Prop:=y.dok w
theorem DO9.lt {w:World} {y:RefM} (_:DO9 w y):True:=trivial
theorem DO9.below {w w':World} {y:RefM} (h:DO9 w y) (hb:Below w.heap.size w w') (_:True:=trivial):DO9 w' y:=RefM.dok.below h hb
theorem mreads_walk (a:Option Addr) (n c:Nat) (m:Msg) (r:WS) (fe fk:Int) (pl:ByteArray) (bd:Bool) (w:World) (hc:n≤c∧c≤9223372036854775807) (hn:n≤600)
  (HAW:Hid (∀ W,Below w.heap.size w W→Calls Tryz.prog 16 #[] W (fun e w'=>e=.returned (.bool true)∧Below W.heap.size W w')))
  (HMD:Hid (∀ W,Below w.heap.size w W→Calls Tryz.prog 24 #[.slice a n c] W fun e w'=>∃ (x:MsgV) (v:Value),e=.returned (.tuple #[.agg #[.int .i64 x.verb,.string x.tk,.int .i64 x.ses,.int .i64 x.rig,.string x.ot,.int .i64 x.op,.int .i64 x.row,.int .i64 x.col,.int .i64 x.kind,.bool x.r.s,.slice x.r.a x.r.l x.r.c,.slice x.r.b x.r.m x.r.d,.slice x.ea x.en x.ec],v])∧MO w' x∧x.msg=m∧EM r w' v∧Below W.heap.size W w'))
  (HRD:Hid (∀ W,Below w.heap.size w W→Calls Tryz.prog 41 #[.slice a n c] W fun e w'=>∃ y:RefM,e=.returned (.tuple #[.agg #[.int .i64 y.verb,.int .i64 y.ses,.int .i64 y.rig,.string y.tk,.string y.ot,.int .i64 y.op,.int .i64 y.row,.int .i64 y.col,.int .i64 y.kind,.bool y.qs,.slice y.qa y.qn y.qc,.slice y.qb y.qm y.qd,.slice y.ea y.en y.ec],.int .i64 fe,.int .i64 fk])∧DO9 w' y∧y.msg=m∧Below W.heap.size W w'))
  (HLK:Hid (∀ x y W,MO W x→DO9 W y→x.msg=m→y.msg=m→Calls Tryz.prog 42 #[.agg #[.int .i64 x.verb,.string x.tk,.int .i64 x.ses,.int .i64 x.rig,.string x.ot,.int .i64 x.op,.int .i64 x.row,.int .i64 x.col,.int .i64 x.kind,.bool x.r.s,.slice x.r.a x.r.l x.r.c,.slice x.r.b x.r.m x.r.d,.slice x.ea x.en x.ec],.agg #[.int .i64 y.verb,.int .i64 y.ses,.int .i64 y.rig,.string y.tk,.string y.ot,.int .i64 y.op,.int .i64 y.row,.int .i64 y.col,.int .i64 y.kind,.bool y.qs,.slice y.qa y.qn y.qc,.slice y.qb y.qm y.qd,.slice y.ea y.en y.ec]] W (fun e w'=>e=.returned (.bool true)∧Below W.heap.size W w')))
  (HPL:Hid (∀ W,Calls Tryz.prog 23 #[.int .i64 fe] W fun e w'=>e=.returned (.string pl)∧Below W.heap.size W w'))
  (HTO:Hid (∀ v W,Below w.heap.size w W→EM r W v→Calls Tryz.prog 22 #[v,.int .i64 fe,.string pl,.int .i64 fk] W (fun e w'=>e=.returned (.bool true)∧Below W.heap.size W w')))
  (HBD:Hid (∀ v W,EM r W v→Calls Tryz.prog 40 #[v] W (fun e w'=>e=.returned (.bool bd)∧Below W.heap.size W w')))
  (HV:Hid (∀ v W,EM r W v→v=.nilIface∧bd=false∨(∃ T u,v=.iface T u)∧bd=true)) :
  Calls Tryz.prog 10 #[.slice a n c] w fun e w'=>e=.returned (.bool true)∧Below w.heap.size w w':=by
 have HN:=Lib.hid (BS.start w)
 go_enter Tryz.func10,Tryz.ntmps10
 go_wp2_with fail
 refine (HAW.out _ HN.out.bel).mono ?_
 rintro e w1 ⟨rfl,hb⟩
 replace HN:=Lib.hid (HN.out.call hb)
 clear hb 
 go_wp2_with fail
 refine (HMD.out _ HN.out.bel).mono ?_
 rintro e w70 ⟨x,v,rfl,hmo,hms,hem,hb⟩
 replace HN:=Lib.hid (HN.out.call hb)
 have HMO:=Lib.hid hmo
 have HMS:=Lib.hid hms
 have HEM:=Lib.hid hem
 clear hmo hms hem hb
 have HP:=Lib.hid (HN.out.alloc (p:=w70.heap.size) rfl 50 [.int .i64 x.verb,.string x.tk,.int .i64 x.ses,.int .i64 x.rig,.string x.ot,.int .i64 x.op,.int .i64 x.row,.int .i64 x.col,.int .i64 x.kind,.bool x.r.s,.slice x.r.a x.r.l x.r.c,.slice x.r.b x.r.m x.r.d,.slice x.ea x.en x.ec] rfl)
 have ⟨k00p,f00p,k01p,f01p,k02p,f02p,k03p,f03p,k04p,f04p,k05p,f05p,k06p,f06p,k07p,f07p,k08p,f08p,k09p,f09p,k010p,f010p,k011p,f011p,k012p,f012p⟩:=HP.out.cf13 0 rfl
 go_wp2_with fail
 clear k00p f00p k01p f01p k02p f02p k03p f03p k04p f04p k05p f05p k06p f06p k07p f07p k08p f08p k09p f09p k010p f010p k011p f011p k012p f012p HN
 have HN:=HP
 clear HP
 replace HMO:=Lib.hid (show MO (w70.alloc (.cells #[.int .i64 x.verb,.string x.tk,.int .i64 x.ses,.int .i64 x.rig,.string x.ot,.int .i64 x.op,.int .i64 x.row,.int .i64 x.col,.int .i64 x.kind,.bool x.r.s,.slice x.r.a x.r.l x.r.c,.slice x.r.b x.r.m x.r.d,.slice x.ea x.en x.ec] 50)) x from HMO.out.below (belowBox _ _) HMO.out.lt)
 replace HEM:=Lib.hid (show EM r (w70.alloc (.cells #[.int .i64 x.verb,.string x.tk,.int .i64 x.ses,.int .i64 x.rig,.string x.ot,.int .i64 x.op,.int .i64 x.row,.int .i64 x.col,.int .i64 x.kind,.bool x.r.s,.slice x.r.a x.r.l x.r.c,.slice x.r.b x.r.m x.r.d,.slice x.ea x.en x.ec] 50)) v from HEM.out.below (belowBox _ _) HEM.out.lt)
 generalize (w70.alloc (.cells #[.int .i64 x.verb,.string x.tk,.int .i64 x.ses,.int .i64 x.rig,.string x.ot,.int .i64 x.op,.int .i64 x.row,.int .i64 x.col,.int .i64 x.kind,.bool x.r.s,.slice x.r.a x.r.l x.r.c,.slice x.r.b x.r.m x.r.d,.slice x.ea x.en x.ec] 50))=wa3 at HN HMO HEM ⊢
 refine (HRD.out _ HN.out.bel).mono ?_
 rintro e w71 ⟨y,rfl,hdo,hms,hb⟩
 replace HMO:=Lib.hid (show MO w71 x from HMO.out.below hb HMO.out.lt)
 replace HEM:=Lib.hid (show EM r w71 v from HEM.out.below hb HEM.out.lt)
 replace HN:=Lib.hid (HN.out.call hb)
 have HDO:=Lib.hid hdo
 have HMY:=Lib.hid hms
 clear hdo hms hb
 have ⟨k00,f00,k01,f01,k02,f02,k03,f03,k04,f04,k05,f05,k06,f06,k07,f07,k08,f08,k09,f09,k010,f010,k011,f011,k012,f012⟩:=HN.out.cf13 0 rfl
 have l0:=HN.out.lt 0 rfl
 have HP:=Lib.hid (HN.out.alloc (p:=w71.heap.size) rfl 63 [.int .i64 y.verb,.int .i64 y.ses,.int .i64 y.rig,.string y.tk,.string y.ot,.int .i64 y.op,.int .i64 y.row,.int .i64 y.col,.int .i64 y.kind,.bool y.qs,.slice y.qa y.qn y.qc,.slice y.qb y.qm y.qd,.slice y.ea y.en y.ec] rfl)
 have ⟨k00p,f00p,k01p,f01p,k02p,f02p,k03p,f03p,k04p,f04p,k05p,f05p,k06p,f06p,k07p,f07p,k08p,f08p,k09p,f09p,k010p,f010p,k011p,f011p,k012p,f012p⟩:=HP.out.cf13 0 rfl
 have ⟨k10p,f10p,k11p,f11p,k12p,f12p,k13p,f13p,k14p,f14p,k15p,f15p,k16p,f16p,k17p,f17p,k18p,f18p,k19p,f19p,k110p,f110p,k111p,f111p,k112p,f112p⟩:=HP.out.cf13 1 rfl
 go_upto_region 7 with fail
 clear k00 f00 k01 f01 k02 f02 k03 f03 k04 f04 k05 f05 k06 f06 k07 f07 k08 f08 k09 f09 k010 f010 k011 f011 k012 f012 l0 k00p f00p k01p f01p k02p f02p k03p f03p k04p f04p k05p f05p k06p f06p k07p f07p k08p f08p k09p f09p k010p f010p k011p f011p k012p f012p k10p f10p k11p f11p k12p f12p k13p f13p k14p f14p k15p f15p k16p f16p k17p f17p k18p f18p k19p f19p k110p f110p k111p f111p k112p f112p HN
 have HN:=HP
 clear HP
 replace HMO:=Lib.hid (show MO (w71.alloc (.cells #[.int .i64 y.verb,.int .i64 y.ses,.int .i64 y.rig,.string y.tk,.string y.ot,.int .i64 y.op,.int .i64 y.row,.int .i64 y.col,.int .i64 y.kind,.bool y.qs,.slice y.qa y.qn y.qc,.slice y.qb y.qm y.qd,.slice y.ea y.en y.ec] 63)) x from HMO.out.below (belowBox _ _) HMO.out.lt)
 replace HEM:=Lib.hid (show EM r (w71.alloc (.cells #[.int .i64 y.verb,.int .i64 y.ses,.int .i64 y.rig,.string y.tk,.string y.ot,.int .i64 y.op,.int .i64 y.row,.int .i64 y.col,.int .i64 y.kind,.bool y.qs,.slice y.qa y.qn y.qc,.slice y.qb y.qm y.qd,.slice y.ea y.en y.ec] 63)) v from HEM.out.below (belowBox _ _) HEM.out.lt)
 replace HDO:=Lib.hid (show DO9 (w71.alloc (.cells #[.int .i64 y.verb,.int .i64 y.ses,.int .i64 y.rig,.string y.tk,.string y.ot,.int .i64 y.op,.int .i64 y.row,.int .i64 y.col,.int .i64 y.kind,.bool y.qs,.slice y.qa y.qn y.qc,.slice y.qb y.qm y.qd,.slice y.ea y.en y.ec] 63)) y from HDO.out.below (belowBox _ _) HDO.out.lt)
 generalize (w71.alloc (.cells #[.int .i64 y.verb,.int .i64 y.ses,.int .i64 y.rig,.string y.tk,.string y.ot,.int .i64 y.op,.int .i64 y.row,.int .i64 y.col,.int .i64 y.kind,.bool y.qs,.slice y.qa y.qn y.qc,.slice y.qb y.qm y.qd,.slice y.ea y.en y.ec] 63))=wa5 at HN HMO HEM HDO ⊢
 rcases HV.out v _ HEM.out with ⟨rfl,hbd⟩ | ⟨⟨T,u,rfl⟩,hbd⟩
 all_goals
  subst hbd
  replace HMO:=Lib.hid (show MO wa5.drew x from HMO.out.below (Below.refl _ _).drew HMO.out.lt)
  replace HEM:=Lib.hid (show EM r wa5.drew _ from HEM.out.below (Below.refl _ _).drew HEM.out.lt)
  replace HDO:=Lib.hid (show DO9 wa5.drew y from HDO.out.below (Below.refl _ _).drew HDO.out.lt)
  replace HN:=Lib.hid HN.out.drew
  refine wp_region_held_drew (S:=fun W=>W.cell? ⟨w70.heap.size,0,none⟩=some (.int .i64 x.verb)∧W.cell? ⟨w70.heap.size,1,none⟩=some (.string x.tk)∧W.cell? ⟨w70.heap.size,2,none⟩=some (.int .i64 x.ses)∧W.cell? ⟨w70.heap.size,3,none⟩=some (.int .i64 x.rig)∧W.cell? ⟨w70.heap.size,4,none⟩=some (.string x.ot)∧W.cell? ⟨w70.heap.size,5,none⟩=some (.int .i64 x.op)∧W.cell? ⟨w70.heap.size,6,none⟩=some (.int .i64 x.row)∧W.cell? ⟨w70.heap.size,7,none⟩=some (.int .i64 x.col)∧W.cell? ⟨w70.heap.size,8,none⟩=some (.int .i64 x.kind)∧W.cell? ⟨w70.heap.size,9,none⟩=some (.bool x.r.s)∧W.cell? ⟨w70.heap.size,10,none⟩=some (.slice x.r.a x.r.l x.r.c)∧W.cell? ⟨w70.heap.size,11,none⟩=some (.slice x.r.b x.r.m x.r.d)∧W.cell? ⟨w70.heap.size,12,none⟩=some (.slice x.ea x.en x.ec)∧W.cell? ⟨w71.heap.size,0,none⟩=some (.int .i64 y.verb)∧W.cell? ⟨w71.heap.size,1,none⟩=some (.int .i64 y.ses)∧W.cell? ⟨w71.heap.size,2,none⟩=some (.int .i64 y.rig)∧W.cell? ⟨w71.heap.size,3,none⟩=some (.string y.tk)∧W.cell? ⟨w71.heap.size,4,none⟩=some (.string y.ot)∧W.cell? ⟨w71.heap.size,5,none⟩=some (.int .i64 y.op)∧W.cell? ⟨w71.heap.size,6,none⟩=some (.int .i64 y.row)∧W.cell? ⟨w71.heap.size,7,none⟩=some (.int .i64 y.col)∧W.cell? ⟨w71.heap.size,8,none⟩=some (.int .i64 y.kind)∧W.cell? ⟨w71.heap.size,9,none⟩=some (.bool y.qs)∧W.cell? ⟨w71.heap.size,10,none⟩=some (.slice y.qa y.qn y.qc)∧W.cell? ⟨w71.heap.size,11,none⟩=some (.slice y.qb y.qm y.qd)∧W.cell? ⟨w71.heap.size,12,none⟩=some (.slice y.ea y.en y.ec)) (by kernel_rfl) (⟨HN.out.cell 0 0 rfl rfl,HN.out.cell 0 1 rfl rfl,HN.out.cell 0 2 rfl rfl,HN.out.cell 0 3 rfl rfl,HN.out.cell 0 4 rfl rfl,HN.out.cell 0 5 rfl rfl,HN.out.cell 0 6 rfl rfl,HN.out.cell 0 7 rfl rfl,HN.out.cell 0 8 rfl rfl,HN.out.cell 0 9 rfl rfl,HN.out.cell 0 10 rfl rfl,HN.out.cell 0 11 rfl rfl,HN.out.cell 0 12 rfl rfl,HN.out.cell 1 0 rfl rfl,HN.out.cell 1 1 rfl rfl,HN.out.cell 1 2 rfl rfl,HN.out.cell 1 3 rfl rfl,HN.out.cell 1 4 rfl rfl,HN.out.cell 1 5 rfl rfl,HN.out.cell 1 6 rfl rfl,HN.out.cell 1 7 rfl rfl,HN.out.cell 1 8 rfl rfl,HN.out.cell 1 9 rfl rfl,HN.out.cell 1 10 rfl rfl,HN.out.cell 1 11 rfl rfl,HN.out.cell 1 12 rfl rfl⟩) (fun hHeld=>?_)
  generalize wa5.drew=wd at HN HMO HEM HDO hHeld ⊢
  refine tl 0 (some 24) ?_
  refine tl 1 (some 25) ?_
  have tg:=Mk.mk (v:=0) (d:=0)
  iterate 4
   all_goals first
   |
    have _:Mk _ 0:=tg
    refine wpAnyH_ready (rs:=[2]) (by kernel_rfl) (by simp) (AllReadyH.cons rfl (fun K hK=>cT 0 1 fun tg=>?_) AllReadyH.nil)
   |
    have _:Mk _ 1:=tg
    refine wpAnyH_ready (rs:=[7]) (by kernel_rfl) (by simp) (AllReadyH.cons rfl (fun K hK=>cT 1 2 fun tg=>?_) AllReadyH.nil)
   |
    have _:Mk _ 2:=tg
    refine wpAnyH_ready (rs:=[9]) (by kernel_rfl) (by simp) (AllReadyH.cons rfl (fun K hK=>cT 2 3 fun tg=>?_) AllReadyH.nil)
   |
    have _:Mk _ 3:=tg
    refine wpAnyH_ready (rs:=[13]) (by kernel_rfl) (by simp) (AllReadyH.cons rfl (fun K hK=>cT 3 4 fun tg=>?_) AllReadyH.nil)
   all_goals first
   |
    have _:Mk 0 _:=tg
    go_simp
    refine (HLK.out _ _ _ HMO.out HDO.out HMS.out HMY.out).mono ?_
    rintro e wd ⟨rfl,hb⟩
    replace HMO:=Lib.hid (show MO wd x from HMO.out.below hb HMO.out.lt)
    replace HEM:=Lib.hid (show EM r wd _ from HEM.out.below hb HEM.out.lt)
    replace HDO:=Lib.hid (show DO9 wd y from HDO.out.below hb HDO.out.lt)
    replace HN:=Lib.hid (HN.out.call hb)
    clear hb 
    go_wp2_with fail
    refine hK.out _ _ (⟨HN.out.cell 0 0 rfl rfl,HN.out.cell 0 1 rfl rfl,HN.out.cell 0 2 rfl rfl,HN.out.cell 0 3 rfl rfl,HN.out.cell 0 4 rfl rfl,HN.out.cell 0 5 rfl rfl,HN.out.cell 0 6 rfl rfl,HN.out.cell 0 7 rfl rfl,HN.out.cell 0 8 rfl rfl,HN.out.cell 0 9 rfl rfl,HN.out.cell 0 10 rfl rfl,HN.out.cell 0 11 rfl rfl,HN.out.cell 0 12 rfl rfl,HN.out.cell 1 0 rfl rfl,HN.out.cell 1 1 rfl rfl,HN.out.cell 1 2 rfl rfl,HN.out.cell 1 3 rfl rfl,HN.out.cell 1 4 rfl rfl,HN.out.cell 1 5 rfl rfl,HN.out.cell 1 6 rfl rfl,HN.out.cell 1 7 rfl rfl,HN.out.cell 1 8 rfl rfl,HN.out.cell 1 9 rfl rfl,HN.out.cell 1 10 rfl rfl,HN.out.cell 1 11 rfl rfl,HN.out.cell 1 12 rfl rfl⟩) (fun hHeld2=>?_)
    clear hK K hHeld
    rename _=>hHeld
    try simp only [Act.put,stB,stZ,stS]
    refine tm 3 (some 27) ?_
    refine tm 4 (some 28) ?_
    refine tm 5 (some 29) ?_
    refine tm 6 (some 30) ?_
    refine tm 8 (some 32) ?_
   |
    have _:Mk 1 _:=tg
    go_simp
    refine (HPL.out _).mono ?_
    rintro e wd ⟨rfl,hb⟩
    replace HMO:=Lib.hid (show MO wd x from HMO.out.below hb HMO.out.lt)
    replace HEM:=Lib.hid (show EM r wd _ from HEM.out.below hb HEM.out.lt)
    replace HDO:=Lib.hid (show DO9 wd y from HDO.out.below hb HDO.out.lt)
    replace HN:=Lib.hid (HN.out.call hb)
    clear hb 
    go_wp2_with fail
    refine hK.out _ _ (⟨HN.out.cell 0 0 rfl rfl,HN.out.cell 0 1 rfl rfl,HN.out.cell 0 2 rfl rfl,HN.out.cell 0 3 rfl rfl,HN.out.cell 0 4 rfl rfl,HN.out.cell 0 5 rfl rfl,HN.out.cell 0 6 rfl rfl,HN.out.cell 0 7 rfl rfl,HN.out.cell 0 8 rfl rfl,HN.out.cell 0 9 rfl rfl,HN.out.cell 0 10 rfl rfl,HN.out.cell 0 11 rfl rfl,HN.out.cell 0 12 rfl rfl,HN.out.cell 1 0 rfl rfl,HN.out.cell 1 1 rfl rfl,HN.out.cell 1 2 rfl rfl,HN.out.cell 1 3 rfl rfl,HN.out.cell 1 4 rfl rfl,HN.out.cell 1 5 rfl rfl,HN.out.cell 1 6 rfl rfl,HN.out.cell 1 7 rfl rfl,HN.out.cell 1 8 rfl rfl,HN.out.cell 1 9 rfl rfl,HN.out.cell 1 10 rfl rfl,HN.out.cell 1 11 rfl rfl,HN.out.cell 1 12 rfl rfl⟩) (fun hHeld2=>?_)
    clear hK K hHeld
    rename _=>hHeld
    try simp only [Act.put,stB,stZ,stS]
   |
    have _:Mk 2 _:=tg
    go_simp
    refine (HTO.out _ _ HN.out.bel HEM.out).mono ?_
    rintro e wd ⟨rfl,hb⟩
    replace HMO:=Lib.hid (show MO wd x from HMO.out.below hb HMO.out.lt)
    replace HEM:=Lib.hid (show EM r wd _ from HEM.out.below hb HEM.out.lt)
    replace HDO:=Lib.hid (show DO9 wd y from HDO.out.below hb HDO.out.lt)
    replace HN:=Lib.hid (HN.out.call hb)
    clear hb 
    go_wp2_with fail
    refine hK.out _ _ (⟨HN.out.cell 0 0 rfl rfl,HN.out.cell 0 1 rfl rfl,HN.out.cell 0 2 rfl rfl,HN.out.cell 0 3 rfl rfl,HN.out.cell 0 4 rfl rfl,HN.out.cell 0 5 rfl rfl,HN.out.cell 0 6 rfl rfl,HN.out.cell 0 7 rfl rfl,HN.out.cell 0 8 rfl rfl,HN.out.cell 0 9 rfl rfl,HN.out.cell 0 10 rfl rfl,HN.out.cell 0 11 rfl rfl,HN.out.cell 0 12 rfl rfl,HN.out.cell 1 0 rfl rfl,HN.out.cell 1 1 rfl rfl,HN.out.cell 1 2 rfl rfl,HN.out.cell 1 3 rfl rfl,HN.out.cell 1 4 rfl rfl,HN.out.cell 1 5 rfl rfl,HN.out.cell 1 6 rfl rfl,HN.out.cell 1 7 rfl rfl,HN.out.cell 1 8 rfl rfl,HN.out.cell 1 9 rfl rfl,HN.out.cell 1 10 rfl rfl,HN.out.cell 1 11 rfl rfl,HN.out.cell 1 12 rfl rfl⟩) (fun hHeld2=>?_)
    clear hK K hHeld
    rename _=>hHeld
    try simp only [Act.put,stB,stZ,stS]
    refine tm 10 (some 34) ?_
    refine tm 11 (some 35) ?_
    refine tm 12 (some 36) ?_
    refine tm 14 (some 38) ?_
    refine tm 15 (some 39) ?_
   |
    have _:Mk 3 _:=tg
    go_simp
    refine (HBD.out _ _ HEM.out).mono ?_
    rintro e wd ⟨rfl,hb⟩
    replace HMO:=Lib.hid (show MO wd x from HMO.out.below hb HMO.out.lt)
    replace HEM:=Lib.hid (show EM r wd _ from HEM.out.below hb HEM.out.lt)
    replace HDO:=Lib.hid (show DO9 wd y from HDO.out.below hb HDO.out.lt)
    replace HN:=Lib.hid (HN.out.call hb)
    clear hb 
    go_wp2_with fail
    refine hK.out _ _ (⟨HN.out.cell 0 0 rfl rfl,HN.out.cell 0 1 rfl rfl,HN.out.cell 0 2 rfl rfl,HN.out.cell 0 3 rfl rfl,HN.out.cell 0 4 rfl rfl,HN.out.cell 0 5 rfl rfl,HN.out.cell 0 6 rfl rfl,HN.out.cell 0 7 rfl rfl,HN.out.cell 0 8 rfl rfl,HN.out.cell 0 9 rfl rfl,HN.out.cell 0 10 rfl rfl,HN.out.cell 0 11 rfl rfl,HN.out.cell 0 12 rfl rfl,HN.out.cell 1 0 rfl rfl,HN.out.cell 1 1 rfl rfl,HN.out.cell 1 2 rfl rfl,HN.out.cell 1 3 rfl rfl,HN.out.cell 1 4 rfl rfl,HN.out.cell 1 5 rfl rfl,HN.out.cell 1 6 rfl rfl,HN.out.cell 1 7 rfl rfl,HN.out.cell 1 8 rfl rfl,HN.out.cell 1 9 rfl rfl,HN.out.cell 1 10 rfl rfl,HN.out.cell 1 11 rfl rfl,HN.out.cell 1 12 rfl rfl⟩) (fun hHeld2=>?_)
    clear hK K hHeld
    rename _=>hHeld
    try simp only [Act.put,stB,stZ,stS]
    refine tm 16 (some 40) ?_
    refine tm 17 (some 41) ?_
    refine tm 18 (some 2) ?_
  all_goals (refine wpAnyH_done (by kernel_rfl) ?_ _)
  all_goals
   go_wp2_with fail
   refine bodyPost_ret (v:=.bool true) (by simp [results,Tryz.results10,go_sem]) rfl ?_
   exact ⟨rfl,HN.out.bel⟩
theorem mreads_long (a:Option Addr) (n c:Nat) (w:World) (hc:n≤c∧c≤9223372036854775807) (hn:600<n)
  (HAW:Hid (∀ W,Below w.heap.size w W→Calls Tryz.prog 16 #[] W (fun e w'=>e=.returned (.bool true)∧Below W.heap.size W w'))) :
  Calls Tryz.prog 10 #[.slice a n c] w fun e w'=>e=.returned (.bool true)∧Below w.heap.size w w':=by
 have HN:=Lib.hid (BS.start w)
 go_enter Tryz.func10,Tryz.ntmps10
 go_wp2_with fail
 refine (HAW.out _ HN.out.bel).mono ?_
 rintro e w1 ⟨rfl,hb⟩
 replace HN:=Lib.hid (HN.out.call hb)
 clear hb 
 have HE:=Lib.hid (HN.out)
 go_wp2_with fail
 refine bodyPost_ret (v:=.bool true) (by simp [results,Tryz.results10,go_sem,]) rfl ?_
 exact ⟨rfl,HE.out.bel⟩
end Go.Proofs.YtmhainidincjhaaGreatDoor
