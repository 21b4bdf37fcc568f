/-
 MessageAny: for every input of the bulk that the row names the call returns true and every argument reads as before; the condition: the package variable errors.errorType holds what the program's text lays (tied).
-/
import Derived.Test.YtmhainidincjhaaGreatDoorKMAny2
import Derived.Test.YtmhainidincjhaaGreatDoorKO
import Derived.Test.YtmhainidincjhaaGreatDoorCards
import Derived.Test.YtmhainidincjhaaGreatDoorTie
import Derived.OpenShut
import Derived.Lib.SmallJoins
set_option linter.unusedVariables false
set_option linter.unusedSimpArgs false
set_option maxRecDepth 100000
set_option maxHeartbeats 16000000
namespace Go.Proofs.YtmhainidincjhaaGreatDoor.lawMessageAny
open Go.ChangeShapes Go.WideShapes Go.ChangeAt Go.RowKit Go.Joins
theorem params_ok:∀ t,t∈Tryz.f14.params.toList→Tryz.prog.readableRec t=true∧t<Tryz.prog.types.size:=by
 intro t ht
 rw [Tryz.params14] at ht
 simp at ht
 rcases ht with rfl | rfl | rfl
 all_goals exact ⟨by kernel_rfl,of_decide_eq_true (by kernel_rfl)⟩
theorem contract (H:Type) (enc:TypeId × Value→H) (W:World) (base:Nat) (args:Array Value) (ds gs:List (DataW H)) (before:List MemPlace)
  (hval:∀ (j:Nat) t v,Tryz.f14.params[j]?=some t→args[j]?=some v→Value.okWide Tryz.prog W .any base t v)
  (hW:DataW.Whole enc Tryz.prog Tryz.f14.params.toList Rows.messageAnySpec.vars false W args.toList ds gs before) (hk:Rows.uptoSmall H (ds++gs)=true) (hL:laidMetH Tryz.prog Rows.messageAnyUptoRow.laid W) :
  Calls Tryz.prog 14 args W fun e W'=>∃ v,e=.returned v∧Rows.messageAnySpec.post enc Tryz.prog Tryz.f14 false true false false W args v W':=by
 have hW':=hW
 obtain ⟨p,q,hA0,hV,rfl,hfz,hnd⟩:=hW
 have hA:DataW.TrodAll enc Tryz.prog W 0 (fun _=>true) true Tryz.f14.params.toList args.toList ds p:=hA0
 rw [Tryz.params14] at hA hval
 obtain ⟨rfl,rfl⟩:=trodVars_none hV
 have hg:Hg W:=handle_of_laid hL
 obtain ⟨v0,vs0,d0,ds0,p0,q0,hargs0,rfl,rfl,h0,r0⟩:=trodAll_cons hA
 obtain ⟨v1,vs1,d1,ds1,p1,q1,hargs1,rfl,rfl,h1,r1⟩:=trodAll_cons r0
 obtain ⟨v2,vs2,d2,ds2,p2,q2,hargs2,rfl,rfl,h2,r2⟩:=trodAll_cons r1
 obtain ⟨hn,rfl,rfl⟩:=trodAll_nil r2
 obtain rfl:args=#[v0,v1,v2]:=by cases args;simp_all
 clear hA0 hargs0 hargs1 hargs2 hn
 obtain ⟨a0,n0,c0,l0,rfl,hb0,hx0,hu0⟩:=bytesN_open (hval 0 32 v0 rfl rfl) h0
 obtain ⟨x1,rfl,hw1⟩:=told_open (hval 1 112 v1 rfl rfl) h1
 obtain ⟨i2,rfl,rfl,rfl,w2⟩:=open_int Tryz.underlying94 (hval 2 94 v2 rfl rfl) h2
 have w2:=lit_u16 w2
 have hfn:∀ (es:List (DataW H)),Rows.messageAnySpec.fn H (es++[])=Rows.messageAnySpec.fn H es:=fun es=>by rw [List.append_nil]
 refine (many_any x1 a0 n0 c0 l0 i2 W hg (hw1 (by have h:=bulks.bound hk;simp only [bulks.append,Rows.uptoBulkAll,bulks.string_eq,Array.length_toList,ByteArray.size_data] at h;omega)) hb0 hx0 (by have h:=bulks.bound hk;simp only [bulks.append,Rows.uptoBulkAll,bulks.string_eq,Array.length_toList,ByteArray.size_data] at h;omega) w2.1 w2.2).mono fun e W' ⟨he,hb⟩=>⟨_,he,law_post laidOut params_ok (by kernel_rfl) Tryz.underlying4 rfl hW' ((hfn _).trans rfl) hb⟩
theorem reads (os:Os) {H:Type} (enc:TypeId × Value→H):∃ places,DataW.whole enc Tryz.prog ((laidWorld os).forCall (fun _ _=>0) ⟨#[],#[.slice none 0 0,.agg #[.int .i64 0,.int .i64 0,.int .i64 0,.int .i64 0,.int .i64 0,.string ⟨#[]⟩,.string ⟨#[]⟩,.int .i64 0,.int .i64 0,.int .i64 0,.int .u8 0,.bool false,.slice none 0 0,.slice none 0 0,.slice none 0 0,.bool false,.bool false],.int .u16 0],[]⟩).memory Tryz.f14.params.toList Rows.messageAnySpec.vars false #[.slice none 0 0,.agg #[.int .i64 0,.int .i64 0,.int .i64 0,.int .i64 0,.int .i64 0,.string ⟨#[]⟩,.string ⟨#[]⟩,.int .i64 0,.int .i64 0,.int .i64 0,.int .u8 0,.bool false,.slice none 0 0,.slice none 0 0,.slice none 0 0,.bool false,.bool false],.int .u16 0].toList 8=some ([.nil,.agg [.lit (.int .i64 0),.lit (.int .i64 0),.lit (.int .i64 0),.lit (.int .i64 0),.lit (.int .i64 0),.lit (.string []),.lit (.string []),.agg [.lit (.int .i64 0),.lit (.int .i64 0),.lit (.int .i64 0)],.lit (.int .u8 0),.agg [.agg [.lit (.bool false),.nil],.nil],.nil,.agg [.lit (.bool false),.lit (.bool false)]],.lit (.int .u16 0)],[],places) :=
 ⟨[],by kernel_rfl⟩
theorem lifted (os:Os) (started:os.Started) (H:Type) (enc:TypeId × Value→H) (F:Stop.Interp) :
  ReturnsInHanded {} Tryz.checked os 14 .any ((Rows.OpenSpec.upto Rows.messageAnySpec).preRow enc Tryz.prog Tryz.f14 Rows.messageAnyUptoRow.domain false Rows.messageAnyUptoRow.laid) (((Rows.OpenSpec.upto Rows.messageAnySpec).at F).post enc Tryz.prog Tryz.f14 false true false false):=by
 obtain ⟨places,hx⟩:=reads os enc
 refine returnsInHanded_of_row (C:=Tryz.checked) (s:=(Rows.OpenSpec.upto Rows.messageAnySpec)) own started (by kernel_rfl) Tryz.func14
  (witness_row_at (enc:=enc) (C:=Tryz.checked) false (laidWorld os) #[.slice none 0 0,.agg #[.int .i64 0,.int .i64 0,.int .i64 0,.int .i64 0,.int .i64 0,.string ⟨#[]⟩,.string ⟨#[]⟩,.int .i64 0,.int .i64 0,.int .i64 0,.int .u8 0,.bool false,.slice none 0 0,.slice none 0 0,.slice none 0 0,.bool false,.bool false],.int .u16 0] rfl (by kernel_rfl) (by kernel_rfl) (by kernel_rfl)
   (OpenSpec.preRow_of_cond 8 hx (by kernel_rfl) (fun k hk=>by cases hk;kernel_rfl) (by kernel_rfl) (laid_met os _))) ?_
 intro W base args ds gs before hval hW _ hcond hsz hL _ _
 exact contract H enc W base args ds gs before hval hW (hcond _ rfl) hL
theorem f_inPlace:(Rows.messageAnyUptoRow.inPlace==Tryz.prog.inPlace 14)=true:=by kernel_rfl
theorem f_unfollowed:(Rows.messageAnyUptoRow.unfollowed==Tryz.prog.unfollowed 14)=true:=by kernel_rfl
theorem f_recurses:(Rows.messageAnyUptoRow.recurses==Tryz.prog.recurses 14)=true:=by kernel_rfl
theorem f_named:(Rows.messageAnyUptoRow.named==Tryz.prog.varsNamed 14)=true:=by kernel_rfl
theorem closed:joinedFacts Tryz.prog 14 Tryz.f14 (Rows.OpenSpec.upto Rows.messageAnySpec).bare Rows.messageAnyUptoRow=true:=by
 unfold joinedFacts
 rw [f_inPlace,f_unfollowed,f_recurses,f_named]
 kernel_rfl
theorem said:Rows.MessageAnyUptoSaid :=
 OpenClaim.holds_of_cond 14 Tryz.f14 rfl rfl rfl rfl rfl rfl rfl ⟨rfl,rfl,rfl,rfl,rfl⟩ rfl rfl rfl rfl rfl (by kernel_rfl) Tryz.func14 closed
  (of_decide_eq_true (by kernel_rfl)) (by unfold Func.isWrapper;rw [if_neg (of_decide_eq_false (by kernel_rfl))];exact ⟨rfl,rfl⟩)
  (fun os started H enc _ F=>by rw [OpenClaim.pre_eq_preRow];exact lifted os started H enc F)
theorem plain (f:FuncId) (fn:Func) (hf:Tryz.pinned.checked.prog.funcNamed "actuary/actuarylaw27.MessageAny" = some f) (hfn:Tryz.pinned.checked.prog.funcs[f]?=some fn) :
  true=Tryz.pinned.checked.prog.looks []∧∀ (j:Nat) t,fn.params[j]?=some t→Tryz.pinned.checked.prog.wantsStandIn t=false:=by
 obtain rfl:f=14:=Option.some.inj ((show Tryz.prog.funcNamed "actuary/actuarylaw27.MessageAny" = some 14 by kernel_rfl).symm.trans hf) |>.symm
 obtain rfl:fn=Tryz.f14:=(Option.some.inj (Tryz.func14.symm.trans hfn)).symm
 refine ⟨by kernel_rfl,fun j t ht=>?_⟩
 rw [Tryz.params14] at ht
 have hm:=Array.mem_of_getElem? ht
 simp at hm
 rcases hm with rfl | rfl | rfl
 ·
  exact (show Tryz.prog.wantsStandIn 32=false by kernel_rfl)
 ·
  exact (show Tryz.prog.wantsStandIn 112=false by kernel_rfl)
 ·
  exact (show Tryz.prog.wantsStandIn 94=false by kernel_rfl)
theorem card:Rows.MessageAnyUptoCardSaid :=
 Claim7.holds_tied_plain_at .later [] _ _ _ _ said (fun _ h=>by cases h) (by kernel_rfl) (fun _ h=>by cases h) messageAnyUpto_row_tie rfl ⟨rfl,rfl⟩ (by kernel_rfl) rfl plain (by kernel_rfl)
#print axioms card
end Go.Proofs.YtmhainidincjhaaGreatDoor.lawMessageAny
