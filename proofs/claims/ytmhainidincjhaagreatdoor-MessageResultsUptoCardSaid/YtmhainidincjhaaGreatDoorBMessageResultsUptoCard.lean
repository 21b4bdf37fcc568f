/-
 MessageResults: for every input of the bulk that the row names the call returns true and every argument reads as before; the condition: the package variable errors.errorType holds what the program's text lays (tied).
-/
import Derived.Test.YtmhainidincjhaaGreatDoorBMRes2
import Derived.Test.YtmhainidincjhaaGreatDoorBO
import Derived.Test.YtmhainidincjhaaGreatDoorCards
import Derived.Test.YtmhainidincjhaaGreatDoorTie
import Derived.OpenShut
import Derived.Lib.SmallJoins
set_option linter.unusedVariables false
set_option linter.unusedSimpArgs false
set_option maxRecDepth 100000
set_option maxHeartbeats 16000000
namespace Go.Proofs.YtmhainidincjhaaGreatDoor.lawMessageResults
open Go.ChangeShapes Go.WideShapes Go.ChangeAt Go.RowKit Go.Joins
theorem params_ok:∀ t,t∈Tryz.f15.params.toList→Tryz.prog.readableRec t=true∧t<Tryz.prog.types.size:=by
 intro t ht
 rw [Tryz.params15] at ht
 simp at ht
 subst ht
 exact ⟨by kernel_rfl,of_decide_eq_true (by kernel_rfl)⟩
theorem contract (H:Type) (enc:TypeId × Value→H) (W:World) (base:Nat) (args:Array Value) (ds gs:List (DataW H)) (before:List MemPlace)
  (hval:∀ (j:Nat) t v,Tryz.f15.params[j]?=some t→args[j]?=some v→Value.okWide Tryz.prog W .any base t v)
  (hW:DataW.Whole enc Tryz.prog Tryz.f15.params.toList Rows.messageResultsSpec.vars false W args.toList ds gs before) (hk:Rows.uptoSmall H (ds++gs)=true) (hL:laidMetH Tryz.prog Rows.messageResultsUptoRow.laid W) :
  Calls Tryz.prog 15 args W fun e W'=>∃ v,e=.returned v∧Rows.messageResultsSpec.post enc Tryz.prog Tryz.f15 false true false false W args v W':=by
 have hW':=hW
 obtain ⟨p,q,hA0,hV,rfl,hfz,hnd⟩:=hW
 have hA:DataW.TrodAll enc Tryz.prog W 0 (fun _=>true) true Tryz.f15.params.toList args.toList ds p:=hA0
 rw [Tryz.params15] at hA hval
 obtain ⟨rfl,rfl⟩:=trodVars_none hV
 have hg:Hg W:=handle_of_laid hL
 obtain ⟨v0,vs0,d0,ds0,p0,q0,hargs0,rfl,rfl,h0,r0⟩:=trodAll_cons hA
 obtain ⟨v1,vs1,d1,ds1,p1,q1,hargs1,rfl,rfl,h1,r1⟩:=trodAll_cons r0
 obtain ⟨hn,rfl,rfl⟩:=trodAll_nil r1
 obtain rfl:args=#[v0,v1]:=by cases args;simp_all
 clear hA0 hargs0 hargs1 hn
 obtain ⟨x0,rfl,hw0⟩:=told_open (hval 0 112 v0 rfl rfl) h0
 obtain ⟨x1,rfl,hw1⟩:=told_open (hval 1 112 v1 rfl rfl) h1
 have hfn:∀ (es:List (DataW H)),Rows.messageResultsSpec.fn H (es++[])=Rows.messageResultsSpec.fn H es:=fun es=>by rw [List.append_nil]
 refine (mres_any x0 x1 W hg (hw0 (by have h:=bulks.bound hk;simp only [bulks.append,Rows.uptoBulkAll,bulks.string_eq,Array.length_toList,ByteArray.size_data] at h;omega)) (hw1 (by have h:=bulks.bound hk;simp only [bulks.append,Rows.uptoBulkAll,bulks.string_eq,Array.length_toList,ByteArray.size_data] at h;omega))).mono fun e W' ⟨he,hb⟩=>⟨_,he,law_post laidOut params_ok (by kernel_rfl) Tryz.underlying4 rfl hW' ((hfn _).trans rfl) hb⟩
theorem reads (os:Os) {H:Type} (enc:TypeId × Value→H):∃ places,DataW.whole enc Tryz.prog ((laidWorld os).forCall (fun _ _=>0) ⟨#[],#[.agg #[.int .i64 0,.int .i64 0,.int .i64 0,.int .i64 0,.int .i64 0,.string ⟨#[]⟩,.string ⟨#[]⟩,.int .i64 0,.int .i64 0,.int .i64 0,.int .u8 0,.bool false,.slice none 0 0,.slice none 0 0,.slice none 0 0,.bool false,.bool false],.agg #[.int .i64 0,.int .i64 0,.int .i64 0,.int .i64 0,.int .i64 0,.string ⟨#[]⟩,.string ⟨#[]⟩,.int .i64 0,.int .i64 0,.int .i64 0,.int .u8 0,.bool false,.slice none 0 0,.slice none 0 0,.slice none 0 0,.bool false,.bool false]],[]⟩).memory Tryz.f15.params.toList Rows.messageResultsSpec.vars false #[.agg #[.int .i64 0,.int .i64 0,.int .i64 0,.int .i64 0,.int .i64 0,.string ⟨#[]⟩,.string ⟨#[]⟩,.int .i64 0,.int .i64 0,.int .i64 0,.int .u8 0,.bool false,.slice none 0 0,.slice none 0 0,.slice none 0 0,.bool false,.bool false],.agg #[.int .i64 0,.int .i64 0,.int .i64 0,.int .i64 0,.int .i64 0,.string ⟨#[]⟩,.string ⟨#[]⟩,.int .i64 0,.int .i64 0,.int .i64 0,.int .u8 0,.bool false,.slice none 0 0,.slice none 0 0,.slice none 0 0,.bool false,.bool false]].toList 8=some ([.agg [.lit (.int .i64 0),.lit (.int .i64 0),.lit (.int .i64 0),.lit (.int .i64 0),.lit (.int .i64 0),.lit (.string []),.lit (.string []),.agg [.lit (.int .i64 0),.lit (.int .i64 0),.lit (.int .i64 0)],.lit (.int .u8 0),.agg [.agg [.lit (.bool false),.nil],.nil],.nil,.agg [.lit (.bool false),.lit (.bool false)]],.agg [.lit (.int .i64 0),.lit (.int .i64 0),.lit (.int .i64 0),.lit (.int .i64 0),.lit (.int .i64 0),.lit (.string []),.lit (.string []),.agg [.lit (.int .i64 0),.lit (.int .i64 0),.lit (.int .i64 0)],.lit (.int .u8 0),.agg [.agg [.lit (.bool false),.nil],.nil],.nil,.agg [.lit (.bool false),.lit (.bool false)]]],[],places) :=
 ⟨[],by kernel_rfl⟩
theorem lifted (os:Os) (started:os.Started) (H:Type) (enc:TypeId × Value→H) (F:Stop.Interp) :
  ReturnsInHanded {} Tryz.checked os 15 .any ((Rows.OpenSpec.upto Rows.messageResultsSpec).preRow enc Tryz.prog Tryz.f15 Rows.messageResultsUptoRow.domain false Rows.messageResultsUptoRow.laid) (((Rows.OpenSpec.upto Rows.messageResultsSpec).at F).post enc Tryz.prog Tryz.f15 false true false false):=by
 obtain ⟨places,hx⟩:=reads os enc
 refine returnsInHanded_of_row (C:=Tryz.checked) (s:=(Rows.OpenSpec.upto Rows.messageResultsSpec)) own started (by kernel_rfl) Tryz.func15
  (witness_row_at (enc:=enc) (C:=Tryz.checked) false (laidWorld os) #[.agg #[.int .i64 0,.int .i64 0,.int .i64 0,.int .i64 0,.int .i64 0,.string ⟨#[]⟩,.string ⟨#[]⟩,.int .i64 0,.int .i64 0,.int .i64 0,.int .u8 0,.bool false,.slice none 0 0,.slice none 0 0,.slice none 0 0,.bool false,.bool false],.agg #[.int .i64 0,.int .i64 0,.int .i64 0,.int .i64 0,.int .i64 0,.string ⟨#[]⟩,.string ⟨#[]⟩,.int .i64 0,.int .i64 0,.int .i64 0,.int .u8 0,.bool false,.slice none 0 0,.slice none 0 0,.slice none 0 0,.bool false,.bool false]] rfl (by kernel_rfl) (by kernel_rfl) (by kernel_rfl)
   (OpenSpec.preRow_of_cond 8 hx (by kernel_rfl) (fun k hk=>by cases hk;kernel_rfl) (by kernel_rfl) (laid_met os _))) ?_
 intro W base args ds gs before hval hW _ hcond hsz hL _ _
 exact contract H enc W base args ds gs before hval hW (hcond _ rfl) hL
theorem f_inPlace:(Rows.messageResultsUptoRow.inPlace==Tryz.prog.inPlace 15)=true:=by kernel_rfl
theorem f_unfollowed:(Rows.messageResultsUptoRow.unfollowed==Tryz.prog.unfollowed 15)=true:=by kernel_rfl
theorem f_recurses:(Rows.messageResultsUptoRow.recurses==Tryz.prog.recurses 15)=true:=by kernel_rfl
theorem f_named:(Rows.messageResultsUptoRow.named==Tryz.prog.varsNamed 15)=true:=by kernel_rfl
theorem closed:joinedFacts Tryz.prog 15 Tryz.f15 (Rows.OpenSpec.upto Rows.messageResultsSpec).bare Rows.messageResultsUptoRow=true:=by
 unfold joinedFacts
 rw [f_inPlace,f_unfollowed,f_recurses,f_named]
 kernel_rfl
theorem said:Rows.MessageResultsUptoSaid :=
 OpenClaim.holds_of_cond 15 Tryz.f15 rfl rfl rfl rfl rfl rfl rfl ⟨rfl,rfl,rfl,rfl,rfl⟩ rfl rfl rfl rfl rfl (by kernel_rfl) Tryz.func15 closed
  (of_decide_eq_true (by kernel_rfl)) (by unfold Func.isWrapper;rw [if_neg (of_decide_eq_false (by kernel_rfl))];exact ⟨rfl,rfl⟩)
  (fun os started H enc _ F=>by rw [OpenClaim.pre_eq_preRow];exact lifted os started H enc F)
theorem plain (f:FuncId) (fn:Func) (hf:Tryz.pinned.checked.prog.funcNamed "actuary/actuarylaw27.MessageResults" = some f) (hfn:Tryz.pinned.checked.prog.funcs[f]?=some fn) :
  true=Tryz.pinned.checked.prog.looks []∧∀ (j:Nat) t,fn.params[j]?=some t→Tryz.pinned.checked.prog.wantsStandIn t=false:=by
 obtain rfl:f=15:=Option.some.inj ((show Tryz.prog.funcNamed "actuary/actuarylaw27.MessageResults" = some 15 by kernel_rfl).symm.trans hf) |>.symm
 obtain rfl:fn=Tryz.f15:=(Option.some.inj (Tryz.func15.symm.trans hfn)).symm
 refine ⟨by kernel_rfl,fun j t ht=>?_⟩
 rw [Tryz.params15] at ht
 have hm:=Array.mem_of_getElem? ht
 simp at hm
 subst hm
 exact (show Tryz.prog.wantsStandIn 112=false by kernel_rfl)
theorem card:Rows.MessageResultsUptoCardSaid :=
 Claim7.holds_tied_plain_at .later [] _ _ _ _ said (fun _ h=>by cases h) (by kernel_rfl) (fun _ h=>by cases h) messageResultsUpto_row_tie rfl ⟨rfl,rfl⟩ (by kernel_rfl) rfl plain (by kernel_rfl)
#print axioms card
end Go.Proofs.YtmhainidincjhaaGreatDoor.lawMessageResults
