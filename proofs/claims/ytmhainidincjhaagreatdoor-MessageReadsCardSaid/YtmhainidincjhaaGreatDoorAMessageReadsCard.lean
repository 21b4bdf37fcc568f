/-
 MessageReads: for every input the call returns true and every argument reads as before; the condition: the package variable errors.errorType holds what the program's text lays (tied).
-/
import Derived.Test.YtmhainidincjhaaGreatDoorAMReads2
import Derived.Test.YtmhainidincjhaaGreatDoorAO
import Derived.Test.YtmhainidincjhaaGreatDoorCards
import Derived.Test.YtmhainidincjhaaGreatDoorTie
import Derived.OpenShut
import Derived.Lib.SmallJoins
set_option linter.unusedVariables false
set_option linter.unusedSimpArgs false
set_option maxRecDepth 100000
set_option maxHeartbeats 16000000
namespace Go.Proofs.YtmhainidincjhaaGreatDoor.lawMessageReads
open Go.ChangeShapes Go.WideShapes Go.ChangeAt Go.RowKit Go.Joins
theorem params_ok:∀ t,t∈Tryz.f10.params.toList→Tryz.prog.readableRec t=true∧t<Tryz.prog.types.size:=by
 intro t ht
 rw [Tryz.params10] at ht
 simp at ht
 subst ht
 exact ⟨by kernel_rfl,of_decide_eq_true (by kernel_rfl)⟩
theorem contract (H:Type) (enc:TypeId × Value→H) (W:World) (base:Nat) (args:Array Value) (ds gs:List (DataW H)) (before:List MemPlace)
  (hval:∀ (j:Nat) t v,Tryz.f10.params[j]?=some t→args[j]?=some v→Value.okWide Tryz.prog W .any base t v)
  (hW:DataW.Whole enc Tryz.prog Tryz.f10.params.toList Rows.messageReadsSpec.vars false W args.toList ds gs before) (hL:laidMetH Tryz.prog Rows.messageReadsRow.laid W) :
  Calls Tryz.prog 10 args W fun e W'=>∃ v,e=.returned v∧Rows.messageReadsSpec.post enc Tryz.prog Tryz.f10 false true false false W args v W':=by
 have hW':=hW
 obtain ⟨p,q,hA0,hV,rfl,hfz,hnd⟩:=hW
 have hA:DataW.TrodAll enc Tryz.prog W 0 (fun _=>true) true Tryz.f10.params.toList args.toList ds p:=hA0
 rw [Tryz.params10] at hA hval
 obtain ⟨rfl,rfl⟩:=trodVars_none hV
 have hg:Hg W:=handle_of_laid hL
 obtain ⟨v0,vs0,d0,ds0,p0,q0,hargs0,rfl,rfl,h0,r0⟩:=trodAll_cons hA
 obtain ⟨hn,rfl,rfl⟩:=trodAll_nil r0
 obtain rfl:args=#[v0]:=by cases args;simp_all
 clear hA0 hargs0 hn
 obtain ⟨a0,n0,c0,l0,rfl,hb0,hx0,hu0⟩:=bytesN_open (hval 0 32 v0 rfl rfl) h0
 have hfn:∀ (es:List (DataW H)),Rows.messageReadsSpec.fn H (es++[])=Rows.messageReadsSpec.fn H es:=fun es=>by rw [List.append_nil]
 refine (mreads_any a0 n0 c0 l0 W hg hb0 hx0).mono fun e W' ⟨he,hb⟩=>⟨_,he,law_post laidOut params_ok (by kernel_rfl) Tryz.underlying4 rfl hW' ((hfn _).trans rfl) hb⟩
theorem reads (os:Os) {H:Type} (enc:TypeId × Value→H):∃ places,DataW.whole enc Tryz.prog ((laidWorld os).forCall (fun _ _=>0) ⟨#[],#[.slice none 0 0],[]⟩).memory Tryz.f10.params.toList Rows.messageReadsSpec.vars false #[.slice none 0 0].toList 8=some ([.nil],[],places) :=
 ⟨[],by kernel_rfl⟩
theorem lifted (os:Os) (started:os.Started) (H:Type) (enc:TypeId × Value→H) (F:Stop.Interp) :
  ReturnsInHanded {} Tryz.checked os 10 .any ((OpenSpec.ofChange Rows.messageReadsSpec).preRow enc Tryz.prog Tryz.f10 Rows.messageReadsRow.domain false Rows.messageReadsRow.laid) (((OpenSpec.ofChange Rows.messageReadsSpec).at F).post enc Tryz.prog Tryz.f10 false true false false):=by
 obtain ⟨places,hx⟩:=reads os enc
 refine returnsInHanded_of_row (C:=Tryz.checked) (s:=(OpenSpec.ofChange Rows.messageReadsSpec)) own started (by kernel_rfl) Tryz.func10
  (witness_row_at (enc:=enc) (C:=Tryz.checked) false (laidWorld os) #[.slice none 0 0] rfl (by kernel_rfl) (by kernel_rfl) (by kernel_rfl)
   (OpenSpec.preRow_of_cond 8 hx (by kernel_rfl) (fun k hk=>by cases hk) (by kernel_rfl) (laid_met os _))) ?_
 intro W base args ds gs before hval hW _ hcond hsz hL _ _
 exact contract H enc W base args ds gs before hval hW  hL
theorem f_inPlace:(Rows.messageReadsRow.inPlace==Tryz.prog.inPlace 10)=true:=by kernel_rfl
theorem f_unfollowed:(Rows.messageReadsRow.unfollowed==Tryz.prog.unfollowed 10)=true:=by kernel_rfl
theorem f_recurses:(Rows.messageReadsRow.recurses==Tryz.prog.recurses 10)=true:=by kernel_rfl
theorem f_named:(Rows.messageReadsRow.named==Tryz.prog.varsNamed 10)=true:=by kernel_rfl
theorem closed:joinedFacts Tryz.prog 10 Tryz.f10 (OpenSpec.ofChange Rows.messageReadsSpec).bare Rows.messageReadsRow=true:=by
 unfold joinedFacts
 rw [f_inPlace,f_unfollowed,f_recurses,f_named]
 kernel_rfl
theorem said:Rows.MessageReadsSaid :=
 OpenClaim.holds_of_cond 10 Tryz.f10 rfl rfl rfl rfl rfl rfl rfl ⟨rfl,rfl,rfl,rfl,rfl⟩ rfl rfl rfl rfl rfl (by kernel_rfl) Tryz.func10 closed
  (of_decide_eq_true (by kernel_rfl)) (by unfold Func.isWrapper;rw [if_neg (of_decide_eq_false (by kernel_rfl))];exact ⟨rfl,rfl⟩)
  (fun os started H enc _ F=>by rw [OpenClaim.pre_eq_preRow];exact lifted os started H enc F)
theorem plain (f:FuncId) (fn:Func) (hf:Tryz.pinned.checked.prog.funcNamed "actuary/actuarylaw27.MessageReads" = some f) (hfn:Tryz.pinned.checked.prog.funcs[f]?=some fn) :
  true=Tryz.pinned.checked.prog.looks []∧∀ (j:Nat) t,fn.params[j]?=some t→Tryz.pinned.checked.prog.wantsStandIn t=false:=by
 obtain rfl:f=10:=Option.some.inj ((show Tryz.prog.funcNamed "actuary/actuarylaw27.MessageReads" = some 10 by kernel_rfl).symm.trans hf) |>.symm
 obtain rfl:fn=Tryz.f10:=(Option.some.inj (Tryz.func10.symm.trans hfn)).symm
 refine ⟨by kernel_rfl,fun j t ht=>?_⟩
 rw [Tryz.params10] at ht
 have hm:=Array.mem_of_getElem? ht
 simp at hm
 subst hm
 exact (show Tryz.prog.wantsStandIn 32=false by kernel_rfl)
theorem card:Rows.MessageReadsCardSaid :=
 Claim7.holds_tied_plain_at .later [] _ _ _ _ said (fun _ h=>by cases h) (by kernel_rfl) (fun _ h=>by cases h) messageReads_row_tie rfl ⟨rfl,rfl⟩ (by kernel_rfl) rfl plain (by kernel_rfl)
#print axioms card
end Go.Proofs.YtmhainidincjhaaGreatDoor.lawMessageReads
