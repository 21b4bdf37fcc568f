/-
  PackBack: for every input of the bulk that the row names the call returns true and every argument reads as before; the condition: the package variable errors.errorType holds what the program's text lays (tied).
-/
import Derived.Test.YtmhainidincjhaaGreatDoorJLBack2
import Derived.Test.YtmhainidincjhaaGreatDoorJO
import Derived.Test.YtmhainidincjhaaGreatDoorCards
import Derived.Test.YtmhainidincjhaaGreatDoorTie
import Derived.OpenShut
import Derived.Lib.SmallJoins
set_option linter.unusedVariables false
set_option linter.unusedSimpArgs false
namespace Go.Proofs.YtmhainidincjhaaGreatDoor.lawPackBack
open Go.ChangeShapes Go.WideShapes Go.ChangeAt Go.RowKit Go.Joins
theorem params_ok : ∀ t, t ∈ Tryz.f6.params.toList → Tryz.prog.readableRec t = true ∧ t < Tryz.prog.types.size := by
  intro t ht
  rw [Tryz.params6] at ht
  simp at ht
  rcases ht with rfl | rfl | rfl | rfl
  all_goals exact ⟨by kernel_rfl, of_decide_eq_true (by kernel_rfl)⟩
set_option maxRecDepth 100000 in
set_option maxHeartbeats 1000000 in
theorem contract (H : Type) (enc : TypeId × Value → H) (W : World) (base : Nat) (args : Array Value) (ds gs : List (DataW H)) (before : List MemPlace)
    (hval : ∀ (j : Nat) t v, Tryz.f6.params[j]? = some t → args[j]? = some v → Value.okWide Tryz.prog W .any base t v)
    (hW : DataW.Whole enc Tryz.prog Tryz.f6.params.toList Rows.packBackSpec.vars false W args.toList ds gs before) (hk : Rows.uptoSmall H (ds ++ gs) = true) (hL : laidMetH Tryz.prog Rows.packBackUptoRow.laid W) :
    Calls Tryz.prog 6 args W fun e W' => ∃ v, e = .returned v ∧ Rows.packBackSpec.post enc Tryz.prog Tryz.f6 false true false false W args v W' := by
  have hW' := hW
  obtain ⟨p, q, hA0, hV, rfl, hfz, hnd⟩ := hW
  have hA : DataW.TrodAll enc Tryz.prog W 0 (fun _ => true) true Tryz.f6.params.toList args.toList ds p := hA0
  rw [Tryz.params6] at hA hval
  obtain ⟨rfl, rfl⟩ := trodVars_none hV
  have hg : Hg W := handle_of_laid hL
  obtain ⟨v0, vs0, d0, ds0, p0, q0, hargs0, rfl, rfl, h0, r0⟩ := trodAll_cons hA
  obtain ⟨v1, vs1, d1, ds1, p1, q1, hargs1, rfl, rfl, h1, r1⟩ := trodAll_cons r0
  obtain ⟨v2, vs2, d2, ds2, p2, q2, hargs2, rfl, rfl, h2, r2⟩ := trodAll_cons r1
  obtain ⟨v3, vs3, d3, ds3, p3, q3, hargs3, rfl, rfl, h3, r3⟩ := trodAll_cons r2
  obtain ⟨hn, rfl, rfl⟩ := trodAll_nil r3
  obtain rfl : args = #[v0, v1, v2, v3] := by cases args; simp_all
  clear hA0 hargs0 hargs1 hargs2 hargs3 hn
  obtain ⟨sg0, pa0, pn0, pc0, pb0, pm0, pe0, xs0, ys0, rfl, hw0, hv0, hu0⟩ := part_open (hval 0 26 v0 rfl rfl) h0
  obtain ⟨a1, n1, c1, l1, rfl, hb1, hx1, hu1⟩ := bytesN_open (hval 1 32 v1 rfl rfl) h1
  obtain ⟨a2, n2, c2, l2, rfl, hb2, hx2, hu2⟩ := bytesN_open (hval 2 32 v2 rfl rfl) h2
  obtain ⟨t3, rfl, rfl, rfl, w3⟩ := Go.ChangeMaps.open_string Tryz.underlying9 (hval 3 9 v3 rfl rfl) h3
  have hfn : ∀ (es : List (DataW H)), Rows.packBackSpec.fn H (es ++ []) = Rows.packBackSpec.fn H es := fun es => by rw [List.append_nil]
  refine (packBack_any sg0 pa0 pb0 pn0 pc0 pm0 pe0 xs0 ys0 a1 n1 c1 l1 a2 n2 c2 l2 t3 W hg (partW_of hw0 hv0 hu0 (by have h := bulks.bound hk; simp only [bulks.append, Rows.uptoBulkAll, bulks.string_eq, Array.length_toList, ByteArray.size_data] at h; omega)) hb1 hx1 (by have h := bulks.bound hk; simp only [bulks.append, Rows.uptoBulkAll, bulks.string_eq, Array.length_toList, ByteArray.size_data] at h; omega) hb2 hx2 (by have h := bulks.bound hk; simp only [bulks.append, Rows.uptoBulkAll, bulks.string_eq, Array.length_toList, ByteArray.size_data] at h; omega) (by have h := bulks.bound hk; simp only [bulks.append, Rows.uptoBulkAll, bulks.string_eq, Array.length_toList, ByteArray.size_data] at h; omega)).mono fun e W' ⟨he, hb⟩ => ⟨_, he, law_post laidOut params_ok (by kernel_rfl) Tryz.underlying4 rfl hW' ((hfn _).trans rfl) hb⟩
theorem reads (os : Os) {H : Type} (enc : TypeId × Value → H) : ∃ places, DataW.whole enc Tryz.prog ((laidWorld os).forCall (fun _ _ => 0) ⟨#[], #[.agg #[.bool false, .slice none 0 0, .slice none 0 0], .slice none 0 0, .slice none 0 0, .string ⟨#[]⟩], []⟩).memory Tryz.f6.params.toList Rows.packBackSpec.vars false #[.agg #[.bool false, .slice none 0 0, .slice none 0 0], .slice none 0 0, .slice none 0 0, .string ⟨#[]⟩].toList 8 = some ([.agg [.agg [.lit (.bool false), .nil], .nil], .nil, .nil, .lit (.string [])], [], places) :=
  ⟨[], by kernel_rfl⟩
set_option maxRecDepth 100000 in
theorem lifted (os : Os) (started : os.Started) (H : Type) (enc : TypeId × Value → H) (F : Stop.Interp) :
    ReturnsInHanded {} Tryz.checked os 6 .any ((Rows.OpenSpec.upto Rows.packBackSpec).preRow enc Tryz.prog Tryz.f6 Rows.packBackUptoRow.domain false Rows.packBackUptoRow.laid) (((Rows.OpenSpec.upto Rows.packBackSpec).at F).post enc Tryz.prog Tryz.f6 false true false false) := by
  obtain ⟨places, hx⟩ := reads os enc
  refine returnsInHanded_of_row (C := Tryz.checked) (s := (Rows.OpenSpec.upto Rows.packBackSpec)) own started (by kernel_rfl) Tryz.func6
    (witness_row_at (enc := enc) (C := Tryz.checked) false (laidWorld os) #[.agg #[.bool false, .slice none 0 0, .slice none 0 0], .slice none 0 0, .slice none 0 0, .string ⟨#[]⟩] rfl (by kernel_rfl) (by kernel_rfl) (by kernel_rfl)
      (OpenSpec.preRow_of_cond 8 hx (by kernel_rfl) (fun k hk => by cases hk; kernel_rfl) (by kernel_rfl) (laid_met os _))) ?_
  intro W base args ds gs before hval hW _ hcond hsz hL _ _
  exact contract H enc W base args ds gs before hval hW (hcond _ rfl) hL
theorem f_inPlace : (Rows.packBackUptoRow.inPlace == Tryz.prog.inPlace 6) = true := by kernel_rfl
theorem f_unfollowed : (Rows.packBackUptoRow.unfollowed == Tryz.prog.unfollowed 6) = true := by kernel_rfl
theorem f_recurses : (Rows.packBackUptoRow.recurses == Tryz.prog.recurses 6) = true := by kernel_rfl
theorem f_named : (Rows.packBackUptoRow.named == Tryz.prog.varsNamed 6) = true := by kernel_rfl
theorem closed : joinedFacts Tryz.prog 6 Tryz.f6 (Rows.OpenSpec.upto Rows.packBackSpec).bare Rows.packBackUptoRow = true := by
  unfold joinedFacts
  rw [f_inPlace, f_unfollowed, f_recurses, f_named]
  kernel_rfl
theorem said : Rows.PackBackUptoSaid :=
  OpenClaim.holds_of_cond 6 Tryz.f6 rfl rfl rfl rfl rfl rfl rfl ⟨rfl, rfl, rfl, rfl, rfl⟩ rfl rfl rfl rfl rfl (by kernel_rfl) Tryz.func6 closed
    (of_decide_eq_true (by kernel_rfl)) (by unfold Func.isWrapper; rw [if_neg (of_decide_eq_false (by kernel_rfl))]; exact ⟨rfl, rfl⟩)
    (fun os started H enc _ F => by rw [OpenClaim.pre_eq_preRow]; exact lifted os started H enc F)
theorem plain (f : FuncId) (fn : Func) (hf : Tryz.pinned.checked.prog.funcNamed "actuary/actuarylaw09.PackBack" = some f) (hfn : Tryz.pinned.checked.prog.funcs[f]? = some fn) :
    true = Tryz.pinned.checked.prog.looks [] ∧ ∀ (j : Nat) t, fn.params[j]? = some t → Tryz.pinned.checked.prog.wantsStandIn t = false := by
  obtain rfl : f = 6 := Option.some.inj ((show Tryz.prog.funcNamed "actuary/actuarylaw09.PackBack" = some 6 by kernel_rfl).symm.trans hf) |>.symm
  obtain rfl : fn = Tryz.f6 := (Option.some.inj (Tryz.func6.symm.trans hfn)).symm
  refine ⟨by kernel_rfl, fun j t ht => ?_⟩
  rw [Tryz.params6] at ht
  have hm := Array.mem_of_getElem? ht
  simp at hm
  rcases hm with rfl | rfl | rfl
  · exact (show Tryz.prog.wantsStandIn 26 = false by kernel_rfl)
  · exact (show Tryz.prog.wantsStandIn 32 = false by kernel_rfl)
  · exact (show Tryz.prog.wantsStandIn 9 = false by kernel_rfl)
theorem card : Rows.PackBackUptoCardSaid :=
  Claim7.holds_tied_plain_at .later [] _ _ _ _ said (fun _ h => by cases h) (by kernel_rfl) (fun _ h => by cases h) packBackUpto_row_tie rfl ⟨rfl, rfl⟩ (by kernel_rfl) rfl plain (by kernel_rfl)
#print axioms card
end Go.Proofs.YtmhainidincjhaaGreatDoor.lawPackBack
