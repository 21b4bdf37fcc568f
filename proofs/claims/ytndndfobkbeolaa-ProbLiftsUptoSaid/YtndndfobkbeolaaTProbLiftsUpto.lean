/-
 ProbLifts: for every input of the bulk that the row names the call returns true and every argument reads as before.
-/
import Derived.Test.YtndndfobkbeolaaTPLifts
import Derived.Test.YtndndfobkbeolaaTPFrs
import Derived.Test.YtndndfobkbeolaaTO
import Derived.OpenShut
import Derived.JoinedCond
import Derived.Lib.SmallJoins
set_option linter.unusedVariables false
set_option linter.unusedSimpArgs false
namespace Go.Proofs.Ytndndfobkbeolaa.lawProbLifts
open Go.ChangeShapes Go.WideShapes Go.ChangeAt Go.RowKit Go.Joins
theorem params_ok : ∀ t, t ∈ Try.f4.params.toList → Try.prog.readableRec t = true ∧ t < Try.prog.types.size := by
 intro t ht
 rw [Try.params4] at ht
 simp at ht
 rcases ht with rfl | rfl
 all_goals exact ⟨by kernel_rfl, of_decide_eq_true (by kernel_rfl)⟩
set_option maxRecDepth 100000 in
set_option maxHeartbeats 1000000 in
theorem contract (H : Type) (enc : TypeId × Value → H) (W : World) (base : Nat) (args : Array Value) (ds gs : List (DataW H)) (before : List MemPlace)
  (hval : ∀ (j : Nat) t v, Try.f4.params[j]? = some t → args[j]? = some v → Value.okWide Try.prog W .any base t v)
  (hW : DataW.Whole enc Try.prog Try.f4.params.toList Rows.probLiftsSpec.vars false W args.toList ds gs before) (hk : Rows.uptoSmall H (ds ++ gs) = true) :
  Calls Try.prog 4 args W fun e W' => ∃ v, e = .returned v ∧ Rows.probLiftsSpec.post enc Try.prog Try.f4 false true false false W args v W' := by
 have hW' := hW
 obtain ⟨p, q, hA0, hV, rfl, hfz, hnd⟩ := hW
 have hA : DataW.TrodAll enc Try.prog W 0 (fun _ => true) true Try.f4.params.toList args.toList ds p := hA0
 rw [Try.params4] at hA hval
 obtain ⟨rfl, rfl⟩ := trodVars_none hV
 obtain ⟨v0, vs0, d0, ds0, p0, q0, hargs0, rfl, rfl, h0, r0⟩ := trodAll_cons hA
 obtain ⟨v1, vs1, d1, ds1, p1, q1, hargs1, rfl, rfl, h1, r1⟩ := trodAll_cons r0
 obtain ⟨hn, rfl, rfl⟩ := trodAll_nil r1
 obtain rfl : args = #[v0, v1] := by cases args; simp_all
 clear hA0 hargs0 hargs1 hn
 obtain ⟨ca0, cn0, cc0, ra0, rn0, rc0, cost0, lines0, rfl, hr0, hu0, hv0, hw0⟩ := raw_open (hval 0 25 v0 rfl rfl) h0
 obtain ⟨ea1, en1, ec1, es1, rfl, hf1, hb1⟩ := frs_open (hval 1 22 v1 rfl rfl) h1
 have hfn : ∀ (es : List (DataW H)), Rows.probLiftsSpec.fn H (es ++ []) = Rows.probLiftsSpec.fn H es := fun es => by rw [List.append_nil]
 refine (probLifts_any ca0 cn0 cc0 ra0 rn0 rc0 cost0 lines0 ea1 en1 ec1 es1 W hr0 hf1 (fun r hr => by have h2 := hw0 r hr; have h := bulks.bound hk; simp only [bulks.append, Rows.uptoBulkAll] at h; omega) (by have h := bulks.bound hk; simp only [bulks.append, Rows.uptoBulkAll] at h; omega)).mono fun e W' ⟨he, hb⟩ => ⟨_, he, law_post laidOut params_ok (by kernel_rfl) Try.underlying4 rfl hW' ((hfn _).trans rfl) hb⟩
set_option maxRecDepth 100000 in
theorem lifted (os : Os) (started : os.Started) (H : Type) (enc : TypeId × Value → H) (F : Stop.Interp) :
  ReturnsInHanded {} Try.checked os 4 .any ((Rows.OpenSpec.upto Rows.probLiftsSpec).pre6 enc Try.prog Try.f4 Rows.probLiftsUptoRow.domain false) (((Rows.OpenSpec.upto Rows.probLiftsSpec).at F).post enc Try.prog Try.f4 false true false false) := by
 refine returnsInHanded_of_cond (C := Try.checked) (s := (Rows.OpenSpec.upto Rows.probLiftsSpec)) (k := Rows.uptoSmall) rfl own started (by kernel_rfl) Try.func4
  (OpenSpec.witness (enc := enc) (C := Try.checked) (s := (Rows.OpenSpec.upto Rows.probLiftsSpec)) (k := Rows.uptoSmall) rfl false ⟨#[], #[.agg #[.slice none 0 0, .slice none 0 0], .slice none 0 0], []⟩ 8 (by kernel_rfl) (by kernel_rfl) (by kernel_rfl)
   (x := ([.agg [.nil, .nil], .nil], [], [] ++ [])) (by kernel_rfl) rfl (by kernel_rfl)) ?_
 intro W base args ds gs before hval hW _ hk _
 exact contract H enc W base args ds gs before hval hW hk
theorem said : Rows.ProbLiftsUptoSaid :=
 OpenClaim.holds_of_cond 4 Try.f4 rfl rfl rfl rfl rfl rfl rfl ⟨rfl, rfl, rfl, rfl, rfl⟩ rfl rfl rfl rfl rfl (by kernel_rfl) Try.func4 (by kernel_rfl)
  (of_decide_eq_true (by kernel_rfl)) (by unfold Func.isWrapper; rw [if_neg (of_decide_eq_false (by kernel_rfl))]; exact ⟨rfl, rfl⟩)
  (fun os started H enc _ F => lifted os started H enc F)
#print axioms said
end Go.Proofs.Ytndndfobkbeolaa.lawProbLifts
