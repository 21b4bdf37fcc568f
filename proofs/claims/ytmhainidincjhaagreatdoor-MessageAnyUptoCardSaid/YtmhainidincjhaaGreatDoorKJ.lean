/-
 What the laws stand on, part J: contracts and plain laws of NPack, NPack; the conditions are each law's own.
-/
import Derived.Test.YtmhainidincjhaaGreatDoorKV
set_option linter.unusedVariables false
set_option linter.unusedSimpArgs false
set_option maxRecDepth 100000
set_option maxHeartbeats 16000000
namespace Go.Proofs.YtmhainidincjhaaGreatDoor
theorem part_short {n:Nat} {l:List Nat} (h:partB n=some l) {k:Nat} (hk:k<l.length):takeB (l.take k)=.error 90:=by
 have hl:=part_len h
 unfold partB at h
 split at h
 ·
  cases h
 ·
  injection h with h
  subst h
  cases k with
  | zero=>rfl
  | succ k =>
   rw [List.take_succ_cons]
   unfold takeB
   simp only
   rw [if_pos]
   rw [List.length_take,dig_len]
   rw [hl.1] at hk
   omega
theorem dec_short {q:Rat} {l:List Nat} (h:encR q=.ok l) {k:Nat} (hk:k<l.length):∃ w,decR (l.take k)=.error ⟨90,w⟩∧(w=none↔k=0)∧∀ s i,w=some (s,i)→0≤i∧i≤k:=by
 unfold encR at h
 split at h
 ·
  injection h with h;subst h
  have:k=0:=by simp at hk;omega
  subst this
  exact ⟨none,rfl,by simp,fun _ _ h=>(by cases h)⟩
 ·
  rename_i h0
  split at h
  ·
   cases h
  ·
   rename_i d hd
   split at h
   ·
    cases h
   ·
    rename_i p hp
    injection h with h
    subst h
    cases k with
    | zero=>exact ⟨none,rfl,by simp,fun _ _ h=>(by cases h)⟩
    | succ k =>
     obtain ⟨f1,f2,f3,f4⟩:=tagR_facts h0
     have hk':k<(d++p).length:=by simpa using hk
     rw [List.take_succ_cons]
     unfold decR
     simp only
     rw [if_neg (by omega),if_neg (by omega)]
     by_cases h1:q.den=1
     ·
      rw [if_pos h1] at hd
      injection hd with hd
      subst hd
      rw [if_neg (fun h2=>f3.1 h2 h1)]
      simp only [List.nil_append] at hk' ⊢
      rw [part_short hp hk']
      refine ⟨_,rfl,by simp,fun s i h=>?_⟩
      injection h with h
      injection h with h3 h4
      rw [← h4];simp only [List.length_cons];omega
     ·
      rw [if_neg h1] at hd
      rw [if_pos (f3.2 h1)]
      by_cases h2:k<d.length
      ·
       rw [List.take_append_of_le_length (by omega),part_short hd h2]
       refine ⟨_,rfl,by simp,fun s i h=>?_⟩
       injection h with h
       injection h with h3 h4
       omega
      ·
       rw [List.take_append,List.take_of_length_le (by omega),take_part q.den_nz hd]
       simp only
       rw [part_short hp (by rw [List.length_append] at hk';omega)]
       refine ⟨_,rfl,by simp,fun s i h=>?_⟩
       injection h with h
       injection h with h3 h4
       rw [← h4]
       simp only [List.length_cons,List.length_append]
       omega
end Go.Proofs.YtmhainidincjhaaGreatDoor
