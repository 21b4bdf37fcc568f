/-
 What the laws stand on, part Rc: contracts and plain laws of FEnc, FQText, LTold, LTells, LTells2; the conditions are each law's own.
-/
import Derived.Test.YtmhainidincjhaaGreatDoorARb
import Derived.Test.YtmhainidincjhaaGreatDoorAL
import Derived.Test.YtmhainidincjhaaGreatDoorAX
set_option linter.unusedVariables false
set_option linter.unusedSimpArgs false
set_option maxRecDepth 100000
set_option maxHeartbeats 16000000
namespace Go.Proofs.YtmhainidincjhaaGreatDoor
open Go.RowKit Go.Extern.Stop Go.Stop Go.Extern
theorem f9one (a:Option Addr) (n c x:Nat) (w:World) (h:RD w a n c x):Calls Tryz.prog 81 #[.slice a n c] w fun e w'=>e=.returned (.bool (decide (x=1)))∧w'=w:=by
 have hl:=h.len
 rcases Nat.lt_or_ge 1 n with h1 | h1
 ·
  have hx:x≠1:=fun e=>by have:=h.1;rw [e,nd_one] at this;omega
  have e0:((n:Int)==1)=false:=beq_eq_false_iff_ne.2 (by omega)
  rw [decide_eq_false hx]
  clear h hx
  go_enter Tryz.func81,Tryz.ntmps81
  go_wp2_with fail
  go_ret
  exact ⟨rfl,rfl⟩
 ·
  rcases Nat.eq_zero_or_pos n with h0 | h0
  ·
   subst h0
   have hx:x≠1:=fun e=>by have:=h.1;rw [e,nd_one] at this;omega
   rw [decide_eq_false hx]
   clear h hx
   go_enter Tryz.func81,Tryz.ntmps81
   go_wp2_with fail
   go_ret
   exact ⟨rfl,rfl⟩
  ·
   obtain rfl:n=1:=by omega
   obtain ⟨b,o,rfl,hb,hc⟩:=h.2.get 0 (by omega)
   have hx:x<65536:=by have:=lt_nd x;rw [← h.1] at this;simpa using this
   rw [Nat.pow_zero,Nat.div_one,Nat.mod_eq_of_lt hx,Nat.add_zero] at hc
   clear h
   by_cases h1:x=1
   ·
    subst h1
    go_enter Tryz.func81,Tryz.ntmps81
    go_wp2_with fail
    go_ret
    exact ⟨rfl,rfl⟩
   ·
    have e0:((x:Int)==1)=false:=beq_eq_false_iff_ne.2 (by omega)
    rw [decide_eq_false h1]
    go_enter Tryz.func81,Tryz.ntmps81
    go_wp2_with fail
    go_ret
    exact ⟨rfl,rfl⟩
theorem told_nil (k:Int) (w:World):Calls Tryz.prog 22 #[.nilIface,.int .i64 0,.string ⟨#[]⟩,.int .i64 k] w fun e w'=>e=.returned (.bool true)∧Below w.heap.size w w':=by
 have hs1:(⟨#[]⟩:ByteArray).toList.isEmpty=true:=by decide +kernel
 go_enter Tryz.func22,Tryz.ntmps22
 go_wp2_with fail
 refine (place_nil _).mono ?_
 rintro e w1 ⟨rfl,hb⟩
 have HB:=Lib.hid hb;clear hb
 go_wp2_with fail
 refine (number_nil _).mono ?_
 rintro e w2 ⟨rfl,hb2⟩
 have HB2:=Lib.hid hb2;clear hb2
 go_wp2
 go_ret
 exact ⟨rfl,HB.out.trans (HB2.out.mono HB.out.size)⟩
def EP (r:Except Flt (List Nat)) (w:World) (v:Value):Prop:=match r with
 | .ok _=>v=.nilIface
 | .error f=>ErrW w v f
theorem EP.lt {r:Except Flt (List Nat)} {w:World} {v:Value} (_:EP r w v):True:=trivial
theorem EP.below {r:Except Flt (List Nat)} {w w':World} {v:Value} (h:EP r w v) (hb:Below w.heap.size w w') (_:True:=trivial):EP r w' v:=by
 cases r with
 | ok l=>exact h
 | error f=>exact ErrW.below h hb
theorem SB.nil (w:World):SB w none 0 0 []:=⟨rfl,.inl ⟨none,0,rfl,rfl,Nat.zero_le _,fun _=>rfl⟩⟩
end Go.Proofs.YtmhainidincjhaaGreatDoor
