/-
 The law MessageReads answers true; the conditions: the library's own global is as it began, the bytes are in memory.
 Printed by a program of this repository (wip/rf45.py).
-/
import Derived.Test.YtmhainidincjhaaGreatDoorAMReads
import Derived.Test.YtmhainidincjhaaGreatDoorARf
import Derived.Test.YtmhainidincjhaaGreatDoorARc
import Derived.Test.YtmhainidincjhaaGreatDoorAC
import Derived.Test.YtmhainidincjhaaGreatDoorARl
set_option linter.unusedVariables false
set_option linter.unusedSimpArgs false
set_option maxRecDepth 100000
set_option maxHeartbeats 16000000
namespace Go.Proofs.YtmhainidincjhaaGreatDoor
open Go.RowKit Go.Extern.Stop Go.Stop Go.Extern
def C3 (st:RS):Prop:=∀ x,st=.error x→x.1=90∨x.1=91∨x.1=270
section
variable {data : List Nat} {st : RS} {lo hi : Int} {m : Nat}
theorem c3_next (h:C3 st):C3 (rNext data m st).2:=fun x hx=>by
 unfold rNext at hx
 cases st with
 | error y=>injection hx with hx;exact h x (by rw [← hx])
 | ok a =>
  simp only at hx
  split at hx
  ·
   injection hx with hx;rw [← hx];exact .inl rfl
  ·
   cases hx
theorem c3_pick (h:C3 st):C3 (rPick data lo hi st).2:=fun x hx=>by
 have hn:=c3_next (data:=data) (m:=1) h
 unfold rPick at hx
 cases hy:rNext data 1 st with
 | mk b s1 =>
  rw [hy] at hx hn
  cases s1 with
  | error y=>injection hx with hx;exact hn x (by rw [← hx])
  | ok a =>
   simp only at hx
   split at hx
   ·
    injection hx with hx;rw [← hx];exact .inr (.inr rfl)
   ·
    cases hx
theorem c3_id (h:C3 st):C3 (rId data st).2:=fun x hx=>by
 have hn:=c3_next (data:=data) (m:=4) h
 unfold rId at hx
 cases hy:rNext data 4 st with
 | mk b s1 =>
  rw [hy] at hx hn
  cases s1 with
  | error y=>injection hx with hx;exact hn x (by rw [← hx])
  | ok a =>
   simp only at hx
   split at hx
   ·
    injection hx with hx;rw [← hx];exact .inr (.inr rfl)
   ·
    cases hx
theorem c3_rat (h:C3 st):C3 (rRat data st).2:=fun x hx=>by
 cases st with
 | error y=>injection hx with hx;exact h x (by rw [← hx])
 | ok a =>
  unfold rRat at hx
  simp only at hx
  cases hd:decR (data.drop a) with
  | ok y=>rw [hd] at hx;cases hx
  | error f =>
   rw [hd] at hx
   injection hx with hx
   rw [← hx]
   exact (dec_err hd).imp_right .inl
theorem c3_ents:∀ (k:Nat) (st:RS) (acc:List Ent),C3 st→C3 (rEnts data k st acc).2
 | 0,_,_,h=>h
 | k+1,.error _,_,h=>h
 | k+1,.ok _,_,h=>c3_ents k _ _ (c3_rat (c3_id h))
theorem c3_entries (h:C3 st):C3 (rEntries data st).2:=c3_ents _ _ _ (c3_pick h)
theorem c3_ask (h:C3 st):C3 (rAsk data st).2:=by
 have hp:=c3_pick (data:=data) (lo:=1) (hi:=12) h
 unfold rAsk
 generalize (rPick data 1 12 st).1=op
 unfold rAskBody
 repeat' split
 all_goals simp only
 all_goals repeat first
  | exact hp
  | apply c3_rat
  | apply c3_id
  | apply c3_entries
  | apply c3_pick
theorem c3_body (v:Int) (t:List Nat) (h:C3 st):C3 (rMsgBody data v t st).2:=by
 unfold rMsgBody
 repeat' split
 all_goals simp only
 all_goals repeat first
  | exact h
  | apply c3_ask
  | apply c3_id
  | apply c3_pick
  | apply c3_next
end
theorem decM_code {bs:List Nat} {x:Int × Nat} (h:decM bs=.error x):x.1=90∨x.1=91∨x.1=270:=by
 have h1:C3 (rMsg bs).2:=c3_body _ _ (c3_next (c3_pick fun _ h=>by cases h))
 unfold decM rEnd at h
 cases hs:(rMsg bs).2 with
 | error y =>
  rw [hs] at h
  injection h with h
  subst h
  exact h1 y hs
 | ok a =>
  rw [hs] at h
  simp only at h
  split at h
  ·
   rename_i y hy
   split at hy
   ·
    cases hy
   ·
    injection hy with hy
    injection h with h
    rw [← h,← hy]
    exact .inr (.inr rfl)
  ·
   cases h
theorem bad_nil (w:World):Calls Tryz.prog 40 #[.nilIface] w (fun e w'=>e=.returned (.bool false)∧Below w.heap.size w w'):=by
 have HB:=Lib.hid (fun b W=>is_nil b W)
 unfold eE at HB
 go_enter Tryz.func40,Tryz.ntmps40
 go_wp2_with fail
 refine (HB.out 90 _).mono ?_
 rintro e w' ⟨rfl,rfl⟩
 go_wp2_with fail
 refine (HB.out 91 _).mono ?_
 rintro e w' ⟨rfl,rfl⟩
 go_wp2_with fail
 refine (HB.out 270 _).mono ?_
 rintro e w' ⟨rfl,rfl⟩
 go_wp2_with fail
 go_ret
 exact ⟨rfl,Below.refl _ _⟩
def zMV:MsgV:=⟨0,⟨#[]⟩,0,0,⟨#[]⟩,0,0,0,0,Rv.zero,none,0,0,[]⟩
def zRM:RefM:=⟨0,0,0,⟨#[]⟩,⟨#[]⟩,0,0,0,0,0,false,none,0,0,none,0,0,none,0,0,[]⟩
theorem zMV_ok (w:World):zMV.ok w:=⟨by show (0:Nat)≤_;omega,by show (0:Nat)≤_;omega,Rv.zero_ok w,Rv.zero_sh.num,Rv.zero_sh.den,⟨rfl,Sl.ofMid (Mid.nil w 0 146 4),fun _ h=>(by cases h)⟩,by show (0:Nat)≤_;omega⟩
theorem zRM_ok (w:World):zRM.dok w:=⟨.inl ⟨rfl,rfl⟩,⟨rfl,Sl.ofMid (Mid.nil w 0 154 4)⟩,fun _ h=>(by cases h)⟩
def decMm:Except (Int × Nat) Msg→Msg
 | .ok m=>m
 | .error _=>zMV.msg
def decMr:Except (Int × Nat) Msg→WS
 | .ok _=>.ok []
 | .error x=>.error x
theorem mreads_any (a:Option Addr) (n c:Nat) (bs:List Nat) (w:World) (hg:Hg w) (h:BytesN w (.slice a n c) bs) (h8:∀ x,x∈bs→x<256) :
  Calls Tryz.prog 10 #[.slice a n c] w fun e w'=>e=.returned (.bool true)∧Below w.heap.size w w':=by
 have HA:=Lib.hid fun (W:World) (hb:Below w.heap.size w W)=>mawake_any W (hg.below hb hg.lt)
 obtain ⟨_,hc1,hc2,_⟩:=h.len
 rcases Nat.lt_or_ge 600 n with hn | hn
 ·
  exact mreads_long a n c w ⟨hc1,hc2⟩ hn HA
 have hcode:=fun x (hx:decM bs=.error x)=>decM_code hx
 obtain ⟨R,hR⟩:∃ R,decM bs=R:=⟨_,rfl⟩
 rw [hR] at hcode
 refine mreads_walk a n c (decMm R) (decMr R) (kM (decMr R)) (atM (decMr R)) (if kM (decMr R)=0 then ⟨#[]⟩ else ⟨#[98,121,116,101]⟩) (match R with | .ok _=>false | .error _=>true) w ⟨hc1,hc2⟩ hn HA
  (Lib.hid fun W hb=>(mdec_any a n c bs W (h.below hb) h8 (by omega)).mono fun e w' hh=>?_) (Lib.hid fun W hb=>(f27dec a n c bs W (h.below hb) h8 (by omega)).mono fun e w' hh=>?_)
  (Lib.hid fun x y W hx hy hm1 hm2=>f27like x y W hx hy (hm1.trans hm2.symm)) (Lib.hid fun W=>f27place _ W) (Lib.hid fun v W hb hv=>?_) (Lib.hid fun v W hv=>?_) (Lib.hid fun v W hv=>?_)
 ·
  rw [hR] at hh
  cases R with
  | ok m =>
   obtain ⟨x,he,hok,hm,hb2⟩:=hh
   exact ⟨x,.nilIface,he,hok,hm,rfl,hb2⟩
  | error y =>
   obtain ⟨v,he,hv,hb2⟩:=hh
   exact ⟨zMV,v,he,zMV_ok w',rfl,hv,hb2⟩
 ·
  rw [hR] at hh
  cases R with
  | ok m =>
   obtain ⟨y,he,hok,hm,hb2⟩:=hh
   exact ⟨y,he,hok,hm,hb2⟩
  | error y =>
   obtain ⟨he,hb2⟩:=hh
   exact ⟨zRM,he,zRM_ok w',rfl,hb2⟩
 ·
  cases R with
  | ok m =>
   obtain rfl:v=.nilIface:=hv
   exact told_nil 0 W
  | error y =>
   have h9:=hcode y rfl
   have h8:kM (decMr (.error y))≠0:=by show y.1≠0;omega
   rw [if_neg h8]
   exact told_B v y.1 y.2 _ W (hg.below hb hg.lt) hv
 ·
  cases R with
  | ok m =>
   obtain rfl:v=.nilIface:=hv
   exact bad_nil W
  | error y =>
   have h9:=hcode y rfl
   have h1:=bad_B v y.1 y.2 _ W hv
   have h2:(y.1==90 || y.1==91 || y.1==270)=true:=by rcases h9 with e | e | e <;> rw [e] <;> rfl
   rw [h2] at h1
   exact h1
 ·
  cases R with
  | ok m=>exact .inl ⟨hv,rfl⟩
  | error y =>
   obtain ⟨eb,u,rfl,_⟩:=hv
   exact .inr ⟨⟨_,_,rfl⟩,rfl⟩
end Go.Proofs.YtmhainidincjhaaGreatDoor
