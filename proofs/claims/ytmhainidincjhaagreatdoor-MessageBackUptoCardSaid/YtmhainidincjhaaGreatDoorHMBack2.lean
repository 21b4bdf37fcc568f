/-
  The law MessageBack answers true; the conditions: the message and the bytes that are handed in are in memory, and of bounded sizes.
  Printed by a program of this repository (wip/mg46.py).
-/
import Derived.Test.YtmhainidincjhaaGreatDoorHMBack
import Derived.Test.YtmhainidincjhaaGreatDoorHN
set_option linter.unusedVariables false
set_option linter.unusedSimpArgs false
set_option maxRecDepth 100000
set_option maxHeartbeats 16000000
namespace Go.Proofs.YtmhainidincjhaaGreatDoor
open Go.RowKit Go.Extern.Stop Go.Stop Go.Extern
def okX {α β : Type} : Except α β → Bool
  | .ok _ => true
  | .error _ => false
def bytesX : WS → List Nat
  | .ok l => l
  | .error _ => []
def zeroMV : MsgV := ⟨0, ⟨#[]⟩, 0, 0, ⟨#[]⟩, 0, 0, 0, 0, Rv.zero, none, 0, 0, []⟩
def msgX : Except (Int × Nat) Msg → Msg
  | .ok m => m
  | .error _ => zeroMV.msg
theorem zeroMV_ok (W : World) : zeroMV.ok W := ⟨by show (0 : Nat) ≤ _; omega, by show (0 : Nat) ≤ _; omega, Rv.zero_ok W, Rv.zero_sh.num, Rv.zero_sh.den, ⟨rfl, Sl.ofMid (Mid.nil W 0 146 4), fun _ h => (by cases h)⟩, by show (0 : Nat) ≤ _; omega⟩
theorem mback_any (x : RawV) (g : Option Addr) (k o : Nat) (lb : List Nat) (w : World) (hg : Hg w) (hx : RawW w x) (hb : BytesN w (.slice g k o) lb) (hb8 : ∀ x, x ∈ lb → x < 256) (hk : k ≤ 1048576) :
    Calls Tryz.prog 4 #[.agg #[.int .i64 x.verb, .int .i64 x.ses, .int .i64 x.rig, .string x.tk, .string x.ot, .int .i64 x.op, .int .i64 x.row, .int .i64 x.col, .int .i64 x.kind, .bool x.sg, .slice x.a x.n x.c, .slice x.b x.m x.d, .slice x.ea x.en x.ec], .slice g k o] w fun e w' => e = .returned (.bool true) ∧ Below w.heap.size w w' := by
  have hlb : k = lb.length := hb.len.1
  have hfine : ∀ l, encM x.msg = .ok l → (∀ y, y ∈ l → y < 256) ∧ l.length ≤ 1099511627776 := fun l h => by
    obtain ⟨h1, h2⟩ := encM_fine (m := x.msg) (natB_lt x.tk) (natB_lt x.ot) h
    have h3 : x.msg.ask.es.length = x.en := by show (x.es.map RawE.ent).length = _; rw [List.length_map, hx.len]
    have := hx.en
    exact ⟨h1, by omega⟩
  refine mback_walk x x.msg (msgX (decM (bytesX (encM x.msg)))) (msgX (decM lb)) (okX (encM x.msg)) (okX (decM lb)) (bytesX (encM x.msg)).length (bytesX (encM x.msg)) lb (strB (bytesX (encM x.msg))) (strB lb) g k o w
    (Lib.hid fun W hbl => mawake_any W (hg.below hbl hg.lt)) (Lib.hid fun W hbl => mmake_any x W (hx.below hbl))
    (Lib.hid fun y W hy hm => ?_) (Lib.hid fun h1 a2 c2 W hs => ?_) (Lib.hid fun h1 y W hy hm => ?_) (Lib.hid fun a c W h => conv_any a _ c _ W h)
    (Lib.hid fun W hbl => ?_) (Lib.hid fun h2 y W hy hm => ?_) (Lib.hid fun _ a c W h => conv_any a _ c _ W h) (Lib.hid fun _ W hbl => conv_any g k o lb W (hb.below hbl))
  · refine (menc_any y W hy).mono fun e w' hh => ?_
    rw [hm] at hh
    cases he : encM x.msg with
    | ok l => rw [he] at hh; obtain ⟨a, c, k1, k2, k3⟩ := hh; exact ⟨a, c, _, k1, rfl, Sl.ofMid k2, k3⟩
    | error f => rw [he] at hh; obtain ⟨v, k1, k2, k3⟩ := hh; obtain ⟨eb, u, rfl, _⟩ := k2; exact ⟨none, 0, _, k1, ⟨_, _, rfl⟩, Sl.ofMid (Mid.nil _ 0 5 1), k3⟩
  · cases he : encM x.msg with
    | error _ => rw [he] at h1; cases h1
    | ok l =>
      rw [he] at hs
      obtain ⟨f1, f2⟩ := hfine l he
      obtain ⟨m', d1, d2, d3, d4, d5⟩ := decM_enc he
      refine (mdec_any a2 l.length c2 l W hs f1 f2).mono fun e w' hh => ?_
      show ∃ y : MsgV, _
      rw [show bytesX (.ok l) = l from rfl]
      rw [d1] at hh ⊢
      obtain ⟨y, k1, k2, k3, k4⟩ := hh
      subst k3
      have e1 : y.verb = x.verb := d3
      have e2 : natB y.tk = natB x.tk := d4
      have e3 : y.tk = x.tk := by rw [← strB_natB y.tk, e2, strB_natB]
      refine ⟨y, ?_, k2, rfl, d5, k4⟩
      rw [k1, ← e1, ← e3]; rfl
  · cases he : encM x.msg with
    | error _ => rw [he] at h1; cases h1
    | ok l =>
      rw [he, show bytesX (.ok l) = l from rfl] at hm
      obtain ⟨m', d1, d2, d3, d4, d5⟩ := decM_enc he
      rw [d1] at hm
      have hm : y.msg = m' := hm
      subst hm
      have e1 : y.verb = x.verb := d3
      have e2 : natB y.tk = natB x.tk := d4
      have e3 : y.tk = x.tk := by rw [← strB_natB y.tk, e2, strB_natB]
      rw [← e1, ← e3]
      refine (menc_any y W hy).mono fun e w' hh => ?_
      rw [d2] at hh
      obtain ⟨a, c, k1, k2, k3⟩ := hh
      exact ⟨a, c, k1, Sl.ofMid k2, k3⟩
  · refine (mdec_any g k o lb W (hb.below hbl) hb8 (by omega)).mono fun e w' hh => ?_
    cases hd : decM lb with
    | ok m => rw [hd] at hh; obtain ⟨y, k1, k2, k3, k4⟩ := hh; exact ⟨y, _, k1, rfl, k2, k3, fun h => (by cases h), k4⟩
    | error f => rw [hd] at hh; obtain ⟨v, k1, k2, k3⟩ := hh; obtain ⟨eb, u, rfl, _⟩ := k2; exact ⟨zeroMV, _, k1, ⟨_, _, rfl⟩, zeroMV_ok w', rfl, fun _ => ⟨rfl, rfl, rfl⟩, k3⟩
  · cases hd : decM lb with
    | error _ => rw [hd] at h2; cases h2
    | ok m =>
      rw [hd] at hm
      have hm : y.msg = m := hm
      refine (menc_any y W hy).mono fun e w' hh => ?_
      rw [hm, encM_dec hb8 hd] at hh
      obtain ⟨a, c, k1, k2, k3⟩ := hh
      rw [hlb]
      exact ⟨a, c, k1, Sl.ofMid k2, k3⟩
end Go.Proofs.YtmhainidincjhaaGreatDoor
