/-
 What the laws stand on, part Re: contracts and plain laws of FQst2, FParts, FEncM; the conditions are each law's own.
-/
import Derived.Test.YtmhainidincjhaaGreatDoorARd
set_option linter.unusedVariables false
set_option linter.unusedSimpArgs false
set_option maxRecDepth 100000
set_option maxHeartbeats 16000000
namespace Go.Proofs.YtmhainidincjhaaGreatDoor
open Go.RowKit Go.Extern.Stop Go.Stop Go.Extern
structure RefM where
 verb:Int
 ses:Int
 rig:Int
 tk:ByteArray
 ot:ByteArray
 op:Int
 row:Int
 col:Int
 kind:Int
 q:Rat
 qs:Bool
 qa:Option Addr
 qn:Nat
 qc:Nat
 qb:Option Addr
 qm:Nat
 qd:Nat
 ea:Option Addr
 en:Nat
 ec:Nat
 vs:List VE
def RefM.cells (x:RefM):List Value:=[.int .i64 x.verb,.int .i64 x.ses,.int .i64 x.rig,.string x.tk,.string x.ot,.int .i64 x.op,.int .i64 x.row,.int .i64 x.col,.int .i64 x.kind,.bool x.qs,.slice x.qa x.qn x.qc,.slice x.qb x.qm x.qd,.slice x.ea x.en x.ec]
def RefM.ask (x:RefM):Qst:=⟨x.op,x.row,x.col,x.kind,x.q,x.vs.map VE.ent⟩
def RefM.msg (x:RefM):Msg:=⟨x.verb,natB x.tk,x.ses,x.rig,natB x.ot,x.ask⟩
def RefM.v (x:RefM):VP:=VP.rat x.q x.qs x.qa x.qn x.qc x.qb x.qm x.qd
structure RefM.ok (w:World) (x:RefM):Prop where
 v:x.v.ok w
 es:EsR w x.ea x.en x.ec x.vs
 ev:∀ e,e∈x.vs→(VP.rat e.q e.s e.a e.n e.c e.b e.m e.d).ok w
 en:x.en≤400
theorem RefM.ok.below {w w':World} {x:RefM} (h:x.ok w) (hb:Below w.heap.size w w'):x.ok w':=⟨VP.ok.below h.v hb,h.es.below hb,fun e he=>VP.ok.below (h.ev e he) hb,h.en⟩
def RefM.qps (x:RefM):List VP :=
 if x.op=1 then VP.num 1 1 12::VP.num x.kind 0 3::x.v::VP.num x.en 0 64::x.vs.flatMap VE.two
 else if x.op=2 then VP.num 2 1 12::x.v::VP.num x.en 0 64::x.vs.flatMap VE.two
 else if x.op=5 then [VP.num 5 1 12,VP.idn x.row,VP.idn x.col,x.v]
 else if x.op=7 then [VP.num 7 1 12,VP.idn x.col,x.v]
 else if x.op=6 then [VP.num 6 1 12,VP.idn x.row,x.v]
 else if x.op=8 then [VP.num 8 1 12,VP.num x.kind 0 3,VP.idn x.row]
 else if x.op=3 then [VP.num 3 1 12,VP.idn x.row]
 else if x.op=11 then [VP.num 11 1 12,VP.idn x.row]
 else if x.op=4 then [VP.num 4 1 12,VP.idn x.col]
 else if x.op=10 then [VP.num 10 1 12,VP.idn x.col]
 else [VP.num x.op 1 12]
def RefM.ps (x:RefM):List VP :=
 if x.verb=1 then VP.num 1 1 5::VP.tok x.tk::VP.idn x.ses::x.qps
 else if x.verb=3 then [VP.num 3 1 5,VP.tok x.tk,VP.idn x.ses]
 else if x.verb=4 then [VP.num 4 1 5,VP.tok x.tk,VP.num x.rig 0 255]
 else if x.verb=5 then [VP.num 5 1 5,VP.tok x.tk,VP.tok x.ot]
 else [VP.num x.verb 1 5,VP.tok x.tk]
end Go.Proofs.YtmhainidincjhaaGreatDoor
