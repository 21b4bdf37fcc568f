/-
 DERIVED: THE SHELF's CONTRACTS AT THIS DUMP, IN PLAIN WORDS (tools/lay-plain.mjs out of 'TryzShelf.lean', which tools/lay-shelf.mjs wrote): THE SAME DECLARATIONS UNDER THE SAME NAMES: 'import', 'namespace', 'open', 'def', 'theorem' AND NOTHING ELSE: no command of the shelf's: FOR A HAND-IN. Each laying: the table of numbers ('.._ren') and one theorem, a field a fact of the dump's own or the kernel's comparison; each contract: ONE APPLICATION.
-/
import Derived.Shelf.Strings.Builder1
import Derived.Shelf.Strings.BuilderF
import Derived.Shelf.Strings.Search1
import Derived.Shelf.Strings.Search2
import Derived.Shelf.Strings.Cut
import Derived.Shelf.LaysM
import Derived.Shelf.Strings.Shaped
import Derived.Shelf.Bytes.SlEqualAll
import Derived.Shelf.Bytes.Small
import Derived.Test.YtmhainidincjhaaGreatDoorProg
set_option linter.unusedVariables false
set_option linter.unusedSimpArgs false
set_option maxRecDepth 100000
set_option maxHeartbeats 16000000
namespace Go.Proofs
open Go.Shelf
def Tryz.lays169_ren : Go.Shelf.Ren := ⟨fun | 169 => 144 | n => n, fun | 70 => 248 | 9 => 9 | 0 => 0 | 72 => 250 | 37 => 32 | 127 => 300 | 3 => 3 | 5 => 5 | n => n, fun | n => n⟩
theorem Tryz.lays169 : Go.Proofs.Lays.n169 Tryz.prog Tryz.lays169_ren := {
 mixed := by kernel_rfl
 f169 := Tryz.func144.trans (congrArg some (by kernel_rfl))
 t0 := Tryz.underlying0
 a0 := Tryz.isAgg0
 z0 := Tryz.sizeOf0
 v0 := Tryz.zeroValue0
 t3 := Tryz.underlying3
 a3 := Tryz.isAgg3
 z3 := Tryz.sizeOf3
 v3 := Tryz.zeroValue3
 t9 := Tryz.underlying9
 a9 := Tryz.isAgg9
 z9 := Tryz.sizeOf9
 v9 := Tryz.zeroValue9
 t37 := Tryz.underlying32
 a37 := Tryz.isAgg32
 z37 := Tryz.sizeOf32
 v37 := Tryz.zeroValue32
 t70 := Tryz.underlying248
 a70 := Tryz.isAgg248
 z70 := Tryz.sizeOf248
 v70 := Tryz.zeroValue248
 t72 := Tryz.underlying250
 a72 := Tryz.isAgg250
 z72 := Tryz.sizeOf250
 v72 := Tryz.zeroValue250
 t127 := Tryz.underlying300
 a127 := Tryz.isAgg300
 z127 := Tryz.sizeOf300
 v127 := Tryz.zeroValue300 }
theorem Tryz.Builder_Extra_169 : Builder.Extra Tryz.prog Tryz.lays169_ren := {
 sizeBuilder := by kernel_rfl
 liesBuilder := by kernel_rfl
 t5 := Tryz.underlying5
 a5 := Tryz.isAgg5
 z5 := Tryz.sizeOf5
 v5 := Tryz.zeroValue5
 infoByte := by kernel_rfl
 cellsByte := by kernel_rfl
 sizeByte := by kernel_rfl
 neB5 := by decide }
open Go.RowKit in
theorem Tryz.Builder_String (B b : Nat) (l : List UInt8) (w : World) (h : Lib.IsBuilder 250 5 B b (Lib.byteCells l) w) (h0 : l ≠ []) :
  Calls Tryz.prog 144 #[.pointer (some ⟨b, 0, none⟩)] w fun e w' => e = .returned (.string ⟨l.toArray⟩) ∧ Below B w w' := Any.Builder_String Tryz.lays169 Tryz.Builder_Extra_169 B b l w h h0
open Go.RowKit in
theorem Tryz.Builder_String_empty (B b : Nat) (w : World) (h : Lib.IsBuilder 250 5 B b [] w) (hBw : B ≤ w.heap.size) :
  Calls Tryz.prog 144 #[.pointer (some ⟨b, 0, none⟩)] w fun e w' => e = .returned (.string ⟨#[]⟩) ∧ Below B w w' := Any.Builder_String_empty Tryz.lays169 Tryz.Builder_Extra_169 B b w h hBw
open Go.RowKit in
theorem Tryz.Builder_String_any (B b : Nat) (l : List UInt8) (w : World) (h : Lib.IsBuilder 250 5 B b (Lib.byteCells l) w) (hBw : B ≤ w.heap.size) :
  Calls Tryz.prog 144 #[.pointer (some ⟨b, 0, none⟩)] w fun e w' => e = .returned (.string ⟨l.toArray⟩) ∧ Below B w w' := Any.Builder_String_any Tryz.lays169 Tryz.Builder_Extra_169 B b l w h hBw
open Go.RowKit in
theorem Tryz.Builder_String_f (B b : Nat) (l : List UInt8) (w : World) (h : Lib.IsBuilderF 250 5 B b (Lib.byteCells l) w) (h0 : l ≠ []) :
  Calls Tryz.prog 144 #[.pointer (some ⟨b, 0, none⟩)] w fun e w' => e = .returned (.string ⟨l.toArray⟩) ∧ (Lib.IsBuilderF 250 5 B b (Lib.byteCells l) w' ∧ Below B w w') := Any.Builder_String_f Tryz.lays169 Tryz.Builder_Extra_169 B b l w h h0
open Go.RowKit in
theorem Tryz.Builder_String_empty_f (B b : Nat) (w : World) (h : Lib.IsBuilderF 250 5 B b [] w) (hBw : B ≤ w.heap.size) :
  Calls Tryz.prog 144 #[.pointer (some ⟨b, 0, none⟩)] w fun e w' => e = .returned (.string ⟨#[]⟩) ∧ (Lib.IsBuilderF 250 5 B b [] w' ∧ Below B w w') := Any.Builder_String_empty_f Tryz.lays169 Tryz.Builder_Extra_169 B b w h hBw
open Go.RowKit in
theorem Tryz.Builder_String_any_f (B b : Nat) (l : List UInt8) (w : World) (h : Lib.IsBuilderF 250 5 B b (Lib.byteCells l) w) (hBw : B ≤ w.heap.size) :
  Calls Tryz.prog 144 #[.pointer (some ⟨b, 0, none⟩)] w fun e w' => e = .returned (.string ⟨l.toArray⟩) ∧ (Lib.IsBuilderF 250 5 B b (Lib.byteCells l) w' ∧ Below B w w') := Any.Builder_String_any_f Tryz.lays169 Tryz.Builder_Extra_169 B b l w h hBw
def Tryz.lays217_ren : Go.Shelf.Ren := ⟨fun | 217 => 209 | 266 => 221 | n => n, fun | 9 => 9 | 5 => 5 | 3 => 3 | n => n, fun | n => n⟩
theorem Tryz.lays217 : Go.Proofs.Lays.n217 Tryz.prog Tryz.lays217_ren := {
 mixed := by kernel_rfl
 f217 := Tryz.func209.trans (congrArg some (by kernel_rfl))
 f266 := Tryz.func221.trans (congrArg some (by kernel_rfl))
 t3 := Tryz.underlying3
 a3 := Tryz.isAgg3
 z3 := Tryz.sizeOf3
 v3 := Tryz.zeroValue3
 t5 := Tryz.underlying5
 a5 := Tryz.isAgg5
 z5 := Tryz.sizeOf5
 v5 := Tryz.zeroValue5
 t9 := Tryz.underlying9
 a9 := Tryz.isAgg9
 z9 := Tryz.sizeOf9
 v9 := Tryz.zeroValue9 }
open Go.RowKit Go.Lib in
theorem Tryz.stringslite_IndexByte (s : ByteArray) (c : Int) (w : World) :
  Calls Tryz.prog 209 #[.string s, .int .u8 c] w fun e w' => e = .returned (.int .i64 (Lib.indexByte s.data.toList c.toNat.toUInt8)) ∧ w' = w := Any.stringslite_IndexByte Tryz.lays217 s c w
def Tryz.lays224_ren : Go.Shelf.Ren := ⟨fun | 224 => 211 | n => n, fun | 3 => 3 | n => n, fun | n => n⟩
theorem Tryz.lays224 : Go.Proofs.Lays.n224 Tryz.prog Tryz.lays224_ren := {
 mixed := by kernel_rfl
 f224 := Tryz.func211.trans (congrArg some (by kernel_rfl))
 t3 := Tryz.underlying3
 a3 := Tryz.isAgg3
 z3 := Tryz.sizeOf3
 v3 := Tryz.zeroValue3 }
open Go.RowKit Go.Lib in
theorem Tryz.bytealg_Cutover (n : Int) (h0 : 0 ≤ n) (h1 : n < 4611686018427387904) (w : World) :
  Calls Tryz.prog 211 #[.int .i64 n] w fun e w' => e = .returned (.int .i64 ((n + 16) / 8)) ∧ w' = w := Any.bytealg_Cutover Tryz.lays224 n h0 h1 w
def Tryz.lays314_ren : Go.Shelf.Ren := ⟨fun | 314 => 222 | n => n, fun | 9 => 9 | 51 => 329 | 3 => 3 | 4 => 4 | 5 => 5 | 46 => 217 | n => n, fun | n => n⟩
theorem Tryz.lays314 : Go.Proofs.Lays.n314 Tryz.prog Tryz.lays314_ren := {
 mixed := by kernel_rfl
 f314 := Tryz.func222.trans (congrArg some (by kernel_rfl))
 t3 := Tryz.underlying3
 a3 := Tryz.isAgg3
 z3 := Tryz.sizeOf3
 v3 := Tryz.zeroValue3
 t4 := Tryz.underlying4
 a4 := Tryz.isAgg4
 z4 := Tryz.sizeOf4
 v4 := Tryz.zeroValue4
 t5 := Tryz.underlying5
 a5 := Tryz.isAgg5
 z5 := Tryz.sizeOf5
 v5 := Tryz.zeroValue5
 t9 := Tryz.underlying9
 a9 := Tryz.isAgg9
 z9 := Tryz.sizeOf9
 v9 := Tryz.zeroValue9
 t46 := Tryz.underlying217
 a46 := Tryz.isAgg217
 z46 := Tryz.sizeOf217
 v46 := Tryz.zeroValue217
 t51 := Tryz.underlying329
 a51 := Tryz.isAgg329
 z51 := Tryz.sizeOf329
 v51 := Tryz.zeroValue329 }
open Go.RowKit Go.Lib in
theorem Tryz.bytealg_hashStr (sep : ByteArray) (hs : sep.size < 4294967281) (w : World) :
  Calls Tryz.prog 222 #[.string sep] w fun e w' => e = .returned (.tuple #[.int .u32 (RK.H sep.data.toList % 4294967296), .int .u32 (16777619 ^ sep.size % 4294967296)]) ∧ w' = w := Any.bytealg_hashStr Tryz.lays314 sep hs w
def Tryz.lays267_ren : Go.Shelf.Ren := ⟨fun | 267 => 212 | 314 => 222 | n => n, fun | 9 => 9 | 3 => 3 | 146 => 330 | 51 => 329 | 4 => 4 | 5 => 5 | 46 => 217 | n => n, fun | n => n⟩
theorem Tryz.lays267 : Go.Proofs.Lays.n267 Tryz.prog Tryz.lays267_ren := {
 mixed := by kernel_rfl
 f267 := Tryz.func212.trans (congrArg some (by kernel_rfl))
 f314 := Tryz.func222.trans (congrArg some (by kernel_rfl))
 t3 := Tryz.underlying3
 a3 := Tryz.isAgg3
 z3 := Tryz.sizeOf3
 v3 := Tryz.zeroValue3
 t4 := Tryz.underlying4
 a4 := Tryz.isAgg4
 z4 := Tryz.sizeOf4
 v4 := Tryz.zeroValue4
 t5 := Tryz.underlying5
 a5 := Tryz.isAgg5
 z5 := Tryz.sizeOf5
 v5 := Tryz.zeroValue5
 t9 := Tryz.underlying9
 a9 := Tryz.isAgg9
 z9 := Tryz.sizeOf9
 v9 := Tryz.zeroValue9
 t46 := Tryz.underlying217
 a46 := Tryz.isAgg217
 z46 := Tryz.sizeOf217
 v46 := Tryz.zeroValue217
 t51 := Tryz.underlying329
 a51 := Tryz.isAgg329
 z51 := Tryz.sizeOf329
 v51 := Tryz.zeroValue329
 t146 := Tryz.underlying330
 a146 := Tryz.isAgg330
 z146 := Tryz.sizeOf330
 v146 := Tryz.zeroValue330 }
open Go.RowKit Go.Lib in
theorem Tryz.bytealg_IndexRabinKarp (s sep : ByteArray) (h1 : 1 ≤ sep.size) (h2 : sep.size ≤ s.size) (hs : s.size < 4294967281) (w : World) :
  Calls Tryz.prog 212 #[.string s, .string sep] w fun e w' => e = .returned (.int .i64 (Lib.index s.data.toList sep.data.toList)) ∧ w' = w := Any.bytealg_IndexRabinKarp Tryz.lays267 s sep h1 h2 hs w
def Tryz.lays219_ren : Go.Shelf.Ren := ⟨fun | 219 => 190 | 217 => 209 | 225 => 210 | 224 => 211 | 267 => 212 | 266 => 221 | 314 => 222 | n => n, fun | 9 => 9 | 3 => 3 | 4 => 4 | 5 => 5 | 46 => 217 | 146 => 330 | 51 => 329 | n => n, fun | 1 => 1 | n => n⟩
theorem Tryz.lays219 : Go.Proofs.Lays.n219 Tryz.prog Tryz.lays219_ren := {
 mixed := by kernel_rfl
 f217 := Tryz.func209.trans (congrArg some (by kernel_rfl))
 f219 := Tryz.func190.trans (congrArg some (by kernel_rfl))
 f224 := Tryz.func211.trans (congrArg some (by kernel_rfl))
 f225 := Tryz.func210.trans (congrArg some (by kernel_rfl))
 f266 := Tryz.func221.trans (congrArg some (by kernel_rfl))
 f267 := Tryz.func212.trans (congrArg some (by kernel_rfl))
 f314 := Tryz.func222.trans (congrArg some (by kernel_rfl))
 t3 := Tryz.underlying3
 a3 := Tryz.isAgg3
 z3 := Tryz.sizeOf3
 v3 := Tryz.zeroValue3
 t4 := Tryz.underlying4
 a4 := Tryz.isAgg4
 z4 := Tryz.sizeOf4
 v4 := Tryz.zeroValue4
 t5 := Tryz.underlying5
 a5 := Tryz.isAgg5
 z5 := Tryz.sizeOf5
 v5 := Tryz.zeroValue5
 t9 := Tryz.underlying9
 a9 := Tryz.isAgg9
 z9 := Tryz.sizeOf9
 v9 := Tryz.zeroValue9
 t46 := Tryz.underlying217
 a46 := Tryz.isAgg217
 z46 := Tryz.sizeOf217
 v46 := Tryz.zeroValue217
 t51 := Tryz.underlying329
 a51 := Tryz.isAgg329
 z51 := Tryz.sizeOf329
 v51 := Tryz.zeroValue329
 t146 := Tryz.underlying330
 a146 := Tryz.isAgg330
 z146 := Tryz.sizeOf330
 v146 := Tryz.zeroValue330
 g1 := by kernel_rfl }
open Go.RowKit Go.Lib in
theorem Tryz.stringslite_Index_one (s : ByteArray) (c : UInt8) (w : World) :
  Calls Tryz.prog 190 #[.string s, .string ⟨#[c]⟩] w fun e w' => e = .returned (.int .i64 (Lib.indexByte s.data.toList c)) ∧ w' = w := Any.stringslite_Index_one Tryz.lays219 s c w
open Go.RowKit Go.Lib in
theorem Tryz.stringslite_Index (s sub : ByteArray) (m : Int) (w : World) (hs : s.size < 4294967281) (hm : w.cell? ⟨1, 0, none⟩ = some (.int .i64 m)) :
  Calls Tryz.prog 190 #[.string s, .string sub] w fun e w' => e = .returned (.int .i64 (Lib.index s.data.toList sub.data.toList)) ∧ w' = w := Any.stringslite_Index Tryz.lays219 s sub m w hs hm
def Tryz.lays220_ren : Go.Shelf.Ren := ⟨fun | 220 => 152 | 219 => 190 | 217 => 209 | 225 => 210 | 224 => 211 | 267 => 212 | 266 => 221 | 314 => 222 | n => n, fun | 9 => 9 | 4 => 4 | 3 => 3 | 5 => 5 | 46 => 217 | 146 => 330 | 51 => 329 | n => n, fun | 1 => 1 | n => n⟩
theorem Tryz.lays220 : Go.Proofs.Lays.n220 Tryz.prog Tryz.lays220_ren := {
 mixed := by kernel_rfl
 f217 := Tryz.func209.trans (congrArg some (by kernel_rfl))
 f219 := Tryz.func190.trans (congrArg some (by kernel_rfl))
 f220 := Tryz.func152.trans (congrArg some (by kernel_rfl))
 f224 := Tryz.func211.trans (congrArg some (by kernel_rfl))
 f225 := Tryz.func210.trans (congrArg some (by kernel_rfl))
 f266 := Tryz.func221.trans (congrArg some (by kernel_rfl))
 f267 := Tryz.func212.trans (congrArg some (by kernel_rfl))
 f314 := Tryz.func222.trans (congrArg some (by kernel_rfl))
 t3 := Tryz.underlying3
 a3 := Tryz.isAgg3
 z3 := Tryz.sizeOf3
 v3 := Tryz.zeroValue3
 t4 := Tryz.underlying4
 a4 := Tryz.isAgg4
 z4 := Tryz.sizeOf4
 v4 := Tryz.zeroValue4
 t5 := Tryz.underlying5
 a5 := Tryz.isAgg5
 z5 := Tryz.sizeOf5
 v5 := Tryz.zeroValue5
 t9 := Tryz.underlying9
 a9 := Tryz.isAgg9
 z9 := Tryz.sizeOf9
 v9 := Tryz.zeroValue9
 t46 := Tryz.underlying217
 a46 := Tryz.isAgg217
 z46 := Tryz.sizeOf217
 v46 := Tryz.zeroValue217
 t51 := Tryz.underlying329
 a51 := Tryz.isAgg329
 z51 := Tryz.sizeOf329
 v51 := Tryz.zeroValue329
 t146 := Tryz.underlying330
 a146 := Tryz.isAgg330
 z146 := Tryz.sizeOf330
 v146 := Tryz.zeroValue330
 g1 := by kernel_rfl }
open Go.RowKit Go.Lib in
theorem Tryz.stringslite_Cut (s sep : ByteArray) (m : Int) (w : World) (hs : s.size < 4294967281) (hm : w.cell? ⟨1, 0, none⟩ = some (.int .i64 m)) :
  Calls Tryz.prog 152 #[.string s, .string sep] w fun e w' => e = .returned (.tuple #[.string ⟨(Lib.cut s.data.toList sep.data.toList).1.toArray⟩, .string ⟨(Lib.cut s.data.toList sep.data.toList).2.1.toArray⟩, .bool (Lib.cut s.data.toList sep.data.toList).2.2]) ∧ ∃ n, w' = w.drewN n := Any.stringslite_Cut Tryz.lays220 s sep m w hs hm
def Tryz.lays145_ren : Go.Shelf.Ren := ⟨fun | 145 => 89 | 220 => 152 | 219 => 190 | 217 => 209 | 225 => 210 | 224 => 211 | 267 => 212 | 266 => 221 | 314 => 222 | n => n, fun | 9 => 9 | 4 => 4 | 59 => 185 | 3 => 3 | 5 => 5 | 46 => 217 | 146 => 330 | 51 => 329 | n => n, fun | 1 => 1 | n => n⟩
theorem Tryz.lays145 : Go.Proofs.Lays.n145 Tryz.prog Tryz.lays145_ren := {
 mixed := by kernel_rfl
 f145 := Tryz.func89.trans (congrArg some (by kernel_rfl))
 f217 := Tryz.func209.trans (congrArg some (by kernel_rfl))
 f219 := Tryz.func190.trans (congrArg some (by kernel_rfl))
 f220 := Tryz.func152.trans (congrArg some (by kernel_rfl))
 f224 := Tryz.func211.trans (congrArg some (by kernel_rfl))
 f225 := Tryz.func210.trans (congrArg some (by kernel_rfl))
 f266 := Tryz.func221.trans (congrArg some (by kernel_rfl))
 f267 := Tryz.func212.trans (congrArg some (by kernel_rfl))
 f314 := Tryz.func222.trans (congrArg some (by kernel_rfl))
 t3 := Tryz.underlying3
 a3 := Tryz.isAgg3
 z3 := Tryz.sizeOf3
 v3 := Tryz.zeroValue3
 t4 := Tryz.underlying4
 a4 := Tryz.isAgg4
 z4 := Tryz.sizeOf4
 v4 := Tryz.zeroValue4
 t5 := Tryz.underlying5
 a5 := Tryz.isAgg5
 z5 := Tryz.sizeOf5
 v5 := Tryz.zeroValue5
 t9 := Tryz.underlying9
 a9 := Tryz.isAgg9
 z9 := Tryz.sizeOf9
 v9 := Tryz.zeroValue9
 t46 := Tryz.underlying217
 a46 := Tryz.isAgg217
 z46 := Tryz.sizeOf217
 v46 := Tryz.zeroValue217
 t51 := Tryz.underlying329
 a51 := Tryz.isAgg329
 z51 := Tryz.sizeOf329
 v51 := Tryz.zeroValue329
 t59 := Tryz.underlying185
 a59 := Tryz.isAgg185
 z59 := Tryz.sizeOf185
 v59 := Tryz.zeroValue185
 t146 := Tryz.underlying330
 a146 := Tryz.isAgg330
 z146 := Tryz.sizeOf330
 v146 := Tryz.zeroValue330
 g1 := by kernel_rfl }
open Go.RowKit Go.Lib in
theorem Tryz.strings_Cut (s sep : ByteArray) (m : Int) (w : World) (hs : s.size < 4294967281) (hm : w.cell? ⟨1, 0, none⟩ = some (.int .i64 m)) :
  Calls Tryz.prog 89 #[.string s, .string sep] w fun e w' => e = .returned (.tuple #[.string ⟨(Lib.cut s.data.toList sep.data.toList).1.toArray⟩, .string ⟨(Lib.cut s.data.toList sep.data.toList).2.1.toArray⟩, .bool (Lib.cut s.data.toList sep.data.toList).2.2]) ∧ ∃ n, w' = w.drewN n := Any.strings_Cut Tryz.lays145 s sep m w hs hm
def Tryz.laysM219_ren : Go.Shelf.Ren := ⟨fun | 219 => 190 | 217 => 209 | 225 => 210 | 224 => 211 | 267 => 212 | 266 => 221 | 314 => 222 | n => n, fun | 9 => 9 | 3 => 3 | 4 => 4 | 5 => 5 | 46 => 217 | 146 => 330 | 51 => 329 | n => n, fun | 1 => 1 | n => n⟩
theorem Tryz.laysM219 : Go.Proofs.LaysM.n219 Tryz.prog Tryz.laysM219_ren := {
 mixed := by kernel_rfl
 f217 := Tryz.func209.trans (congrArg some (by kernel_rfl))
 f219 := Tryz.func190.trans (congrArg some (by kernel_rfl))
 f224 := Tryz.func211.trans (congrArg some (by kernel_rfl))
 f225 := Tryz.func210.trans (congrArg some (by kernel_rfl))
 f266 := Tryz.func221.trans (congrArg some (by kernel_rfl))
 f267 := Tryz.func212.trans (congrArg some (by kernel_rfl))
 f314 := Tryz.func222.trans (congrArg some (by kernel_rfl))
 t3 := Tryz.underlying3
 a3 := Tryz.isAgg3
 z3 := Tryz.sizeOf3
 v3 := Tryz.zeroValue3
 t4 := Tryz.underlying4
 a4 := Tryz.isAgg4
 z4 := Tryz.sizeOf4
 v4 := Tryz.zeroValue4
 t5 := Tryz.underlying5
 a5 := Tryz.isAgg5
 z5 := Tryz.sizeOf5
 v5 := Tryz.zeroValue5
 t9 := Tryz.underlying9
 a9 := Tryz.isAgg9
 z9 := Tryz.sizeOf9
 v9 := Tryz.zeroValue9
 t46 := Tryz.underlying217
 a46 := Tryz.isAgg217
 z46 := Tryz.sizeOf217
 v46 := Tryz.zeroValue217
 t51 := Tryz.underlying329
 a51 := Tryz.isAgg329
 z51 := Tryz.sizeOf329
 v51 := Tryz.zeroValue329
 t146 := Tryz.underlying330
 a146 := Tryz.isAgg330
 z146 := Tryz.sizeOf330
 v146 := Tryz.zeroValue330
 g1 := by kernel_rfl
 i3 := by kernel_rfl
 i4 := by kernel_rfl
 i5 := by kernel_rfl
 i9 := by kernel_rfl
 i46 := by kernel_rfl
 i51 := by kernel_rfl
 i146 := by kernel_rfl
 m1 := by kernel_rfl
 s1_3 := fun w h => Go.Proofs.cell_of_shapedOpen_int (zero := #[.int .i64 0]) (t := 3) h (of_decide_eq_true (by kernel_rfl)) (by kernel_rfl) rfl (by kernel_rfl) (by kernel_rfl) Tryz.underlying3 }
open Go.RowKit Go.Lib in
theorem Tryz.stringslite_Index_shaped (s sub : ByteArray) (w : World) (h : w.ShapedOpen Tryz.prog) (hs : s.size < 4294967281) :
  Calls Tryz.prog 190 #[.string s, .string sub] w fun e w' => e = .returned (.int .i64 (Lib.index s.data.toList sub.data.toList)) ∧ w' = w := Any.stringslite_Index_shaped Tryz.laysM219 s sub w h hs
def Tryz.laysM220_ren : Go.Shelf.Ren := ⟨fun | 220 => 152 | 219 => 190 | 217 => 209 | 225 => 210 | 224 => 211 | 267 => 212 | 266 => 221 | 314 => 222 | n => n, fun | 9 => 9 | 4 => 4 | 3 => 3 | 5 => 5 | 46 => 217 | 146 => 330 | 51 => 329 | n => n, fun | 1 => 1 | n => n⟩
theorem Tryz.laysM220 : Go.Proofs.LaysM.n220 Tryz.prog Tryz.laysM220_ren := {
 mixed := by kernel_rfl
 f217 := Tryz.func209.trans (congrArg some (by kernel_rfl))
 f219 := Tryz.func190.trans (congrArg some (by kernel_rfl))
 f220 := Tryz.func152.trans (congrArg some (by kernel_rfl))
 f224 := Tryz.func211.trans (congrArg some (by kernel_rfl))
 f225 := Tryz.func210.trans (congrArg some (by kernel_rfl))
 f266 := Tryz.func221.trans (congrArg some (by kernel_rfl))
 f267 := Tryz.func212.trans (congrArg some (by kernel_rfl))
 f314 := Tryz.func222.trans (congrArg some (by kernel_rfl))
 t3 := Tryz.underlying3
 a3 := Tryz.isAgg3
 z3 := Tryz.sizeOf3
 v3 := Tryz.zeroValue3
 t4 := Tryz.underlying4
 a4 := Tryz.isAgg4
 z4 := Tryz.sizeOf4
 v4 := Tryz.zeroValue4
 t5 := Tryz.underlying5
 a5 := Tryz.isAgg5
 z5 := Tryz.sizeOf5
 v5 := Tryz.zeroValue5
 t9 := Tryz.underlying9
 a9 := Tryz.isAgg9
 z9 := Tryz.sizeOf9
 v9 := Tryz.zeroValue9
 t46 := Tryz.underlying217
 a46 := Tryz.isAgg217
 z46 := Tryz.sizeOf217
 v46 := Tryz.zeroValue217
 t51 := Tryz.underlying329
 a51 := Tryz.isAgg329
 z51 := Tryz.sizeOf329
 v51 := Tryz.zeroValue329
 t146 := Tryz.underlying330
 a146 := Tryz.isAgg330
 z146 := Tryz.sizeOf330
 v146 := Tryz.zeroValue330
 g1 := by kernel_rfl
 i3 := by kernel_rfl
 i4 := by kernel_rfl
 i5 := by kernel_rfl
 i9 := by kernel_rfl
 i46 := by kernel_rfl
 i51 := by kernel_rfl
 i146 := by kernel_rfl
 m1 := by kernel_rfl
 s1_3 := fun w h => Go.Proofs.cell_of_shapedOpen_int (zero := #[.int .i64 0]) (t := 3) h (of_decide_eq_true (by kernel_rfl)) (by kernel_rfl) rfl (by kernel_rfl) (by kernel_rfl) Tryz.underlying3 }
open Go.RowKit Go.Lib in
theorem Tryz.stringslite_Cut_shaped (s sep : ByteArray) (w : World) (h : w.ShapedOpen Tryz.prog) (hs : s.size < 4294967281) :
  Calls Tryz.prog 152 #[.string s, .string sep] w fun e w' => e = .returned (.tuple #[.string ⟨(Lib.cut s.data.toList sep.data.toList).1.toArray⟩, .string ⟨(Lib.cut s.data.toList sep.data.toList).2.1.toArray⟩, .bool (Lib.cut s.data.toList sep.data.toList).2.2]) ∧ ∃ n, w' = w.drewN n := Any.stringslite_Cut_shaped Tryz.laysM220 s sep w h hs
def Tryz.laysM145_ren : Go.Shelf.Ren := ⟨fun | 145 => 89 | 220 => 152 | 219 => 190 | 217 => 209 | 225 => 210 | 224 => 211 | 267 => 212 | 266 => 221 | 314 => 222 | n => n, fun | 9 => 9 | 4 => 4 | 59 => 185 | 3 => 3 | 5 => 5 | 46 => 217 | 146 => 330 | 51 => 329 | n => n, fun | 1 => 1 | n => n⟩
theorem Tryz.laysM145 : Go.Proofs.LaysM.n145 Tryz.prog Tryz.laysM145_ren := {
 mixed := by kernel_rfl
 f145 := Tryz.func89.trans (congrArg some (by kernel_rfl))
 f217 := Tryz.func209.trans (congrArg some (by kernel_rfl))
 f219 := Tryz.func190.trans (congrArg some (by kernel_rfl))
 f220 := Tryz.func152.trans (congrArg some (by kernel_rfl))
 f224 := Tryz.func211.trans (congrArg some (by kernel_rfl))
 f225 := Tryz.func210.trans (congrArg some (by kernel_rfl))
 f266 := Tryz.func221.trans (congrArg some (by kernel_rfl))
 f267 := Tryz.func212.trans (congrArg some (by kernel_rfl))
 f314 := Tryz.func222.trans (congrArg some (by kernel_rfl))
 t3 := Tryz.underlying3
 a3 := Tryz.isAgg3
 z3 := Tryz.sizeOf3
 v3 := Tryz.zeroValue3
 t4 := Tryz.underlying4
 a4 := Tryz.isAgg4
 z4 := Tryz.sizeOf4
 v4 := Tryz.zeroValue4
 t5 := Tryz.underlying5
 a5 := Tryz.isAgg5
 z5 := Tryz.sizeOf5
 v5 := Tryz.zeroValue5
 t9 := Tryz.underlying9
 a9 := Tryz.isAgg9
 z9 := Tryz.sizeOf9
 v9 := Tryz.zeroValue9
 t46 := Tryz.underlying217
 a46 := Tryz.isAgg217
 z46 := Tryz.sizeOf217
 v46 := Tryz.zeroValue217
 t51 := Tryz.underlying329
 a51 := Tryz.isAgg329
 z51 := Tryz.sizeOf329
 v51 := Tryz.zeroValue329
 t59 := Tryz.underlying185
 a59 := Tryz.isAgg185
 z59 := Tryz.sizeOf185
 v59 := Tryz.zeroValue185
 t146 := Tryz.underlying330
 a146 := Tryz.isAgg330
 z146 := Tryz.sizeOf330
 v146 := Tryz.zeroValue330
 g1 := by kernel_rfl
 i3 := by kernel_rfl
 i4 := by kernel_rfl
 i5 := by kernel_rfl
 i9 := by kernel_rfl
 i46 := by kernel_rfl
 i51 := by kernel_rfl
 i59 := by kernel_rfl
 i146 := by kernel_rfl
 m1 := by kernel_rfl
 s1_3 := fun w h => Go.Proofs.cell_of_shapedOpen_int (zero := #[.int .i64 0]) (t := 3) h (of_decide_eq_true (by kernel_rfl)) (by kernel_rfl) rfl (by kernel_rfl) (by kernel_rfl) Tryz.underlying3 }
open Go.RowKit Go.Lib in
theorem Tryz.strings_Cut_shaped (s sep : ByteArray) (w : World) (h : w.ShapedOpen Tryz.prog) (hs : s.size < 4294967281) :
  Calls Tryz.prog 89 #[.string s, .string sep] w fun e w' => e = .returned (.tuple #[.string ⟨(Lib.cut s.data.toList sep.data.toList).1.toArray⟩, .string ⟨(Lib.cut s.data.toList sep.data.toList).2.1.toArray⟩, .bool (Lib.cut s.data.toList sep.data.toList).2.2]) ∧ ∃ n, w' = w.drewN n := Any.strings_Cut_shaped Tryz.laysM145 s sep w h hs
def Tryz.laysnb115_ren : Go.Shelf.Ren := ⟨fun | 115 => 119 | n => n, fun | 37 => 32 | 4 => 4 | 9 => 9 | 5 => 5 | n => n, fun | n => n⟩
theorem Tryz.laysnb115 : Go.Proofs.Lays.nb115 Tryz.prog Tryz.laysnb115_ren := {
 mixed := by kernel_rfl
 f115 := Tryz.func119.trans (congrArg some (by kernel_rfl))
 t4 := Tryz.underlying4
 a4 := Tryz.isAgg4
 z4 := Tryz.sizeOf4
 v4 := Tryz.zeroValue4
 t9 := Tryz.underlying9
 a9 := Tryz.isAgg9
 z9 := Tryz.sizeOf9
 v9 := Tryz.zeroValue9
 t37 := Tryz.underlying32
 a37 := Tryz.isAgg32
 z37 := Tryz.sizeOf32
 v37 := Tryz.zeroValue32
 t5 := Tryz.underlying5
 a5 := Tryz.isAgg5
 z5 := Tryz.sizeOf5
 v5 := Tryz.zeroValue5 }
theorem Tryz.bytes_Equal_all (p1 p2 : Option Addr) (n c m d : Nat) (xs ys : List Int) (w : World) (hx : xs.length = n) (hy : ys.length = m) (h1 : Lib.BytesIn w p1 n xs) (h2 : Lib.BytesIn w p2 m ys) :
  Calls Tryz.prog 119 #[.slice p1 n c, .slice p2 m d] w fun e w' => e = .returned (.bool (Lib.bytesOf xs == Lib.bytesOf ys)) ∧ w' = w := Any.bytes_Equal_all Tryz.laysnb115 p1 p2 n c m d xs ys w hx hy h1 h2
def Tryz.lays115_ren : Go.Shelf.Ren := ⟨fun | 115 => 119 | n => n, fun | 37 => 32 | 4 => 4 | 9 => 9 | 5 => 5 | n => n, fun | n => n⟩
theorem Tryz.lays115 : Go.Proofs.Lays.n115 Tryz.prog Tryz.lays115_ren := {
 mixed := by kernel_rfl
 f115 := Tryz.func119.trans (congrArg some (by kernel_rfl))
 t4 := Tryz.underlying4
 a4 := Tryz.isAgg4
 z4 := Tryz.sizeOf4
 v4 := Tryz.zeroValue4
 t9 := Tryz.underlying9
 a9 := Tryz.isAgg9
 z9 := Tryz.sizeOf9
 v9 := Tryz.zeroValue9
 t37 := Tryz.underlying32
 a37 := Tryz.isAgg32
 z37 := Tryz.sizeOf32
 v37 := Tryz.zeroValue32 }
theorem Tryz.bytes_Equal (v1 v2 : Value) (xs ys : List Int) (w : World) (h1 : (convert 32 9 v1).run Tryz.prog w = .ok (.string (strOfNums xs)) w) (h2 : (convert 32 9 v2).run Tryz.prog w = .ok (.string (strOfNums ys)) w) :
  Calls Tryz.prog 119 #[v1, v2] w fun e w' => e = .returned (.bool (Lib.bytesOf xs == Lib.bytesOf ys)) ∧ w' = w := Any.bytes_Equal Tryz.lays115 v1 v2 xs ys w h1 h2
end Go.Proofs
