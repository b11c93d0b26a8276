/-
  DERIVED: THE SHELF's CONTRACTS AT THIS DUMP, IN PLAIN WORDS (tools/lay-plain.mjs out of 'YtappfhjknihboaaGreatDoorShelfT.lean', which tools/lay-shelf.mjs wrote): THE SAME DECLARATIONS UNDER THE SAME NAMES: 'import', 'namespace', 'open', 'def', 'theorem' AND NOTHING ELSE: no command of the shelf's: FOR A HAND-IN. Each laying: the table of numbers ('.._ren') and one theorem, a field a fact of the dump's own or the kernel's comparison; each contract: ONE APPLICATION.
-/
import Derived.Shelf.Strings.Prefix
import Derived.Shelf.Strings.Fields
import Derived.Shelf.Slices.Turned
import Derived.Test.YtappfhjknihboaaGreatDoorProg
namespace Go.Proofs
open Go.Shelf
def Tryz.lays99_ren : Go.Shelf.Ren := ⟨fun | 99 => 99 | 206 => 123 | n => n, fun | 9 => 9 | 4 => 4 | 3 => 3 | n => n, fun | n => n⟩
theorem Tryz.lays99 : Go.Proofs.Lays.n99 Tryz.prog Tryz.lays99_ren := {
  mixed := by kernel_rfl
  f99 := Tryz.func99.trans (congrArg some (by kernel_rfl))
  f206 := Tryz.func123.trans (congrArg some (by kernel_rfl))
  t3 := Tryz.underlying3
  a3 := Tryz.isAgg3
  z3 := Tryz.sizeOf3
  v3 := Tryz.zeroValue3
  t4 := Tryz.underlying4
  a4 := Tryz.isAgg4
  z4 := Tryz.sizeOf4
  v4 := Tryz.zeroValue4
  t9 := Tryz.underlying9
  a9 := Tryz.isAgg9
  z9 := Tryz.sizeOf9
  v9 := Tryz.zeroValue9 }
open Go.RowKit Go.Lib in
/-- strings.HasPrefix: "HasPrefix reports whether the string s begins with prefix.": IT RETURNS 'Lib.hasPrefix s prefix'; the world is as it was. (LAID: no walk: one application.) -/
theorem Tryz.strings_HasPrefix (s p : ByteArray) (w : World) :
    Calls Tryz.prog 99 #[.string s, .string p] w fun e w' => e = .returned (.bool (Lib.hasPrefix s.data.toList p.data.toList)) ∧ w' = w := Any.strings_HasPrefix Tryz.lays99 s p w
def Tryz.lays157_ren : Go.Shelf.Ren := ⟨fun | 157 => 107 | 229 => 129 | 199 => 130 | 261 => 142 | 311 => 146 | 312 => 147 | n => n, fun | 9 => 9 | 31 => 50 | 3 => 3 | 5 => 5 | 4 => 4 | 119 => 134 | 0 => 0 | 40 => 136 | 152 => 145 | 21 => 21 | 154 => 147 | 51 => 148 | 141 => 150 | 196 => 156 | 193 => 153 | 198 => 159 | 49 => 157 | 194 => 154 | 201 => 162 | 226 => 165 | 46 => 164 | 227 => 166 | n => n, fun | 0 => 0 | 6 => 1 | n => n⟩
theorem Tryz.lays157 : Go.Proofs.Lays.n157 Tryz.prog Tryz.lays157_ren := {
  mixed := by kernel_rfl
  f157 := Tryz.func107.trans (congrArg some (by kernel_rfl))
  f199 := Tryz.func130.trans (congrArg some (by kernel_rfl))
  f229 := Tryz.func129.trans (congrArg some (by kernel_rfl))
  f261 := Tryz.func142.trans (congrArg some (by kernel_rfl))
  f311 := Tryz.func146.trans (congrArg some (by kernel_rfl))
  f312 := Tryz.func147.trans (congrArg some (by kernel_rfl))
  t0 := Tryz.underlying0
  a0 := Tryz.isAgg0
  z0 := Tryz.sizeOf0
  v0 := Tryz.zeroValue0
  t3 := Tryz.underlying3
  a3 := Tryz.isAgg3
  z3 := Tryz.sizeOf3
  v3 := Tryz.zeroValue3
  t4 := Tryz.underlying4
  a4 := Tryz.isAgg4
  z4 := Tryz.sizeOf4
  v4 := Tryz.zeroValue4
  t5 := Tryz.underlying5
  a5 := Tryz.isAgg5
  z5 := Tryz.sizeOf5
  v5 := Tryz.zeroValue5
  t9 := Tryz.underlying9
  a9 := Tryz.isAgg9
  z9 := Tryz.sizeOf9
  v9 := Tryz.zeroValue9
  t21 := Tryz.underlying21
  a21 := Tryz.isAgg21
  z21 := Tryz.sizeOf21
  v21 := Tryz.zeroValue21
  t31 := Tryz.underlying50
  a31 := Tryz.isAgg50
  z31 := Tryz.sizeOf50
  v31 := Tryz.zeroValue50
  t40 := Tryz.underlying136
  a40 := Tryz.isAgg136
  z40 := Tryz.sizeOf136
  v40 := Tryz.zeroValue136
  t46 := Tryz.underlying164
  a46 := Tryz.isAgg164
  z46 := Tryz.sizeOf164
  v46 := Tryz.zeroValue164
  t49 := Tryz.underlying157
  a49 := Tryz.isAgg157
  z49 := Tryz.sizeOf157
  v49 := Tryz.zeroValue157
  t51 := Tryz.underlying148
  a51 := Tryz.isAgg148
  z51 := Tryz.sizeOf148
  v51 := Tryz.zeroValue148
  t119 := Tryz.underlying134
  a119 := Tryz.isAgg134
  z119 := Tryz.sizeOf134
  t141 := Tryz.underlying150
  a141 := Tryz.isAgg150
  z141 := Tryz.sizeOf150
  v141 := Tryz.zeroValue150
  t152 := Tryz.underlying145
  a152 := Tryz.isAgg145
  z152 := Tryz.sizeOf145
  v152 := Tryz.zeroValue145
  t154 := Tryz.underlying147
  a154 := Tryz.isAgg147
  z154 := Tryz.sizeOf147
  v154 := Tryz.zeroValue147
  t193 := Tryz.underlying153
  a193 := Tryz.isAgg153
  z193 := Tryz.sizeOf153
  v193 := Tryz.zeroValue153
  t194 := Tryz.underlying154
  a194 := Tryz.isAgg154
  z194 := Tryz.sizeOf154
  v194 := Tryz.zeroValue154
  t196 := Tryz.underlying156
  a196 := Tryz.isAgg156
  z196 := Tryz.sizeOf156
  v196 := Tryz.zeroValue156
  t198 := Tryz.underlying159
  a198 := Tryz.isAgg159
  z198 := Tryz.sizeOf159
  v198 := Tryz.zeroValue159
  t201 := Tryz.underlying162
  a201 := Tryz.isAgg162
  z201 := Tryz.sizeOf162
  v201 := Tryz.zeroValue162
  t226 := Tryz.underlying165
  a226 := Tryz.isAgg165
  z226 := Tryz.sizeOf165
  v226 := Tryz.zeroValue165
  t227 := Tryz.underlying166
  a227 := Tryz.isAgg166
  z227 := Tryz.sizeOf166
  v227 := Tryz.zeroValue166
  g0 := by kernel_rfl
  g6 := by kernel_rfl }
open Go.RowKit Go.Lib in
/-- strings.Fields, the table by 'Lib.TabIs' (as strings.TrimSpace's contract). 'hg': the table's number, by its name: at a dump 'by kernel_rfl'. (LAID: no walk: one application.) -/
theorem Tryz.strings_Fields (s : ByteArray) (w : World) (hs : s.size < 4294967281) (hascii : ∀ (j : Nat) b, s.data.toList[j]? = some b → b.toNat < 128) (htab : Lib.TabIs Tryz.prog w "strings.asciiSpace" .u8 Lib.asciiSpaceTab) :
    Calls Tryz.prog 107 #[.string s] w fun e w' =>
      e = .returned (.slice (some ⟨w.heap.size, 0, none⟩) (Lib.fields s.data.toList).length (Lib.fields s.data.toList).length) ∧ w' = w.alloc (.cells ((Lib.fields s.data.toList).map fun l => Value.string ⟨l.toArray⟩).toArray 9) := Any.strings_Fields Tryz.lays157 (by kernel_rfl) (by kernel_rfl) s w hs hascii htab
def Tryz.lays110_ren : Go.Shelf.Ren := ⟨fun | 110 => 120 | 109 => 139 | n => n, fun | 31 => 50 | 9 => 9 | 4 => 4 | 3 => 3 | 0 => 0 | n => n, fun | n => n⟩
theorem Tryz.lays110 : Go.Proofs.Lays.n110 Tryz.prog Tryz.lays110_ren := {
  mixed := by kernel_rfl
  f109 := Tryz.func139.trans (congrArg some (by kernel_rfl))
  f110 := Tryz.func120.trans (congrArg some (by kernel_rfl))
  t0 := Tryz.underlying0
  a0 := Tryz.isAgg0
  z0 := Tryz.sizeOf0
  v0 := Tryz.zeroValue0
  t3 := Tryz.underlying3
  a3 := Tryz.isAgg3
  z3 := Tryz.sizeOf3
  v3 := Tryz.zeroValue3
  t4 := Tryz.underlying4
  a4 := Tryz.isAgg4
  z4 := Tryz.sizeOf4
  v4 := Tryz.zeroValue4
  t9 := Tryz.underlying9
  a9 := Tryz.isAgg9
  z9 := Tryz.sizeOf9
  v9 := Tryz.zeroValue9
  t31 := Tryz.underlying50
  a31 := Tryz.isAgg50
  z31 := Tryz.sizeOf50
  v31 := Tryz.zeroValue50 }
open Go.Lib in
/-- slices.Contains at []string: "Contains reports whether v is present in s.": IT RETURNS 'Lib.containsS (the elements) v', which is true just where v is among them ('Lib.containsS_iff'); the world is as it was. ITS CALLEE slices.Index IS MET BY ITS OWN CONTRACT OFF THE SHELF (lay that first): no loop is walked here. (LAID: no walk: one application.) -/
theorem Tryz.slices_Contains_string (b off n c : Nat) (zs : List ByteArray) (x : ByteArray) (w : World) (hz : n ≤ zs.length) (hbig : n ≤ 9223372036854775807) (hc : ∀ j, j < zs.length → w.cell? ⟨b, off + j, none⟩ = some (.string (zs.getD j ByteArray.empty))) :
    Calls Tryz.prog 120 #[.slice (some ⟨b, off, none⟩) n c, .string x] w fun e w' => e = .returned (.bool (Lib.containsS (zs.take n) x)) ∧ w' = w := Any.slices_Contains_string Tryz.lays110 b off n c zs x w hz hbig hc
open Go.Lib in
/-- The same at a slice of length 0, a nil one too. (LAID: no walk: one application.) -/
theorem Tryz.slices_Contains_string_empty (a : Option Addr) (c : Nat) (x : ByteArray) (w : World) :
    Calls Tryz.prog 120 #[.slice a 0 c, .string x] w fun e w' => e = .returned (.bool false) ∧ w' = w := Any.slices_Contains_string_empty Tryz.lays110 a c x w
end Go.Proofs
