/-
  DERIVED: THE SHELF's CONTRACTS AT THIS DUMP, IN PLAIN WORDS (tools/lay-plain.mjs out of 'YtiliddklaklekaaDoorShelfT.lean', which tools/lay-shelf.mjs wrote): THE SAME DECLARATIONS UNDER THE SAME NAMES: 'import', 'namespace', 'open', 'def', 'theorem' AND NOTHING ELSE: no command of the shelf's: FOR A HAND-IN. Each laying: the table of numbers ('.._ren') and one theorem, a field a fact of the dump's own or the kernel's comparison; each contract: ONE APPLICATION.
-/
import Derived.Shelf.Strings.Prefix
import Derived.Shelf.Strings.Fields
import Derived.Shelf.Slices.Turned
import Derived.Test.YtiliddklaklekaaDoorProg
namespace Go.Proofs
open Go.Shelf
def Tryd.lays99_ren : Go.Shelf.Ren := ⟨fun | 99 => 43 | 206 => 46 | n => n, fun | 9 => 9 | 4 => 4 | 3 => 3 | n => n, fun | n => n⟩
theorem Tryd.lays99 : Go.Proofs.Lays.n99 Tryd.prog Tryd.lays99_ren := {
  mixed := by kernel_rfl
  f99 := Tryd.func43.trans (congrArg some (by kernel_rfl))
  f206 := Tryd.func46.trans (congrArg some (by kernel_rfl))
  t3 := Tryd.underlying3
  a3 := Tryd.isAgg3
  z3 := Tryd.sizeOf3
  v3 := Tryd.zeroValue3
  t4 := Tryd.underlying4
  a4 := Tryd.isAgg4
  z4 := Tryd.sizeOf4
  v4 := Tryd.zeroValue4
  t9 := Tryd.underlying9
  a9 := Tryd.isAgg9
  z9 := Tryd.sizeOf9
  v9 := Tryd.zeroValue9 }
open Go.RowKit Go.Lib in
/-- strings.HasPrefix: "HasPrefix reports whether the string s begins with prefix.": IT RETURNS 'Lib.hasPrefix s prefix'; the world is as it was. (LAID: no walk: one application.) -/
theorem Tryd.strings_HasPrefix (s p : ByteArray) (w : World) :
    Calls Tryd.prog 43 #[.string s, .string p] w fun e w' => e = .returned (.bool (Lib.hasPrefix s.data.toList p.data.toList)) ∧ w' = w := Any.strings_HasPrefix Tryd.lays99 s p w
def Tryd.lays157_ren : Go.Shelf.Ren := ⟨fun | 157 => 48 | 229 => 49 | 199 => 50 | 261 => 51 | 311 => 52 | 312 => 53 | n => n, fun | 9 => 9 | 31 => 73 | 3 => 3 | 5 => 5 | 4 => 4 | 119 => 78 | 0 => 0 | 40 => 80 | 152 => 81 | 21 => 21 | 154 => 83 | 51 => 84 | 141 => 86 | 196 => 90 | 193 => 87 | 198 => 93 | 49 => 91 | 194 => 88 | 201 => 96 | 226 => 98 | 46 => 70 | 227 => 99 | n => n, fun | 0 => 0 | 6 => 1 | n => n⟩
theorem Tryd.lays157 : Go.Proofs.Lays.n157 Tryd.prog Tryd.lays157_ren := {
  mixed := by kernel_rfl
  f157 := Tryd.func48.trans (congrArg some (by kernel_rfl))
  f199 := Tryd.func50.trans (congrArg some (by kernel_rfl))
  f229 := Tryd.func49.trans (congrArg some (by kernel_rfl))
  f261 := Tryd.func51.trans (congrArg some (by kernel_rfl))
  f311 := Tryd.func52.trans (congrArg some (by kernel_rfl))
  f312 := Tryd.func53.trans (congrArg some (by kernel_rfl))
  t0 := Tryd.underlying0
  a0 := Tryd.isAgg0
  z0 := Tryd.sizeOf0
  v0 := Tryd.zeroValue0
  t3 := Tryd.underlying3
  a3 := Tryd.isAgg3
  z3 := Tryd.sizeOf3
  v3 := Tryd.zeroValue3
  t4 := Tryd.underlying4
  a4 := Tryd.isAgg4
  z4 := Tryd.sizeOf4
  v4 := Tryd.zeroValue4
  t5 := Tryd.underlying5
  a5 := Tryd.isAgg5
  z5 := Tryd.sizeOf5
  v5 := Tryd.zeroValue5
  t9 := Tryd.underlying9
  a9 := Tryd.isAgg9
  z9 := Tryd.sizeOf9
  v9 := Tryd.zeroValue9
  t21 := Tryd.underlying21
  a21 := Tryd.isAgg21
  z21 := Tryd.sizeOf21
  v21 := Tryd.zeroValue21
  t31 := Tryd.underlying73
  a31 := Tryd.isAgg73
  z31 := Tryd.sizeOf73
  v31 := Tryd.zeroValue73
  t40 := Tryd.underlying80
  a40 := Tryd.isAgg80
  z40 := Tryd.sizeOf80
  v40 := Tryd.zeroValue80
  t46 := Tryd.underlying70
  a46 := Tryd.isAgg70
  z46 := Tryd.sizeOf70
  v46 := Tryd.zeroValue70
  t49 := Tryd.underlying91
  a49 := Tryd.isAgg91
  z49 := Tryd.sizeOf91
  v49 := Tryd.zeroValue91
  t51 := Tryd.underlying84
  a51 := Tryd.isAgg84
  z51 := Tryd.sizeOf84
  v51 := Tryd.zeroValue84
  t119 := Tryd.underlying78
  a119 := Tryd.isAgg78
  z119 := Tryd.sizeOf78
  t141 := Tryd.underlying86
  a141 := Tryd.isAgg86
  z141 := Tryd.sizeOf86
  v141 := Tryd.zeroValue86
  t152 := Tryd.underlying81
  a152 := Tryd.isAgg81
  z152 := Tryd.sizeOf81
  v152 := Tryd.zeroValue81
  t154 := Tryd.underlying83
  a154 := Tryd.isAgg83
  z154 := Tryd.sizeOf83
  v154 := Tryd.zeroValue83
  t193 := Tryd.underlying87
  a193 := Tryd.isAgg87
  z193 := Tryd.sizeOf87
  v193 := Tryd.zeroValue87
  t194 := Tryd.underlying88
  a194 := Tryd.isAgg88
  z194 := Tryd.sizeOf88
  v194 := Tryd.zeroValue88
  t196 := Tryd.underlying90
  a196 := Tryd.isAgg90
  z196 := Tryd.sizeOf90
  v196 := Tryd.zeroValue90
  t198 := Tryd.underlying93
  a198 := Tryd.isAgg93
  z198 := Tryd.sizeOf93
  v198 := Tryd.zeroValue93
  t201 := Tryd.underlying96
  a201 := Tryd.isAgg96
  z201 := Tryd.sizeOf96
  v201 := Tryd.zeroValue96
  t226 := Tryd.underlying98
  a226 := Tryd.isAgg98
  z226 := Tryd.sizeOf98
  v226 := Tryd.zeroValue98
  t227 := Tryd.underlying99
  a227 := Tryd.isAgg99
  z227 := Tryd.sizeOf99
  v227 := Tryd.zeroValue99
  g0 := by kernel_rfl
  g6 := by kernel_rfl }
open Go.RowKit Go.Lib in
/-- strings.Fields, the table by 'Lib.TabIs' (as strings.TrimSpace's contract). 'hg': the table's number, by its name: at a dump 'by kernel_rfl'. (LAID: no walk: one application.) -/
theorem Tryd.strings_Fields (s : ByteArray) (w : World) (hs : s.size < 4294967281) (hascii : ∀ (j : Nat) b, s.data.toList[j]? = some b → b.toNat < 128) (htab : Lib.TabIs Tryd.prog w "strings.asciiSpace" .u8 Lib.asciiSpaceTab) :
    Calls Tryd.prog 48 #[.string s] w fun e w' =>
      e = .returned (.slice (some ⟨w.heap.size, 0, none⟩) (Lib.fields s.data.toList).length (Lib.fields s.data.toList).length) ∧ w' = w.alloc (.cells ((Lib.fields s.data.toList).map fun l => Value.string ⟨l.toArray⟩).toArray 9) := Any.strings_Fields Tryd.lays157 (by kernel_rfl) (by kernel_rfl) s w hs hascii htab
def Tryd.lays110_ren : Go.Shelf.Ren := ⟨fun | 110 => 44 | 109 => 47 | n => n, fun | 31 => 73 | 9 => 9 | 4 => 4 | 3 => 3 | 0 => 0 | n => n, fun | n => n⟩
theorem Tryd.lays110 : Go.Proofs.Lays.n110 Tryd.prog Tryd.lays110_ren := {
  mixed := by kernel_rfl
  f109 := Tryd.func47.trans (congrArg some (by kernel_rfl))
  f110 := Tryd.func44.trans (congrArg some (by kernel_rfl))
  t0 := Tryd.underlying0
  a0 := Tryd.isAgg0
  z0 := Tryd.sizeOf0
  v0 := Tryd.zeroValue0
  t3 := Tryd.underlying3
  a3 := Tryd.isAgg3
  z3 := Tryd.sizeOf3
  v3 := Tryd.zeroValue3
  t4 := Tryd.underlying4
  a4 := Tryd.isAgg4
  z4 := Tryd.sizeOf4
  v4 := Tryd.zeroValue4
  t9 := Tryd.underlying9
  a9 := Tryd.isAgg9
  z9 := Tryd.sizeOf9
  v9 := Tryd.zeroValue9
  t31 := Tryd.underlying73
  a31 := Tryd.isAgg73
  z31 := Tryd.sizeOf73
  v31 := Tryd.zeroValue73 }
open Go.Lib in
/-- slices.Contains at []string: "Contains reports whether v is present in s.": IT RETURNS 'Lib.containsS (the elements) v', which is true just where v is among them ('Lib.containsS_iff'); the world is as it was. ITS CALLEE slices.Index IS MET BY ITS OWN CONTRACT OFF THE SHELF (lay that first): no loop is walked here. (LAID: no walk: one application.) -/
theorem Tryd.slices_Contains_string (b off n c : Nat) (zs : List ByteArray) (x : ByteArray) (w : World) (hz : n ≤ zs.length) (hbig : n ≤ 9223372036854775807) (hc : ∀ j, j < zs.length → w.cell? ⟨b, off + j, none⟩ = some (.string (zs.getD j ByteArray.empty))) :
    Calls Tryd.prog 44 #[.slice (some ⟨b, off, none⟩) n c, .string x] w fun e w' => e = .returned (.bool (Lib.containsS (zs.take n) x)) ∧ w' = w := Any.slices_Contains_string Tryd.lays110 b off n c zs x w hz hbig hc
open Go.Lib in
/-- The same at a slice of length 0, a nil one too. (LAID: no walk: one application.) -/
theorem Tryd.slices_Contains_string_empty (a : Option Addr) (c : Nat) (x : ByteArray) (w : World) :
    Calls Tryd.prog 44 #[.slice a 0 c, .string x] w fun e w' => e = .returned (.bool false) ∧ w' = w := Any.slices_Contains_string_empty Tryd.lays110 a c x w
end Go.Proofs
