/- The words of the printed functions: whole numbers, strings, conditions. -/
import Derived.Test.YtcdldgoehoopmaaDoorHs
set_option linter.unusedVariables false
namespace Gab
open Go
abbrev wi64 (n : Int) : Int := IntKind.wrap .i64 n
abbrev wi32 (n : Int) : Int := IntKind.wrap .i32 n
abbrev wi16 (n : Int) : Int := IntKind.wrap .i16 n
abbrev wi8 (n : Int) : Int := IntKind.wrap .i8 n
abbrev wu64 (n : Int) : Int := IntKind.wrap .u64 n
abbrev wu32 (n : Int) : Int := IntKind.wrap .u32 n
abbrev wu16 (n : Int) : Int := IntKind.wrap .u16 n
abbrev wu8 (n : Int) : Int := IntKind.wrap .u8 n
abbrev shlK (k : IntKind) (a b : Int) : Int := k.wrap (a * 2 ^ (min b.toNat k.bits))
abbrev shrK (k : IntKind) (a b : Int) : Int := a.fdiv (2 ^ (min b.toNat k.bits))
abbrev mn (x y : Int) : Int := if y < x then y else x
abbrev mx (x y : Int) : Int := if x < y then y else x
def ifS {α : Type} (c : Prop) [Decidable c] (x : Option α) : Option α := if c then x else none
theorem ifS_some {α : Type} {c : Prop} [Decidable c] {x : Option α} {r : α} (h : ifS c x = some r) : c ∧ x = some r := by
  unfold ifS at h
  split at h
  · exact ⟨‹_›, h⟩
  · cases h
theorem ifS_pos {α : Type} {c : Prop} [Decidable c] {x : Option α} (h : c) : ifS c x = x := if_pos h
/-- Strings one behind the other: as far as Go's lengths go. -/
def catS (x y : List UInt8) : Option (List UInt8) := if x.length + y.length ≤ 9223372036854775807 then some (x ++ y) else none
theorem catS_some {x y r : List UInt8} (h : catS x y = some r) : x.length + y.length ≤ 9223372036854775807 ∧ r = x ++ y := by
  unfold catS at h
  split at h
  · exact ⟨‹_›, (Option.some.inj h).symm⟩
  · cases h
/-- The bytes of a list of numbers. -/
def bytesOf (l : List Int) : List UInt8 := l.map fun n => UInt8.ofNat n.toNat
end Gab
namespace Gab
open Go
/-- strings.IndexByte: the first place of a byte, or -1. -/
def idxB (l : List UInt8) (c : Int) : Int := firstIdx ⟨l.toArray⟩ c.toNat.toUInt8
theorem QOp.idxB {P : Program} {fr : Fr} {B : Kn} {A : Own} {c : Call} {g : Operand} {f : FuncId} {fn : Func} {l : List UInt8} {n : Int} (h1 : c.callee = .value g) (h2 : fr.ev g = .fn (.func f) [] []) (h3 : c.args.toList.map fr.ev = [.str l, .int .u8 n])
    (hf : P.funcs[f]? = some fn) (hn : (fn.name == "runtime.NumGoroutine") = false) (hb : fn.body.isNone = true) (hx : Extern.findNext fn = none) (he : Extern.find fn = some Extern.BytealgIndexByte.indexByte) : QOp P (.call c) fr B A (.int .i64 (Gab.idxB l n)) := fun st _ => by
  simp only [evOp, h1, h2, h3, evExt, hf, Option.bind_some]
  rw [if_pos ⟨hn, hb, hx, he⟩]; rfl
end Gab
namespace Gab
open Go
/-- The digits of a number, as strconv.Itoa tells them. -/
def digsB : Nat → Nat → List UInt8
  | 0, _ => []
  | f + 1, n => if n < 10 then [UInt8.ofNat (48 + n)] else digsB f (n / 10) ++ [UInt8.ofNat (48 + n % 10)]
def itoaB (n : Int) : List UInt8 := if n < 0 then 45 :: digsB 20 (-n).toNat else digsB 20 n.toNat
/-- By rising names. -/
def sortE (l : List (List UInt8 × Int)) : List (List UInt8 × Int) := l.mergeSort fun a b => !Op.bytesLess b.1 a.1
end Gab
