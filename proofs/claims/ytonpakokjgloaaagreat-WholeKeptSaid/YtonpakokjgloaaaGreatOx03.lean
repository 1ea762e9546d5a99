/- WholeKept, part 3. No condition. -/
import Derived.Test.YtonpakokjgloaaaGreatProg
import Derived.KernelRfl
import Derived.Test.YtonpakokjgloaaaGreatOx02
set_option linter.all false
section
namespace Go.Ox
open Go Go.Proofs
def fsD : Option TypeDesc → Array Field
 | some (.struct f) => f
 | _ => #[]
def msD : Option TypeDesc → Array (String × TypeId)
 | some (.interface f) => f
 | _ => #[]
def anyD : Option TypeDesc → TypeDesc
 | some d => d
 | none => .invalid
def good (P : Program) (t : Nat) (i : TInf) : Prop := P.underlying t = some i.desc ∧ (P.info? t).map (fun ti => (ti.size, ti.bytes, ti.zero.map Value.cells)) = some (i.size, i.bytes, some i.zero.toArray) ∧ (P.info? t).map (fun ti => ti.zero) = some (some i.zv) ∧ aggD i.desc = i.agg ∧ (fsD (some i.desc)).toList.map (fun f => (f.offset, (P.info? f.type).map (·.size), (P.underlying f.type).map aggD)) = i.places.map (fun p => (p.1, some p.2.1, some p.2.2))
inductive TTr where
 | leaf (t : Nat) (i : TInf)
 | node (k : Nat) (l r : TTr)
def TTr.look : TTr → Nat → Option TInf
 | .leaf t i, n => bif Nat.beq n t then some i else none
 | .node k l r, n => bif Nat.ble n k then l.look n else r.look n
def TTr.all (p : Nat → TInf → Prop) : TTr → Prop
 | .leaf t i => p t i
 | .node _ l r => l.all p ∧ r.all p
theorem TTr.look_all {p : Nat → TInf → Prop} : ∀ {T : TTr}, T.all p → ∀ {n i}, T.look n = some i → p n i := by
 intro T
 induction T with
 | leaf t i =>
  intro h n j hj
  unfold TTr.look at hj
  cases hb : Nat.beq n t with
  | true => rw [hb] at hj; cases hj; have := Nat.eq_of_beq_eq_true hb; subst this; exact h
  | false => rw [hb] at hj; cases hj
 | node k l r ihl ihr =>
  intro h n j hj
  unfold TTr.look at hj
  cases hb : Nat.ble n k with
  | true => rw [hb] at hj; exact ihl h.1 hj
  | false => rw [hb] at hj; exact ihr h.2 hj
noncomputable def i3 : TInf := ⟨.int .i64, 1, 8, [.int .i64 0], .int .i64 0, false, []⟩
theorem g3 : good Tryz.prog 3 i3 := ⟨by kernel_rfl, by kernel_rfl, by kernel_rfl, by kernel_rfl, by kernel_rfl⟩
noncomputable def i4 : TInf := ⟨.bool, 1, 1, [.bool false], .bool false, false, []⟩
theorem g4 : good Tryz.prog 4 i4 := ⟨by kernel_rfl, by kernel_rfl, by kernel_rfl, by kernel_rfl, by kernel_rfl⟩
noncomputable def i5 : TInf := ⟨.int .u8, 1, 1, [.int .u8 0], .int .u8 0, false, []⟩
theorem g5 : good Tryz.prog 5 i5 := ⟨by kernel_rfl, by kernel_rfl, by kernel_rfl, by kernel_rfl, by kernel_rfl⟩
noncomputable def i9 : TInf := ⟨.string, 1, 16, [.string .empty], .string .empty, false, []⟩
theorem g9 : good Tryz.prog 9 i9 := ⟨by kernel_rfl, by kernel_rfl, by kernel_rfl, by kernel_rfl, by kernel_rfl⟩
noncomputable def ms20 : Array (String × TypeId) := msD (Tryz.prog.underlying 20)
noncomputable def i20 : TInf := ⟨.interface ms20, 1, 16, [.nilIface], .nilIface, false, []⟩
theorem g20 : good Tryz.prog 20 i20 := ⟨by kernel_rfl, by kernel_rfl, by kernel_rfl, by kernel_rfl, by kernel_rfl⟩
noncomputable def i22 : TInf := ⟨.slice 5, 1, 24, [.slice none 0 0], .slice none 0 0, false, []⟩
theorem g22 : good Tryz.prog 22 i22 := ⟨by kernel_rfl, by kernel_rfl, by kernel_rfl, by kernel_rfl, by kernel_rfl⟩
noncomputable def fs24 : Array Field := fsD (Tryz.prog.underlying 24)
noncomputable def i24 : TInf := ⟨.struct fs24, 3, 40, [.slice none 0 0, .int .i64 0, .int .i64 0], .agg ([.slice none 0 0, .int .i64 0, .int .i64 0]).toArray, true, [(0, 1, false), (1, 1, false), (2, 1, false)]⟩
theorem g24 : good Tryz.prog 24 i24 := ⟨by kernel_rfl, by kernel_rfl, by kernel_rfl, by kernel_rfl, by kernel_rfl⟩
noncomputable def i26 : TInf := ⟨.pointer 34, 1, 8, [.pointer none], .pointer none, false, []⟩
theorem g26 : good Tryz.prog 26 i26 := ⟨by kernel_rfl, by kernel_rfl, by kernel_rfl, by kernel_rfl, by kernel_rfl⟩
noncomputable def i29 : TInf := ⟨.int .i64, 1, 8, [.int .i64 0], .int .i64 0, false, []⟩
theorem g29 : good Tryz.prog 29 i29 := ⟨by kernel_rfl, by kernel_rfl, by kernel_rfl, by kernel_rfl, by kernel_rfl⟩
noncomputable def i30 : TInf := ⟨.pointer 123, 1, 8, [.pointer none], .pointer none, false, []⟩
theorem g30 : good Tryz.prog 30 i30 := ⟨by kernel_rfl, by kernel_rfl, by kernel_rfl, by kernel_rfl, by kernel_rfl⟩
noncomputable def i31 : TInf := ⟨.pointer 82, 1, 8, [.pointer none], .pointer none, false, []⟩
theorem g31 : good Tryz.prog 31 i31 := ⟨by kernel_rfl, by kernel_rfl, by kernel_rfl, by kernel_rfl, by kernel_rfl⟩
noncomputable def i32 : TInf := ⟨.pointer 142, 1, 8, [.pointer none], .pointer none, false, []⟩
theorem g32 : good Tryz.prog 32 i32 := ⟨by kernel_rfl, by kernel_rfl, by kernel_rfl, by kernel_rfl, by kernel_rfl⟩
noncomputable def fs34 : Array Field := fsD (Tryz.prog.underlying 34)
noncomputable def i34 : TInf := ⟨.struct fs34, 6, 64, [.slice none 0 0, .int .i64 0, .int .i64 0, .pointer none, .pointer none, .pointer none], .agg ([.slice none 0 0, .int .i64 0, .int .i64 0, .pointer none, .pointer none, .pointer none]).toArray, true, [(0, 3, true), (3, 1, false), (4, 1, false), (5, 1, false)]⟩
theorem g34 : good Tryz.prog 34 i34 := ⟨by kernel_rfl, by kernel_rfl, by kernel_rfl, by kernel_rfl, by kernel_rfl⟩
noncomputable def fs41 : Array Field := fsD (Tryz.prog.underlying 41)
noncomputable def i41 : TInf := ⟨.struct fs41, 6, 48, [.int .i64 0, .int .i64 0, .int .i64 0, .int .i64 0, .int .i64 0, .int .i64 0], .agg ([.int .i64 0, .int .i64 0, .int .i64 0, .int .i64 0, .int .i64 0, .int .i64 0]).toArray, true, [(0, 1, false), (1, 1, false), (2, 1, false), (3, 1, false), (4, 1, false), (5, 1, false)]⟩
theorem g41 : good Tryz.prog 41 i41 := ⟨by kernel_rfl, by kernel_rfl, by kernel_rfl, by kernel_rfl, by kernel_rfl⟩
noncomputable def fs45 : Array Field := fsD (Tryz.prog.underlying 45)
noncomputable def i45 : TInf := ⟨.struct fs45, 4, 48, [.int .i64 0, .int .i64 0, .int .i64 0, .slice none 0 0], .agg ([.int .i64 0, .int .i64 0, .int .i64 0, .slice none 0 0]).toArray, true, [(0, 1, false), (1, 1, false), (2, 1, false), (3, 1, false)]⟩
theorem g45 : good Tryz.prog 45 i45 := ⟨by kernel_rfl, by kernel_rfl, by kernel_rfl, by kernel_rfl, by kernel_rfl⟩
noncomputable def i47 : TInf := ⟨.slice 45, 1, 24, [.slice none 0 0], .slice none 0 0, false, []⟩
theorem g47 : good Tryz.prog 47 i47 := ⟨by kernel_rfl, by kernel_rfl, by kernel_rfl, by kernel_rfl, by kernel_rfl⟩
noncomputable def i61 : TInf := ⟨.slice 4, 1, 24, [.slice none 0 0], .slice none 0 0, false, []⟩
theorem g61 : good Tryz.prog 61 i61 := ⟨by kernel_rfl, by kernel_rfl, by kernel_rfl, by kernel_rfl, by kernel_rfl⟩
noncomputable def i63 : TInf := ⟨.slice 3, 1, 24, [.slice none 0 0], .slice none 0 0, false, []⟩
theorem g63 : good Tryz.prog 63 i63 := ⟨by kernel_rfl, by kernel_rfl, by kernel_rfl, by kernel_rfl, by kernel_rfl⟩
noncomputable def i64 : TInf := ⟨.slice 22, 1, 24, [.slice none 0 0], .slice none 0 0, false, []⟩
theorem g64 : good Tryz.prog 64 i64 := ⟨by kernel_rfl, by kernel_rfl, by kernel_rfl, by kernel_rfl, by kernel_rfl⟩
noncomputable def fd77 : TypeDesc := anyD (Tryz.prog.underlying 77)
noncomputable def i77 : TInf := ⟨fd77, 1, 8, [.nilFunc], .nilFunc, false, []⟩
theorem g77 : good Tryz.prog 77 i77 := ⟨by kernel_rfl, by kernel_rfl, by kernel_rfl, by kernel_rfl, by kernel_rfl⟩
noncomputable def i78 : TInf := ⟨.pointer 148, 1, 8, [.pointer none], .pointer none, false, []⟩
theorem g78 : good Tryz.prog 78 i78 := ⟨by kernel_rfl, by kernel_rfl, by kernel_rfl, by kernel_rfl, by kernel_rfl⟩
noncomputable def i80 : TInf := ⟨.pointer 146, 1, 8, [.pointer none], .pointer none, false, []⟩
theorem g80 : good Tryz.prog 80 i80 := ⟨by kernel_rfl, by kernel_rfl, by kernel_rfl, by kernel_rfl, by kernel_rfl⟩
noncomputable def fs82 : Array Field := fsD (Tryz.prog.underlying 82)
noncomputable def i82 : TInf := ⟨.struct fs82, 7, 48, [.pointer none, .pointer none, .int .i64 0, .int .i64 0, .int .i64 0, .bool false, .bool false], .agg ([.pointer none, .pointer none, .int .i64 0, .int .i64 0, .int .i64 0, .bool false, .bool false]).toArray, true, [(0, 1, false), (1, 1, false), (2, 1, false), (3, 1, false), (4, 1, false), (5, 1, false), (6, 1, false)]⟩
theorem g82 : good Tryz.prog 82 i82 := ⟨by kernel_rfl, by kernel_rfl, by kernel_rfl, by kernel_rfl, by kernel_rfl⟩
noncomputable def i83 : TInf := ⟨.slice 88, 1, 24, [.slice none 0 0], .slice none 0 0, false, []⟩
theorem g83 : good Tryz.prog 83 i83 := ⟨by kernel_rfl, by kernel_rfl, by kernel_rfl, by kernel_rfl, by kernel_rfl⟩
noncomputable def fs85 : Array Field := fsD (Tryz.prog.underlying 85)
noncomputable def i85 : TInf := ⟨.struct fs85, 3, 24, [.int .i64 0, .int .i64 0, .int .i64 0], .agg ([.int .i64 0, .int .i64 0, .int .i64 0]).toArray, true, [(0, 1, false), (1, 1, false), (2, 1, false)]⟩
theorem g85 : good Tryz.prog 85 i85 := ⟨by kernel_rfl, by kernel_rfl, by kernel_rfl, by kernel_rfl, by kernel_rfl⟩
noncomputable def fs88 : Array Field := fsD (Tryz.prog.underlying 88)
noncomputable def i88 : TInf := ⟨.struct fs88, 4, 32, [.int .i64 0, .int .i64 0, .int .i64 0, .int .i64 0], .agg ([.int .i64 0, .int .i64 0, .int .i64 0, .int .i64 0]).toArray, true, [(0, 3, true), (3, 1, false)]⟩
theorem g88 : good Tryz.prog 88 i88 := ⟨by kernel_rfl, by kernel_rfl, by kernel_rfl, by kernel_rfl, by kernel_rfl⟩
noncomputable def i89 : TInf := ⟨.pointer 152, 1, 8, [.pointer none], .pointer none, false, []⟩
theorem g89 : good Tryz.prog 89 i89 := ⟨by kernel_rfl, by kernel_rfl, by kernel_rfl, by kernel_rfl, by kernel_rfl⟩
noncomputable def i91 : TInf := ⟨.pointer 157, 1, 8, [.pointer none], .pointer none, false, []⟩
theorem g91 : good Tryz.prog 91 i91 := ⟨by kernel_rfl, by kernel_rfl, by kernel_rfl, by kernel_rfl, by kernel_rfl⟩
noncomputable def i97 : TInf := ⟨.pointer 178, 1, 8, [.pointer none], .pointer none, false, []⟩
theorem g97 : good Tryz.prog 97 i97 := ⟨by kernel_rfl, by kernel_rfl, by kernel_rfl, by kernel_rfl, by kernel_rfl⟩
noncomputable def i101 : TInf := ⟨.slice 182, 1, 24, [.slice none 0 0], .slice none 0 0, false, []⟩
theorem g101 : good Tryz.prog 101 i101 := ⟨by kernel_rfl, by kernel_rfl, by kernel_rfl, by kernel_rfl, by kernel_rfl⟩
noncomputable def fs103 : Array Field := fsD (Tryz.prog.underlying 103)
noncomputable def i103 : TInf := ⟨.struct fs103, 2, 32, [.slice none 0 0, .int .i64 0], .agg ([.slice none 0 0, .int .i64 0]).toArray, true, [(0, 1, false), (1, 1, false)]⟩
theorem g103 : good Tryz.prog 103 i103 := ⟨by kernel_rfl, by kernel_rfl, by kernel_rfl, by kernel_rfl, by kernel_rfl⟩
noncomputable def i106 : TInf := ⟨.slice 187, 1, 24, [.slice none 0 0], .slice none 0 0, false, []⟩
theorem g106 : good Tryz.prog 106 i106 := ⟨by kernel_rfl, by kernel_rfl, by kernel_rfl, by kernel_rfl, by kernel_rfl⟩
noncomputable def fs109 : Array Field := fsD (Tryz.prog.underlying 109)
noncomputable def i109 : TInf := ⟨.struct fs109, 5, 40, [.int .i64 0, .int .i64 0, .int .i64 0, .int .i64 0, .int .i64 0], .agg ([.int .i64 0, .int .i64 0, .int .i64 0, .int .i64 0, .int .i64 0]).toArray, true, [(0, 1, false), (1, 1, false), (2, 1, false), (3, 1, false), (4, 1, false)]⟩
theorem g109 : good Tryz.prog 109 i109 := ⟨by kernel_rfl, by kernel_rfl, by kernel_rfl, by kernel_rfl, by kernel_rfl⟩
noncomputable def i111 : TInf := ⟨.slice 47, 1, 24, [.slice none 0 0], .slice none 0 0, false, []⟩
theorem g111 : good Tryz.prog 111 i111 := ⟨by kernel_rfl, by kernel_rfl, by kernel_rfl, by kernel_rfl, by kernel_rfl⟩
noncomputable def i114 : TInf := ⟨.pointer 221, 1, 8, [.pointer none], .pointer none, false, []⟩
theorem g114 : good Tryz.prog 114 i114 := ⟨by kernel_rfl, by kernel_rfl, by kernel_rfl, by kernel_rfl, by kernel_rfl⟩
noncomputable def i120 : TInf := ⟨.map 9 126, 1, 8, [.map none], .map none, false, []⟩
theorem g120 : good Tryz.prog 120 i120 := ⟨by kernel_rfl, by kernel_rfl, by kernel_rfl, by kernel_rfl, by kernel_rfl⟩
noncomputable def i121 : TInf := ⟨.slice 134, 1, 24, [.slice none 0 0], .slice none 0 0, false, []⟩
theorem g121 : good Tryz.prog 121 i121 := ⟨by kernel_rfl, by kernel_rfl, by kernel_rfl, by kernel_rfl, by kernel_rfl⟩
noncomputable def fs123 : Array Field := fsD (Tryz.prog.underlying 123)
noncomputable def i123 : TInf := ⟨.struct fs123, 7, 64, [.int .i64 0, .int .i64 0, .int .i64 0, .bool false, .bool false, .map none, .slice none 0 0], .agg ([.int .i64 0, .int .i64 0, .int .i64 0, .bool false, .bool false, .map none, .slice none 0 0]).toArray, true, [(0, 1, false), (1, 1, false), (2, 1, false), (3, 1, false), (4, 1, false), (5, 1, false), (6, 1, false)]⟩
theorem g123 : good Tryz.prog 123 i123 := ⟨by kernel_rfl, by kernel_rfl, by kernel_rfl, by kernel_rfl, by kernel_rfl⟩
noncomputable def i126 : TInf := ⟨.pointer 129, 1, 8, [.pointer none], .pointer none, false, []⟩
theorem g126 : good Tryz.prog 126 i126 := ⟨by kernel_rfl, by kernel_rfl, by kernel_rfl, by kernel_rfl, by kernel_rfl⟩
noncomputable def fs129 : Array Field := fsD (Tryz.prog.underlying 129)
noncomputable def i129 : TInf := ⟨.struct fs129, 3, 56, [.slice none 0 0, .slice none 0 0, .bool false], .agg ([.slice none 0 0, .slice none 0 0, .bool false]).toArray, true, [(0, 1, false), (1, 1, false), (2, 1, false)]⟩
theorem g129 : good Tryz.prog 129 i129 := ⟨by kernel_rfl, by kernel_rfl, by kernel_rfl, by kernel_rfl, by kernel_rfl⟩
noncomputable def i132 : TInf := ⟨.map 9 4, 1, 8, [.map none], .map none, false, []⟩
theorem g132 : good Tryz.prog 132 i132 := ⟨by kernel_rfl, by kernel_rfl, by kernel_rfl, by kernel_rfl, by kernel_rfl⟩
noncomputable def fs134 : Array Field := fsD (Tryz.prog.underlying 134)
noncomputable def i134 : TInf := ⟨.struct fs134, 3, 48, [.string .empty, .int .i64 0, .slice none 0 0], .agg ([.string .empty, .int .i64 0, .slice none 0 0]).toArray, true, [(0, 1, false), (1, 1, false), (2, 1, false)]⟩
theorem g134 : good Tryz.prog 134 i134 := ⟨by kernel_rfl, by kernel_rfl, by kernel_rfl, by kernel_rfl, by kernel_rfl⟩
noncomputable def fs138 : Array Field := fsD (Tryz.prog.underlying 138)
noncomputable def i138 : TInf := ⟨.struct fs138, 3, 40, [.slice none 0 0, .int .i64 0, .int .i64 0], .agg ([.slice none 0 0, .int .i64 0, .int .i64 0]).toArray, true, [(0, 1, false), (1, 1, false), (2, 1, false)]⟩
theorem g138 : good Tryz.prog 138 i138 := ⟨by kernel_rfl, by kernel_rfl, by kernel_rfl, by kernel_rfl, by kernel_rfl⟩
noncomputable def fs142 : Array Field := fsD (Tryz.prog.underlying 142)
noncomputable def i142 : TInf := ⟨.struct fs142, 6, 96, [.slice none 0 0, .int .i64 0, .slice none 0 0, .bool false, .slice none 0 0, .int .i64 0], .agg ([.slice none 0 0, .int .i64 0, .slice none 0 0, .bool false, .slice none 0 0, .int .i64 0]).toArray, true, [(0, 1, false), (1, 1, false), (2, 1, false), (3, 1, false), (4, 1, false), (5, 1, false)]⟩
theorem g142 : good Tryz.prog 142 i142 := ⟨by kernel_rfl, by kernel_rfl, by kernel_rfl, by kernel_rfl, by kernel_rfl⟩
noncomputable def fs144 : Array Field := fsD (Tryz.prog.underlying 144)
noncomputable def i144 : TInf := ⟨.struct fs144, 3, 24, [.pointer none, .pointer none, .pointer none], .agg ([.pointer none, .pointer none, .pointer none]).toArray, true, [(0, 1, false), (1, 1, false), (2, 1, false)]⟩
theorem g144 : good Tryz.prog 144 i144 := ⟨by kernel_rfl, by kernel_rfl, by kernel_rfl, by kernel_rfl, by kernel_rfl⟩
noncomputable def fs146 : Array Field := fsD (Tryz.prog.underlying 146)
noncomputable def i146 : TInf := ⟨.struct fs146, 19, 184, [.pointer none, .pointer none, .pointer none, .pointer none, .pointer none, .pointer none, .slice none 0 0, .int .i64 0, .int .i64 0, .int .i64 0, .int .i64 0, .int .i64 0, .int .i64 0, .int .i64 0, .int .i64 0, .int .i64 0, .int .i64 0, .int .i64 0, .slice none 0 0], .agg ([.pointer none, .pointer none, .pointer none, .pointer none, .pointer none, .pointer none, .slice none 0 0, .int .i64 0, .int .i64 0, .int .i64 0, .int .i64 0, .int .i64 0, .int .i64 0, .int .i64 0, .int .i64 0, .int .i64 0, .int .i64 0, .int .i64 0, .slice none 0 0]).toArray, true, [(0, 3, true), (3, 1, false), (4, 1, false), (5, 1, false), (6, 2, true), (8, 5, true), (13, 5, true), (18, 1, false)]⟩
theorem g146 : good Tryz.prog 146 i146 := ⟨by kernel_rfl, by kernel_rfl, by kernel_rfl, by kernel_rfl, by kernel_rfl⟩
noncomputable def fs148 : Array Field := fsD (Tryz.prog.underlying 148)
noncomputable def i148 : TInf := ⟨.struct fs148, 2, 16, [.pointer none, .int .i64 0], .agg ([.pointer none, .int .i64 0]).toArray, true, [(0, 1, false), (1, 1, false)]⟩
theorem g148 : good Tryz.prog 148 i148 := ⟨by kernel_rfl, by kernel_rfl, by kernel_rfl, by kernel_rfl, by kernel_rfl⟩
noncomputable def i150 : TInf := ⟨.map 3 4, 1, 8, [.map none], .map none, false, []⟩
theorem g150 : good Tryz.prog 150 i150 := ⟨by kernel_rfl, by kernel_rfl, by kernel_rfl, by kernel_rfl, by kernel_rfl⟩
noncomputable def fs152 : Array Field := fsD (Tryz.prog.underlying 152)
noncomputable def i152 : TInf := ⟨.struct fs152, 4, 48, [.int .i64 0, .map none, .map none, .slice none 0 0], .agg ([.int .i64 0, .map none, .map none, .slice none 0 0]).toArray, true, [(0, 1, false), (1, 1, false), (2, 1, false), (3, 1, false)]⟩
theorem g152 : good Tryz.prog 152 i152 := ⟨by kernel_rfl, by kernel_rfl, by kernel_rfl, by kernel_rfl, by kernel_rfl⟩
noncomputable def fs157 : Array Field := fsD (Tryz.prog.underlying 157)
noncomputable def i157 : TInf := ⟨.struct fs157, 2, 16, [.pointer none, .pointer none], .agg ([.pointer none, .pointer none]).toArray, true, [(0, 1, false), (1, 1, false)]⟩
theorem g157 : good Tryz.prog 157 i157 := ⟨by kernel_rfl, by kernel_rfl, by kernel_rfl, by kernel_rfl, by kernel_rfl⟩
noncomputable def fs165 : Array Field := fsD (Tryz.prog.underlying 165)
noncomputable def i165 : TInf := ⟨.struct fs165, 4, 32, [.int .i64 0, .int .i64 0, .int .i64 0, .int .i64 0], .agg ([.int .i64 0, .int .i64 0, .int .i64 0, .int .i64 0]).toArray, true, [(0, 1, false), (1, 1, false), (2, 1, false), (3, 1, false)]⟩
theorem g165 : good Tryz.prog 165 i165 := ⟨by kernel_rfl, by kernel_rfl, by kernel_rfl, by kernel_rfl, by kernel_rfl⟩
noncomputable def fs167 : Array Field := fsD (Tryz.prog.underlying 167)
noncomputable def i167 : TInf := ⟨.struct fs167, 5, 40, [.int .i64 0, .int .i64 0, .int .i64 0, .int .i64 0, .int .i64 0], .agg ([.int .i64 0, .int .i64 0, .int .i64 0, .int .i64 0, .int .i64 0]).toArray, true, [(0, 4, true), (4, 1, false)]⟩
theorem g167 : good Tryz.prog 167 i167 := ⟨by kernel_rfl, by kernel_rfl, by kernel_rfl, by kernel_rfl, by kernel_rfl⟩
noncomputable def i175 : TInf := ⟨.pointer 307, 1, 8, [.pointer none], .pointer none, false, []⟩
theorem g175 : good Tryz.prog 175 i175 := ⟨by kernel_rfl, by kernel_rfl, by kernel_rfl, by kernel_rfl, by kernel_rfl⟩
noncomputable def i176 : TInf := ⟨.map 3 22, 1, 8, [.map none], .map none, false, []⟩
theorem g176 : good Tryz.prog 176 i176 := ⟨by kernel_rfl, by kernel_rfl, by kernel_rfl, by kernel_rfl, by kernel_rfl⟩
noncomputable def fs178 : Array Field := fsD (Tryz.prog.underlying 178)
noncomputable def i178 : TInf := ⟨.struct fs178, 6, 56, [.pointer none, .pointer none, .string .empty, .int .i64 0, .map none, .int .i64 0], .agg ([.pointer none, .pointer none, .string .empty, .int .i64 0, .map none, .int .i64 0]).toArray, true, [(0, 1, false), (1, 1, false), (2, 1, false), (3, 1, false), (4, 1, false), (5, 1, false)]⟩
theorem g178 : good Tryz.prog 178 i178 := ⟨by kernel_rfl, by kernel_rfl, by kernel_rfl, by kernel_rfl, by kernel_rfl⟩
noncomputable def fs182 : Array Field := fsD (Tryz.prog.underlying 182)
noncomputable def i182 : TInf := ⟨.struct fs182, 2, 16, [.int .i64 0, .int .i64 0], .agg ([.int .i64 0, .int .i64 0]).toArray, true, [(0, 1, false), (1, 1, false)]⟩
theorem g182 : good Tryz.prog 182 i182 := ⟨by kernel_rfl, by kernel_rfl, by kernel_rfl, by kernel_rfl, by kernel_rfl⟩
noncomputable def fs187 : Array Field := fsD (Tryz.prog.underlying 187)
noncomputable def i187 : TInf := ⟨.struct fs187, 2, 16, [.int .i64 0, .int .i64 0], .agg ([.int .i64 0, .int .i64 0]).toArray, true, [(0, 1, false), (1, 1, false)]⟩
theorem g187 : good Tryz.prog 187 i187 := ⟨by kernel_rfl, by kernel_rfl, by kernel_rfl, by kernel_rfl, by kernel_rfl⟩
noncomputable def i192 : TInf := ⟨.pointer 204, 1, 8, [.pointer none], .pointer none, false, []⟩
theorem g192 : good Tryz.prog 192 i192 := ⟨by kernel_rfl, by kernel_rfl, by kernel_rfl, by kernel_rfl, by kernel_rfl⟩
noncomputable def i193 : TInf := ⟨.slice 269, 1, 24, [.slice none 0 0], .slice none 0 0, false, []⟩
theorem g193 : good Tryz.prog 193 i193 := ⟨by kernel_rfl, by kernel_rfl, by kernel_rfl, by kernel_rfl, by kernel_rfl⟩
noncomputable def fs195 : Array Field := fsD (Tryz.prog.underlying 195)
noncomputable def i195 : TInf := ⟨.struct fs195, 3, 56, [.int .i64 0, .slice none 0 0, .slice none 0 0], .agg ([.int .i64 0, .slice none 0 0, .slice none 0 0]).toArray, true, [(0, 1, false), (1, 1, false), (2, 1, false)]⟩
theorem g195 : good Tryz.prog 195 i195 := ⟨by kernel_rfl, by kernel_rfl, by kernel_rfl, by kernel_rfl, by kernel_rfl⟩
noncomputable def fs197 : Array Field := fsD (Tryz.prog.underlying 197)
noncomputable def i197 : TInf := ⟨.struct fs197, 10, 128, [.int .i64 0, .int .i64 0, .int .i64 0, .int .i64 0, .int .i64 0, .int .i64 0, .int .i64 0, .slice none 0 0, .slice none 0 0, .slice none 0 0], .agg ([.int .i64 0, .int .i64 0, .int .i64 0, .int .i64 0, .int .i64 0, .int .i64 0, .int .i64 0, .slice none 0 0, .slice none 0 0, .slice none 0 0]).toArray, true, [(0, 1, false), (1, 5, true), (6, 3, true), (9, 1, false)]⟩
theorem g197 : good Tryz.prog 197 i197 := ⟨by kernel_rfl, by kernel_rfl, by kernel_rfl, by kernel_rfl, by kernel_rfl⟩
noncomputable def i198 : TInf := ⟨.int .u32, 1, 4, [.int .u32 0], .int .u32 0, false, []⟩
theorem g198 : good Tryz.prog 198 i198 := ⟨by kernel_rfl, by kernel_rfl, by kernel_rfl, by kernel_rfl, by kernel_rfl⟩
noncomputable def fs200 : Array Field := fsD (Tryz.prog.underlying 200)
noncomputable def i200 : TInf := ⟨.struct fs200, 13, 152, [.pointer none, .int .i64 0, .int .i64 0, .int .i64 0, .int .i64 0, .int .i64 0, .int .i64 0, .int .i64 0, .slice none 0 0, .slice none 0 0, .slice none 0 0, .int .i64 0, .int .u32 0], .agg ([.pointer none, .int .i64 0, .int .i64 0, .int .i64 0, .int .i64 0, .int .i64 0, .int .i64 0, .int .i64 0, .slice none 0 0, .slice none 0 0, .slice none 0 0, .int .i64 0, .int .u32 0]).toArray, true, [(0, 1, false), (1, 10, true), (11, 1, false), (12, 1, false)]⟩
theorem g200 : good Tryz.prog 200 i200 := ⟨by kernel_rfl, by kernel_rfl, by kernel_rfl, by kernel_rfl, by kernel_rfl⟩
noncomputable def i201 : TInf := ⟨.slice 85, 1, 24, [.slice none 0 0], .slice none 0 0, false, []⟩
theorem g201 : good Tryz.prog 201 i201 := ⟨by kernel_rfl, by kernel_rfl, by kernel_rfl, by kernel_rfl, by kernel_rfl⟩
noncomputable def i202 : TInf := ⟨.slice 201, 1, 24, [.slice none 0 0], .slice none 0 0, false, []⟩
theorem g202 : good Tryz.prog 202 i202 := ⟨by kernel_rfl, by kernel_rfl, by kernel_rfl, by kernel_rfl, by kernel_rfl⟩
noncomputable def fs204 : Array Field := fsD (Tryz.prog.underlying 204)
noncomputable def i204 : TInf := ⟨.struct fs204, 19, 248, [.pointer none, .int .i64 0, .int .i64 0, .int .i64 0, .int .i64 0, .int .i64 0, .int .i64 0, .int .i64 0, .slice none 0 0, .slice none 0 0, .slice none 0 0, .int .i64 0, .int .u32 0, .pointer none, .slice none 0 0, .slice none 0 0, .slice none 0 0, .int .i64 0, .int .i64 0], .agg ([.pointer none, .int .i64 0, .int .i64 0, .int .i64 0, .int .i64 0, .int .i64 0, .int .i64 0, .int .i64 0, .slice none 0 0, .slice none 0 0, .slice none 0 0, .int .i64 0, .int .u32 0, .pointer none, .slice none 0 0, .slice none 0 0, .slice none 0 0, .int .i64 0, .int .i64 0]).toArray, true, [(0, 13, true), (13, 1, false), (14, 1, false), (15, 1, false), (16, 1, false), (17, 1, false), (18, 1, false)]⟩
theorem g204 : good Tryz.prog 204 i204 := ⟨by kernel_rfl, by kernel_rfl, by kernel_rfl, by kernel_rfl, by kernel_rfl⟩
noncomputable def i219 : TInf := ⟨.pointer 376, 1, 8, [.pointer none], .pointer none, false, []⟩
theorem g219 : good Tryz.prog 219 i219 := ⟨by kernel_rfl, by kernel_rfl, by kernel_rfl, by kernel_rfl, by kernel_rfl⟩
noncomputable def fs221 : Array Field := fsD (Tryz.prog.underlying 221)
noncomputable def i221 : TInf := ⟨.struct fs221, 3, 24, [.pointer none, .pointer none, .pointer none], .agg ([.pointer none, .pointer none, .pointer none]).toArray, true, [(0, 1, false), (1, 1, false), (2, 1, false)]⟩
theorem g221 : good Tryz.prog 221 i221 := ⟨by kernel_rfl, by kernel_rfl, by kernel_rfl, by kernel_rfl, by kernel_rfl⟩
noncomputable def i222 : TInf := ⟨.slice 165, 1, 24, [.slice none 0 0], .slice none 0 0, false, []⟩
theorem g222 : good Tryz.prog 222 i222 := ⟨by kernel_rfl, by kernel_rfl, by kernel_rfl, by kernel_rfl, by kernel_rfl⟩
noncomputable def fs224 : Array Field := fsD (Tryz.prog.underlying 224)
noncomputable def i224 : TInf := ⟨.struct fs224, 3, 56, [.bool false, .slice none 0 0, .slice none 0 0], .agg ([.bool false, .slice none 0 0, .slice none 0 0]).toArray, true, [(0, 1, false), (1, 1, false), (2, 1, false)]⟩
theorem g224 : good Tryz.prog 224 i224 := ⟨by kernel_rfl, by kernel_rfl, by kernel_rfl, by kernel_rfl, by kernel_rfl⟩
noncomputable def i227 : TInf := ⟨.slice 230, 1, 24, [.slice none 0 0], .slice none 0 0, false, []⟩
theorem g227 : good Tryz.prog 227 i227 := ⟨by kernel_rfl, by kernel_rfl, by kernel_rfl, by kernel_rfl, by kernel_rfl⟩
noncomputable def fs230 : Array Field := fsD (Tryz.prog.underlying 230)
noncomputable def i230 : TInf := ⟨.struct fs230, 6, 48, [.int .i64 0, .int .i64 0, .int .i64 0, .int .i64 0, .int .i64 0, .int .i64 0], .agg ([.int .i64 0, .int .i64 0, .int .i64 0, .int .i64 0, .int .i64 0, .int .i64 0]).toArray, true, [(0, 1, false), (1, 1, false), (2, 3, true), (5, 1, false)]⟩
theorem g230 : good Tryz.prog 230 i230 := ⟨by kernel_rfl, by kernel_rfl, by kernel_rfl, by kernel_rfl, by kernel_rfl⟩
noncomputable def fs240 : Array Field := fsD (Tryz.prog.underlying 240)
noncomputable def i240 : TInf := ⟨.struct fs240, 1, 8, [.int .i64 0], .agg ([.int .i64 0]).toArray, true, [(0, 1, false)]⟩
theorem g240 : good Tryz.prog 240 i240 := ⟨by kernel_rfl, by kernel_rfl, by kernel_rfl, by kernel_rfl, by kernel_rfl⟩
noncomputable def i242 : TInf := ⟨.slice 83, 1, 24, [.slice none 0 0], .slice none 0 0, false, []⟩
theorem g242 : good Tryz.prog 242 i242 := ⟨by kernel_rfl, by kernel_rfl, by kernel_rfl, by kernel_rfl, by kernel_rfl⟩
noncomputable def i248 : TInf := ⟨.pointer 251, 1, 8, [.pointer none], .pointer none, false, []⟩
theorem g248 : good Tryz.prog 248 i248 := ⟨by kernel_rfl, by kernel_rfl, by kernel_rfl, by kernel_rfl, by kernel_rfl⟩
noncomputable def fs251 : Array Field := fsD (Tryz.prog.underlying 251)
noncomputable def i251 : TInf := ⟨.struct fs251, 5, 40, [.int .i64 0, .int .i64 0, .bool false, .pointer none, .pointer none], .agg ([.int .i64 0, .int .i64 0, .bool false, .pointer none, .pointer none]).toArray, true, [(0, 1, false), (1, 1, false), (2, 1, false), (3, 1, false), (4, 1, false)]⟩
theorem g251 : good Tryz.prog 251 i251 := ⟨by kernel_rfl, by kernel_rfl, by kernel_rfl, by kernel_rfl, by kernel_rfl⟩
noncomputable def i269 : TInf := ⟨.slice 276, 1, 24, [.slice none 0 0], .slice none 0 0, false, []⟩
theorem g269 : good Tryz.prog 269 i269 := ⟨by kernel_rfl, by kernel_rfl, by kernel_rfl, by kernel_rfl, by kernel_rfl⟩
noncomputable def fs274 : Array Field := fsD (Tryz.prog.underlying 274)
noncomputable def i274 : TInf := ⟨.struct fs274, 4, 32, [.int .i64 0, .bool false, .int .i64 0, .int .u32 0], .agg ([.int .i64 0, .bool false, .int .i64 0, .int .u32 0]).toArray, true, [(0, 1, false), (1, 1, false), (2, 1, false), (3, 1, false)]⟩
theorem g274 : good Tryz.prog 274 i274 := ⟨by kernel_rfl, by kernel_rfl, by kernel_rfl, by kernel_rfl, by kernel_rfl⟩
noncomputable def fs276 : Array Field := fsD (Tryz.prog.underlying 276)
noncomputable def i276 : TInf := ⟨.struct fs276, 2, 32, [.int .i64 0, .slice none 0 0], .agg ([.int .i64 0, .slice none 0 0]).toArray, true, [(0, 1, false), (1, 1, false)]⟩
theorem g276 : good Tryz.prog 276 i276 := ⟨by kernel_rfl, by kernel_rfl, by kernel_rfl, by kernel_rfl, by kernel_rfl⟩
noncomputable def fs281 : Array Field := fsD (Tryz.prog.underlying 281)
noncomputable def i281 : TInf := ⟨.struct fs281, 1, 8, [.int .i64 0], .agg ([.int .i64 0]).toArray, true, [(0, 1, false)]⟩
theorem g281 : good Tryz.prog 281 i281 := ⟨by kernel_rfl, by kernel_rfl, by kernel_rfl, by kernel_rfl, by kernel_rfl⟩
noncomputable def i291 : TInf := ⟨.int .u64, 1, 8, [.int .u64 0], .int .u64 0, false, []⟩
theorem g291 : good Tryz.prog 291 i291 := ⟨by kernel_rfl, by kernel_rfl, by kernel_rfl, by kernel_rfl, by kernel_rfl⟩
noncomputable def i305 : TInf := ⟨.map 3 248, 1, 8, [.map none], .map none, false, []⟩
theorem g305 : good Tryz.prog 305 i305 := ⟨by kernel_rfl, by kernel_rfl, by kernel_rfl, by kernel_rfl, by kernel_rfl⟩
noncomputable def fs307 : Array Field := fsD (Tryz.prog.underlying 307)
noncomputable def i307 : TInf := ⟨.struct fs307, 7, 56, [.int .i64 0, .int .i64 0, .int .i64 0, .bool false, .pointer none, .pointer none, .map none], .agg ([.int .i64 0, .int .i64 0, .int .i64 0, .bool false, .pointer none, .pointer none, .map none]).toArray, true, [(0, 1, false), (1, 5, true), (6, 1, false)]⟩
theorem g307 : good Tryz.prog 307 i307 := ⟨by kernel_rfl, by kernel_rfl, by kernel_rfl, by kernel_rfl, by kernel_rfl⟩
noncomputable def fs314 : Array Field := fsD (Tryz.prog.underlying 314)
noncomputable def i314 : TInf := ⟨.struct fs314, 3, 24, [.pointer none, .pointer none, .int .u64 0], .agg ([.pointer none, .pointer none, .int .u64 0]).toArray, true, [(0, 1, false), (1, 1, false), (2, 1, false)]⟩
theorem g314 : good Tryz.prog 314 i314 := ⟨by kernel_rfl, by kernel_rfl, by kernel_rfl, by kernel_rfl, by kernel_rfl⟩
noncomputable def fd316 : TypeDesc := anyD (Tryz.prog.underlying 316)
noncomputable def i316 : TInf := ⟨fd316, 1, 8, [.nilFunc], .nilFunc, false, []⟩
theorem g316 : good Tryz.prog 316 i316 := ⟨by kernel_rfl, by kernel_rfl, by kernel_rfl, by kernel_rfl, by kernel_rfl⟩
noncomputable def fs320 : Array Field := fsD (Tryz.prog.underlying 320)
noncomputable def i320 : TInf := ⟨.struct fs320, 2, 16, [.nilFunc, .nilFunc], .agg ([.nilFunc, .nilFunc]).toArray, true, [(0, 1, false), (1, 1, false)]⟩
theorem g320 : good Tryz.prog 320 i320 := ⟨by kernel_rfl, by kernel_rfl, by kernel_rfl, by kernel_rfl, by kernel_rfl⟩
noncomputable def i333 : TInf := ⟨.map 3 276, 1, 8, [.map none], .map none, false, []⟩
theorem g333 : good Tryz.prog 333 i333 := ⟨by kernel_rfl, by kernel_rfl, by kernel_rfl, by kernel_rfl, by kernel_rfl⟩
noncomputable def i334 : TInf := ⟨.map 3 3, 1, 8, [.map none], .map none, false, []⟩
theorem g334 : good Tryz.prog 334 i334 := ⟨by kernel_rfl, by kernel_rfl, by kernel_rfl, by kernel_rfl, by kernel_rfl⟩
noncomputable def fs336 : Array Field := fsD (Tryz.prog.underlying 336)
noncomputable def i336 : TInf := ⟨.struct fs336, 4, 64, [.map none, .map none, .slice none 0 0, .slice none 0 0], .agg ([.map none, .map none, .slice none 0 0, .slice none 0 0]).toArray, true, [(0, 1, false), (1, 1, false), (2, 1, false), (3, 1, false)]⟩
theorem g336 : good Tryz.prog 336 i336 := ⟨by kernel_rfl, by kernel_rfl, by kernel_rfl, by kernel_rfl, by kernel_rfl⟩
noncomputable def i346 : TInf := ⟨.slice 349, 1, 24, [.slice none 0 0], .slice none 0 0, false, []⟩
theorem g346 : good Tryz.prog 346 i346 := ⟨by kernel_rfl, by kernel_rfl, by kernel_rfl, by kernel_rfl, by kernel_rfl⟩
noncomputable def fs349 : Array Field := fsD (Tryz.prog.underlying 349)
noncomputable def i349 : TInf := ⟨.struct fs349, 2, 16, [.int .i64 0, .int .i64 0], .agg ([.int .i64 0, .int .i64 0]).toArray, true, [(0, 1, false), (1, 1, false)]⟩
theorem g349 : good Tryz.prog 349 i349 := ⟨by kernel_rfl, by kernel_rfl, by kernel_rfl, by kernel_rfl, by kernel_rfl⟩
noncomputable def i366 : TInf := ⟨.array 2 3, 2, 16, [.int .i64 0, .int .i64 0], .agg ([.int .i64 0, .int .i64 0]).toArray, true, []⟩
theorem g366 : good Tryz.prog 366 i366 := ⟨by kernel_rfl, by kernel_rfl, by kernel_rfl, by kernel_rfl, by kernel_rfl⟩
noncomputable def fs376 : Array Field := fsD (Tryz.prog.underlying 376)
noncomputable def i376 : TInf := ⟨.struct fs376, 5, 48, [.pointer none, .string .empty, .int .i64 0, .int .i64 0, .map none], .agg ([.pointer none, .string .empty, .int .i64 0, .int .i64 0, .map none]).toArray, true, [(0, 1, false), (1, 1, false), (2, 1, false), (3, 1, false), (4, 1, false)]⟩
theorem g376 : good Tryz.prog 376 i376 := ⟨by kernel_rfl, by kernel_rfl, by kernel_rfl, by kernel_rfl, by kernel_rfl⟩
noncomputable def i379 : TInf := ⟨.pointer 438, 1, 8, [.pointer none], .pointer none, false, []⟩
theorem g379 : good Tryz.prog 379 i379 := ⟨by kernel_rfl, by kernel_rfl, by kernel_rfl, by kernel_rfl, by kernel_rfl⟩
noncomputable def i384 : TInf := ⟨.int .i64, 1, 8, [.int .i64 0], .int .i64 0, false, []⟩
theorem g384 : good Tryz.prog 384 i384 := ⟨by kernel_rfl, by kernel_rfl, by kernel_rfl, by kernel_rfl, by kernel_rfl⟩
noncomputable def i392 : TInf := ⟨.int .u64, 1, 8, [.int .u64 0], .int .u64 0, false, []⟩
theorem g392 : good Tryz.prog 392 i392 := ⟨by kernel_rfl, by kernel_rfl, by kernel_rfl, by kernel_rfl, by kernel_rfl⟩
noncomputable def i393 : TInf := ⟨.array 256 5, 256, 256, List.replicate 256 (.int .u8 0), .agg (List.replicate 256 (.int .u8 0)).toArray, true, []⟩
theorem g393 : good Tryz.prog 393 i393 := ⟨by kernel_rfl, by kernel_rfl, by kernel_rfl, by kernel_rfl, by kernel_rfl⟩
noncomputable def i401 : TInf := ⟨.int .i64, 1, 8, [.int .i64 0], .int .i64 0, false, []⟩
theorem g401 : good Tryz.prog 401 i401 := ⟨by kernel_rfl, by kernel_rfl, by kernel_rfl, by kernel_rfl, by kernel_rfl⟩
noncomputable def i410 : TInf := ⟨.slice 449, 1, 24, [.slice none 0 0], .slice none 0 0, false, []⟩
theorem g410 : good Tryz.prog 410 i410 := ⟨by kernel_rfl, by kernel_rfl, by kernel_rfl, by kernel_rfl, by kernel_rfl⟩
noncomputable def fs413 : Array Field := fsD (Tryz.prog.underlying 413)
noncomputable def i413 : TInf := ⟨.struct fs413, 3, 56, [.slice none 0 0, .slice none 0 0, .int .i64 0], .agg ([.slice none 0 0, .slice none 0 0, .int .i64 0]).toArray, true, [(0, 1, false), (1, 1, false), (2, 1, false)]⟩
theorem g413 : good Tryz.prog 413 i413 := ⟨by kernel_rfl, by kernel_rfl, by kernel_rfl, by kernel_rfl, by kernel_rfl⟩
noncomputable def fs423 : Array Field := fsD (Tryz.prog.underlying 423)
noncomputable def i423 : TInf := ⟨.struct fs423, 0, 0, [], .agg ([]).toArray, true, []⟩
theorem g423 : good Tryz.prog 423 i423 := ⟨by kernel_rfl, by kernel_rfl, by kernel_rfl, by kernel_rfl, by kernel_rfl⟩
noncomputable def fs426 : Array Field := fsD (Tryz.prog.underlying 426)
noncomputable def i426 : TInf := ⟨.struct fs426, 1, 8, [.pointer none], .agg ([.pointer none]).toArray, true, [(0, 1, false)]⟩
theorem g426 : good Tryz.prog 426 i426 := ⟨by kernel_rfl, by kernel_rfl, by kernel_rfl, by kernel_rfl, by kernel_rfl⟩
noncomputable def i430 : TInf := ⟨.pointer 3, 1, 8, [.pointer none], .pointer none, false, []⟩
theorem g430 : good Tryz.prog 430 i430 := ⟨by kernel_rfl, by kernel_rfl, by kernel_rfl, by kernel_rfl, by kernel_rfl⟩
noncomputable def i431 : TInf := ⟨.array 5 430, 5, 40, [.pointer none, .pointer none, .pointer none, .pointer none, .pointer none], .agg ([.pointer none, .pointer none, .pointer none, .pointer none, .pointer none]).toArray, true, []⟩
theorem g431 : good Tryz.prog 431 i431 := ⟨by kernel_rfl, by kernel_rfl, by kernel_rfl, by kernel_rfl, by kernel_rfl⟩
noncomputable def fs438 : Array Field := fsD (Tryz.prog.underlying 438)
noncomputable def i438 : TInf := ⟨.struct fs438, 2, 32, [.slice none 0 0, .int .i64 0], .agg ([.slice none 0 0, .int .i64 0]).toArray, true, [(0, 1, false), (1, 1, false)]⟩
theorem g438 : good Tryz.prog 438 i438 := ⟨by kernel_rfl, by kernel_rfl, by kernel_rfl, by kernel_rfl, by kernel_rfl⟩
noncomputable def i439 : TInf := ⟨.int .u64, 1, 8, [.int .u64 0], .int .u64 0, false, []⟩
theorem g439 : good Tryz.prog 439 i439 := ⟨by kernel_rfl, by kernel_rfl, by kernel_rfl, by kernel_rfl, by kernel_rfl⟩
noncomputable def i444 : TInf := ⟨.int .u64, 1, 8, [.int .u64 0], .int .u64 0, false, []⟩
theorem g444 : good Tryz.prog 444 i444 := ⟨by kernel_rfl, by kernel_rfl, by kernel_rfl, by kernel_rfl, by kernel_rfl⟩
noncomputable def i447 : TInf := ⟨.array 2 106, 2, 48, [.slice none 0 0, .slice none 0 0], .agg ([.slice none 0 0, .slice none 0 0]).toArray, true, []⟩
theorem g447 : good Tryz.prog 447 i447 := ⟨by kernel_rfl, by kernel_rfl, by kernel_rfl, by kernel_rfl, by kernel_rfl⟩
noncomputable def fs449 : Array Field := fsD (Tryz.prog.underlying 449)
noncomputable def i449 : TInf := ⟨.struct fs449, 4, 32, [.int .i64 0, .int .i64 0, .int .i64 0, .int .i64 0], .agg ([.int .i64 0, .int .i64 0, .int .i64 0, .int .i64 0]).toArray, true, [(0, 1, false), (1, 1, false), (2, 1, false), (3, 1, false)]⟩
theorem g449 : good Tryz.prog 449 i449 := ⟨by kernel_rfl, by kernel_rfl, by kernel_rfl, by kernel_rfl, by kernel_rfl⟩
noncomputable def i450 : TInf := ⟨.array 3 3, 3, 24, [.int .i64 0, .int .i64 0, .int .i64 0], .agg ([.int .i64 0, .int .i64 0, .int .i64 0]).toArray, true, []⟩
theorem g450 : good Tryz.prog 450 i450 := ⟨by kernel_rfl, by kernel_rfl, by kernel_rfl, by kernel_rfl, by kernel_rfl⟩
noncomputable def i454 : TInf := ⟨.array 2 9, 2, 32, [.string .empty, .string .empty], .agg ([.string .empty, .string .empty]).toArray, true, []⟩
theorem g454 : good Tryz.prog 454 i454 := ⟨by kernel_rfl, by kernel_rfl, by kernel_rfl, by kernel_rfl, by kernel_rfl⟩
noncomputable def i455 : TInf := ⟨.map 88 4, 1, 8, [.map none], .map none, false, []⟩
theorem g455 : good Tryz.prog 455 i455 := ⟨by kernel_rfl, by kernel_rfl, by kernel_rfl, by kernel_rfl, by kernel_rfl⟩
noncomputable def fs457 : Array Field := fsD (Tryz.prog.underlying 457)
noncomputable def i457 : TInf := ⟨.struct fs457, 7, 72, [.pointer none, .pointer none, .string .empty, .string .empty, .int .i64 0, .int .i64 0, .map none], .agg ([.pointer none, .pointer none, .string .empty, .string .empty, .int .i64 0, .int .i64 0, .map none]).toArray, true, [(0, 1, false), (1, 1, false), (2, 2, true), (4, 2, true), (6, 1, false)]⟩
theorem g457 : good Tryz.prog 457 i457 := ⟨by kernel_rfl, by kernel_rfl, by kernel_rfl, by kernel_rfl, by kernel_rfl⟩
noncomputable def fs465 : Array Field := fsD (Tryz.prog.underlying 465)
noncomputable def i465 : TInf := ⟨.struct fs465, 10, 80, [.int .i64 0, .int .i64 0, .int .i64 0, .int .i64 0, .int .i64 0, .int .i64 0, .int .i64 0, .int .i64 0, .int .i64 0, .int .i64 0], .agg ([.int .i64 0, .int .i64 0, .int .i64 0, .int .i64 0, .int .i64 0, .int .i64 0, .int .i64 0, .int .i64 0, .int .i64 0, .int .i64 0]).toArray, true, [(0, 1, false), (1, 1, false), (2, 4, true), (6, 4, true)]⟩
theorem g465 : good Tryz.prog 465 i465 := ⟨by kernel_rfl, by kernel_rfl, by kernel_rfl, by kernel_rfl, by kernel_rfl⟩
noncomputable def i467 : TInf := ⟨.map 3 465, 1, 8, [.map none], .map none, false, []⟩
theorem g467 : good Tryz.prog 467 i467 := ⟨by kernel_rfl, by kernel_rfl, by kernel_rfl, by kernel_rfl, by kernel_rfl⟩
noncomputable def fd468 : TypeDesc := anyD (Tryz.prog.underlying 468)
noncomputable def i468 : TInf := ⟨fd468, 1, 8, [.nilFunc], .nilFunc, false, []⟩
theorem g468 : good Tryz.prog 468 i468 := ⟨by kernel_rfl, by kernel_rfl, by kernel_rfl, by kernel_rfl, by kernel_rfl⟩
noncomputable def tableT : TTr := (.node 192 (.node 97 (.node 41 (.node 24 (.node 5 (.node 3 (.leaf 3 i3) (.node 4 (.leaf 4 i4) (.leaf 5 i5))) (.node 20 (.node 9 (.leaf 9 i9) (.leaf 20 i20)) (.node 22 (.leaf 22 i22) (.leaf 24 i24)))) (.node 30 (.node 26 (.leaf 26 i26) (.node 29 (.leaf 29 i29) (.leaf 30 i30))) (.node 32 (.node 31 (.leaf 31 i31) (.leaf 32 i32)) (.node 34 (.leaf 34 i34) (.leaf 41 i41))))) (.node 78 (.node 61 (.node 45 (.leaf 45 i45) (.node 47 (.leaf 47 i47) (.leaf 61 i61))) (.node 64 (.node 63 (.leaf 63 i63) (.leaf 64 i64)) (.node 77 (.leaf 77 i77) (.leaf 78 i78)))) (.node 85 (.node 82 (.node 80 (.leaf 80 i80) (.leaf 82 i82)) (.node 83 (.leaf 83 i83) (.leaf 85 i85))) (.node 89 (.node 88 (.leaf 88 i88) (.leaf 89 i89)) (.node 91 (.leaf 91 i91) (.leaf 97 i97)))))) (.node 138 (.node 120 (.node 106 (.node 101 (.leaf 101 i101) (.node 103 (.leaf 103 i103) (.leaf 106 i106))) (.node 111 (.node 109 (.leaf 109 i109) (.leaf 111 i111)) (.node 114 (.leaf 114 i114) (.leaf 120 i120)))) (.node 126 (.node 121 (.leaf 121 i121) (.node 123 (.leaf 123 i123) (.leaf 126 i126))) (.node 132 (.node 129 (.leaf 129 i129) (.leaf 132 i132)) (.node 134 (.leaf 134 i134) (.leaf 138 i138))))) (.node 157 (.node 146 (.node 142 (.leaf 142 i142) (.node 144 (.leaf 144 i144) (.leaf 146 i146))) (.node 150 (.node 148 (.leaf 148 i148) (.leaf 150 i150)) (.node 152 (.leaf 152 i152) (.leaf 157 i157)))) (.node 176 (.node 167 (.node 165 (.leaf 165 i165) (.leaf 167 i167)) (.node 175 (.leaf 175 i175) (.leaf 176 i176))) (.node 182 (.node 178 (.leaf 178 i178) (.leaf 182 i182)) (.node 187 (.leaf 187 i187) (.leaf 192 i192))))))) (.node 333 (.node 230 (.node 202 (.node 197 (.node 193 (.leaf 193 i193) (.node 195 (.leaf 195 i195) (.leaf 197 i197))) (.node 200 (.node 198 (.leaf 198 i198) (.leaf 200 i200)) (.node 201 (.leaf 201 i201) (.leaf 202 i202)))) (.node 221 (.node 204 (.leaf 204 i204) (.node 219 (.leaf 219 i219) (.leaf 221 i221))) (.node 224 (.node 222 (.leaf 222 i222) (.leaf 224 i224)) (.node 227 (.leaf 227 i227) (.leaf 230 i230))))) (.node 276 (.node 248 (.node 240 (.leaf 240 i240) (.node 242 (.leaf 242 i242) (.leaf 248 i248))) (.node 269 (.node 251 (.leaf 251 i251) (.leaf 269 i269)) (.node 274 (.leaf 274 i274) (.leaf 276 i276)))) (.node 307 (.node 291 (.node 281 (.leaf 281 i281) (.leaf 291 i291)) (.node 305 (.leaf 305 i305) (.leaf 307 i307))) (.node 316 (.node 314 (.leaf 314 i314) (.leaf 316 i316)) (.node 320 (.leaf 320 i320) (.leaf 333 i333)))))) (.node 423 (.node 379 (.node 346 (.node 334 (.leaf 334 i334) (.node 336 (.leaf 336 i336) (.leaf 346 i346))) (.node 366 (.node 349 (.leaf 349 i349) (.leaf 366 i366)) (.node 376 (.leaf 376 i376) (.leaf 379 i379)))) (.node 393 (.node 384 (.leaf 384 i384) (.node 392 (.leaf 392 i392) (.leaf 393 i393))) (.node 410 (.node 401 (.leaf 401 i401) (.leaf 410 i410)) (.node 413 (.leaf 413 i413) (.leaf 423 i423))))) (.node 447 (.node 431 (.node 426 (.leaf 426 i426) (.node 430 (.leaf 430 i430) (.leaf 431 i431))) (.node 439 (.node 438 (.leaf 438 i438) (.leaf 439 i439)) (.node 444 (.leaf 444 i444) (.leaf 447 i447)))) (.node 455 (.node 450 (.node 449 (.leaf 449 i449) (.leaf 450 i450)) (.node 454 (.leaf 454 i454) (.leaf 455 i455))) (.node 465 (.node 457 (.leaf 457 i457) (.leaf 465 i465)) (.node 467 (.leaf 467 i467) (.leaf 468 i468))))))))
theorem tableT_good : tableT.all (good Tryz.prog) := ⟨⟨⟨⟨⟨⟨g3, ⟨g4, g5⟩⟩, ⟨⟨g9, g20⟩, ⟨g22, g24⟩⟩⟩, ⟨⟨g26, ⟨g29, g30⟩⟩, ⟨⟨g31, g32⟩, ⟨g34, g41⟩⟩⟩⟩, ⟨⟨⟨g45, ⟨g47, g61⟩⟩, ⟨⟨g63, g64⟩, ⟨g77, g78⟩⟩⟩, ⟨⟨⟨g80, g82⟩, ⟨g83, g85⟩⟩, ⟨⟨g88, g89⟩, ⟨g91, g97⟩⟩⟩⟩⟩, ⟨⟨⟨⟨g101, ⟨g103, g106⟩⟩, ⟨⟨g109, g111⟩, ⟨g114, g120⟩⟩⟩, ⟨⟨g121, ⟨g123, g126⟩⟩, ⟨⟨g129, g132⟩, ⟨g134, g138⟩⟩⟩⟩, ⟨⟨⟨g142, ⟨g144, g146⟩⟩, ⟨⟨g148, g150⟩, ⟨g152, g157⟩⟩⟩, ⟨⟨⟨g165, g167⟩, ⟨g175, g176⟩⟩, ⟨⟨g178, g182⟩, ⟨g187, g192⟩⟩⟩⟩⟩⟩, ⟨⟨⟨⟨⟨g193, ⟨g195, g197⟩⟩, ⟨⟨g198, g200⟩, ⟨g201, g202⟩⟩⟩, ⟨⟨g204, ⟨g219, g221⟩⟩, ⟨⟨g222, g224⟩, ⟨g227, g230⟩⟩⟩⟩, ⟨⟨⟨g240, ⟨g242, g248⟩⟩, ⟨⟨g251, g269⟩, ⟨g274, g276⟩⟩⟩, ⟨⟨⟨g281, g291⟩, ⟨g305, g307⟩⟩, ⟨⟨g314, g316⟩, ⟨g320, g333⟩⟩⟩⟩⟩, ⟨⟨⟨⟨g334, ⟨g336, g346⟩⟩, ⟨⟨g349, g366⟩, ⟨g376, g379⟩⟩⟩, ⟨⟨g384, ⟨g392, g393⟩⟩, ⟨⟨g401, g410⟩, ⟨g413, g423⟩⟩⟩⟩, ⟨⟨⟨g426, ⟨g430, g431⟩⟩, ⟨⟨g438, g439⟩, ⟨g444, g447⟩⟩⟩, ⟨⟨⟨g449, g450⟩, ⟨g454, g455⟩⟩, ⟨⟨g457, g465⟩, ⟨g467, g468⟩⟩⟩⟩⟩⟩⟩
def entersT (f : Nat) : Bool := bif Nat.blt f 302 then (match f with | 142 | 202 | 228 | 229 | 230 | 272 => false | 0 => false | 1 => false | 2 => false | _ => true) else (bif Nat.blt f 311 then false else Nat.blt f 373)
theorem entersT_all : (List.range 373).all (fun f => !entersT f || (match Tryz.prog.funcs[f]? with | some fn => !fn.body.isNone && !(fn.name == "runtime.NumGoroutine") | none => false)) = true := by kernel_rfl
noncomputable instance : Tab Tryz.prog where
 tab := tableT.look
 under t i h := (TTr.look_all tableT_good h).1
 info t i h := by
  have := (TTr.look_all tableT_good h).2.1
  have hzv := (TTr.look_all tableT_good h).2.2.1
  cases hi : Tryz.prog.info? t with
  | none => rw [hi] at this; cases this
  | some ti =>
   rw [hi] at this hzv
   simp only [Option.map_some, Option.some.injEq, Prod.mk.injEq] at this hzv
   obtain ⟨h1, h2, h3⟩ := this
   cases hz : ti.zero with
   | none => rw [hz] at h3; cases h3
   | some z => rw [hz] at h3; rw [hz] at hzv; exact ⟨ti, rfl, h1, h2, z, hz, by simpa using h3, by simpa using hzv⟩
 agg t i h := (TTr.look_all tableT_good h).2.2.2.1
 places t i fs h hd := by
  have hp := (TTr.look_all tableT_good h).2.2.2.2
  rw [hd] at hp
  simp only [fsD] at hp
  have hl : fs.size = i.places.length := by have := congrArg List.length hp; simpa using this
  refine ⟨hl, fun k f hk => ?_⟩
  have hlt : k < fs.size := (Array.getElem?_eq_some_iff.1 hk).1
  have := congrArg (fun l => l[k]?) hp
  simp only [List.getElem?_map, Array.getElem?_toList, hk, Option.map_some] at this
  rw [List.getElem?_eq_getElem (by omega)] at this ⊢
  simp only [Option.map_some, Option.some.injEq, Prod.mk.injEq] at this
  obtain ⟨h1, h2, h3⟩ := this
  cases hi : Tryz.prog.info? f.type with
  | none => rw [hi] at h2; cases h2
  | some ti =>
   cases hu : Tryz.prog.underlying f.type with
   | none => rw [hu] at h3; cases h3
   | some dd =>
    rw [hi] at h2; rw [hu] at h3
    simp only [Option.map_some, Option.some.injEq] at h2 h3
    exact ⟨ti, dd, rfl, rfl, by rw [h1, h2, h3]⟩
 enters := entersT
 enter f hf := by
  have hlt : f < 373 := by
   unfold entersT at hf
   cases h1 : Nat.blt f 302 with
   | true => have := Nat.le_of_ble_eq_true h1; omega
   | false =>
    rw [h1] at hf
    cases h2 : Nat.blt f 311 with
    | true => rw [h2] at hf; cases hf
    | false => rw [h2] at hf; have := Nat.le_of_ble_eq_true hf; omega
  have := List.all_eq_true.1 entersT_all f (List.mem_range.2 hlt)
  rw [hf] at this
  cases hfn : Tryz.prog.funcs[f]? with
  | none => rw [hfn] at this; simp at this
  | some fn =>
   rw [hfn] at this
   simp only [Bool.not_true, Bool.false_or, Bool.and_eq_true, Bool.not_eq_true'] at this
   exact ⟨fn, rfl, this.1, this.2⟩
end Go.Ox
end
