/- WholeKept, part 13. No condition. -/
import Derived.Shelf.Sort.Plain
import Derived.Shelf.Slices.In.SortNone2
import Derived.Shelf.SlSortFuncK.WholeK
import Derived.Deep.QuietTactic
import Derived.Ground.GgsProg
import Derived.Shelf.GgSortFunc.Tiny
import Derived.Test.YtonpakokjgloaaaGreatOx03
import Derived.Test.YtonpakokjgloaaaGreatOx04
import Derived.Test.YtonpakokjgloaaaGreatOx09
import Derived.Test.YtonpakokjgloaaaGreatOx12
set_option linter.all false
section
set_option maxRecDepth 100000
namespace Go.Proofs
open Go.Shelf
end Go.Proofs
namespace Go.Ox
open Go Go.Proofs
theorem sat.grow {G : Ghost} {w : World} {S : List Asn} (h : sat G w S) (os : Array Obj) : sat G (Go.Sort.grow w os) S := by
 refine ⟨h.os, h.tape, h.output, ?_, star_mono h.heap fun k u e => ?_⟩
 ·have := h.size; simp [Go.Sort.grow]; omega
 ·unfold heapOf at *
  have hlt : k < w.heap.size := (Array.getElem?_eq_some_iff.1 e).1
  simp only [Go.Sort.grow]
  rw [Array.getElem?_append_left hlt]; exact e
def intsV (zs : List Int) : List (List Value) := zs.map fun x => [.int .i64 x]
theorem intsV_flat (zs : List Int) : (intsV zs).flatten = zs.map (Value.int .i64) := by
 induction zs with
 | nil => rfl
 | cons x zs ih => simp only [intsV, List.map_cons, List.flatten_cons] at ih ⊢; rw [ih]; rfl
theorem put_cells (zs ys : List Int) (sp : List Value) (h : ys.length = zs.length) : Go.Sort.putCells (Value.int .i64) 0 ys.toArray ((zs.map (Value.int .i64)) ++ sp).toArray = ((ys.map (Value.int .i64)) ++ sp).toArray := by
 apply Array.ext_getElem?
 intro k
 simp only [Go.Sort.putCells, Array.getElem?_mapIdx, List.getElem?_toArray, List.size_toArray, Nat.zero_add, Nat.sub_zero, Nat.zero_le, true_and]
 by_cases hk : k < ys.length
 ·rw [List.getElem?_append_left (by simpa using (show k < zs.length by omega)), List.getElem?_append_left (by simpa using hk)]
  simp [hk, h ▸ hk]
 ·rw [List.getElem?_append_right (by simp; omega), List.getElem?_append_right (by simp; omega)]
  have hk2 : ¬ k < zs.length := by omega
  simp [h, hk2]
theorem s_sortInts (a : Option Addr) (n c e : Nat) (zs : List Int) (hn : n < 4611686018427387904) :
  Spec Tryz.prog 100 [.slice a n c] [own a n c e 1 (intsV zs)] (fun _ S => S = [own a n c e 1 (intsV (zs.mergeSort fun x y => decide (x ≤ y)))]) := by
 intro G F w hs
 obtain ⟨h1, h2, h3, h4, h5⟩ := own_cells hs
 have hl : zs.length = n := by simpa [intsV] using h1
 have hl2 : (zs.mergeSort fun x y => decide (x ≤ y)).length = zs.length := List.length_mergeSort _
 rcases h5 with ⟨rfl, rfl, _⟩ | ⟨b, sp, rfl, hlen, hp⟩
 ·have h0 : n = 0 := by omega
  subst h0
  have hz : zs = [] := List.eq_nil_of_length_eq_zero hl
  subst hz
  refine (Any.sort_Ints_none Tryz.lays191 none 0 w).mono fun e' w' ⟨he, hw⟩ => ?_
  subst hw
  exact ⟨.tuple #[], _, he, rfl, by simpa using hs⟩
 ·have hb : w.heap[b]? = some (.cells ((intsV zs).flatten ++ sp).toArray e (0, 0)) := sat.get (S := [pt b _]) (F := F) (n := 0) hp rfl
  have hlt : b < w.heap.size := (Array.getElem?_eq_some_iff.1 hb).1
  subst hl
  rw [intsV_flat] at hb
  refine (Any.sort_Ints Tryz.lays191 b 0 c zs w ?_ hlt hn).mono fun e' w' ⟨he, m, os, hw⟩ => ?_
  ·intro j hj
   have hj' : j < zs.length := by simpa using hj
   constructor
   ·simp [World.cell?, hb, hj']
    rw [List.getElem?_append_left (by simpa using hj')]; simp [hj']
   ·simp [World.frozen?, hb]
  ·refine ⟨.tuple #[], _, he, rfl, ?_⟩
   rw [hw]
   refine sat.grow ?_ os
   refine own_fold (sp := sp) (by simp [intsV, hl2]) ?_ h3 h4 ?_ ?_
   ·intro x hx
    obtain ⟨y, _, rfl⟩ := List.mem_map.1 hx
    exact ⟨rfl, fun v hv => by rw [List.mem_singleton.1 hv]; rfl⟩
   ·rw [← hlen]; simp [intsV_flat, hl2]
   ·refine sat.put (S := [pt b _]) (n := 0) (F := F) hp rfl rfl rfl rfl ?_
    rw [intsV_flat, ← put_cells zs _ sp hl2]
    show (w.heap.modify b _) = _
    apply Array.ext_getElem?
    intro k
    rw [Array.getElem?_modify]
    by_cases hk : b = k
    ·subst hk
     rw [if_pos rfl, hb, Array.getElem?_setIfInBounds_self_of_lt hlt]; rfl
    ·rw [if_neg hk, Array.getElem?_setIfInBounds_ne hk]
end Go.Ox
end
section
set_option maxHeartbeats 2000000
namespace Go.Proofs
open Go.Shelf Go.RowKit Go.Lib Go.Sort
noncomputable def Tryz.svT : TypeInfo := (Tryz.prog.info? 106).get (by kernel_rfl)
noncomputable def Tryz.svE : TypeInfo := (Tryz.prog.info? 187).get (by kernel_rfl)
theorem Tryz.svK (n : Nat) (h2 : 2 ≤ n) : Lib.swapperK n Tryz.svE 25 = 9 := by
 have a : Tryz.svE.hasPointers = false := by kernel_rfl
 have b : Tryz.svE.bytes = 16 := by kernel_rfl
 have c : (n == 0) = false := by simp; omega
 have d : (n == 1) = false := by simp; omega
 simp [Lib.swapperK, a, b, c, d]
def encR (p : Int × Int) : List Value := [.int .i64 p.1, .int .i64 p.2]
def ltR (a b : Int × Int) : Bool := decide (a.1 < b.1)
theorem swo_ltR : SWO ltR where
 irrefl := fun x => by simp [ltR]
 trans := fun x y z h1 h2 => by simp [ltR] at *; omega
 ntrans := fun x y z h1 h2 => by simp [ltR] at *; omega
theorem Tryz.less163 (blk off c Bs size : Nat) (W : World) (G : Nat → Int) (hs : W.cell? ⟨Bs, 0, none⟩ = some (.slice (some ⟨blk, off, none⟩) size c))
  (hc : ∀ t, t < size → W.cell? ⟨blk, off + t * 2, none⟩ = some (.int .i64 (G t))) (i j : Nat) (hi : i < size) (hj : j < size) (_hsz : size < 4611686018427387904) :
  Calls Tryz.prog 163 #[.int .i64 i, .int .i64 j, .pointer (some ⟨Bs, 0, none⟩)] W fun e w' => e = .returned (.bool (decide (G i < G j))) ∧ ∃ q, w' = W.drewN q := by
 have ci := hc i hi
 have cj := hc j hj
 go_enter Tryz.func163, Tryz.ntmps163
 go_wp2
 go_quiet (fail)
 go_wp2
 go_ret
 exact ⟨rfl, nq, rfl⟩
theorem Tryz.sortSlice (blk off c Bs : Nat) (d : Array (Int × Int)) (h2 : 2 ≤ d.size) (hsz : d.size < 4611686018427387904) (w : World) (hH : HoldsK encR 2 w blk off d) (hblk : blk < w.heap.size)
  (hBs : w.cell? ⟨Bs, 0, none⟩ = some (.slice (some ⟨blk, off, none⟩) d.size c)) (hB1 : Bs < w.heap.size) (hB2 : Bs ≠ blk) :
  Calls Tryz.prog 162 #[.iface 106 (.slice (some ⟨blk, off, none⟩) d.size c), .func (.func 163) #[] #[.pointer (some ⟨Bs, 0, none⟩)]] w fun e w' =>
   e = .returned (.tuple #[]) ∧ ∃ d' n os, PermIn 0 d.size d d' ∧ SortedIn ltR 0 d.size d' ∧ w' = grow (putRowK encR 2 (Sort.ahead w n) blk off d') os := by
 have hless : LessReadsK Tryz.prog 163 #[.pointer (some ⟨Bs, 0, none⟩)] encR 2 ltR blk off d.size w := by
  intro m os dk hs i j hi hj
  have e : sortWorldK encR 2 w blk off m dk os = putRowK encR 2 (grow (Sort.ahead w m) os) blk off dk := by
   unfold sortWorldK; rw [putRowK_grow _ _ (Sort.ahead w m) _ blk off _ hblk]
  have hHg : HoldsK encR 2 (grow (Sort.ahead w m) os) blk off d := holdsK_grow _ _ _ _ blk off d hblk (holdsK_ahead _ _ _ _ _ _ _ hH)
  refine Tryz.less163 blk off c Bs d.size _ (fun t => dk[t]!.1) ?_ (fun t ht => ?_) i j hi hj (by omega)
  ·rw [e, cell?_putRowK_other _ _ _ blk off dk _ (by exact hB2), cell?_grow _ _ _ (by exact hB1)]; exact hBs
  ·rw [e]; exact ((holdsK_putRowK _ _ _ blk off d dk hHg hs).cell (i := t) (c := 0) (by omega) (by omega)).1
 exact Any.sort_Slice_cells_sorted Tryz.sv162 106 187 Tryz.svT Tryz.svE (by kernel_rfl) (by kernel_rfl) (by kernel_rfl) (by kernel_rfl) 25 (fun _ => by kernel_rfl) encR 2 (fun _ => rfl) (by kernel_rfl) (fun _ => by kernel_rfl)
  (fun x v hv => by simp [encR] at hv; rcases hv with rfl | rfl <;> rfl) ltR swo_ltR 163 _
  (enters_of Tryz.func163 (by kernel_rfl) rfl) blk off c d h2 hsz 310 (by rw [Tryz.svK _ h2]; kernel_rfl) false
  (fun args W => run_callFunc_extern Tryz.func310 (by kernel_rfl) (by kernel_rfl) (by kernel_rfl) (e := Extern.ReflectliteSwapper.swap false) (by kernel_rfl) args W) w hless hH hblk
end Go.Proofs
end
section
set_option maxRecDepth 100000
namespace Go.Ox
open Go Go.Proofs Go.Sort Go.Lib
def rgV (l : List (Int × Int)) : List (List Value) := l.map encR
theorem rgV_ok (l : List (Int × Int)) : ∀ x ∈ rgV l, x.length = 2 ∧ ∀ v ∈ x, v.oneCell' = true := by
 intro x hx
 obtain ⟨p, _, rfl⟩ := List.mem_map.1 hx
 refine ⟨rfl, fun v hv => ?_⟩
 simp [encR] at hv
 rcases hv with rfl | rfl <;> rfl
theorem rgV_fl (l : List (Int × Int)) : (rgV l).flatten.length = l.length * 2 := by
 rw [flatten_len (fun x hx => (rgV_ok l x hx).1)]; simp [rgV]
theorem flatK_flat (d : Array (Int × Int)) : (flatK encR 2 d).toList = (rgV d.toList).flatten := by
 apply List.ext_getElem?
 intro t
 by_cases ht : t < d.size * 2
 ·have h1 : t / 2 < d.size := by omega
  have hk : (rgV d.toList)[t / 2]? = some (encR d[t / 2]!) := by
   unfold rgV
   rw [List.getElem?_map]
   simp [h1]
  have hm : t % 2 = 0 ∨ t % 2 = 1 := by omega
  have hf : (encR d[t / 2]!)[t % 2]? = some (encR d[t / 2]!)[t % 2]! := by
   rcases hm with h | h <;> rw [h] <;> rfl
  have := flatten_get (fun x hx => (rgV_ok d.toList x hx).1) hk hf
  rw [show t / 2 * 2 + t % 2 = t by omega] at this
  rw [this]
  simp [flatK, ht]
 ·rw [List.getElem?_eq_none (by simpa [flatK] using ht), List.getElem?_eq_none (by rw [rgV_fl]; simpa using ht)]
theorem put_cellsR (l : List (Int × Int)) (d' : Array (Int × Int)) (sp : List Value) (h : d'.size = l.length) : putCells id 0 (flatK encR 2 d') ((rgV l).flatten ++ sp).toArray = ((rgV d'.toList).flatten ++ sp).toArray := by
 apply Array.ext_getElem?
 intro k
 have hf := flatK_flat d'
 have hsz : (flatK encR 2 d').size = d'.size * 2 := by simp [flatK]
 simp only [putCells, Array.getElem?_mapIdx, List.getElem?_toArray, Nat.zero_add, Nat.sub_zero, Nat.zero_le, true_and, hsz]
 have h1 := rgV_fl l
 have h2 := rgV_fl d'.toList
 have h3 : d'.toList.length = d'.size := by simp
 by_cases hk : k < d'.size * 2
 ·rw [List.getElem?_append_left (by omega), List.getElem?_append_left (by omega)]
  have e1 : (rgV l).flatten[k]? = some ((rgV l).flatten[k]'(by omega)) := List.getElem?_eq_getElem (by omega)
  rw [e1, Option.map_some, if_pos hk, ← hf]
  have : k < (flatK encR 2 d').size := by omega
  show some (id (flatK encR 2 d')[k]!) = (flatK encR 2 d').toList[k]?
  rw [getElem!_pos _ k this, Array.getElem?_toList, Array.getElem?_eq_getElem this]; rfl
 ·rw [List.getElem?_append_right (by omega), List.getElem?_append_right (by omega)]
  rw [h1, h2, h3, h]
  have : (fun x => if k < d'.size * 2 then id (flatK encR 2 d')[k]! else x) = fun x : Value => x := by
   funext x; rw [if_neg hk]
  simp [hk]
  rw [h] at hk
  simp [hk]
theorem s_sortSlice (a : Option Addr) (n c Bs : Nat) (l : List (Int × Int)) (hn : n < 4611686018427387904) :
  Spec Tryz.prog 162 [.iface 106 (.slice a n c), .func (.func 163) #[] #[.pointer (some ⟨Bs, 0, none⟩)]] [own a n c 187 2 (rgV l), cellsAt Bs 106 [.slice a n c]]
   (fun _ S => ∃ l' : List (Int × Int), l'.Perm l ∧ l'.Pairwise (fun p q => p.1 ≤ q.1) ∧ S = [own a n c 187 2 (rgV l'), cellsAt Bs 106 [.slice a n c]]) := by
 intro G F w hs
 obtain ⟨h1, h2, h3, h4, h5⟩ := own_cells (R := cellsAt Bs 106 [.slice a n c] :: F) hs
 have hl : l.length = n := by simpa [rgV] using h1
 by_cases h2n : n ≤ 1
 ·have hsw : ∃ f, Tryz.prog.funcs.findIdx? (·.name == "internal/reflectlite" ++ ".Swapper$" ++ toString (swapperK n Tryz.svE 25)) = some f := by
   obtain rfl | rfl : n = 0 ∨ n = 1 := by omega
   ·exact ⟨302, by kernel_rfl⟩
   ·exact ⟨303, by kernel_rfl⟩
  obtain ⟨f, hf⟩ := hsw
  refine (Any.sort_Slice_tiny Tryz.sv162 106 187 Tryz.svT Tryz.svE (by kernel_rfl) (by kernel_rfl) (by kernel_rfl) (by kernel_rfl) 25 (fun _ => by kernel_rfl) a n c h2n f hf (.func 163) #[] #[.pointer (some ⟨Bs, 0, none⟩)] w).mono fun e' w' ⟨he, os, hw⟩ => ?_
  subst hw
  exact ⟨.tuple #[], _, he, ⟨l, .refl _, by match l, hl with | [], _ => exact .nil | [x], _ => exact List.pairwise_singleton .. | x :: y :: z, h => simp at h; omega, rfl⟩, hs.grow os⟩
 ·rcases h5 with ⟨rfl, rfl, _⟩ | ⟨b, sp, rfl, hlen, hp⟩
  ·omega
  ·have hb : w.heap[b]? = some (.cells ((rgV l).flatten ++ sp).toArray 187 (0, 0)) := sat.get (S := [pt b _]) (F := cellsAt Bs 106 _ :: F) (n := 0) hp rfl
   have hlt : b < w.heap.size := (Array.getElem?_eq_some_iff.1 hb).1
   have hB : w.heap[Bs]? = some (.cells #[.slice (some ⟨b, 0, none⟩) n c] 106 (0, 0)) := sat.get (S := [pt b _, cellsAt Bs 106 _]) (F := F) (n := 1) hp rfl
   have hne : Bs ≠ b := fun e => by subst e; rw [hb] at hB; simp at hB
   have hBlt : Bs < w.heap.size := (Array.getElem?_eq_some_iff.1 hB).1
   subst hl
   have hsz : l.toArray.size = l.length := by simp
   refine (Tryz.sortSlice b 0 c Bs l.toArray (by simp; omega) (by simpa using hn) w ?_ hlt ?_ hBlt hne).mono fun e' w' ⟨he, d', m, os, hpm, hso, hw⟩ => ?_
   ·intro j hj
    have hj' : j < l.length * 2 := by simpa using hj
    have hf := flatK_flat l.toArray
    have hfl := rgV_fl l
    have hget : (rgV l).flatten[j]? = some (flatK encR 2 l.toArray)[j]! := by
     have e : (flatK encR 2 l.toArray).toList[j]? = (rgV l).flatten[j]? := by rw [hf]
     rw [← e]
     have : j < (flatK encR 2 l.toArray).size := hj
     rw [getElem!_pos _ j this, Array.getElem?_toList, Array.getElem?_eq_getElem this]
    constructor
    ·simp only [World.cell?, hb, Nat.zero_add, List.getElem?_toArray, Option.isSome_none, Bool.false_eq_true, if_false]
     rw [List.getElem?_append_left (by omega), hget]; rfl
    ·simp [World.frozen?, hb]
   ·simp [World.cell?, hB]
   ·have hd' : d'.size = l.length := by rw [hpm.1]; simp
    have hperm : d'.toList.Perm l := by
     have h := hpm.2.2
     have e1 : d'.extract 0 l.toArray.size = d' := by rw [← hpm.1]; simp
     have e2 : l.toArray.extract 0 l.toArray.size = l.toArray := by simp
     rw [e1, e2] at h
     simpa using h
    have hsorted : d'.toList.Pairwise (fun p q => p.1 ≤ q.1) := by
     rw [List.pairwise_iff_getElem]
     intro i j hi hj hij
     have hi' : i < d'.size := by simpa using hi
     have hj' : j < d'.size := by simpa using hj
     have := hso i j (by omega) hij (by simp; omega)
     rw [getElem!_pos d' i hi', getElem!_pos d' j hj'] at this
     simp [ltR] at this
     simpa using this
    refine ⟨.tuple #[], _, he, ⟨d'.toList, hperm, hsorted, rfl⟩, ?_⟩
    rw [hw]
    refine sat.grow ?_ os
    refine own_fold (R := cellsAt Bs 106 _ :: F) (sp := sp) (by simp [rgV, hd']) (rgV_ok _) h3 h4 ?_ ?_
    ·rw [← hlen]; simp only [List.length_append, rgV_fl]; simp [hd']
    ·refine sat.put (S := [pt b _]) (n := 0) (F := cellsAt Bs 106 _ :: F) hp rfl rfl rfl rfl ?_
     rw [← put_cellsR l d' sp hd']
     show (w.heap.modify b _) = _
     apply Array.ext_getElem?
     intro k
     rw [Array.getElem?_modify]
     by_cases hk : b = k
     ·subst hk
      rw [if_pos rfl, hb, Array.getElem?_setIfInBounds_self_of_lt hlt]; rfl
     ·rw [if_neg hk, Array.getElem?_setIfInBounds_ne hk]
end Go.Ox
end
section
namespace Go.Ox
open Go Go.Proofs
section
variable {env : KEnv} {x y : Operand} {t xt yt e : TypeId} {ti ei : TInf} {s s' : ByteArray} {k : IntKind}
theorem q_lenStr (hx : ev env x = some (.string s)) (hT : Tab.tab Tryz.prog xt = some ti) (hd : ti.desc = .string) : QP Tryz.prog env (.call ⟨.builtin .len, #[x], #[xt]⟩) t (.int .i64 s.size) :=
 .mk fun ρ h w d pos aft => by
  have hu := r_under (P := Tryz.prog) w hT
  rw [hd] at hu
  simp [execOp, resolve, invoke, builtin, Builtin.len_, h x _ hx, hu, goInt]
theorem q_indexStr {j : Nat} (hx : ev env x = some (.string s)) (hy : ev env y = some (.int k (.ofNat j))) (hT : Tab.tab Tryz.prog xt = some ti) (hd : ti.desc = .string) (hj : j < s.size) : QP Tryz.prog env (.index xt x y) t (.int .u8 (s[j]'hj).toNat) :=
 .mk fun ρ h w d pos aft => by
  have hu := r_under (P := Tryz.prog) w hT
  rw [hd] at hu
  have hg : s[j]? = some (s[j]'hj) := by simp [hj]
  simp [execOp, Instr.index, asIntOf, h x _ hx, h y _ hy, hu, hg]
theorem q_neqStr (hx : ev env x = some (.string s)) (hy : ev env y = some (.string s')) : QP Tryz.prog env (.binOp .neq xt x y yt) t (.bool !(s.toList == s'.toList)) :=
 .mk fun ρ h w d pos aft => by
  simp [execOp, h x _ hx, h y _ hy, eqGuard, binOp, Op.stringOp]
theorem q_eqlStr (hx : ev env x = some (.string s)) (hy : ev env y = some (.string s')) : QP Tryz.prog env (.binOp .eql xt x y yt) t (.bool (s.toList == s'.toList)) :=
 .mk fun ρ h w d pos aft => by
  simp [execOp, h x _ hx, h y _ hy, eqGuard, binOp, Op.stringOp]
end
end Go.Ox
end
