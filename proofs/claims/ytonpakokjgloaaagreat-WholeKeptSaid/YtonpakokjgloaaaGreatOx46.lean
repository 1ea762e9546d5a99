/- WholeKept, part 46. No condition. -/
import Derived.Test.YtonpakokjgloaaaGreatOx45
set_option linter.all false
section
set_option maxRecDepth 100000
set_option maxHeartbeats 8000000
namespace Go.Ox
open Go Go.Proofs
def q179_6_x0x1x4x5x7x8x14x15x16 : Plan := .fin
def q179_6_x0x1x4x5x7x8x14x15 : Plan := (.eff 16 [] q179_6_x0x1x4x5x7x8x14x15x16 .stop)
def q179_6_x0x1x4x5x7x8x14 : Plan := (.eff 15 [3, 10, 12] q179_6_x0x1x4x5x7x8x14x15 .stop)
def q179_6_x0x1x4x5x7x8 : Plan := (.eff 14 [3, 12] q179_6_x0x1x4x5x7x8x14 .stop)
def q179_6_x0x1x4x5x7x14 : Plan := (.eff 8 [3, 10, 12] q179_6_x0x1x4x5x7x8x14 .stop)
def q179_6_x0x1x4x5x7 : Plan := (.eff 8 [3, 10, 12] q179_6_x0x1x4x5x7x8 (.eff 14 [3, 12] q179_6_x0x1x4x5x7x14 .stop))
def q179_6_x0x1x4x5x14 : Plan := (.eff 7 [3, 10, 12] q179_6_x0x1x4x5x7x14 .stop)
def q179_6_x0x1x4x5 : Plan := (.eff 7 [3, 10, 12] q179_6_x0x1x4x5x7 (.eff 14 [3, 12] q179_6_x0x1x4x5x14 .stop))
def q179_6_x0x1x4x7x14 : Plan := (.eff 5 [3, 10, 12] q179_6_x0x1x4x5x7x14 .stop)
def q179_6_x0x1x4x7 : Plan := (.eff 5 [3, 10, 12] q179_6_x0x1x4x5x7 (.eff 14 [3, 12] q179_6_x0x1x4x7x14 .stop))
def q179_6_x0x1x4x14 : Plan := (.eff 5 [3, 10, 12] q179_6_x0x1x4x5x14 (.eff 7 [3, 10, 12] q179_6_x0x1x4x7x14 .stop))
def q179_6_x0x1x4 : Plan := (.eff 5 [3, 10, 12] q179_6_x0x1x4x5 (.eff 7 [3, 10, 12] q179_6_x0x1x4x7 (.eff 14 [3, 12] q179_6_x0x1x4x14 .stop)))
def q179_6_x0x1x7x14 : Plan := (.eff 4 [10, 12] q179_6_x0x1x4x7x14 .stop)
def q179_6_x0x1x7 : Plan := (.eff 4 [10, 12] q179_6_x0x1x4x7 (.eff 14 [3, 12] q179_6_x0x1x7x14 .stop))
def q179_6_x0x1x14 : Plan := (.eff 4 [10, 12] q179_6_x0x1x4x14 (.eff 7 [3, 10, 12] q179_6_x0x1x7x14 .stop))
def q179_6_x0x1 : Plan := (.eff 4 [10, 12] q179_6_x0x1x4 (.eff 7 [3, 10, 12] q179_6_x0x1x7 (.eff 14 [3, 12] q179_6_x0x1x14 .stop)))
def q179_6_x0x4x7x14 : Plan := (.eff 1 [3, 10, 12] q179_6_x0x1x4x7x14 .stop)
def q179_6_x0x4x7 : Plan := (.eff 1 [3, 10, 12] q179_6_x0x1x4x7 (.eff 14 [3, 12] q179_6_x0x4x7x14 .stop))
def q179_6_x0x4x14 : Plan := (.eff 1 [3, 10, 12] q179_6_x0x1x4x14 (.eff 7 [3, 10, 12] q179_6_x0x4x7x14 .stop))
def q179_6_x0x4 : Plan := (.eff 1 [3, 10, 12] q179_6_x0x1x4 (.eff 7 [3, 10, 12] q179_6_x0x4x7 (.eff 14 [3, 12] q179_6_x0x4x14 .stop)))
def q179_6_x0x7x14 : Plan := (.eff 1 [3, 10, 12] q179_6_x0x1x7x14 (.eff 4 [10, 12] q179_6_x0x4x7x14 .stop))
def q179_6_x0x7 : Plan := (.eff 1 [3, 10, 12] q179_6_x0x1x7 (.eff 4 [10, 12] q179_6_x0x4x7 (.eff 14 [3, 12] q179_6_x0x7x14 .stop)))
def q179_6_x0x14 : Plan := (.eff 1 [3, 10, 12] q179_6_x0x1x14 (.eff 4 [10, 12] q179_6_x0x4x14 (.eff 7 [3, 10, 12] q179_6_x0x7x14 .stop)))
def q179_6_x0 : Plan := (.eff 1 [3, 10, 12] q179_6_x0x1 (.eff 4 [10, 12] q179_6_x0x4 (.eff 7 [3, 10, 12] q179_6_x0x7 (.eff 14 [3, 12] q179_6_x0x14 .stop))))
def q179_6_x4x7x14 : Plan := (.eff 0 [3, 10, 12] q179_6_x0x4x7x14 .stop)
def q179_6_x4x7 : Plan := (.eff 0 [3, 10, 12] q179_6_x0x4x7 (.eff 14 [3, 12] q179_6_x4x7x14 .stop))
def q179_6_x4x14 : Plan := (.eff 0 [3, 10, 12] q179_6_x0x4x14 (.eff 7 [3, 10, 12] q179_6_x4x7x14 .stop))
def q179_6_x4 : Plan := (.eff 0 [3, 10, 12] q179_6_x0x4 (.eff 7 [3, 10, 12] q179_6_x4x7 (.eff 14 [3, 12] q179_6_x4x14 .stop)))
def q179_6_x7x14 : Plan := (.eff 0 [3, 10, 12] q179_6_x0x7x14 (.eff 4 [10, 12] q179_6_x4x7x14 .stop))
def q179_6_x7 : Plan := (.eff 0 [3, 10, 12] q179_6_x0x7 (.eff 4 [10, 12] q179_6_x4x7 (.eff 14 [3, 12] q179_6_x7x14 .stop)))
def q179_6_x14 : Plan := (.eff 0 [3, 10, 12] q179_6_x0x14 (.eff 4 [10, 12] q179_6_x4x14 (.eff 7 [3, 10, 12] q179_6_x7x14 .stop)))
def q179_6_0 : Plan := (.eff 0 [3, 10, 12] q179_6_x0 (.eff 4 [10, 12] q179_6_x4 (.eff 7 [3, 10, 12] q179_6_x7 (.eff 14 [3, 12] q179_6_x14 .stop))))
theorem s_rHead (w : Nat) (ready : Bool) (bo su : Nat) (h1 : w ≤ 2147483647) (h2 : bo ≤ 2147483647) (h3 : su < 4294967296) :
  Spec Tryz.prog 179 [.agg #[.int .i64 (w : Int), .bool ready, .int .i64 (bo : Int), .int .u32 (su : Int)]] [] (fun v S => ∃ (a : Option Addr) (c : Nat), v = .tuple #[.slice a 64 c, .int .i64 0] ∧ S = [byC a 64 c]) := by
 have hw : ∀ k ∈ [w], k < 256 ^ 4 ∧ k ≤ 1152921504606846976 := fun k hk => by rw [List.mem_singleton.1 hk]; exact ⟨by show w < 4294967296; omega, by omega⟩
 have hb : ∀ k ∈ [bo, su], k < 256 ^ 4 ∧ k ≤ 1152921504606846976 := fun k hk => by
  rcases List.mem_cons.1 hk with rfl | hk
  ·exact ⟨by show k < 4294967296; omega, by omega⟩
  ·rw [List.mem_singleton.1 hk]; exact ⟨by show su < 4294967296; omega, by omega⟩
 refine spec_of Tryz.func179 rfl Tryz.results179 Tryz.ntmps179 rfl ?_
 show Trip _ _ _ _ (numF 0 [.agg #[.int .i64 (w : Int), .bool ready, .int .i64 (bo : Int), .int .u32 (su : Int)]]) _ _
 refine t_same [] rfl ?_
 repeat' first | refine wk ?_ | refine wc ?_ ?_ <;> intro h <;> try omega | fail
 refine o_box rfl rfl rfl fun tb => ?_
 repeat' first | refine wk ?_ | refine wc ?_ ?_ <;> intro h <;> try omega | fail
 refine t_mid (fun rd : Nat => [(1, .pointer (some ⟨tb, 0, none⟩)), (4, .int .i64 (rd : Int))]) (fun _ => [cellsAt tb 274 [.int .i64 (w : Int), .bool ready, .int .i64 (bo : Int), .int .u32 (su : Int)]]) (fun rd => rd ≤ 1) ?_ ?_
 ·cases ready
  ·repeat' first | refine wk ?_ | refine wc ?_ ?_ <;> intro h <;> try omega | fail
   exact ⟨rfl, 0, by omega, xlss, Ent.pick xpkd⟩
  ·repeat' first | refine wk ?_ | refine wc ?_ ?_ <;> intro h <;> try omega | fail
   exact ⟨rfl, 1, by omega, xlss, Ent.pick xpkd⟩
 intro rd hrd
 have hr : ∀ k ∈ [rd], k < 256 ^ 1 ∧ k ≤ 1152921504606846976 := fun k hk => by rw [List.mem_singleton.1 hk]; exact ⟨by show rd < 256; omega, by omega⟩
 have hk1 : ∀ b ∈ [111, 99, 116, 97, 118, 111, 45, 106] ++ puB 4 [w], b < 256 := fun b hb => by
  rcases List.mem_append.1 hb with h | h
  ·exact (by decide : ∀ b ∈ [111, 99, 116, 97, 118, 111, 45, 106], b < 256) b h
  ·exact puB_lt _ _ _ h
 have k1 := fun (pb : Nat) (an : Option Addr) (cn : Nat) => s_rPut (frzC pb [111, 99, 116, 97, 118, 111, 45, 106]) (own an 1 cn 3 1 (natsV [w])) (some ⟨pb, 0, none⟩) an 8 8 1 cn 4 [111, 99, 116, 97, 118, 111, 45, 106] [w] (.inl ⟨pb, rfl, rfl, rfl, by omega⟩) (Rds.own 0 rfl) rfl rfl (by omega) (by omega) (by omega) (by omega) hw
 have k2 := fun (a an : Option Addr) (c cn : Nat) => s_rPutB a an 12 c 1 cn 1 [rd] rfl (by omega) (by omega) (by omega) (by omega) hr
 have k3 := fun (a an : Option Addr) (c cn : Nat) => s_rPutB a an 13 c 2 cn 4 [bo, su] rfl (by omega) (by omega) (by omega) (by omega) hb
 repeat' first | refine wk ?_ | refine wc ?_ ?_ <;> intro h <;> try omega | fail
 refine t_mid (fun q : Option Addr × Nat => [(5, .slice q.1 21 q.2)]) (fun q => [byC q.1 21 q.2]) (fun _ => True) ?_ ?_
 ·refine t_draw (id := 6) (.eval 2 true (.eval 3 false (.eval 6 true (.eval 9 true (.eval 10 false (.eval 11 true (.eval 12 false (.eval 13 true q179_6_0)))))))) rfl (by kernel_rfl) ?_
  repeat' first | refine d_qp rfl (by (apply q_conv198; exact rfl; omega)) rfl ?_ | refine wev ?_ | fail
  refine d_gen fun l Q hl hQ => ?_
  have Lx0x1x4x5x7x8x14x15x16 : ∀ (u0 : Nat) (u4 : Nat) (e5 : Option Addr) (f5 : Nat) (u7 : Nat) (e8 : Option Addr) (f8 : Nat) (u14 : Nat) (e15 : Option Addr) (f15 : Nat), TD Tryz.prog 54 l q179_6_x0x1x4x5x7x8x14x15x16 [] [(26, .slice (some ⟨u0, 0, none⟩) 8 8), (27, .slice (some ⟨u0, 0, none⟩) 8 8), (30, .slice (some ⟨u4, 0, none⟩) 1 1), (31, .slice e5 12 f5), (33, .slice (some ⟨u7, 0, none⟩) 1 1), (34, .slice e8 13 f8), (40, .slice (some ⟨u14, 0, none⟩) 2 2), (41, .slice e15 21 f15), (5, .slice e15 21 f15), (39, .int .i64 (su : Int)), (38, .int .u32 (su : Int)), (37, .pointer (some ⟨tb, 3, none⟩)), (36, .int .i64 (bo : Int)), (35, .pointer (some ⟨tb, 2, none⟩)), (32, .int .i64 (rd : Int)), (29, .int .i64 (w : Int)), (28, .pointer (some ⟨tb, 0, none⟩))] [cellsAt tb 274 [.int .i64 (w : Int), .bool ready, .int .i64 (bo : Int), .int .u32 (su : Int)], byC e15 21 f15] Q := by
   intro u0 u4 e5 f5 u7 e8 f8 u14 e15 f15
   subst hl; subst hQ
   refine d_fin ?_
   exact ⟨rfl, (_, _), trivial, xlss, Ent.pick xpkd⟩
  have Lx0x1x4x5x7x8x14x15 : ∀ (u0 : Nat) (u4 : Nat) (e5 : Option Addr) (f5 : Nat) (u7 : Nat) (e8 : Option Addr) (f8 : Nat) (u14 : Nat) (e15 : Option Addr) (f15 : Nat), TD Tryz.prog 54 l q179_6_x0x1x4x5x7x8x14x15 [] [(26, .slice (some ⟨u0, 0, none⟩) 8 8), (27, .slice (some ⟨u0, 0, none⟩) 8 8), (30, .slice (some ⟨u4, 0, none⟩) 1 1), (31, .slice e5 12 f5), (33, .slice (some ⟨u7, 0, none⟩) 1 1), (34, .slice e8 13 f8), (40, .slice (some ⟨u14, 0, none⟩) 2 2), (41, .slice e15 21 f15), (39, .int .i64 (su : Int)), (38, .int .u32 (su : Int)), (37, .pointer (some ⟨tb, 3, none⟩)), (36, .int .i64 (bo : Int)), (35, .pointer (some ⟨tb, 2, none⟩)), (32, .int .i64 (rd : Int)), (29, .int .i64 (w : Int)), (28, .pointer (some ⟨tb, 0, none⟩))] [cellsAt tb 274 [.int .i64 (w : Int), .bool ready, .int .i64 (bo : Int), .int .u32 (su : Int)], byC e15 21 f15] Q := by
   intro u0 u4 e5 f5 u7 e8 f8 u14 e15 f15
   subst hl; subst hQ
   refine d_eff rfl ?_ d_stop
   ·refine wk ?_
    repeat' first | refine wev ?_ | fail
    exact d_weak xlss (Ent.pick xpkd) (Lx0x1x4x5x7x8x14x15x16 _ _ _ _ _ _ _ _ _ _)
  have Lx0x1x4x5x7x8x14 : ∀ (u0 : Nat) (u4 : Nat) (e5 : Option Addr) (f5 : Nat) (u7 : Nat) (e8 : Option Addr) (f8 : Nat) (u14 : Nat), TD Tryz.prog 54 l q179_6_x0x1x4x5x7x8x14 [] [(26, .slice (some ⟨u0, 0, none⟩) 8 8), (27, .slice (some ⟨u0, 0, none⟩) 8 8), (30, .slice (some ⟨u4, 0, none⟩) 1 1), (31, .slice e5 12 f5), (33, .slice (some ⟨u7, 0, none⟩) 1 1), (34, .slice e8 13 f8), (40, .slice (some ⟨u14, 0, none⟩) 2 2), (39, .int .i64 (su : Int)), (38, .int .u32 (su : Int)), (37, .pointer (some ⟨tb, 3, none⟩)), (36, .int .i64 (bo : Int)), (35, .pointer (some ⟨tb, 2, none⟩)), (32, .int .i64 (rd : Int)), (29, .int .i64 (w : Int)), (28, .pointer (some ⟨tb, 0, none⟩))] [cellsAt tb 274 [.int .i64 (w : Int), .bool ready, .int .i64 (bo : Int), .int .u32 (su : Int)], byC e8 13 f8, own (some ⟨u14, 0, none⟩) 2 2 3 1 (natsV [bo, su])] Q := by
   intro u0 u4 e5 f5 u7 e8 f8 u14
   subst hl; subst hQ
   refine d_eff rfl ?_ d_stop
   ·refine c_call (k3 _ _ _ _) rfl xpkd rfl rfl ?_
    rintro v S ⟨_, _, rfl, rfl⟩
    refine l_tell rfl ?_
    repeat' first | refine wev ?_ | fail
    exact d_weak xlss (Ent.pick xpkd) (Lx0x1x4x5x7x8x14x15 _ _ _ _ _ _ _ _ _ _)
  have Lx0x1x4x5x7x8 : ∀ (u0 : Nat) (u4 : Nat) (e5 : Option Addr) (f5 : Nat) (u7 : Nat) (e8 : Option Addr) (f8 : Nat), TD Tryz.prog 54 l q179_6_x0x1x4x5x7x8 [] [(26, .slice (some ⟨u0, 0, none⟩) 8 8), (27, .slice (some ⟨u0, 0, none⟩) 8 8), (30, .slice (some ⟨u4, 0, none⟩) 1 1), (31, .slice e5 12 f5), (33, .slice (some ⟨u7, 0, none⟩) 1 1), (34, .slice e8 13 f8), (39, .int .i64 (su : Int)), (38, .int .u32 (su : Int)), (37, .pointer (some ⟨tb, 3, none⟩)), (36, .int .i64 (bo : Int)), (35, .pointer (some ⟨tb, 2, none⟩)), (32, .int .i64 (rd : Int)), (29, .int .i64 (w : Int)), (28, .pointer (some ⟨tb, 0, none⟩))] [cellsAt tb 274 [.int .i64 (w : Int), .bool ready, .int .i64 (bo : Int), .int .u32 (su : Int)], byC e8 13 f8] Q := by
   intro u0 u4 e5 f5 u7 e8 f8
   subst hl; subst hQ
   refine d_eff rfl ?_ d_stop
   ·refine o_buildSlice rfl rfl rfl rfl rfl rfl rfl rfl rfl rfl rfl rfl fun b => ?_
    repeat' first | refine wev ?_ | fail
    exact d_weak xlss (Ent.pick xpkd) (Lx0x1x4x5x7x8x14 _ _ _ _ _ _ _ _)
  have Lx0x1x4x5x7x14 : ∀ (u0 : Nat) (u4 : Nat) (e5 : Option Addr) (f5 : Nat) (u7 : Nat) (u14 : Nat), TD Tryz.prog 54 l q179_6_x0x1x4x5x7x14 [] [(26, .slice (some ⟨u0, 0, none⟩) 8 8), (27, .slice (some ⟨u0, 0, none⟩) 8 8), (30, .slice (some ⟨u4, 0, none⟩) 1 1), (31, .slice e5 12 f5), (33, .slice (some ⟨u7, 0, none⟩) 1 1), (40, .slice (some ⟨u14, 0, none⟩) 2 2), (39, .int .i64 (su : Int)), (38, .int .u32 (su : Int)), (37, .pointer (some ⟨tb, 3, none⟩)), (36, .int .i64 (bo : Int)), (35, .pointer (some ⟨tb, 2, none⟩)), (32, .int .i64 (rd : Int)), (29, .int .i64 (w : Int)), (28, .pointer (some ⟨tb, 0, none⟩))] [cellsAt tb 274 [.int .i64 (w : Int), .bool ready, .int .i64 (bo : Int), .int .u32 (su : Int)], byC e5 12 f5, own (some ⟨u7, 0, none⟩) 1 1 3 1 (natsV [rd]), own (some ⟨u14, 0, none⟩) 2 2 3 1 (natsV [bo, su])] Q := by
   intro u0 u4 e5 f5 u7 u14
   subst hl; subst hQ
   refine d_eff rfl ?_ d_stop
   ·refine c_call (k2 _ _ _ _) rfl xpkd rfl rfl ?_
    rintro v S ⟨_, _, rfl, rfl⟩
    refine l_tell rfl ?_
    repeat' first | refine wev ?_ | fail
    exact d_weak xlss (Ent.pick xpkd) (Lx0x1x4x5x7x8x14 _ _ _ _ _ _ _ _)
  have Lx0x1x4x5x7 : ∀ (u0 : Nat) (u4 : Nat) (e5 : Option Addr) (f5 : Nat) (u7 : Nat), TD Tryz.prog 54 l q179_6_x0x1x4x5x7 [] [(26, .slice (some ⟨u0, 0, none⟩) 8 8), (27, .slice (some ⟨u0, 0, none⟩) 8 8), (30, .slice (some ⟨u4, 0, none⟩) 1 1), (31, .slice e5 12 f5), (33, .slice (some ⟨u7, 0, none⟩) 1 1), (39, .int .i64 (su : Int)), (38, .int .u32 (su : Int)), (37, .pointer (some ⟨tb, 3, none⟩)), (36, .int .i64 (bo : Int)), (35, .pointer (some ⟨tb, 2, none⟩)), (32, .int .i64 (rd : Int)), (29, .int .i64 (w : Int)), (28, .pointer (some ⟨tb, 0, none⟩))] [cellsAt tb 274 [.int .i64 (w : Int), .bool ready, .int .i64 (bo : Int), .int .u32 (su : Int)], byC e5 12 f5, own (some ⟨u7, 0, none⟩) 1 1 3 1 (natsV [rd])] Q := by
   intro u0 u4 e5 f5 u7
   subst hl; subst hQ
   refine d_eff rfl ?_ ?_
   ·refine c_call (k2 _ _ _ _) rfl xpkd rfl rfl ?_
    rintro v S ⟨_, _, rfl, rfl⟩
    refine l_tell rfl ?_
    repeat' first | refine wev ?_ | fail
    exact d_weak xlss (Ent.pick xpkd) (Lx0x1x4x5x7x8 _ _ _ _ _ _ _)
   refine d_eff rfl ?_ d_stop
   ·refine o_buildSlice rfl rfl rfl rfl rfl rfl rfl rfl rfl rfl rfl rfl fun b => ?_
    repeat' first | refine wev ?_ | fail
    exact d_weak xlss (Ent.pick xpkd) (Lx0x1x4x5x7x14 _ _ _ _ _ _)
  have Lx0x1x4x5x14 : ∀ (u0 : Nat) (u4 : Nat) (e5 : Option Addr) (f5 : Nat) (u14 : Nat), TD Tryz.prog 54 l q179_6_x0x1x4x5x14 [] [(26, .slice (some ⟨u0, 0, none⟩) 8 8), (27, .slice (some ⟨u0, 0, none⟩) 8 8), (30, .slice (some ⟨u4, 0, none⟩) 1 1), (31, .slice e5 12 f5), (40, .slice (some ⟨u14, 0, none⟩) 2 2), (39, .int .i64 (su : Int)), (38, .int .u32 (su : Int)), (37, .pointer (some ⟨tb, 3, none⟩)), (36, .int .i64 (bo : Int)), (35, .pointer (some ⟨tb, 2, none⟩)), (32, .int .i64 (rd : Int)), (29, .int .i64 (w : Int)), (28, .pointer (some ⟨tb, 0, none⟩))] [cellsAt tb 274 [.int .i64 (w : Int), .bool ready, .int .i64 (bo : Int), .int .u32 (su : Int)], byC e5 12 f5, own (some ⟨u14, 0, none⟩) 2 2 3 1 (natsV [bo, su])] Q := by
   intro u0 u4 e5 f5 u14
   subst hl; subst hQ
   refine d_eff rfl ?_ d_stop
   ·refine o_buildSlice rfl rfl rfl rfl rfl rfl rfl rfl rfl rfl rfl rfl fun b => ?_
    repeat' first | refine wev ?_ | fail
    exact d_weak xlss (Ent.pick xpkd) (Lx0x1x4x5x7x14 _ _ _ _ _ _)
  have Lx0x1x4x5 : ∀ (u0 : Nat) (u4 : Nat) (e5 : Option Addr) (f5 : Nat), TD Tryz.prog 54 l q179_6_x0x1x4x5 [] [(26, .slice (some ⟨u0, 0, none⟩) 8 8), (27, .slice (some ⟨u0, 0, none⟩) 8 8), (30, .slice (some ⟨u4, 0, none⟩) 1 1), (31, .slice e5 12 f5), (39, .int .i64 (su : Int)), (38, .int .u32 (su : Int)), (37, .pointer (some ⟨tb, 3, none⟩)), (36, .int .i64 (bo : Int)), (35, .pointer (some ⟨tb, 2, none⟩)), (32, .int .i64 (rd : Int)), (29, .int .i64 (w : Int)), (28, .pointer (some ⟨tb, 0, none⟩))] [cellsAt tb 274 [.int .i64 (w : Int), .bool ready, .int .i64 (bo : Int), .int .u32 (su : Int)], byC e5 12 f5] Q := by
   intro u0 u4 e5 f5
   subst hl; subst hQ
   refine d_eff rfl ?_ ?_
   ·refine o_buildSlice rfl rfl rfl rfl rfl rfl rfl rfl rfl rfl rfl rfl fun b => ?_
    repeat' first | refine wev ?_ | fail
    exact d_weak xlss (Ent.pick xpkd) (Lx0x1x4x5x7 _ _ _ _ _)
   refine d_eff rfl ?_ d_stop
   ·refine o_buildSlice rfl rfl rfl rfl rfl rfl rfl rfl rfl rfl rfl rfl fun b => ?_
    repeat' first | refine wev ?_ | fail
    exact d_weak xlss (Ent.pick xpkd) (Lx0x1x4x5x14 _ _ _ _ _)
  have Lx0x1x4x7x14 : ∀ (u0 : Nat) (u4 : Nat) (u7 : Nat) (u14 : Nat), TD Tryz.prog 54 l q179_6_x0x1x4x7x14 [] [(26, .slice (some ⟨u0, 0, none⟩) 8 8), (27, .slice (some ⟨u0, 0, none⟩) 8 8), (30, .slice (some ⟨u4, 0, none⟩) 1 1), (33, .slice (some ⟨u7, 0, none⟩) 1 1), (40, .slice (some ⟨u14, 0, none⟩) 2 2), (39, .int .i64 (su : Int)), (38, .int .u32 (su : Int)), (37, .pointer (some ⟨tb, 3, none⟩)), (36, .int .i64 (bo : Int)), (35, .pointer (some ⟨tb, 2, none⟩)), (32, .int .i64 (rd : Int)), (29, .int .i64 (w : Int)), (28, .pointer (some ⟨tb, 0, none⟩))] [cellsAt tb 274 [.int .i64 (w : Int), .bool ready, .int .i64 (bo : Int), .int .u32 (su : Int)], frzC u0 [111, 99, 116, 97, 118, 111, 45, 106], own (some ⟨u4, 0, none⟩) 1 1 3 1 (natsV [w]), own (some ⟨u7, 0, none⟩) 1 1 3 1 (natsV [rd]), own (some ⟨u14, 0, none⟩) 2 2 3 1 (natsV [bo, su])] Q := by
   intro u0 u4 u7 u14
   subst hl; subst hQ
   refine d_eff rfl ?_ d_stop
   ·refine c_call (k1 _ _ _) rfl xpkd rfl rfl ?_
    rintro v S ⟨_, _, rfl, rfl⟩
    refine l_tell rfl ?_
    refine l_ent (ent_by (by rw [List.length_append, puB_len]; rfl) hk1 _) ?_
    repeat' first | refine wev ?_ | fail
    exact d_weak xlss (Ent.pick xpkd) (Lx0x1x4x5x7x14 _ _ _ _ _ _)
  have Lx0x1x4x7 : ∀ (u0 : Nat) (u4 : Nat) (u7 : Nat), TD Tryz.prog 54 l q179_6_x0x1x4x7 [] [(26, .slice (some ⟨u0, 0, none⟩) 8 8), (27, .slice (some ⟨u0, 0, none⟩) 8 8), (30, .slice (some ⟨u4, 0, none⟩) 1 1), (33, .slice (some ⟨u7, 0, none⟩) 1 1), (39, .int .i64 (su : Int)), (38, .int .u32 (su : Int)), (37, .pointer (some ⟨tb, 3, none⟩)), (36, .int .i64 (bo : Int)), (35, .pointer (some ⟨tb, 2, none⟩)), (32, .int .i64 (rd : Int)), (29, .int .i64 (w : Int)), (28, .pointer (some ⟨tb, 0, none⟩))] [cellsAt tb 274 [.int .i64 (w : Int), .bool ready, .int .i64 (bo : Int), .int .u32 (su : Int)], frzC u0 [111, 99, 116, 97, 118, 111, 45, 106], own (some ⟨u4, 0, none⟩) 1 1 3 1 (natsV [w]), own (some ⟨u7, 0, none⟩) 1 1 3 1 (natsV [rd])] Q := by
   intro u0 u4 u7
   subst hl; subst hQ
   refine d_eff rfl ?_ ?_
   ·refine c_call (k1 _ _ _) rfl xpkd rfl rfl ?_
    rintro v S ⟨_, _, rfl, rfl⟩
    refine l_tell rfl ?_
    refine l_ent (ent_by (by rw [List.length_append, puB_len]; rfl) hk1 _) ?_
    repeat' first | refine wev ?_ | fail
    exact d_weak xlss (Ent.pick xpkd) (Lx0x1x4x5x7 _ _ _ _ _)
   refine d_eff rfl ?_ d_stop
   ·refine o_buildSlice rfl rfl rfl rfl rfl rfl rfl rfl rfl rfl rfl rfl fun b => ?_
    repeat' first | refine wev ?_ | fail
    exact d_weak xlss (Ent.pick xpkd) (Lx0x1x4x7x14 _ _ _ _)
  have Lx0x1x4x14 : ∀ (u0 : Nat) (u4 : Nat) (u14 : Nat), TD Tryz.prog 54 l q179_6_x0x1x4x14 [] [(26, .slice (some ⟨u0, 0, none⟩) 8 8), (27, .slice (some ⟨u0, 0, none⟩) 8 8), (30, .slice (some ⟨u4, 0, none⟩) 1 1), (40, .slice (some ⟨u14, 0, none⟩) 2 2), (39, .int .i64 (su : Int)), (38, .int .u32 (su : Int)), (37, .pointer (some ⟨tb, 3, none⟩)), (36, .int .i64 (bo : Int)), (35, .pointer (some ⟨tb, 2, none⟩)), (32, .int .i64 (rd : Int)), (29, .int .i64 (w : Int)), (28, .pointer (some ⟨tb, 0, none⟩))] [cellsAt tb 274 [.int .i64 (w : Int), .bool ready, .int .i64 (bo : Int), .int .u32 (su : Int)], frzC u0 [111, 99, 116, 97, 118, 111, 45, 106], own (some ⟨u4, 0, none⟩) 1 1 3 1 (natsV [w]), own (some ⟨u14, 0, none⟩) 2 2 3 1 (natsV [bo, su])] Q := by
   intro u0 u4 u14
   subst hl; subst hQ
   refine d_eff rfl ?_ ?_
   ·refine c_call (k1 _ _ _) rfl xpkd rfl rfl ?_
    rintro v S ⟨_, _, rfl, rfl⟩
    refine l_tell rfl ?_
    refine l_ent (ent_by (by rw [List.length_append, puB_len]; rfl) hk1 _) ?_
    repeat' first | refine wev ?_ | fail
    exact d_weak xlss (Ent.pick xpkd) (Lx0x1x4x5x14 _ _ _ _ _)
   refine d_eff rfl ?_ d_stop
   ·refine o_buildSlice rfl rfl rfl rfl rfl rfl rfl rfl rfl rfl rfl rfl fun b => ?_
    repeat' first | refine wev ?_ | fail
    exact d_weak xlss (Ent.pick xpkd) (Lx0x1x4x7x14 _ _ _ _)
  have Lx0x1x4 : ∀ (u0 : Nat) (u4 : Nat), TD Tryz.prog 54 l q179_6_x0x1x4 [] [(26, .slice (some ⟨u0, 0, none⟩) 8 8), (27, .slice (some ⟨u0, 0, none⟩) 8 8), (30, .slice (some ⟨u4, 0, none⟩) 1 1), (39, .int .i64 (su : Int)), (38, .int .u32 (su : Int)), (37, .pointer (some ⟨tb, 3, none⟩)), (36, .int .i64 (bo : Int)), (35, .pointer (some ⟨tb, 2, none⟩)), (32, .int .i64 (rd : Int)), (29, .int .i64 (w : Int)), (28, .pointer (some ⟨tb, 0, none⟩))] [cellsAt tb 274 [.int .i64 (w : Int), .bool ready, .int .i64 (bo : Int), .int .u32 (su : Int)], frzC u0 [111, 99, 116, 97, 118, 111, 45, 106], own (some ⟨u4, 0, none⟩) 1 1 3 1 (natsV [w])] Q := by
   intro u0 u4
   subst hl; subst hQ
   refine d_eff rfl ?_ ?_
   ·refine c_call (k1 _ _ _) rfl xpkd rfl rfl ?_
    rintro v S ⟨_, _, rfl, rfl⟩
    refine l_tell rfl ?_
    refine l_ent (ent_by (by rw [List.length_append, puB_len]; rfl) hk1 _) ?_
    repeat' first | refine wev ?_ | fail
    exact d_weak xlss (Ent.pick xpkd) (Lx0x1x4x5 _ _ _ _)
   refine d_eff rfl ?_ ?_
   ·refine o_buildSlice rfl rfl rfl rfl rfl rfl rfl rfl rfl rfl rfl rfl fun b => ?_
    repeat' first | refine wev ?_ | fail
    exact d_weak xlss (Ent.pick xpkd) (Lx0x1x4x7 _ _ _)
   refine d_eff rfl ?_ d_stop
   ·refine o_buildSlice rfl rfl rfl rfl rfl rfl rfl rfl rfl rfl rfl rfl fun b => ?_
    repeat' first | refine wev ?_ | fail
    exact d_weak xlss (Ent.pick xpkd) (Lx0x1x4x14 _ _ _)
  have Lx0x1x7x14 : ∀ (u0 : Nat) (u7 : Nat) (u14 : Nat), TD Tryz.prog 54 l q179_6_x0x1x7x14 [] [(26, .slice (some ⟨u0, 0, none⟩) 8 8), (27, .slice (some ⟨u0, 0, none⟩) 8 8), (33, .slice (some ⟨u7, 0, none⟩) 1 1), (40, .slice (some ⟨u14, 0, none⟩) 2 2), (39, .int .i64 (su : Int)), (38, .int .u32 (su : Int)), (37, .pointer (some ⟨tb, 3, none⟩)), (36, .int .i64 (bo : Int)), (35, .pointer (some ⟨tb, 2, none⟩)), (32, .int .i64 (rd : Int)), (29, .int .i64 (w : Int)), (28, .pointer (some ⟨tb, 0, none⟩))] [cellsAt tb 274 [.int .i64 (w : Int), .bool ready, .int .i64 (bo : Int), .int .u32 (su : Int)], frzC u0 [111, 99, 116, 97, 118, 111, 45, 106], own (some ⟨u7, 0, none⟩) 1 1 3 1 (natsV [rd]), own (some ⟨u14, 0, none⟩) 2 2 3 1 (natsV [bo, su])] Q := by
   intro u0 u7 u14
   subst hl; subst hQ
   refine d_eff rfl ?_ d_stop
   ·refine o_buildSlice rfl rfl rfl rfl rfl rfl rfl rfl rfl rfl rfl rfl fun b => ?_
    repeat' first | refine wev ?_ | fail
    exact d_weak xlss (Ent.pick xpkd) (Lx0x1x4x7x14 _ _ _ _)
  have Lx0x1x7 : ∀ (u0 : Nat) (u7 : Nat), TD Tryz.prog 54 l q179_6_x0x1x7 [] [(26, .slice (some ⟨u0, 0, none⟩) 8 8), (27, .slice (some ⟨u0, 0, none⟩) 8 8), (33, .slice (some ⟨u7, 0, none⟩) 1 1), (39, .int .i64 (su : Int)), (38, .int .u32 (su : Int)), (37, .pointer (some ⟨tb, 3, none⟩)), (36, .int .i64 (bo : Int)), (35, .pointer (some ⟨tb, 2, none⟩)), (32, .int .i64 (rd : Int)), (29, .int .i64 (w : Int)), (28, .pointer (some ⟨tb, 0, none⟩))] [cellsAt tb 274 [.int .i64 (w : Int), .bool ready, .int .i64 (bo : Int), .int .u32 (su : Int)], frzC u0 [111, 99, 116, 97, 118, 111, 45, 106], own (some ⟨u7, 0, none⟩) 1 1 3 1 (natsV [rd])] Q := by
   intro u0 u7
   subst hl; subst hQ
   refine d_eff rfl ?_ ?_
   ·refine o_buildSlice rfl rfl rfl rfl rfl rfl rfl rfl rfl rfl rfl rfl fun b => ?_
    repeat' first | refine wev ?_ | fail
    exact d_weak xlss (Ent.pick xpkd) (Lx0x1x4x7 _ _ _)
   refine d_eff rfl ?_ d_stop
   ·refine o_buildSlice rfl rfl rfl rfl rfl rfl rfl rfl rfl rfl rfl rfl fun b => ?_
    repeat' first | refine wev ?_ | fail
    exact d_weak xlss (Ent.pick xpkd) (Lx0x1x7x14 _ _ _)
  have Lx0x1x14 : ∀ (u0 : Nat) (u14 : Nat), TD Tryz.prog 54 l q179_6_x0x1x14 [] [(26, .slice (some ⟨u0, 0, none⟩) 8 8), (27, .slice (some ⟨u0, 0, none⟩) 8 8), (40, .slice (some ⟨u14, 0, none⟩) 2 2), (39, .int .i64 (su : Int)), (38, .int .u32 (su : Int)), (37, .pointer (some ⟨tb, 3, none⟩)), (36, .int .i64 (bo : Int)), (35, .pointer (some ⟨tb, 2, none⟩)), (32, .int .i64 (rd : Int)), (29, .int .i64 (w : Int)), (28, .pointer (some ⟨tb, 0, none⟩))] [cellsAt tb 274 [.int .i64 (w : Int), .bool ready, .int .i64 (bo : Int), .int .u32 (su : Int)], frzC u0 [111, 99, 116, 97, 118, 111, 45, 106], own (some ⟨u14, 0, none⟩) 2 2 3 1 (natsV [bo, su])] Q := by
   intro u0 u14
   subst hl; subst hQ
   refine d_eff rfl ?_ ?_
   ·refine o_buildSlice rfl rfl rfl rfl rfl rfl rfl rfl rfl rfl rfl rfl fun b => ?_
    repeat' first | refine wev ?_ | fail
    exact d_weak xlss (Ent.pick xpkd) (Lx0x1x4x14 _ _ _)
   refine d_eff rfl ?_ d_stop
   ·refine o_buildSlice rfl rfl rfl rfl rfl rfl rfl rfl rfl rfl rfl rfl fun b => ?_
    repeat' first | refine wev ?_ | fail
    exact d_weak xlss (Ent.pick xpkd) (Lx0x1x7x14 _ _ _)
  have Lx0x1 : ∀ (u0 : Nat), TD Tryz.prog 54 l q179_6_x0x1 [] [(26, .slice (some ⟨u0, 0, none⟩) 8 8), (27, .slice (some ⟨u0, 0, none⟩) 8 8), (39, .int .i64 (su : Int)), (38, .int .u32 (su : Int)), (37, .pointer (some ⟨tb, 3, none⟩)), (36, .int .i64 (bo : Int)), (35, .pointer (some ⟨tb, 2, none⟩)), (32, .int .i64 (rd : Int)), (29, .int .i64 (w : Int)), (28, .pointer (some ⟨tb, 0, none⟩))] [cellsAt tb 274 [.int .i64 (w : Int), .bool ready, .int .i64 (bo : Int), .int .u32 (su : Int)], frzC u0 [111, 99, 116, 97, 118, 111, 45, 106]] Q := by
   intro u0
   subst hl; subst hQ
   refine d_eff rfl ?_ ?_
   ·refine o_buildSlice rfl rfl rfl rfl rfl rfl rfl rfl rfl rfl rfl rfl fun b => ?_
    repeat' first | refine wev ?_ | fail
    exact d_weak xlss (Ent.pick xpkd) (Lx0x1x4 _ _)
   refine d_eff rfl ?_ ?_
   ·refine o_buildSlice rfl rfl rfl rfl rfl rfl rfl rfl rfl rfl rfl rfl fun b => ?_
    repeat' first | refine wev ?_ | fail
    exact d_weak xlss (Ent.pick xpkd) (Lx0x1x7 _ _)
   refine d_eff rfl ?_ d_stop
   ·refine o_buildSlice rfl rfl rfl rfl rfl rfl rfl rfl rfl rfl rfl rfl fun b => ?_
    repeat' first | refine wev ?_ | fail
    exact d_weak xlss (Ent.pick xpkd) (Lx0x1x14 _ _)
  have Lx0x4x7x14 : ∀ (u0 : Nat) (u4 : Nat) (u7 : Nat) (u14 : Nat), TD Tryz.prog 54 l q179_6_x0x4x7x14 [] [(26, .slice (some ⟨u0, 0, none⟩) 8 8), (30, .slice (some ⟨u4, 0, none⟩) 1 1), (33, .slice (some ⟨u7, 0, none⟩) 1 1), (40, .slice (some ⟨u14, 0, none⟩) 2 2), (39, .int .i64 (su : Int)), (38, .int .u32 (su : Int)), (37, .pointer (some ⟨tb, 3, none⟩)), (36, .int .i64 (bo : Int)), (35, .pointer (some ⟨tb, 2, none⟩)), (32, .int .i64 (rd : Int)), (29, .int .i64 (w : Int)), (28, .pointer (some ⟨tb, 0, none⟩))] [cellsAt tb 274 [.int .i64 (w : Int), .bool ready, .int .i64 (bo : Int), .int .u32 (su : Int)], own (some ⟨u0, 0, none⟩) 8 8 5 1 (vb [111, 99, 116, 97, 118, 111, 45, 106]), own (some ⟨u4, 0, none⟩) 1 1 3 1 (natsV [w]), own (some ⟨u7, 0, none⟩) 1 1 3 1 (natsV [rd]), own (some ⟨u14, 0, none⟩) 2 2 3 1 (natsV [bo, su])] Q := by
   intro u0 u4 u7 u14
   subst hl; subst hQ
   refine d_eff rfl ?_ d_stop
   ·refine o_convSl (bs := [111, 99, 116, 97, 118, 111, 45, 106]) rfl xhol rfl ?_
    refine l_tell rfl ?_
    repeat' first | refine wev ?_ | fail
    exact d_weak xlss (Ent.pick xpkd) (Lx0x1x4x7x14 _ _ _ _)
  have Lx0x4x7 : ∀ (u0 : Nat) (u4 : Nat) (u7 : Nat), TD Tryz.prog 54 l q179_6_x0x4x7 [] [(26, .slice (some ⟨u0, 0, none⟩) 8 8), (30, .slice (some ⟨u4, 0, none⟩) 1 1), (33, .slice (some ⟨u7, 0, none⟩) 1 1), (39, .int .i64 (su : Int)), (38, .int .u32 (su : Int)), (37, .pointer (some ⟨tb, 3, none⟩)), (36, .int .i64 (bo : Int)), (35, .pointer (some ⟨tb, 2, none⟩)), (32, .int .i64 (rd : Int)), (29, .int .i64 (w : Int)), (28, .pointer (some ⟨tb, 0, none⟩))] [cellsAt tb 274 [.int .i64 (w : Int), .bool ready, .int .i64 (bo : Int), .int .u32 (su : Int)], own (some ⟨u0, 0, none⟩) 8 8 5 1 (vb [111, 99, 116, 97, 118, 111, 45, 106]), own (some ⟨u4, 0, none⟩) 1 1 3 1 (natsV [w]), own (some ⟨u7, 0, none⟩) 1 1 3 1 (natsV [rd])] Q := by
   intro u0 u4 u7
   subst hl; subst hQ
   refine d_eff rfl ?_ ?_
   ·refine o_convSl (bs := [111, 99, 116, 97, 118, 111, 45, 106]) rfl xhol rfl ?_
    refine l_tell rfl ?_
    repeat' first | refine wev ?_ | fail
    exact d_weak xlss (Ent.pick xpkd) (Lx0x1x4x7 _ _ _)
   refine d_eff rfl ?_ d_stop
   ·refine o_buildSlice rfl rfl rfl rfl rfl rfl rfl rfl rfl rfl rfl rfl fun b => ?_
    repeat' first | refine wev ?_ | fail
    exact d_weak xlss (Ent.pick xpkd) (Lx0x4x7x14 _ _ _ _)
  have Lx0x4x14 : ∀ (u0 : Nat) (u4 : Nat) (u14 : Nat), TD Tryz.prog 54 l q179_6_x0x4x14 [] [(26, .slice (some ⟨u0, 0, none⟩) 8 8), (30, .slice (some ⟨u4, 0, none⟩) 1 1), (40, .slice (some ⟨u14, 0, none⟩) 2 2), (39, .int .i64 (su : Int)), (38, .int .u32 (su : Int)), (37, .pointer (some ⟨tb, 3, none⟩)), (36, .int .i64 (bo : Int)), (35, .pointer (some ⟨tb, 2, none⟩)), (32, .int .i64 (rd : Int)), (29, .int .i64 (w : Int)), (28, .pointer (some ⟨tb, 0, none⟩))] [cellsAt tb 274 [.int .i64 (w : Int), .bool ready, .int .i64 (bo : Int), .int .u32 (su : Int)], own (some ⟨u0, 0, none⟩) 8 8 5 1 (vb [111, 99, 116, 97, 118, 111, 45, 106]), own (some ⟨u4, 0, none⟩) 1 1 3 1 (natsV [w]), own (some ⟨u14, 0, none⟩) 2 2 3 1 (natsV [bo, su])] Q := by
   intro u0 u4 u14
   subst hl; subst hQ
   refine d_eff rfl ?_ ?_
   ·refine o_convSl (bs := [111, 99, 116, 97, 118, 111, 45, 106]) rfl xhol rfl ?_
    refine l_tell rfl ?_
    repeat' first | refine wev ?_ | fail
    exact d_weak xlss (Ent.pick xpkd) (Lx0x1x4x14 _ _ _)
   refine d_eff rfl ?_ d_stop
   ·refine o_buildSlice rfl rfl rfl rfl rfl rfl rfl rfl rfl rfl rfl rfl fun b => ?_
    repeat' first | refine wev ?_ | fail
    exact d_weak xlss (Ent.pick xpkd) (Lx0x4x7x14 _ _ _ _)
  have Lx0x4 : ∀ (u0 : Nat) (u4 : Nat), TD Tryz.prog 54 l q179_6_x0x4 [] [(26, .slice (some ⟨u0, 0, none⟩) 8 8), (30, .slice (some ⟨u4, 0, none⟩) 1 1), (39, .int .i64 (su : Int)), (38, .int .u32 (su : Int)), (37, .pointer (some ⟨tb, 3, none⟩)), (36, .int .i64 (bo : Int)), (35, .pointer (some ⟨tb, 2, none⟩)), (32, .int .i64 (rd : Int)), (29, .int .i64 (w : Int)), (28, .pointer (some ⟨tb, 0, none⟩))] [cellsAt tb 274 [.int .i64 (w : Int), .bool ready, .int .i64 (bo : Int), .int .u32 (su : Int)], own (some ⟨u0, 0, none⟩) 8 8 5 1 (vb [111, 99, 116, 97, 118, 111, 45, 106]), own (some ⟨u4, 0, none⟩) 1 1 3 1 (natsV [w])] Q := by
   intro u0 u4
   subst hl; subst hQ
   refine d_eff rfl ?_ ?_
   ·refine o_convSl (bs := [111, 99, 116, 97, 118, 111, 45, 106]) rfl xhol rfl ?_
    refine l_tell rfl ?_
    repeat' first | refine wev ?_ | fail
    exact d_weak xlss (Ent.pick xpkd) (Lx0x1x4 _ _)
   refine d_eff rfl ?_ ?_
   ·refine o_buildSlice rfl rfl rfl rfl rfl rfl rfl rfl rfl rfl rfl rfl fun b => ?_
    repeat' first | refine wev ?_ | fail
    exact d_weak xlss (Ent.pick xpkd) (Lx0x4x7 _ _ _)
   refine d_eff rfl ?_ d_stop
   ·refine o_buildSlice rfl rfl rfl rfl rfl rfl rfl rfl rfl rfl rfl rfl fun b => ?_
    repeat' first | refine wev ?_ | fail
    exact d_weak xlss (Ent.pick xpkd) (Lx0x4x14 _ _ _)
  have Lx0x7x14 : ∀ (u0 : Nat) (u7 : Nat) (u14 : Nat), TD Tryz.prog 54 l q179_6_x0x7x14 [] [(26, .slice (some ⟨u0, 0, none⟩) 8 8), (33, .slice (some ⟨u7, 0, none⟩) 1 1), (40, .slice (some ⟨u14, 0, none⟩) 2 2), (39, .int .i64 (su : Int)), (38, .int .u32 (su : Int)), (37, .pointer (some ⟨tb, 3, none⟩)), (36, .int .i64 (bo : Int)), (35, .pointer (some ⟨tb, 2, none⟩)), (32, .int .i64 (rd : Int)), (29, .int .i64 (w : Int)), (28, .pointer (some ⟨tb, 0, none⟩))] [cellsAt tb 274 [.int .i64 (w : Int), .bool ready, .int .i64 (bo : Int), .int .u32 (su : Int)], own (some ⟨u0, 0, none⟩) 8 8 5 1 (vb [111, 99, 116, 97, 118, 111, 45, 106]), own (some ⟨u7, 0, none⟩) 1 1 3 1 (natsV [rd]), own (some ⟨u14, 0, none⟩) 2 2 3 1 (natsV [bo, su])] Q := by
   intro u0 u7 u14
   subst hl; subst hQ
   refine d_eff rfl ?_ ?_
   ·refine o_convSl (bs := [111, 99, 116, 97, 118, 111, 45, 106]) rfl xhol rfl ?_
    refine l_tell rfl ?_
    repeat' first | refine wev ?_ | fail
    exact d_weak xlss (Ent.pick xpkd) (Lx0x1x7x14 _ _ _)
   refine d_eff rfl ?_ d_stop
   ·refine o_buildSlice rfl rfl rfl rfl rfl rfl rfl rfl rfl rfl rfl rfl fun b => ?_
    repeat' first | refine wev ?_ | fail
    exact d_weak xlss (Ent.pick xpkd) (Lx0x4x7x14 _ _ _ _)
  have Lx0x7 : ∀ (u0 : Nat) (u7 : Nat), TD Tryz.prog 54 l q179_6_x0x7 [] [(26, .slice (some ⟨u0, 0, none⟩) 8 8), (33, .slice (some ⟨u7, 0, none⟩) 1 1), (39, .int .i64 (su : Int)), (38, .int .u32 (su : Int)), (37, .pointer (some ⟨tb, 3, none⟩)), (36, .int .i64 (bo : Int)), (35, .pointer (some ⟨tb, 2, none⟩)), (32, .int .i64 (rd : Int)), (29, .int .i64 (w : Int)), (28, .pointer (some ⟨tb, 0, none⟩))] [cellsAt tb 274 [.int .i64 (w : Int), .bool ready, .int .i64 (bo : Int), .int .u32 (su : Int)], own (some ⟨u0, 0, none⟩) 8 8 5 1 (vb [111, 99, 116, 97, 118, 111, 45, 106]), own (some ⟨u7, 0, none⟩) 1 1 3 1 (natsV [rd])] Q := by
   intro u0 u7
   subst hl; subst hQ
   refine d_eff rfl ?_ ?_
   ·refine o_convSl (bs := [111, 99, 116, 97, 118, 111, 45, 106]) rfl xhol rfl ?_
    refine l_tell rfl ?_
    repeat' first | refine wev ?_ | fail
    exact d_weak xlss (Ent.pick xpkd) (Lx0x1x7 _ _)
   refine d_eff rfl ?_ ?_
   ·refine o_buildSlice rfl rfl rfl rfl rfl rfl rfl rfl rfl rfl rfl rfl fun b => ?_
    repeat' first | refine wev ?_ | fail
    exact d_weak xlss (Ent.pick xpkd) (Lx0x4x7 _ _ _)
   refine d_eff rfl ?_ d_stop
   ·refine o_buildSlice rfl rfl rfl rfl rfl rfl rfl rfl rfl rfl rfl rfl fun b => ?_
    repeat' first | refine wev ?_ | fail
    exact d_weak xlss (Ent.pick xpkd) (Lx0x7x14 _ _ _)
  have Lx0x14 : ∀ (u0 : Nat) (u14 : Nat), TD Tryz.prog 54 l q179_6_x0x14 [] [(26, .slice (some ⟨u0, 0, none⟩) 8 8), (40, .slice (some ⟨u14, 0, none⟩) 2 2), (39, .int .i64 (su : Int)), (38, .int .u32 (su : Int)), (37, .pointer (some ⟨tb, 3, none⟩)), (36, .int .i64 (bo : Int)), (35, .pointer (some ⟨tb, 2, none⟩)), (32, .int .i64 (rd : Int)), (29, .int .i64 (w : Int)), (28, .pointer (some ⟨tb, 0, none⟩))] [cellsAt tb 274 [.int .i64 (w : Int), .bool ready, .int .i64 (bo : Int), .int .u32 (su : Int)], own (some ⟨u0, 0, none⟩) 8 8 5 1 (vb [111, 99, 116, 97, 118, 111, 45, 106]), own (some ⟨u14, 0, none⟩) 2 2 3 1 (natsV [bo, su])] Q := by
   intro u0 u14
   subst hl; subst hQ
   refine d_eff rfl ?_ ?_
   ·refine o_convSl (bs := [111, 99, 116, 97, 118, 111, 45, 106]) rfl xhol rfl ?_
    refine l_tell rfl ?_
    repeat' first | refine wev ?_ | fail
    exact d_weak xlss (Ent.pick xpkd) (Lx0x1x14 _ _)
   refine d_eff rfl ?_ ?_
   ·refine o_buildSlice rfl rfl rfl rfl rfl rfl rfl rfl rfl rfl rfl rfl fun b => ?_
    repeat' first | refine wev ?_ | fail
    exact d_weak xlss (Ent.pick xpkd) (Lx0x4x14 _ _ _)
   refine d_eff rfl ?_ d_stop
   ·refine o_buildSlice rfl rfl rfl rfl rfl rfl rfl rfl rfl rfl rfl rfl fun b => ?_
    repeat' first | refine wev ?_ | fail
    exact d_weak xlss (Ent.pick xpkd) (Lx0x7x14 _ _ _)
  have Lx0 : ∀ (u0 : Nat), TD Tryz.prog 54 l q179_6_x0 [] [(26, .slice (some ⟨u0, 0, none⟩) 8 8), (39, .int .i64 (su : Int)), (38, .int .u32 (su : Int)), (37, .pointer (some ⟨tb, 3, none⟩)), (36, .int .i64 (bo : Int)), (35, .pointer (some ⟨tb, 2, none⟩)), (32, .int .i64 (rd : Int)), (29, .int .i64 (w : Int)), (28, .pointer (some ⟨tb, 0, none⟩))] [cellsAt tb 274 [.int .i64 (w : Int), .bool ready, .int .i64 (bo : Int), .int .u32 (su : Int)], own (some ⟨u0, 0, none⟩) 8 8 5 1 (vb [111, 99, 116, 97, 118, 111, 45, 106])] Q := by
   intro u0
   subst hl; subst hQ
   refine d_eff rfl ?_ ?_
   ·refine o_convSl (bs := [111, 99, 116, 97, 118, 111, 45, 106]) rfl xhol rfl ?_
    refine l_tell rfl ?_
    repeat' first | refine wev ?_ | fail
    exact d_weak xlss (Ent.pick xpkd) (Lx0x1 _)
   refine d_eff rfl ?_ ?_
   ·refine o_buildSlice rfl rfl rfl rfl rfl rfl rfl rfl rfl rfl rfl rfl fun b => ?_
    repeat' first | refine wev ?_ | fail
    exact d_weak xlss (Ent.pick xpkd) (Lx0x4 _ _)
   refine d_eff rfl ?_ ?_
   ·refine o_buildSlice rfl rfl rfl rfl rfl rfl rfl rfl rfl rfl rfl rfl fun b => ?_
    repeat' first | refine wev ?_ | fail
    exact d_weak xlss (Ent.pick xpkd) (Lx0x7 _ _)
   refine d_eff rfl ?_ d_stop
   ·refine o_buildSlice rfl rfl rfl rfl rfl rfl rfl rfl rfl rfl rfl rfl fun b => ?_
    repeat' first | refine wev ?_ | fail
    exact d_weak xlss (Ent.pick xpkd) (Lx0x14 _ _)
  have Lx4x7x14 : ∀ (u4 : Nat) (u7 : Nat) (u14 : Nat), TD Tryz.prog 54 l q179_6_x4x7x14 [] [(30, .slice (some ⟨u4, 0, none⟩) 1 1), (33, .slice (some ⟨u7, 0, none⟩) 1 1), (40, .slice (some ⟨u14, 0, none⟩) 2 2), (39, .int .i64 (su : Int)), (38, .int .u32 (su : Int)), (37, .pointer (some ⟨tb, 3, none⟩)), (36, .int .i64 (bo : Int)), (35, .pointer (some ⟨tb, 2, none⟩)), (32, .int .i64 (rd : Int)), (29, .int .i64 (w : Int)), (28, .pointer (some ⟨tb, 0, none⟩))] [cellsAt tb 274 [.int .i64 (w : Int), .bool ready, .int .i64 (bo : Int), .int .u32 (su : Int)], own (some ⟨u4, 0, none⟩) 1 1 3 1 (natsV [w]), own (some ⟨u7, 0, none⟩) 1 1 3 1 (natsV [rd]), own (some ⟨u14, 0, none⟩) 2 2 3 1 (natsV [bo, su])] Q := by
   intro u4 u7 u14
   subst hl; subst hQ
   refine d_eff rfl ?_ d_stop
   ·refine o_buildSlice rfl rfl rfl rfl rfl rfl rfl rfl rfl rfl rfl rfl fun b => ?_
    repeat' first | refine wev ?_ | fail
    exact d_weak xlss (Ent.pick xpkd) (Lx0x4x7x14 _ _ _ _)
  have Lx4x7 : ∀ (u4 : Nat) (u7 : Nat), TD Tryz.prog 54 l q179_6_x4x7 [] [(30, .slice (some ⟨u4, 0, none⟩) 1 1), (33, .slice (some ⟨u7, 0, none⟩) 1 1), (39, .int .i64 (su : Int)), (38, .int .u32 (su : Int)), (37, .pointer (some ⟨tb, 3, none⟩)), (36, .int .i64 (bo : Int)), (35, .pointer (some ⟨tb, 2, none⟩)), (32, .int .i64 (rd : Int)), (29, .int .i64 (w : Int)), (28, .pointer (some ⟨tb, 0, none⟩))] [cellsAt tb 274 [.int .i64 (w : Int), .bool ready, .int .i64 (bo : Int), .int .u32 (su : Int)], own (some ⟨u4, 0, none⟩) 1 1 3 1 (natsV [w]), own (some ⟨u7, 0, none⟩) 1 1 3 1 (natsV [rd])] Q := by
   intro u4 u7
   subst hl; subst hQ
   refine d_eff rfl ?_ ?_
   ·refine o_buildSlice rfl rfl rfl rfl rfl rfl rfl rfl rfl rfl rfl rfl fun b => ?_
    repeat' first | refine wev ?_ | fail
    exact d_weak xlss (Ent.pick xpkd) (Lx0x4x7 _ _ _)
   refine d_eff rfl ?_ d_stop
   ·refine o_buildSlice rfl rfl rfl rfl rfl rfl rfl rfl rfl rfl rfl rfl fun b => ?_
    repeat' first | refine wev ?_ | fail
    exact d_weak xlss (Ent.pick xpkd) (Lx4x7x14 _ _ _)
  have Lx4x14 : ∀ (u4 : Nat) (u14 : Nat), TD Tryz.prog 54 l q179_6_x4x14 [] [(30, .slice (some ⟨u4, 0, none⟩) 1 1), (40, .slice (some ⟨u14, 0, none⟩) 2 2), (39, .int .i64 (su : Int)), (38, .int .u32 (su : Int)), (37, .pointer (some ⟨tb, 3, none⟩)), (36, .int .i64 (bo : Int)), (35, .pointer (some ⟨tb, 2, none⟩)), (32, .int .i64 (rd : Int)), (29, .int .i64 (w : Int)), (28, .pointer (some ⟨tb, 0, none⟩))] [cellsAt tb 274 [.int .i64 (w : Int), .bool ready, .int .i64 (bo : Int), .int .u32 (su : Int)], own (some ⟨u4, 0, none⟩) 1 1 3 1 (natsV [w]), own (some ⟨u14, 0, none⟩) 2 2 3 1 (natsV [bo, su])] Q := by
   intro u4 u14
   subst hl; subst hQ
   refine d_eff rfl ?_ ?_
   ·refine o_buildSlice rfl rfl rfl rfl rfl rfl rfl rfl rfl rfl rfl rfl fun b => ?_
    repeat' first | refine wev ?_ | fail
    exact d_weak xlss (Ent.pick xpkd) (Lx0x4x14 _ _ _)
   refine d_eff rfl ?_ d_stop
   ·refine o_buildSlice rfl rfl rfl rfl rfl rfl rfl rfl rfl rfl rfl rfl fun b => ?_
    repeat' first | refine wev ?_ | fail
    exact d_weak xlss (Ent.pick xpkd) (Lx4x7x14 _ _ _)
  have Lx4 : ∀ (u4 : Nat), TD Tryz.prog 54 l q179_6_x4 [] [(30, .slice (some ⟨u4, 0, none⟩) 1 1), (39, .int .i64 (su : Int)), (38, .int .u32 (su : Int)), (37, .pointer (some ⟨tb, 3, none⟩)), (36, .int .i64 (bo : Int)), (35, .pointer (some ⟨tb, 2, none⟩)), (32, .int .i64 (rd : Int)), (29, .int .i64 (w : Int)), (28, .pointer (some ⟨tb, 0, none⟩))] [cellsAt tb 274 [.int .i64 (w : Int), .bool ready, .int .i64 (bo : Int), .int .u32 (su : Int)], own (some ⟨u4, 0, none⟩) 1 1 3 1 (natsV [w])] Q := by
   intro u4
   subst hl; subst hQ
   refine d_eff rfl ?_ ?_
   ·refine o_buildSlice rfl rfl rfl rfl rfl rfl rfl rfl rfl rfl rfl rfl fun b => ?_
    repeat' first | refine wev ?_ | fail
    exact d_weak xlss (Ent.pick xpkd) (Lx0x4 _ _)
   refine d_eff rfl ?_ ?_
   ·refine o_buildSlice rfl rfl rfl rfl rfl rfl rfl rfl rfl rfl rfl rfl fun b => ?_
    repeat' first | refine wev ?_ | fail
    exact d_weak xlss (Ent.pick xpkd) (Lx4x7 _ _)
   refine d_eff rfl ?_ d_stop
   ·refine o_buildSlice rfl rfl rfl rfl rfl rfl rfl rfl rfl rfl rfl rfl fun b => ?_
    repeat' first | refine wev ?_ | fail
    exact d_weak xlss (Ent.pick xpkd) (Lx4x14 _ _)
  have Lx7x14 : ∀ (u7 : Nat) (u14 : Nat), TD Tryz.prog 54 l q179_6_x7x14 [] [(33, .slice (some ⟨u7, 0, none⟩) 1 1), (40, .slice (some ⟨u14, 0, none⟩) 2 2), (39, .int .i64 (su : Int)), (38, .int .u32 (su : Int)), (37, .pointer (some ⟨tb, 3, none⟩)), (36, .int .i64 (bo : Int)), (35, .pointer (some ⟨tb, 2, none⟩)), (32, .int .i64 (rd : Int)), (29, .int .i64 (w : Int)), (28, .pointer (some ⟨tb, 0, none⟩))] [cellsAt tb 274 [.int .i64 (w : Int), .bool ready, .int .i64 (bo : Int), .int .u32 (su : Int)], own (some ⟨u7, 0, none⟩) 1 1 3 1 (natsV [rd]), own (some ⟨u14, 0, none⟩) 2 2 3 1 (natsV [bo, su])] Q := by
   intro u7 u14
   subst hl; subst hQ
   refine d_eff rfl ?_ ?_
   ·refine o_buildSlice rfl rfl rfl rfl rfl rfl rfl rfl rfl rfl rfl rfl fun b => ?_
    repeat' first | refine wev ?_ | fail
    exact d_weak xlss (Ent.pick xpkd) (Lx0x7x14 _ _ _)
   refine d_eff rfl ?_ d_stop
   ·refine o_buildSlice rfl rfl rfl rfl rfl rfl rfl rfl rfl rfl rfl rfl fun b => ?_
    repeat' first | refine wev ?_ | fail
    exact d_weak xlss (Ent.pick xpkd) (Lx4x7x14 _ _ _)
  have Lx7 : ∀ (u7 : Nat), TD Tryz.prog 54 l q179_6_x7 [] [(33, .slice (some ⟨u7, 0, none⟩) 1 1), (39, .int .i64 (su : Int)), (38, .int .u32 (su : Int)), (37, .pointer (some ⟨tb, 3, none⟩)), (36, .int .i64 (bo : Int)), (35, .pointer (some ⟨tb, 2, none⟩)), (32, .int .i64 (rd : Int)), (29, .int .i64 (w : Int)), (28, .pointer (some ⟨tb, 0, none⟩))] [cellsAt tb 274 [.int .i64 (w : Int), .bool ready, .int .i64 (bo : Int), .int .u32 (su : Int)], own (some ⟨u7, 0, none⟩) 1 1 3 1 (natsV [rd])] Q := by
   intro u7
   subst hl; subst hQ
   refine d_eff rfl ?_ ?_
   ·refine o_buildSlice rfl rfl rfl rfl rfl rfl rfl rfl rfl rfl rfl rfl fun b => ?_
    repeat' first | refine wev ?_ | fail
    exact d_weak xlss (Ent.pick xpkd) (Lx0x7 _ _)
   refine d_eff rfl ?_ ?_
   ·refine o_buildSlice rfl rfl rfl rfl rfl rfl rfl rfl rfl rfl rfl rfl fun b => ?_
    repeat' first | refine wev ?_ | fail
    exact d_weak xlss (Ent.pick xpkd) (Lx4x7 _ _)
   refine d_eff rfl ?_ d_stop
   ·refine o_buildSlice rfl rfl rfl rfl rfl rfl rfl rfl rfl rfl rfl rfl fun b => ?_
    repeat' first | refine wev ?_ | fail
    exact d_weak xlss (Ent.pick xpkd) (Lx7x14 _ _)
  have Lx14 : ∀ (u14 : Nat), TD Tryz.prog 54 l q179_6_x14 [] [(40, .slice (some ⟨u14, 0, none⟩) 2 2), (39, .int .i64 (su : Int)), (38, .int .u32 (su : Int)), (37, .pointer (some ⟨tb, 3, none⟩)), (36, .int .i64 (bo : Int)), (35, .pointer (some ⟨tb, 2, none⟩)), (32, .int .i64 (rd : Int)), (29, .int .i64 (w : Int)), (28, .pointer (some ⟨tb, 0, none⟩))] [cellsAt tb 274 [.int .i64 (w : Int), .bool ready, .int .i64 (bo : Int), .int .u32 (su : Int)], own (some ⟨u14, 0, none⟩) 2 2 3 1 (natsV [bo, su])] Q := by
   intro u14
   subst hl; subst hQ
   refine d_eff rfl ?_ ?_
   ·refine o_buildSlice rfl rfl rfl rfl rfl rfl rfl rfl rfl rfl rfl rfl fun b => ?_
    repeat' first | refine wev ?_ | fail
    exact d_weak xlss (Ent.pick xpkd) (Lx0x14 _ _)
   refine d_eff rfl ?_ ?_
   ·refine o_buildSlice rfl rfl rfl rfl rfl rfl rfl rfl rfl rfl rfl rfl fun b => ?_
    repeat' first | refine wev ?_ | fail
    exact d_weak xlss (Ent.pick xpkd) (Lx4x14 _ _)
   refine d_eff rfl ?_ d_stop
   ·refine o_buildSlice rfl rfl rfl rfl rfl rfl rfl rfl rfl rfl rfl rfl fun b => ?_
    repeat' first | refine wev ?_ | fail
    exact d_weak xlss (Ent.pick xpkd) (Lx7x14 _ _)
  have L0 : ∀ (_ : True), TD Tryz.prog 54 l q179_6_0 [] [(39, .int .i64 (su : Int)), (38, .int .u32 (su : Int)), (37, .pointer (some ⟨tb, 3, none⟩)), (36, .int .i64 (bo : Int)), (35, .pointer (some ⟨tb, 2, none⟩)), (32, .int .i64 (rd : Int)), (29, .int .i64 (w : Int)), (28, .pointer (some ⟨tb, 0, none⟩))] [cellsAt tb 274 [.int .i64 (w : Int), .bool ready, .int .i64 (bo : Int), .int .u32 (su : Int)]] Q := by
   intro _
   subst hl; subst hQ
   refine d_eff rfl ?_ ?_
   ·refine o_buildSlice rfl rfl rfl rfl rfl rfl rfl rfl rfl rfl rfl rfl fun b => ?_
    repeat' first | refine wev ?_ | fail
    exact d_weak xlss (Ent.pick xpkd) (Lx0 _)
   refine d_eff rfl ?_ ?_
   ·refine o_buildSlice rfl rfl rfl rfl rfl rfl rfl rfl rfl rfl rfl rfl fun b => ?_
    repeat' first | refine wev ?_ | fail
    exact d_weak xlss (Ent.pick xpkd) (Lx4 _)
   refine d_eff rfl ?_ ?_
   ·refine o_buildSlice rfl rfl rfl rfl rfl rfl rfl rfl rfl rfl rfl rfl fun b => ?_
    repeat' first | refine wev ?_ | fail
    exact d_weak xlss (Ent.pick xpkd) (Lx7 _)
   refine d_eff rfl ?_ d_stop
   ·refine o_buildSlice rfl rfl rfl rfl rfl rfl rfl rfl rfl rfl rfl rfl fun b => ?_
    repeat' first | refine wev ?_ | fail
    exact d_weak xlss (Ent.pick xpkd) (Lx14 _)
  exact d_weak xlss (Ent.pick xpkd) (L0 trivial)
 rintro ⟨a5, c5⟩ -
 dsimp only
 repeat' first | refine wk ?_ | refine wc ?_ ?_ <;> intro h <;> try omega | fail
 refine c_appendZB (m := 39) rfl rfl xrmv (by omega) (by omega) rfl fun a6 c6 => ?_
 repeat' first | refine wk ?_ | refine wc ?_ ?_ <;> intro h <;> try omega | fail
 refine o_buildSlice rfl rfl rfl rfl rfl rfl rfl rfl rfl rfl rfl rfl fun pb2 => ?_
 refine l_open by_open xrmv fun bs hbs => ?_
 refine c_call (s_crcOf [own a6 60 c6 5 1 (vb bs)] (some ⟨pb2, 0, none⟩) 1 [⟨a6, 60, c6, bs⟩] (by simp) (by
   intro x hx
   rcases List.mem_cons.1 hx with rfl | hx
   ·exact ⟨Rds.own 0 rfl, hbs.1, hbs.2, by show 60 ≤ _; omega⟩
   ·cases hx)) rfl xpkd rfl rfl ?_
 rintro v S ⟨rfl, rfl⟩
 simp only [List.flatMap_cons, List.flatMap_nil, List.append_nil] at *
 have hcl := crcN_lt hbs.2
 generalize crcN bs = cr at *
 refine l_ent (Ent.close (L := [own a6 60 c6 5 1 (vb bs)]) (by_close hbs.1 hbs.2) xpkd) ?_
 repeat' first | refine l_qp (by (apply q_conv198; exact rfl; omega)) rfl ?_ | refine d_qp rfl (by (apply q_conv198; exact rfl; omega)) rfl ?_ | refine d_gqp rfl rfl (by (apply q_conv198; exact rfl; omega)) rfl ?_ | refine wk ?_ | refine wc ?_ ?_ <;> intro h <;> try omega | fail
 refine o_buildSlice rfl rfl rfl rfl rfl rfl rfl rfl rfl rfl rfl rfl fun pb3 => ?_
 refine c_call (s_rPutB a6 _ 60 c6 1 _ 4 [cr] rfl (by omega) (by omega) (by omega) (by omega) (fun k hk => by rw [List.mem_singleton.1 hk]; exact ⟨by show cr < 4294967296; omega, by omega⟩)) rfl xpkd rfl rfl ?_
 rintro v S ⟨a7, c7, rfl, rfl⟩
 refine l_tell rfl ?_
 repeat' first | refine wk ?_ | refine wc ?_ ?_ <;> intro h <;> try omega | fail
 exact b_ret [byC a7 64 c7] rfl (Ent.pick xpkd) ⟨a7, c7, rfl, rfl⟩
end Go.Ox
end
