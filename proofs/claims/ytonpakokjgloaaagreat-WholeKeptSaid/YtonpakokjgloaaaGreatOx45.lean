/- WholeKept, part 45. No condition. -/
import Derived.Test.YtonpakokjgloaaaGreatOx39
import Derived.Test.YtonpakokjgloaaaGreatOx44
set_option linter.all false
section
namespace Go.Ox
open Go Go.Proofs
theorem t_mid {α : Type} {P : Program} {N : Nat} {x y : Code} {D : List Deferred} {env : KEnv} {S : List Asn} {Q Q' : Post} (e : α → KEnv) (s : α → List Asn) (p : α → Prop)
    (h : Trip P N x D env S (thenP (fun D' env' S' => D' = D ∧ ∃ i, p i ∧ Less (e i) env' ∧ Ent S' (s i)) Q)) (k : ∀ i, p i → Trip P N y D (e i) (s i) Q') : Trip P N x D env S (thenP (fun D env S => Trip P N y D env S Q') Q) :=
  t_mono h fun ex D' env' S' q => by
    cases ex with
    | normal => obtain ⟨rfl, i, hp, hl, he⟩ := q; exact t_weaken hl he (k i hp)
    | exit i => exact q
    | goto i => exact q
    | ret => exact q
    | panic i => exact q
    | outgrown => exact q
theorem t_midQ {α : Type} {P : Program} {N : Nat} {x : Code} {D : List Deferred} {env : KEnv} {S : List Asn} {Q : Post} (e : α → KEnv) (s : α → List Asn) (p : α → Prop)
    (h : Trip P N x D env S (thenP (fun D' env' S' => D' = D ∧ ∃ i, p i ∧ Less (e i) env' ∧ Ent S' (s i)) Q))
    (hst : ∀ {env env' : KEnv} {S S' : List Asn}, Less env' env → Ent S S' → Q .normal D env' S' → Q .normal D env S) (k : ∀ i, p i → Q .normal D (e i) (s i)) : Trip P N x D env S Q :=
  t_mono h fun ex D' env' S' q => by
    cases ex with
    | normal => obtain ⟨rfl, i, hp, hl, he⟩ := q; exact hst hl he (k i hp)
    | exit i => exact q
    | goto i => exact q
    | ret => exact q
    | panic i => exact q
    | outgrown => exact q
theorem d_weak {P : Program} {N : Nat} {l : List Oper} {pl : Plan} {D : List Deferred} {env env' : KEnv} {S S' : List Asn} {Q : Post} (he : Less env' env) (hs : Ent S S') (h : TD P N l pl D env' S' Q) : TD P N l pl D env S Q :=
  ⟨fun G F a w k => h.run G F a w ⟨k.size, k.env.less he, k.defers, k.sat.ent (hs.frame F)⟩⟩
theorem d_gen {P : Program} {N : Nat} {l : List Oper} {pl : Plan} {D : List Deferred} {env : KEnv} {S : List Asn} {Q : Post} (h : ∀ l' Q', l' = l → Q' = Q → TD P N l' pl D env S Q') : TD P N l pl D env S Q := h l Q rfl rfl
theorem wrs2 {G : Prop} (h : G := by (repeat (first | refine wre ?_ | exact r_nil | fail)); done) : G := h
theorem wev {G R : Prop} (r : R) (h : R → G := by
  intro r
  first
  | exact l_nil r
  | exact n_eff wrs2 r
  | (show TD _ _ _ _ _ _ _ _
     first
     | exact d_qp rfl wqp rfl r
     | exact d_qs rfl wqs rfl r
     | exact d_gqp rfl rfl wqp rfl r
     | exact d_gqs rfl rfl wqs rfl r
     | exact d_gno rfl rfl rfl r
     | fail)
  | fail) : G := h r
def byC (a : Option Addr) (n c : Nat) : Asn := fun h => ∃ bs : List Nat, (bs.length = n ∧ ∀ b ∈ bs, b < 256) ∧ star [own a n c 5 1 (vb bs)] h
theorem by_open {a : Option Addr} {n c : Nat} : ∀ h, byC a n c h → ∃ bs : List Nat, (bs.length = n ∧ ∀ b ∈ bs, b < 256) ∧ star [own a n c 5 1 (vb bs)] h := fun _ h => h
theorem by_close {a : Option Addr} {n c : Nat} {bs : List Nat} (h1 : bs.length = n) (h2 : ∀ b ∈ bs, b < 256) : ∀ h, star [own a n c 5 1 (vb bs)] h → byC a n c h := fun _ h => ⟨bs, ⟨h1, h2⟩, h⟩
theorem ent_by {a : Option Addr} {n c : Nat} {bs : List Nat} (h1 : bs.length = n) (h2 : ∀ b ∈ bs, b < 256) (R : List Asn) : Ent (own a n c 5 1 (vb bs) :: R) (byC a n c :: R) := Ent.fold (L := [_]) (by_close h1 h2)
theorem ent_by0 (R : List Asn) : Ent R (byC none 0 0 :: R) := (ent_nil 5 1 R).trans (ent_by (bs := []) rfl (fun b hb => by cases hb) R)
theorem by_le {S S' : List Asn} {a : Option Addr} {n c : Nat} (hc : CAt S (byC a n c) (byC a n c) S') : ∀ h, star S h → n ≤ c := fun h hs => by
  obtain ⟨i, hi, _⟩ := hc.at
  obtain ⟨h1, h2, d, s1, s2, ⟨bs, _, hb⟩, r⟩ := star_perm (perm_del hi) hs
  exact own_leC (S := [own a n c 5 1 (vb bs)]) .here h1 hb
theorem s_rPutB (a an : Option Addr) (n c nn cn wd : Nat) (ns : List Nat) (hns : ns.length = nn) (hn1 : 1 ≤ nn) (hn : n + nn * wd ≤ 1000000) (h1 : 1 ≤ wd) (h2 : wd ≤ 8) (hk : ∀ k ∈ ns, k < 256 ^ wd ∧ k ≤ 1152921504606846976) :
    Spec Tryz.prog 249 [.slice a n c, .int .i64 (wd : Int), .slice an nn cn] [byC a n c, own an nn cn 3 1 (natsV ns)] (fun v S => ∃ (a' : Option Addr) (c' : Nat), v = .slice a' (n + nn * wd) c' ∧ S = [byC a' (n + nn * wd) c']) := by
  refine Spec.ex by_open fun bs hbs => ?_
  refine (s_rPut (own a n c 5 1 (vb bs)) (own an nn cn 3 1 (natsV ns)) a an n c nn cn wd bs ns (.inr rfl) (Rds.own 0 rfl) hbs.1 hns hn1 hn h1 h2 hk).conseq (Ent.refl _) ?_
  rintro v S ⟨a', c', rfl, rfl⟩
  refine ⟨[byC a' (n + nn * wd) c'], ?_, a', c', rfl, rfl⟩
  refine (ent_by (by rw [List.length_append, puB_len, hbs.1, hns]) ?_ _).trans (Ent.left [_] [_])
  intro b hb
  rcases List.mem_append.1 hb with h | h
  · exact hbs.2 b h
  · exact puB_lt _ _ _ h
section
variable {N : Nat} {D : List Deferred} {env : KEnv} {S S' S'' : List Asn} {Q : Post} {ops rest : List Oper}
variable {d : Tmp} {t : TypeId} {pos : String} {aft : Array Edge}
variable {x y : Operand} {n c m c2 : Nat} {a a2 : Option Addr}
theorem c_appendB (hx : ev env x = some (.slice a n c)) (hy : ev env y = some (.slice a2 m c2)) (hc : Rem S (byC a n c) S') (hr : Rem S' (byC a2 m c2) S'') (hm : n + m ≤ 1000000) (hN : ok N d)
    (next : ∀ a' c', TripL Tryz.prog N ops rest D ((d, .slice a' (n + m) c') :: env) (byC a' (n + m) c' :: S'') Q) : TripL Tryz.prog N ops (⟨some d, .call ⟨.builtin .append, #[x, y], #[22, 22]⟩, t, pos, aft, none⟩ :: rest) D env S Q := by
  refine l_open by_open hc fun bs hbs => ?_
  refine l_open (S := [own a n c 5 1 (vb bs)] ++ S') by_open (.there hr) fun bs2 hbs2 => ?_
  refine c_append hx hy (.there .here) (own_rds (a := a2) (n := m) (c := c2) (els := vb bs2) .here) rfl rfl rfl rfl rfl (by show (n + m) * 1 ≤ _; omega) (by omega) hN fun a' c' => ?_
  rw [vb_app]
  refine l_ent ((Ent.drop _ _).trans (ent_by ?_ ?_ _)) (next a' c')
  · rw [List.length_append, hbs.1, hbs2.1]
  · intro b hb
    rcases List.mem_append.1 hb with h | h
    · exact hbs.2 b h
    · exact hbs2.2 b h
end
section
variable {N : Nat} {D : List Deferred} {env : KEnv} {S S' : List Asn} {Q : Post} {ops rest : List Oper}
variable {d : Tmp} {t : TypeId} {pos : String} {aft : Array Edge}
variable {x y : Operand} {n c m : Nat} {a : Option Addr}
theorem c_appendZB (hx : ev env x = some (.slice a n c)) (hy : ev env y = some (.int .i64 (m : Int))) (hc : Rem S (byC a n c) S') (h1 : 1 ≤ m) (hm : n + m ≤ 1000000) (hN : ok N d)
    (next : ∀ a' c', TripL Tryz.prog N ops rest D ((d, .slice a' (n + m) c') :: env) (byC a' (n + m) c' :: S') Q) : TripL Tryz.prog N ops (⟨some d, .call ⟨.builtin .append, #[x, y], #[22, 3]⟩, t, pos, aft, none⟩ :: rest) D env S Q := by
  refine l_open by_open hc fun bs hbs => ?_
  refine c_appendZ hx hy .here h1 (by omega) hN fun a' c' => ?_
  refine l_ent (ent_by ?_ ?_ _) (next a' c')
  · rw [List.length_append, List.length_replicate, hbs.1]
  · intro b hb
    rcases List.mem_append.1 hb with h | h
    · exact hbs.2 b h
    · rw [List.eq_of_mem_replicate h]; omega
end
end Go.Ox
end
