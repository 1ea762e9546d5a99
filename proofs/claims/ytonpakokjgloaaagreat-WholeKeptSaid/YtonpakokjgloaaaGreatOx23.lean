/- WholeKept, part 23. No condition. -/
import Derived.Test.YtonpakokjgloaaaGreatOx22
set_option linter.all false
section
set_option maxRecDepth 100000
set_option maxHeartbeats 800000
namespace Go.Ox
open Go Go.Proofs
theorem coh_cw {pre post : List CI} {x : CI} {s : Option (List Nat)} {pg : Nat → Option (List Nat)} {n cap : Nat} (h : Coh (pre ++ x :: post) (byO s) pg n cap) : Coh (pre ++ { x with m := false } :: post) (byO (wrS s x)) pg n cap := by
 unfold wrS
 split
 ·exact h.write
 ·rename_i hm
  have hx : x.m = false := by cases hx : x.m with | false => rfl | true => exact absurd hx hm
  have e : { x with m := false } = x := by rw [← hx]
  rw [e]; exact h
theorem mkd_of {cs : List CI} {z : Int} : z ∈ mkd (cs.map CI.it) ↔ ∃ x ∈ cs, x.m = true ∧ (x.k : Int) = z := by
 unfold mkd
 rw [List.mem_map]
 constructor
 ·rintro ⟨y, hy, e⟩
  obtain ⟨hy1, hy2⟩ := List.mem_filter.1 hy
  obtain ⟨x, hx, rfl⟩ := List.mem_map.1 hy1
  exact ⟨x, hx, hy2, e⟩
 ·rintro ⟨x, hx, hm, e⟩
  exact ⟨x.it, List.mem_filter.2 ⟨List.mem_map_of_mem hx, hm⟩, e⟩
theorem s_flush (K : SK) (hK : K.ok) (pg : Nat → Option (List Nat)) (sl fu q no : Nat) (b : List Nat) (hp : pg no = some b) (hq : 256 * K.n * K.cap ≤ q) :
  Spec Tryz.prog 225 [.pointer (some ⟨K.cc, 0, none⟩)] [stC K pg sl (fu + q)] (fun v S => v = .int .i64 0 ∧ S = [stC K pg (256 * (no + 1)) fu]) := by
 refine spec_of Tryz.func225 rfl Tryz.results225 Tryz.ntmps225 rfl ?_
 refine t_open st_open .here fun r hr => ?_
 obtain ⟨hco, hsl⟩ := hr
 have hK' := hK
 obtain ⟨k1, k2, k3, k4, k5, k6⟩ := hK
 refine t_tell rfl ?_
 have hcl := hco.len
 repeat' first | refine wk ?_ | refine wc ?_ ?_ <;> intro h <;> try omega | fail
 refine c_call (s_marked r.L K.cap (r.cs.map CI.it) (by rw [List.length_map]; omega)) rfl xpkd rfl rfl ?_
 rintro v S ⟨a, c, ks, hks, rfl, rfl⟩
 refine l_tell rfl ?_
 have hkl : ks.length ≤ K.cap := by
  have h1 := hks.length_eq
  have h2 : (mkd (r.cs.map CI.it)).length ≤ (r.cs.map CI.it).length := by
   unfold mkd
   rw [List.length_map]; exact List.length_filter_le _ _
  rw [List.length_map] at h2
  omega
 have hqk : 256 * K.n * ks.length ≤ q := Nat.le_trans (Nat.mul_le_mul_left _ hkl) hq
 repeat' first | refine wk ?_ | refine wc ?_ ?_ <;> intro h <;> try omega | fail
 refine t_loop (fun mm env S => ∃ (i : Nat) (cs : List CI) (s : Option (List Nat)), i ≤ ks.length ∧ mm = ks.length - i ∧ Coh cs (byO s) pg K.n K.cap ∧ (∀ x ∈ cs, x.m = true → (x.k : Int) ∈ ks.drop i) ∧ (∀ z ∈ ks, ∃ x ∈ cs, (x.k : Int) = z) ∧ env = [(0, .pointer (some ⟨K.cc, 0, none⟩)), (13, .slice a ks.length c), (14, .int .i64 (ks.length : Int)), (15, .int .i64 (i : Int))] ∧ S = [dskC K.d K.room (K.F s) (fu + 256 * K.n * (ks.length - i)), own a ks.length c 3 1 (intsV ks), caC K.cc r.L K.d K.cap r.mp r.rd, lruC r.L K.cap (cs.map CI.it), amap r.mp kInt (pgM cs), pgsC cs]) ks.length _ _ ⟨0, r.cs, r.s, by omega, by omega, hco, ?_, ?_, rfl, rfl⟩ xlss ?_ ?_
 ·intro x hx hm
  exact hks.mem_iff.2 (mkd_of.2 ⟨x, hx, hm, rfl⟩)
 ·intro z hz
  obtain ⟨x, hx, _, e⟩ := mkd_of.1 (hks.mem_iff.1 hz)
  exact ⟨x, hx, e⟩
 ·exact (Ent.pick (Pre := [dskC K.d K.room (K.F r.s) (fu + q), own a ks.length c 3 1 (intsV ks), caC K.cc r.L K.d K.cap r.mp r.rd, lruC r.L K.cap (r.cs.map CI.it), amap r.mp kInt (pgM r.cs), pgsC r.cs]) xpkd).trans (ent_less (fu + q) (fu + 256 * K.n * (ks.length - 0)) (by rw [Nat.sub_zero]; omega) _)
 rintro mm env S ⟨i, cs, s, hi, rfl, hco, hmk, hks2, rfl, rfl⟩
 by_cases hin : i < ks.length
 ·refine t_pure (p := ∃ b, a = some ⟨b, 0, none⟩ ∧ ks.length ≤ c) (fun h hs => own_some (by omega) h (star_drop hs)) ?_
  rintro ⟨kb, rfl, _⟩
  obtain ⟨x, hx, hxk⟩ := hks2 ks[i] (List.getElem_mem hin)
  obtain ⟨pre, post, rfl⟩ := List.append_of_mem hx
  have hks3 : ks[i] = (x.k : Int) := hxk.symm
  obtain ⟨o1, o2, o3⟩ := hco.ok x (by simp)
  have hcl := hco.len
  have hmul : 256 * K.n * (ks.length - i) = 256 * K.n * (ks.length - (i + 1)) + 256 * K.n := by
   rw [show ks.length - i = (ks.length - (i + 1)) + 1 by omega, Nat.mul_succ]
  repeat' first | refine wk ?_ | refine wc ?_ ?_ <;> intro h <;> try omega | refine l_qs (by exact q_loadRd (j := i) (f := 0) (r := [.int .i64 ks[i]]) (own_rds (a := some ⟨kb, 0, none⟩) (n := ks.length) (c := c) (els := intsV ks) xfnd) rfl (by omega) rfl rfl (by simp [intsV, List.getElem?_eq_getElem hin]) rfl) rfl ?_ | refine d_qs rfl (by exact q_loadRd (j := i) (f := 0) (r := [.int .i64 ks[i]]) (own_rds (a := some ⟨kb, 0, none⟩) (n := ks.length) (c := c) (els := intsV ks) xfnd) rfl (by omega) rfl rfl (by simp [intsV, List.getElem?_eq_getElem hin]) rfl) rfl ?_ | refine d_gqs rfl rfl (by exact q_loadRd (j := i) (f := 0) (r := [.int .i64 ks[i]]) (own_rds (a := some ⟨kb, 0, none⟩) (n := ks.length) (c := c) (els := intsV ks) xfnd) rfl (by omega) rfl rfl (by simp [intsV, List.getElem?_eq_getElem hin]) rfl) rfl ?_ | (refine n_eff ?_ ?_; · (repeat first | refine wre ?_ | refine r_cons rfl (by first | exact q_loadRd (j := i) (f := 0) (r := [.int .i64 ks[i]]) (own_rds (a := some ⟨kb, 0, none⟩) (n := ks.length) (c := c) (els := intsV ks) xfnd) rfl (by omega) rfl rfl (by simp [intsV, List.getElem?_eq_getElem hin]) rfl | fail) rfl ?_ | refine r_gcons rfl rfl (by first | exact q_loadRd (j := i) (f := 0) (r := [.int .i64 ks[i]]) (own_rds (a := some ⟨kb, 0, none⟩) (n := ks.length) (c := c) (els := intsV ks) xfnd) rfl (by omega) rfl rfl (by simp [intsV, List.getElem?_eq_getElem hin]) rfl | fail) rfl ?_ | exact r_nil | fail)) | fail
  rw [hks3]
  refine l_ent (ent_less (fu + 256 * K.n * (ks.length - i)) ((fu + 256 * K.n * (ks.length - (i + 1))) + 256 * (x.k + 1)) (by omega) _) ?_
  refine c_call (s_cwrite K.cc r.L K.d K.cap r.mp K.room (fu + 256 * K.n * (ks.length - (i + 1))) r.rd pre post x (K.F s) hco.nodup (by omega) o3 (by omega) (by have := tot_le hK' hco.stl; omega) k6) rfl xpkd rfl rfl ?_
  rintro v S ⟨rfl, rfl⟩
  refine l_tell rfl ?_
  rw [wrF_F]
  repeat' first | refine wk ?_ | refine wc ?_ ?_ <;> intro h <;> try omega | fail
  have hpm : pgM (pre ++ x :: post) = pgM (pre ++ { x with m := false } :: post) := by simp [pgM]
  have hpc : pgsC (pre ++ x :: post) = pgsC (pre ++ { x with m := false } :: post) := by unfold pgsC; rw [List.map_append, List.map_append]; rfl
  rw [hpm, hpc]
  refine ⟨rfl, ks.length - (i + 1), _, _, by omega, ⟨i + 1, pre ++ { x with m := false } :: post, wrS s x, by omega, rfl, coh_cw hco, ?_, ?_, rfl, rfl⟩, xlss, Ent.pick xpkd⟩
  ·intro y hy hm
   rcases mid_cases hy with rfl | hy
   ·cases hm
   ·have h1 := hmk y (mem_mid hy) hm
    rw [List.drop_eq_getElem_cons hin] at h1
    rcases List.mem_cons.1 h1 with h1 | h1
    ·have := (nodup_mid (cs := []) hco.nodup).2 y hy
     omega
    ·exact h1
  ·intro z hz
   obtain ⟨y, hy, e⟩ := hks2 z hz
   rcases mid_cases hy with rfl | hy
   ·exact ⟨{ y with m := false }, by simp, e⟩
   ·exact ⟨y, mem_mid hy, e⟩
 ·have hie : i = ks.length := by omega
  subst hie
  have hun : ∀ x ∈ cs, x.m = false := fun x hx => by
   cases hm : x.m with
   | false => rfl
   | true => have := hmk x hx hm; simp at this
  have hon := hco.clean hun no b hp
  obtain ⟨st, hst⟩ : ∃ st, s = some st := by
   cases hs : s with
   | some st => exact ⟨st, rfl⟩
   | none => rw [hs] at hon; have := hon.1; simp [byO] at this
  have hget : (K.F s).get .s = some st := hst
  have hsy := s_sync4 K.d K.room (fu + 256 * K.n * (ks.length - ks.length)) (K.F s) .s (by rw [hget]; have := hco.stl; rw [hst] at this; simp only [byO] at this; simp only [lenO]; omega)
  simp only [hget] at hsy
  repeat' first | refine wk ?_ | refine wc ?_ ?_ <;> intro h <;> try omega | fail
  refine t_draw (.eval 0 true (.eval 1 true (.eval 2 true (.eval 3 false (.eval 4 true (.eval 5 true (.eval 6 true (.eval 7 false (.eff 8 [] (.eff 9 [] .fin .stop) .stop))))))))) rfl (by kernel_rfl) ?_
  repeat' first | refine wk ?_ | refine wc ?_ ?_ <;> intro h <;> try omega | fail
  refine c_call hsy rfl xpkd rfl rfl ?_
  rintro v S ⟨rfl, rfl⟩
  refine l_tell rfl ?_
  repeat' first | refine wk ?_ | refine wc ?_ ?_ <;> intro h <;> try omega | fail
  refine b_ret [stC K pg (256 * (no + 1)) fu] rfl ?_ ⟨rfl, rfl⟩
  refine (Ent.pick (Pre := [dskC K.d K.room (K.F s) (fu + 256 * K.n * (ks.length - ks.length)), caC K.cc r.L K.d K.cap r.mp r.rd, lruC r.L K.cap (cs.map CI.it), amap r.mp kInt (pgM cs), pgsC cs]) xpkd).trans ?_
  refine (ent_less _ fu (by omega) _).trans ?_
  exact Ent.close (L := stL K fu ⟨r.L, r.mp, r.rd, cs, s⟩) (st_close _ ⟨hco, hon.1⟩) xpkd
theorem s_cnamed : Spec Tryz.prog 338 [.string (Nm.name .s)] [] (fun v S => v = .bool true ∧ S = []) := by
 obtain ⟨h1, h2, h3⟩ := Nm.isName .s
 generalize Nm.name .s = s at h1 h2 h3
 refine spec_of Tryz.func338 rfl Tryz.results338 Tryz.ntmps338 rfl ?_
 repeat' first | refine l_qp (by (apply q_lenStr; exact rfl; exact rfl; exact rfl)) rfl ?_ | refine d_qp rfl (by (apply q_lenStr; exact rfl; exact rfl; exact rfl)) rfl ?_ | refine d_gqp rfl rfl (by (apply q_lenStr; exact rfl; exact rfl; exact rfl)) rfl ?_ | refine l_qp (by (apply q_neqStr; exact rfl; exact rfl)) rfl ?_ | refine d_qp rfl (by (apply q_neqStr; exact rfl; exact rfl)) rfl ?_ | refine d_gqp rfl rfl (by (apply q_neqStr; exact rfl; exact rfl)) rfl ?_ | refine l_qp (by (apply q_eqlStr; exact rfl; exact rfl)) rfl ?_ | refine d_qp rfl (by (apply q_eqlStr; exact rfl; exact rfl)) rfl ?_ | refine d_gqp rfl rfl (by (apply q_eqlStr; exact rfl; exact rfl)) rfl ?_ | refine wk ?_ | refine wc ?_ ?_ <;> intro h <;> try omega | fail
 refine t_loop (fun m env S => ∃ i, i ≤ s.size ∧ m = s.size - i ∧ env = [(0, .string s), (5, .int .i64 (s.size : Int)), (6, .int .i64 (i : Int))] ∧ S = []) s.size _ _ ⟨0, by omega, by omega, rfl, rfl⟩ xlss (Ent.refl _) ?_
 rintro m env S ⟨i, hi, rfl, rfl, rfl⟩
 by_cases hin : i < s.size
 ·have hb := h3 i hin
  repeat' first | refine l_qp (by (apply q_lenStr; exact rfl; exact rfl; exact rfl)) rfl ?_ | refine d_qp rfl (by (apply q_lenStr; exact rfl; exact rfl; exact rfl)) rfl ?_ | refine d_gqp rfl rfl (by (apply q_lenStr; exact rfl; exact rfl; exact rfl)) rfl ?_ | refine l_qp (by (apply q_neqStr; exact rfl; exact rfl)) rfl ?_ | refine d_qp rfl (by (apply q_neqStr; exact rfl; exact rfl)) rfl ?_ | refine d_gqp rfl rfl (by (apply q_neqStr; exact rfl; exact rfl)) rfl ?_ | refine l_qp (by (apply q_eqlStr; exact rfl; exact rfl)) rfl ?_ | refine d_qp rfl (by (apply q_eqlStr; exact rfl; exact rfl)) rfl ?_ | refine d_gqp rfl rfl (by (apply q_eqlStr; exact rfl; exact rfl)) rfl ?_ | refine l_qp (by (apply q_indexStr (hj := hin); exact rfl; exact rfl; exact rfl; exact rfl)) rfl ?_ | refine d_qp rfl (by (apply q_indexStr (hj := hin); exact rfl; exact rfl; exact rfl; exact rfl)) rfl ?_ | refine d_gqp rfl rfl (by (apply q_indexStr (hj := hin); exact rfl; exact rfl; exact rfl; exact rfl)) rfl ?_ | refine wk ?_ | refine wc ?_ ?_ <;> intro h <;> try omega | fail
  exact ⟨rfl, s.size - (i + 1), _, _, by omega, ⟨i + 1, by omega, rfl, rfl, rfl⟩, xlss, Ent.refl _⟩
 ·have e : i = s.size := by omega
  subst e
  repeat' first | refine l_qp (by (apply q_lenStr; exact rfl; exact rfl; exact rfl)) rfl ?_ | refine d_qp rfl (by (apply q_lenStr; exact rfl; exact rfl; exact rfl)) rfl ?_ | refine d_gqp rfl rfl (by (apply q_lenStr; exact rfl; exact rfl; exact rfl)) rfl ?_ | refine l_qp (by (apply q_neqStr; exact rfl; exact rfl)) rfl ?_ | refine d_qp rfl (by (apply q_neqStr; exact rfl; exact rfl)) rfl ?_ | refine d_gqp rfl rfl (by (apply q_neqStr; exact rfl; exact rfl)) rfl ?_ | refine l_qp (by (apply q_eqlStr; exact rfl; exact rfl)) rfl ?_ | refine d_qp rfl (by (apply q_eqlStr; exact rfl; exact rfl)) rfl ?_ | refine d_gqp rfl rfl (by (apply q_eqlStr; exact rfl; exact rfl)) rfl ?_ | refine wk ?_ | refine wc ?_ ?_ <;> intro h <;> try omega | fail
  exact b_ret _ rfl (Ent.refl _) ⟨rfl, rfl⟩
theorem s_cnew (d cap : Nat) (h1 : 1 ≤ cap) (h2 : cap ≤ 4096) :
  Spec Tryz.prog 262 [.pointer (some ⟨d, 0, none⟩), .string (Nm.name .s), .int .i64 cap] [] (fun v S => ∃ cc L mp, v = .tuple #[.pointer (some ⟨cc, 0, none⟩), .int .i64 0] ∧ S = [caC cc L d cap mp 0, lruC L cap [], amap mp kInt [], pgsC []]) := by
 refine spec_of Tryz.func262 rfl Tryz.results262 Tryz.ntmps262 rfl ?_
 repeat' first | refine wk ?_ | refine wc ?_ ?_ <;> intro h <;> try omega | fail
 refine c_call s_cnamed rfl .nil rfl rfl ?_
 rintro v S ⟨rfl, rfl⟩
 refine l_tell rfl ?_
 repeat' first | refine wk ?_ | refine wc ?_ ?_ <;> intro h <;> try omega | fail
 refine c_call (s_lruNew cap h1 h2) rfl .nil rfl rfl ?_
 rintro v S ⟨L, rfl, rfl⟩
 refine l_tell rfl ?_
 repeat' first | refine wk ?_ | refine wc ?_ ?_ <;> intro h <;> try omega | fail
 refine c_makeMap rfl rfl rfl rfl rfl fun mp => ?_
 repeat' first | refine wb fun _ => ?_ | refine wk ?_ | refine wc ?_ ?_ <;> intro h <;> try omega | fail
 rename_i cc
 refine b_ret [caC cc L d cap mp 0, lruC L cap [], amap mp kInt [], pgsC []] rfl ?_ ⟨cc, L, mp, rfl, rfl⟩
 exact (Ent.fold (A := pgsC []) (L := []) (fun h _ => trivial)).trans (Ent.pick xpkd)
theorem ent_fresh (K : SK) (fu L mp : Nat) (s : Option (List Nat)) (hs : (byO s).length ≤ 256 * K.n) (R : List Asn) : Ent ([caC K.cc L K.d K.cap mp 0, lruC L K.cap [], amap mp kInt [], pgsC [], dskC K.d K.room (K.F s) fu] ++ R) (stC K (fun _ => none) 0 fu :: R) :=
 Ent.close (L := stL K fu ⟨L, mp, 0, [], s⟩) (st_close _ ⟨Coh.fresh hs, Nat.zero_le _⟩) xpkd
end Go.Ox
end
section
set_option maxRecDepth 100000
set_option maxHeartbeats 800000
namespace Go.Ox
open Go Go.Proofs
theorem Ent.close1 {A : Asn} {S L R : List Asn} (hA : ∀ h, star L h → A h) (hp : Pick S L R) : Ent S [A] := (Ent.close hA hp).trans (Ent.left [A] R)
theorem Rds.some' {S : List Asn} {a : Option Addr} {m z : Nat} {els : List (List Value)} (h : Rds S a m z els) (hm : m ≠ 0) : ∀ x, star S x → ∃ b off, a = Option.some ⟨b, off, none⟩ := fun x hs => by
  obtain ⟨_, _, h3⟩ := h x hs
  rcases h3 with h3 | ⟨b, off, _, _, _, ha, _⟩
  · exact absurd h3 hm
  · exact ⟨b, off, ha⟩
theorem nodup_le : ∀ {l us : List Nat}, l.Nodup → l ⊆ us → l.length ≤ us.length := by
  intro l
  induction l with
  | nil => intro us _ _; exact Nat.zero_le _
  | cons a l ih =>
    intro us hn hs
    obtain ⟨h1, h2⟩ := List.nodup_cons.1 hn
    obtain ⟨u1, u2, rfl⟩ := List.append_of_mem (hs (List.mem_cons_self ..))
    have := ih (us := u1 ++ u2) h2 (fun x hx => by
      have h3 := hs (List.mem_cons_of_mem _ hx)
      have hne : x ≠ a := fun e => h1 (e ▸ hx)
      rcases List.mem_append.1 h3 with q | q
      · exact List.mem_append_left _ q
      · rcases List.mem_cons.1 q with q | q
        · exact absurd q hne
        · exact List.mem_append_right _ q)
    simp only [List.length_append, List.length_cons] at this ⊢; omega
def natsV (ks : List Nat) : List (List Value) := ks.map fun (k : Nat) => [Value.int .i64 (k : Int)]
def usM (us : List Nat) : List (Value × Value) := us.map fun (k : Nat) => (Value.int .i64 (k : Int), Value.bool true)
theorem usM_mem {us : List Nat} {k : Nat} (h : k ∈ us) : (Value.int .i64 (k : Int), Value.bool true) ∈ usM us := List.mem_map_of_mem (f := fun (k : Nat) => (Value.int .i64 (k : Int), Value.bool true)) h
theorem usM_no {us : List Nat} {k : Nat} (h : k ∉ us) : ∀ p ∈ usM us, p.1 ≠ Value.int .i64 (k : Int) := by
  intro p hp he
  obtain ⟨x, hx, rfl⟩ := List.mem_map.1 hp
  simp only [Value.int.injEq, true_and] at he
  exact h (by have : x = k := by omega
              rw [← this]; exact hx)
structure SpR where
  um : Nat
  wm : Nat
  ta : Option Addr
  tn : Nat
  tc : Nat
  ts : List (List Value)
def spL (s : Nat) (us : List Nat) (r : SpR) : List Asn := [cellsAt s 152 [.int .i64 1, .map (some r.um), .map (some r.wm), .slice r.ta r.tn r.tc], amap r.um kInt (usM us), amap r.wm kInt [], own r.ta r.tn r.tc 3 1 r.ts]
def spC (s : Nat) (us : List Nat) (tk : Nat) : Asn := fun h => ∃ r : SpR, r.tn ≤ tk ∧ star (spL s us r) h
theorem sp_open {s tk : Nat} {us : List Nat} : ∀ h, spC s us tk h → ∃ r : SpR, r.tn ≤ tk ∧ star (spL s us r) h := fun _ h => h
theorem sp_close {s tk : Nat} {us : List Nat} (r : SpR) (hr : r.tn ≤ tk) : ∀ h, star (spL s us r) h → spC s us tk h := fun _ h => ⟨r, hr, h⟩
theorem s_spNew : Spec Tryz.prog 263 [.int .i64 1] [] (fun v S => ∃ s, v = .tuple #[.pointer (some ⟨s, 0, none⟩), .int .i64 0] ∧ S = [spC s [] 0]) := by
  refine spec_of Tryz.func263 rfl Tryz.results263 Tryz.ntmps263 rfl ?_
  repeat' first | refine wk ?_ | refine wc ?_ ?_ <;> intro h <;> try omega | fail
  refine c_makeMap rfl rfl rfl rfl rfl fun um => ?_
  refine c_makeMap rfl rfl rfl rfl rfl fun wm => ?_
  repeat' first | refine wb fun _ => ?_ | refine wk ?_ | refine wc ?_ ?_ <;> intro h <;> try omega | fail
  rename_i s
  refine b_ret [spC s [] 0] rfl ((ent_nil 3 1 _).trans ?_) ⟨s, rfl, rfl⟩
  exact Ent.close1 (L := spL s [] ⟨um, wm, none, 0, 0, []⟩) (sp_close _ (Nat.le_refl _)) xpkd
theorem pigeon {us : List Nat} {n : Nat} (h : ∀ j, 1 ≤ j → j < n → j ∈ us) : n ≤ us.length + 1 := by
  have h1 : (List.range' 1 (n - 1)).Nodup := List.nodup_range'
  have h2 : List.range' 1 (n - 1) ⊆ us := fun x hx => by
    have := List.mem_range'_1.1 hx
    exact h x this.1 (by omega)
  have h3 := nodup_le h1 h2
  rw [List.length_range'] at h3; omega
theorem s_spTake (s tk : Nat) (us : List Nat) (hu : us.length ≤ 1048574) (ht : tk ≤ 1000000000) :
    Spec Tryz.prog 222 [.pointer (some ⟨s, 0, none⟩)] [spC s us tk] (fun v S => ∃ no, 1 ≤ no ∧ no ≤ us.length + 1 ∧ no ∉ us ∧ v = .tuple #[.int .i64 (no : Nat), .int .i64 0] ∧ S = [spC s (no :: us) (tk + 1)]) := by
  refine spec_of Tryz.func222 rfl Tryz.results222 Tryz.ntmps222 rfl ?_
  refine t_open sp_open .here fun r hr => ?_
  refine t_tell rfl ?_
  repeat' first | refine wk ?_ | refine wc ?_ ?_ <;> intro h <;> try omega | fail
  refine t_loop (fun mm env S => ∃ no, 1 ≤ no ∧ (∀ j, 1 ≤ j → j < no → j ∈ us) ∧ mm = us.length + 1 - no ∧ env = [(0, .pointer (some ⟨s, 0, none⟩)), (4, .int .i64 (no : Int))] ∧ S = spL s us r) us.length _ _ ⟨1, by omega, fun j h1 h2 => by omega, by omega, rfl, rfl⟩ xlss (Ent.refl _) ?_
  rintro mm env S ⟨no, h1, hj, rfl, rfl, rfl⟩
  have hp := pigeon hj
  refine t_tell (S' := [_, _, _, _]) rfl ?_
  by_cases hin : no ∈ us
  · have hlt : no < us.length + 1 := by
      have := pigeon (us := us) (n := no + 1) (fun j a b => by
        by_cases e : j = no
        · subst e; exact hin
        · exact hj j a (by omega))
      omega
    repeat' first | refine wk ?_ | refine wc ?_ ?_ <;> intro h <;> try omega | refine l_qs (by exact c_lookup (ok := false) rfl rfl xfnd rfl rfl rfl rfl rfl (usM_mem hin)) rfl ?_ | fail
    refine ⟨rfl, us.length + 1 - (no + 1), _, _, by omega, ⟨no + 1, by omega, ?_, rfl, rfl, rfl⟩, xlss, Ent.refl _⟩
    intro j a b
    by_cases e : j = no
    · subst e; exact hin
    · exact hj j a (by omega)
  · repeat' first | refine wk ?_ | refine wc ?_ ?_ <;> intro h <;> try omega | refine l_qs (by exact c_lookup_no (ok := false) rfl rfl (.there .here) rfl rfl rfl rfl rfl rfl (usM_no hin)) rfl ?_ | refine l_qs (by exact c_lookup_no (ok := false) rfl rfl (.there (.there .here)) rfl rfl rfl rfl rfl rfl (fun p hp => by cases hp)) rfl ?_ | fail
    refine c_mapAdd rfl rfl rfl xhol rfl rfl rfl rfl rfl (usM_no hin) ?_
    refine l_tell rfl ?_
    repeat' first | refine wk ?_ | refine wc ?_ ?_ <;> intro h <;> try omega | fail
    refine o_buildSlice rfl rfl rfl rfl rfl rfl rfl rfl rfl rfl rfl rfl fun pb => ?_
    repeat' first | refine wk ?_ | refine wc ?_ ?_ <;> intro h <;> try omega | fail
    refine c_append rfl rfl xhol (own_rds xfnd) rfl rfl rfl rfl rfl (by show (r.tn + 1) * 8 ≤ _; omega) (by omega) rfl fun a3 c3 => ?_
    refine l_tell rfl ?_
    repeat' first | refine wk ?_ | refine wc ?_ ?_ <;> intro h <;> try omega | fail
    refine b_ret [spC s (no :: us) (tk + 1)] rfl ?_ ⟨no, h1, hp, hin, rfl, rfl⟩
    exact Ent.close1 (L := spL s (no :: us) ⟨r.um, r.wm, a3, r.tn + 1, c3, r.ts ++ [[.int .i64 (no : Int)]]⟩) (sp_close _ (by show r.tn + 1 ≤ _; omega)) xpkd
theorem s_spSettle (s : Nat) (us : List Nat) (r : SpR) :
    Spec Tryz.prog 361 [.pointer (some ⟨s, 0, none⟩)] (spL s us r) (fun _ S => S = [spC s us 0]) := by
  refine spec_of Tryz.func361 rfl Tryz.results361 Tryz.ntmps361 rfl ?_
  refine t_tell (S' := [_, _, _, _]) rfl ?_
  repeat' first | refine wk ?_ | refine wc ?_ ?_ <;> intro h <;> try omega | fail
  refine c_clear rfl xhol rfl rfl rfl ?_
  refine l_tell rfl ?_
  repeat' first | refine wk ?_ | refine wc ?_ ?_ <;> intro h <;> try omega | fail
  refine b_end [spC s us 0] rfl ((ent_nil 3 1 _).trans ?_) rfl
  exact Ent.close1 (L := spL s us ⟨r.um, r.wm, none, 0, 0, []⟩) (sp_close _ (Nat.le_refl _)) xpkd
theorem s_spKeep (A : Asn) (s tk : Nat) (us : List Nat) (a : Option Addr) (n c : Nat) (ks : List Nat) (hA : Rds [A] a n 1 (natsV ks)) (hn : ks.length = n) (hk : ∀ k ∈ ks, 1 ≤ k ∧ k < 1048576) (hl : n ≤ 1000000) :
    Spec Tryz.prog 334 [.pointer (some ⟨s, 0, none⟩), .slice a n c] [spC s us tk, A] (fun v S => ∃ us', (∀ k, k ∈ us' ↔ k ∈ ks) ∧ us'.length ≤ n ∧ v = .int .i64 0 ∧ S = [spC s us' 0, A]) := by
  refine spec_of Tryz.func334 rfl Tryz.results334 Tryz.ntmps334 rfl ?_
  refine t_open sp_open .here fun r hr => ?_
  refine t_tell rfl ?_
  repeat' first | refine wk ?_ | refine wc ?_ ?_ <;> intro h <;> try omega | fail
  refine t_loop (fun mm env S => ∃ i, i ≤ n ∧ mm = n - i ∧ env = [(0, .pointer (some ⟨s, 0, none⟩)), (1, .slice a n c), (11, .slice a n c), (12, .int .i64 (n : Int)), (13, .int .i64 (i : Int))] ∧ S = spL s us r ++ [A]) n _ _ ⟨0, by omega, by omega, rfl, rfl⟩ xlss (Ent.refl _) ?_
  rintro mm env S ⟨i, hi, rfl, rfl, rfl⟩
  refine t_tell (S' := [_, _, _, _, _]) rfl ?_
  by_cases hin : i < n
  · have hi2 : i < ks.length := by omega
    obtain ⟨g1, g2⟩ := hk _ (List.getElem_mem hi2)
    refine t_pure (fun h hs => (hA.up (S := [_, _, _, _, A]) xpkd).some' (by omega) h hs) ?_
    rintro ⟨b, off, rfl⟩
    repeat' first | refine wk ?_ | refine wc ?_ ?_ <;> intro h <;> try omega | refine l_qs (by exact q_loadRd (j := i) (f := 0) (r := [.int .i64 (ks[i] : Int)]) (hA.up xpkd) rfl (by omega) rfl rfl (by simp [natsV, List.getElem?_eq_getElem hi2]) rfl) rfl ?_ | fail
    exact ⟨rfl, n - (i + 1), _, _, by omega, ⟨i + 1, by omega, rfl, rfl, rfl⟩, xlss, Ent.refl _⟩
  · repeat' first | refine wk ?_ | refine wc ?_ ?_ <;> intro h <;> try omega | fail
    refine c_clear rfl xhol rfl rfl rfl ?_
    refine l_tell rfl ?_
    repeat' first | refine wk ?_ | refine wc ?_ ?_ <;> intro h <;> try omega | fail
    refine t_loop (fun mm env S => ∃ i us', i ≤ n ∧ mm = n - i ∧ (∀ k, k ∈ us' ↔ k ∈ ks.take i) ∧ us'.length ≤ i ∧ env = [(0, .pointer (some ⟨s, 0, none⟩)), (32, .slice a n c), (33, .int .i64 (n : Int)), (34, .int .i64 (i : Int))] ∧ S = spL s us' r ++ [A]) n _ _ ⟨0, [], by omega, by omega, fun k => by simp, by simp, rfl, rfl⟩ xlss (Ent.refl _) ?_
    rintro mm env S ⟨i, us', hi, rfl, hus, hul, rfl, rfl⟩
    refine t_tell (S' := [_, _, _, _, _]) rfl ?_
    by_cases hin : i < n
    · have hi2 : i < ks.length := by omega
      refine t_pure (fun h hs => (hA.up (S := [_, _, _, _, A]) xpkd).some' (by omega) h hs) ?_
      rintro ⟨b, off, rfl⟩
      have htk : ∀ k, k ∈ ks.take (i + 1) ↔ k = ks[i] ∨ k ∈ ks.take i := fun k => by
        rw [List.take_add_one, List.getElem?_eq_getElem hi2, List.mem_append]
        simp only [Option.toList_some, List.mem_singleton]; exact or_comm
      repeat' first | refine wk ?_ | refine wc ?_ ?_ <;> intro h <;> try omega | refine l_qs (by exact q_loadRd (j := i) (f := 0) (r := [.int .i64 (ks[i] : Int)]) (hA.up xpkd) rfl (by omega) rfl rfl (by simp [natsV, List.getElem?_eq_getElem hi2]) rfl) rfl ?_ | fail
      by_cases hmem : ks[i] ∈ us'
      · obtain ⟨l1, l2, he⟩ := List.append_of_mem hmem
        refine c_mapSet (old := .bool true) (l2 := usM (l1 ++ l2)) rfl rfl rfl xhol rfl rfl rfl rfl rfl (by rw [he]; exact List.perm_middle.map _) ?_
        refine l_tell rfl ?_
        refine l_ent (S' := spL s us' r ++ [A]) ((Ent.pick (Pre := [amap r.um kInt ((.int .i64 (ks[i] : Int), .bool true) :: usM (l1 ++ l2)), cellsAt s 152 [.int .i64 1, .map (some r.um), .map (some r.wm), .slice r.ta r.tn r.tc], amap r.wm kInt [], own r.ta r.tn r.tc 3 1 r.ts, A]) xpkd).trans ((amap_permE (l' := usM us') (by rw [he]; exact (List.perm_middle.map (fun (k : Nat) => (Value.int .i64 (k : Int), Value.bool true))).symm) _).trans (Ent.pick xpkd))) ?_
        repeat' first | refine wk ?_ | refine wc ?_ ?_ <;> intro h <;> try omega | fail
        refine ⟨rfl, n - (i + 1), _, _, by omega, ⟨i + 1, us', by omega, rfl, ?_, by omega, rfl, rfl⟩, xlss, Ent.refl _⟩
        intro k
        rw [htk, hus]
        constructor
        · exact .inr
        · rintro (rfl | h)
          · exact (hus _).1 hmem
          · exact h
      · refine c_mapAdd rfl rfl rfl xhol rfl rfl rfl rfl rfl (usM_no hmem) ?_
        refine l_tell rfl ?_
        repeat' first | refine wk ?_ | refine wc ?_ ?_ <;> intro h <;> try omega | fail
        refine ⟨rfl, n - (i + 1), _, _, by omega, ⟨i + 1, ks[i] :: us', by omega, rfl, ?_, by simp; omega, rfl, rfl⟩, xlss, Ent.refl _⟩
        intro k
        rw [htk, List.mem_cons, hus]
    · have e : i = ks.length := by omega
      subst e
      repeat' first | refine wk ?_ | refine wc ?_ ?_ <;> intro h <;> try omega | fail
      refine c_call (s_spSettle s us' r) rfl xpkd rfl rfl ?_
      rintro v S rfl
      refine l_tell rfl ?_
      repeat' first | refine wk ?_ | refine wc ?_ ?_ <;> intro h <;> try omega | fail
      refine b_ret [spC s us' 0, A] rfl (Ent.pick xpkd) ⟨us', fun k => ?_, by omega, rfl, rfl⟩
      rw [hus, List.take_length]
theorem s_spMark (s tk : Nat) (us : List Nat) :
    Spec Tryz.prog 46 [.pointer (some ⟨s, 0, none⟩)] [spC s us tk] (fun v S => ∃ tn : Nat, v = .int .i64 (tn : Int) ∧ S = [spC s us tk]) := by
  refine spec_of Tryz.func46 rfl Tryz.results46 Tryz.ntmps46 rfl ?_
  refine t_open sp_open .here fun r hr => ?_
  refine t_tell rfl ?_
  repeat' first | refine wk ?_ | refine wc ?_ ?_ <;> intro h <;> try omega | fail
  exact b_ret [spC s us tk] rfl (Ent.close1 (L := spL s us r) (sp_close _ hr) xpkd) ⟨r.tn, rfl, rfl⟩
end Go.Ox
end
section
set_option maxRecDepth 100000
set_option maxHeartbeats 800000
namespace Go.Ox
open Go Go.Proofs
theorem usM_mid (pre post : List Nat) (x : Nat) : (usM (pre ++ x :: post)).Perm ((.int .i64 (x : Int), .bool true) :: usM (pre ++ post)) :=
 (List.perm_middle (a := x) (l₁ := pre) (l₂ := post)).map _
theorem s_spTop (s tk B : Nat) (us : List Nat) (hB : ∀ k ∈ us, k + 1 ≤ B) (h1 : 1 ≤ B) (h2 : B ≤ 1099511627776) :
  Spec Tryz.prog 60 [.pointer (some ⟨s, 0, none⟩)] [spC s us tk] (fun v S => ∃ m : Nat, m ≤ B ∧ v = .int .i64 (m : Int) ∧ S = [spC s us tk]) := by
 refine spec_of Tryz.func60 rfl Tryz.results60 Tryz.ntmps60 rfl ?_
 refine t_open sp_open .here fun r hr => ?_
 refine t_tell rfl ?_
 repeat' first | refine wk ?_ | refine wc ?_ ?_ <;> intro h <;> try omega | fail
 refine c_range rfl xhol rfl rfl rfl fun it => ?_
 repeat' first | refine wk ?_ | refine wc ?_ ?_ <;> intro h <;> try omega | fail
 refine t_loop (fun mm env S => ∃ (li : List Nat) (cur : Option (Value × Value)) (acc : Int), mm = li.length ∧ (∀ x ∈ li, x ∈ us) ∧ 0 ≤ acc ∧ acc ≤ B ∧ env = [(0, .pointer (some ⟨s, 0, none⟩)), (3, .int .i64 acc), (16, .pointer (some ⟨it, 0, none⟩))] ∧ S = [arange it r.um kInt (usM us) (usM li) cur, cellsAt s 152 [.int .i64 1, .map (some r.um), .map (some r.wm), .slice r.ta r.tn r.tc], amap r.wm kInt [], own r.ta r.tn r.tc 3 1 r.ts]) us.length _ _ ⟨us, none, 1, rfl, fun _ h => h, by omega, by omega, rfl, rfl⟩ xlss (Ent.pick xpkd) ?_
 rintro mm env S ⟨li, cur, acc, rfl, hli, ha1, ha2, rfl, rfl⟩
 repeat' first | refine wk ?_ | refine wc ?_ ?_ <;> intro h <;> try omega | fail
 refine c_next rfl .here rfl (fun he => ?_) fun p' l' hp hm => ?_
 ·repeat' first | refine wk ?_ | refine wc ?_ ?_ <;> intro h <;> try omega | fail
  refine c_range rfl (.there (.there .here)) rfl rfl rfl fun it2 => ?_
  repeat' first | refine wk ?_ | refine wc ?_ ?_ <;> intro h <;> try omega | fail
  refine t_loop0 ?_
  repeat' first | refine wk ?_ | refine wc ?_ ?_ <;> intro h <;> try omega | fail
  refine c_next rfl xhol rfl (fun he => ?_) fun p' l' hp hm => ?_
  ·repeat' first | refine wk ?_ | refine wc ?_ ?_ <;> intro h <;> try omega | fail
   refine b_ret [spC s us tk] rfl (Ent.close1 (L := spL s us r) (sp_close r hr) xpkd) ⟨acc.toNat, by omega, ?_, rfl⟩
   rw [Int.toNat_of_nonneg ha1]; rfl
  ·exact absurd hm (by simp)
 ·have hpm : p' ∈ usM li := hp.mem_iff.2 (List.mem_cons_self ..)
  obtain ⟨x, hx, rfl⟩ := List.mem_map.1 hpm
  obtain ⟨l1, l2, rfl⟩ := List.append_of_mem hx
  have hp2 : l'.Perm (usM (l1 ++ l2)) := (List.perm_cons _).1 (hp.symm.trans (usM_mid l1 l2 x))
  have hxB := hB x (hli x hx)
  have hli2 : ∀ y ∈ l1 ++ l2, y ∈ us := fun y hy => hli y (by
   rcases List.mem_append.1 hy with h | h
   ·exact List.mem_append_left _ h
   ·exact List.mem_append_right _ (List.mem_cons_of_mem _ h))
  refine l_ent (S' := [arange it r.um kInt (usM us) (usM (l1 ++ l2)) (some (.int .i64 (x : Int), .bool true)), cellsAt s 152 [.int .i64 1, .map (some r.um), .map (some r.wm), .slice r.ta r.tn r.tc], amap r.wm kInt [], own r.ta r.tn r.tc 3 1 r.ts]) ((Ent.fold (L := [_]) (arange_perm hp2))) ?_
  repeat' first | refine wk ?_ | refine wc ?_ ?_ <;> intro h <;> try omega | refine l_qs (by exact c_entry rfl xfnd) rfl ?_ | fail
  exact ⟨rfl, (l1 ++ l2).length, _, _, by simp, ⟨l1 ++ l2, some (.int .i64 (x : Int), .bool true), max acc ((x : Int) + 1), rfl, hli2, by omega, by omega, rfl, rfl⟩, xlss, Ent.refl _⟩
end Go.Ox
end
