/- WholeKept, part 38. No condition. -/
import Derived.Test.YtonpakokjgloaaaGreatOx37
set_option linter.all false
section
set_option maxHeartbeats 800000
namespace Go.Ox
open Go Go.Proofs
structure EK where
 V : Nat
 cc : Nat
 s : Nat
 T : Nat
 d : Nat
 room : Nat
 cap : Nat
 o : Option (List Nat)
 n0 : Nat
def EK.K (k : EK) (tl : Option (List Nat)) : SK := ⟨k.cc, k.d, k.room, k.cap, 64, k.o, tl, none⟩
def EK.ok (k : EK) : Prop := 4 ≤ k.cap ∧ k.cap ≤ 44 ∧ lenO k.o ≤ 300 ∧ k.n0 ≤ 300 ∧ 100000 ≤ k.room ∧ k.room ≤ 1099511627776
structure EV where
 t : Nat
 l : Nat
 x : Nat
 mp : Nat
 pa : Option Addr
 ka : Option Addr
 pc : Nat
 kc : Nat
 cur : Nat
 vs : List Vn
 su : Su
 ks : List Nat
 us : List Nat
 tk : Nat
 pg : Nat → Option (List Nat)
 sl : Nat
 fu : Nat
 tl : Option (List Nat)
def EV.at (e : EV) : Vn := e.vs.getD e.cur ⟨0, 0⟩
def EV.va (k : EK) (e : EV) : Asn := vaC k.V k.cc k.s k.T k.d (.pointer (some ⟨e.t, 0, none⟩)) (.pointer (some ⟨e.l, 0, none⟩)) e.pa e.vs.length e.pc e.cur e.su su0 e.ka e.ks.length e.kc
def EV.R (k : EK) (e : EV) : List Asn := [own e.ka e.ks.length e.kc 3 1 (natsV e.ks), spC k.s e.us e.tk, stC (k.K e.tl) e.pg e.sl e.fu, tlC e.t k.d (lenO e.tl), trC k.T k.cc k.s, lnC e.l k.T e.x e.t, ixC e.x k.d e.mp k.n0, amap e.mp kInt []]
def EV.L (k : EK) (e : EV) : List Asn := e.va k :: own e.pa e.vs.length e.pc 182 2 (vsV e.vs) :: e.R k
def EV.vOk (k : EK) (most i : Nat) (e : EV) : Prop := e.vs.length = min (i + 1) most ∧ e.cur + 1 = e.vs.length ∧ (∀ v ∈ e.vs, v.ok) ∧ (∀ v ∈ e.vs, v.r ≠ 0 → v.r ∈ e.us ∧ ∃ ps, e.pg v.r = some (lfB v.r ps) ∧ LfOk ps) ∧ e.su.g = i + 1 ∧ e.su.o = k.n0 ∧ (∀ j ∈ e.us, j ≤ 20) ∧ e.tk ≤ 1
def EV.inv (k : EK) (m most i : Nat) (e : EV) : Prop := e.vOk k most i ∧ lenO e.tl = m * i ∧ e.us.length ≤ 17 ∧ e.tk = 0 ∧ e.fu = 40000000 * (101 - i) ∧ TrOk m e.pg e.us e.at.r e.at.b
def EV.mid (k : EK) (m most i root bytes : Nat) (e : EV) : Prop := e.vOk k most i ∧ lenO e.tl = m * (i + 1) ∧ e.us.length ≤ 18 ∧ e.fu = 40000000 * (100 - i) + 30000000 + 256 * 64 + 256 * 64 ∧ TrOk m e.pg e.us root bytes ∧ 1 ≤ root
theorem EK.Kok {k : EK} (h : k.ok) {tl : Option (List Nat)} (ht : lenO tl ≤ 7000) : (k.K tl).ok := by
 obtain ⟨h1, h2, h3, h4, h5, h6⟩ := h
 refine ⟨by show 1 ≤ k.cap; omega, by show k.cap ≤ _; omega, by show 1 ≤ 64; omega, by show 64 ≤ _; omega, ?_, h6⟩
 show lenO k.o + lenO tl + lenO none + 768 * 64 ≤ k.room
 show lenO k.o + lenO tl + 0 + 768 * 64 ≤ k.room
 omega
theorem updP_ne {pg : Nat → Option (List Nat)} {no : Nat} {b : Option (List Nat)} {k : Nat} (h : k ≠ no) : updP pg no b k = pg k := by
 unfold updP; simp [h]
theorem updP_eq {pg : Nat → Option (List Nat)} {no : Nat} {b : Option (List Nat)} : updP pg no b no = b := by
 unfold updP; simp
theorem k_replace (A : Asn) (E m most i : Nat) (k : EK) (hk : k.ok) (e : EV) (hi : i < 100) (h1 : 1 ≤ m) (h2 : m ≤ 60) (he : e.inv k m most i) (a2 : Option Addr) (c2 : Nat) (ys : List Nat) (hr : Rds [A] a2 m 1 (vb ys)) (hy : ys.length = m) (hc : m ≤ c2) :
  Spec Tryz.prog 12 [.pointer (some ⟨E, 0, none⟩), .int .i64 0, .int .i64 ((min m e.at.b : Nat) : Int), .slice a2 m c2] (edC E k.V k.d most e.at.r e.at.b false :: A :: e.L k)
   (fun v S => ∃ root bytes e', EV.mid k m most i root bytes e' ∧ v = .int .i64 0 ∧ S = edC E k.V k.d most root bytes true :: A :: EV.L k e') := by
 obtain ⟨hv, htl, hul, htk, hfu, htr⟩ := he
 obtain ⟨v1, v2, v3, v4, v5, v6, v7, v8⟩ := hv
 have hmi : m * i ≤ 60 * 100 := Nat.mul_le_mul h2 (by omega)
 have hKok := EK.Kok hk (tl := e.tl) (by omega)
 have hb : e.at.b ≤ 300 := by
  rcases htr with h | ⟨ps, _, _, _, _, _, h, _⟩
  ·omega
  ·exact h
 have hnl := nlC_le ys
 obtain ⟨ps', p1, p2, p3, p4, p5⟩ := spl_any m k.T k.s e.tk e.us (k.K e.tl) hKok e.pg e.sl (40000000 * (100 - i) + 30000000 + 256 * 64 + 256 * 64 + m) e.at.r e.at.b htr (Pc.mk 1 (lenO e.tl) m (nlC ys)) ⟨.inr rfl, by show lenO e.tl + m ≤ _; omega, h1, by show m ≤ _; omega, by show (-1 : Int) ≤ (nlC ys : Nat); omega, by show ((nlC ys : Nat) : Int) ≤ m; omega, .inl rfl⟩ rfl rfl h1 h2 (fun j hj => by have := v7 j hj; omega) (by show _ ≤ 64; omega) (by omega)
 have hrep := s_ereplace A E k.V most e.at.r e.at.b k.s k.T e.tk e.t (min m e.at.b) m false (k.K e.tl) hKok e.pg e.sl (40000000 * (100 - i) + 30000000 + 256 * 64 + 256 * 64) e.us (.pointer (some ⟨e.l, 0, none⟩)) e.pa e.vs.length e.pc e.cur e.su su0 e.ka e.ks.length e.kc a2 c2 ys hr hy hc h1 (by show lenO e.tl + m ≤ 512 * 64; omega) (by show lenO e.tl + m ≤ _; omega) (by omega) (Nat.min_le_right _ _) (by omega) (by omega) ps' p5
 have hlen : lenO (k.K e.tl).t + m = lenO (some (byO e.tl ++ ys)) := by
  have := lenO_byO e.tl
  show lenO e.tl + m = (byO e.tl ++ ys).length
  rw [List.length_append]; omega
 refine (spec_frame hrep [own e.pa e.vs.length e.pc 182 2 (vsV e.vs), own e.ka e.ks.length e.kc 3 1 (natsV e.ks), lnC e.l k.T e.x e.t, ixC e.x k.d e.mp k.n0, amap e.mp kInt []]).conseq ?_ ?_
 ·refine (Ent.pick (Pre := [stC (k.K e.tl) e.pg e.sl e.fu, edC E k.V k.d most e.at.r e.at.b false, A, e.va k, own e.pa e.vs.length e.pc 182 2 (vsV e.vs), own e.ka e.ks.length e.kc 3 1 (natsV e.ks), spC k.s e.us e.tk, tlC e.t k.d (lenO e.tl), trC k.T k.cc k.s, lnC e.l k.T e.x e.t, ixC e.x k.d e.mp k.n0, amap e.mp kInt []]) xpkd).trans ?_
  refine (ent_stless _ (40000000 * (100 - i) + 30000000 + 256 * 64 + 256 * 64 + m + 256 * 64 + 256 * 64 + 256 * 64 + 256 * 64) (by omega) _).trans ?_
  simp only [List.cons_append, List.nil_append]
  exact Ent.pick xpkd
 ·rintro v S ⟨S0, ⟨no', n1, n2, n3, rfl, rfl⟩, rfl⟩
  refine ⟨_, ?_, no', e.at.b - min m e.at.b + m, { e with us := no' :: e.us, tk := e.tk + 1, pg := updP e.pg no' (some (lfB no' ps')), tl := some (byO e.tl ++ ys), fu := 40000000 * (100 - i) + 30000000 + 256 * 64 + 256 * 64 }, ⟨⟨v1, v2, v3, fun v hv h0 => ?_, v5, v6, fun j hj => ?_, ?_⟩, ?_, ?_, rfl, ?_, n1⟩, rfl, rfl⟩
  ·simp only [List.cons_append, List.nil_append]
   rw [hlen]
   exact Ent.pick xpkd
  ·obtain ⟨q1, ps, q2, q3⟩ := v4 v hv h0
   have hne : v.r ≠ no' := fun h => n3 (h ▸ q1)
   exact ⟨List.mem_cons_of_mem _ q1, ps, by show updP e.pg no' _ v.r = _; rw [updP_ne hne]; exact q2, q3⟩
  ·rcases List.mem_cons.1 hj with rfl | hj
   ·omega
   ·exact v7 j hj
  ·show e.tk + 1 ≤ 1; omega
  ·show lenO (some (byO e.tl ++ ys)) = m * (i + 1)
   rw [← hlen, Nat.mul_add, Nat.mul_one]; show lenO e.tl + m = _; omega
  ·show (no' :: e.us).length ≤ 18; rw [List.length_cons]; omega
  ·exact .inr ⟨ps', n1, List.mem_cons_self .., updP_eq, p1, p2.symm, by omega, by rw [← p2]; exact p4⟩
end Go.Ox
end
section
set_option maxHeartbeats 1600000
namespace Go.Ox
open Go Go.Proofs
theorem k_commit (A : Asn) (E m most i root bytes : Nat) (k : EK) (hk : k.ok) (e : EV) (hi : i < 100) (h2 : m ≤ 60) (hm1 : 1 ≤ most) (hm2 : most ≤ 16) (he : e.mid k m most i root bytes) :
  Spec Tryz.prog 14 [.pointer (some ⟨E, 0, none⟩)] (edC E k.V k.d most root bytes true :: A :: e.L k)
   (fun v S => ∃ e', EV.inv k m most (i + 1) e' ∧ v = .int .i64 0 ∧ S = edC E k.V k.d most e'.at.r e'.at.b false :: A :: EV.L k e') := by
 obtain ⟨hv, htl, hul, hfu, htr, hr1⟩ := he
 obtain ⟨v1, v2, v3, v4, v5, v6, v7, v8⟩ := hv
 have hk' := hk
 obtain ⟨k1, k2, k3, k4, k5, k6⟩ := hk
 have hmi : m * (i + 1) ≤ 60 * 100 := Nat.mul_le_mul h2 (by omega)
 have hKok := EK.Kok hk' (tl := e.tl) (by omega)
 obtain ⟨ps, r1, ru, hp, hps, hbs, hb, htree⟩ : ∃ ps, 1 ≤ root ∧ root ∈ e.us ∧ e.pg root = some (lfB root ps) ∧ LfOk ps ∧ bytes = sumN ps ∧ bytes ≤ 300 ∧ (bytes ≤ m ∨ ∃ o x, ps = o ++ [x] ∧ x.s = 0 ∧ sumN o ≤ m) := by
  rcases htr with h | h
  ·omega
  ·exact h
 subst hbs
 have hcost : 256 * (k.K e.tl).n * (k.K e.tl).cap ≤ 10000000 := by
  show 256 * 64 * k.cap ≤ _
  omega
 have hcm := s_ecommit E k.V k.T k.s e.tk e.t e.l root (sumN ps) most (k.K e.tl) hKok e.pg e.sl (40000000 * (100 - i)) e.us e.vs ps e.pa e.pc e.cur e.su su0 e.ka e.ks.length e.kc hp hps r1 ru hm1 hm2 (by omega) (by omega) v3 v4 (by omega) (by omega) (by show lenO e.tl ≤ _; omega) (by show _ ≤ 64; omega) (by omega) (fun j hj => by have := v7 j hj; show _ ≤ 64; omega) (by omega) hcost (by show 256 * 64 * 16 ≤ _; decide)
 refine (spec_frame hcm [A, lnC e.l k.T e.x e.t, ixC e.x k.d e.mp k.n0, amap e.mp kInt []]).conseq ?_ ?_
 ·rw [EV.L, EV.R, hfu]
  simp only [List.cons_append, List.nil_append]
  exact Ent.pick xpkd
 ·rintro v S ⟨S0, ⟨no, b, us', ks, pa', pc', ka', kc', n1, n2, n3, g1, g2, g3, g4, rfl, rfl⟩, rfl⟩
  have hlen : ((e.vs.take (e.cur + 1) ++ [(Vn.mk root (sumN ps))]).drop (e.cur + 2 - most)).length = e.cur + 2 - (e.cur + 2 - most) := by simp; omega
  have hmem : ∀ v ∈ (e.vs.take (e.cur + 1) ++ [(Vn.mk root (sumN ps))]).drop (e.cur + 2 - most), v ∈ e.vs ∨ v = (Vn.mk root (sumN ps)) := fun v hvm => by
   rcases List.mem_append.1 (List.mem_of_mem_drop hvm) with h | h
   ·exact .inl (List.mem_of_mem_take h)
   ·exact .inr (List.mem_singleton.1 h)
  have hlast := fun h => last_drop (e.vs.take (e.cur + 1)) (Vn.mk root (sumN ps)) (e.cur + 2 - most) (e.cur + 2 - (e.cur + 2 - most) - 1) (by simp; omega) (by simp; omega) h
  have hn'3 : e.cur + 2 - (e.cur + 2 - most) = min (i + 1 + 1) most := by clear htree htr; omega
  generalize hvs' : (e.vs.take (e.cur + 1) ++ [(Vn.mk root (sumN ps))]).drop (e.cur + 2 - most) = vs' at *
  generalize hn' : e.cur + 2 - (e.cur + 2 - most) = n' at *
  have hn'1 : 1 ≤ n' := by omega
  have hn'2 : n' ≤ 16 := by omega
  subst hlen
  have hps1 : 1 ≤ sumN ps := by
   match ps, hps with
   | p :: r, h => have := h.2.2.1 p (List.mem_cons_self ..); simp only [sumN, List.map_cons, List.sum_cons]; have := this.2.2.1; omega
   | [], h => exact absurd h.1 (by decide)
  have hr20 := v7 root ru
  have hold : ∀ v ∈ vs', v.r ≠ 0 → v.r ∈ e.us ∧ ∃ ps, e.pg v.r = some (lfB v.r ps) ∧ LfOk ps := fun v hvm h0 => by
   rcases hmem v hvm with h | rfl
   ·exact v4 v h h0
   ·exact ⟨ru, ps, hp, hps⟩
  have hpg : ∀ j, j ∈ ks → j ∈ e.us → rpg (updP e.pg no (some b)) (no :: ks) j = e.pg j := fun j hj hu => by
   unfold rpg
   rw [if_pos (List.mem_cons_of_mem _ hj), updP_ne (k := j) (no := no) (fun h => n3 (by rw [← h]; exact hu))]
  have hat : vs'.getD (vs'.length - 1) ⟨0, 0⟩ = Vn.mk root (sumN ps) := by
   rw [List.getD_eq_getElem?_getD, List.getElem?_eq_getElem (by omega), hlast (by omega)]; rfl
  have hlm : Vn.mk root (sumN ps) ∈ vs' := by
   rw [← hlast (by omega)]; exact List.getElem_mem _
  have hrk : root ∈ ks := (g1 root).2 ⟨by omega, _, hlm, rfl⟩
  obtain ⟨e', he'⟩ : ∃ e' : EV, e' = { e with pa := pa', pc := pc', cur := vs'.length - 1, vs := vs', su := ⟨e.su.g + 1, no, vs'.length - 1, lenO e.tl, e.su.o⟩, ka := ka', ks := ks, kc := kc', us := us', tk := 0, pg := rpg (updP e.pg no (some b)) (no :: ks), sl := 256 * (no + 1), fu := 40000000 * (100 - i) } := ⟨_, rfl⟩
  refine ⟨edC E k.V k.d most root (sumN ps) false :: A :: EV.L k e', ?_, e', ?_, rfl, ?_⟩
  ·subst he'
   simp only [List.cons_append, List.nil_append]
   exact Ent.pick xpkd
  ·subst he'
   refine ⟨⟨hn'3, ?_, fun v hv => ?_, fun v hv h0 => ?_, ?_, v6, fun j hj => ?_, Nat.zero_le _⟩, htl, ?_, rfl, ?_, ?_⟩
   ·show vs'.length - 1 + 1 = vs'.length; omega
   ·rcases hmem v hv with h | rfl
    ·exact v3 v h
    ·exact ⟨by show root < _; omega, hps.2.2.2, by show root = 0 ↔ sumN ps = 0; omega⟩
   ·obtain ⟨q1, ps2, q2, q3⟩ := hold v hv h0
    have hk2 : v.r ∈ ks := (g1 v.r).2 ⟨h0, v, hv, rfl⟩
    exact ⟨(g3 v.r).2 (List.mem_cons_of_mem _ hk2), ps2, by show rpg _ _ v.r = _; rw [hpg v.r hk2 q1]; exact q2, q3⟩
   ·show e.su.g + 1 = i + 1 + 1; rw [v5]
   ·rcases List.mem_cons.1 ((g3 j).1 hj) with rfl | hj
    ·omega
    ·obtain ⟨h0, v, hv, rfl⟩ := (g1 j).1 hj
     exact v7 _ (hold v hv h0).1
   ·show us'.length ≤ 17; omega
   ·show 40000000 * (100 - i) = 40000000 * (101 - (i + 1)); congr 1; clear htree htr; omega
   ·show TrOk m _ us' (vs'.getD (vs'.length - 1) ⟨0, 0⟩).r (vs'.getD (vs'.length - 1) ⟨0, 0⟩).b
    rw [hat]
    exact .inr ⟨ps, r1, (g3 root).2 (List.mem_cons_of_mem _ hrk), by show rpg _ _ root = _; rw [hpg root hrk ru]; exact hp, hps, rfl, hb, htree⟩
  ·have hat' : e'.at = Vn.mk root (sumN ps) := by subst he'; exact hat
   rw [hat']
end Go.Ox
end
section
set_option maxRecDepth 100000
set_option maxHeartbeats 1600000
namespace Go.Ox
open Go Go.Proofs
def EV.q (k : EK) (e : EV) : VO := ⟨.pointer (some ⟨e.t, 0, none⟩), .pointer (some ⟨e.l, 0, none⟩), e.pa, e.pc, e.cur, e.vs, e.su, su0, e.ka, e.ks.length, e.kc, e.R k⟩
theorem k_lay (m most cap room n : Nat) (xs : List Nat) (hl : xs.length = n) (hn : n ≤ 300) (h1 : 4 ≤ cap) (h2 : cap ≤ 44) (hr1 : 100000 ≤ room) (hr2 : room ≤ 1099511627776) (hm : 1 ≤ most) (d V cc s T : Nat) :
  Spec Tryz.prog 191 [.pointer (some ⟨V, 0, none⟩)] [vaC V cc s T d (.pointer none) (.pointer none) none 0 0 0 su0 su0 none 0 0, spC s [] 0, stC ⟨cc, d, room, cap, 64, oOf n xs, none, none⟩ (fun _ => none) 0 1000000000000, trC T cc s]
   (fun v S => v = .int .i64 0 ∧ ∃ q : VO, q.ok ∧ (∃ e : EV, EV.inv ⟨V, cc, s, T, d, room, cap, oOf n xs, n⟩ m most 0 e ∧ q = EV.q ⟨V, cc, s, T, d, room, cap, oOf n xs, n⟩ e) ∧ S = q.L V cc s T d) := by
 obtain ⟨k, hk⟩ : ∃ k : EK, k = ⟨V, cc, s, T, d, room, cap, oOf n xs, n⟩ := ⟨_, rfl⟩
 have hlo : lenO (oOf n xs) = n := by
  unfold oOf; split
  ·subst n; rename_i h; rw [h]; rfl
  ·exact hl
 have hkok : k.ok := by subst hk; exact ⟨h1, h2, by show lenO (oOf n xs) ≤ 300; omega, hn, hr1, hr2⟩
 have hKok := EK.Kok hkok (tl := none) (Nat.zero_le _)
 have hcost : 256 * (k.K none).n * (k.K none).cap ≤ 10000000 := by
  subst hk; show 256 * 64 * cap ≤ _; omega
 by_cases h0 : n = 0
 ·have ho : oOf n xs = none := by unfold oOf; rw [if_pos h0]
  have h := s_vlay0 V T s (k.K none) hKok rfl (by subst hk; exact ho) (fun _ => none) 0 (40000000 * 101) (by show 2 ≤ 64; decide) hcost
  subst hk
  refine h.conseq ?_ ?_
  ·refine (Ent.pick (Pre := [stC (EK.K ⟨V, cc, s, T, d, room, cap, oOf n xs, n⟩ none) (fun _ => none) 0 1000000000000, vaC V cc s T d (.pointer none) (.pointer none) none 0 0 0 su0 su0 none 0 0, spC s [] 0, trC T cc s]) xpkd).trans ?_
   refine (ent_stless 1000000000000 (40000000 * 101 + 64 + 256 * 64 * 1 + 10000000 + 256 * 64) (by decide) _).trans ?_
   exact Ent.pick xpkd
  ·rintro v S ⟨t, l, x, mp, no, b, us', ks, pa', pc', ka', kc', n1, n2, g1, g2, g3, g4, rfl, rfl⟩
   have hks : ks = [] := by
    match ks, g1 with
    | [], _ => rfl
    | j :: r, g => obtain ⟨q1, v, q2, q3⟩ := (g j).1 (List.mem_cons_self ..); rw [List.mem_singleton.1 q2] at q3; exact absurd q3.symm q1
   obtain ⟨e, he⟩ : ∃ e : EV, e = ⟨t, l, x, mp, pa', ka', pc', kc', 0, [Vn.mk 0 0], ⟨1, no, 0, 0, 0⟩, ks, us', 0, rpg (updP (fun _ => none) no (some b)) (no :: ks), 256 * (no + 1), 40000000 * 101, none⟩ := ⟨_, rfl⟩
   refine ⟨(EV.q ⟨V, cc, s, T, d, room, cap, oOf n xs, n⟩ e).L V cc s T d, ?_, rfl, EV.q ⟨V, cc, s, T, d, room, cap, oOf n xs, n⟩ e, ?_, ⟨e, ?_, rfl⟩, rfl⟩
   ·subst he
    subst h0
    exact Ent.pick xpkd
   ·subst he
    exact ⟨by show 0 < 1; decide, by show 1 ≤ 16; decide, fun v hv => by rw [List.mem_singleton.1 hv]; exact ⟨by decide, by decide, by decide⟩⟩
   ·subst he
    refine ⟨⟨by show 1 = min (0 + 1) most; omega, rfl, fun v hv => by rw [List.mem_singleton.1 hv]; exact ⟨by decide, by decide, by decide⟩, fun v hv h => by rw [List.mem_singleton.1 hv] at h; exact absurd rfl h, rfl, h0.symm, fun j hj => ?_, Nat.zero_le _⟩, rfl, by show us'.length ≤ 17; omega, rfl, rfl, .inl ⟨rfl, rfl⟩⟩
    have := (g3 j).1 hj
    rw [hks] at this
    rw [List.mem_singleton.1 this]; omega
 ·have ho : oOf n xs = some xs := by unfold oOf; rw [if_neg h0]
  have h := s_vlay1 V T s (k.K none) hKok rfl n (by subst hk; exact hlo) (by omega) (by omega) (fun _ => none) 0 (40000000 * 101) (by show 3 ≤ 64; decide) hcost
  subst hk
  refine h.conseq ?_ ?_
  ·refine (Ent.pick (Pre := [stC (EK.K ⟨V, cc, s, T, d, room, cap, oOf n xs, n⟩ none) (fun _ => none) 0 1000000000000, vaC V cc s T d (.pointer none) (.pointer none) none 0 0 0 su0 su0 none 0 0, spC s [] 0, trC T cc s]) xpkd).trans ?_
   refine (ent_stless 1000000000000 (40000000 * 101 + 64 + 256 * 64 * 1 + 10000000 + 256 * 64 + 256 * 64) (by decide) _).trans ?_
   exact Ent.pick xpkd
  ·rintro v S ⟨t, l, x, mp, no, no1, b, us', ks, pa', pc', ka', kc', m1, m2, n1, n2, n3, g1, g2, g3, g4, rfl, rfl⟩
   have hno1 : no1 ∈ ks := (g1 no1).2 ⟨by omega, _, List.mem_singleton_self _, rfl⟩
   have hpo : (Pc.mk 0 0 n (-1)).ok := ⟨.inl rfl, by show 0 + n ≤ _; omega, by show 1 ≤ n; omega, by show n ≤ _; omega, by show (-1 : Int) ≤ -1; omega, by show (-1 : Int) ≤ n; omega, .inr rfl⟩
   have hpg : rpg (updP (updP (fun _ => none) no1 (some (lfB no1 [Pc.mk 0 0 n (-1)]))) no (some b)) (no :: ks) no1 = some (lfB no1 [Pc.mk 0 0 n (-1)]) := by
    unfold rpg
    rw [if_pos (List.mem_cons_of_mem _ hno1), updP_ne (fun h => n3 h.symm), updP_eq]
   obtain ⟨e, he⟩ : ∃ e : EV, e = ⟨t, l, x, mp, pa', ka', pc', kc', 0, [Vn.mk no1 n], ⟨1, no, 0, 0, n⟩, ks, us', 0, rpg (updP (updP (fun _ => none) no1 (some (lfB no1 [Pc.mk 0 0 n (-1)]))) no (some b)) (no :: ks), 256 * (no + 1), 40000000 * 101, none⟩ := ⟨_, rfl⟩
   have hvn : ∀ v ∈ [Vn.mk no1 n], v.ok := fun v hv => by rw [List.mem_singleton.1 hv]; exact ⟨by show no1 < _; omega, by show n ≤ _; omega, by show no1 = 0 ↔ n = 0; omega⟩
   refine ⟨(EV.q ⟨V, cc, s, T, d, room, cap, oOf n xs, n⟩ e).L V cc s T d, ?_, rfl, EV.q ⟨V, cc, s, T, d, room, cap, oOf n xs, n⟩ e, ?_, ⟨e, ?_, rfl⟩, rfl⟩
   ·subst he
    exact Ent.pick xpkd
   ·subst he
    exact ⟨by show 0 < 1; decide, by show 1 ≤ 16; decide, hvn⟩
   ·subst he
    refine ⟨⟨by show 1 = min (0 + 1) most; omega, rfl, hvn, fun v hv h => ?_, rfl, rfl, fun j hj => ?_, Nat.zero_le _⟩, rfl, by show us'.length ≤ 17; omega, rfl, rfl, ?_⟩
    ·rw [List.mem_singleton.1 hv]
     exact ⟨(g3 no1).2 (List.mem_cons_of_mem _ hno1), _, hpg, lf1 hpo⟩
    ·rcases List.mem_cons.1 ((g3 j).1 hj) with rfl | hj
     ·omega
     ·obtain ⟨q1, v, q2, rfl⟩ := (g1 j).1 hj
      rw [List.mem_singleton.1 q2]; show no1 ≤ 20; omega
    ·exact .inr ⟨[Pc.mk 0 0 n (-1)], m1, (g3 no1).2 (List.mem_cons_of_mem _ hno1), hpg, lf1 hpo, by rw [sumN_one]; rfl, hn, .inr ⟨[], _, rfl, rfl, Nat.zero_le _⟩⟩
end Go.Ox
end
section
set_option maxHeartbeats 800000
namespace Go.Ox
open Go Go.Proofs
theorem pk_in (L : List Asn) : Ent [pk L] L := by have := ent_unpk L []; rwa [List.append_nil] at this
theorem pk_out (L : List Asn) : Ent L [pk L] := by have := ent_pk L []; rwa [List.append_nil] at this
theorem kp_replace (A : Asn) (E m most i : Nat) (k : EK) (hk : k.ok) (e : EV) (hi : i < 100) (h1 : 1 ≤ m) (h2 : m ≤ 60) (he : e.inv k m most i) (a2 : Option Addr) (c2 : Nat) (ys : List Nat) (hr : Rds [A] a2 m 1 (vb ys)) (hy : ys.length = m) (hc : m ≤ c2) :
  Spec Tryz.prog 12 [.pointer (some ⟨E, 0, none⟩), .int .i64 0, .int .i64 ((min m e.at.b : Nat) : Int), .slice a2 m c2] [edC E k.V k.d most e.at.r e.at.b false, A, pk (e.L k)]
   (fun v S => ∃ root bytes e', EV.mid k m most i root bytes e' ∧ v = .int .i64 0 ∧ S = [edC E k.V k.d most root bytes true, A, pk (EV.L k e')]) := by
 refine (k_replace A E m most i k hk e hi h1 h2 he a2 c2 ys hr hy hc).conseq ((pk_in _).cons _ |>.cons _) ?_
 rintro v S ⟨root, bytes, e', h, rfl, rfl⟩
 exact ⟨_, (pk_out _).cons _ |>.cons _, root, bytes, e', h, rfl, rfl⟩
theorem kp_commit (A : Asn) (E m most i root bytes : Nat) (k : EK) (hk : k.ok) (e : EV) (hi : i < 100) (h2 : m ≤ 60) (hm1 : 1 ≤ most) (hm2 : most ≤ 16) (he : e.mid k m most i root bytes) :
  Spec Tryz.prog 14 [.pointer (some ⟨E, 0, none⟩)] [edC E k.V k.d most root bytes true, A, pk (e.L k)]
   (fun v S => ∃ e', EV.inv k m most (i + 1) e' ∧ v = .int .i64 0 ∧ S = [edC E k.V k.d most e'.at.r e'.at.b false, A, pk (EV.L k e')]) := by
 refine (k_commit A E m most i root bytes k hk e hi h2 hm1 hm2 he).conseq ((pk_in _).cons _ |>.cons _) ?_
 rintro v S ⟨e', h, rfl, rfl⟩
 exact ⟨_, (pk_out _).cons _ |>.cons _, e', h, rfl, rfl⟩
theorem kp_vers (E most root bytes : Nat) (dt : Bool) (k : EK) (e : EV) (hl : e.vs.length ≤ 16) :
  Spec Tryz.prog 15 [.pointer (some ⟨E, 0, none⟩)] [edC E k.V k.d most root bytes dt, pk (e.L k)]
   (fun v S => v = .tuple #[.int .i64 (e.vs.length : Int), .int .i64 (e.cur : Int)] ∧ S = [edC E k.V k.d most root bytes dt, pk (e.L k)]) := by
 refine (spec_frame (s_evers E k.V k.d most root bytes k.cc k.s k.T k.d dt (.pointer (some ⟨e.t, 0, none⟩)) (.pointer (some ⟨e.l, 0, none⟩)) e.pa e.pc e.cur e.vs e.su su0 e.ka e.ks.length e.kc (by omega)) (e.R k)).conseq ((pk_in _).cons _) ?_
 rintro v S ⟨S0, ⟨rfl, rfl⟩, rfl⟩
 exact ⟨_, (pk_out (e.L k)).cons _, rfl, rfl⟩
theorem kp_stat (E most root bytes : Nat) (dt : Bool) (k : EK) (e : EV) (hu : e.us.length ≤ 1000000) (hb : ∀ j ∈ e.us, j ≤ 20) :
  Spec Tryz.prog 17 [.pointer (some ⟨E, 0, none⟩)] [edC E k.V k.d most root bytes dt, pk (e.L k)]
   (fun v S => ∃ (z1 z3 z4 : Nat) (z2 z5 z6 : Int), z4 ≤ 64 ∧ v = .agg #[.int .i64 (z1 : Int), .int .i64 z2, .int .i64 (z3 : Int), .int .i64 (z4 : Int), .int .i64 z5, .int .i64 z6] ∧ S = [edC E k.V k.d most root bytes dt, pk (e.L k)]) := by
 refine (spec_frame (s_estat E k.V most root bytes k.s k.T e.tk e.t dt (k.K e.tl) e.pg e.sl e.fu 64 e.us (.pointer (some ⟨e.l, 0, none⟩)) e.pa e.vs.length e.pc e.cur e.su su0 e.ka e.ks.length e.kc hu (fun j hj => by have := hb j hj; omega) (by decide) (by decide)) [own e.pa e.vs.length e.pc 182 2 (vsV e.vs), own e.ka e.ks.length e.kc 3 1 (natsV e.ks), trC k.T k.cc k.s, lnC e.l k.T e.x e.t, ixC e.x k.d e.mp k.n0, amap e.mp kInt []]).conseq (((pk_in _).cons _).trans ?_) ?_
 ·rw [EV.L, EV.R]
  simp only [List.cons_append, List.nil_append]
  exact Ent.pick xpkd
 ·rintro v S ⟨S0, ⟨z1, z3, z4, z2, h4, rfl, rfl⟩, rfl⟩
  refine ⟨_, Ent.trans ?_ ((pk_out (e.L k)).cons _), z1, z3, z4, z2, _, _, h4, rfl, rfl⟩
  rw [EV.L, EV.R]
  simp only [List.cons_append, List.nil_append]
  exact Ent.pick xpkd
end Go.Ox
end
section
namespace Go.Ox
open Go Go.Proofs
theorem q_minE {P : Program} {env : KEnv} {x y : Operand} {k : IntKind} {p q r : Int} {t : TypeId} {tys : Array TypeId} (h : min p q = r) (hx : ev env x = some (.int k p)) (hy : ev env y = some (.int k q)) : QP P env (.call ⟨.builtin .min, #[x, y], tys⟩) t (.int k r) := h ▸ q_min hx hy
end Go.Ox
end
