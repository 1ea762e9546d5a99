/- WholeKept, part 19. No condition. -/
import Derived.Test.YtonpakokjgloaaaGreatOx18
set_option linter.all false
section
set_option maxRecDepth 100000
set_option maxHeartbeats 800000
namespace Go.Ox
open Go Go.Proofs
def elsOkP (els : List (List Value)) : Prop := ∀ x ∈ els, pieceOk x
theorem s_settled (d fm room : Nat) (ch lf : Int) (pa : Option Addr) (pn pc : Nat) (els : List (List Value)) (s : ByteArray) (ho : elsOkP els) (hpn : pn ≤ 1000000000000) :
  Spec Tryz.prog 72 [.pointer (some ⟨d, 0, none⟩), .string s] [dkC d fm room ch lf (.slice pa pn pc), own pa pn pc 134 3 els] (fun _ S => ∃ (pa' : Option Addr) (pn' pc' : Nat) (els' : List (List Value)), elsOkP els' ∧ pn' ≤ pn ∧ S = [dkC d fm room ch lf (.slice pa' pn' pc'), own pa' pn' pc' 134 3 els']) := by
 refine spec_of Tryz.func72 rfl Tryz.results72 Tryz.ntmps72 rfl ?_
 refine t_pure (p := els.length = pn) (fun h hs => by obtain ⟨h1, h2, _, _, _, _, k1, k2, _, _, _, ⟨q1, _⟩, _⟩ := hs; exact q1) fun hlen => ?_
 repeat' first | refine wk ?_ | refine wc ?_ ?_ <;> intro h <;> try omega | fail
 refine t_ent (ent_nil 134 3 _) ?_
 refine t_loop (fun mm env S => ∃ (i : Nat) (a : Option Addr) (c : Nat) (ys : List (List Value)), i ≤ pn ∧ mm = pn - i ∧ ys.length ≤ i ∧ elsOkP ys ∧ env = [(0, .pointer (some ⟨d, 0, none⟩)), (1, .string s), (4, .slice a ys.length c), (10, .slice pa pn pc), (11, .int .i64 (pn : Int)), (12, .int .i64 (i : Int))] ∧ S = [own a ys.length c 134 3 ys, dkC d fm room ch lf (.slice pa pn pc), own pa pn pc 134 3 els]) pn _ _ ⟨0, none, 0, [], by omega, by omega, by simp, (fun _ h => by cases h), rfl, rfl⟩ xlss (Ent.refl _) ?_
 rintro mm env S ⟨i, a, c, ys, hi, rfl, hys, hyo, rfl, rfl⟩
 by_cases hin : i < pn
 ·have hin2 : i < els.length := by omega
  obtain ⟨s', k', a', n', c', hx⟩ := ho _ (List.getElem_mem hin2)
  have hget : els[i]? = some [.string s', .int .i64 k', .slice a' n' c'] := by rw [List.getElem?_eq_getElem hin2, hx]
  refine t_pure (p := ∃ b, pa = some ⟨b, 0, none⟩ ∧ pn ≤ pc) (fun h hs => own_some (S := []) (by omega) h (by have := star_drop (star_drop hs); exact this)) ?_
  rintro ⟨b, rfl, hpc⟩
  repeat' first | refine wb fun _ => ?_ | refine l_qp (by (apply q_lenStr; exact rfl; exact rfl; exact rfl)) rfl ?_ | refine d_qp rfl (by (apply q_lenStr; exact rfl; exact rfl; exact rfl)) rfl ?_ | refine d_gqp rfl rfl (by (apply q_lenStr; exact rfl; exact rfl; exact rfl)) rfl ?_ | refine l_qp (by (apply q_neqStr; exact rfl; exact rfl)) rfl ?_ | refine d_qp rfl (by (apply q_neqStr; exact rfl; exact rfl)) rfl ?_ | refine d_gqp rfl rfl (by (apply q_neqStr; exact rfl; exact rfl)) rfl ?_ | refine l_qp (by (apply q_eqlStr; exact rfl; exact rfl)) rfl ?_ | refine d_qp rfl (by (apply q_eqlStr; exact rfl; exact rfl)) rfl ?_ | refine d_gqp rfl rfl (by (apply q_eqlStr; exact rfl; exact rfl)) rfl ?_ | refine wk ?_ | refine wc ?_ ?_ <;> intro h <;> try omega | refine l_qs (by exact q_loadRdA (j := i) (own_rds (a := some ⟨b, 0, none⟩) (n := pn) (c := pc) (els := els) xfnd) rfl rfl rfl rfl rfl hget) rfl ?_ | fail
  refine t_if rfl (fun hb => ?_) (fun hb => ?_)
  ·repeat' first | refine wk ?_ | refine wc ?_ ?_ <;> intro h <;> try omega | fail
   refine o_buildSlice rfl rfl rfl rfl rfl rfl rfl rfl rfl rfl rfl rfl fun pb => ?_
   repeat' first | refine wk ?_ | refine wc ?_ ?_ <;> intro h <;> try omega | fail
   refine c_append rfl rfl xhol (own_rds xfnd) rfl rfl rfl rfl rfl (by show (ys.length + 1) * 48 ≤ _; omega) (by omega) rfl fun a3 c3 => ?_
   refine l_tell rfl ?_
   repeat' first | refine wk ?_ | refine wc ?_ ?_ <;> intro h <;> try omega | fail
   have e : ys.length + 1 = (ys ++ [[Value.string s', Value.int .i64 k', Value.slice a' n' c']]).length := by simp
   rw [e]
   refine ⟨rfl, pn - (i + 1), _, _, by omega, ⟨i + 1, a3, c3, ys ++ [[Value.string s', Value.int .i64 k', Value.slice a' n' c']], by omega, rfl, by simp; omega, ?_, rfl, rfl⟩, xlss, Ent.pick xpkd⟩
   intro x hx'
   rcases List.mem_append.1 hx' with h | h
   ·exact hyo x h
   ·rw [List.mem_singleton.1 h]; exact ⟨_, _, _, _, _, rfl⟩
  ·repeat' first | refine wk ?_ | refine wc ?_ ?_ <;> intro h <;> try omega | fail
   exact ⟨rfl, pn - (i + 1), _, _, by omega, ⟨i + 1, a, c, ys, by omega, rfl, by omega, hyo, rfl, rfl⟩, xlss, Ent.pick xpkd⟩
 ·have e : i = pn := by omega
  subst e
  repeat' first | refine wk ?_ | refine wc ?_ ?_ <;> intro h <;> try omega | fail
  exact b_end [dkC d fm room ch lf (.slice a ys.length c), own a ys.length c 134 3 ys] rfl (Ent.pick xpkd) ⟨a, _, c, ys, hyo, hys, rfl⟩
theorem Rds.pre {S : List Asn} {a : Option Addr} {m z : Nat} {els : List (List Value)} (h : Rds S a m z els) (k : Nat) (hk : k ≤ m) : Rds S a k z (els.take k) := fun x hs => by
 obtain ⟨r1, r2, r3⟩ := h x hs
 refine ⟨by rw [List.length_take]; omega, fun y hy => r2 y (List.mem_of_mem_take hy), ?_⟩
 rcases r3 with r3 | ⟨b, off, c, e, f, ra, rb, rg⟩
 ·exact .inl (by omega)
 ·refine .inr ⟨b, off, c, e, f, ra, rb, fun j v hj => rg j v ?_⟩
  have e1 : els.flatten = (els.take k).flatten ++ (els.drop k).flatten := by rw [← List.flatten_append, List.take_append_drop]
  rw [e1, List.getElem?_append_left (List.getElem?_eq_some_iff.1 hj).1]; exact hj
theorem s_write (A : Asn) (d room fu at_ : Nat) (pre post : List Fl) (f : Fl) (a2 : Option Addr) (m c2 : Nat) (ys : List Nat) (hr : Rds [A] a2 m 1 (vb ys)) (hy : ys.length = m) (hc : m ≤ c2) (hn : isName f.nm) (h1 : at_ ≤ f.now.length) (h2 : 1 ≤ m) (h3 : sumF (pre ++ f :: post) + at_ + m ≤ room) (hroom : room ≤ 1099511627776) :
  Spec Tryz.prog 99 [.pointer (some ⟨d, 0, none⟩), .string f.nm, .int .i64 at_, .slice a2 m c2] [diskC d room (pre ++ f :: post) (fu + m), A] (fun v S => v = .int .i64 0 ∧ S = [diskC d room (pre ++ { f with now := layB f.now at_ ys } :: post) fu, A]) := by
 refine spec_of Tryz.func99 rfl Tryz.results99 Tryz.ntmps99 rfl ?_
 refine t_open dk_open .here fun r hr' => ?_
 refine t_tell rfl ?_
 have hmid := sumF_mid pre post f
 repeat' first | refine wk ?_ | refine wc ?_ ?_ <;> intro h <;> try omega | fail
 refine c_call (s_may d r.fm room r.ch r.lf _ (pre ++ f :: post) f false hn (by simp)) rfl xpkd rfl rfl ?_
 rintro v S ⟨rfl, rfl⟩
 refine l_tell rfl ?_
 refine l_ent (S' := [filesC (pre ++ f :: post), dkC d r.fm room r.ch r.lf (.slice r.pa r.pn r.pc), amap r.fm .string (flM (pre ++ f :: post)), own r.pa r.pn r.pc 134 3 r.els, A]) (Ent.pick xpkd) ?_
 refine l_ent ((ent_file pre post f).frame _) ?_
 refine l_open fil_open .here fun q hq => ?_
 refine l_tell rfl ?_
 repeat' first | refine wk ?_ | refine wc ?_ ?_ <;> intro h <;> try omega | fail
 refine l_ent (S' := [dkC d r.fm room r.ch r.lf (.slice r.pa r.pn r.pc), amap r.fm .string (flM (pre ++ f :: post)), filesC (pre ++ f :: post), own r.pa r.pn r.pc 134 3 r.els, A]) ((Ent.fold (L := filL f.b f.now q) (fil_close hq)).trans (((ent_file' pre post f).frame _).trans (Ent.pick xpkd))) ?_
 refine c_call (s_fits d r.fm room (max (q.n : Int) ((at_ : Int) + (m : Int))) r.ch r.lf _ pre post f (by omega) (by omega) (by omega) hroom) rfl xpkd rfl rfl ?_
 rintro v S ⟨rfl, rfl⟩
 refine l_tell rfl ?_
 repeat' first | refine wk ?_ | refine wc ?_ ?_ <;> intro h <;> try omega | fail
 refine c_call (s_change d r.fm room r.ch r.lf _) rfl xpkd rfl rfl ?_
 rintro v S ⟨ch', lf', rfl, rfl⟩
 refine l_tell rfl ?_
 refine l_ent (S' := [filesC (pre ++ f :: post), dkC d r.fm room ch' lf' (.slice r.pa r.pn r.pc), amap r.fm .string (flM (pre ++ f :: post)), own r.pa r.pn r.pc 134 3 r.els, A]) (Ent.pick xpkd) ?_
 refine l_ent ((ent_file pre post f).frame _) ?_
 refine l_open fil_open .here fun q2 hq2 => ?_
 refine l_tell rfl ?_
 repeat' first | refine wk ?_ | refine wc ?_ ?_ <;> intro h <;> try omega | fail
 refine c_call (s_lay A q2.a a2 q2.n q2.c m c2 at_ f.now ys hr hy hq2 (by omega) h2 (by omega) (by omega)) rfl xpkd rfl rfl ?_
 rintro v S ⟨a', n', c', rfl, hlen, rfl⟩
 refine l_tell rfl ?_
 repeat' first | refine wk ?_ | refine wc ?_ ?_ <;> intro h <;> try omega | fail
 refine t_loop (fun mm env S => ∃ (at2 rm rc : Nat) (aj pa : Option Addr) (zs : List Nat) (pn pc : Nat) (els : List (List Value)), rm = mm ∧ rm ≤ rc ∧ at2 + rm = at_ + m ∧ Rds [A] aj rm 1 (vb zs) ∧ zs.length = rm ∧ pn + rm + fu ≤ 1000000000000 ∧ elsOkP els ∧ env = [(0, .pointer (some ⟨d, 0, none⟩)), (1, .string f.nm), (2, .int .i64 (at2 : Int)), (3, .slice aj rm rc)] ∧ S = [own pa pn pc 134 3 els, dkC d r.fm room ch' lf' (.slice pa pn pc), A, amap r.fm .string (flM (pre ++ { f with now := layB f.now at_ ys } :: post)), filesC (pre ++ { f with now := layB f.now at_ ys } :: post)]) m _ _ ⟨at_, m, c2, a2, r.pa, ys, r.pn, r.pc, r.els, rfl, hc, rfl, hr, hy, by omega, hr'.2, rfl, rfl⟩ xlss ?_ ?_
 ·rw [← flM_now pre post f (layB f.now at_ ys)]
  exact (Ent.pick (Pre := filL f.b (layB f.now at_ ys) ⟨a', n', c', q2.a2, q2.n2, q2.c2, q2.sf, q2.su⟩ ++ [filesC (pre ++ post), own r.pa r.pn r.pc 134 3 r.els, dkC d r.fm room ch' lf' (.slice r.pa r.pn r.pc), A, amap r.fm .string (flM (pre ++ { f with now := layB f.now at_ ys } :: post))]) xpkd).trans ((Ent.fold (L := filL f.b (layB f.now at_ ys) ⟨a', n', c', q2.a2, q2.n2, q2.c2, q2.sf, q2.su⟩) (fil_close hlen)).trans (((ent_file' pre post { f with now := layB f.now at_ ys }).frame _).trans (Ent.pick xpkd)))
 rintro mm env S ⟨at2, rm, rc, aj, pa, zs, pn, pc, els, rfl, hrc, hat, hrz, hzs, hpn, heo, rfl, rfl⟩
 by_cases hj : 0 < rm
 ·have e : min (rm : Int) (64 - (at2 : Int) % 64) = ((min rm (64 - at2 % 64) : Nat) : Int) := by omega
  have hk1 : min rm (64 - at2 % 64) ≤ rm := by omega
  have hk2 : 1 ≤ min rm (64 - at2 % 64) := by omega
  repeat' first | refine wk ?_ | refine wc ?_ ?_ <;> intro h <;> try omega | fail
  rw [e]
  generalize min rm (64 - at2 % 64) = k at hk1 hk2
  refine t_draw (.eval 0 true (.eval 1 true (.eval 2 true (.eval 3 true (.eval 4 false (.eval 5 true (.eval 6 true (.eval 8 true (.eval 9 true (.eval 10 true (.eff 7 [4] (.eff 11 [4] (.eval 12 true (.eff 13 [4] (.eff 14 [] (.eval 15 true (.eval 16 true (.eff 17 [] .fin .stop))) .stop) .stop)) .stop) .stop))))))))))) rfl (by kernel_rfl) ?_
  repeat' first | refine wk ?_ | refine wc ?_ ?_ <;> intro h <;> try omega | fail
  refine o_buildSlice rfl rfl rfl rfl rfl rfl rfl rfl rfl rfl rfl rfl fun pb1 => ?_
  repeat' first | refine wk ?_ | refine wc ?_ ?_ <;> intro h <;> try omega | fail
  refine c_append rfl rfl xhol ((hrz.pre k hk1).up xpkd) rfl rfl rfl rfl rfl (by show (0 + k) * 1 ≤ _; omega) (by omega) rfl fun a5 c5 => ?_
  repeat' first | refine wk ?_ | refine wc ?_ ?_ <;> intro h <;> try omega | fail
  refine o_buildSlice rfl rfl rfl rfl rfl rfl rfl rfl rfl rfl rfl rfl fun pb2 => ?_
  repeat' first | refine wk ?_ | refine wc ?_ ?_ <;> intro h <;> try omega | fail
  refine c_append rfl rfl xhol (own_rds xfnd) rfl rfl rfl rfl rfl (by show (pn + 1) * 48 ≤ _; omega) (by omega) rfl fun a6 c6 => ?_
  repeat' first | refine wk ?_ | refine wc ?_ ?_ <;> intro h <;> try omega | fail
  refine t_draw (.eval 0 true (.eval 1 true (.eval 2 true (.eval 3 true (.eval 4 true (.eval 5 true (.eff 6 [] (.eff 7 [] .fin .stop) .stop))))))) rfl (by kernel_rfl) ?_
  repeat' first | refine wk ?_ | refine wc ?_ ?_ <;> intro h <;> try omega | fail
  have hw := hrz.win rc k (rm - k) hrc (by omega)
  rw [vb_win, List.take_of_length_le (by rw [List.length_drop]; omega)] at hw
  refine ⟨rfl, rm - k, _, _, by omega, ⟨at2 + k, rm - k, rc - k, _, a6, zs.drop k, pn + 1, c6, els ++ [[.string f.nm, .int .i64 (at2 : Int), .slice a5 (0 + k) c5]], rfl, by omega, by omega, hw, by rw [List.length_drop]; omega, by omega, ?_, rfl, rfl⟩, xlss, Ent.pick xpkd⟩
  intro x hx
  rcases List.mem_append.1 hx with h | h
  ·exact heo x h
  ·rw [List.mem_singleton.1 h]; exact ⟨_, _, _, _, _, rfl⟩
 ·have e : rm = 0 := by omega
  subst e
  repeat' first | refine wk ?_ | refine wc ?_ ?_ <;> intro h <;> try omega | fail
  refine b_ret [diskC d room (pre ++ { f with now := layB f.now at_ ys } :: post) fu, A] rfl ((Ent.pick (Pre := [own pa pn pc 134 3 els, dkC d r.fm room ch' lf' (.slice pa pn pc), amap r.fm .string (flM (pre ++ { f with now := layB f.now at_ ys } :: post)), filesC (pre ++ { f with now := layB f.now at_ ys } :: post), A]) xpkd).trans (Ent.close (L := dkL d room (pre ++ { f with now := layB f.now at_ ys } :: post) ⟨r.fm, ch', lf', pa, pn, pc, els⟩) (dk_close ⟨by show pn + fu ≤ _; omega, heo⟩) xpkd)) ⟨rfl, rfl⟩
theorem s_writeNew (A : Asn) (d room fu : Nat) (fs : List Fl) (s : ByteArray) (a2 : Option Addr) (m c2 : Nat) (ys : List Nat) (hr : Rds [A] a2 m 1 (vb ys)) (hy : ys.length = m) (hc : m ≤ c2) (hn : isName s) (hno : ∀ f ∈ fs, f.nm ≠ s) (h2 : 1 ≤ m) (hl : fs.length < 16) (h3 : sumF fs + 0 + m ≤ room) (hroom : room ≤ 1099511627776) :
  Spec Tryz.prog 99 [.pointer (some ⟨d, 0, none⟩), .string s, .int .i64 0, .slice a2 m c2] [diskC d room fs (fu + m), A] (fun v S => ∃ b, v = .int .i64 0 ∧ S = [diskC d room (⟨s, b, ys⟩ :: fs) fu, A]) := by
 refine spec_of Tryz.func99 rfl Tryz.results99 Tryz.ntmps99 rfl ?_
 refine t_open dk_open .here fun r hr' => ?_
 refine t_tell rfl ?_
 repeat' first | refine wk ?_ | refine wc ?_ ?_ <;> intro h <;> try omega | fail
 refine c_call (s_may_noF d r.fm room r.ch r.lf _ fs s hn hno) rfl xpkd rfl rfl ?_
 rintro v S ⟨rfl, rfl⟩
 refine l_tell rfl ?_
 repeat' first | refine wk ?_ | refine wc ?_ ?_ <;> intro h <;> try omega | fail
 refine c_call (s_fits_no d r.fm room (max (0 : Int) ((0 : Int) + (m : Int))) r.ch r.lf _ fs hl (by omega) (by omega) (by omega) hroom) rfl xpkd rfl rfl ?_
 rintro v S ⟨rfl, rfl⟩
 refine l_tell rfl ?_
 repeat' first | refine wk ?_ | refine wc ?_ ?_ <;> intro h <;> try omega | fail
 refine c_call (s_change d r.fm room r.ch r.lf _) rfl xpkd rfl rfl ?_
 rintro v S ⟨ch', lf', rfl, rfl⟩
 refine l_tell rfl ?_
 repeat' first | refine wb fun _ => ?_ | refine wk ?_ | refine wc ?_ ?_ <;> intro h <;> try omega | fail
 rename_i bf
 refine c_mapAdd rfl rfl rfl xhol rfl rfl rfl rfl trivial (flM_no hno) ?_
 refine l_tell rfl ?_
 repeat' first | refine wk ?_ | refine wc ?_ ?_ <;> intro h <;> try omega | fail
 refine l_ent (ent_nil 5 1 _) ?_
 refine c_call (s_lay A none a2 0 0 m c2 0 [] ys hr hy rfl (by omega) h2 (by omega) (by omega)) rfl xpkd rfl rfl ?_
 rintro v S ⟨a', n', c', rfl, hlen, rfl⟩
 refine l_tell rfl ?_
 repeat' first | refine wk ?_ | refine wc ?_ ?_ <;> intro h <;> try omega | fail
 have elay : layB [] 0 ys = ys := by simp [layB]
 rw [elay] at hlen ⊢
 refine t_loop (fun mm env S => ∃ (at2 rm rc : Nat) (aj pa : Option Addr) (zs : List Nat) (pn pc : Nat) (els : List (List Value)), rm = mm ∧ rm ≤ rc ∧ at2 + rm = 0 + m ∧ Rds [A] aj rm 1 (vb zs) ∧ zs.length = rm ∧ pn + rm + fu ≤ 1000000000000 ∧ elsOkP els ∧ env = [(0, .pointer (some ⟨d, 0, none⟩)), (1, .string s), (2, .int .i64 (at2 : Int)), (3, .slice aj rm rc)] ∧ S = [own pa pn pc 134 3 els, dkC d r.fm room ch' lf' (.slice pa pn pc), A, amap r.fm .string (flM (⟨s, bf, ys⟩ :: fs)), filesC (⟨s, bf, ys⟩ :: fs)]) m _ _ ⟨0, m, c2, a2, r.pa, ys, r.pn, r.pc, r.els, rfl, hc, rfl, hr, hy, by omega, hr'.2, rfl, rfl⟩ xlss ?_ ?_
 ·refine Ent.trans (ent_nil 5 1 _) ?_
  exact (Ent.pick (Pre := filL bf ys ⟨a', n', c', none, 0, 0, [], false⟩ ++ [filesC ([] ++ fs), own r.pa r.pn r.pc 134 3 r.els, dkC d r.fm room ch' lf' (.slice r.pa r.pn r.pc), A, amap r.fm .string (flM (⟨s, bf, ys⟩ :: fs))]) xpkd).trans ((Ent.fold (L := filL bf ys ⟨a', n', c', none, 0, 0, [], false⟩) (fil_close hlen)).trans (((ent_file' [] fs ⟨s, bf, ys⟩).frame _).trans (Ent.pick xpkd)))
 rintro mm env S ⟨at2, rm, rc, aj, pa, zs, pn, pc, els, rfl, hrc, hat, hrz, hzs, hpn, heo, rfl, rfl⟩
 by_cases hj : 0 < rm
 ·have e : min (rm : Int) (64 - (at2 : Int) % 64) = ((min rm (64 - at2 % 64) : Nat) : Int) := by omega
  have hk1 : min rm (64 - at2 % 64) ≤ rm := by omega
  have hk2 : 1 ≤ min rm (64 - at2 % 64) := by omega
  repeat' first | refine wk ?_ | refine wc ?_ ?_ <;> intro h <;> try omega | fail
  rw [e]
  generalize min rm (64 - at2 % 64) = k at hk1 hk2
  refine t_draw (.eval 0 true (.eval 1 true (.eval 2 true (.eval 3 true (.eval 4 false (.eval 5 true (.eval 6 true (.eval 8 true (.eval 9 true (.eval 10 true (.eff 7 [4] (.eff 11 [4] (.eval 12 true (.eff 13 [4] (.eff 14 [] (.eval 15 true (.eval 16 true (.eff 17 [] .fin .stop))) .stop) .stop)) .stop) .stop))))))))))) rfl (by kernel_rfl) ?_
  repeat' first | refine wk ?_ | refine wc ?_ ?_ <;> intro h <;> try omega | fail
  refine o_buildSlice rfl rfl rfl rfl rfl rfl rfl rfl rfl rfl rfl rfl fun pb1 => ?_
  repeat' first | refine wk ?_ | refine wc ?_ ?_ <;> intro h <;> try omega | fail
  refine c_append rfl rfl xhol ((hrz.pre k hk1).up xpkd) rfl rfl rfl rfl rfl (by show (0 + k) * 1 ≤ _; omega) (by omega) rfl fun a5 c5 => ?_
  repeat' first | refine wk ?_ | refine wc ?_ ?_ <;> intro h <;> try omega | fail
  refine o_buildSlice rfl rfl rfl rfl rfl rfl rfl rfl rfl rfl rfl rfl fun pb2 => ?_
  repeat' first | refine wk ?_ | refine wc ?_ ?_ <;> intro h <;> try omega | fail
  refine c_append rfl rfl xhol (own_rds xfnd) rfl rfl rfl rfl rfl (by show (pn + 1) * 48 ≤ _; omega) (by omega) rfl fun a6 c6 => ?_
  repeat' first | refine wk ?_ | refine wc ?_ ?_ <;> intro h <;> try omega | fail
  refine t_draw (.eval 0 true (.eval 1 true (.eval 2 true (.eval 3 true (.eval 4 true (.eval 5 true (.eff 6 [] (.eff 7 [] .fin .stop) .stop))))))) rfl (by kernel_rfl) ?_
  repeat' first | refine wk ?_ | refine wc ?_ ?_ <;> intro h <;> try omega | fail
  have hw := hrz.win rc k (rm - k) hrc (by omega)
  rw [vb_win, List.take_of_length_le (by rw [List.length_drop]; omega)] at hw
  refine ⟨rfl, rm - k, _, _, by omega, ⟨at2 + k, rm - k, rc - k, _, a6, zs.drop k, pn + 1, c6, els ++ [[.string s, .int .i64 (at2 : Int), .slice a5 (0 + k) c5]], rfl, by omega, by omega, hw, by rw [List.length_drop]; omega, by omega, ?_, rfl, rfl⟩, xlss, Ent.pick xpkd⟩
  intro x hx
  rcases List.mem_append.1 hx with h | h
  ·exact heo x h
  ·rw [List.mem_singleton.1 h]; exact ⟨_, _, _, _, _, rfl⟩
 ·have e : rm = 0 := by omega
  subst e
  repeat' first | refine wk ?_ | refine wc ?_ ?_ <;> intro h <;> try omega | fail
  refine b_ret [diskC d room (⟨s, bf, ys⟩ :: fs) fu, A] rfl ((Ent.pick (Pre := [own pa pn pc 134 3 els, dkC d r.fm room ch' lf' (.slice pa pn pc), amap r.fm .string (flM (⟨s, bf, ys⟩ :: fs)), filesC (⟨s, bf, ys⟩ :: fs), A]) xpkd).trans (Ent.close (L := dkL d room (⟨s, bf, ys⟩ :: fs) ⟨r.fm, ch', lf', pa, pn, pc, els⟩) (dk_close ⟨by show pn + fu ≤ _; omega, heo⟩) xpkd)) ⟨bf, rfl, rfl⟩
end Go.Ox
end
