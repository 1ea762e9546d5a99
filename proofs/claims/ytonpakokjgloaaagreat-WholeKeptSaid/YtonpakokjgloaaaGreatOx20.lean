/- WholeKept, part 20. No condition. -/
import Derived.Test.YtonpakokjgloaaaGreatOx19
set_option linter.all false
section
set_option maxRecDepth 100000
set_option maxHeartbeats 800000
namespace Go.Ox
open Go Go.Proofs
theorem s_size_no (d room fu : Nat) (fs : List Fl) (s : ByteArray) (hn : isName s) (hno : ∀ f ∈ fs, f.nm ≠ s) :
  Spec Tryz.prog 69 [.pointer (some ⟨d, 0, none⟩), .string s] [diskC d room fs fu] (fun v S => v = .int .i64 (-1) ∧ S = [diskC d room fs fu]) := by
 refine spec_of Tryz.func69 rfl Tryz.results69 Tryz.ntmps69 rfl ?_
 refine t_open dk_open .here fun r hr => ?_
 refine t_tell rfl ?_
 repeat' first | refine wk ?_ | refine wc ?_ ?_ <;> intro h <;> try omega | fail
 refine c_call (s_may_noT d r.fm room r.ch r.lf _ fs s hn hno) rfl xpkd rfl rfl ?_
 rintro v S ⟨rfl, rfl⟩
 refine l_tell rfl ?_
 repeat' first | refine wk ?_ | refine wc ?_ ?_ <;> intro h <;> try omega | fail
 exact b_ret [diskC d room fs fu] rfl (Ent.close (L := dkL d room fs r) (dk_close hr) xpkd) ⟨rfl, rfl⟩
theorem s_read_no (d room fu : Nat) (fs : List Fl) (s : ByteArray) (x y : Value) (hn : isName s) (hno : ∀ f ∈ fs, f.nm ≠ s) :
  Spec Tryz.prog 68 [.pointer (some ⟨d, 0, none⟩), .string s, x, y] [diskC d room fs fu] (fun v S => v = .tuple #[.slice none 0 0, .int .i64 6] ∧ S = [diskC d room fs fu]) := by
 refine spec_of Tryz.func68 rfl Tryz.results68 Tryz.ntmps68 rfl ?_
 refine t_open dk_open .here fun r hr => ?_
 refine t_tell rfl ?_
 repeat' first | refine wk ?_ | refine wc ?_ ?_ <;> intro h <;> try omega | fail
 refine c_call (s_may_noT d r.fm room r.ch r.lf _ fs s hn hno) rfl xpkd rfl rfl ?_
 rintro v S ⟨rfl, rfl⟩
 refine l_tell rfl ?_
 repeat' first | refine wk ?_ | refine wc ?_ ?_ <;> intro h <;> try omega | fail
 exact b_ret [diskC d room fs fu] rfl (Ent.close (L := dkL d room fs r) (dk_close hr) xpkd) ⟨rfl, rfl⟩
theorem s_dsync_no (d room fu : Nat) (fs : List Fl) (s : ByteArray) (hn : isName s) (hno : ∀ f ∈ fs, f.nm ≠ s) :
  Spec Tryz.prog 173 [.pointer (some ⟨d, 0, none⟩), .string s] [diskC d room fs fu] (fun v S => v = .int .i64 6 ∧ S = [diskC d room fs fu]) := by
 refine spec_of Tryz.func173 rfl Tryz.results173 Tryz.ntmps173 rfl ?_
 refine t_open dk_open .here fun r hr => ?_
 refine t_tell rfl ?_
 repeat' first | refine wk ?_ | refine wc ?_ ?_ <;> intro h <;> try omega | fail
 refine c_call (s_may_noT d r.fm room r.ch r.lf _ fs s hn hno) rfl xpkd rfl rfl ?_
 rintro v S ⟨rfl, rfl⟩
 refine l_tell rfl ?_
 repeat' first | refine wk ?_ | refine wc ?_ ?_ <;> intro h <;> try omega | fail
 exact b_ret [diskC d room fs fu] rfl (Ent.close (L := dkL d room fs r) (dk_close hr) xpkd) ⟨rfl, rfl⟩
theorem own_take {a : Option Addr} {n c e z : Nat} {els : List (List Value)} (k : Nat) (hk : k ≤ n) : ∀ h, star [own a n c e z els] h → own a k c e z (els.take k) h := fun h hs => by
 obtain ⟨h1, h2, d, s1, s2, ⟨q1, q2, q3, q4, q5⟩, r⟩ := hs
 refine ⟨by rw [List.length_take]; omega, fun x hx => q2 x (List.mem_of_mem_take hx), by omega, q4, ?_⟩
 rcases q5 with q5 | ⟨b, sp, qa, ql, qb⟩
 ·exact .inl q5
 ·have e1 : els.flatten ++ sp = (els.take k).flatten ++ ((els.drop k).flatten ++ sp) := by rw [← List.append_assoc, ← List.flatten_append, List.take_append_drop]
  exact .inr ⟨b, (els.drop k).flatten ++ sp, qa, by rw [← e1]; exact ql, by rw [← e1]; exact s1 _ _ qb⟩
theorem s_dcut (d room fu k : Nat) (pre post : List Fl) (f : Fl) (hn : isName f.nm) (hk : k ≤ f.now.length) :
  Spec Tryz.prog 177 [.pointer (some ⟨d, 0, none⟩), .string f.nm, .int .i64 k] [diskC d room (pre ++ f :: post) (fu + 1)] (fun v S => v = .int .i64 0 ∧ S = [diskC d room (pre ++ { f with now := f.now.take k } :: post) fu]) := by
 refine spec_of Tryz.func177 rfl Tryz.results177 Tryz.ntmps177 rfl ?_
 refine t_open dk_open .here fun r hr' => ?_
 refine t_tell rfl ?_
 repeat' first | refine wk ?_ | refine wc ?_ ?_ <;> intro h <;> try omega | fail
 refine c_call (s_may d r.fm room r.ch r.lf _ (pre ++ f :: post) f true hn (by simp)) rfl xpkd rfl rfl ?_
 rintro v S ⟨rfl, rfl⟩
 refine l_tell rfl ?_
 refine l_ent (S' := [filesC (pre ++ f :: post), dkC d r.fm room r.ch r.lf (.slice r.pa r.pn r.pc), amap r.fm .string (flM (pre ++ f :: post)), own r.pa r.pn r.pc 134 3 r.els]) (Ent.pick xpkd) ?_
 refine l_ent ((ent_file pre post f).frame _) ?_
 refine l_open fil_open .here fun q hq => ?_
 refine l_tell rfl ?_
 repeat' first | refine wk ?_ | refine wc ?_ ?_ <;> intro h <;> try omega | fail
 refine c_call (s_change d r.fm room r.ch r.lf _) rfl xpkd rfl rfl ?_
 rintro v S ⟨ch', lf', rfl, rfl⟩
 refine l_tell rfl ?_
 refine l_fact (p := q.n ≤ q.c) (fun h hs => by obtain ⟨_, _, _, _, _, _, _, k2, _, _, _, _, _, _, _, _, _, ⟨_, _, q3, _⟩, _⟩ := hs; exact q3) fun hqc => ?_
 repeat' first | refine wk ?_ | refine wc ?_ ?_ <;> intro h <;> try omega | fail
 refine o_buildSlice rfl rfl rfl rfl rfl rfl rfl rfl rfl rfl rfl rfl fun pb1 => ?_
 repeat' first | refine wk ?_ | refine wc ?_ ?_ <;> intro h <;> try omega | fail
 refine c_append rfl rfl xhol (own_rds xfnd) rfl rfl rfl rfl rfl (by show (r.pn + 1) * 48 ≤ _; omega) (by omega) rfl fun a5 c5 => ?_
 repeat' first | refine wk ?_ | refine wc ?_ ?_ <;> intro h <;> try omega | fail
 have hk2 : (f.now.take k).length = k := by rw [List.length_take]; omega
 refine b_ret [diskC d room (pre ++ { f with now := f.now.take k } :: post) fu] rfl ?_ ⟨rfl, rfl⟩
 have hv : (vb f.now).take k = vb (f.now.take k) := by simp [vb, List.map_take]
 refine (Ent.pick (Pre := [own q.a q.n q.c 5 1 (vb f.now), cellsAt f.b 129 [.slice q.a k q.c, .slice q.a2 q.n2 q.c2, .bool q.su], own q.a2 q.n2 q.c2 5 1 (vb q.sf), filesC (pre ++ post), dkC d r.fm room ch' lf' (.slice a5 (r.pn + 1) c5), amap r.fm .string (flM (pre ++ f :: post)), own a5 (r.pn + 1) c5 134 3 (r.els ++ [[.string f.nm, .int .i64 (k : Int), .slice none 0 0]])]) xpkd).trans ?_
 refine (Ent.fold (L := [_]) (own_take k (by omega))).trans ?_
 rw [hv, ← flM_now pre post f (f.now.take k)]
 refine (Ent.pick (Pre := filL f.b (f.now.take k) ⟨q.a, k, q.c, q.a2, q.n2, q.c2, q.sf, q.su⟩ ++ [filesC (pre ++ post), dkC d r.fm room ch' lf' (.slice a5 (r.pn + 1) c5), amap r.fm .string (flM (pre ++ { f with now := f.now.take k } :: post)), own a5 (r.pn + 1) c5 134 3 (r.els ++ [[.string f.nm, .int .i64 (k : Int), .slice none 0 0]])]) xpkd).trans ?_
 refine ent_disk pre post { f with now := f.now.take k } ⟨r.fm, ch', lf', a5, r.pn + 1, c5, r.els ++ [[.string f.nm, .int .i64 (k : Int), .slice none 0 0]]⟩ ⟨q.a, k, q.c, q.a2, q.n2, q.c2, q.sf, q.su⟩ ⟨?_, ?_⟩ hk2
 ·have := hr'.1; show r.pn + 1 + fu ≤ _; omega
 ·intro x hx
  rcases List.mem_append.1 hx with h | h
  ·exact hr'.2 x h
  ·rw [List.mem_singleton.1 h]; exact ⟨_, _, _, _, _, rfl⟩
theorem s_dsync (d room fu : Nat) (pre post : List Fl) (f : Fl) (hn : isName f.nm) (hk : f.now.length ≤ 1099511627776) :
  Spec Tryz.prog 173 [.pointer (some ⟨d, 0, none⟩), .string f.nm] [diskC d room (pre ++ f :: post) fu] (fun v S => v = .int .i64 0 ∧ S = [diskC d room (pre ++ f :: post) fu]) := by
 refine spec_of Tryz.func173 rfl Tryz.results173 Tryz.ntmps173 rfl ?_
 refine t_open dk_open .here fun r hr' => ?_
 refine t_tell rfl ?_
 repeat' first | refine wk ?_ | refine wc ?_ ?_ <;> intro h <;> try omega | fail
 refine c_call (s_may d r.fm room r.ch r.lf _ (pre ++ f :: post) f true hn (by simp)) rfl xpkd rfl rfl ?_
 rintro v S ⟨rfl, rfl⟩
 refine l_tell rfl ?_
 repeat' first | refine wk ?_ | refine wc ?_ ?_ <;> intro h <;> try omega | fail
 refine c_call (s_change d r.fm room r.ch r.lf _) rfl xpkd rfl rfl ?_
 rintro v S ⟨ch', lf', rfl, rfl⟩
 refine l_tell rfl ?_
 refine l_ent (S' := [filesC (pre ++ f :: post), dkC d r.fm room ch' lf' (.slice r.pa r.pn r.pc), amap r.fm .string (flM (pre ++ f :: post)), own r.pa r.pn r.pc 134 3 r.els]) (Ent.pick xpkd) ?_
 refine l_ent ((ent_file pre post f).frame _) ?_
 refine l_open fil_open .here fun q hq => ?_
 refine l_tell rfl ?_
 repeat' first | refine wk ?_ | refine wc ?_ ?_ <;> intro h <;> try omega | fail
 refine o_buildSlice rfl rfl rfl rfl rfl rfl rfl rfl rfl rfl rfl rfl fun pb1 => ?_
 repeat' first | refine wk ?_ | refine wc ?_ ?_ <;> intro h <;> try omega | fail
 refine c_append rfl rfl xhol (own_rds xfnd) rfl rfl rfl rfl rfl (by show (0 + q.n) * 1 ≤ _; omega) (by omega) rfl fun a5 c5 => ?_
 repeat' first | refine wk ?_ | refine wc ?_ ?_ <;> intro h <;> try omega | fail
 refine c_call (s_settled d r.fm room ch' lf' r.pa r.pn r.pc r.els f.nm hr'.2 (by have := hr'.1; omega)) rfl xpkd rfl rfl ?_
 rintro v S ⟨pa', pn', pc', els', he, hpn, rfl⟩
 refine l_tell rfl ?_
 repeat' first | refine wk ?_ | refine wc ?_ ?_ <;> intro h <;> try omega | fail
 refine b_ret [diskC d room (pre ++ f :: post) fu] rfl ?_ ⟨rfl, rfl⟩
 refine (Ent.pick (Pre := filL f.b f.now ⟨q.a, q.n, q.c, a5, 0 + q.n, c5, f.now, true⟩ ++ [filesC (pre ++ post), dkC d r.fm room ch' lf' (.slice pa' pn' pc'), amap r.fm .string (flM (pre ++ f :: post)), own pa' pn' pc' 134 3 els']) xpkd).trans ?_
 exact ent_disk pre post f ⟨r.fm, ch', lf', pa', pn', pc', els'⟩ ⟨q.a, q.n, q.c, a5, 0 + q.n, c5, f.now, true⟩ ⟨by have := hr'.1; show pn' + fu ≤ _; omega, he⟩ hq
theorem s_load (A : Asn) (d room fu : Nat) (fs : List Fl) (s : ByteArray) (a2 : Option Addr) (m c2 : Nat) (ys : List Nat) (hr : Rds [A] a2 m 1 (vb ys)) (hy : ys.length = m) (hn : isName s) (hno : ∀ f ∈ fs, f.nm ≠ s) (hl : fs.length < 16) (h3 : sumF fs + m ≤ room) (hroom : room ≤ 1099511627776) :
  Spec Tryz.prog 25 [.pointer (some ⟨d, 0, none⟩), .string s, .slice a2 m c2] [diskC d room fs fu, A] (fun v S => ∃ b, v = .int .i64 0 ∧ S = [diskC d room (⟨s, b, ys⟩ :: fs) fu, A]) := by
 refine spec_of Tryz.func25 rfl Tryz.results25 Tryz.ntmps25 rfl ?_
 refine t_open dk_open .here fun r hr' => ?_
 refine t_tell rfl ?_
 repeat' first | refine wk ?_ | refine wc ?_ ?_ <;> intro h <;> try omega | fail
 refine c_call (s_named s hn) rfl .nil rfl rfl ?_
 rintro v S ⟨rfl, rfl⟩
 refine l_tell rfl ?_
 repeat' first | refine wk ?_ | refine wc ?_ ?_ <;> intro h <;> try omega | refine l_qs (by exact c_lookup_no (ok := false) rfl rfl xfnd rfl rfl rfl rfl rfl trivial (flM_no hno)) rfl ?_ | refine d_qs rfl (by exact c_lookup_no (ok := false) rfl rfl xfnd rfl rfl rfl rfl rfl trivial (flM_no hno)) rfl ?_ | refine d_gqs rfl rfl (by exact c_lookup_no (ok := false) rfl rfl xfnd rfl rfl rfl rfl rfl trivial (flM_no hno)) rfl ?_ | (refine n_eff ?_ ?_; · (repeat first | refine wre ?_ | refine r_cons rfl (by first | exact c_lookup_no (ok := false) rfl rfl xfnd rfl rfl rfl rfl rfl trivial (flM_no hno) | fail) rfl ?_ | refine r_gcons rfl rfl (by first | exact c_lookup_no (ok := false) rfl rfl xfnd rfl rfl rfl rfl rfl trivial (flM_no hno) | fail) rfl ?_ | exact r_nil | fail)) | fail
 refine c_call (s_fits_no d r.fm room (m : Int) r.ch r.lf _ fs hl (by omega) (by omega) (by omega) hroom) rfl xpkd rfl rfl ?_
 rintro v S ⟨rfl, rfl⟩
 refine l_tell rfl ?_
 repeat' first | refine wk ?_ | refine wc ?_ ?_ <;> intro h <;> try omega | fail
 refine c_call (s_settled d r.fm room r.ch r.lf r.pa r.pn r.pc r.els s hr'.2 (by have := hr'.1; omega)) rfl xpkd rfl rfl ?_
 rintro v S ⟨pa', pn', pc', els', he, hpn, rfl⟩
 refine l_tell rfl ?_
 repeat' first | refine wk ?_ | refine wc ?_ ?_ <;> intro h <;> try omega | fail
 refine t_draw (.eval 0 true (.eval 1 true (.eval 2 true (.eval 3 false (.eval 4 true (.eval 6 true (.eval 9 true (.eff 5 [3] (.eff 7 [3] (.eff 8 [3] (.eff 10 [3] (.eval 11 true (.eff 12 [3] (.eff 13 [] .fin .stop) .stop)) .stop) .stop) (.eff 8 [3] (.eff 7 [3] (.eff 10 [3] (.eval 11 true (.eff 12 [3] (.eff 13 [] .fin .stop) .stop)) .stop) .stop) .stop)) (.eff 8 [3] (.eff 5 [3] (.eff 7 [3] (.eff 10 [3] (.eval 11 true (.eff 12 [3] (.eff 13 [] .fin .stop) .stop)) .stop) .stop) .stop) .stop))))))))) rfl (by kernel_rfl) ?_
 repeat' first | refine wk ?_ | refine wc ?_ ?_ <;> intro h <;> try omega | fail
 refine d_eff rfl ?_ ?_
 ·refine o_buildSlice rfl rfl rfl rfl rfl rfl rfl rfl rfl rfl rfl rfl fun pb1 => ?_
  repeat' first | refine wk ?_ | refine wc ?_ ?_ <;> intro h <;> try omega | fail
  refine d_eff rfl ?_ ?_
  ·refine c_append rfl rfl xhol (hr.up xpkd) rfl rfl rfl rfl rfl (by show (0 + m) * 1 ≤ _; omega) (by omega) rfl fun a5 c5 => ?_
   repeat' first | refine wk ?_ | refine wc ?_ ?_ <;> intro h <;> try omega | fail
   refine o_buildSlice rfl rfl rfl rfl rfl rfl rfl rfl rfl rfl rfl rfl fun pb2 => ?_
   repeat' first | refine wk ?_ | refine wc ?_ ?_ <;> intro h <;> try omega | fail
   refine c_append rfl rfl xhol (hr.up xpkd) rfl rfl rfl rfl rfl (by show (0 + m) * 1 ≤ _; omega) (by omega) rfl fun a6 c6 => ?_
   repeat' first | refine wb fun _ => ?_ | refine wk ?_ | refine wc ?_ ?_ <;> intro h <;> try omega | fail
   rename_i bf
   refine c_mapAdd rfl rfl rfl xhol rfl rfl rfl rfl trivial (flM_no hno) ?_
   refine l_tell rfl ?_
   repeat' first | refine wk ?_ | refine wc ?_ ?_ <;> intro h <;> try omega | fail
   refine b_ret [diskC d room (⟨s, bf, ys⟩ :: fs) fu, A] rfl ?_ ⟨bf, rfl, rfl⟩
   refine (Ent.pick (Pre := filL bf ys ⟨a5, 0 + m, c5, a6, 0 + m, c6, ys, true⟩ ++ [filesC ([] ++ fs), dkC d r.fm room r.ch r.lf (.slice pa' pn' pc'), amap r.fm .string (flM ([] ++ ⟨s, bf, ys⟩ :: fs)), own pa' pn' pc' 134 3 els', A]) xpkd).trans ?_
   exact (ent_disk [] fs ⟨s, bf, ys⟩ ⟨r.fm, r.ch, r.lf, pa', pn', pc', els'⟩ ⟨a5, 0 + m, c5, a6, 0 + m, c6, ys, true⟩ ⟨by have := hr'.1; show pn' + fu ≤ _; omega, he⟩ (by rw [Nat.zero_add]; exact hy)).frame [A]
  ·refine d_eff rfl ?_ d_stop
   refine o_buildSlice rfl rfl rfl rfl rfl rfl rfl rfl rfl rfl rfl rfl fun pb2 => ?_
   repeat' first | refine wk ?_ | refine wc ?_ ?_ <;> intro h <;> try omega | fail
   refine c_append rfl rfl xhol (hr.up xpkd) rfl rfl rfl rfl rfl (by show (0 + m) * 1 ≤ _; omega) (by omega) rfl fun a5 c5 => ?_
   repeat' first | refine wk ?_ | refine wc ?_ ?_ <;> intro h <;> try omega | fail
   refine c_append rfl rfl xhol (hr.up xpkd) rfl rfl rfl rfl rfl (by show (0 + m) * 1 ≤ _; omega) (by omega) rfl fun a6 c6 => ?_
   repeat' first | refine wb fun _ => ?_ | refine wk ?_ | refine wc ?_ ?_ <;> intro h <;> try omega | fail
   rename_i bf
   refine c_mapAdd rfl rfl rfl xhol rfl rfl rfl rfl trivial (flM_no hno) ?_
   refine l_tell rfl ?_
   repeat' first | refine wk ?_ | refine wc ?_ ?_ <;> intro h <;> try omega | fail
   refine b_ret [diskC d room (⟨s, bf, ys⟩ :: fs) fu, A] rfl ?_ ⟨bf, rfl, rfl⟩
   refine (Ent.pick (Pre := filL bf ys ⟨a5, 0 + m, c5, a6, 0 + m, c6, ys, true⟩ ++ [filesC ([] ++ fs), dkC d r.fm room r.ch r.lf (.slice pa' pn' pc'), amap r.fm .string (flM ([] ++ ⟨s, bf, ys⟩ :: fs)), own pa' pn' pc' 134 3 els', A]) xpkd).trans ?_
   exact (ent_disk [] fs ⟨s, bf, ys⟩ ⟨r.fm, r.ch, r.lf, pa', pn', pc', els'⟩ ⟨a5, 0 + m, c5, a6, 0 + m, c6, ys, true⟩ ⟨by have := hr'.1; show pn' + fu ≤ _; omega, he⟩ (by rw [Nat.zero_add]; exact hy)).frame [A]
 ·refine d_eff rfl ?_ d_stop
  refine o_buildSlice rfl rfl rfl rfl rfl rfl rfl rfl rfl rfl rfl rfl fun pb2 => ?_
  repeat' first | refine wk ?_ | refine wc ?_ ?_ <;> intro h <;> try omega | fail
  refine o_buildSlice rfl rfl rfl rfl rfl rfl rfl rfl rfl rfl rfl rfl fun pb1 => ?_
  repeat' first | refine wk ?_ | refine wc ?_ ?_ <;> intro h <;> try omega | fail
  refine c_append rfl rfl xhol (hr.up xpkd) rfl rfl rfl rfl rfl (by show (0 + m) * 1 ≤ _; omega) (by omega) rfl fun a5 c5 => ?_
  repeat' first | refine wk ?_ | refine wc ?_ ?_ <;> intro h <;> try omega | fail
  refine c_append rfl rfl xhol (hr.up xpkd) rfl rfl rfl rfl rfl (by show (0 + m) * 1 ≤ _; omega) (by omega) rfl fun a6 c6 => ?_
  repeat' first | refine wb fun _ => ?_ | refine wk ?_ | refine wc ?_ ?_ <;> intro h <;> try omega | fail
  rename_i bf
  refine c_mapAdd rfl rfl rfl xhol rfl rfl rfl rfl trivial (flM_no hno) ?_
  refine l_tell rfl ?_
  repeat' first | refine wk ?_ | refine wc ?_ ?_ <;> intro h <;> try omega | fail
  refine b_ret [diskC d room (⟨s, bf, ys⟩ :: fs) fu, A] rfl ?_ ⟨bf, rfl, rfl⟩
  refine (Ent.pick (Pre := filL bf ys ⟨a5, 0 + m, c5, a6, 0 + m, c6, ys, true⟩ ++ [filesC ([] ++ fs), dkC d r.fm room r.ch r.lf (.slice pa' pn' pc'), amap r.fm .string (flM ([] ++ ⟨s, bf, ys⟩ :: fs)), own pa' pn' pc' 134 3 els', A]) xpkd).trans ?_
  exact (ent_disk [] fs ⟨s, bf, ys⟩ ⟨r.fm, r.ch, r.lf, pa', pn', pc', els'⟩ ⟨a5, 0 + m, c5, a6, 0 + m, c6, ys, true⟩ ⟨by have := hr'.1; show pn' + fu ≤ _; omega, he⟩ (by rw [Nat.zero_add]; exact hy)).frame [A]
theorem s_dnew (room : Nat) (hroom : room ≤ 1099511627776) :
  Spec Tryz.prog 24 [.int .i64 room] [] (fun v S => ∃ d, v = .tuple #[.pointer (some ⟨d, 0, none⟩), .int .i64 0] ∧ S = [diskC d room [] 1000000000000]) := by
 refine spec_of Tryz.func24 rfl Tryz.results24 Tryz.ntmps24 rfl ?_
 repeat' first | refine wk ?_ | refine wc ?_ ?_ <;> intro h <;> try omega | fail
 refine c_makeMap rfl rfl rfl rfl rfl fun fm => ?_
 repeat' first | refine wb fun _ => ?_ | refine wk ?_ | refine wc ?_ ?_ <;> intro h <;> try omega | fail
 rename_i d
 refine b_ret [diskC d room [] 1000000000000] rfl ((ent_nil 134 3 _).trans ?_) ⟨d, rfl, rfl⟩
 refine (Ent.fold (A := filesC []) (L := []) (fun h _ => trivial)).trans ?_
 exact Ent.close (L := dkL d room [] ⟨fm, 0, 0, none, 0, 0, []⟩) (dk_close ⟨by show 0 + 1000000000000 ≤ _; omega, fun x h => by cases h⟩) xpkd
end Go.Ox
end
section
namespace Go.Ox
open Go Go.Proofs
inductive Nm where
 | o | s | t | j
def Nm.name : Nm → ByteArray
 | .o => ⟨#[111, 114, 105, 103, 105, 110, 97, 108]⟩
 | .s => ⟨#[115, 116, 111, 114, 101]⟩
 | .t => ⟨#[116, 97, 105, 108]⟩
 | .j => ⟨#[106, 111, 117, 114, 110, 97, 108]⟩
theorem isName_of {a : Array UInt8} (h1 : 1 ≤ a.size) (h2 : a.size ≤ 16) (h3 : a.toList.all (fun b => Nat.ble 97 b.toNat && Nat.ble b.toNat 122) = true) : isName ⟨a⟩ := by
 refine ⟨h1, h2, fun j hj => ?_⟩
 have hm : a[j]'hj ∈ a.toList := by simp
 have := List.all_eq_true.1 h3 _ hm
 simp only [Bool.and_eq_true, Nat.ble_eq] at this
 exact this
theorem Nm.isName (n : Nm) : isName n.name := by
 cases n <;> exact isName_of (by decide) (by decide) (by decide)
theorem Nm.ne (n m : Nm) (h : n ≠ m) : n.name ≠ m.name := by cases n <;> cases m <;> first | exact absurd rfl h | decide
structure Fs where
 o : Option (List Nat)
 s : Option (List Nat)
 t : Option (List Nat)
 j : Option (List Nat)
def Fs.get (F : Fs) : Nm → Option (List Nat)
 | .o => F.o
 | .s => F.s
 | .t => F.t
 | .j => F.j
def Fs.set (F : Fs) : Nm → List Nat → Fs
 | .o, b => { F with o := some b }
 | .s, b => { F with s := some b }
 | .t, b => { F with t := some b }
 | .j, b => { F with j := some b }
def lenO : Option (List Nat) → Nat
 | none => 0
 | some l => l.length
def byO : Option (List Nat) → List Nat
 | none => []
 | some l => l
def Fs.tot (F : Fs) : Nat := lenO F.o + lenO F.s + lenO F.t + lenO F.j
structure Bk where
 o : Nat
 s : Nat
 t : Nat
 j : Nat
def Bk.set (B : Bk) : Nm → Nat → Bk
 | .o, b => { B with o := b }
 | .s, b => { B with s := b }
 | .t, b => { B with t := b }
 | .j, b => { B with j := b }
def one (n : Nm) (b : Nat) : Option (List Nat) → List Fl
 | none => []
 | some l => [⟨n.name, b, l⟩]
def lst (F : Fs) (B : Bk) : List Fl := one .o B.o F.o ++ (one .s B.s F.s ++ (one .t B.t F.t ++ one .j B.j F.j))
theorem one_len (n : Nm) (b : Nat) (l : Option (List Nat)) : (one n b l).length ≤ 1 := by cases l <;> simp [one]
theorem lst_len (F : Fs) (B : Bk) : (lst F B).length ≤ 4 := by
 have h1 := one_len .o B.o F.o
 have h2 := one_len .s B.s F.s
 have h3 := one_len .t B.t F.t
 have h4 := one_len .j B.j F.j
 simp only [lst, List.length_append]; omega
theorem one_sum (n : Nm) (b : Nat) (l : Option (List Nat)) : sumF (one n b l) = lenO l := by cases l <;> simp [one, sumF, lenO]
theorem sumF_app (a b : List Fl) : sumF (a ++ b) = sumF a + sumF b := by simp [sumF]
theorem lst_sum (F : Fs) (B : Bk) : sumF (lst F B) = F.tot := by
 simp only [lst, sumF_app, one_sum, Fs.tot]; omega
theorem one_mem {n : Nm} {b : Nat} {l : Option (List Nat)} {f : Fl} (h : f ∈ one n b l) : f.nm = n.name := by
 cases l with
 | none => cases h
 | some l => rw [List.mem_singleton.1 h]
theorem lst_get {F : Fs} {n : Nm} {bs : List Nat} (B : Bk) (h : F.get n = some bs) :
  ∃ pre post f, lst F B = pre ++ f :: post ∧ f.nm = n.name ∧ f.now = bs ∧ ∀ b', lst (F.set n b') B = pre ++ { f with now := b' } :: post := by
 cases n <;> simp only [Fs.get] at h <;> simp only [lst, h, Fs.set]
 ·exact ⟨[], _, ⟨Nm.name .o, B.o, bs⟩, rfl, rfl, rfl, fun b' => rfl⟩
 ·exact ⟨one .o B.o F.o, _, ⟨Nm.name .s, B.s, bs⟩, rfl, rfl, rfl, fun b' => rfl⟩
 ·exact ⟨one .o B.o F.o ++ one .s B.s F.s, one .j B.j F.j, ⟨Nm.name .t, B.t, bs⟩, by simp [one], rfl, rfl, fun b' => by simp [one]⟩
 ·exact ⟨one .o B.o F.o ++ one .s B.s F.s ++ one .t B.t F.t, [], ⟨Nm.name .j, B.j, bs⟩, by simp [one], rfl, rfl, fun b' => by simp [one]⟩
theorem lst_no {F : Fs} {n : Nm} (B : Bk) (h : F.get n = none) :
  (∀ f ∈ lst F B, f.nm ≠ n.name) ∧ ∀ b bs, (⟨n.name, b, bs⟩ :: lst F B).Perm (lst (F.set n bs) (B.set n b)) := by
 refine ⟨fun f hf => ?_, fun b bs => ?_⟩
 ·simp only [lst, List.mem_append] at hf
  cases n <;> simp only [Fs.get] at h <;> simp only [h] at hf <;> rcases hf with hf | hf | hf | hf <;> first | (cases hf; done) | (rw [one_mem hf]; exact Nm.ne _ _ (by intro q; cases q))
 ·generalize hz : (⟨n.name, b, bs⟩ : Fl) = z
  cases n <;> simp only [Fs.get] at h <;> simp only [lst, h, Fs.set, Bk.set]
  ·rw [← hz]; exact .refl _
  ·have : one .s b (some bs) = [z] := by rw [← hz]; rfl
   rw [this]; exact List.perm_middle.symm
  ·have : one .t b (some bs) = [z] := by rw [← hz]; rfl
   rw [this]
   show (z :: (one .o B.o F.o ++ (one .s B.s F.s ++ one .j B.j F.j))).Perm (one .o B.o F.o ++ (one .s B.s F.s ++ (z :: one .j B.j F.j)))
   rw [← List.append_assoc, ← List.append_assoc]; exact List.perm_middle.symm
  ·have : one .j b (some bs) = [z] := by rw [← hz]; rfl
   rw [this]
   show (z :: (one .o B.o F.o ++ (one .s B.s F.s ++ (one .t B.t F.t ++ [])))).Perm (one .o B.o F.o ++ (one .s B.s F.s ++ (one .t B.t F.t ++ [z])))
   rw [List.append_nil, ← List.append_assoc, ← List.append_assoc, ← List.append_assoc]
   exact (List.perm_append_singleton _ _).symm
def dskC (d room : Nat) (F : Fs) (fu : Nat) : Asn := fun h => ∃ B : Bk, star [diskC d room (lst F B) fu] h
theorem dsk_open {d room fu : Nat} {F : Fs} : ∀ h, dskC d room F fu h → ∃ B : Bk, True ∧ star [diskC d room (lst F B) fu] h := fun _ ⟨B, h⟩ => ⟨B, trivial, h⟩
theorem dsk_close {d room fu : Nat} {F : Fs} (B : Bk) : ∀ h, star [diskC d room (lst F B) fu] h → dskC d room F fu h := fun _ h => ⟨B, h⟩
theorem disk_perm {d room fu : Nat} {fs fs' : List Fl} (hp : fs.Perm fs') : ∀ h, diskC d room fs fu h → diskC d room fs' fu h := by
 rintro h ⟨r, hr, hs⟩
 refine ⟨r, hr, ?_⟩
 obtain ⟨h1, h2, d1, s1, s2, a1, h3, h4, d2, s3, s4, a2, h5, h6, d3, s5, s6, a3, r3⟩ := hs
 refine ⟨h1, h2, d1, s1, s2, a1, h3, h4, d2, s3, s4, amap_perm (hp.map _) a2, h5, h6, d3, s5, s6, ?_, r3⟩
 exact star_perm (hp.map _) a3
theorem disk_less {d room fu fu' : Nat} {fs : List Fl} (hf : fu' ≤ fu) : ∀ h, diskC d room fs fu h → diskC d room fs fu' h := by
 rintro h ⟨r, ⟨hr, hr2⟩, hs⟩
 exact ⟨r, ⟨by omega, hr2⟩, hs⟩
theorem dsk_less {d room fu fu' : Nat} {F : Fs} (hf : fu' ≤ fu) : ∀ h, star [dskC d room F fu] h → dskC d room F fu' h := by
 rintro h ⟨h1, _, _, s1, _, ⟨B, hs⟩, _⟩
 obtain ⟨h3, h4, d3, s3, s4, a, r⟩ := hs
 exact ⟨B, h3, h4, d3, s3.trans s1, s4.trans s1, disk_less hf _ a, r⟩
theorem ent_less {d room : Nat} {F : Fs} (a b : Nat) (h : b ≤ a) (R : List Asn) : Ent (dskC d room F a :: R) (dskC d room F b :: R) := Ent.fold (L := [_]) (dsk_less h)
theorem s_write4 (A : Asn) (d room fu at_ : Nat) (F : Fs) (n : Nm) (a2 : Option Addr) (m c2 : Nat) (ys : List Nat) (hr : Rds [A] a2 m 1 (vb ys)) (hy : ys.length = m) (hc : m ≤ c2) (h1 : at_ ≤ lenO (F.get n)) (h2 : 1 ≤ m) (h3 : F.tot + at_ + m ≤ room) (hroom : room ≤ 1099511627776) :
  Spec Tryz.prog 99 [.pointer (some ⟨d, 0, none⟩), .string n.name, .int .i64 at_, .slice a2 m c2] [dskC d room F (fu + m), A] (fun v S => v = .int .i64 0 ∧ S = [dskC d room (F.set n (layB (byO (F.get n)) at_ ys)) fu, A]) := by
 refine Spec.ex dsk_open fun B _ => ?_
 cases hg : F.get n with
 | some bs =>
  rw [hg] at h1
  obtain ⟨pre, post, f, e1, e2, e3, e4⟩ := lst_get B hg
  rw [e1, ← e2]
  refine (s_write A d room fu at_ pre post f a2 m c2 ys hr hy hc (by rw [e2]; exact n.isName) (by rw [e3]; exact h1) h2 (by rw [← e1, lst_sum]; exact h3) hroom).conseq (Ent.refl _) ?_
  rintro v S ⟨rfl, rfl⟩
  refine ⟨_, ?_, rfl, rfl⟩
  rw [e3, ← e4]
  exact Ent.fold (L := [_]) (dsk_close B)
 | none =>
  rw [hg] at h1
  obtain ⟨e1, e2⟩ := lst_no B hg
  have h0 : at_ = 0 := by simpa [lenO] using h1
  subst h0
  refine (s_writeNew A d room fu (lst F B) n.name a2 m c2 ys hr hy hc n.isName e1 h2 (by have := lst_len F B; omega) (by rw [lst_sum]; exact h3) hroom).conseq (Ent.refl _) ?_
  rintro v S ⟨b, rfl, rfl⟩
  refine ⟨_, ?_, rfl, rfl⟩
  refine Ent.fold (L := [_]) fun h hs => ?_
  have e : layB (byO none) 0 ys = ys := by simp [layB, byO]
  rw [e]
  obtain ⟨k1, k2, k3, k4, k5, a, r⟩ := hs
  exact ⟨B.set n b, k1, k2, k3, k4, k5, disk_perm (e2 b ys) _ a, r⟩
def szI : Option (List Nat) → Int
 | none => -1
 | some l => l.length
theorem szI_max (l : Option (List Nat)) : max (0 : Int) (szI l) = (lenO l : Nat) := by cases l with | none => decide | some l => simp [szI, lenO]
theorem s_size4 (d room fu : Nat) (F : Fs) (n : Nm) :
  Spec Tryz.prog 69 [.pointer (some ⟨d, 0, none⟩), .string n.name] [dskC d room F fu] (fun v S => v = .int .i64 (szI (F.get n)) ∧ S = [dskC d room F fu]) := by
 refine Spec.ex dsk_open fun B _ => ?_
 cases hg : F.get n with
 | some bs =>
  obtain ⟨pre, post, f, e1, e2, e3, e4⟩ := lst_get B hg
  rw [e1, ← e2]
  refine (s_size d room fu pre post f (by rw [e2]; exact n.isName)).conseq (Ent.refl _) ?_
  rintro v S ⟨rfl, rfl⟩
  refine ⟨_, ?_, by rw [e3]; rfl, rfl⟩
  rw [← e1]
  exact Ent.fold (L := [_]) (dsk_close B)
 | none =>
  refine (s_size_no d room fu (lst F B) n.name n.isName (lst_no B hg).1).conseq (Ent.refl _) ?_
  rintro v S ⟨rfl, rfl⟩
  exact ⟨_, Ent.fold (L := [_]) (dsk_close B), rfl, rfl⟩
theorem s_read4 (d room fu : Nat) (F : Fs) (n : Nm) (bs : List Nat) (hg : F.get n = some bs) (at_ k : Nat) (h1 : at_ + k ≤ bs.length) (h2 : bs.length ≤ 1099511627776) :
  Spec Tryz.prog 68 [.pointer (some ⟨d, 0, none⟩), .string n.name, .int .i64 at_, .int .i64 k] [dskC d room F fu] (fun v S => ∃ a c, v = .tuple #[.slice a k c, .int .i64 0] ∧ S = [own a k c 5 1 (vb ((bs.drop at_).take k)), dskC d room F fu]) := by
 refine Spec.ex dsk_open fun B _ => ?_
 obtain ⟨pre, post, f, e1, e2, e3, e4⟩ := lst_get B hg
 rw [e1, ← e2]
 refine (s_read d room fu pre post f (by rw [e2]; exact n.isName) at_ k (by rw [e3]; exact h1) (by rw [e3]; exact h2)).conseq (Ent.refl _) ?_
 rintro v S ⟨a, c, rfl, rfl⟩
 refine ⟨_, ?_, a, c, rfl, rfl⟩
 rw [← e1, e3]
 exact Ent.cons _ (Ent.fold (L := [_]) (dsk_close B))
theorem s_read4_no (d room fu : Nat) (F : Fs) (n : Nm) (x y : Value) (hg : F.get n = none) :
  Spec Tryz.prog 68 [.pointer (some ⟨d, 0, none⟩), .string n.name, x, y] [dskC d room F fu] (fun v S => v = .tuple #[.slice none 0 0, .int .i64 6] ∧ S = [dskC d room F fu]) := by
 refine Spec.ex dsk_open fun B _ => ?_
 refine (s_read_no d room fu (lst F B) n.name x y n.isName (lst_no B hg).1).conseq (Ent.refl _) ?_
 rintro v S ⟨rfl, rfl⟩
 exact ⟨_, Ent.fold (L := [_]) (dsk_close B), rfl, rfl⟩
theorem s_cut4 (d room fu k : Nat) (F : Fs) (n : Nm) (bs : List Nat) (hg : F.get n = some bs) (hk : k ≤ bs.length) :
  Spec Tryz.prog 177 [.pointer (some ⟨d, 0, none⟩), .string n.name, .int .i64 k] [dskC d room F (fu + 1)] (fun v S => v = .int .i64 0 ∧ S = [dskC d room (F.set n (bs.take k)) fu]) := by
 refine Spec.ex dsk_open fun B _ => ?_
 obtain ⟨pre, post, f, e1, e2, e3, e4⟩ := lst_get B hg
 rw [e1, ← e2]
 refine (s_dcut d room fu k pre post f (by rw [e2]; exact n.isName) (by rw [e3]; exact hk)).conseq (Ent.refl _) ?_
 rintro v S ⟨rfl, rfl⟩
 refine ⟨_, ?_, rfl, rfl⟩
 rw [← e4, e3]
 exact Ent.fold (L := [_]) (dsk_close B)
theorem s_sync4 (d room fu : Nat) (F : Fs) (n : Nm) (h2 : lenO (F.get n) ≤ 1099511627776) :
  Spec Tryz.prog 173 [.pointer (some ⟨d, 0, none⟩), .string n.name] [dskC d room F fu] (fun v S => v = .int .i64 (match F.get n with | none => 6 | some _ => 0) ∧ S = [dskC d room F fu]) := by
 refine Spec.ex dsk_open fun B _ => ?_
 cases hg : F.get n with
 | some bs =>
  obtain ⟨pre, post, f, e1, e2, e3, e4⟩ := lst_get B hg
  rw [hg] at h2
  rw [e1, ← e2]
  refine (s_dsync d room fu pre post f (by rw [e2]; exact n.isName) (by rw [e3]; exact h2)).conseq (Ent.refl _) ?_
  rintro v S ⟨rfl, rfl⟩
  refine ⟨_, ?_, rfl, rfl⟩
  rw [← e1]
  exact Ent.fold (L := [_]) (dsk_close B)
 | none =>
  refine (s_dsync_no d room fu (lst F B) n.name n.isName (lst_no B hg).1).conseq (Ent.refl _) ?_
  rintro v S ⟨rfl, rfl⟩
  exact ⟨_, Ent.fold (L := [_]) (dsk_close B), rfl, rfl⟩
theorem s_load4 (A : Asn) (d room fu : Nat) (F : Fs) (n : Nm) (a2 : Option Addr) (m c2 : Nat) (ys : List Nat) (hg : F.get n = none) (hr : Rds [A] a2 m 1 (vb ys)) (hy : ys.length = m) (h3 : F.tot + m ≤ room) (hroom : room ≤ 1099511627776) :
  Spec Tryz.prog 25 [.pointer (some ⟨d, 0, none⟩), .string n.name, .slice a2 m c2] [dskC d room F fu, A] (fun v S => v = .int .i64 0 ∧ S = [dskC d room (F.set n ys) fu, A]) := by
 refine Spec.ex dsk_open fun B _ => ?_
 obtain ⟨e1, e2⟩ := lst_no B hg
 refine (s_load A d room fu (lst F B) n.name a2 m c2 ys hr hy n.isName e1 (by have := lst_len F B; omega) (by rw [lst_sum]; exact h3) hroom).conseq (Ent.refl _) ?_
 rintro v S ⟨b, rfl, rfl⟩
 refine ⟨_, ?_, rfl, rfl⟩
 refine Ent.fold (L := [_]) fun h hs => ?_
 obtain ⟨k1, k2, k3, k4, k5, a, r⟩ := hs
 exact ⟨B.set n b, k1, k2, k3, k4, k5, disk_perm (e2 b ys) _ a, r⟩
theorem s_new4 (room : Nat) (hroom : room ≤ 1099511627776) :
  Spec Tryz.prog 24 [.int .i64 room] [] (fun v S => ∃ d, v = .tuple #[.pointer (some ⟨d, 0, none⟩), .int .i64 0] ∧ S = [dskC d room ⟨none, none, none, none⟩ 1000000000000]) := by
 refine (s_dnew room hroom).conseq (Ent.refl _) ?_
 rintro v S ⟨d, rfl, rfl⟩
 exact ⟨_, Ent.fold (L := [_]) (dsk_close (F := ⟨none, none, none, none⟩) ⟨0, 0, 0, 0⟩), d, rfl, rfl⟩
end Go.Ox
end
