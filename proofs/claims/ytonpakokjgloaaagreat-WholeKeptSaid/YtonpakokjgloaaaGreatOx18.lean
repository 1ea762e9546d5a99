/- WholeKept, part 18. No condition. -/
import Derived.Test.YtonpakokjgloaaaGreatOx13
import Derived.Test.YtonpakokjgloaaaGreatOx16
import Derived.Test.YtonpakokjgloaaaGreatOx17
set_option linter.all false
section
set_option maxRecDepth 100000
set_option maxHeartbeats 800000
namespace Go.Ox
open Go Go.Proofs
def mkd (l : List It) : List Int := (l.filter (·.m)).map fun x => (x.k : Int)
theorem arange_perm {it b : Nat} {kd : TypeDesc} {l left left' : List (Value × Value)} {cur : Option (Value × Value)} (hp : left.Perm left') : ∀ h, star [arange it b kd l left cur] h → arange it b kd l left' cur h := fun h hs => by
 obtain ⟨h1, h2, _, s1, _, ⟨m, lf, q1, q2, es, clock, seen, r1, r2, r3, r4, r5, r6⟩, _⟩ := hs
 exact ⟨m, lf, q1, q2.trans hp, es, clock, seen, s1 _ _ r1, r2, r3, r4, s1 _ _ r5, r6⟩
theorem s_marked (L cap : Nat) (l : List It) (hl : l.length ≤ 100000) :
  Spec Tryz.prog 298 [.pointer (some ⟨L, 0, none⟩)] [lruC L cap l] (fun v S => ∃ (a : Option Addr) (c : Nat) (ks : List Int), ks.Perm (mkd l) ∧ v = .slice a ks.length c ∧ S = [own a ks.length c 3 1 (intsV ks), lruC L cap l]) := by
 refine spec_of Tryz.func298 rfl Tryz.results298 Tryz.ntmps298 rfl ?_
 refine t_open lru_open .here fun mp _ => ?_
 refine t_tell rfl ?_
 refine t_ent (ent_ring L cap mp _ _) ?_
 refine t_same (amap mp (.int .i64) (lruM l) :: rootC L cap mp (lsV (rootP L) l) (hdV (rootP L) l) :: seg (rootP L) (rootP L) l) rfl ?_
 repeat' first | refine wk ?_ | refine wc ?_ ?_ <;> intro h <;> try omega | fail
 refine l_ent (ent_ring' L cap mp _ _) ?_
 refine c_range rfl .here rfl rfl rfl fun it => ?_
 repeat' first | refine wk ?_ | refine wc ?_ ?_ <;> intro h <;> try omega | fail
 refine t_ent (ent_nil 3 1 _) ?_
 refine t_loop (fun m env S => ∃ (li : List It) (cur : Option (Value × Value)) (a : Option Addr) (c : Nat) (ks : List Int), m = li.length ∧ (∀ x ∈ li, x ∈ l) ∧ (ks ++ mkd li).Perm (mkd l) ∧ env = [(3, .slice a ks.length c), (12, .pointer (some ⟨it, 0, none⟩))] ∧ S = [arange it mp (.int .i64) (lruM l) (lruM li) cur, ringC L cap mp l, own a ks.length c 3 1 (intsV ks)]) l.length _ _
  ⟨l, none, none, 0, [], rfl, fun _ h => h, by simp, rfl, rfl⟩ xlss (Ent.pick xpkd) ?_
 rintro m env S ⟨li, cur, a, c, ks, rfl, hli, hks, rfl, rfl⟩
 have hkl : ks.length ≤ l.length := by
  have h1 := hks.length_eq
  have h2 : (mkd l).length ≤ l.length := by simp only [mkd, List.length_map]; exact List.length_filter_le _ _
  rw [List.length_append] at h1; omega
 repeat' first | refine wk ?_ | refine wc ?_ ?_ <;> intro h <;> try omega | fail
 refine c_next rfl .here rfl (fun he => ?_) fun p l' hp hm => ?_
 ·have hz : li = [] := by cases li with | nil => rfl | cons x li => cases he
  subst hz
  repeat' first | refine wk ?_ | refine wc ?_ ?_ <;> intro h <;> try omega | fail
  refine c_call (s_sortInts a ks.length c 3 ks (by omega)) rfl xpkd rfl rfl ?_
  rintro v S rfl
  refine l_tell rfl ?_
  repeat' first | refine wk ?_ | refine wc ?_ ?_ <;> intro h <;> try omega | fail
  have h3 : (ks.mergeSort fun x y => decide (x ≤ y)).length = ks.length := List.length_mergeSort _
  rw [← h3]
  refine b_ret [own a (ks.mergeSort fun x y => decide (x ≤ y)).length c 3 1 (intsV (ks.mergeSort fun x y => decide (x ≤ y))), lruC L cap l] rfl (Ent.cons _ (Ent.close (A := lruC L cap l) (L := lruX L cap mp l) lru_close xpkd)) ⟨a, c, _, ?_, rfl, rfl⟩
  have h4 : ks.Perm (mkd l) := by simpa [mkd] using hks
  exact (List.mergeSort_perm _ _).trans h4
 ·have hpm : p ∈ lruM li := hp.mem_iff.2 (List.mem_cons_self ..)
  obtain ⟨x, hx, rfl⟩ := List.mem_map.1 hpm
  obtain ⟨l1, l2, rfl⟩ := List.append_of_mem hx
  have hp2 : l'.Perm (lruM (l1 ++ l2)) := (List.perm_cons _).1 (hp.symm.trans (lruM_mid l1 l2 x))
  obtain ⟨pre, post, rfl⟩ := List.append_of_mem (hli x hx)
  have hmid : (mkd (l1 ++ x :: l2)).Perm ((if x.m then [(x.k : Int)] else []) ++ mkd (l1 ++ l2)) := by
   have h5 : (mkd (l1 ++ x :: l2)).Perm (mkd (x :: (l1 ++ l2))) := (List.perm_middle.filter _).map _
   refine h5.trans (.of_eq ?_)
   unfold mkd
   rw [List.filter_cons]
   split <;> simp_all
  refine l_ent (S' := [ringC L cap mp (pre ++ x :: post), arange it mp (.int .i64) (lruM (pre ++ x :: post)) (lruM (l1 ++ l2)) (some (.int .i64 x.k, ptrI x)), own a ks.length c 3 1 (intsV ks)]) ((Ent.fold (L := [_]) (arange_perm hp2)).trans (Ent.perm (.swap _ _ _))) ?_
  refine l_ent ((ent_at L cap mp pre post x).frame _) ?_
  refine l_tell rfl ?_
  repeat' first | refine wk ?_ | refine wc ?_ ?_ <;> intro h <;> try omega | refine l_qs (by exact c_entry rfl xfnd) rfl ?_ | fail
  have hli2 : ∀ y ∈ l1 ++ l2, y ∈ pre ++ x :: post := fun y hy => hli y (by
   rcases List.mem_append.1 hy with h | h
   ·exact List.mem_append_left _ h
   ·exact List.mem_append_right _ (List.mem_cons_of_mem _ h))
  refine t_if (t := x.m) rfl (fun hxm => ?_) (fun hxm => ?_)
  ·rw [if_pos hxm] at hmid
   repeat' first | refine wk ?_ | refine wc ?_ ?_ <;> intro h <;> try omega | fail
   refine o_buildSlice rfl rfl rfl rfl rfl rfl rfl rfl rfl rfl rfl rfl fun pb => ?_
   repeat' first | refine wk ?_ | refine wc ?_ ?_ <;> intro h <;> try omega | fail
   refine c_append rfl rfl xhol (own_rds xfnd) rfl rfl rfl rfl rfl (by show (ks.length + 1) * 8 ≤ _; omega) (by omega) rfl fun a2 c2 => ?_
   refine l_ent (S' := [itC x (lsV (rootP L) pre) (hdV (rootP L) post), holeC L cap mp pre post x.b, arange it mp (.int .i64) (lruM (pre ++ x :: post)) (lruM (l1 ++ l2)) (some (.int .i64 x.k, ptrI x)), own a2 (ks.length + 1) c2 3 1 (intsV (ks ++ [(x.k : Int)]))]) (by
    have e : intsV (ks ++ [(x.k : Int)]) = intsV ks ++ [[.int .i64 (x.k : Int)]] := by simp [intsV]
    rw [e]; exact Ent.pick xpkd) ?_
   refine l_ent ((ent_at' L cap mp pre post x).frame _) ?_
   refine l_tell rfl ?_
   repeat' first | refine wk ?_ | refine wc ?_ ?_ <;> intro h <;> try omega | fail
   have hl' : ks.length + 1 = (ks ++ [(x.k : Int)]).length := by simp
   rw [hl']
   refine ⟨rfl, (l1 ++ l2).length, _, _, by simp, ⟨l1 ++ l2, some (.int .i64 x.k, ptrI x), a2, c2, ks ++ [(x.k : Int)], rfl, hli2, ?_, rfl, rfl⟩, xlss, Ent.pick xpkd⟩
   rw [List.append_assoc]
   exact (List.Perm.append_left ks hmid.symm).trans hks
  ·rw [if_neg (by rw [hxm]; decide)] at hmid
   repeat' first | refine wk ?_ | refine wc ?_ ?_ <;> intro h <;> try omega | fail
   refine ⟨rfl, (l1 ++ l2).length, _, _, by simp, ⟨l1 ++ l2, some (.int .i64 x.k, ptrI x), a, c, ks, rfl, hli2, ?_, rfl, rfl⟩, xlss, ((ent_at' L cap mp pre post x).frame _).trans (Ent.pick xpkd)⟩
   exact (List.Perm.append_left ks hmid.symm).trans hks
end Go.Ox
end
section
set_option maxRecDepth 100000
set_option maxHeartbeats 800000
namespace Go.Ox
open Go Go.Proofs
def sumF (fs : List Fl) : Nat := (fs.map fun f => f.now.length).sum
theorem sumF_mid (pre post : List Fl) (f : Fl) : sumF (pre ++ f :: post) = f.now.length + sumF (pre ++ post) := by
 simp only [sumF, List.map_append, List.map_cons, List.sum_append, List.sum_cons]; omega
theorem flM_mid (pre post : List Fl) (x : Fl) : (flM (pre ++ x :: post)).Perm ((.string x.nm, ptrF x) :: flM (pre ++ post)) :=
 (List.perm_middle (a := x) (l₁ := pre) (l₂ := post)).map _
theorem flM_now (pre post : List Fl) (f : Fl) (n : List Nat) : flM (pre ++ { f with now := n } :: post) = flM (pre ++ f :: post) := by
 simp [flM, ptrF]
theorem s_sum (d fm room : Nat) (ch lf : Int) (p : Value) (fs : List Fl) (hs : sumF fs ≤ 1125899906842624) :
  Spec Tryz.prog 122 [.pointer (some ⟨d, 0, none⟩)] [dkC d fm room ch lf p, amap fm .string (flM fs), filesC fs] (fun v S => v = .int .i64 (sumF fs) ∧ S = [dkC d fm room ch lf p, amap fm .string (flM fs), filesC fs]) := by
 refine spec_of Tryz.func122 rfl Tryz.results122 Tryz.ntmps122 rfl ?_
 repeat' first | refine wk ?_ | refine wc ?_ ?_ <;> intro h <;> try omega | fail
 refine c_range rfl xhol rfl rfl rfl fun it => ?_
 repeat' first | refine wk ?_ | refine wc ?_ ?_ <;> intro h <;> try omega | fail
 refine t_loop (fun m env S => ∃ (li : List Fl) (cur : Option (Value × Value)) (acc : Nat), m = li.length ∧ (∀ x ∈ li, x ∈ fs) ∧ acc + sumF li = sumF fs ∧ env = [(3, .int .i64 (acc : Int)), (10, .pointer (some ⟨it, 0, none⟩))] ∧ S = [arange it fm .string (flM fs) (flM li) cur, filesC fs, dkC d fm room ch lf p]) fs.length _ _ ⟨fs, none, 0, rfl, fun _ h => h, by omega, rfl, rfl⟩ xlss (Ent.pick xpkd) ?_
 rintro m env S ⟨li, cur, acc, rfl, hli, hacc, rfl, rfl⟩
 repeat' first | refine wk ?_ | refine wc ?_ ?_ <;> intro h <;> try omega | fail
 refine c_next rfl .here rfl (fun he => ?_) fun q l' hp hm => ?_
 ·have hz : li = [] := by cases li with | nil => rfl | cons x li => cases he
  subst hz
  repeat' first | refine wk ?_ | refine wc ?_ ?_ <;> intro h <;> try omega | fail
  have e : acc = sumF fs := by simpa [sumF] using hacc
  subst e
  exact b_ret [dkC d fm room ch lf p, amap fm .string (flM fs), filesC fs] rfl (Ent.pick xpkd) ⟨rfl, rfl⟩
 ·have hpm : q ∈ flM li := hp.mem_iff.2 (List.mem_cons_self ..)
  obtain ⟨x, hx, rfl⟩ := List.mem_map.1 hpm
  obtain ⟨l1, l2, rfl⟩ := List.append_of_mem hx
  have hp2 : l'.Perm (flM (l1 ++ l2)) := (List.perm_cons _).1 (hp.symm.trans (flM_mid l1 l2 x))
  obtain ⟨pre, post, rfl⟩ := List.append_of_mem (hli x hx)
  have hli2 : ∀ y ∈ l1 ++ l2, y ∈ pre ++ x :: post := fun y hy => hli y (by
   rcases List.mem_append.1 hy with h | h
   ·exact List.mem_append_left _ h
   ·exact List.mem_append_right _ (List.mem_cons_of_mem _ h))
  rw [sumF_mid] at hacc
  refine l_ent (S' := [filesC (pre ++ x :: post), arange it fm .string (flM (pre ++ x :: post)) (flM (l1 ++ l2)) (some (.string x.nm, ptrF x)), dkC d fm room ch lf p]) ((Ent.fold (L := [_]) (arange_perm hp2)).trans (Ent.pick xpkd)) ?_
  refine l_ent ((ent_file pre post x).frame _) ?_
  refine l_open fil_open .here fun q hq => ?_
  refine l_tell rfl ?_
  repeat' first | refine wk ?_ | refine wc ?_ ?_ <;> intro h <;> try omega | refine l_qs (by exact c_entry rfl xfnd) rfl ?_ | fail
  refine ⟨rfl, (l1 ++ l2).length, _, _, by simp, ⟨l1 ++ l2, some (.string x.nm, ptrF x), acc + q.n, rfl, hli2, by omega, rfl, rfl⟩, xlss, ?_⟩
  exact (Ent.fold (L := filL x.b x.now q) (fil_close hq)).trans (((ent_file' pre post x).frame _).trans (Ent.pick xpkd))
theorem s_fits (d fm room : Nat) (size ch lf : Int) (p : Value) (pre post : List Fl) (f : Fl) (hs : sumF (pre ++ f :: post) ≤ 1125899906842624) (h0 : 0 ≤ size) (hr : (sumF (pre ++ f :: post) : Int) - f.now.length + size ≤ room) (hroom : room ≤ 1099511627776) :
  Spec Tryz.prog 71 [.pointer (some ⟨d, 0, none⟩), ptrF f, .int .i64 size] [dkC d fm room ch lf p, amap fm .string (flM (pre ++ f :: post)), filesC (pre ++ f :: post)] (fun v S => v = .int .i64 0 ∧ S = [dkC d fm room ch lf p, amap fm .string (flM (pre ++ f :: post)), filesC (pre ++ f :: post)]) := by
 refine spec_of Tryz.func71 rfl Tryz.results71 Tryz.ntmps71 rfl ?_
 refine t_ent (S' := [filesC (pre ++ f :: post), dkC d fm room ch lf p, amap fm .string (flM (pre ++ f :: post))]) (Ent.pick xpkd) ?_
 refine t_ent ((ent_file pre post f).frame _) ?_
 refine t_open fil_open .here fun q hq => ?_
 refine t_tell rfl ?_
 have hmid := sumF_mid pre post f
 repeat' first | refine wk ?_ | refine wc ?_ ?_ <;> intro h <;> try omega | fail
 refine t_ent (S' := [dkC d fm room ch lf p, amap fm .string (flM (pre ++ f :: post)), filesC (pre ++ f :: post)]) ((Ent.fold (L := filL f.b f.now q) (fil_close hq)).trans (((ent_file' pre post f).frame _).trans (Ent.pick xpkd))) ?_
 refine t_draw (.eval 0 true (.eval 1 true (.eval 2 true (.eval 3 true (.eval 4 true (.eval 6 true (.eval 8 true (.eval 10 true (.eval 11 true (.eval 12 true (.eval 13 false (.eff 5 [13] (.eval 7 true (.eval 9 true (.eval 14 true (.eval 15 true .fin)))) .stop)))))))))))) rfl (by kernel_rfl) ?_
 repeat' first | refine wk ?_ | refine wc ?_ ?_ <;> intro h <;> try omega | fail
 ·refine c_call (s_sum d fm room ch lf p (pre ++ f :: post) hs) rfl xpkd rfl rfl ?_
  rintro v S ⟨rfl, rfl⟩
  refine l_tell rfl ?_
  repeat' first | refine wk ?_ | refine wc ?_ ?_ <;> intro h <;> try omega | fail
  exact b_ret _ rfl (Ent.refl _) ⟨rfl, rfl⟩
 ·exact b_ret _ rfl (Ent.refl _) ⟨rfl, rfl⟩
theorem s_fits_no (d fm room : Nat) (size ch lf : Int) (p : Value) (fs : List Fl) (hl : fs.length < 16) (hs : sumF fs ≤ 1125899906842624) (h0 : 0 ≤ size) (hr : (sumF fs : Int) + size ≤ room) (hroom : room ≤ 1099511627776) :
  Spec Tryz.prog 71 [.pointer (some ⟨d, 0, none⟩), .pointer none, .int .i64 size] [dkC d fm room ch lf p, amap fm .string (flM fs), filesC fs] (fun v S => v = .int .i64 0 ∧ S = [dkC d fm room ch lf p, amap fm .string (flM fs), filesC fs]) := by
 refine spec_of Tryz.func71 rfl Tryz.results71 Tryz.ntmps71 rfl ?_
 have hlm : (flM fs).length = fs.length := by simp [flM]
 repeat' first | refine wk ?_ | refine wc ?_ ?_ <;> intro h <;> try omega | refine l_qs (by exact c_lenMap rfl xfnd rfl rfl) rfl ?_ | refine d_qs rfl (by exact c_lenMap rfl xfnd rfl rfl) rfl ?_ | refine d_gqs rfl rfl (by exact c_lenMap rfl xfnd rfl rfl) rfl ?_ | (refine n_eff ?_ ?_; · (repeat first | refine wre ?_ | refine r_cons rfl (by first | exact c_lenMap rfl xfnd rfl rfl | fail) rfl ?_ | refine r_gcons rfl rfl (by first | exact c_lenMap rfl xfnd rfl rfl | fail) rfl ?_ | exact r_nil | fail)) | fail
 refine t_draw (.eval 0 true (.eval 1 true (.eval 2 true (.eval 3 true (.eval 4 true (.eval 6 true (.eval 8 true (.eval 10 true (.eval 11 true (.eval 12 true (.eval 13 false (.eff 5 [13] (.eval 7 true (.eval 9 true (.eval 14 true (.eval 15 true .fin)))) .stop)))))))))))) rfl (by kernel_rfl) ?_
 repeat' first | refine wk ?_ | refine wc ?_ ?_ <;> intro h <;> try omega | fail
 ·refine c_call (s_sum d fm room ch lf p fs hs) rfl xpkd rfl rfl ?_
  rintro v S ⟨rfl, rfl⟩
  refine l_tell rfl ?_
  repeat' first | refine wk ?_ | refine wc ?_ ?_ <;> intro h <;> try omega | fail
  exact b_ret _ rfl (Ent.refl _) ⟨rfl, rfl⟩
 ·exact b_ret _ rfl (Ent.refl _) ⟨rfl, rfl⟩
theorem s_may_noT (d fm room : Nat) (ch lf : Int) (p : Value) (fs : List Fl) (s : ByteArray) (hn : isName s) (hf : ∀ f ∈ fs, f.nm ≠ s) :
  Spec Tryz.prog 121 [.pointer (some ⟨d, 0, none⟩), .string s, .bool true] [dkC d fm room ch lf p, amap fm .string (flM fs)] (fun v S => v = .tuple #[.pointer none, .int .i64 6] ∧ S = [dkC d fm room ch lf p, amap fm .string (flM fs)]) :=
 (s_may_no d fm room ch lf p fs s true hn hf).mono fun _ _ h => h
theorem s_may_noF (d fm room : Nat) (ch lf : Int) (p : Value) (fs : List Fl) (s : ByteArray) (hn : isName s) (hf : ∀ f ∈ fs, f.nm ≠ s) :
  Spec Tryz.prog 121 [.pointer (some ⟨d, 0, none⟩), .string s, .bool false] [dkC d fm room ch lf p, amap fm .string (flM fs)] (fun v S => v = .tuple #[.pointer none, .int .i64 0] ∧ S = [dkC d fm room ch lf p, amap fm .string (flM fs)]) :=
 (s_may_no d fm room ch lf p fs s false hn hf).mono fun _ _ h => h
theorem own_some {a : Option Addr} {n c e z : Nat} {els : List (List Value)} {S : List Asn} (hn : 1 ≤ n) : ∀ h, star (own a n c e z els :: S) h → ∃ b, a = some ⟨b, 0, none⟩ ∧ n ≤ c := fun h hs => by
 obtain ⟨h1, h2, d, s1, s2, ⟨q1, q2, q3, q4, q5⟩, r⟩ := hs
 rcases q5 with ⟨_, hc⟩ | ⟨b, sp, ha, _⟩
 ·omega
 ·exact ⟨b, ha, q3⟩
theorem layB_pad (bs ys : List Nat) (at_ k : Nat) (h1 : at_ ≤ bs.length) (h2 : k ≤ at_ + ys.length - bs.length) : layB (bs ++ List.replicate k 0) at_ ys = layB bs at_ ys := by
 unfold layB
 rw [List.take_append_of_le_length h1]
 congr 1
 by_cases hk : k = 0
 ·subst hk; simp
 ·rw [List.drop_of_length_le (by simp; omega), List.drop_of_length_le (by omega)]
theorem s_lay (A : Asn) (a a2 : Option Addr) (n c m c2 at_ : Nat) (bs ys : List Nat) (hr : Rds [A] a2 m 1 (vb ys)) (hy : ys.length = m) (hb : bs.length = n) (h1 : at_ ≤ n) (h2 : 1 ≤ m) (h3 : at_ + m ≤ 1099511627776) (hn : n ≤ 1099511627776) :
  Spec Tryz.prog 78 [.slice a n c, .int .i64 at_, .slice a2 m c2] [own a n c 5 1 (vb bs), A] (fun v S => ∃ (a' : Option Addr) (n' c' : Nat), v = .slice a' n' c' ∧ (layB bs at_ ys).length = n' ∧ S = [own a' n' c' 5 1 (vb (layB bs at_ ys)), A]) := by
 refine spec_of Tryz.func78 rfl Tryz.results78 Tryz.ntmps78 rfl ?_
 repeat' first | refine wk ?_ | refine wc ?_ ?_ <;> intro h <;> try omega | fail
 refine t_same [own a (n + 0) c 5 1 (vb (bs ++ List.replicate 0 0)), A] (by simp) ?_
 refine t_loop (fun mm env S => ∃ (k : Nat) (a' : Option Addr) (c' : Nat), k ≤ at_ + m - n ∧ mm = at_ + m - n - k ∧ env = [(0, .slice a' (n + k) c'), (1, .int .i64 (at_ : Int)), (2, .slice a2 m c2)] ∧ S = [own a' (n + k) c' 5 1 (vb (bs ++ List.replicate k 0)), A]) (at_ + m - n) _ _ ⟨0, a, c, by omega, by omega, rfl, rfl⟩ xlss (Ent.refl _) ?_
 rintro mm env S ⟨k, a', c', hk, rfl, rfl, rfl⟩
 by_cases hlt : n + k < at_ + m
 ·repeat' first | refine wk ?_ | refine wc ?_ ?_ <;> intro h <;> try omega | fail
  refine o_buildSlice rfl rfl rfl rfl rfl rfl rfl rfl rfl rfl rfl rfl fun pb => ?_
  repeat' first | refine wk ?_ | refine wc ?_ ?_ <;> intro h <;> try omega | fail
  refine c_append rfl rfl xhol (own_rds xfnd) rfl rfl rfl rfl rfl (by show (n + k + 1) * 1 ≤ _; omega) (by omega) rfl fun a3 c3 => ?_
  refine l_tell rfl ?_
  repeat' first | refine wk ?_ | refine wc ?_ ?_ <;> intro h <;> try omega | fail
  have e : vb (bs ++ List.replicate k 0) ++ [[Value.int .u8 0]] = vb (bs ++ List.replicate (k + 1) 0) := by
   rw [List.replicate_succ', ← List.append_assoc]; simp [vb]
  refine ⟨rfl, at_ + m - n - (k + 1), _, _, by omega, ⟨k + 1, a3, c3, by omega, rfl, rfl, rfl⟩, xlss, ?_⟩
  rw [← e]
  exact Ent.pick xpkd
 ·refine t_pure (own_some (by omega)) ?_
  rintro ⟨b, rfl, hc⟩
  have hlen : (bs ++ List.replicate k 0).length = n + k := by simp [hb]
  repeat' first | refine wk ?_ | refine wc ?_ ?_ <;> intro h <;> try omega | fail
  refine c_copy (n := n + k - at_) (bs := bs ++ List.replicate k 0) (ys := ys) (lo := 0 + at_ * 1) rfl rfl xhol (hr.up xpkd) (by omega) (by omega) rfl ?_
  rw [show 0 + at_ * 1 = at_ by omega]
  refine l_tell rfl ?_
  repeat' first | refine wk ?_ | refine wc ?_ ?_ <;> intro h <;> try omega | fail
  rw [layB_pad bs ys at_ k (by omega) (by omega)]
  refine b_ret _ rfl (Ent.refl _) ⟨_, _, _, rfl, ?_, rfl⟩
  rw [← layB_pad bs ys at_ k (by omega) (by omega), layB_len (by omega), hlen]
end Go.Ox
end
