/- WholeKept, part 22. No condition. -/
import Derived.Test.YtonpakokjgloaaaGreatOx21
set_option linter.all false
section
set_option maxRecDepth 100000
set_option maxHeartbeats 800000
namespace Go.Ox
open Go Go.Proofs
theorem ent_pgE (cs : List CI) (x : CI) : Ent [pgC x, pgsC cs] [pgsC (cs ++ [x])] := by
 have := ent_pg' cs [] x
 rwa [List.append_nil] at this
theorem s_crelease (cc L d cap mp room fu : Nat) (rd : Int) (pre post : List CI) (x : CI) (F : Fs) (hn : ((pre ++ x :: post).map (·.k)).Nodup) (hl : (pre ++ x :: post).length ≤ 100000) (hb : x.bs.length = 256) (hk : x.k < 1048576) (hr : F.tot + 512 * (x.k + 1) ≤ room) (hroom : room ≤ 1099511627776) :
  Spec Tryz.prog 270 [.pointer (some ⟨cc, 0, none⟩), .int .i64 x.k] [caC cc L d cap mp rd, lruC L cap ((pre ++ x :: post).map CI.it), amap mp kInt (pgM (pre ++ x :: post)), pgsC (pre ++ x :: post), dskC d room F (fu + 256 * (x.k + 1))]
   (fun v S => v = .int .i64 0 ∧ S = [caC cc L d cap mp rd, lruC L cap ((pre ++ post).map CI.it), amap mp kInt (pgM (pre ++ post)), pgsC (pre ++ post), dskC d room (wrF F x) fu]) := by
 refine spec_of Tryz.func270 rfl Tryz.results270 Tryz.ntmps270 rfl ?_
 repeat' first | refine wk ?_ | refine wc ?_ ?_ <;> intro h <;> try omega | fail
 refine c_call (s_cwrite cc L d cap mp room fu rd pre post x F hn hl hb hk hr hroom) rfl xpkd rfl rfl ?_
 rintro v S ⟨rfl, rfl⟩
 refine l_tell rfl ?_
 rw [itM_mid]
 repeat' first | refine wk ?_ | refine wc ?_ ?_ <;> intro h <;> try omega | fail
 refine c_call (s_drop L cap (pre.map CI.it) (post.map CI.it) (CI.it { x with m := false })) rfl xpkd rfl rfl ?_
 rintro v S ⟨rfl, rfl⟩
 refine l_tell rfl ?_
 repeat' first | refine wk ?_ | refine wc ?_ ?_ <;> intro h <;> try omega | fail
 refine c_delete rfl rfl xhol rfl rfl rfl rfl rfl rfl (pgM_mid pre post x) ?_
 refine l_tell rfl ?_
 repeat' first | refine wk ?_ | refine wc ?_ ?_ <;> intro h <;> try omega | fail
 refine b_ret [caC cc L d cap mp rd, lruC L cap ((pre ++ post).map CI.it), amap mp kInt (pgM (pre ++ post)), pgsC (pre ++ post), dskC d room (wrF F x) fu] rfl ?_ ⟨rfl, rfl⟩
 rw [List.map_append]
 exact (Ent.pick (Pre := [pgsC (pre ++ x :: post), lruC L cap (pre.map CI.it ++ post.map CI.it), caC cc L d cap mp rd, amap mp kInt (pgM (pre ++ post)), dskC d room (wrF F x) fu]) xpkd).trans (((ent_pg pre post x).frame _).trans (Ent.pick xpkd))
def roomL (cap : Nat) (cs : List CI) : List CI := if cs.length < cap then cs else cs.tail
def roomF (cap : Nat) (cs : List CI) (F : Fs) : Fs := if cs.length < cap then F else match cs with | [] => F | x :: _ => wrF F x
theorem s_croom (cc L d cap mp room fu n : Nat) (rd : Int) (cs : List CI) (F : Fs) (hc : 1 ≤ cap) (hcap : cap ≤ 100000) (hn : (cs.map (·.k)).Nodup) (hl : cs.length ≤ cap) (ho : ∀ x ∈ cs, 1 ≤ x.k ∧ x.k < n ∧ x.bs.length = 256) (hnn : n ≤ 1048576) (hr : F.tot + 512 * n ≤ room) (hroom : room ≤ 1099511627776) :
  Spec Tryz.prog 343 [.pointer (some ⟨cc, 0, none⟩)] [caC cc L d cap mp rd, lruC L cap (cs.map CI.it), amap mp kInt (pgM cs), pgsC cs, dskC d room F (fu + 256 * n)]
   (fun v S => v = .int .i64 0 ∧ S = [caC cc L d cap mp rd, lruC L cap ((roomL cap cs).map CI.it), amap mp kInt (pgM (roomL cap cs)), pgsC (roomL cap cs), dskC d room (roomF cap cs F) fu]) := by
 refine spec_of Tryz.func343 rfl Tryz.results343 Tryz.ntmps343 rfl ?_
 have hlm : (pgM cs).length = cs.length := by simp [pgM]
 refine t_seq ?_
 repeat' first | refine wk ?_ | refine wc ?_ ?_ <;> intro h <;> try omega | fail
 refine t_draw (.eval 0 true (.eval 1 true (.eval 2 true (.eval 3 false (.eval 4 false (.eval 5 true (.eval 6 true (.eval 7 true (.eval 8 false (.eval 9 true .fin)))))))))) rfl (by kernel_rfl) ?_
 by_cases hlt : cs.length < cap
 ·have e1 : roomL cap cs = cs := by unfold roomL; rw [if_pos hlt]
  have e2 : roomF cap cs F = F := by unfold roomF; rw [if_pos hlt]
  rw [e1, e2]
  repeat' first | refine wk ?_ | refine wc ?_ ?_ <;> intro h <;> try omega | refine l_qs (by exact c_lenMap rfl xfnd rfl rfl) rfl ?_ | refine d_qs rfl (by exact c_lenMap rfl xfnd rfl rfl) rfl ?_ | refine d_gqs rfl rfl (by exact c_lenMap rfl xfnd rfl rfl) rfl ?_ | (refine n_eff ?_ ?_; · (repeat first | refine wre ?_ | refine r_cons rfl (by first | exact c_lenMap rfl xfnd rfl rfl | fail) rfl ?_ | refine r_gcons rfl rfl (by first | exact c_lenMap rfl xfnd rfl rfl | fail) rfl ?_ | exact r_nil | fail)) | fail
  exact b_ret [caC cc L d cap mp rd, lruC L cap (cs.map CI.it), amap mp kInt (pgM cs), pgsC cs, dskC d room F fu] rfl ((Ent.pick (Pre := [dskC d room F (fu + 256 * n), caC cc L d cap mp rd, lruC L cap (cs.map CI.it), amap mp kInt (pgM cs), pgsC cs]) xpkd).trans ((ent_less (fu + 256 * n) fu (by omega) _).trans (Ent.pick xpkd))) ⟨rfl, rfl⟩
 ·cases cs with
  | nil => simp at hlt; omega
  | cons x post =>
   have e1 : roomL cap (x :: post) = post := by unfold roomL; rw [if_neg hlt]; rfl
   have e2 : roomF cap (x :: post) F = wrF F x := by unfold roomF; rw [if_neg hlt]
   obtain ⟨o1, o2, o3⟩ := ho x (by simp)
   rw [e1, e2]
   repeat' first | refine wk ?_ | refine wc ?_ ?_ <;> intro h <;> try omega | refine l_qs (by exact c_lenMap rfl xfnd rfl rfl) rfl ?_ | refine d_qs rfl (by exact c_lenMap rfl xfnd rfl rfl) rfl ?_ | refine d_gqs rfl rfl (by exact c_lenMap rfl xfnd rfl rfl) rfl ?_ | (refine n_eff ?_ ?_; · (repeat first | refine wre ?_ | refine r_cons rfl (by first | exact c_lenMap rfl xfnd rfl rfl | fail) rfl ?_ | refine r_gcons rfl rfl (by first | exact c_lenMap rfl xfnd rfl rfl | fail) rfl ?_ | exact r_nil | fail)) | fail
   refine c_call (s_oldest L cap x.it (post.map CI.it)) rfl xpkd rfl rfl ?_
   rintro v S ⟨rfl, rfl⟩
   refine l_tell rfl ?_
   repeat' first | refine wk ?_ | refine wc ?_ ?_ <;> intro h <;> try omega | fail
   refine l_ent (S' := [dskC d room F (fu + 256 * (x.k + 1)), lruC L cap ((x :: post).map CI.it), caC cc L d cap mp rd, amap mp kInt (pgM (x :: post)), pgsC (x :: post)]) ((Ent.pick (Pre := [dskC d room F (fu + 256 * n), lruC L cap ((x :: post).map CI.it), caC cc L d cap mp rd, amap mp kInt (pgM (x :: post)), pgsC (x :: post)]) xpkd).trans (ent_less (fu + 256 * n) (fu + 256 * (x.k + 1)) (by omega) _)) ?_
   refine c_call (s_crelease cc L d cap mp room fu rd [] post x F hn (by simp at hl ⊢; omega) o3 (by omega) (by omega) hroom) rfl xpkd rfl rfl ?_
   rintro v S ⟨rfl, rfl⟩
   refine l_tell rfl ?_
   repeat' first | refine wk ?_ | refine wc ?_ ?_ <;> intro h <;> try omega | fail
   exact b_ret _ rfl (Ent.refl _) ⟨rfl, rfl⟩
theorem roomL_len {cap : Nat} {cs : List CI} (hc : 1 ≤ cap) (hl : cs.length ≤ cap) : (roomL cap cs).length < cap := by
 unfold roomL
 split
 ·assumption
 ·rw [List.length_tail]; omega
theorem roomL_mem {cap : Nat} {cs : List CI} {x : CI} (h : x ∈ roomL cap cs) : x ∈ cs := by
 unfold roomL at h
 split at h
 ·exact h
 ·exact List.mem_of_mem_tail h
theorem s_ctake (A : Asn) (cc L d cap mp room fu n k : Nat) (rd : Int) (cs : List CI) (F : Fs) (a2 : Option Addr) (c2 : Nat) (bs : List Nat) (hA : Rds [A] a2 256 1 (vb bs)) (hc : 1 ≤ cap) (hcap : cap ≤ 100000) (hn : (cs.map (·.k)).Nodup) (hl : cs.length ≤ cap) (ho : ∀ x ∈ cs, 1 ≤ x.k ∧ x.k < n ∧ x.bs.length = 256) (hnn : n ≤ 1048576) (hk : ∀ x ∈ cs, x.k ≠ k) (hr : F.tot + 512 * n ≤ room) (hroom : room ≤ 1099511627776) :
  Spec Tryz.prog 276 [.pointer (some ⟨cc, 0, none⟩), .int .i64 k, .slice a2 256 c2] [caC cc L d cap mp rd, lruC L cap (cs.map CI.it), amap mp kInt (pgM cs), pgsC cs, dskC d room F (fu + 256 * n), A]
   (fun v S => ∃ x : CI, x.k = k ∧ x.m = false ∧ x.bs = bs ∧ v = .int .i64 0 ∧ S = [caC cc L d cap mp rd, lruC L cap ((roomL cap cs ++ [x]).map CI.it), amap mp kInt (pgM (roomL cap cs ++ [x])), pgsC (roomL cap cs ++ [x]), dskC d room (roomF cap cs F) fu, A]) := by
 refine spec_of Tryz.func276 rfl Tryz.results276 Tryz.ntmps276 rfl ?_
 repeat' first | refine wk ?_ | refine wc ?_ ?_ <;> intro h <;> try omega | fail
 refine c_call (s_croom cc L d cap mp room fu n rd cs F hc hcap hn hl ho hnn hr hroom) rfl xpkd rfl rfl ?_
 rintro v S ⟨rfl, rfl⟩
 refine l_tell rfl ?_
 repeat' first | refine wk ?_ | refine wc ?_ ?_ <;> intro h <;> try omega | fail
 refine c_call (s_lruAdd L cap k ((roomL cap cs).map CI.it) (fun y hy => by obtain ⟨x, hx, rfl⟩ := List.mem_map.1 hy; exact hk x (roomL_mem hx)) (by rw [List.length_map]; exact roomL_len hc hl)) rfl xpkd rfl rfl ?_
 rintro v S ⟨b, rfl, rfl⟩
 refine l_tell rfl ?_
 repeat' first | refine wk ?_ | refine wc ?_ ?_ <;> intro h <;> try omega | fail
 refine t_draw (.eval 0 true (.eval 1 true (.eval 2 true (.eval 3 false (.eval 4 true (.eval 6 true (.eff 5 [3] (.eff 7 [3] (.eff 8 [] .fin .stop) .stop) .stop))))))) rfl (by kernel_rfl) ?_
 repeat' first | refine wk ?_ | refine wc ?_ ?_ <;> intro h <;> try omega | fail
 refine o_buildSlice rfl rfl rfl rfl rfl rfl rfl rfl rfl rfl rfl rfl fun pb => ?_
 repeat' first | refine wk ?_ | refine wc ?_ ?_ <;> intro h <;> try omega | fail
 refine c_append rfl rfl xhol (hA.up xpkd) rfl rfl rfl rfl rfl (by show (0 + 256) * 1 ≤ _; omega) (by omega) rfl fun a5 c5 => ?_
 repeat' first | refine wk ?_ | refine wc ?_ ?_ <;> intro h <;> try omega | fail
 refine c_mapAdd rfl rfl rfl xhol rfl rfl rfl rfl rfl (pgM_no fun x hx => hk x (roomL_mem hx)) ?_
 refine l_tell rfl ?_
 repeat' first | refine wk ?_ | refine wc ?_ ?_ <;> intro h <;> try omega | fail
 refine b_ret [caC cc L d cap mp rd, lruC L cap ((roomL cap cs ++ [(CI.mk k b false a5 c5 bs)]).map CI.it), amap mp kInt (pgM (roomL cap cs ++ [(CI.mk k b false a5 c5 bs)])), pgsC (roomL cap cs ++ [(CI.mk k b false a5 c5 bs)]), dskC d room (roomF cap cs F) fu, A] rfl ?_ ⟨(CI.mk k b false a5 c5 bs), rfl, rfl, rfl, rfl, rfl⟩
 rw [List.map_append]
 refine (Ent.pick (Pre := [amap mp kInt ((.int .i64 (k : Int), .slice a5 256 c5) :: pgM (roomL cap cs)), pgC (CI.mk k b false a5 c5 bs), pgsC (roomL cap cs), caC cc L d cap mp rd, lruC L cap ((roomL cap cs).map CI.it ++ [CI.it (CI.mk k b false a5 c5 bs)]), dskC d room (roomF cap cs F) fu, A]) xpkd).trans ?_
 refine (Ent.fold (A := amap mp kInt (pgM (roomL cap cs ++ [(CI.mk k b false a5 c5 bs)]))) (L := [_]) (fun h hs => by
  obtain ⟨h1, _, _, s, _, ha, _⟩ := hs
  refine amap_perm ?_ (amap_sub s ha)
  unfold pgM
  rw [List.map_append]
  exact (List.perm_append_singleton _ _).symm)).trans ?_
 refine (Ent.cons _ ((ent_pgE (roomL cap cs) (CI.mk k b false a5 c5 bs)).frame _)).trans (Ent.pick xpkd)
end Go.Ox
end
section
set_option maxRecDepth 100000
set_option maxHeartbeats 800000
namespace Go.Ox
open Go Go.Proofs
theorem s_drop_no (L cap k : Nat) (l : List It) (hk : ∀ x ∈ l, x.k ≠ k) :
  Spec Tryz.prog 101 [.pointer (some ⟨L, 0, none⟩), .int .i64 k] [lruC L cap l] (fun v S => v = .bool false ∧ S = [lruC L cap l]) := by
 refine spec_of Tryz.func101 rfl Tryz.results101 Tryz.ntmps101 rfl ?_
 refine t_open lru_open .here fun mp _ => ?_
 refine t_tell rfl ?_
 repeat' first | refine wk ?_ | refine wc ?_ ?_ <;> intro h <;> try omega | fail
 refine c_call (s_find_no L cap mp l k hk) rfl xpkd rfl rfl ?_
 rintro v S ⟨rfl, rfl⟩
 refine l_tell rfl ?_
 repeat' first | refine wk ?_ | refine wc ?_ ?_ <;> intro h <;> try omega | fail
 exact b_ret _ rfl (Ent.close lru_close xpkd) ⟨rfl, rfl⟩
structure SK where
 cc : Nat
 d : Nat
 room : Nat
 cap : Nat
 n : Nat
 o : Option (List Nat)
 t : Option (List Nat)
 j : Option (List Nat)
def SK.ok (K : SK) : Prop := 1 ≤ K.cap ∧ K.cap ≤ 100000 ∧ 1 ≤ K.n ∧ K.n ≤ 1048576 ∧ lenO K.o + lenO K.t + lenO K.j + 768 * K.n ≤ K.room ∧ K.room ≤ 1099511627776
def SK.F (K : SK) (s : Option (List Nat)) : Fs := ⟨K.o, s, K.t, K.j⟩
structure StR where
 L : Nat
 mp : Nat
 rd : Int
 cs : List CI
 s : Option (List Nat)
def stL (K : SK) (fu : Nat) (r : StR) : List Asn := [caC K.cc r.L K.d K.cap r.mp r.rd, lruC r.L K.cap (r.cs.map CI.it), amap r.mp kInt (pgM r.cs), pgsC r.cs, dskC K.d K.room (K.F r.s) fu]
def stP (K : SK) (pg : Nat → Option (List Nat)) (sl : Nat) (r : StR) : Prop := Coh r.cs (byO r.s) pg K.n K.cap ∧ sl ≤ (byO r.s).length
def stC (K : SK) (pg : Nat → Option (List Nat)) (sl fu : Nat) : Asn := fun h => ∃ r : StR, stP K pg sl r ∧ star (stL K fu r) h
theorem st_open {K : SK} {pg : Nat → Option (List Nat)} {sl fu : Nat} : ∀ h, stC K pg sl fu h → ∃ r : StR, stP K pg sl r ∧ star (stL K fu r) h := fun _ h => h
theorem st_close {K : SK} {pg : Nat → Option (List Nat)} {sl fu : Nat} (r : StR) (hr : stP K pg sl r) : ∀ h, star (stL K fu r) h → stC K pg sl fu h := fun _ h => ⟨r, hr, h⟩
def wrS (s : Option (List Nat)) (x : CI) : Option (List Nat) := if x.m then some (wr (byO s) x.k x.bs) else s
theorem wrF_F (K : SK) (s : Option (List Nat)) (x : CI) : wrF (K.F s) x = K.F (wrS s x) := by
 unfold wrF wrS; split <;> rfl
def roomS (cap : Nat) (cs : List CI) (s : Option (List Nat)) : Option (List Nat) := if cs.length < cap then s else match cs with | [] => s | x :: _ => wrS s x
theorem roomF_F (K : SK) (cap : Nat) (cs : List CI) (s : Option (List Nat)) : roomF cap cs (K.F s) = K.F (roomS cap cs s) := by
 unfold roomF roomS
 split
 ·rfl
 ·cases cs with
  | nil => rfl
  | cons x cs => exact wrF_F K s x
theorem wrS_len {s : Option (List Nat)} {x : CI} (hb : x.bs.length = 256) : (byO s).length ≤ (byO (wrS s x)).length := by
 unfold wrS; split
 ·show _ ≤ (wr _ _ _).length
  rw [wr_length _ _ _ hb]; omega
 ·exact Nat.le_refl _
theorem coh_release {pre post : List CI} {x : CI} {s : Option (List Nat)} {pg : Nat → Option (List Nat)} {n cap : Nat} (h : Coh (pre ++ x :: post) (byO s) pg n cap) : Coh (pre ++ post) (byO (wrS s x)) pg n cap := by
 unfold wrS
 split
 ·exact Coh.drop (x := { x with m := false }) h.write rfl
 ·rename_i hm
  exact h.drop (by cases hx : x.m with | false => rfl | true => exact absurd hx hm)
theorem coh_room {cs : List CI} {s : Option (List Nat)} {pg : Nat → Option (List Nat)} {n cap : Nat} (h : Coh cs (byO s) pg n cap) : Coh (roomL cap cs) (byO (roomS cap cs s)) pg n cap ∧ (byO s).length ≤ (byO (roomS cap cs s)).length := by
 unfold roomL roomS
 split
 ·exact ⟨h, Nat.le_refl _⟩
 ·cases cs with
  | nil => exact ⟨h, Nat.le_refl _⟩
  | cons x cs => exact ⟨coh_release (pre := []) h, wrS_len (h.ok x (by simp)).2.2⟩
theorem tot_le {K : SK} (hK : K.ok) {s : Option (List Nat)} (hs : (byO s).length ≤ 256 * K.n) : (K.F s).tot + 512 * K.n ≤ K.room := by
 obtain ⟨h1, h2, h3, h4, h5, h6⟩ := hK
 have := lenO_byO s
 simp only [SK.F, Fs.tot]; omega
theorem pgM_perm {cs cs' : List CI} (hp : cs.Perm cs') : (pgM cs).Perm (pgM cs') := hp.map _
theorem itM_snoc (pre post : List CI) (x : CI) : (pre ++ post ++ [x]).map CI.it = pre.map CI.it ++ post.map CI.it ++ [x.it] := by simp
theorem amap_permE {b : Nat} {kd : TypeDesc} {l l' : List (Value × Value)} (hp : l.Perm l') (R : List Asn) : Ent (amap b kd l :: R) (amap b kd l' :: R) :=
 Ent.fold (L := [_]) fun h hs => by
  obtain ⟨h1, _, _, s, _, ha, _⟩ := hs
  exact amap_perm hp (amap_sub s ha)
theorem s_get (K : SK) (hK : K.ok) (pg : Nat → Option (List Nat)) (sl fu no : Nat) (b : List Nat) (hp : pg no = some b) :
  Spec Tryz.prog 208 [.pointer (some ⟨K.cc, 0, none⟩), .int .i64 no] [stC K pg sl (fu + 256 * K.n)] (fun v S => ∃ a c, v = .tuple #[.slice a 256 c, .int .i64 0] ∧ S = [own a 256 c 5 1 (vb b), stC K pg sl fu]) := by
 refine spec_of Tryz.func208 rfl Tryz.results208 Tryz.ntmps208 rfl ?_
 refine t_open st_open .here fun r hr => ?_
 obtain ⟨hco, hsl⟩ := hr
 have hK' := hK
 obtain ⟨k1, k2, k3, k4, k5, k6⟩ := hK
 obtain ⟨p1, p2, p3, p4, p5⟩ := hco.known no b hp
 refine t_tell rfl ?_
 by_cases hres : ∃ x ∈ r.cs, x.k = no
 ·obtain ⟨x, hx, rfl⟩ := hres
  obtain ⟨pre, post, hcs⟩ := List.append_of_mem hx
  have hxb := p4 x hx rfl
  rw [hcs] at hco ⊢
  rw [itM_mid]
  repeat' first | refine wk ?_ | refine wc ?_ ?_ <;> intro h <;> try omega | fail
  refine c_call (s_use r.L K.cap (pre.map CI.it) (post.map CI.it) x.it) rfl xpkd rfl rfl ?_
  rintro v S ⟨rfl, rfl⟩
  refine l_tell rfl ?_
  repeat' first | refine wk ?_ | refine wc ?_ ?_ <;> intro h <;> try omega | fail
  refine o_buildSlice rfl rfl rfl rfl rfl rfl rfl rfl rfl rfl rfl rfl fun pb => ?_
  refine l_ent (S' := [pgsC (pre ++ x :: post), own (some ⟨pb, 0, none⟩) 0 0 5 1 [], lruC r.L K.cap (pre.map CI.it ++ post.map CI.it ++ [x.it]), caC K.cc r.L K.d K.cap r.mp r.rd, amap r.mp kInt (pgM (pre ++ x :: post)), dskC K.d K.room (K.F r.s) (fu + 256 * K.n)]) (Ent.pick xpkd) ?_
  refine l_ent ((ent_pg pre post x).frame _) ?_
  refine l_tell rfl ?_
  repeat' first | refine wk ?_ | refine wc ?_ ?_ <;> intro h <;> try omega | refine l_qs (by exact c_lookup (ok := false) rfl rfl xfnd rfl rfl rfl rfl rfl pgM_mem) rfl ?_ | refine d_qs rfl (by exact c_lookup (ok := false) rfl rfl xfnd rfl rfl rfl rfl rfl pgM_mem) rfl ?_ | refine d_gqs rfl rfl (by exact c_lookup (ok := false) rfl rfl xfnd rfl rfl rfl rfl rfl pgM_mem) rfl ?_ | (refine n_eff ?_ ?_; · (repeat first | refine wre ?_ | refine r_cons rfl (by first | exact c_lookup (ok := false) rfl rfl xfnd rfl rfl rfl rfl rfl pgM_mem | fail) rfl ?_ | refine r_gcons rfl rfl (by first | exact c_lookup (ok := false) rfl rfl xfnd rfl rfl rfl rfl rfl pgM_mem | fail) rfl ?_ | exact r_nil | fail)) | fail
  refine c_append rfl rfl xhol (own_rds (a := x.a) (n := 256) (c := x.c) (els := vb x.bs) xfnd) rfl rfl rfl rfl rfl (by show (0 + 256) * 1 ≤ _; omega) (by omega) rfl fun a5 c5 => ?_
  repeat' first | refine wk ?_ | refine wc ?_ ?_ <;> intro h <;> try omega | fail
  rw [hxb]
  have hperm : (pre ++ x :: post).Perm (pre ++ post ++ [x]) := List.perm_middle.trans (List.perm_append_singleton _ _).symm
  refine b_ret [own a5 256 c5 5 1 (vb b), stC K pg sl fu] rfl ?_ ⟨a5, c5, rfl, rfl⟩
  refine (Ent.pick (Pre := [own a5 256 c5 5 1 (vb b), dskC K.d K.room (K.F r.s) (fu + 256 * K.n), amap r.mp kInt (pgM (pre ++ x :: post)), pgC x, pgsC (pre ++ post), lruC r.L K.cap (pre.map CI.it ++ post.map CI.it ++ [x.it]), caC K.cc r.L K.d K.cap r.mp r.rd]) xpkd).trans ?_
  refine Ent.cons _ ?_
  refine (ent_less (fu + 256 * K.n) fu (by omega) _).trans ?_
  refine (Ent.cons _ (amap_permE (pgM_perm hperm) _)).trans ?_
  refine (Ent.cons _ (Ent.cons _ ((ent_pgE (pre ++ post) x).frame _))).trans ?_
  refine Ent.close (L := stL K fu ⟨r.L, r.mp, r.rd, pre ++ post ++ [x], r.s⟩) (st_close _ ⟨hco.perm hperm, hsl⟩) ?_
  show Pick _ [caC K.cc r.L K.d K.cap r.mp r.rd, lruC r.L K.cap ((pre ++ post ++ [x]).map CI.it), amap r.mp kInt (pgM (pre ++ post ++ [x])), pgsC (pre ++ post ++ [x]), dskC K.d K.room (K.F r.s) fu] _
  rw [itM_snoc]
  exact xpkd
 ·have hno : ∀ x ∈ r.cs, x.k ≠ no := fun x hx e => hres ⟨x, hx, e⟩
  have hon : onD (byO r.s) no b := by
   rcases p5 with p5 | ⟨x, hx, e, _⟩
   ·exact p5
   ·exact absurd e (hno x hx)
  obtain ⟨st, hst⟩ : ∃ st, r.s = some st := by
   cases hs : r.s with
   | some st => exact ⟨st, rfl⟩
   | none => rw [hs] at hon; have := hon.1; simp [byO] at this
  have hstl := hco.stl
  have hget : (K.F r.s).get .s = some st := hst
  have hbst : byO r.s = st := by rw [hst]; rfl
  rw [hbst] at hon hstl
  repeat' first | refine wk ?_ | refine wc ?_ ?_ <;> intro h <;> try omega | fail
  refine c_call (s_use_no r.L K.cap no (r.cs.map CI.it) (fun y hy => by obtain ⟨x, hx, rfl⟩ := List.mem_map.1 hy; exact hno x hx)) rfl xpkd rfl rfl ?_
  rintro v S ⟨rfl, rfl⟩
  refine l_tell rfl ?_
  repeat' first | refine wk ?_ | refine wc ?_ ?_ <;> intro h <;> try omega | fail
  refine t_draw (.eval 0 true (.eval 1 true (.eval 2 true (.eval 3 false (.eval 4 true (.eval 5 true (.eval 6 true (.eval 7 false (.eval 8 true (.eval 9 true (.eff 10 [] (.eval 11 true (.eval 12 true (.eval 13 true (.eff 14 [] (.eff 15 [] .fin .stop) .stop)))) .stop))))))))))) rfl (by kernel_rfl) ?_
  repeat' first | refine wk ?_ | refine wc ?_ ?_ <;> intro h <;> try omega | fail
  refine c_call (s_read4 K.d K.room (fu + 256 * K.n) (K.F r.s) .s st hget (no * 256) 256 (by have := hon.1; omega) (by omega)) rfl xpkd rfl rfl ?_
  rintro v S ⟨a, c, rfl, rfl⟩
  refine l_tell rfl ?_
  have hpg : (st.drop (no * 256)).take 256 = b := by rw [Nat.mul_comm]; exact hon.2
  rw [hpg]
  repeat' first | refine wk ?_ | refine wc ?_ ?_ <;> intro h <;> try omega | fail
  refine c_call (s_ctake (own a 256 c 5 1 (vb b)) K.cc r.L K.d K.cap r.mp K.room fu K.n no r.rd r.cs (K.F r.s) a c b (Rds.own 0 rfl) k1 k2 hco.nodup hco.len hco.ok k4 hno (tot_le hK' hco.stl) k6) rfl xpkd rfl rfl ?_
  rintro v S ⟨x, rfl, hxm, hxb, rfl, rfl⟩
  refine l_tell rfl ?_
  rw [roomF_F]
  repeat' first | refine l_qp (by (apply q_arith; exact rfl; exact rfl; exact rfl)) rfl ?_ | refine d_qp rfl (by (apply q_arith; exact rfl; exact rfl; exact rfl)) rfl ?_ | refine d_gqp rfl rfl (by (apply q_arith; exact rfl; exact rfl; exact rfl)) rfl ?_ | refine wk ?_ | refine wc ?_ ?_ <;> intro h <;> try omega | fail
  obtain ⟨c1, c2⟩ := coh_room hco
  refine b_ret [own a 256 c 5 1 (vb b), stC K pg sl fu] rfl ?_ ⟨a, c, rfl, rfl⟩
  refine (Ent.pick (Pre := [own a 256 c 5 1 (vb b), caC K.cc r.L K.d K.cap r.mp (IntKind.wrap .i64 (r.rd + 1)), lruC r.L K.cap ((roomL K.cap r.cs ++ [x]).map CI.it), amap r.mp kInt (pgM (roomL K.cap r.cs ++ [x])), pgsC (roomL K.cap r.cs ++ [x]), dskC K.d K.room (K.F (roomS K.cap r.cs r.s)) fu]) xpkd).trans (Ent.cons _ ?_)
  exact Ent.close (L := stL K fu ⟨r.L, r.mp, IntKind.wrap .i64 (r.rd + 1), roomL K.cap r.cs ++ [x], roomS K.cap r.cs r.s⟩) (st_close _ ⟨c1.add (fun y hy => hno y (roomL_mem hy)) (roomL_len k1 hco.len) p1 p2 (by rw [hxb]; exact p3) (fun b' hb' => by rw [hp] at hb'; cases hb'; exact hxb), Nat.le_trans hsl c2⟩) xpkd
end Go.Ox
end
section
set_option maxRecDepth 100000
set_option maxHeartbeats 800000
namespace Go.Ox
open Go Go.Proofs
theorem layB_all (bs ys : List Nat) (h : bs.length = ys.length) : layB bs 0 ys = ys := by
 unfold layB
 rw [List.take_zero, List.nil_append, List.drop_of_length_le (by omega), List.append_nil]
theorem s_put (A : Asn) (K : SK) (hK : K.ok) (pg : Nat → Option (List Nat)) (sl fu no : Nat) (a2 : Option Addr) (c2 : Nat) (b : List Nat) (hA : Rds [A] a2 256 1 (vb b)) (hb : b.length = 256) (h1 : 1 ≤ no) (h2 : no < K.n) :
  Spec Tryz.prog 224 [.pointer (some ⟨K.cc, 0, none⟩), .int .i64 no, .slice a2 256 c2] [stC K pg sl (fu + 256 * K.n), A] (fun v S => v = .int .i64 0 ∧ S = [stC K (updP pg no (some b)) sl fu, A]) := by
 refine spec_of Tryz.func224 rfl Tryz.results224 Tryz.ntmps224 rfl ?_
 refine t_open st_open .here fun r hr => ?_
 obtain ⟨hco, hsl⟩ := hr
 have hK' := hK
 obtain ⟨k1, k2, k3, k4, k5, k6⟩ := hK
 refine t_tell rfl ?_
 by_cases hres : ∃ x ∈ r.cs, x.k = no
 ·obtain ⟨x, hx, rfl⟩ := hres
  obtain ⟨pre, post, hcs⟩ := List.append_of_mem hx
  have hperm : (pre ++ x :: post).Perm (pre ++ post ++ [x]) := List.perm_middle.trans (List.perm_append_singleton _ _).symm
  rw [hcs] at hco ⊢
  rw [itM_mid]
  repeat' first | refine wk ?_ | refine wc ?_ ?_ <;> intro h <;> try omega | fail
  refine c_call (s_use r.L K.cap (pre.map CI.it) (post.map CI.it) x.it) rfl xpkd rfl rfl ?_
  rintro v S ⟨rfl, rfl⟩
  refine l_tell rfl ?_
  refine l_ent (S' := [pgsC (pre ++ x :: post), A, lruC r.L K.cap (pre.map CI.it ++ post.map CI.it ++ [x.it]), caC K.cc r.L K.d K.cap r.mp r.rd, amap r.mp kInt (pgM (pre ++ x :: post)), dskC K.d K.room (K.F r.s) (fu + 256 * K.n)]) (Ent.pick xpkd) ?_
  refine l_ent ((ent_pg pre post x).frame _) ?_
  refine l_fact (p := (∃ b, x.a = some ⟨b, 0, none⟩ ∧ 256 ≤ x.c) ∧ x.bs.length = 256) (fun h hs => ⟨own_some (by omega) h hs, by obtain ⟨_, _, _, _, _, ⟨q1, _⟩, _⟩ := hs; simpa [vb] using q1⟩) ?_
  rintro ⟨⟨xb, hxa, hxc⟩, hxl⟩
  refine l_same [own (some ⟨xb, 0, none⟩) 256 x.c 5 1 (vb x.bs), pgsC (pre ++ post), A, lruC r.L K.cap (pre.map CI.it ++ post.map CI.it ++ [x.it]), caC K.cc r.L K.d K.cap r.mp r.rd, amap r.mp kInt (pgM (pre ++ x :: post)), dskC K.d K.room (K.F r.s) (fu + 256 * K.n)] (by rw [← hxa]; rfl) ?_
  repeat' first | refine wk ?_ | refine wc ?_ ?_ <;> intro h <;> try omega | refine l_qs (by exact c_lookup (ok := false) rfl rfl xfnd rfl rfl rfl rfl rfl pgM_mem) rfl ?_ | fail
  rw [hxa]
  refine c_copy (n := 256) (bs := x.bs) (ys := b) (lo := 0) rfl rfl xhol (hA.up xpkd) (by omega) (by omega) rfl ?_
  rw [layB_all x.bs b (by omega)]
  refine l_tell rfl ?_
  repeat' first | refine wk ?_ | refine wc ?_ ?_ <;> intro h <;> try omega | fail
  refine c_call (s_mark r.L K.cap (pre.map CI.it ++ post.map CI.it) [] x.it true) rfl xpkd rfl rfl ?_
  rintro v S ⟨rfl, rfl⟩
  refine l_tell rfl ?_
  repeat' first | refine wk ?_ | refine wc ?_ ?_ <;> intro h <;> try omega | fail
  have hput := (hco.put b hb)
  have hperm2 : (pre ++ { x with m := true, bs := b } :: post).Perm (pre ++ post ++ [{ x with m := true, bs := b }]) := List.perm_middle.trans (List.perm_append_singleton _ _).symm
  refine b_ret [stC K (updP pg x.k (some b)) sl fu, A] rfl ?_ ⟨rfl, rfl⟩
  refine (Ent.pick (Pre := [dskC K.d K.room (K.F r.s) (fu + 256 * K.n), amap r.mp kInt (pgM (pre ++ x :: post)), pgC { x with a := some ⟨xb, 0, none⟩, m := true, bs := b }, pgsC (pre ++ post), lruC r.L K.cap (pre.map CI.it ++ post.map CI.it ++ [CI.it { x with m := true, bs := b }]), caC K.cc r.L K.d K.cap r.mp r.rd, A]) xpkd).trans ?_
  rw [← hxa]
  refine (ent_less (fu + 256 * K.n) fu (by omega) _).trans ?_
  rw [← pgM_mark pre post x true b]
  refine (Ent.cons _ (amap_permE (pgM_perm hperm2) _)).trans ?_
  refine (Ent.cons _ (Ent.cons _ ((ent_pgE (pre ++ post) { x with m := true, bs := b }).frame _))).trans ?_
  refine Ent.close (L := stL K fu ⟨r.L, r.mp, r.rd, pre ++ post ++ [{ x with m := true, bs := b }], r.s⟩) (st_close _ ⟨hput.perm hperm2, hsl⟩) ?_
  show Pick _ [caC K.cc r.L K.d K.cap r.mp r.rd, lruC r.L K.cap ((pre ++ post ++ [{ x with m := true, bs := b }]).map CI.it), amap r.mp kInt (pgM (pre ++ post ++ [{ x with m := true, bs := b }])), pgsC (pre ++ post ++ [{ x with m := true, bs := b }]), dskC K.d K.room (K.F r.s) fu] _
  rw [itM_snoc]
  exact xpkd
 ·have hno : ∀ x ∈ r.cs, x.k ≠ no := fun x hx e => hres ⟨x, hx, e⟩
  repeat' first | refine wk ?_ | refine wc ?_ ?_ <;> intro h <;> try omega | fail
  refine c_call (s_use_no r.L K.cap no (r.cs.map CI.it) (fun y hy => by obtain ⟨x, hx, rfl⟩ := List.mem_map.1 hy; exact hno x hx)) rfl xpkd rfl rfl ?_
  rintro v S ⟨rfl, rfl⟩
  refine l_tell rfl ?_
  repeat' first | refine wk ?_ | refine wc ?_ ?_ <;> intro h <;> try omega | fail
  refine c_call (s_ctake A K.cc r.L K.d K.cap r.mp K.room fu K.n no r.rd r.cs (K.F r.s) a2 c2 b hA k1 k2 hco.nodup hco.len hco.ok k4 hno (tot_le hK' hco.stl) k6) rfl xpkd rfl rfl ?_
  rintro v S ⟨x, rfl, hxm, hxb, rfl, rfl⟩
  refine l_tell rfl ?_
  rw [roomF_F, List.map_append]
  repeat' first | refine wk ?_ | refine wc ?_ ?_ <;> intro h <;> try omega | fail
  refine c_call (s_mark r.L K.cap ((roomL K.cap r.cs).map CI.it) [] x.it true) rfl xpkd rfl rfl ?_
  rintro v S ⟨rfl, rfl⟩
  refine l_tell rfl ?_
  repeat' first | refine wk ?_ | refine wc ?_ ?_ <;> intro h <;> try omega | fail
  obtain ⟨c1, c2'⟩ := coh_room hco
  have hadd : Coh (roomL K.cap r.cs ++ [x]) (byO (roomS K.cap r.cs r.s)) (fun k => if k = x.k then none else pg k) K.n K.cap :=
   (c1.less (pg' := fun k => if k = x.k then none else pg k) (fun k b' h => by
    split at h
    ·cases h
    ·exact h)).add (fun y hy => hno y (roomL_mem hy)) (roomL_len k1 hco.len) h1 h2 (by rw [hxb]; exact hb) (fun b' hb' => by simp at hb')
  have hput := (Coh.put (post := []) hadd b hb).less (pg' := updP pg x.k (some b)) (fun k b' h => by
   unfold updP at h ⊢
   split at h
   ·rename_i e; rw [if_pos e]; exact h
   ·rename_i e
    rw [if_neg e]
    show (if k = x.k then none else pg k) = some b'
    rw [if_neg e]; exact h)
  have hxe : ({ x with m := true, bs := b } : CI) = { x with m := true } := by rw [← hxb]
  rw [hxe] at hput
  refine b_ret [stC K (updP pg x.k (some b)) sl fu, A] rfl ?_ ⟨rfl, rfl⟩
  refine (Ent.pick (Pre := [amap r.mp kInt (pgM (roomL K.cap r.cs ++ [x])), pgsC (roomL K.cap r.cs ++ [x]), caC K.cc r.L K.d K.cap r.mp r.rd, lruC r.L K.cap ((roomL K.cap r.cs).map CI.it ++ [CI.it { x with m := true }]), dskC K.d K.room (K.F (roomS K.cap r.cs r.s)) fu, A]) xpkd).trans ?_
  have e1 : pgM (roomL K.cap r.cs ++ [x]) = pgM (roomL K.cap r.cs ++ [{ x with m := true }]) := by simp [pgM]
  have e2 : pgsC (roomL K.cap r.cs ++ [x]) = pgsC (roomL K.cap r.cs ++ [{ x with m := true }]) := by
   unfold pgsC; rw [List.map_append, List.map_append]; rfl
  rw [e1, e2]
  refine Ent.close (L := stL K fu ⟨r.L, r.mp, r.rd, roomL K.cap r.cs ++ [{ x with m := true }], roomS K.cap r.cs r.s⟩) (st_close _ ⟨hput, Nat.le_trans hsl c2'⟩) ?_
  show Pick _ [caC K.cc r.L K.d K.cap r.mp r.rd, lruC r.L K.cap ((roomL K.cap r.cs ++ [{ x with m := true }]).map CI.it), amap r.mp kInt (pgM (roomL K.cap r.cs ++ [{ x with m := true }])), pgsC (roomL K.cap r.cs ++ [{ x with m := true }]), dskC K.d K.room (K.F (roomS K.cap r.cs r.s)) fu] _
  rw [List.map_append]
  exact xpkd
theorem Coh.forget_no {cs : List CI} {st : List Nat} {pg : Nat → Option (List Nat)} {n cap : Nat} (h : Coh cs st pg n cap) (k : Nat) : Coh cs st (updP pg k none) n cap :=
 h.less fun j b hj => by
  unfold updP at hj
  split at hj
  ·cases hj
  ·exact hj
theorem s_forget (K : SK) (pg : Nat → Option (List Nat)) (sl fu no : Nat) :
  Spec Tryz.prog 52 [.pointer (some ⟨K.cc, 0, none⟩), .int .i64 no] [stC K pg sl fu] (fun _ S => S = [stC K (updP pg no none) sl fu]) := by
 refine spec_of Tryz.func52 rfl Tryz.results52 Tryz.ntmps52 rfl ?_
 refine t_open st_open .here fun r hr => ?_
 obtain ⟨hco, hsl⟩ := hr
 refine t_tell rfl ?_
 by_cases hres : ∃ x ∈ r.cs, x.k = no
 ·obtain ⟨x, hx, rfl⟩ := hres
  obtain ⟨pre, post, hcs⟩ := List.append_of_mem hx
  rw [hcs] at hco ⊢
  rw [itM_mid]
  repeat' first | refine wk ?_ | refine wc ?_ ?_ <;> intro h <;> try omega | fail
  refine c_call (s_drop r.L K.cap (pre.map CI.it) (post.map CI.it) x.it) rfl xpkd rfl rfl ?_
  rintro v S ⟨rfl, rfl⟩
  refine l_tell rfl ?_
  repeat' first | refine wk ?_ | refine wc ?_ ?_ <;> intro h <;> try omega | fail
  refine c_delete rfl rfl xhol rfl rfl rfl rfl rfl rfl (pgM_mid pre post x) ?_
  refine l_tell rfl ?_
  repeat' first | refine wk ?_ | refine wc ?_ ?_ <;> intro h <;> try omega | fail
  refine b_ret [stC K (updP pg x.k none) sl fu] rfl ?_ rfl
  refine (Ent.pick (Pre := [pgsC (pre ++ x :: post), lruC r.L K.cap (pre.map CI.it ++ post.map CI.it), caC K.cc r.L K.d K.cap r.mp r.rd, amap r.mp kInt (pgM (pre ++ post)), dskC K.d K.room (K.F r.s) fu]) xpkd).trans ?_
  refine ((ent_pg pre post x).frame _).trans ((Ent.drop _ _).trans ?_)
  refine Ent.close (L := stL K fu ⟨r.L, r.mp, r.rd, pre ++ post, r.s⟩) (st_close _ ⟨hco.forget, hsl⟩) ?_
  show Pick _ [caC K.cc r.L K.d K.cap r.mp r.rd, lruC r.L K.cap ((pre ++ post).map CI.it), amap r.mp kInt (pgM (pre ++ post)), pgsC (pre ++ post), dskC K.d K.room (K.F r.s) fu] _
  rw [List.map_append]
  exact xpkd
 ·have hno : ∀ x ∈ r.cs, x.k ≠ no := fun x hx e => hres ⟨x, hx, e⟩
  repeat' first | refine wk ?_ | refine wc ?_ ?_ <;> intro h <;> try omega | fail
  refine c_call (s_drop_no r.L K.cap no (r.cs.map CI.it) (fun y hy => by obtain ⟨x, hx, rfl⟩ := List.mem_map.1 hy; exact hno x hx)) rfl xpkd rfl rfl ?_
  rintro v S ⟨rfl, rfl⟩
  refine l_tell rfl ?_
  repeat' first | refine wk ?_ | refine wc ?_ ?_ <;> intro h <;> try omega | fail
  exact b_ret [stC K (updP pg no none) sl fu] rfl (Ent.close (L := stL K fu r) (st_close _ ⟨hco.forget_no no, hsl⟩) xpkd) rfl
end Go.Ox
end
