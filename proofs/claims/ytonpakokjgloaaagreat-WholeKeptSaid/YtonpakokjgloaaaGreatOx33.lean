/- WholeKept, part 33. No condition. -/
import Derived.Test.YtonpakokjgloaaaGreatOx25
import Derived.Test.YtonpakokjgloaaaGreatOx28
import Derived.Test.YtonpakokjgloaaaGreatOx32
set_option linter.all false
section
set_option maxRecDepth 100000
set_option maxHeartbeats 1600000
namespace Go.Ox
open Go Go.Proofs
def vaC (V cc s T d : Nat) (tv lv : Value) (pa : Option Addr) (pn pc cur : Nat) (su nx : Su) (ka : Option Addr) (kn kc : Nat) : Asn :=
 cellsAt V 146 [.pointer (some ⟨cc, 0, none⟩), .pointer (some ⟨s, 0, none⟩), .pointer (some ⟨T, 0, none⟩), .pointer (some ⟨d, 0, none⟩), tv, lv, .slice pa pn pc, .int .i64 (cur : Int),
  .int .i64 (su.g : Int), .int .i64 (su.r : Int), .int .i64 (su.c : Int), .int .i64 (su.t : Int), .int .i64 (su.o : Int),
  .int .i64 (nx.g : Int), .int .i64 (nx.r : Int), .int .i64 (nx.c : Int), .int .i64 (nx.t : Int), .int .i64 (nx.o : Int), .slice ka kn kc]
def rpg (pg : Nat → Option (List Nat)) (keep : List Nat) : Nat → Option (List Nat) := fun k => if k ∈ keep then pg k else none
theorem ent_stpg {K : SK} {pg pg' : Nat → Option (List Nat)} {sl fu : Nat} (h : ∀ k b, pg' k = some b → pg k = some b) (R : List Asn) : Ent (stC K pg sl fu :: R) (stC K pg' sl fu :: R) := Ent.fold (L := [_]) fun x hx => by
 obtain ⟨h1, _, _, s1, _, ⟨r, hr, hs⟩, _⟩ := hx
 exact ⟨r, ⟨hr.1.less h, hr.2⟩, star_mono hs s1⟩
theorem s_vonly (V T s tk B : Nat) (K : SK) (pg : Nat → Option (List Nat)) (sl fu : Nat) (us ks : List Nat) (tv lv : Value) (pa : Option Addr) (pn pc cur : Nat) (su nx : Su) (ka : Option Addr) (kc : Nat)
  (hu : us.length ≤ 1000000) (hb : ∀ k ∈ us, k + 1 ≤ B) (hB : B ≤ 1048576) (hks : ks.length ≤ 1000) (hkr : ∀ k ∈ su.r :: ks, 1 ≤ k ∧ k < 1048576) :
  Spec Tryz.prog 257 [.pointer (some ⟨V, 0, none⟩)] [vaC V K.cc s T K.d tv lv pa pn pc cur su nx ka ks.length kc, own ka ks.length kc 3 1 (natsV ks), spC s us tk, stC K pg sl fu]
   (fun v S => ∃ us', (∀ k, k ∈ us' ↔ k ∈ su.r :: ks) ∧ us'.length ≤ ks.length + 1 ∧ v = .int .i64 0 ∧ S = [vaC V K.cc s T K.d tv lv pa pn pc cur su nx ka ks.length kc, own ka ks.length kc 3 1 (natsV ks), spC s us' 0, stC K (rpg pg (su.r :: ks)) sl fu]) := by
 refine spec_of Tryz.func257 rfl Tryz.results257 Tryz.ntmps257 rfl ?_
 repeat' first | refine wk ?_ | refine wc ?_ ?_ <;> intro h <;> try omega | fail
 refine t_draw (id := 1) (.eval 0 true (.eval 1 true (.eval 2 true (.eval 3 true (.eval 4 false (.eval 6 true (.eval 7 true (.eval 8 true (.eval 9 false (.eff 5 [9] (.eff 10 [4] (.eff 11 [] .fin .stop) .stop) .stop)))))))))) rfl (by kernel_rfl) ?_
 repeat' first | refine wk ?_ | refine wc ?_ ?_ <;> intro h <;> try omega | fail
 refine o_buildSlice rfl rfl rfl rfl rfl rfl rfl rfl rfl rfl rfl rfl fun pb => ?_
 repeat' first | refine wk ?_ | refine wc ?_ ?_ <;> intro h <;> try omega | fail
 refine c_append rfl rfl xhol (own_rds (a := ka) (n := ks.length) (c := kc) (els := natsV ks) xfnd) rfl rfl rfl rfl rfl (by show (1 + ks.length) * 8 ≤ _; omega) (by omega) rfl fun a3 c3 => ?_
 have hal : (su.r :: ks).length = 1 + ks.length := by simp; omega
 refine l_same [own a3 (1 + ks.length) c3 3 1 (natsV (su.r :: ks)), vaC V K.cc s T K.d tv lv pa pn pc cur su nx ka ks.length kc, own ka ks.length kc 3 1 (natsV ks), spC s us tk, stC K pg sl fu] rfl ?_
 generalize hall : su.r :: ks = all at *
 rw [← hal]
 refine l_fact (own_some (by omega)) ?_
 rintro ⟨b3, rfl, _⟩
 repeat' first | refine wk ?_ | refine wc ?_ ?_ <;> intro h <;> try omega | fail
 refine c_makeMap rfl rfl rfl rfl rfl fun mb => ?_
 repeat' first | refine wk ?_ | refine wc ?_ ?_ <;> intro h <;> try omega | fail
 refine t_loop (fun mm env S => ∃ (i : Nat) (kp : List Nat), i ≤ all.length ∧ mm = all.length - i ∧ (∀ k, k ∈ kp ↔ k ∈ all.take i) ∧ env = [(0, .pointer (some ⟨V, 0, none⟩)), (3, .slice (some ⟨b3, 0, none⟩) all.length c3), (4, .map (some mb)), (22, .slice (some ⟨b3, 0, none⟩) all.length c3), (23, .int .i64 (all.length : Int)), (24, .int .i64 (i : Int))] ∧ S = [own (some ⟨b3, 0, none⟩) all.length c3 3 1 (natsV all), amap mb kInt (usM kp), vaC V K.cc s T K.d tv lv pa pn pc cur su nx ka ks.length kc, own ka ks.length kc 3 1 (natsV ks), spC s us tk, stC K pg sl fu]) all.length _ _ ⟨0, [], by omega, by omega, (fun k => by simp), rfl, rfl⟩ xlss (Ent.pick xpkd) ?_
 rintro mm env S ⟨i, kp, hi, rfl, hkp, rfl, rfl⟩
 by_cases hin : i < all.length
 ·repeat' first | refine wk ?_ | refine wc ?_ ?_ <;> intro h <;> try omega | refine l_qs (by exact q_loadRd (j := i) (f := 0) (r := [.int .i64 (all[i] : Int)]) (own_rds (a := some ⟨b3, 0, none⟩) (n := all.length) (c := c3) (els := natsV all) xfnd) rfl (by omega) rfl rfl (by simp [natsV, List.getElem?_eq_getElem hin]) rfl) rfl ?_ | refine d_qs rfl (by exact q_loadRd (j := i) (f := 0) (r := [.int .i64 (all[i] : Int)]) (own_rds (a := some ⟨b3, 0, none⟩) (n := all.length) (c := c3) (els := natsV all) xfnd) rfl (by omega) rfl rfl (by simp [natsV, List.getElem?_eq_getElem hin]) rfl) rfl ?_ | refine d_gqs rfl rfl (by exact q_loadRd (j := i) (f := 0) (r := [.int .i64 (all[i] : Int)]) (own_rds (a := some ⟨b3, 0, none⟩) (n := all.length) (c := c3) (els := natsV all) xfnd) rfl (by omega) rfl rfl (by simp [natsV, List.getElem?_eq_getElem hin]) rfl) rfl ?_ | (refine n_eff ?_ ?_; · (repeat first | refine wre ?_ | refine r_cons rfl (by first | exact q_loadRd (j := i) (f := 0) (r := [.int .i64 (all[i] : Int)]) (own_rds (a := some ⟨b3, 0, none⟩) (n := all.length) (c := c3) (els := natsV all) xfnd) rfl (by omega) rfl rfl (by simp [natsV, List.getElem?_eq_getElem hin]) rfl | fail) rfl ?_ | refine r_gcons rfl rfl (by first | exact q_loadRd (j := i) (f := 0) (r := [.int .i64 (all[i] : Int)]) (own_rds (a := some ⟨b3, 0, none⟩) (n := all.length) (c := c3) (els := natsV all) xfnd) rfl (by omega) rfl rfl (by simp [natsV, List.getElem?_eq_getElem hin]) rfl | fail) rfl ?_ | exact r_nil | fail)) | fail
  refine c_usPut (k := all[i]) rfl rfl rfl xhol fun kp2 g1 _ => ?_
  refine l_tell rfl ?_
  repeat' first | refine wk ?_ | refine wc ?_ ?_ <;> intro h <;> try omega | fail
  refine ⟨rfl, all.length - (i + 1), _, _, by omega, ⟨i + 1, kp2, by omega, rfl, fun k => ?_, rfl, rfl⟩, xlss, Ent.pick xpkd⟩
  rw [g1, hkp, List.take_add_one, List.getElem?_eq_getElem hin, List.mem_append]
  simp only [Option.toList_some, List.mem_singleton]; exact or_comm
 ·have hie : i = all.length := by omega
  subst hie
  rw [List.take_length] at hkp
  repeat' first | refine wk ?_ | refine wc ?_ ?_ <;> intro h <;> try omega | fail
  refine c_call (s_spUsed s tk B us hu hb hB) rfl xpkd rfl rfl ?_
  rintro v S ⟨a4, c4, out, hok, hol, rfl, rfl⟩
  refine l_tell rfl ?_
  repeat' first | refine wk ?_ | refine wc ?_ ?_ <;> intro h <;> try omega | fail
  refine t_loop (fun mm env S => ∃ (i : Nat) (pg1 : Nat → Option (List Nat)), i ≤ out.length ∧ mm = out.length - i ∧ (∀ k ∈ all, pg1 k = pg k) ∧ env = [(0, .pointer (some ⟨V, 0, none⟩)), (3, .slice (some ⟨b3, 0, none⟩) all.length c3), (4, .map (some mb)), (36, .slice a4 out.length c4), (37, .int .i64 (out.length : Int)), (38, .int .i64 (i : Int))] ∧ S = [own a4 out.length c4 187 2 (rgV out), stC K pg1 sl fu, own (some ⟨b3, 0, none⟩) all.length c3 3 1 (natsV all), amap mb kInt (usM kp), vaC V K.cc s T K.d tv lv pa pn pc cur su nx ka ks.length kc, own ka ks.length kc 3 1 (natsV ks), spC s us tk]) out.length _ _ ⟨0, pg, by omega, by omega, (fun _ _ => rfl), rfl, rfl⟩ xlss (Ent.pick xpkd) ?_
  rintro mm env S ⟨i, pg1, hi, rfl, hpg1, rfl, rfl⟩
  by_cases hin2 : i < out.length
  ·obtain ⟨g1, g2, g3⟩ := hok _ (List.getElem_mem hin2)
   have hgo := rgV_get hin2
   generalize out[i] = r at *
   obtain ⟨r1, r2⟩ := r
   simp only [] at g1 g2 g3 hgo
   refine t_pure (own_some (by omega)) ?_
   rintro ⟨b4, rfl, _⟩
   repeat' first | refine wb fun _ => ?_ | refine wk ?_ | refine wc ?_ ?_ <;> intro h <;> try omega | refine l_qs (by exact q_loadRdA (j := i) (own_rds (a := some ⟨b4, 0, none⟩) (n := out.length) (c := c4) (els := rgV out) xfnd) rfl rfl rfl rfl rfl hgo) rfl ?_ | refine d_qs rfl (by exact q_loadRdA (j := i) (own_rds (a := some ⟨b4, 0, none⟩) (n := out.length) (c := c4) (els := rgV out) xfnd) rfl rfl rfl rfl rfl hgo) rfl ?_ | refine d_gqs rfl rfl (by exact q_loadRdA (j := i) (own_rds (a := some ⟨b4, 0, none⟩) (n := out.length) (c := c4) (els := rgV out) xfnd) rfl rfl rfl rfl rfl hgo) rfl ?_ | (refine n_eff ?_ ?_; · (repeat first | refine wre ?_ | refine r_cons rfl (by first | exact q_loadRdA (j := i) (own_rds (a := some ⟨b4, 0, none⟩) (n := out.length) (c := c4) (els := rgV out) xfnd) rfl rfl rfl rfl rfl hgo | fail) rfl ?_ | refine r_gcons rfl rfl (by first | exact q_loadRdA (j := i) (own_rds (a := some ⟨b4, 0, none⟩) (n := out.length) (c := c4) (els := rgV out) xfnd) rfl rfl rfl rfl rfl hgo | fail) rfl ?_ | exact r_nil | fail)) | fail
   rename_i r8
   refine t_loop (fun mm env S => ∃ (no : Nat) (pg1 : Nat → Option (List Nat)), (no : Int) ≤ r2 ∧ mm = (r2 - no).toNat ∧ (∀ k ∈ all, pg1 k = pg k) ∧ env = [(0, .pointer (some ⟨V, 0, none⟩)), (3, .slice (some ⟨b3, 0, none⟩) all.length c3), (4, .map (some mb)), (8, .pointer (some ⟨r8, 0, none⟩)), (9, .int .i64 (no : Int)), (36, .slice (some ⟨b4, 0, none⟩) out.length c4), (37, .int .i64 (out.length : Int)), (38, .int .i64 (i : Int))] ∧ S = [stC K pg1 sl fu, cellsAt r8 187 [.int .i64 r1, .int .i64 r2], own (some ⟨b4, 0, none⟩) out.length c4 187 2 (rgV out), own (some ⟨b3, 0, none⟩) all.length c3 3 1 (natsV all), amap mb kInt (usM kp), vaC V K.cc s T K.d tv lv pa pn pc cur su nx ka ks.length kc, own ka ks.length kc 3 1 (natsV ks), spC s us tk]) (r2 - r1).toNat _ _ ⟨r1.toNat, pg1, by omega, by omega, hpg1, rfl, rfl⟩ (by rw [Int.toNat_of_nonneg g1]; exact xlss) (Ent.pick xpkd) ?_
   rintro mm env S ⟨no, pg2, h1, rfl, hpg2, rfl, rfl⟩
   by_cases hlt : (no : Int) < r2
   ·by_cases hk : no ∈ kp
    ·repeat' first | refine wk ?_ | refine wc ?_ ?_ <;> intro h <;> try omega | refine l_qs (by exact c_lookup (ok := false) rfl rfl xfnd rfl rfl rfl rfl rfl (usM_mem hk)) rfl ?_ | refine d_qs rfl (by exact c_lookup (ok := false) rfl rfl xfnd rfl rfl rfl rfl rfl (usM_mem hk)) rfl ?_ | refine d_gqs rfl rfl (by exact c_lookup (ok := false) rfl rfl xfnd rfl rfl rfl rfl rfl (usM_mem hk)) rfl ?_ | (refine n_eff ?_ ?_; · (repeat first | refine wre ?_ | refine r_cons rfl (by first | exact c_lookup (ok := false) rfl rfl xfnd rfl rfl rfl rfl rfl (usM_mem hk) | fail) rfl ?_ | refine r_gcons rfl rfl (by first | exact c_lookup (ok := false) rfl rfl xfnd rfl rfl rfl rfl rfl (usM_mem hk) | fail) rfl ?_ | exact r_nil | fail)) | fail
     exact ⟨rfl, (r2 - ((no + 1 : Nat) : Int)).toNat, _, _, by omega, ⟨no + 1, pg2, by omega, rfl, hpg2, rfl, rfl⟩, xlss, Ent.pick xpkd⟩
    ·repeat' first | refine wk ?_ | refine wc ?_ ?_ <;> intro h <;> try omega | refine l_qs (by exact c_lookup_no (ok := false) rfl rfl xfnd rfl rfl rfl rfl rfl rfl (usM_no hk)) rfl ?_ | refine d_qs rfl (by exact c_lookup_no (ok := false) rfl rfl xfnd rfl rfl rfl rfl rfl rfl (usM_no hk)) rfl ?_ | refine d_gqs rfl rfl (by exact c_lookup_no (ok := false) rfl rfl xfnd rfl rfl rfl rfl rfl rfl (usM_no hk)) rfl ?_ | (refine n_eff ?_ ?_; · (repeat first | refine wre ?_ | refine r_cons rfl (by first | exact c_lookup_no (ok := false) rfl rfl xfnd rfl rfl rfl rfl rfl rfl (usM_no hk) | fail) rfl ?_ | refine r_gcons rfl rfl (by first | exact c_lookup_no (ok := false) rfl rfl xfnd rfl rfl rfl rfl rfl rfl (usM_no hk) | fail) rfl ?_ | exact r_nil | fail)) | fail
     refine c_call (s_forget K pg2 sl fu no) rfl xpkd rfl rfl ?_
     rintro v S rfl
     refine l_tell rfl ?_
     repeat' first | refine wk ?_ | refine wc ?_ ?_ <;> intro h <;> try omega | fail
     refine ⟨rfl, (r2 - ((no + 1 : Nat) : Int)).toNat, _, _, by omega, ⟨no + 1, updP pg2 no none, by omega, rfl, fun k hka => ?_, rfl, rfl⟩, xlss, Ent.pick xpkd⟩
     unfold updP
     rw [if_neg (fun e => hk (by rw [← e]; exact (hkp k).2 hka))]
     exact hpg2 k hka
   ·repeat' first | refine wk ?_ | refine wc ?_ ?_ <;> intro h <;> try omega | fail
    exact ⟨rfl, out.length - (i + 1), _, _, by omega, ⟨i + 1, pg2, by omega, rfl, hpg2, rfl, rfl⟩, xlss, Ent.pick xpkd⟩
  ·repeat' first | refine wk ?_ | refine wc ?_ ?_ <;> intro h <;> try omega | fail
   refine c_call (s_spKeep (own (some ⟨b3, 0, none⟩) all.length c3 3 1 (natsV all)) s tk us (some ⟨b3, 0, none⟩) all.length c3 all (Rds.own 0 rfl) rfl hkr (by omega)) rfl xpkd rfl rfl ?_
   rintro v S ⟨us', k1, k2, rfl, rfl⟩
   refine l_tell rfl ?_
   repeat' first | refine wk ?_ | refine wc ?_ ?_ <;> intro h <;> try omega | fail
   refine b_ret [vaC V K.cc s T K.d tv lv pa pn pc cur su nx ka ks.length kc, own ka ks.length kc 3 1 (natsV ks), spC s us' 0, stC K (rpg pg all) sl fu] rfl ?_ ⟨us', k1, by omega, rfl, rfl⟩
   refine (Ent.pick (Pre := [stC K pg1 sl fu, vaC V K.cc s T K.d tv lv pa pn pc cur su nx ka ks.length kc, own ka ks.length kc 3 1 (natsV ks), spC s us' 0]) xpkd).trans ((ent_stpg (pg' := rpg pg all) (fun k b hkb => ?_) _).trans (Ent.pick xpkd))
   unfold rpg at hkb
   split at hkb
   ·rename_i hm; rw [hpg1 k hm]; exact hkb
   ·cases hkb
end Go.Ox
end
section
set_option maxRecDepth 100000
set_option maxHeartbeats 1600000
namespace Go.Ox
open Go Go.Proofs
def su0 : Su := ⟨0, 0, 0, 0, 0⟩
theorem s_vadopt (A : Asn) (V T s tk B t : Nat) (K : SK) (pg : Nat → Option (List Nat)) (sl fu : Nat) (us ks : List Nat) (vs : List Vn) (l : Nat) (pa : Option Addr) (pn pc cur : Nat) (su nx su' : Su) (ka ka' : Option Addr) (kn kc kc' : Nat) (a : Option Addr) (n c : Nat)
  (hA : Rds [A] a n 2 (vsV vs)) (hn : n ≤ 1000) (hsu : su'.o ≤ 1048576) (hu : us.length ≤ 1000000) (hb : ∀ k ∈ us, k + 1 ≤ B) (hB : B ≤ 1048576) (hks : ks.length ≤ 1000) (hkr : ∀ k ∈ su'.r :: ks, 1 ≤ k ∧ k < 1048576) :
  Spec Tryz.prog 184 [.pointer (some ⟨V, 0, none⟩), su'.v, .slice a n c, .slice ka' ks.length kc'] [vaC V K.cc s T K.d (.pointer (some ⟨t, 0, none⟩)) (.pointer (some ⟨l, 0, none⟩)) pa pn pc cur su nx ka kn kc, own ka' ks.length kc' 3 1 (natsV ks), spC s us tk, stC K pg sl fu, A]
   (fun v S => ∃ us' pa' pc', (∀ k, k ∈ us' ↔ k ∈ su'.r :: ks) ∧ us'.length ≤ ks.length + 1 ∧ v = .int .i64 0 ∧ S = [vaC V K.cc s T K.d (.pointer (some ⟨t, 0, none⟩)) (.pointer (some ⟨l, 0, none⟩)) pa' n pc' su'.c su' su0 ka' ks.length kc', own pa' n pc' 182 2 (vsV vs), own ka' ks.length kc' 3 1 (natsV ks), spC s us' 0, stC K (rpg pg (su'.r :: ks)) sl fu, A]) := by
 refine spec_of Tryz.func184 rfl Tryz.results184 Tryz.ntmps184 rfl ?_
 show Trip _ _ _ _ (numF 0 [.pointer (some ⟨V, 0, none⟩), .agg #[.int .i64 (su'.g : Int), .int .i64 (su'.r : Int), .int .i64 (su'.c : Int), .int .i64 (su'.t : Int), .int .i64 (su'.o : Int)], .slice a n c, .slice ka' ks.length kc']) _ _
 repeat' first | refine wk ?_ | refine wc ?_ ?_ <;> intro h <;> try omega | fail
 refine o_box rfl rfl rfl fun b5 => ?_
 repeat' first | refine wk ?_ | refine wc ?_ ?_ <;> intro h <;> try omega | fail
 refine t_draw (id := 7) (.eval 0 true (.eval 2 true (.eval 4 true (.eval 5 false (.eff 1 [5] (.eff 3 [5] (.eval 6 true (.eval 7 true (.eval 8 true (.eff 9 [] .fin .stop)))) .stop) .stop))))) rfl (by kernel_rfl) ?_
 repeat' first | refine wk ?_ | refine wc ?_ ?_ <;> intro h <;> try omega | fail
 refine o_buildSlice rfl rfl rfl rfl rfl rfl rfl rfl rfl rfl rfl rfl fun pb => ?_
 repeat' first | refine wk ?_ | refine wc ?_ ?_ <;> intro h <;> try omega | fail
 refine c_append rfl rfl xhol (hA.up xpkd) rfl rfl rfl rfl rfl (by show (0 + n) * 16 ≤ _; omega) (by omega) rfl fun pa' pc' => ?_
 rw [Nat.zero_add, List.nil_append]
 repeat' first | refine wk ?_ | refine wc ?_ ?_ <;> intro h <;> try omega | fail
 refine c_call (s_vonly V T s tk B K pg sl fu us ks (.pointer (some ⟨t, 0, none⟩)) (.pointer (some ⟨l, 0, none⟩)) pa' n pc' su'.c su' su0 ka' kc' hu hb hB hks hkr) rfl xpkd rfl rfl ?_
 rintro v S ⟨us', k1, k2, rfl, rfl⟩
 refine l_tell rfl ?_
 repeat' first | refine wk ?_ | refine wc ?_ ?_ <;> intro h <;> try omega | fail
 exact b_ret [vaC V K.cc s T K.d (.pointer (some ⟨t, 0, none⟩)) (.pointer (some ⟨l, 0, none⟩)) pa' n pc' su'.c su' su0 ka' ks.length kc', own pa' n pc' 182 2 (vsV vs), own ka' ks.length kc' 3 1 (natsV ks), spC s us' 0, stC K (rpg pg (su'.r :: ks)) sl fu, A] rfl (Ent.pick xpkd) ⟨us', pa', pc', k1, k2, rfl, rfl⟩
theorem s_vadopt0 (A : Asn) (V T s tk B t : Nat) (K : SK) (pg : Nat → Option (List Nat)) (sl fu : Nat) (us ks : List Nat) (vs : List Vn) (pa : Option Addr) (pn pc cur : Nat) (su nx su' : Su) (ka ka' : Option Addr) (kn kc kc' : Nat) (a : Option Addr) (n c : Nat)
  (hA : Rds [A] a n 2 (vsV vs)) (hn : n ≤ 1000) (hsu : su'.o ≤ 1048576) (hu : us.length ≤ 1000000) (hb : ∀ k ∈ us, k + 1 ≤ B) (hB : B ≤ 1048576) (hks : ks.length ≤ 1000) (hkr : ∀ k ∈ su'.r :: ks, 1 ≤ k ∧ k < 1048576) :
  Spec Tryz.prog 184 [.pointer (some ⟨V, 0, none⟩), su'.v, .slice a n c, .slice ka' ks.length kc'] [vaC V K.cc s T K.d (.pointer (some ⟨t, 0, none⟩)) (.pointer none) pa pn pc cur su nx ka kn kc, own ka' ks.length kc' 3 1 (natsV ks), spC s us tk, stC K pg sl fu, A]
   (fun v S => ∃ l x mp us' pa' pc', (∀ k, k ∈ us' ↔ k ∈ su'.r :: ks) ∧ us'.length ≤ ks.length + 1 ∧ v = .int .i64 0 ∧ S = [vaC V K.cc s T K.d (.pointer (some ⟨t, 0, none⟩)) (.pointer (some ⟨l, 0, none⟩)) pa' n pc' su'.c su' su0 ka' ks.length kc', own pa' n pc' 182 2 (vsV vs), own ka' ks.length kc' 3 1 (natsV ks), spC s us' 0, stC K (rpg pg (su'.r :: ks)) sl fu, A, lnC l T x t, ixC x K.d mp su'.o, amap mp kInt []]) := by
 refine spec_of Tryz.func184 rfl Tryz.results184 Tryz.ntmps184 rfl ?_
 show Trip _ _ _ _ (numF 0 [.pointer (some ⟨V, 0, none⟩), .agg #[.int .i64 (su'.g : Int), .int .i64 (su'.r : Int), .int .i64 (su'.c : Int), .int .i64 (su'.t : Int), .int .i64 (su'.o : Int)], .slice a n c, .slice ka' ks.length kc']) _ _
 repeat' first | refine wk ?_ | refine wc ?_ ?_ <;> intro h <;> try omega | fail
 refine o_box rfl rfl rfl fun b5 => ?_
 repeat' first | refine wk ?_ | refine wc ?_ ?_ <;> intro h <;> try omega | fail
 refine t_draw (id := 2) (.eval 0 true (.eval 1 true (.eval 2 true (.eval 3 false (.eval 4 true (.eval 5 false (.eff 6 [] (.eval 7 true (.eval 8 true (.eval 9 true (.eff 10 [] (.eff 11 [] .fin .stop) .stop)))) .stop))))))) rfl (by kernel_rfl) ?_
 repeat' first | refine wk ?_ | refine wc ?_ ?_ <;> intro h <;> try omega | fail
 refine c_call (s_ixNew K.d su'.o hsu) rfl .nil rfl rfl ?_
 rintro v S ⟨x, mp, rfl, rfl⟩
 refine l_tell rfl ?_
 repeat' first | refine wk ?_ | refine wc ?_ ?_ <;> intro h <;> try omega | fail
 refine t_draw (id := 4) (.eval 0 true (.eval 1 true (.eval 2 true (.eval 3 true (.eval 4 true (.eval 5 false (.eval 6 true (.eval 7 true (.eval 8 true (.eval 9 true (.eval 10 false (.eff 11 [] (.eval 12 true (.eval 13 true (.eval 14 true (.eval 15 true (.eval 16 true (.eff 17 [] (.eff 18 [] .fin .stop) .stop)))))) .stop)))))))))))) rfl (by kernel_rfl) ?_
 repeat' first | refine wk ?_ | refine wc ?_ ?_ <;> intro h <;> try omega | fail
 refine c_call (s_lnNew T x t) rfl .nil rfl rfl ?_
 rintro v S ⟨l, rfl, rfl⟩
 refine l_tell rfl ?_
 repeat' first | refine wk ?_ | refine wc ?_ ?_ <;> intro h <;> try omega | fail
 refine t_draw (id := 7) (.eval 0 true (.eval 2 true (.eval 4 true (.eval 5 false (.eff 1 [5] (.eff 3 [5] (.eval 6 true (.eval 7 true (.eval 8 true (.eff 9 [] .fin .stop)))) .stop) .stop))))) rfl (by kernel_rfl) ?_
 repeat' first | refine wk ?_ | refine wc ?_ ?_ <;> intro h <;> try omega | fail
 refine o_buildSlice rfl rfl rfl rfl rfl rfl rfl rfl rfl rfl rfl rfl fun pb => ?_
 repeat' first | refine wk ?_ | refine wc ?_ ?_ <;> intro h <;> try omega | fail
 refine c_append rfl rfl xhol (hA.up xpkd) rfl rfl rfl rfl rfl (by show (0 + n) * 16 ≤ _; omega) (by omega) rfl fun pa' pc' => ?_
 rw [Nat.zero_add, List.nil_append]
 repeat' first | refine wk ?_ | refine wc ?_ ?_ <;> intro h <;> try omega | fail
 refine c_call (s_vonly V T s tk B K pg sl fu us ks (.pointer (some ⟨t, 0, none⟩)) (.pointer (some ⟨l, 0, none⟩)) pa' n pc' su'.c su' su0 ka' kc' hu hb hB hks hkr) rfl xpkd rfl rfl ?_
 rintro v S ⟨us', k1, k2, rfl, rfl⟩
 refine l_tell rfl ?_
 repeat' first | refine wk ?_ | refine wc ?_ ?_ <;> intro h <;> try omega | fail
 exact b_ret [vaC V K.cc s T K.d (.pointer (some ⟨t, 0, none⟩)) (.pointer (some ⟨l, 0, none⟩)) pa' n pc' su'.c su' su0 ka' ks.length kc', own pa' n pc' 182 2 (vsV vs), own ka' ks.length kc' 3 1 (natsV ks), spC s us' 0, stC K (rpg pg (su'.r :: ks)) sl fu, A, lnC l T x t, ixC x K.d mp su'.o, amap mp kInt []] rfl (Ent.pick xpkd) ⟨l, x, mp, us', pa', pc', k1, k2, rfl, rfl⟩
end Go.Ox
end
section
namespace Go.Ox
open Go Go.Proofs
theorem spec_frame {P : Program} {f : FuncId} {args : List Value} {Pre : List Asn} {R : Value → List Asn → Prop} (h : Spec P f args Pre R) (Fr : List Asn) : Spec P f args (Pre ++ Fr) (fun v S => ∃ S0, R v S0 ∧ S = S0 ++ Fr) :=
 fun G F w k => (h G (Fr ++ F) w (by rw [← List.append_assoc]; exact k)).mono fun e w' ⟨v, S', he, hr, hs⟩ => ⟨v, S' ++ Fr, he, ⟨S', hr, rfl⟩, by rw [List.append_assoc]; exact hs⟩
def stF (K : SK) (r : StR) : List Asn := [caC K.cc r.L K.d K.cap r.mp r.rd, lruC r.L K.cap (r.cs.map CI.it), amap r.mp kInt (pgM r.cs), pgsC r.cs]
theorem st_in (K : SK) (fu : Nat) (r : StR) (R : List Asn) : Ent (stL K fu r ++ R) (dskC K.d K.room (K.F r.s) fu :: (R ++ stF K r)) := by
 refine Ent.perm ?_
 have h1 : (stL K fu r ++ R).Perm ((dskC K.d K.room (K.F r.s) fu :: stF K r) ++ R) := List.Perm.append_right R (show (stL K fu r).Perm _ from by
  show ([caC K.cc r.L K.d K.cap r.mp r.rd, lruC r.L K.cap (r.cs.map CI.it), amap r.mp kInt (pgM r.cs), pgsC r.cs] ++ [dskC K.d K.room (K.F r.s) fu]).Perm _
  exact List.perm_append_singleton _ _)
 refine h1.trans ?_
 exact (List.perm_append_comm (l₁ := stF K r) (l₂ := R)).cons _
theorem st_out {K : SK} {pg : Nat → Option (List Nat)} {sl fu : Nat} (r : StR) (hr : stP K pg sl r) (R : List Asn) : Ent (dskC K.d K.room (K.F r.s) fu :: (R ++ stF K r)) (stC K pg sl fu :: R) := by
 have h1 : (dskC K.d K.room (K.F r.s) fu :: (R ++ stF K r)).Perm (stL K fu r ++ R) := by
  refine ((List.perm_append_comm (l₁ := R) (l₂ := stF K r)).cons _).trans ?_
  show ((dskC K.d K.room (K.F r.s) fu :: stF K r) ++ R).Perm _
  exact List.Perm.append_right R (List.perm_append_singleton _ _).symm
 exact (Ent.perm h1).trans (Ent.fold (st_close r hr))
theorem s_sthead (A : Asn) (K : SK) (hK : K.ok) (pg : Nat → Option (List Nat)) (sl fu at_ : Nat) (a2 : Option Addr) (c2 : Nat) (ys : List Nat) (hr : Rds [A] a2 64 1 (vb ys)) (hy : ys.length = 64) (hc : 64 ≤ c2) (h1 : at_ ≤ sl) (h2 : at_ ≤ 64) :
  Spec Tryz.prog 99 [.pointer (some ⟨K.d, 0, none⟩), .string (Nm.name .s), .int .i64 at_, .slice a2 64 c2] [stC K pg sl (fu + 64), A] (fun v S => v = .int .i64 0 ∧ S = [stC K pg sl fu, A]) := by
 refine Spec.ex st_open fun r hst => ?_
 obtain ⟨hco, hsl⟩ := hst
 have htot := tot_le hK hco.stl
 obtain ⟨k1, k2, k3, k4, k5, k6⟩ := hK
 have hlb := lenO_byO r.s
 have hget : (K.F r.s).get .s = r.s := rfl
 refine (spec_frame (s_write4 A K.d K.room fu at_ (K.F r.s) .s a2 64 c2 ys hr hy hc (by rw [hget]; omega) (by omega) (by omega) k6) (stF K r)).conseq (st_in K (fu + 64) r [A]) ?_
 rintro v S ⟨S0, ⟨rfl, rfl⟩, rfl⟩
 refine ⟨_, ?_, rfl, rfl⟩
 exact st_out (K := K) (pg := pg) (sl := sl) ⟨r.L, r.mp, r.rd, r.cs, some (layB (byO r.s) at_ ys)⟩ ⟨hco.head (by omega) (by omega) k3, by
  show sl ≤ (layB (byO r.s) at_ ys).length
  rw [layB_length _ _ _ (by omega)]; omega⟩ [A]
theorem s_stsync (K : SK) (hK : K.ok) (pg : Nat → Option (List Nat)) (sl fu : Nat) (h1 : 1 ≤ sl) :
  Spec Tryz.prog 173 [.pointer (some ⟨K.d, 0, none⟩), .string (Nm.name .s)] [stC K pg sl fu] (fun v S => v = .int .i64 0 ∧ S = [stC K pg sl fu]) := by
 refine Spec.ex st_open fun r hst => ?_
 obtain ⟨hco, hsl⟩ := hst
 have htot := tot_le hK hco.stl
 obtain ⟨k1, k2, k3, k4, k5, k6⟩ := hK
 have hlb := lenO_byO r.s
 have hs := hco.stl
 obtain ⟨b, hb⟩ : ∃ b, r.s = some b := by
  cases hs : r.s with
  | some b => exact ⟨b, rfl⟩
  | none => rw [hs] at hsl; simp [byO] at hsl; omega
 have hget : (K.F r.s).get .s = some b := hb
 have h := s_sync4 K.d K.room fu (K.F r.s) .s (by show lenO r.s ≤ _; omega)
 simp only [hget] at h
 refine (spec_frame h (stF K r)).conseq (st_in K fu r []) ?_
 rintro v S ⟨S0, ⟨rfl, rfl⟩, rfl⟩
 exact ⟨_, st_out r ⟨hco, hsl⟩ [], rfl, rfl⟩
theorem s_sttlAppend (A : Asn) (t : Nat) (K : SK) (hK : K.ok) (pg : Nat → Option (List Nat)) (sl fu : Nat) (a2 : Option Addr) (m c2 : Nat) (ys : List Nat) (hr : Rds [A] a2 m 1 (vb ys)) (hy : ys.length = m) (hc : m ≤ c2) (h2 : 1 ≤ m) (h3 : lenO K.t + m ≤ 512 * K.n) (h4 : lenO K.t + m ≤ 16777216) :
  Spec Tryz.prog 49 [.pointer (some ⟨t, 0, none⟩), .slice a2 m c2] [tlC t K.d (lenO K.t), stC K pg sl (fu + m), A] (fun v S => v = .tuple #[.int .i64 (lenO K.t), .int .i64 0] ∧ S = [tlC t K.d (lenO K.t + m), stC { K with t := some (byO K.t ++ ys) } pg sl fu, A]) := by
 refine Spec.pre ?_ (Ent.perm (List.Perm.swap (stC K pg sl (fu + m)) (tlC t K.d (lenO K.t)) [A]))
 refine Spec.ex st_open fun r hst => ?_
 obtain ⟨hco, hsl⟩ := hst
 have htot := tot_le hK hco.stl
 obtain ⟨k1, k2, k3, k4, k5, k6⟩ := hK
 have hlb := lenO_byO r.s
 refine (spec_frame (s_tlAppend A t K.d K.room fu (K.F r.s) a2 m c2 ys hr hy hc h2 (by show (K.F r.s).tot + lenO K.t + m ≤ _; omega) k6 (by show lenO K.t + m ≤ _; omega)) (stF K r)).conseq ((st_in K (fu + m) r [tlC t K.d (lenO K.t), A]).trans (Ent.perm (List.Perm.swap _ _ _))) ?_
 rintro v S ⟨S0, ⟨rfl, rfl⟩, rfl⟩
 refine ⟨_, ?_, rfl, rfl⟩
 refine (Ent.perm (List.Perm.swap _ _ _)).trans ((st_out (K := { K with t := some (byO K.t ++ ys) }) (pg := pg) (sl := sl) r ⟨hco, hsl⟩ [tlC t K.d (lenO K.t + m), A]).trans (Ent.perm (List.Perm.swap _ _ _)))
theorem s_sttlSync (t n : Nat) (K : SK) (hK : K.ok) (pg : Nat → Option (List Nat)) (sl fu : Nat) :
  Spec Tryz.prog 226 [.pointer (some ⟨t, 0, none⟩)] [tlC t K.d n, stC K pg sl fu] (fun v S => v = .int .i64 0 ∧ S = [tlC t K.d n, stC K pg sl fu]) := by
 refine Spec.pre ?_ (Ent.perm (List.Perm.swap (stC K pg sl fu) (tlC t K.d n) []))
 refine Spec.ex st_open fun r hst => ?_
 obtain ⟨k1, k2, k3, k4, k5, k6⟩ := hK
 refine (spec_frame (s_tlSync t K.d n K.room fu (K.F r.s) (by show lenO K.t ≤ _; omega)) (stF K r)).conseq ((st_in K fu r [tlC t K.d n]).trans (Ent.perm (List.Perm.swap _ _ _))) ?_
 rintro v S ⟨S0, ⟨rfl, rfl⟩, rfl⟩
 exact ⟨_, (Ent.perm (List.Perm.swap _ _ _)).trans ((st_out r hst [tlC t K.d n]).trans (Ent.perm (List.Perm.swap _ _ _))), rfl, rfl⟩
end Go.Ox
end
