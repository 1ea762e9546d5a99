/- WholeKept, part 21. No condition. -/
import Derived.Test.YtonpakokjgloaaaGreatOx11
import Derived.Test.YtonpakokjgloaaaGreatOx20
set_option linter.all false
section
namespace Go.Ox
open Go
structure CI where
 k : Nat
 b : Nat
 m : Bool
 a : Option Addr
 c : Nat
 bs : List Nat
def pageAt (st : List Nat) (k : Nat) : List Nat := (st.drop (256 * k)).take 256
def onD (st : List Nat) (k : Nat) (b : List Nat) : Prop := 256 * (k + 1) ≤ st.length ∧ pageAt st k = b
def wr (st : List Nat) (k : Nat) (bs : List Nat) : List Nat := layB (st ++ List.replicate (256 * k - st.length) 0) (256 * k) bs
theorem layB_get (bs ys : List Nat) (lo i : Nat) (h : lo ≤ bs.length) : (layB bs lo ys)[i]? = if i < lo then bs[i]? else if i < lo + ys.length then ys[i - lo]? else bs[i]? := by
 unfold layB
 have hl : (bs.take lo).length = lo := by rw [List.length_take]; omega
 by_cases h1 : i < lo
 ·rw [if_pos h1, List.append_assoc, List.getElem?_append_left (by omega), List.getElem?_take, if_pos h1]
 ·rw [if_neg h1]
  by_cases h2 : i < lo + ys.length
  ·rw [if_pos h2, List.getElem?_append_left (by rw [List.length_append]; omega), List.getElem?_append_right (by omega), hl]
  ·rw [if_neg h2, List.getElem?_append_right (by rw [List.length_append]; omega), List.getElem?_drop, List.length_append, hl]
   congr 1; omega
theorem layB_length (bs ys : List Nat) (lo : Nat) (h : lo ≤ bs.length) : (layB bs lo ys).length = max bs.length (lo + ys.length) := by
 unfold layB
 simp only [List.length_append, List.length_take, List.length_drop]; omega
theorem wr_length (st : List Nat) (k : Nat) (bs : List Nat) (hb : bs.length = 256) : (wr st k bs).length = max st.length (256 * (k + 1)) := by
 unfold wr
 rw [layB_length _ _ _ (by simp; omega)]
 simp only [List.length_append, List.length_replicate, hb]; omega
theorem pageAt_get (st : List Nat) (k i : Nat) : (pageAt st k)[i]? = if i < 256 then st[256 * k + i]? else none := by
 unfold pageAt
 rw [List.getElem?_take]
 split
 ·rw [List.getElem?_drop]
 ·rfl
theorem onD_wr (st : List Nat) (k : Nat) (bs : List Nat) (hb : bs.length = 256) : onD (wr st k bs) k bs := by
 refine ⟨by rw [wr_length _ _ _ hb]; omega, ?_⟩
 apply List.ext_getElem?
 intro i
 rw [pageAt_get]
 by_cases h : i < 256
 ·rw [if_pos h]
  unfold wr
  rw [layB_get _ _ _ _ (by simp; omega), if_neg (by omega), if_pos (by omega)]
  congr 1; omega
 ·rw [if_neg h, List.getElem?_eq_none (by omega)]
theorem onD_lay {st ys : List Nat} {lo j : Nat} {b : List Nat} (h : onD st j b) (hlo : lo ≤ st.length) (hd : lo + ys.length ≤ 256 * j ∨ 256 * (j + 1) ≤ lo) : onD (layB st lo ys) j b := by
 refine ⟨by rw [layB_length _ _ _ hlo]; have := h.1; omega, ?_⟩
 rw [← h.2]
 apply List.ext_getElem?
 intro i
 rw [pageAt_get, pageAt_get]
 by_cases hi : i < 256
 ·rw [if_pos hi, if_pos hi, layB_get _ _ _ _ hlo]
  split
  ·rfl
  ·split
   ·exfalso; omega
   ·rfl
 ·rw [if_neg hi, if_neg hi]
theorem onD_pad {st : List Nat} {j m : Nat} {b : List Nat} (h : onD st j b) : onD (st ++ List.replicate m 0) j b := by
 refine ⟨by have := h.1; simp; omega, ?_⟩
 rw [← h.2]
 apply List.ext_getElem?
 intro i
 rw [pageAt_get, pageAt_get]
 by_cases hi : i < 256
 ·rw [if_pos hi, if_pos hi, List.getElem?_append_left (by have := h.1; omega)]
 ·rw [if_neg hi, if_neg hi]
theorem onD_wr_other {st : List Nat} {k j : Nat} {bs b : List Nat} (hb : bs.length = 256) (h : onD st j b) (hne : j ≠ k) : onD (wr st k bs) j b := by
 unfold wr
 refine onD_lay (onD_pad h) (by simp; omega) ?_
 rw [hb]
 rcases Nat.lt_or_ge j k with q | q
 ·right; have : 256 * (j + 1) ≤ 256 * k := Nat.mul_le_mul_left _ q; exact this
 ·left; have : 256 * (k + 1) ≤ 256 * j := Nat.mul_le_mul_left _ (by omega); omega
structure Coh (cs : List CI) (st : List Nat) (pg : Nat → Option (List Nat)) (n cap : Nat) : Prop where
 nodup : (cs.map (·.k)).Nodup
 len : cs.length ≤ cap
 ok : ∀ x ∈ cs, 1 ≤ x.k ∧ x.k < n ∧ x.bs.length = 256
 stl : st.length ≤ 256 * n
 known : ∀ k b, pg k = some b → 1 ≤ k ∧ k < n ∧ b.length = 256 ∧ (∀ x ∈ cs, x.k = k → x.bs = b) ∧ (onD st k b ∨ ∃ x ∈ cs, x.k = k ∧ x.m = true)
theorem Coh.perm {cs cs' : List CI} {st : List Nat} {pg : Nat → Option (List Nat)} {n cap : Nat} (h : Coh cs st pg n cap) (hp : cs.Perm cs') : Coh cs' st pg n cap :=
 ⟨(hp.map _).nodup_iff.1 h.nodup, by rw [← hp.length_eq]; exact h.len, fun x hx => h.ok x (hp.mem_iff.2 hx), h.stl, fun k b hk => by
  obtain ⟨h1, h2, h3, h4, h5⟩ := h.known k b hk
  refine ⟨h1, h2, h3, fun x hx => h4 x (hp.mem_iff.2 hx), h5.imp id ?_⟩
  rintro ⟨x, hx, e⟩; exact ⟨x, hp.mem_iff.1 hx, e⟩⟩
theorem nodup_mid {cs : List CI} {pre post : List CI} {x : CI} (h : ((pre ++ x :: post).map (·.k)).Nodup) : ((pre ++ post).map (·.k)).Nodup ∧ ∀ y ∈ pre ++ post, y.k ≠ x.k := by
 have hp : ((pre ++ x :: post).map (·.k)).Perm (x.k :: (pre ++ post).map (·.k)) := (List.perm_middle (a := x) (l₁ := pre) (l₂ := post)).map _
 have h2 := List.nodup_cons.1 (hp.nodup_iff.1 h)
 exact ⟨h2.2, fun y hy e => h2.1 (List.mem_map.2 ⟨y, hy, e⟩)⟩
theorem mem_mid {pre post : List CI} {x y : CI} (h : y ∈ pre ++ post) : y ∈ pre ++ x :: post := by
 rcases List.mem_append.1 h with q | q
 ·exact List.mem_append_left _ q
 ·exact List.mem_append_right _ (List.mem_cons_of_mem _ q)
theorem mid_cases {pre post : List CI} {x y : CI} (h : y ∈ pre ++ x :: post) : y = x ∨ y ∈ pre ++ post := by
 rcases List.mem_append.1 h with q | q
 ·exact .inr (List.mem_append_left _ q)
 ·rcases List.mem_cons.1 q with q | q
  ·exact .inl q
  ·exact .inr (List.mem_append_right _ q)
theorem Coh.write {pre post : List CI} {x : CI} {st : List Nat} {pg : Nat → Option (List Nat)} {n cap : Nat} (h : Coh (pre ++ x :: post) st pg n cap) : Coh (pre ++ { x with m := false } :: post) (wr st x.k x.bs) pg n cap := by
 obtain ⟨o1, o2, o3⟩ := h.ok x (by simp)
 obtain ⟨nd1, nd2⟩ := nodup_mid (cs := []) h.nodup
 refine ⟨?_, by have := h.len; simpa using this, ?_, ?_, ?_⟩
 ·have := h.nodup; simpa using this
 ·intro y hy
  rcases mid_cases hy with rfl | hy
  ·exact ⟨o1, o2, o3⟩
  ·exact h.ok y (mem_mid hy)
 ·rw [wr_length _ _ _ o3]
  have := h.stl
  have : 256 * (x.k + 1) ≤ 256 * n := Nat.mul_le_mul_left _ o2
  omega
 ·intro k b hk
  obtain ⟨h1, h2, h3, h4, h5⟩ := h.known k b hk
  refine ⟨h1, h2, h3, fun y hy e => ?_, ?_⟩
  ·rcases mid_cases hy with rfl | hy
   ·exact h4 x (by simp) e
   ·exact h4 y (mem_mid hy) e
  ·by_cases hkx : x.k = k
   ·subst hkx
    left
    have := h4 x (by simp) rfl
    rw [← this]; exact onD_wr _ _ _ o3
   ·rcases h5 with h5 | ⟨y, hy, e1, e2⟩
    ·left; exact onD_wr_other o3 h5 (fun q => hkx q.symm)
    ·rcases mid_cases hy with rfl | hy
     ·exact absurd e1 hkx
     ·exact .inr ⟨y, mem_mid hy, e1, e2⟩
theorem Coh.drop {pre post : List CI} {x : CI} {st : List Nat} {pg : Nat → Option (List Nat)} {n cap : Nat} (h : Coh (pre ++ x :: post) st pg n cap) (hx : x.m = false) : Coh (pre ++ post) st pg n cap := by
 obtain ⟨nd1, nd2⟩ := nodup_mid (cs := []) h.nodup
 refine ⟨nd1, by have := h.len; simp at this ⊢; omega, fun y hy => h.ok y (mem_mid hy), h.stl, fun k b hk => ?_⟩
 obtain ⟨h1, h2, h3, h4, h5⟩ := h.known k b hk
 refine ⟨h1, h2, h3, fun y hy e => h4 y (mem_mid hy) e, ?_⟩
 rcases h5 with h5 | ⟨y, hy, e1, e2⟩
 ·exact .inl h5
 ·rcases mid_cases hy with rfl | hy
  ·rw [hx] at e2; cases e2
  ·exact .inr ⟨y, hy, e1, e2⟩
theorem Coh.add {cs : List CI} {x : CI} {st : List Nat} {pg : Nat → Option (List Nat)} {n cap : Nat} (h : Coh cs st pg n cap) (hn : ∀ y ∈ cs, y.k ≠ x.k) (hl : cs.length < cap) (hk : 1 ≤ x.k) (hk2 : x.k < n) (hb : x.bs.length = 256) (hp : ∀ b, pg x.k = some b → x.bs = b) : Coh (cs ++ [x]) st pg n cap := by
 refine ⟨?_, by simp; omega, ?_, h.stl, ?_⟩
 ·rw [List.map_append]
  refine List.nodup_append.2 ⟨h.nodup, by simp, ?_⟩
  intro a ha b hb' e
  obtain ⟨y, hy, rfl⟩ := List.mem_map.1 ha
  simp at hb'
  exact hn y hy (e.trans hb')
 ·intro y hy
  rcases List.mem_append.1 hy with q | q
  ·exact h.ok y q
  ·rw [List.mem_singleton.1 q]; exact ⟨hk, hk2, hb⟩
 ·intro k b hkb
  obtain ⟨h1, h2, h3, h4, h5⟩ := h.known k b hkb
  refine ⟨h1, h2, h3, fun y hy e => ?_, h5.imp id ?_⟩
  ·rcases List.mem_append.1 hy with q | q
   ·exact h4 y q e
   ·rw [List.mem_singleton.1 q] at e ⊢; subst e; exact hp b hkb
  ·rintro ⟨y, hy, e⟩; exact ⟨y, List.mem_append_left _ hy, e⟩
def updP (pg : Nat → Option (List Nat)) (k : Nat) (b : Option (List Nat)) : Nat → Option (List Nat) := fun j => if j = k then b else pg j
theorem Coh.put {pre post : List CI} {x : CI} {st : List Nat} {pg : Nat → Option (List Nat)} {n cap : Nat} (h : Coh (pre ++ x :: post) st pg n cap) (b : List Nat) (hb : b.length = 256) : Coh (pre ++ { x with m := true, bs := b } :: post) st (updP pg x.k (some b)) n cap := by
 obtain ⟨o1, o2, o3⟩ := h.ok x (by simp)
 obtain ⟨nd1, nd2⟩ := nodup_mid (cs := []) h.nodup
 refine ⟨?_, by have := h.len; simpa using this, ?_, h.stl, ?_⟩
 ·have := h.nodup; simpa using this
 ·intro y hy
  rcases mid_cases hy with rfl | hy
  ·exact ⟨o1, o2, hb⟩
  ·exact h.ok y (mem_mid hy)
 ·intro k c hk
  unfold updP at hk
  by_cases hkx : k = x.k
  ·subst hkx
   rw [if_pos rfl] at hk; cases hk
   refine ⟨o1, o2, hb, fun y hy e => ?_, .inr ⟨{ x with m := true, bs := b }, by simp, rfl, rfl⟩⟩
   rcases mid_cases hy with rfl | hy
   ·rfl
   ·exact absurd e (nd2 y hy)
  ·rw [if_neg hkx] at hk
   obtain ⟨h1, h2, h3, h4, h5⟩ := h.known k c hk
   refine ⟨h1, h2, h3, fun y hy e => ?_, h5.imp id ?_⟩
   ·rcases mid_cases hy with rfl | hy
    ·exact absurd e.symm hkx
    ·exact h4 y (mem_mid hy) e
   ·rintro ⟨y, hy, e1, e2⟩
    rcases mid_cases hy with rfl | hy
    ·exact absurd e1.symm hkx
    ·exact ⟨y, mem_mid hy, e1, e2⟩
theorem Coh.less {cs : List CI} {st : List Nat} {pg pg' : Nat → Option (List Nat)} {n cap : Nat} (h : Coh cs st pg n cap) (hp : ∀ k b, pg' k = some b → pg k = some b) : Coh cs st pg' n cap :=
 ⟨h.nodup, h.len, h.ok, h.stl, fun k b hk => h.known k b (hp k b hk)⟩
theorem Coh.forget {pre post : List CI} {x : CI} {st : List Nat} {pg : Nat → Option (List Nat)} {n cap : Nat} (h : Coh (pre ++ x :: post) st pg n cap) : Coh (pre ++ post) st (updP pg x.k none) n cap := by
 obtain ⟨nd1, nd2⟩ := nodup_mid (cs := []) h.nodup
 refine ⟨nd1, by have := h.len; simp at this ⊢; omega, fun y hy => h.ok y (mem_mid hy), h.stl, fun k b hk => ?_⟩
 unfold updP at hk
 by_cases hkx : k = x.k
 ·rw [if_pos hkx] at hk; cases hk
 ·rw [if_neg hkx] at hk
  obtain ⟨h1, h2, h3, h4, h5⟩ := h.known k b hk
  refine ⟨h1, h2, h3, fun y hy e => h4 y (mem_mid hy) e, h5.imp id ?_⟩
  rintro ⟨y, hy, e1, e2⟩
  rcases mid_cases hy with rfl | hy
  ·exact absurd e1.symm hkx
  ·exact ⟨y, hy, e1, e2⟩
theorem Coh.head {cs : List CI} {st ys : List Nat} {lo : Nat} {pg : Nat → Option (List Nat)} {n cap : Nat} (h : Coh cs st pg n cap) (hlo : lo ≤ st.length) (hy : lo + ys.length ≤ 256) (hn : 1 ≤ n) : Coh cs (layB st lo ys) pg n cap :=
 ⟨h.nodup, h.len, h.ok, by rw [layB_length _ _ _ hlo]; have := h.stl; omega, fun k b hk => by
  obtain ⟨h1, h2, h3, h4, h5⟩ := h.known k b hk
  exact ⟨h1, h2, h3, h4, h5.imp (fun q => onD_lay q hlo (.inl (by omega))) id⟩⟩
theorem Coh.clean {cs : List CI} {st : List Nat} {pg : Nat → Option (List Nat)} {n cap : Nat} (h : Coh cs st pg n cap) (hm : ∀ x ∈ cs, x.m = false) : ∀ k b, pg k = some b → onD st k b := fun k b hk => by
 obtain ⟨_, _, _, _, h5⟩ := h.known k b hk
 rcases h5 with h5 | ⟨x, hx, _, e⟩
 ·exact h5
 ·rw [hm x hx] at e; cases e
theorem Coh.fresh {st : List Nat} {n cap : Nat} (h : st.length ≤ 256 * n) : Coh [] st (fun _ => none) n cap :=
 ⟨by simp, Nat.zero_le _, fun x hx => (by cases hx), h, fun k b hk => (by cases hk)⟩
end Go.Ox
end
section
set_option maxRecDepth 100000
set_option maxHeartbeats 800000
namespace Go.Ox
open Go Go.Proofs
def CI.it (x : CI) : It := ⟨x.k, x.b, x.m⟩
def pgM (cs : List CI) : List (Value × Value) := cs.map fun x => (.int .i64 (x.k : Int), .slice x.a 256 x.c)
def pgC (x : CI) : Asn := own x.a 256 x.c 5 1 (vb x.bs)
def pgsC (cs : List CI) : Asn := fun h => star (cs.map pgC) h
theorem ent_pg (pre post : List CI) (x : CI) : Ent [pgsC (pre ++ x :: post)] [pgC x, pgsC (pre ++ post)] := fun h hs => by
 have h1 := (Ent.head (A := pgsC (pre ++ x :: post)) (L := _) (S := []) (fun _ h => h)) h hs
 rw [List.append_nil, List.map_append, List.map_cons] at h1
 have h2 := Ent.perm List.perm_middle h h1
 rw [← List.map_append] at h2
 refine Ent.cons _ (fun h' hs' => ?_) h h2
 exact (Ent.fold (A := pgsC (pre ++ post)) (L := _) (S := []) (fun _ h => h)) h' (by rw [List.append_nil]; exact hs')
theorem ent_pg' (pre post : List CI) (x : CI) : Ent [pgC x, pgsC (pre ++ post)] [pgsC (pre ++ x :: post)] := fun h hs => by
 have h1 := Ent.cons _ (T := (pre ++ post).map pgC) (fun h' hs' => by
  have := (Ent.head (A := pgsC (pre ++ post)) (S := []) (fun _ h => h)) h' hs'
  rwa [List.append_nil] at this) h hs
 rw [List.map_append] at h1
 have h2 := Ent.perm List.perm_middle.symm h h1
 refine (Ent.fold (A := pgsC (pre ++ x :: post)) (L := (pre ++ x :: post).map pgC) (S := []) (fun _ h => h)) h ?_
 rw [List.append_nil, List.map_append, List.map_cons]; exact h2
theorem itM_mid (pre post : List CI) (x : CI) : (pre ++ x :: post).map CI.it = pre.map CI.it ++ x.it :: post.map CI.it := by simp
theorem pgM_mem {pre post : List CI} {x : CI} : (Value.int .i64 (x.k : Int), Value.slice x.a 256 x.c) ∈ pgM (pre ++ x :: post) := List.mem_map_of_mem (f := fun x : CI => (Value.int .i64 (x.k : Int), Value.slice x.a 256 x.c)) (by simp)
theorem pgM_no {cs : List CI} {k : Nat} (h : ∀ x ∈ cs, x.k ≠ k) : ∀ p ∈ pgM cs, p.1 ≠ Value.int .i64 (k : Int) := by
 intro p hp he
 obtain ⟨x, hx, rfl⟩ := List.mem_map.1 hp
 simp only [Value.int.injEq, true_and] at he
 exact h x hx (by omega)
theorem pgM_mid (pre post : List CI) (x : CI) : (pgM (pre ++ x :: post)).Perm ((.int .i64 (x.k : Int), .slice x.a 256 x.c) :: pgM (pre ++ post)) :=
 (List.perm_middle (a := x) (l₁ := pre) (l₂ := post)).map _
theorem pgM_mark (pre post : List CI) (x : CI) (m : Bool) (bs : List Nat) : pgM (pre ++ { x with m := m, bs := bs } :: post) = pgM (pre ++ x :: post) := by simp [pgM]
def caC (cc L d cap mp : Nat) (rd : Int) : Asn := cellsAt cc 178 [.pointer (some ⟨L, 0, none⟩), .pointer (some ⟨d, 0, none⟩), .string (Nm.name .s), .int .i64 cap, .map (some mp), .int .i64 rd]
structure CRaw where
 L : Nat
 mp : Nat
 rd : Int
theorem mkd_mem {pre post : List CI} {x : CI} (hn : ((pre ++ x :: post).map (·.k)).Nodup) : (x.k : Int) ∈ mkd ((pre ++ x :: post).map CI.it) ↔ x.m = true := by
 unfold mkd
 rw [List.mem_map]
 constructor
 ·rintro ⟨y, hy, e⟩
  obtain ⟨hy1, hy2⟩ := List.mem_filter.1 hy
  obtain ⟨z, hz, rfl⟩ := List.mem_map.1 hy1
  have e' : z.k = x.k := by have : (z.k : Int) = x.k := e; omega
  rcases mid_cases hz with rfl | hz
  ·exact hy2
  ·exact absurd e' ((nodup_mid (cs := []) hn).2 z hz)
 ·intro h
  exact ⟨x.it, List.mem_filter.2 ⟨List.mem_map_of_mem (by simp), h⟩, rfl⟩
theorem s_cdirty (cc L d cap mp : Nat) (rd : Int) (pre post : List CI) (x : CI) (hn : ((pre ++ x :: post).map (·.k)).Nodup) (hl : (pre ++ x :: post).length ≤ 100000) :
  Spec Tryz.prog 353 [.pointer (some ⟨cc, 0, none⟩), .int .i64 x.k] [caC cc L d cap mp rd, lruC L cap ((pre ++ x :: post).map CI.it)] (fun v S => v = .bool x.m ∧ S = [caC cc L d cap mp rd, lruC L cap ((pre ++ x :: post).map CI.it)]) := by
 refine spec_of Tryz.func353 rfl Tryz.results353 Tryz.ntmps353 rfl ?_
 repeat' first | refine wk ?_ | refine wc ?_ ?_ <;> intro h <;> try omega | fail
 refine c_call (s_marked L cap ((pre ++ x :: post).map CI.it) (by rw [List.length_map]; exact hl)) rfl xpkd rfl rfl ?_
 rintro v S ⟨a, c, ks, hks, rfl, rfl⟩
 refine l_tell rfl ?_
 have hkl : ks.length ≤ 100000 := by
  have h1 := hks.length_eq
  have h2 : (mkd ((pre ++ x :: post).map CI.it)).length ≤ ((pre ++ x :: post).map CI.it).length := by
   unfold mkd
   rw [List.length_map]; exact List.length_filter_le _ _
  rw [List.length_map] at h2
  omega
 have hmem : (x.k : Int) ∈ ks ↔ x.m = true := (hks.mem_iff).trans (mkd_mem hn)
 repeat' first | refine wk ?_ | refine wc ?_ ?_ <;> intro h <;> try omega | fail
 refine t_loop (fun mm env S => ∃ i, i ≤ ks.length ∧ mm = ks.length - i ∧ (∀ (j : Nat) (h : j < ks.length), j < i → ks[j] ≠ (x.k : Int)) ∧ env = [(1, .int .i64 (x.k : Int)), (11, .slice a ks.length c), (12, .int .i64 (ks.length : Int)), (13, .int .i64 (i : Int))] ∧ S = [own a ks.length c 3 1 (intsV ks), lruC L cap ((pre ++ x :: post).map CI.it), caC cc L d cap mp rd]) ks.length _ _ ⟨0, by omega, by omega, fun _ _ h => by omega, rfl, rfl⟩ xlss (Ent.pick xpkd) ?_
 rintro mm env S ⟨i, hi, rfl, hno, rfl, rfl⟩
 by_cases hin : i < ks.length
 ·refine t_pure (own_some (by omega)) ?_
  rintro ⟨b, rfl, _⟩
  repeat' first | refine wk ?_ | refine wc ?_ ?_ <;> intro h <;> try omega | refine l_qs (by exact q_loadRd (j := i) (f := 0) (r := [.int .i64 ks[i]]) (own_rds xfnd) rfl (by omega) rfl rfl (by simp [intsV, List.getElem?_eq_getElem hin]) rfl) rfl ?_ | fail
  ·have hm : x.m = true := hmem.1 (by rw [← h]; exact List.getElem_mem hin)
   exact b_ret [caC cc L d cap mp rd, lruC L cap ((pre ++ x :: post).map CI.it)] rfl (Ent.pick xpkd) ⟨by rw [hm]; rfl, rfl⟩
  ·have heq := h
   refine ⟨rfl, ks.length - (i + 1), _, _, by omega, ⟨i + 1, by omega, rfl, fun j h hj => ?_, rfl, rfl⟩, xlss, Ent.pick xpkd⟩
   by_cases hji : j = i
   ·subst hji; exact heq
   ·exact hno j h (by omega)
 ·repeat' first | refine wk ?_ | refine wc ?_ ?_ <;> intro h <;> try omega | fail
  have hm : x.m = false := by
   cases hx : x.m with
   | false => rfl
   | true =>
    obtain ⟨j, hj, e⟩ := List.getElem_of_mem (hmem.2 hx)
    exact absurd e (hno j hj (by omega))
  exact b_ret [caC cc L d cap mp rd, lruC L cap ((pre ++ x :: post).map CI.it)] rfl (Ent.pick xpkd) ⟨by rw [hm]; rfl, rfl⟩
end Go.Ox
end
section
set_option maxRecDepth 100000
set_option maxHeartbeats 800000
namespace Go.Ox
open Go Go.Proofs
def wrF (F : Fs) (x : CI) : Fs := if x.m then F.set .s (wr (byO (F.get .s)) x.k x.bs) else F
theorem layB_end (st zs : List Nat) : layB st st.length zs = st ++ zs := by
 unfold layB; simp
theorem lenO_byO (l : Option (List Nat)) : lenO l = (byO l).length := by cases l <;> rfl
theorem tot_set (F : Fs) (n : Nm) (b : List Nat) : (F.set n b).tot + lenO (F.get n) = F.tot + b.length := by
 cases n <;> simp only [Fs.set, Fs.get, Fs.tot, lenO] <;> omega
theorem get_set (F : Fs) (n : Nm) (b : List Nat) : (F.set n b).get n = some b := by cases n <;> rfl
theorem s_cwrite (cc L d cap mp room fu : Nat) (rd : Int) (pre post : List CI) (x : CI) (F : Fs) (hn : ((pre ++ x :: post).map (·.k)).Nodup) (hl : (pre ++ x :: post).length ≤ 100000) (hb : x.bs.length = 256) (hk : x.k < 1048576) (hr : F.tot + 512 * (x.k + 1) ≤ room) (hroom : room ≤ 1099511627776) :
  Spec Tryz.prog 299 [.pointer (some ⟨cc, 0, none⟩), .int .i64 x.k] [caC cc L d cap mp rd, lruC L cap ((pre ++ x :: post).map CI.it), amap mp kInt (pgM (pre ++ x :: post)), pgsC (pre ++ x :: post), dskC d room F (fu + 256 * (x.k + 1))]
   (fun v S => v = .int .i64 0 ∧ S = [caC cc L d cap mp rd, lruC L cap ((pre ++ { x with m := false } :: post).map CI.it), amap mp kInt (pgM (pre ++ x :: post)), pgsC (pre ++ x :: post), dskC d room (wrF F x) fu]) := by
 refine spec_of Tryz.func299 rfl Tryz.results299 Tryz.ntmps299 rfl ?_
 repeat' first | refine wk ?_ | refine wc ?_ ?_ <;> intro h <;> try omega | fail
 refine c_call (s_cdirty cc L d cap mp rd pre post x hn hl) rfl xpkd rfl rfl ?_
 rintro v S ⟨rfl, rfl⟩
 refine l_tell rfl ?_
 cases hm : x.m with
 | false =>
  repeat' first | refine wk ?_ | refine wc ?_ ?_ <;> intro h <;> try omega | fail
  have e : { x with m := false } = x := by rw [← hm]
  have e2 : wrF F x = F := by unfold wrF; rw [hm]; rfl
  rw [e, e2]
  exact b_ret [caC cc L d cap mp rd, lruC L cap ((pre ++ x :: post).map CI.it), amap mp kInt (pgM (pre ++ x :: post)), pgsC (pre ++ x :: post), dskC d room F fu] rfl ((Ent.pick (Pre := [dskC d room F (fu + 256 * (x.k + 1)), caC cc L d cap mp rd, lruC L cap ((pre ++ x :: post).map CI.it), amap mp kInt (pgM (pre ++ x :: post)), pgsC (pre ++ x :: post)]) xpkd).trans ((ent_less (fu + 256 * (x.k + 1)) fu (by omega) _).trans (Ent.pick xpkd))) ⟨rfl, rfl⟩
 | true =>
  have hmx := szI_max (F.get .s)
  have hwr : wrF F x = F.set .s (wr (byO (F.get .s)) x.k x.bs) := by unfold wrF; rw [hm]; rfl
  have hlb := lenO_byO (F.get .s)
  repeat' first | refine wk ?_ | refine wc ?_ ?_ <;> intro h <;> try omega | fail
  refine t_draw (.eval 0 true (.eval 1 true (.eval 2 true (.eval 3 false (.eval 4 true (.eval 5 true (.eval 6 true (.eval 7 false (.eff 8 [] (.eval 9 true (.eff 10 [] .fin .stop)) .stop))))))))) rfl (by kernel_rfl) ?_
  repeat' first | refine wk ?_ | refine wc ?_ ?_ <;> intro h <;> try omega | fail
  refine c_call (s_size4 d room (fu + 256 * (x.k + 1)) F .s) rfl xpkd rfl rfl ?_
  rintro v S ⟨rfl, rfl⟩
  refine l_tell rfl ?_
  by_cases hlt : lenO (F.get .s) < 256 * x.k
  ·repeat' first | refine wk ?_ | refine wc ?_ ?_ <;> intro h <;> try omega | fail
   refine t_draw (.eval 0 true (.eval 1 true (.eval 2 true (.eval 3 false (.eval 4 true (.eval 5 true (.eval 6 true (.eval 7 false (.eval 8 true (.eval 9 true (.eval 10 true (.eval 11 true (.eval 12 true (.eff 13 [3, 7] (.eff 14 [] (.eff 15 [] .fin .stop) .stop) .stop)))))))))))))) rfl (by kernel_rfl) ?_
   repeat' first | refine wk ?_ | refine wc ?_ ?_ <;> intro h <;> try omega | fail
   rw [hmx]
   have e1 : (x.k : Int) * 256 - (lenO (F.get .s) : Int) = ((256 * x.k - lenO (F.get .s) : Nat) : Int) := by omega
   rw [e1]
   refine o_makeSlice rfl rfl rfl rfl rfl rfl rfl (by show _ * 1 ≤ _; omega) (by omega) rfl rfl fun zb => ?_
   rw [show List.replicate (256 * x.k - lenO (F.get .s)) [Value.int .u8 0] = vb (List.replicate (256 * x.k - lenO (F.get .s)) 0) by simp [vb]]
   have e2 : fu + 256 * (x.k + 1) = (fu + 256 + lenO (F.get .s)) + (256 * x.k - lenO (F.get .s)) := by omega
   rw [e2]
   repeat' first | refine wk ?_ | refine wc ?_ ?_ <;> intro h <;> try omega | fail
   refine c_call (s_write4 (own (some ⟨zb, 0, none⟩) (256 * x.k - lenO (F.get .s)) (256 * x.k - lenO (F.get .s)) 5 1 (vb (List.replicate (256 * x.k - lenO (F.get .s)) 0))) d room (fu + 256 + lenO (F.get .s)) (lenO (F.get .s)) F .s (some ⟨zb, 0, none⟩) (256 * x.k - lenO (F.get .s)) (256 * x.k - lenO (F.get .s)) (List.replicate (256 * x.k - lenO (F.get .s)) 0) (Rds.own 0 rfl) (by simp) (Nat.le_refl _) (Nat.le_refl _) (by omega) (by omega) hroom) rfl xpkd rfl rfl ?_
   rintro v S ⟨rfl, rfl⟩
   refine l_tell rfl ?_
   generalize hF1 : F.set .s (layB (byO (F.get .s)) (lenO (F.get .s)) (List.replicate (256 * x.k - lenO (F.get .s)) 0)) = F1
   have hbl : byO (F1.get .s) = byO (F.get .s) ++ List.replicate (256 * x.k - (byO (F.get .s)).length) 0 := by
    rw [← hF1, get_set, lenO_byO]; exact layB_end _ _
   have hln : lenO (F1.get .s) = 256 * x.k := by rw [lenO_byO, hbl]; simp; omega
   have htot : F1.tot ≤ F.tot + 256 * x.k := by
    have := tot_set F .s (layB (byO (F.get .s)) (lenO (F.get .s)) (List.replicate (256 * x.k - lenO (F.get .s)) 0))
    rw [hF1, hlb, layB_end] at this
    simp at this; omega
   have hfin : F1.set .s (layB (byO (F1.get .s)) (x.k * 256) x.bs) = wrF F x := by
    rw [hwr, hbl, ← hF1, Nat.mul_comm x.k 256]; rfl
   repeat' first | refine wk ?_ | refine wc ?_ ?_ <;> intro h <;> try omega | fail
   refine t_ent (S' := [pgsC (pre ++ x :: post), dskC d room F1 (fu + 256), caC cc L d cap mp rd, lruC L cap ((pre ++ x :: post).map CI.it), amap mp kInt (pgM (pre ++ x :: post))]) ((Ent.pick (Pre := [dskC d room F1 (fu + 256 + lenO (F.get .s)), pgsC (pre ++ x :: post), caC cc L d cap mp rd, lruC L cap ((pre ++ x :: post).map CI.it), amap mp kInt (pgM (pre ++ x :: post))]) xpkd).trans ((ent_less (fu + 256 + lenO (F.get .s)) (fu + 256) (by omega) _).trans (Ent.pick xpkd))) ?_
   refine t_ent ((ent_pg pre post x).frame _) ?_
   refine t_pure (p := 256 ≤ x.c) (fun h hs => by obtain ⟨_, _, _, _, _, ⟨_, _, q3, _⟩, _⟩ := hs; exact q3) fun hxc => ?_
   refine t_tell rfl ?_
   refine t_draw (.eval 0 true (.eval 1 true (.eval 2 true (.eval 3 false (.eval 4 true (.eval 5 true (.eval 6 true (.eval 7 false (.eval 8 true (.eval 9 true (.eval 10 true (.eval 11 true (.eval 12 true (.eval 13 false (.eval 14 true (.eval 15 false (.eff 16 [13] (.eff 17 [] .fin .stop) .stop))))))))))))))))) rfl (by kernel_rfl) ?_
   repeat' first | refine wk ?_ | refine wc ?_ ?_ <;> intro h <;> try omega | refine l_qs (by exact c_lookup (ok := false) rfl rfl xfnd rfl rfl rfl rfl rfl pgM_mem) rfl ?_ | refine d_qs rfl (by exact c_lookup (ok := false) rfl rfl xfnd rfl rfl rfl rfl rfl pgM_mem) rfl ?_ | refine d_gqs rfl rfl (by exact c_lookup (ok := false) rfl rfl xfnd rfl rfl rfl rfl rfl pgM_mem) rfl ?_ | (refine n_eff ?_ ?_; · (repeat first | refine wre ?_ | refine r_cons rfl (by first | exact c_lookup (ok := false) rfl rfl xfnd rfl rfl rfl rfl rfl pgM_mem | fail) rfl ?_ | refine r_gcons rfl rfl (by first | exact c_lookup (ok := false) rfl rfl xfnd rfl rfl rfl rfl rfl pgM_mem | fail) rfl ?_ | exact r_nil | fail)) | fail
   refine c_call (s_write4 (pgC x) d room fu (x.k * 256) F1 .s x.a 256 x.c x.bs (Rds.own 0 rfl) hb hxc (by omega) (by omega) (by omega) hroom) rfl xpkd rfl rfl ?_
   rintro v S ⟨rfl, rfl⟩
   refine l_tell rfl ?_
   rw [hfin, itM_mid]
   repeat' first | refine wk ?_ | refine wc ?_ ?_ <;> intro h <;> try omega | fail
   refine c_call (s_mark L cap (pre.map CI.it) (post.map CI.it) x.it false) rfl xpkd rfl rfl ?_
   rintro v S ⟨rfl, rfl⟩
   refine l_tell rfl ?_
   repeat' first | refine wk ?_ | refine wc ?_ ?_ <;> intro h <;> try omega | fail
   refine b_ret [caC cc L d cap mp rd, lruC L cap ((pre ++ { x with m := false } :: post).map CI.it), amap mp kInt (pgM (pre ++ x :: post)), pgsC (pre ++ x :: post), dskC d room (wrF F x) fu] rfl ?_ ⟨rfl, rfl⟩
   rw [itM_mid]
   exact (Ent.pick (Pre := [pgC x, pgsC (pre ++ post), caC cc L d cap mp rd, lruC L cap (pre.map CI.it ++ CI.it { x with m := false } :: post.map CI.it), amap mp kInt (pgM (pre ++ x :: post)), dskC d room (wrF F x) fu]) xpkd).trans (((ent_pg' pre post x).frame _).trans (Ent.pick xpkd))
  ·repeat' first | refine wk ?_ | refine wc ?_ ?_ <;> intro h <;> try omega | fail
   have hbl : byO (F.get .s) = byO (F.get .s) ++ List.replicate (256 * x.k - (byO (F.get .s)).length) 0 := by
    rw [show 256 * x.k - (byO (F.get .s)).length = 0 by omega]; simp
   have hfin : F.set .s (layB (byO (F.get .s)) (x.k * 256) x.bs) = wrF F x := by
    rw [hwr, Nat.mul_comm x.k 256]; unfold wr; rw [← hbl]
   refine t_ent (S' := [pgsC (pre ++ x :: post), dskC d room F (fu + 256), caC cc L d cap mp rd, lruC L cap ((pre ++ x :: post).map CI.it), amap mp kInt (pgM (pre ++ x :: post))]) ((Ent.pick (Pre := [dskC d room F (fu + 256 * (x.k + 1)), pgsC (pre ++ x :: post), caC cc L d cap mp rd, lruC L cap ((pre ++ x :: post).map CI.it), amap mp kInt (pgM (pre ++ x :: post))]) xpkd).trans ((ent_less (fu + 256 * (x.k + 1)) (fu + 256) (by omega) _).trans (Ent.pick xpkd))) ?_
   refine t_ent ((ent_pg pre post x).frame _) ?_
   refine t_pure (p := 256 ≤ x.c) (fun h hs => by obtain ⟨_, _, _, _, _, ⟨_, _, q3, _⟩, _⟩ := hs; exact q3) fun hxc => ?_
   refine t_tell rfl ?_
   refine t_draw (.eval 0 true (.eval 1 true (.eval 2 true (.eval 3 false (.eval 4 true (.eval 5 true (.eval 6 true (.eval 7 false (.eval 8 true (.eval 9 true (.eval 10 true (.eval 11 true (.eval 12 true (.eval 13 false (.eval 14 true (.eval 15 false (.eff 16 [13] (.eff 17 [] .fin .stop) .stop))))))))))))))))) rfl (by kernel_rfl) ?_
   repeat' first | refine wk ?_ | refine wc ?_ ?_ <;> intro h <;> try omega | refine l_qs (by exact c_lookup (ok := false) rfl rfl xfnd rfl rfl rfl rfl rfl pgM_mem) rfl ?_ | refine d_qs rfl (by exact c_lookup (ok := false) rfl rfl xfnd rfl rfl rfl rfl rfl pgM_mem) rfl ?_ | refine d_gqs rfl rfl (by exact c_lookup (ok := false) rfl rfl xfnd rfl rfl rfl rfl rfl pgM_mem) rfl ?_ | (refine n_eff ?_ ?_; · (repeat first | refine wre ?_ | refine r_cons rfl (by first | exact c_lookup (ok := false) rfl rfl xfnd rfl rfl rfl rfl rfl pgM_mem | fail) rfl ?_ | refine r_gcons rfl rfl (by first | exact c_lookup (ok := false) rfl rfl xfnd rfl rfl rfl rfl rfl pgM_mem | fail) rfl ?_ | exact r_nil | fail)) | fail
   refine c_call (s_write4 (pgC x) d room fu (x.k * 256) F .s x.a 256 x.c x.bs (Rds.own 0 rfl) hb hxc (by omega) (by omega) (by omega) hroom) rfl xpkd rfl rfl ?_
   rintro v S ⟨rfl, rfl⟩
   refine l_tell rfl ?_
   rw [hfin, itM_mid]
   repeat' first | refine wk ?_ | refine wc ?_ ?_ <;> intro h <;> try omega | fail
   refine c_call (s_mark L cap (pre.map CI.it) (post.map CI.it) x.it false) rfl xpkd rfl rfl ?_
   rintro v S ⟨rfl, rfl⟩
   refine l_tell rfl ?_
   repeat' first | refine wk ?_ | refine wc ?_ ?_ <;> intro h <;> try omega | fail
   refine b_ret [caC cc L d cap mp rd, lruC L cap ((pre ++ { x with m := false } :: post).map CI.it), amap mp kInt (pgM (pre ++ x :: post)), pgsC (pre ++ x :: post), dskC d room (wrF F x) fu] rfl ?_ ⟨rfl, rfl⟩
   rw [itM_mid]
   exact (Ent.pick (Pre := [pgC x, pgsC (pre ++ post), caC cc L d cap mp rd, lruC L cap (pre.map CI.it ++ CI.it { x with m := false } :: post.map CI.it), amap mp kInt (pgM (pre ++ x :: post)), dskC d room (wrF F x) fu]) xpkd).trans (((ent_pg' pre post x).frame _).trans (Ent.pick xpkd))
end Go.Ox
end
