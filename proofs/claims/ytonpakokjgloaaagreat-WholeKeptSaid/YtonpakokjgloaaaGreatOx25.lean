/- WholeKept, part 25. No condition. -/
import Derived.Scope
import Derived.Test.YtonpakokjgloaaaGreatOx09
import Derived.Test.YtonpakokjgloaaaGreatOx23
import Derived.Test.YtonpakokjgloaaaGreatOx24
set_option linter.all false
section
set_option maxRecDepth 100000
set_option maxHeartbeats 800000
namespace Go.Ox
open Go Go.Proofs
theorem s_down4 (d room fu : Nat) (F : Fs) : Spec Tryz.prog 185 [.pointer (some ⟨d, 0, none⟩)] [dskC d room F fu] (fun v S => v = .bool false ∧ S = [dskC d room F fu]) := by
 refine Spec.ex dsk_open fun B _ => ?_
 refine Spec.ex dk_open fun r hr => ?_
 intro G FF w hs
 refine (s_down d r.fm room r.ch r.lf _ G ([amap r.fm .string (flM (lst F B)), filesC (lst F B), own r.pa r.pn r.pc 134 3 r.els] ++ FF) w hs).mono ?_
 rintro e w' ⟨v, S', he, ⟨rfl, rfl⟩, hs'⟩
 refine ⟨_, _, he, ⟨rfl, rfl⟩, hs'.ent ?_⟩
 show Ent (dkL d room (lst F B) r ++ FF) ([dskC d room F fu] ++ FF)
 refine Ent.frame ?_ FF
 exact (Ent.close1 (L := dkL d room (lst F B) r) (dk_close hr) xpkd).trans (Ent.fold (L := [_]) (S := []) (dsk_close B))
def tlC (t d n : Nat) : Asn := cellsAt t 148 [.pointer (some ⟨d, 0, none⟩), .int .i64 n]
theorem s_tlLen (t d n : Nat) : Spec Tryz.prog 43 [.pointer (some ⟨t, 0, none⟩)] [tlC t d n] (fun v S => v = .int .i64 n ∧ S = [tlC t d n]) := by
 refine spec_of Tryz.func43 rfl Tryz.results43 Tryz.ntmps43 rfl ?_
 repeat' first | refine wk ?_ | refine wc ?_ ?_ <;> intro h <;> try omega | fail
 exact b_ret _ rfl (Ent.refl _) ⟨rfl, rfl⟩
theorem s_tlOpen (d room fu : Nat) (F : Fs) (hF : F.t = none) : Spec Tryz.prog 267 [.pointer (some ⟨d, 0, none⟩), .int .i64 0] [dskC d room F fu] (fun v S => ∃ t, v = .tuple #[.pointer (some ⟨t, 0, none⟩), .int .i64 0] ∧ S = [tlC t d 0, dskC d room F fu]) := by
 refine spec_of Tryz.func267 rfl Tryz.results267 Tryz.ntmps267 rfl ?_
 repeat' first | refine wk ?_ | refine wc ?_ ?_ <;> intro h <;> try omega | fail
 refine c_call (s_down4 d room fu F) rfl xpkd rfl rfl ?_
 rintro v S ⟨rfl, rfl⟩
 refine l_tell rfl ?_
 repeat' first | refine wk ?_ | refine wc ?_ ?_ <;> intro h <;> try omega | fail
 refine c_call (s_size4 d room fu F .t) rfl xpkd rfl rfl ?_
 rintro v S ⟨rfl, rfl⟩
 refine l_tell rfl ?_
 have e : szI (F.get .t) = -1 := by show szI F.t = -1; rw [hF]; rfl
 rw [e]
 repeat' first | refine wb fun _ => ?_ | refine wk ?_ | refine wc ?_ ?_ <;> intro h <;> try omega | fail
 rename_i t
 exact b_ret [tlC t d 0, dskC d room F fu] rfl (Ent.pick xpkd) ⟨t, rfl, rfl⟩
theorem s_tlAppend (A : Asn) (t d room fu : Nat) (F : Fs) (a2 : Option Addr) (m c2 : Nat) (ys : List Nat) (hr : Rds [A] a2 m 1 (vb ys)) (hy : ys.length = m) (hc : m ≤ c2) (h2 : 1 ≤ m) (h3 : F.tot + lenO F.t + m ≤ room) (hroom : room ≤ 1099511627776) (hm : lenO F.t + m ≤ 16777216) :
  Spec Tryz.prog 49 [.pointer (some ⟨t, 0, none⟩), .slice a2 m c2] [tlC t d (lenO F.t), dskC d room F (fu + m), A] (fun v S => v = .tuple #[.int .i64 (lenO F.t), .int .i64 0] ∧ S = [tlC t d (lenO F.t + m), dskC d room { F with t := some (byO F.t ++ ys) } fu, A]) := by
 refine spec_of Tryz.func49 rfl Tryz.results49 Tryz.ntmps49 rfl ?_
 repeat' first | refine wk ?_ | refine wc ?_ ?_ <;> intro h <;> try omega | fail
 refine t_draw (.eval 0 true (.eval 1 true (.eval 2 true (.eval 3 false (.eval 4 true (.eval 5 true (.eval 6 true (.eval 7 false (.eval 8 true (.eff 9 [] (.eff 10 [] .fin .stop) .stop)))))))))) rfl (by kernel_rfl) ?_
 repeat' first | refine wk ?_ | refine wc ?_ ?_ <;> intro h <;> try omega | fail
 refine c_call (s_write4 A d room fu (lenO F.t) F .t a2 m c2 ys hr hy hc (Nat.le_refl _) h2 h3 hroom) rfl xpkd rfl rfl ?_
 rintro v S ⟨rfl, rfl⟩
 refine l_tell rfl ?_
 have e : F.set .t (layB (byO (F.get .t)) (lenO F.t) ys) = { F with t := some (byO F.t ++ ys) } := by
  have := layB_end (byO F.t) ys
  rw [← lenO_byO] at this
  show ({ F with t := some (layB (byO F.t) (lenO F.t) ys) } : Fs) = _
  rw [this]
 rw [e]
 repeat' first | refine wk ?_ | refine wc ?_ ?_ <;> intro h <;> try omega | fail
 exact b_ret [tlC t d (lenO F.t + m), dskC d room { F with t := some (byO F.t ++ ys) } fu, A] rfl (Ent.pick xpkd) ⟨rfl, rfl⟩
theorem s_tlSync (t d n room fu : Nat) (F : Fs) (h : lenO F.t ≤ 1099511627776) : Spec Tryz.prog 226 [.pointer (some ⟨t, 0, none⟩)] [tlC t d n, dskC d room F fu] (fun v S => v = .int .i64 0 ∧ S = [tlC t d n, dskC d room F fu]) := by
 refine spec_of Tryz.func226 rfl Tryz.results226 Tryz.ntmps226 rfl ?_
 have hsy := s_sync4 d room fu F .t h
 repeat' first | refine wk ?_ | refine wc ?_ ?_ <;> intro h <;> try omega | fail
 cases hg : F.get .t with
 | none =>
  simp only [hg] at hsy
  refine c_call hsy rfl xpkd rfl rfl ?_
  rintro v S ⟨rfl, rfl⟩
  refine l_tell rfl ?_
  repeat' first | refine wk ?_ | refine wc ?_ ?_ <;> intro h <;> try omega | fail
  exact b_ret [tlC t d n, dskC d room F fu] rfl (Ent.pick xpkd) ⟨rfl, rfl⟩
 | some b =>
  simp only [hg] at hsy
  refine c_call hsy rfl xpkd rfl rfl ?_
  rintro v S ⟨rfl, rfl⟩
  refine l_tell rfl ?_
  repeat' first | refine wk ?_ | refine wc ?_ ?_ <;> intro h <;> try omega | fail
  exact b_ret [tlC t d n, dskC d room F fu] rfl (Ent.pick xpkd) ⟨rfl, rfl⟩
end Go.Ox
end
section
set_option maxRecDepth 100000
set_option maxHeartbeats 800000
namespace Go.Ox
open Go Go.Proofs
def trC (T cc s : Nat) : Asn := cellsAt T 157 [.pointer (some ⟨cc, 0, none⟩), .pointer (some ⟨s, 0, none⟩)]
def LfOk (ps : List Pc) : Prop := 1 ≤ ps.length ∧ ps.length ≤ 12 ∧ (∀ p ∈ ps, p.ok) ∧ sumN ps ≤ 1048576
def lfB (no : Nat) (ps : List Pc) : List Nat := pageB no 1 (leafB ps)
def nodeV (a : Option Addr) (n c : Nat) : Value := .agg #[.bool true, .slice a n c, .slice none 0 0]
theorem s_tfail : Spec Tryz.prog 209 [.int .i64 0] [] (fun _ S => S = []) := by
 refine spec_of Tryz.func209 rfl Tryz.results209 Tryz.ntmps209 rfl ?_
 repeat' first | refine wk ?_ | refine wc ?_ ?_ <;> intro h <;> try omega | fail
 exact b_end [] rfl (Ent.refl _) rfl
theorem s_tread (T s : Nat) (K : SK) (hK : K.ok) (pg : Nat → Option (List Nat)) (sl fu no : Nat) (ps : List Pc) (hp : pg no = some (lfB no ps)) (hps : LfOk ps) (hno : no < 1048576) :
  Spec Tryz.prog 147 [.pointer (some ⟨T, 0, none⟩), .int .i64 no] [trC T K.cc s, stC K pg sl (fu + 256 * K.n)] (fun v S => ∃ (a : Option Addr) (c : Nat), v = nodeV a ps.length c ∧ S = [own a ps.length c 88 4 (pcs ps), trC T K.cc s, stC K pg sl fu]) := by
 obtain ⟨h1, h2, h3, h4⟩ := hps
 refine spec_of_d Tryz.func147 rfl Tryz.results147 Tryz.ntmps147 rfl ?_
 repeat' first | refine wk ?_ | refine wc ?_ ?_ <;> intro h <;> try omega | fail
 refine o_alloc rfl rfl fun rb => ?_
 repeat' first | refine wk ?_ | refine wc ?_ ?_ <;> intro h <;> try omega | fail
 refine c_call (s_get K hK pg sl fu no _ hp) rfl xpkd rfl rfl ?_
 rintro v S ⟨a, c, rfl, rfl⟩
 refine l_tell rfl ?_
 refine l_fact (own_some (by omega)) ?_
 rintro ⟨b, rfl, hc⟩
 repeat' first | refine wk ?_ | refine wc ?_ ?_ <;> intro h <;> try omega | fail
 refine c_call s_tfail rfl .nil rfl rfl ?_
 rintro v S rfl
 refine l_tell rfl ?_
 repeat' first | refine wk ?_ | refine wc ?_ ?_ <;> intro h <;> try omega | fail
 refine c_call (s_pageOpen no 1 b c 5 (leafB ps) (by rw [leafB_len]; omega) hno (by omega) (by omega) (leafB_lt ps) hc) rfl xpkd rfl rfl ?_
 rintro v S ⟨a2, c2, rfl, rfl⟩
 refine l_tell rfl ?_
 repeat' first | refine wk ?_ | refine wc ?_ ?_ <;> intro h <;> try omega | fail
 refine o_alloc rfl rfl fun nb => ?_
 repeat' first | refine wk ?_ | refine wc ?_ ?_ <;> intro h <;> try omega | fail
 refine c_call (s_nodeOpen (own a2 (leafB ps).length c2 5 1 (vb (leafB ps))) a2 (leafB ps).length c2 ps (Rds.own 0 rfl) rfl h1 h2 h3 h4) rfl xpkd rfl rfl ?_
 rintro v S ⟨a3, c3, rfl, rfl⟩
 refine l_tell rfl ?_
 repeat' first | refine wk ?_ | refine wc ?_ ?_ <;> intro h <;> try omega | fail
 exact bd_ret (out_nil [own a3 ps.length c3 88 4 (pcs ps), trC T K.cc s, stC K pg sl fu] (.cons (.cell fun N D => c_loadA (b := rb) rfl xfnd rfl rfl rfl) .nil) (Ent.pick xpkd) ⟨a3, c3, rfl, rfl⟩)
theorem s_twrite (A : Asn) (T s tk : Nat) (us : List Nat) (K : SK) (hK : K.ok) (pg : Nat → Option (List Nat)) (sl fu : Nat) (a : Option Addr) (n c : Nat) (ps : List Pc) (hA : PcRd A a n ps) (hl : ps.length = n) (hps : LfOk ps) (hu : us.length + 2 ≤ K.n) (ht : tk ≤ 1000000000) :
  Spec Tryz.prog 215 [.pointer (some ⟨T, 0, none⟩), nodeV a n c] [trC T K.cc s, stC K pg sl (fu + 256 * K.n), spC s us tk, A]
   (fun v S => ∃ no, 1 ≤ no ∧ no ≤ us.length + 1 ∧ no ∉ us ∧ v = .agg #[.int .i64 (no : Nat), .int .i64 (sumN ps), .int .i64 (linesOf ps), .int .i64 n] ∧ S = [trC T K.cc s, stC K (updP pg no (some (lfB no ps))) sl fu, spC s (no :: us) (tk + 1), A]) := by
 obtain ⟨h1, h2, h3, h4⟩ := hps
 have hK' := hK
 obtain ⟨k1, k2, k3, k4, k5, k6⟩ := hK
 refine spec_of_d Tryz.func215 rfl Tryz.results215 Tryz.ntmps215 rfl ?_
 show Trip _ _ _ _ (numF 0 [.pointer (some ⟨T, 0, none⟩), .agg #[.bool true, .slice a n c, .slice none 0 0]]) _ _
 repeat' first | refine wk ?_ | refine wc ?_ ?_ <;> intro h <;> try omega | fail
 refine o_box rfl rfl rfl fun nb => ?_
 refine o_alloc rfl rfl fun rb => ?_
 repeat' first | refine wk ?_ | refine wc ?_ ?_ <;> intro h <;> try omega | fail
 refine c_call (s_nodePack A a n c ps hA hl (by omega) (by omega) h3 h4) rfl xpkd rfl rfl ?_
 rintro v S ⟨a1, c1, rfl, rfl⟩
 refine l_tell rfl ?_
 repeat' first | refine wk ?_ | refine wc ?_ ?_ <;> intro h <;> try omega | fail
 refine c_call (s_spTake s tk us (by omega) ht) rfl xpkd rfl rfl ?_
 rintro v S ⟨no, n1, n2, n3, rfl, rfl⟩
 refine l_tell rfl ?_
 repeat' first | refine wk ?_ | refine wc ?_ ?_ <;> intro h <;> try omega | fail
 refine c_call s_tfail rfl .nil rfl rfl ?_
 rintro v S rfl
 refine l_tell rfl ?_
 repeat' first | refine wk ?_ | refine wc ?_ ?_ <;> intro h <;> try omega | fail
 have hlb : (leafB ps).length = 1 + 13 * n := by rw [leafB_len, hl]
 refine c_call (s_pagePack (own a1 (1 + 13 * n) c1 5 1 (vb (leafB ps))) no 1 a1 (1 + 13 * n) c1 (leafB ps) (Rds.own 0 rfl) hlb (by omega) (by omega) (by omega) (by omega) (leafB_lt ps)) rfl xpkd rfl rfl ?_
 rintro v S ⟨pb, rfl, rfl⟩
 refine l_tell rfl ?_
 repeat' first | refine wk ?_ | refine wc ?_ ?_ <;> intro h <;> try omega | fail
 refine c_call s_tfail rfl .nil rfl rfl ?_
 rintro v S rfl
 refine l_tell rfl ?_
 repeat' first | refine wk ?_ | refine wc ?_ ?_ <;> intro h <;> try omega | fail
 refine l_fact (p := (lfB no ps).length = 256) (fun h hs => by
  obtain ⟨_, _, _, _, _, _, k1, _, _, _, _, ⟨q1, _⟩, _⟩ := hs
  simpa [vb, lfB] using q1) fun hpl => ?_
 refine c_call (s_put (own (some ⟨pb, 0, none⟩) 256 256 393 1 (vb (lfB no ps))) K hK' pg sl fu no (some ⟨pb, 0, none⟩) 256 (lfB no ps) (Rds.own 0 rfl) hpl n1 (by omega)) rfl xpkd rfl rfl ?_
 rintro v S ⟨rfl, rfl⟩
 refine l_tell rfl ?_
 repeat' first | refine wk ?_ | refine wc ?_ ?_ <;> intro h <;> try omega | fail
 refine c_call s_tfail rfl .nil rfl rfl ?_
 rintro v S rfl
 refine l_tell rfl ?_
 repeat' first | refine wk ?_ | refine wc ?_ ?_ <;> intro h <;> try omega | fail
 refine c_call (s_nodeSum A a n c ps hA hl (by omega) (by omega) h3 h4) rfl xpkd rfl rfl ?_
 rintro v S ⟨rfl, rfl⟩
 refine l_tell rfl ?_
 repeat' first | refine wk ?_ | refine wc ?_ ?_ <;> intro h <;> try omega | fail
 exact bd_ret (out_nil [trC T K.cc s, stC K (updP pg no (some (lfB no ps))) sl fu, spC s (no :: us) (tk + 1), A] (.cons (.cell fun N D => c_loadA (b := rb) rfl xfnd rfl rfl rfl) .nil) (Ent.pick xpkd) ⟨no, n1, n2, n3, rfl, rfl⟩)
end Go.Ox
end
section
set_option maxRecDepth 100000
set_option maxHeartbeats 800000
namespace Go.Ox
open Go Go.Proofs
theorem s_tmany (a : Option Addr) (n c : Nat) (hn : n ≤ 1000000) : Spec Tryz.prog 214 [nodeV a n c] [] (fun v S => v = .int .i64 (n : Int) ∧ S = []) := by
 refine spec_of Tryz.func214 rfl Tryz.results214 Tryz.ntmps214 rfl ?_
 show Trip _ _ _ _ (numF 0 [.agg #[.bool true, .slice a n c, .slice none 0 0]]) _ _
 repeat' first | refine wb fun _ => ?_ | refine wk ?_ | refine wc ?_ ?_ <;> intro h <;> try omega | fail
 exact b_ret [] rfl (fun _ _ => trivial) ⟨by show Value.int .i64 ((n : Int) + 0) = _; rw [Int.add_zero], rfl⟩
theorem s_tcut (a : Option Addr) (n c : Nat) (hc : n ≤ c) : Spec Tryz.prog 213 [nodeV a n c, .int .i64 0, .int .i64 (n : Int)] [] (fun v S => v = nodeV (slide a c 0 4) n c ∧ S = []) := by
 refine spec_of_d Tryz.func213 rfl Tryz.results213 Tryz.ntmps213 rfl ?_
 show Trip _ _ _ _ (numF 0 [.agg #[.bool true, .slice a n c, .slice none 0 0], .int .i64 0, .int .i64 (n : Int)]) _ _
 repeat' first | refine wk ?_ | refine wc ?_ ?_ <;> intro h <;> try omega | fail
 refine o_box rfl rfl rfl fun nb => ?_
 refine o_alloc rfl rfl fun rb => ?_
 repeat' first | refine l_qp (by (apply q_slice2 (lo := 0) (hi := n); exact rfl; exact rfl; exact rfl; exact rfl; exact rfl; exact rfl; exact rfl; omega; omega)) rfl ?_ | refine d_qp rfl (by (apply q_slice2 (lo := 0) (hi := n); exact rfl; exact rfl; exact rfl; exact rfl; exact rfl; exact rfl; exact rfl; omega; omega)) rfl ?_ | refine d_gqp rfl rfl (by (apply q_slice2 (lo := 0) (hi := n); exact rfl; exact rfl; exact rfl; exact rfl; exact rfl; exact rfl; exact rfl; omega; omega)) rfl ?_ | refine wk ?_ | refine wc ?_ ?_ <;> intro h <;> try omega | fail
 exact bd_ret (out_nil [] (.cons (.cell fun N D => c_loadA (b := rb) rfl xfnd rfl rfl rfl) .nil) (fun _ _ => trivial) ⟨rfl, rfl⟩)
theorem rds_slide0 {A : Asn} {a : Option Addr} {n c : Nat} {ps : List Pc} (hA : PcRd A a n ps) (hc : n ≤ c) (hl : ps.length = n) : PcRd A (slide a c 0 4) n ps := by
 have := Rds.win hA c 0 n hc (by omega)
 unfold PcRd
 rwa [List.drop_zero, List.take_of_length_le (by simp [pcs, hl])] at this
theorem s_tspread (A : Asn) (T s tk : Nat) (us : List Nat) (K : SK) (hK : K.ok) (pg : Nat → Option (List Nat)) (sl fu : Nat) (a : Option Addr) (n c : Nat) (ps : List Pc) (hA : PcRd A a n ps) (hl : ps.length = n) (hc : n ≤ c) (hps : LfOk ps) (hu : us.length + 2 ≤ K.n) (ht : tk ≤ 1000000000) :
  Spec Tryz.prog 152 [.pointer (some ⟨T, 0, none⟩), nodeV a n c] [trC T K.cc s, stC K pg sl (fu + 256 * K.n), spC s us tk, A]
   (fun v S => ∃ (no : Nat) (a' : Option Addr) (c' : Nat), 1 ≤ no ∧ no ≤ us.length + 1 ∧ no ∉ us ∧ v = .slice a' 1 c' ∧ S = [own a' 1 c' 165 4 [[.int .i64 (no : Nat), .int .i64 (sumN ps), .int .i64 (linesOf ps), .int .i64 n]], trC T K.cc s, stC K (updP pg no (some (lfB no ps))) sl fu, spC s (no :: us) (tk + 1), A]) := by
 have hps' := hps
 obtain ⟨h1, h2, h3, h4⟩ := hps
 refine spec_of Tryz.func152 rfl Tryz.results152 Tryz.ntmps152 rfl ?_
 show Trip _ _ _ _ (numF 0 [.pointer (some ⟨T, 0, none⟩), .agg #[.bool true, .slice a n c, .slice none 0 0]]) _ _
 repeat' first | refine wk ?_ | refine wc ?_ ?_ <;> intro h <;> try omega | fail
 refine o_box rfl rfl rfl fun nb => ?_
 repeat' first | refine wk ?_ | refine wc ?_ ?_ <;> intro h <;> try omega | fail
 refine c_call (s_tmany a n c (by omega)) rfl .nil rfl rfl ?_
 rintro v S ⟨rfl, rfl⟩
 refine l_tell rfl ?_
 repeat' first | refine wk ?_ | refine wc ?_ ?_ <;> intro h <;> try omega | fail
 have hq : ((n : Int) + 12 - 1) / 12 = 1 := by omega
 rw [hq]
 refine t_ent (ent_nil 165 4 _) ?_
 refine t_loop (fun mm env S => ∃ i, i ≤ 1 ∧ mm = 1 - i ∧ ((i = 0 ∧ env = [(0, .pointer (some ⟨T, 0, none⟩)), (3, .pointer (some ⟨nb, 0, none⟩)), (5, .int .i64 (n : Int)), (6, .int .i64 1), (7, .slice none 0 0), (8, .int .i64 0), (17, .int .i64 1), (18, .int .i64 0)] ∧ S = [own none 0 0 165 4 [], cellsAt nb 224 [.bool true, .slice a n c, .slice none 0 0], trC T K.cc s, stC K pg sl (fu + 256 * K.n), spC s us tk, A]) ∨
   (i = 1 ∧ ∃ (no : Nat) (a' : Option Addr) (c' : Nat), 1 ≤ no ∧ no ≤ us.length + 1 ∧ no ∉ us ∧ env = [(7, .slice a' 1 c'), (17, .int .i64 1), (18, .int .i64 1)] ∧ S = [own a' 1 c' 165 4 [[.int .i64 (no : Nat), .int .i64 (sumN ps), .int .i64 (linesOf ps), .int .i64 n]], trC T K.cc s, stC K (updP pg no (some (lfB no ps))) sl fu, spC s (no :: us) (tk + 1), A]))) 1 _ _ ⟨0, by omega, by omega, .inl ⟨rfl, rfl, rfl⟩⟩ xlss (Ent.pick xpkd) ?_
 rintro mm env S ⟨i, hi, rfl, ⟨rfl, rfl, rfl⟩ | ⟨rfl, no, a', c', n1, n2, n3, rfl, rfl⟩⟩
 ·repeat' first | refine wk ?_ | refine wc ?_ ?_ <;> intro h <;> try omega | fail
  have e1 : (n : Int) / 1 = (n : Int) := by omega
  have e2 : (0 : Int) + (n : Int) / 1 = (n : Int) := by omega
  rw [e2]
  refine c_call (s_tcut a n c hc) rfl .nil rfl rfl ?_
  rintro v S ⟨rfl, rfl⟩
  refine l_tell rfl ?_
  repeat' first | refine wk ?_ | refine wc ?_ ?_ <;> intro h <;> try omega | fail
  refine c_call (s_twrite A T s tk us K hK pg sl fu (slide a c 0 4) n c ps (rds_slide0 hA hc hl) hl hps' hu ht) rfl xpkd rfl rfl ?_
  rintro v S ⟨no, n1, n2, n3, rfl, rfl⟩
  refine l_tell rfl ?_
  repeat' first | refine wk ?_ | refine wc ?_ ?_ <;> intro h <;> try omega | fail
  refine o_buildSlice rfl rfl rfl rfl rfl rfl rfl rfl rfl rfl rfl rfl fun pb => ?_
  repeat' first | refine wk ?_ | refine wc ?_ ?_ <;> intro h <;> try omega | fail
  refine c_append rfl rfl xhol (own_rds (a := some ⟨pb, 0, none⟩) xfnd) rfl rfl rfl rfl rfl (by show (0 + 1) * 32 ≤ _; omega) (by omega) rfl fun a3 c3 => ?_
  repeat' first | refine wk ?_ | refine wc ?_ ?_ <;> intro h <;> try omega | fail
  exact ⟨rfl, 0, _, _, by omega, ⟨1, by omega, by omega, .inr ⟨rfl, no, a3, c3, n1, n2, n3, rfl, rfl⟩⟩, xlss, Ent.pick xpkd⟩
 ·repeat' first | refine wk ?_ | refine wc ?_ ?_ <;> intro h <;> try omega | fail
  exact b_ret _ rfl (Ent.refl _) ⟨no, a', c', n1, n2, n3, rfl, rfl⟩
def tallV (no n : Nat) (ps : List Pc) : Value := .agg #[.int .i64 (no : Int), .int .i64 (sumN ps), .int .i64 (linesOf ps), .int .i64 (n : Int), .int .i64 0]
def noneV : Value := .agg #[.int .i64 0, .int .i64 0, .int .i64 0, .int .i64 0, .int .i64 (-1)]
theorem s_tnone : Spec Tryz.prog 148 [] [] (fun v S => v = noneV ∧ S = []) := by
 refine spec_of_d Tryz.func148 rfl Tryz.results148 Tryz.ntmps148 rfl ?_
 repeat' first | refine wk ?_ | refine wc ?_ ?_ <;> intro h <;> try omega | fail
 refine o_alloc rfl rfl fun rb => ?_
 repeat' first | refine wk ?_ | refine wc ?_ ?_ <;> intro h <;> try omega | fail
 exact bd_ret (out_nil [] (.cons (.cell fun N D => c_loadA (b := rb) rfl xfnd rfl rfl rfl) .nil) (fun _ _ => trivial) ⟨rfl, rfl⟩)
theorem s_tleaves (A : Asn) (T s tk : Nat) (us : List Nat) (K : SK) (hK : K.ok) (pg : Nat → Option (List Nat)) (sl fu : Nat) (a : Option Addr) (n c : Nat) (ps : List Pc) (hA : PcRd A a n ps) (hl : ps.length = n) (hc : n ≤ c) (hps : LfOk ps) (hu : us.length + 2 ≤ K.n) (ht : tk ≤ 1000000000) :
  Spec Tryz.prog 98 [.pointer (some ⟨T, 0, none⟩), .slice a n c] [trC T K.cc s, stC K pg sl (fu + 256 * K.n), spC s us tk, A]
   (fun v S => ∃ (no : Nat), 1 ≤ no ∧ no ≤ us.length + 1 ∧ no ∉ us ∧ v = tallV no n ps ∧ S = [trC T K.cc s, stC K (updP pg no (some (lfB no ps))) sl fu, spC s (no :: us) (tk + 1), A]) := by
 refine spec_of_d Tryz.func98 rfl Tryz.results98 Tryz.ntmps98 rfl ?_
 repeat' first | refine wk ?_ | refine wc ?_ ?_ <;> intro h <;> try omega | fail
 refine o_alloc rfl rfl fun rb => ?_
 repeat' first | refine wk ?_ | refine wc ?_ ?_ <;> intro h <;> try omega | fail
 refine c_call (s_tspread A T s tk us K hK pg sl fu a n c ps hA hl hc hps hu ht) rfl xpkd rfl rfl ?_
 rintro v S ⟨no, a', c', n1, n2, n3, rfl, rfl⟩
 refine l_tell rfl ?_
 repeat' first | refine wk ?_ | refine wc ?_ ?_ <;> intro h <;> try omega | fail
 have hgrown : Spec Tryz.prog 151 [.pointer (some ⟨T, 0, none⟩), .slice a' 1 c', .int .i64 0] [own a' 1 c' 165 4 [[.int .i64 (no : Nat), .int .i64 (sumN ps), .int .i64 (linesOf ps), .int .i64 n]]] (fun v S => v = tallV no n ps ∧ S = []) := by
  refine spec_of_d Tryz.func151 rfl Tryz.results151 Tryz.ntmps151 rfl ?_
  refine t_pure (own_some (by omega)) ?_
  rintro ⟨b, rfl, _⟩
  repeat' first | refine wk ?_ | refine wc ?_ ?_ <;> intro h <;> try omega | fail
  refine o_alloc rfl rfl fun rb2 => ?_
  repeat' first | refine wk ?_ | refine wc ?_ ?_ <;> intro h <;> try omega | fail
  refine t_loop0 ?_
  repeat' first | refine wk ?_ | refine wc ?_ ?_ <;> intro h <;> try omega | refine l_qs (by exact q_loadRdA (j := 0) (own_rds (a := some ⟨b, 0, none⟩) (n := 1) (c := c') xfnd) rfl rfl rfl rfl rfl rfl) rfl ?_ | fail
  exact bd_ret (out_nil [] (.cons (.cell fun N D => c_loadA (b := rb2) rfl xfnd rfl rfl rfl) .nil) (fun _ _ => trivial) ⟨rfl, rfl⟩)
 refine c_call hgrown rfl xpkd rfl rfl ?_
 rintro v S ⟨rfl, rfl⟩
 refine l_tell rfl ?_
 repeat' first | refine wk ?_ | refine wc ?_ ?_ <;> intro h <;> try omega | fail
 exact bd_ret (out_nil [trC T K.cc s, stC K (updP pg no (some (lfB no ps))) sl fu, spC s (no :: us) (tk + 1), A] (.cons (.cell fun N D => c_loadA (b := rb) rfl xfnd rfl rfl rfl) .nil) (Ent.pick xpkd) ⟨no, n1, n2, n3, rfl, rfl⟩)
theorem s_tput1 (T no n : Nat) (ps : List Pc) : Spec Tryz.prog 97 [.pointer (some ⟨T, 0, none⟩), noneV, tallV no n ps] [] (fun v S => v = tallV no n ps ∧ S = []) := by
 refine spec_of_d Tryz.func97 rfl Tryz.results97 Tryz.ntmps97 rfl ?_
 show Trip _ _ _ _ (numF 0 [.pointer (some ⟨T, 0, none⟩), .agg #[.int .i64 0, .int .i64 0, .int .i64 0, .int .i64 0, .int .i64 (-1)], .agg #[.int .i64 (no : Int), .int .i64 (sumN ps), .int .i64 (linesOf ps), .int .i64 (n : Int), .int .i64 0]]) _ _
 repeat' first | refine wk ?_ | refine wc ?_ ?_ <;> intro h <;> try omega | fail
 refine o_box rfl rfl rfl fun b4 => ?_
 refine o_box rfl rfl rfl fun b5 => ?_
 refine o_alloc rfl rfl fun rb => ?_
 repeat' first | refine wk ?_ | refine wc ?_ ?_ <;> intro h <;> try omega | fail
 exact bd_ret (out_nil [] (.cons (.cell fun N D => c_loadA (b := rb) rfl xfnd rfl rfl rfl) .nil) (fun _ _ => trivial) ⟨rfl, rfl⟩)
theorem s_tput2 (T no n : Nat) (ps : List Pc) : Spec Tryz.prog 97 [.pointer (some ⟨T, 0, none⟩), tallV no n ps, noneV] [] (fun v S => v = tallV no n ps ∧ S = []) := by
 refine spec_of_d Tryz.func97 rfl Tryz.results97 Tryz.ntmps97 rfl ?_
 show Trip _ _ _ _ (numF 0 [.pointer (some ⟨T, 0, none⟩), .agg #[.int .i64 (no : Int), .int .i64 (sumN ps), .int .i64 (linesOf ps), .int .i64 (n : Int), .int .i64 0], .agg #[.int .i64 0, .int .i64 0, .int .i64 0, .int .i64 0, .int .i64 (-1)]]) _ _
 repeat' first | refine wk ?_ | refine wc ?_ ?_ <;> intro h <;> try omega | fail
 refine o_box rfl rfl rfl fun b4 => ?_
 refine o_box rfl rfl rfl fun b5 => ?_
 refine o_alloc rfl rfl fun rb => ?_
 repeat' first | refine wk ?_ | refine wc ?_ ?_ <;> intro h <;> try omega | fail
 exact bd_ret (out_nil [] (.cons (.cell fun N D => c_loadA (b := rb) rfl xfnd rfl rfl rfl) .nil) (fun _ _ => trivial) ⟨rfl, rfl⟩)
end Go.Ox
end
section
namespace Go.Ox
open Go
def noGotoP (Q : Post) : Post
 | .goto _, _, _, _ => False
 | .normal, D, env, S => Q .normal D env S
 | .exit i, D, env, S => Q (.exit i) D env S
 | .ret, D, env, S => Q .ret D env S
 | .panic c, D, env, S => Q (.panic c) D env S
 | .outgrown, D, env, S => Q .outgrown D env S
theorem t_scope {P : Program} {N : Nat} {c : Code} {D : List Deferred} {env : KEnv} {S : List Asn} {Q : Post} (h : Trip P N c D env S (noGotoP Q)) : Trip P N (.scope c) D env S Q :=
 ⟨fun G F a w k => wp_scope_straight (Code.wp_mono (fun e a w q => by
  obtain ⟨D', env', S', q, k'⟩ := q
  cases e with
  | normal => exact ⟨D', env', S', q, k'⟩
  | exit i => exact ⟨D', env', S', q, k'⟩
  | goto i => exact q.elim
  | ret => exact ⟨D', env', S', q, k'⟩
  | panic i => exact ⟨D', env', S', q, k'⟩
  | outgrown => exact ⟨D', env', S', q, k'⟩) (h.run G F a w k))⟩
theorem t_label {P : Program} {N l : Nat} {D : List Deferred} {env : KEnv} {S : List Asn} {Q : Post} (h : Q .normal D env S) : Trip P N (.label l) D env S Q := ⟨fun _ _ _ _ k => wp_label ⟨D, env, S, h, k⟩⟩
theorem pn_ret {Q : Post} {D : List Deferred} {env : KEnv} {S : List Asn} (h : Q .ret D env S) : noGotoP Q .ret D env S := h
theorem pt_exit {next : List Deferred → KEnv → List Asn → Prop} {Q : Post} {i : Nat} {D : List Deferred} {env : KEnv} {S : List Asn} (h : Q (.exit i) D env S) : thenP next Q (.exit i) D env S := h
theorem pb_exit {Q : Post} {i : Nat} {D : List Deferred} {env : KEnv} {S : List Asn} (h : Q .normal D env S) : blockP i Q (.exit i) D env S := by
 unfold blockP; simp only [Nat.beq_refl, cond_true]; exact h
end Go.Ox
end
