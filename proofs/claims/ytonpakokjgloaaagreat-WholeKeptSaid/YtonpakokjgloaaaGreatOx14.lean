/- WholeKept, part 14. No condition. -/
import Derived.Test.YtonpakokjgloaaaGreatOx11
set_option linter.all false
section
set_option maxRecDepth 100000
set_option maxHeartbeats 1000000
namespace Go.Ox
open Go Go.Proofs
def pageHd (no kind : Nat) (body : List Nat) : List Nat := [kind, 0] ++ leB body.length 2 ++ leB no 4
def pageTl (body : List Nat) : List Nat := body ++ List.replicate (244 - body.length) 0
def pageB (no kind : Nat) (body : List Nat) : List Nat := pageHd no kind body ++ leB (crcN (pageHd no kind body ++ pageTl body)) 4 ++ pageTl body
theorem leB_1 (n : Nat) : leB n 1 = [n % 256] := by simp [leB, List.range_succ]
theorem leB_2 (n : Nat) : leB n 2 = [n % 256, n / 256 % 256] := by simp [leB, List.range_succ]
theorem leB_4 (n : Nat) : leB n 4 = [n % 256, n / 256 % 256, n / 65536 % 256, n / 16777216 % 256] := by simp [leB, List.range_succ]
theorem pageHd_len (no kind : Nat) (body : List Nat) : (pageHd no kind body).length = 8 := by simp [pageHd, leB_len]
theorem pageTl_len {body : List Nat} (h : body.length ≤ 244) : (pageTl body).length = 244 := by simp [pageTl]; omega
theorem pageB_len {no kind : Nat} {body : List Nat} (h : body.length ≤ 244) : (pageB no kind body).length = 256 := by
 simp only [pageB, List.length_append, pageHd_len, pageTl_len h, leB_len]
theorem pageHd_lt {no kind : Nat} {body : List Nat} (hk : kind < 256) : ∀ b ∈ pageHd no kind body, b < 256 := by
 intro b hb
 simp only [pageHd, List.mem_append] at hb
 rcases hb with (hb | hb) | hb
 ·rcases List.mem_cons.1 hb with h | hb
  ·omega
  ·rcases List.mem_cons.1 hb with h | hb
   ·omega
   ·cases hb
 ·exact leB_lt _ _ b hb
 ·exact leB_lt _ _ b hb
theorem pageTl_lt {body : List Nat} (hb : ∀ b ∈ body, b < 256) : ∀ b ∈ pageTl body, b < 256 := by
 intro b h
 rcases List.mem_append.1 h with h | h
 ·exact hb b h
 ·rw [List.eq_of_mem_replicate h]; omega
theorem pageB_lt {no kind : Nat} {body : List Nat} (hk : kind < 256) (hb : ∀ b ∈ body, b < 256) : ∀ b ∈ pageB no kind body, b < 256 := by
 intro b h
 simp only [pageB, List.mem_append] at h
 rcases h with (h | h) | h
 ·exact pageHd_lt hk b h
 ·exact leB_lt _ _ b h
 ·exact pageTl_lt hb b h
theorem q_conv198 {env : KEnv} {x : Operand} {t : TypeId} {m : Nat} (hx : ev env x = some (.int .u32 (m : Int))) (hm : m < 4294967296) : QP Tryz.prog env (.convert 198 3 x) t (.int .i64 (m : Int)) :=
 q_conv hx (ti := i198) (ti' := i3) rfl rfl rfl (wrap_in _ (by omega) (by omega))
theorem s_pageNumber (b lo n w cw nn cc e : Nat) (bs : List Nat) (h1 : 1 ≤ w) (h2 : w ≤ 4) (hn : n < 256 ^ w) (hlo : lo + w ≤ bs.length) :
  Spec Tryz.prog 296 [.slice (some ⟨b, lo, none⟩) w cw, .int .i64 n, .int .i64 w] [own (some ⟨b, 0, none⟩) nn cc e 1 (vb bs)] (fun v S => S = [own (some ⟨b, 0, none⟩) nn cc e 1 (vb (layB bs lo (leB n w)))]) := by
 have hpw : 256 ^ w ≤ 256 ^ 4 := Nat.pow_le_pow_right (by decide) h2
 refine spec_of Tryz.func296 rfl Tryz.results296 Tryz.ntmps296 rfl ?_
 repeat' first | refine wk ?_ | refine wc ?_ ?_ <;> intro h <;> try omega | fail
 refine c_call (s_leBytes n w h1 (by omega) hn (by omega)) rfl xpkd rfl rfl ?_
 rintro v S ⟨b2, rfl, rfl⟩
 refine l_tell rfl ?_
 repeat' first | refine wk ?_ | refine wc ?_ ?_ <;> intro h <;> try omega | fail
 refine c_copy rfl rfl xhol (own_rds xfnd) (Nat.le_refl _) hlo rfl ?_
 refine l_tell rfl ?_
 repeat' first | refine wk ?_ | refine wc ?_ ?_ <;> intro h <;> try omega | fail
 exact b_end _ rfl (Ent.pick xpkd) rfl
theorem rds_here {b n c e : Nat} {bs : List Nat} (lo k : Nat) (h : lo + k ≤ bs.length) : Rds [own (some ⟨b, 0, none⟩) n c e 1 (vb bs)] (some ⟨b, lo, none⟩) k 1 (vb ((bs.drop lo).take k)) := fun x hs => by
 have h1 := (Rds.own 0 rfl : Rds [own (some ⟨b, 0, none⟩) n c e 1 (vb bs)] _ _ _ _) x hs
 obtain ⟨q1, q2, q3⟩ := h1
 have hbl : bs.length = n := by simpa [vb] using q1
 refine ⟨by simp [vb]; omega, vb_ok _, ?_⟩
 by_cases hk : k = 0
 ·exact .inl hk
 ·right
  rcases q3 with q3 | ⟨b', off, cs, e', f, ha, hb, hg⟩
  ·omega
  ·cases ha
   refine ⟨b, lo, cs, e', f, rfl, hb, fun j v hj => ?_⟩
   rw [vb_flatten] at hj
   have hj2 : (vb bs).flatten[lo + j]? = some v := by
    rw [vb_flatten]
    rw [List.map_take, List.map_drop, List.getElem?_take] at hj
    split at hj
    ·rw [List.getElem?_drop] at hj; exact hj
    ·cases hj
   have := hg _ v hj2
   rw [Nat.zero_add] at this; exact this
theorem pageB_lay2 (no kind : Nat) (body x : List Nat) (h4 : x.length = 4) : layB (pageHd no kind body ++ [0, 0, 0, 0] ++ pageTl body) 8 x = pageHd no kind body ++ x ++ pageTl body := by
 unfold layB
 rw [h4, List.append_assoc (pageHd no kind body), List.take_append_of_le_length (by rw [pageHd_len]; omega), List.take_of_length_le (by rw [pageHd_len]; omega)]
 rw [List.drop_append, List.drop_of_length_le (by simp [pageHd_len]), pageHd_len]
 simp
theorem pageB_lay (no kind : Nat) (body : List Nat) (h : body.length ≤ 244) (hk : kind < 256) :
  layB (layB (layB ((List.replicate 256 0).set 0 (kind % 256)) 2 (leB body.length 2)) 4 (leB no 4)) 12 body = pageHd no kind body ++ [0, 0, 0, 0] ++ pageTl body := by
 have h1 : (List.replicate 256 0).set 0 (kind % 256) = [kind, 0, 0, 0, 0, 0, 0, 0, 0, 0, 0, 0] ++ List.replicate 244 0 := by
  rw [Nat.mod_eq_of_lt hk]; rfl
 have h2 : layB (layB ([kind, 0, 0, 0, 0, 0, 0, 0, 0, 0, 0, 0] ++ List.replicate 244 0) 2 (leB body.length 2)) 4 (leB no 4) = (pageHd no kind body ++ [0, 0, 0, 0]) ++ List.replicate 244 0 := by
  simp only [leB_2, leB_4, layB, pageHd]
  rfl
 rw [h1, h2]
 have h3 : (pageHd no kind body ++ [0, 0, 0, 0]).length = 12 := by simp [pageHd_len]
 unfold layB
 rw [List.take_append_of_le_length (by omega), List.take_of_length_le (by omega), List.drop_append, h3]
 rw [List.drop_of_length_le (by omega), List.nil_append, Nat.add_sub_cancel_left, List.drop_replicate, List.append_assoc]
 rfl
theorem s_pagePack (A : Asn) (no kind : Nat) (a : Option Addr) (n c : Nat) (body : List Nat) (hA : Rds [A] a n 1 (vb body)) (hl : body.length = n) (hn : n ≤ 244) (hno : no < 1048576) (hk1 : 1 ≤ kind) (hk2 : kind ≤ 9) (hb : ∀ b ∈ body, b < 256) :
  Spec Tryz.prog 223 [.int .i64 no, .int .i64 kind, .slice a n c] [A] (fun v S => ∃ b, v = .tuple #[.slice (some ⟨b, 0, none⟩) 256 256, .int .i64 0] ∧ S = [A, own (some ⟨b, 0, none⟩) 256 256 393 1 (vb (pageB no kind body))]) := by
 refine spec_of Tryz.func223 rfl Tryz.results223 Tryz.ntmps223 rfl ?_
 repeat' first | refine wk ?_ | refine wc ?_ ?_ <;> intro h <;> try omega | fail
 refine o_alloc (ti := i393) rfl rfl fun b => ?_
 refine l_close (A := own (some ⟨b, 0, none⟩) 256 256 393 1 (vb (List.replicate 256 0))) (L := [cellsAt b 393 i393.zero]) (cells_own (bs := List.replicate 256 0) (by simp) (by omega)) xpkd ?_
 repeat' first | refine l_qp (by (apply q_convB; exact rfl)) rfl ?_ | refine d_qp rfl (by (apply q_convB; exact rfl)) rfl ?_ | refine d_gqp rfl rfl (by (apply q_convB; exact rfl)) rfl ?_ | refine l_qp (by (apply q_arrAddr; exact rfl; exact rfl; exact rfl; exact rfl; exact rfl; exact rfl; first | omega | decide)) rfl ?_ | refine d_qp rfl (by (apply q_arrAddr; exact rfl; exact rfl; exact rfl; exact rfl; exact rfl; exact rfl; first | omega | decide)) rfl ?_ | refine d_gqp rfl rfl (by (apply q_arrAddr; exact rfl; exact rfl; exact rfl; exact rfl; exact rfl; exact rfl; first | omega | decide)) rfl ?_ | refine l_qp (by (apply q_arrSlice; exact rfl; exact rfl; exact rfl; exact rfl; exact rfl; exact rfl; exact rfl; exact rfl; exact rfl; exact rfl)) rfl ?_ | refine d_qp rfl (by (apply q_arrSlice; exact rfl; exact rfl; exact rfl; exact rfl; exact rfl; exact rfl; exact rfl; exact rfl; exact rfl; exact rfl)) rfl ?_ | refine d_gqp rfl rfl (by (apply q_arrSlice; exact rfl; exact rfl; exact rfl; exact rfl; exact rfl; exact rfl; exact rfl; exact rfl; exact rfl; exact rfl)) rfl ?_ | refine wk ?_ | refine wc ?_ ?_ <;> intro h <;> try omega | fail
 refine c_storeB rfl rfl xhol 0 rfl (by simp) ?_
 repeat' first | refine l_qp (by (apply q_arrSlice; exact rfl; exact rfl; exact rfl; exact rfl; exact rfl; exact rfl; exact rfl; exact rfl; exact rfl; exact rfl)) rfl ?_ | refine d_qp rfl (by (apply q_arrSlice; exact rfl; exact rfl; exact rfl; exact rfl; exact rfl; exact rfl; exact rfl; exact rfl; exact rfl; exact rfl)) rfl ?_ | refine d_gqp rfl rfl (by (apply q_arrSlice; exact rfl; exact rfl; exact rfl; exact rfl; exact rfl; exact rfl; exact rfl; exact rfl; exact rfl; exact rfl)) rfl ?_ | refine wk ?_ | refine wc ?_ ?_ <;> intro h <;> try omega | fail
 have hno4 : no < 256 ^ 4 := by show no < 4294967296; omega
 have l1 : ((List.replicate 256 0).set 0 (kind % 256)).length = 256 := by simp
 have hlay := pageB_lay no kind body (by omega) (by omega)
 generalize (List.replicate 256 0).set 0 (kind % 256) = B1 at *
 have l2 : (layB B1 2 (leB body.length 2)).length = 256 := by rw [layB_len (by rw [leB_len]; omega)]; exact l1
 have l3 : (layB (layB B1 2 (leB body.length 2)) 4 (leB no 4)).length = 256 := by rw [layB_len (by rw [leB_len]; omega)]; exact l2
 refine c_call (s_pageNumber b 2 body.length 2 254 256 256 393 B1 (by omega) (by omega) (by show body.length < 65536; omega) (by omega)) (by rw [hl]; rfl) xpkd rfl rfl ?_
 rintro v S rfl
 refine l_tell rfl ?_
 refine l_slots [0, 1, 2, 8] rfl ?_
 repeat' first | refine l_qp (by (apply q_arrSlice; exact rfl; exact rfl; exact rfl; exact rfl; exact rfl; exact rfl; exact rfl; exact rfl; exact rfl; exact rfl)) rfl ?_ | refine d_qp rfl (by (apply q_arrSlice; exact rfl; exact rfl; exact rfl; exact rfl; exact rfl; exact rfl; exact rfl; exact rfl; exact rfl; exact rfl)) rfl ?_ | refine d_gqp rfl rfl (by (apply q_arrSlice; exact rfl; exact rfl; exact rfl; exact rfl; exact rfl; exact rfl; exact rfl; exact rfl; exact rfl; exact rfl)) rfl ?_ | refine wk ?_ | refine wc ?_ ?_ <;> intro h <;> try omega | fail
 refine c_call (s_pageNumber b 4 no 4 252 256 256 393 _ (by omega) (by omega) hno4 (by rw [l2]; omega)) rfl xpkd rfl rfl ?_
 rintro v S rfl
 refine l_tell rfl ?_
 refine l_slots [0, 1, 2, 8] rfl ?_
 repeat' first | refine l_qp (by (apply q_arrSlice; exact rfl; exact rfl; exact rfl; exact rfl; exact rfl; exact rfl; exact rfl; exact rfl; exact rfl; exact rfl)) rfl ?_ | refine d_qp rfl (by (apply q_arrSlice; exact rfl; exact rfl; exact rfl; exact rfl; exact rfl; exact rfl; exact rfl; exact rfl; exact rfl; exact rfl)) rfl ?_ | refine d_gqp rfl rfl (by (apply q_arrSlice; exact rfl; exact rfl; exact rfl; exact rfl; exact rfl; exact rfl; exact rfl; exact rfl; exact rfl; exact rfl)) rfl ?_ | refine wk ?_ | refine wc ?_ ?_ <;> intro h <;> try omega | fail
 refine c_copy rfl rfl xhol (hA.up xpkd) (by show n ≤ 244; omega) (by show 12 + n ≤ _; rw [l3]; omega) rfl ?_
 rw [hlay]
 refine l_tell rfl ?_
 refine l_slots [0, 1, 2, 8] rfl ?_
 repeat' first | refine wk ?_ | refine wc ?_ ?_ <;> intro h <;> try omega | fail
 refine t_draw (.eval 0 true (.eval 1 true (.eval 2 true (.eff 3 [] (.eff 4 [] (.eval 5 true (.eff 6 [] .fin .stop)) .stop) .stop)))) rfl (by kernel_rfl) ?_
 repeat' first | refine l_qp (by (apply q_arrSlice; exact rfl; exact rfl; exact rfl; exact rfl; exact rfl; exact rfl; exact rfl; exact rfl; exact rfl; exact rfl)) rfl ?_ | refine d_qp rfl (by (apply q_arrSlice; exact rfl; exact rfl; exact rfl; exact rfl; exact rfl; exact rfl; exact rfl; exact rfl; exact rfl; exact rfl)) rfl ?_ | refine d_gqp rfl rfl (by (apply q_arrSlice; exact rfl; exact rfl; exact rfl; exact rfl; exact rfl; exact rfl; exact rfl; exact rfl; exact rfl; exact rfl)) rfl ?_ | refine wk ?_ | refine wc ?_ ?_ <;> intro h <;> try omega | fail
 have hw : (pageHd no kind body ++ [0, 0, 0, 0] ++ pageTl body).length = 256 := by simp [pageHd_len, pageTl_len (body := body) (by omega)]
 have e1 : ((pageHd no kind body ++ [0, 0, 0, 0] ++ pageTl body).drop 0).take 8 = pageHd no kind body := by
  rw [List.drop_zero, List.append_assoc, List.take_append_of_le_length (by rw [pageHd_len]; omega), List.take_of_length_le (by rw [pageHd_len]; omega)]
 have e2 : ((pageHd no kind body ++ [0, 0, 0, 0] ++ pageTl body).drop 12).take 244 = pageTl body := by
  rw [List.drop_append, List.drop_of_length_le (by simp [pageHd_len])]
  simp only [List.length_append, pageHd_len, List.nil_append]
  rw [List.take_of_length_le (by simp [pageTl_len (body := body) (by omega)])]
  rfl
 have hR1 : Rds [own (some ⟨b, 0, none⟩) 256 256 393 1 (vb (pageHd no kind body ++ [0, 0, 0, 0] ++ pageTl body))] (some ⟨b, 0, none⟩) 8 1 (vb (pageHd no kind body)) := by
  have := rds_here (b := b) (n := 256) (c := 256) (e := 393) (bs := pageHd no kind body ++ [0, 0, 0, 0] ++ pageTl body) 0 8 (by omega)
  rwa [e1] at this
 have hR2 : Rds [own (some ⟨b, 0, none⟩) 256 256 393 1 (vb (pageHd no kind body ++ [0, 0, 0, 0] ++ pageTl body))] (some ⟨b, 12, none⟩) 244 1 (vb (pageTl body)) := by
  have := rds_here (b := b) (n := 256) (c := 256) (e := 393) (bs := pageHd no kind body ++ [0, 0, 0, 0] ++ pageTl body) 12 244 (by omega)
  rwa [e2] at this
 refine o_buildSlice rfl rfl rfl rfl rfl rfl rfl rfl rfl rfl rfl rfl fun pb => ?_
 repeat' first | refine wk ?_ | refine wc ?_ ?_ <;> intro h <;> try omega | fail
 have hcl := crcN_lt (bs := pageHd no kind body ++ pageTl body) (fun x hx => by
  rcases List.mem_append.1 hx with h | h
  ·exact pageHd_lt (by omega) x h
  ·exact pageTl_lt hb x h)
 refine c_call (s_crcOf [own (some ⟨b, 0, none⟩) 256 256 393 1 (vb (pageHd no kind body ++ [0, 0, 0, 0] ++ pageTl body))] (some ⟨pb, 0, none⟩) 2 [⟨some ⟨b, 0, none⟩, 8, 256, pageHd no kind body⟩, ⟨some ⟨b, 12, none⟩, 244, 244, pageTl body⟩] (by simp) (by
  intro q hq
  rcases List.mem_cons.1 hq with rfl | hq
  ·exact ⟨hR1, pageHd_len .., pageHd_lt (by omega), by show 8 ≤ _; omega⟩
  ·rcases List.mem_cons.1 hq with rfl | hq
   ·exact ⟨hR2, pageTl_len (by omega), pageTl_lt hb, by show 244 ≤ _; omega⟩
   ·cases hq)) rfl xpkd rfl rfl ?_
 rintro v S ⟨rfl, rfl⟩
 simp only [List.flatMap_cons, List.flatMap_nil, List.append_nil] at *
 generalize hcr : crcN (pageHd no kind body ++ pageTl body) = cr at *
 refine l_tell rfl ?_
 repeat' first | refine l_qp (by (apply q_conv198; exact rfl; omega)) rfl ?_ | refine d_qp rfl (by (apply q_conv198; exact rfl; omega)) rfl ?_ | refine d_gqp rfl rfl (by (apply q_conv198; exact rfl; omega)) rfl ?_ | refine l_qp (by (apply q_arrSlice; exact rfl; exact rfl; exact rfl; exact rfl; exact rfl; exact rfl; exact rfl; exact rfl; exact rfl; exact rfl)) rfl ?_ | refine d_qp rfl (by (apply q_arrSlice; exact rfl; exact rfl; exact rfl; exact rfl; exact rfl; exact rfl; exact rfl; exact rfl; exact rfl; exact rfl)) rfl ?_ | refine d_gqp rfl rfl (by (apply q_arrSlice; exact rfl; exact rfl; exact rfl; exact rfl; exact rfl; exact rfl; exact rfl; exact rfl; exact rfl; exact rfl)) rfl ?_ | refine wk ?_ | refine wc ?_ ?_ <;> intro h <;> try omega | fail
 refine c_call (s_pageNumber b 8 cr 4 248 256 256 393 _ (by omega) (by omega) (by show cr < 4294967296; omega) (by rw [hw]; omega)) rfl xpkd rfl rfl ?_
 rintro v S rfl
 refine l_tell rfl ?_
 rw [pageB_lay2 _ _ _ _ (leB_len ..), ← hcr]
 repeat' first | refine l_qp (by (apply q_arrSlice; exact rfl; exact rfl; exact rfl; exact rfl; exact rfl; exact rfl; exact rfl; exact rfl; exact rfl; exact rfl)) rfl ?_ | refine d_qp rfl (by (apply q_arrSlice; exact rfl; exact rfl; exact rfl; exact rfl; exact rfl; exact rfl; exact rfl; exact rfl; exact rfl; exact rfl)) rfl ?_ | refine d_gqp rfl rfl (by (apply q_arrSlice; exact rfl; exact rfl; exact rfl; exact rfl; exact rfl; exact rfl; exact rfl; exact rfl; exact rfl; exact rfl)) rfl ?_ | refine wk ?_ | refine wc ?_ ?_ <;> intro h <;> try omega | fail
 exact b_ret _ rfl (Ent.pick xpkd) ⟨b, rfl, rfl⟩
theorem pageB_sum (no kind : Nat) (body : List Nat) : ((pageB no kind body).drop 8).take 4 = leB (crcN (pageHd no kind body ++ pageTl body)) 4 := by
 unfold pageB
 rw [List.append_assoc, List.drop_append, List.drop_of_length_le (by rw [pageHd_len]; omega), pageHd_len, List.nil_append]
 simp only [Nat.sub_self, List.drop_zero]
 rw [List.take_append_of_le_length (by rw [leB_len]; omega), List.take_of_length_le (by rw [leB_len]; omega)]
theorem pageB_hd (no kind : Nat) (body : List Nat) (lo k : Nat) (h : lo + k ≤ 8) : ((pageB no kind body).drop lo).take k = ((pageHd no kind body).drop lo).take k := by
 unfold pageB
 rw [List.append_assoc, List.drop_append_of_le_length (by rw [pageHd_len]; omega), List.take_append_of_le_length (by rw [List.length_drop, pageHd_len]; omega)]
theorem pageB_tl (no kind : Nat) (body : List Nat) : (pageB no kind body).drop 12 = pageTl body := by
 unfold pageB
 rw [List.drop_append, List.drop_of_length_le (by simp [pageHd_len, leB_len])]
 simp [pageHd_len, leB_len]
theorem s_pageOpen (no kind b c e : Nat) (body : List Nat) (hl : body.length ≤ 244) (hno : no < 1048576) (hk1 : 1 ≤ kind) (hk2 : kind ≤ 9) (hb : ∀ b ∈ body, b < 256) (hc : 256 ≤ c) :
  Spec Tryz.prog 210 [.int .i64 no, .slice (some ⟨b, 0, none⟩) 256 c] [own (some ⟨b, 0, none⟩) 256 c e 1 (vb (pageB no kind body))] (fun v S => ∃ a' c', v = .tuple #[.int .i64 kind, .slice a' body.length c', .int .i64 0] ∧ S = [own a' body.length c' 5 1 (vb body), own (some ⟨b, 0, none⟩) 256 c e 1 (vb (pageB no kind body))]) := by
 refine spec_of Tryz.func210 rfl Tryz.results210 Tryz.ntmps210 rfl ?_
 have hlen := pageB_len (no := no) (kind := kind) hl
 have hlt := pageB_lt (no := no) (kind := kind) (by omega) hb
 repeat' first | refine wk ?_ | refine wc ?_ ?_ <;> intro h <;> try omega | fail
 have h4 := rds_here (b := b) (n := 256) (c := c) (e := e) (bs := pageB no kind body) 8 4 (by omega)
 rw [pageB_sum] at h4
 refine c_call (s_leInt _ _ _ (c - 8) (leB (crcN (pageHd no kind body ++ pageTl body)) 4) h4 (leB_lt _ _) (by omega) (by omega) (leB_len ..)) rfl xpkd rfl rfl ?_
 rintro v S ⟨rfl, rfl⟩
 refine l_tell rfl ?_
 have hcl := crcN_lt (bs := pageHd no kind body ++ pageTl body) (fun x hx => by
  rcases List.mem_append.1 hx with h | h
  ·exact pageHd_lt (by omega) x h
  ·exact pageTl_lt hb x h)
 rw [leN_leB, Nat.mod_eq_of_lt (show _ < 256 ^ 4 from hcl)]
 repeat' first | refine wk ?_ | refine wc ?_ ?_ <;> intro h <;> try omega | fail
 refine t_draw (.eval 0 true (.eval 1 true (.eval 2 true (.eval 3 true (.eval 4 true (.eff 5 [] (.eff 6 [] (.eval 7 true (.eval 8 true .fin)) .stop) .stop)))))) rfl (by kernel_rfl) ?_
 repeat' first | refine wk ?_ | refine wc ?_ ?_ <;> intro h <;> try omega | fail
 have hR1 : Rds [own (some ⟨b, 0, none⟩) 256 c e 1 (vb (pageB no kind body))] (some ⟨b, 0, none⟩) 8 1 (vb (pageHd no kind body)) := by
  have := rds_here (b := b) (n := 256) (c := c) (e := e) (bs := pageB no kind body) 0 8 (by omega)
  rwa [pageB_hd _ _ _ 0 8 (by omega), List.drop_zero, List.take_of_length_le (by rw [pageHd_len]; omega)] at this
 have hR2 : Rds [own (some ⟨b, 0, none⟩) 256 c e 1 (vb (pageB no kind body))] (some ⟨b, 12, none⟩) 244 1 (vb (pageTl body)) := by
  have := rds_here (b := b) (n := 256) (c := c) (e := e) (bs := pageB no kind body) 12 244 (by omega)
  rwa [pageB_tl, List.take_of_length_le (by rw [pageTl_len hl]; omega)] at this
 refine o_buildSlice rfl rfl rfl rfl rfl rfl rfl rfl rfl rfl rfl rfl fun pb => ?_
 repeat' first | refine wk ?_ | refine wc ?_ ?_ <;> intro h <;> try omega | fail
 refine c_call (s_crcOf [own (some ⟨b, 0, none⟩) 256 c e 1 (vb (pageB no kind body))] (some ⟨pb, 0, none⟩) 2 [⟨some ⟨b, 0, none⟩, 8, c, pageHd no kind body⟩, ⟨some ⟨b, 12, none⟩, 244, c - 12, pageTl body⟩] (by simp) (by
  intro q hq
  rcases List.mem_cons.1 hq with rfl | hq
  ·exact ⟨hR1, pageHd_len .., pageHd_lt (by omega), by show 8 ≤ _; omega⟩
  ·rcases List.mem_cons.1 hq with rfl | hq
   ·exact ⟨hR2, pageTl_len (by omega), pageTl_lt hb, by show 244 ≤ _; omega⟩
   ·cases hq)) rfl xpkd rfl rfl ?_
 rintro v S ⟨rfl, rfl⟩
 simp only [List.flatMap_cons, List.flatMap_nil, List.append_nil] at *
 generalize hcr : crcN (pageHd no kind body ++ pageTl body) = cr at *
 refine l_same [_, own (some ⟨b, 0, none⟩) 256 c e 1 (vb (pageB no kind body))] rfl ?_
 repeat' first | refine l_qp (by (apply q_conv198; exact rfl; omega)) rfl ?_ | refine d_qp rfl (by (apply q_conv198; exact rfl; omega)) rfl ?_ | refine d_gqp rfl rfl (by (apply q_conv198; exact rfl; omega)) rfl ?_ | refine wk ?_ | refine wc ?_ ?_ <;> intro h <;> try omega | fail
 refine c_call (s_leOn _ _ _ c _ (own_rds CAt.here) (by omega) hlen) rfl xpkd rfl rfl ?_
 rintro v S ⟨r, a', c', rfl, rfl⟩
 refine l_slots [0, 1, 40] rfl ?_
 refine l_tell rfl ?_
 have hn4 : ((pageB no kind body).drop (0 + 1 + 1 + 2)).take 4 = leB no 4 := by
  rw [pageB_hd _ _ _ _ 4 (by omega)]; simp [pageHd, leB_2, leB_4]
 have hn2 : ((pageB no kind body).drop (0 + 1 + 1)).take 2 = leB body.length 2 := by
  rw [pageB_hd _ _ _ _ 2 (by omega)]; simp [pageHd, leB_2]
 have hn1 : ((pageB no kind body).drop 0).take 1 = [kind] := by
  rw [pageB_hd _ _ _ _ 1 (by omega)]; simp [pageHd]
 have hz1 : ∀ i, 0 + 1 ≤ i → i < 0 + 1 + 1 → (pageB no kind body)[i]? = some 0 := by
  intro i h1 h2
  have : i = 1 := by omega
  subst this
  simp [pageB, pageHd]
 have hB : ((pageB no kind body).drop (0 + 1 + 1 + 2 + 4 + 4)).take body.length = body := by
  rw [pageB_tl]; unfold pageTl
  rw [List.take_append_of_le_length (by omega), List.take_of_length_le (by omega)]
 have hz2 : ∀ i, 0 + 1 + 1 + 2 + 4 + 4 + body.length ≤ i → i < 0 + 1 + 1 + 2 + 4 + 4 + body.length + (244 - body.length) → (pageB no kind body)[i]? = some 0 := by
  intro i h1 h2
  have h3 : (pageB no kind body)[i]? = ((pageB no kind body).drop 12)[i - 12]? := by rw [List.getElem?_drop]; congr 1; omega
  rw [h3, pageB_tl]; unfold pageTl
  rw [List.getElem?_append_right (by omega), List.getElem?_replicate, if_pos (by omega)]
 repeat' first | refine wk ?_ | refine wc ?_ ?_ <;> intro h <;> try omega | fail
 refine c_call (s_rdInt r a' c' (pageB no kind body) 0 1 hlt (by omega) (by omega) (by omega) (by omega)) rfl xpkd rfl rfl ?_
 rintro v S ⟨rfl, rfl⟩
 rw [hn1]
 refine l_tell rfl ?_
 repeat' first | refine wk ?_ | refine wc ?_ ?_ <;> intro h <;> try omega | fail
 refine c_call (s_rdZeros r a' c' (pageB no kind body) (0 + 1) 1 (by omega) (by omega) hz1) rfl xpkd rfl rfl ?_
 rintro v S ⟨rfl, rfl⟩
 refine l_tell rfl ?_
 repeat' first | refine wk ?_ | refine wc ?_ ?_ <;> intro h <;> try omega | fail
 refine c_call (s_rdInt r a' c' (pageB no kind body) (0 + 1 + 1) 2 hlt (by omega) (by omega) (by omega) (by omega)) rfl xpkd rfl rfl ?_
 rintro v S ⟨rfl, rfl⟩
 rw [hn2, leN_leB, Nat.mod_eq_of_lt (show body.length < 256 ^ 2 by show _ < 65536; omega)]
 refine l_tell rfl ?_
 repeat' first | refine wk ?_ | refine wc ?_ ?_ <;> intro h <;> try omega | fail
 refine c_call (s_rdInt r a' c' (pageB no kind body) (0 + 1 + 1 + 2) 4 hlt (by omega) (by omega) (by omega) (by omega)) rfl xpkd rfl rfl ?_
 rintro v S ⟨rfl, rfl⟩
 rw [hn4, leN_leB, Nat.mod_eq_of_lt (show no < 256 ^ 4 by show _ < 4294967296; omega)]
 refine l_tell rfl ?_
 have hkN : (leN [kind] : Int) = kind := by simp [leN]
 rw [hkN]
 repeat' first | refine wk ?_ | refine wc ?_ ?_ <;> intro h <;> try omega | fail
 refine c_call (s_rdTake r a' c' (pageB no kind body) (0 + 1 + 1 + 2 + 4) 4 (by omega) (by omega)) rfl xpkd rfl rfl ?_
 rintro v S ⟨a1, c1, rfl, rfl⟩
 refine l_tell rfl ?_
 repeat' first | refine wk ?_ | refine wc ?_ ?_ <;> intro h <;> try omega | fail
 refine c_call (s_rdTake r a' c' (pageB no kind body) (0 + 1 + 1 + 2 + 4 + 4) body.length (by omega) (by omega)) rfl xpkd rfl rfl ?_
 rintro v S ⟨a2, c2, rfl, rfl⟩
 rw [hB]
 refine l_tell rfl ?_
 repeat' first | refine wk ?_ | refine wc ?_ ?_ <;> intro h <;> try omega | fail
 refine c_call (s_rdLeft r a' c' (pageB no kind body) (0 + 1 + 1 + 2 + 4 + 4 + body.length) (by omega) (by omega)) rfl xpkd rfl rfl ?_
 rintro v S ⟨rfl, rfl⟩
 refine l_tell rfl ?_
 repeat' first | refine wk ?_ | refine wc ?_ ?_ <;> intro h <;> try omega | fail
 have e3 : ((pageB no kind body).length : Int) - ((0 + 1 + 1 + 2 + 4 + 4 + body.length : Nat) : Int) = ((244 - body.length : Nat) : Int) := by rw [hlen]; omega
 rw [e3]
 refine c_call (s_rdZeros r a' c' (pageB no kind body) (0 + 1 + 1 + 2 + 4 + 4 + body.length) (244 - body.length) (by omega) (by omega) hz2) rfl xpkd rfl rfl ?_
 rintro v S ⟨rfl, rfl⟩
 refine l_tell rfl ?_
 repeat' first | refine wk ?_ | refine wc ?_ ?_ <;> intro h <;> try omega | fail
 exact b_ret _ rfl (Ent.pick xpkd) ⟨a2, c2, rfl, rfl⟩
end Go.Ox
end
