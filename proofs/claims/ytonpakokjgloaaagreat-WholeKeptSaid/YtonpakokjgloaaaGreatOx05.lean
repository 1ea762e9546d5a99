/- WholeKept, part 5. No condition. -/
import Derived.Test.YtonpakokjgloaaaGreatOx04
set_option linter.all false
section
namespace Go.Ox
open Go
inductive Plan where
  | stop
  | fin
  | eval (i : Nat) (p : Bool) (rest : Plan)
  | eff (e : Nat) (rs : List Nat) (next alt : Plan)
def effsOf : Plan → List Nat
  | .eff e _ _ alt => e :: effsOf alt
  | _ => []
def predsOf (o : Oper) : List Nat := o.after.toList.filterMap fun e => if Region.binds .any e then some e.on else none
def looks (l : List Oper) (o : Oper) : List Tmp := o.looksAt l.toArray
def mem (n : Nat) (l : List Nat) : Bool := l.any (Nat.beq n)
theorem mem_iff {n : Nat} {l : List Nat} : mem n l = true ↔ n ∈ l := by
  unfold mem
  rw [List.any_eq_true]
  constructor
  · rintro ⟨x, hx, h⟩; rw [Nat.eq_of_beq_eq_true h]; exact hx
  · intro h; exact ⟨n, h, Nat.beq_refl n⟩
def idx (A : List (Nat × Bool)) : List Nat := A.map (·.1)
def slotsOk (l : List Oper) (i : Nat) (acts : Bool) : Bool :=
  match l[i]? with
  | none => false
  | some o => match o.dst with
    | none => acts
    | some d => (List.range l.length).all fun j => match l[j]? with
      | none => true
      | some q => (Nat.beq j i || q.dst != some d) && (!(mem d (looks l q)) || (!(Nat.beq j i) && (mem i (predsOf q) || (acts && mem j (predsOf o)))))
def predsIn (l : List Oper) (i : Nat) (L : List Nat) : Bool :=
  match l[i]? with
  | none => false
  | some o => (predsOf o).all fun p => mem p L
def chk (l : List Oper) (E : List Nat) (A : List (Nat × Bool)) (first : Bool) : Plan → Bool
  | .stop => !first
  | .fin => first && (List.range l.length).all fun j => mem j (E ++ idx A)
  | .eval i p rest => first && !mem i (E ++ idx A) && predsIn l i (E ++ idx A) && slotsOk l i false && chk l E ((i, p) :: A) true rest
  | .eff e rs next alt =>
    (!first || (List.range l.length).all fun j => mem j (E ++ idx A) || mem j (e :: effsOf alt) || !predsIn l j (E ++ idx A)) &&
    !mem e (E ++ idx A) && slotsOk l e true &&
    (A.all fun (i, p) => p || mem i rs || (match l[e]? with | some o => mem i (predsOf o) | none => false)) &&
    chk l (e :: E) A true next && chk l E A false alt
def chkAll (l : List Oper) (p : Plan) : Bool :=
  ((List.range l.length).all fun j => match l[j]? with | some o => (predsOf o).all fun q => Nat.blt q j | none => true) && Region.noSelect l.toArray && chk l [] [] true p
def onlyA (K : Act → World → Prop) : Exit → Act → World → Prop
  | .normal, a, w => K a w
  | _, _, _ => False
def yl (P : Program) (l : List Oper) (o : Oper) (a : Act) (w : World) (v : Value) : Prop :=
  (Region.wanted o (yielded l.toArray a.tmps) = true ∧ (execOp a.eval o).run P w = .ok (.value v) w) ∨ (Region.wanted o (yielded l.toArray a.tmps) = false ∧ v = undef)
def rechA (P : Program) (l : List Oper) (rs : List Nat) (a : Act) (w : World) : Prop :=
  ∀ i ∈ rs, ∃ o d v, l[i]? = some o ∧ o.dst = some d ∧ a.tmps[d]? = some v ∧ yl P l o a w v
def Ob (P : Program) (l : List Oper) (Q : Exit → Act → World → Prop) : Plan → Act → World → Prop
  | .stop, _, _ => True
  | .fin, a, w => Q .normal a w
  | .eval i p rest, a, w => ∃ o d v, l[i]? = some o ∧ o.dst = some d ∧ d < a.tmps.size ∧ (if p then ∀ w', yl P l o a w' v else yl P l o a w v) ∧ Ob P l Q rest (a.put (some d) v) w
  | .eff e rs next alt, a, w => (∃ o, l[e]? = some o ∧ wpList P l.toArray (onlyA fun a' w' => rechA P l rs a' w' ∧ Ob P l Q next a' w') [o] a w) ∧ Ob P l Q alt a w
section sim
variable {P : Program} {l : List Oper} {Q : Exit → Act → World → Prop}
theorem eval_same {o : Oper} {a b : Act} (hs : ∀ cs c, o.op ≠ .select cs c) (h : ∀ x ∈ looks l o, a.tmps[x]? = b.tmps[x]?) : execOp a.eval o = execOp b.eval o := by
  refine execOp_congr o hs fun x hx => ?_
  cases x with
  | tmp t =>
    have := h t (List.mem_append_left _ (List.mem_filterMap.2 ⟨.tmp t, by simpa using hx, rfl⟩))
    simp only [Act.eval, Array.getD_eq_getD_getElem?, this]
  | const v => rfl
  | global g => rfl
  | func f => rfl
theorem wanted_same {o : Oper} {a b : Act} (h : ∀ x ∈ looks l o, a.tmps[x]? = b.tmps[x]?) : Region.wanted o (yielded l.toArray a.tmps) = Region.wanted o (yielded l.toArray b.tmps) := by
  unfold Region.wanted
  cases hg : o.guard with
  | none => rfl
  | some gw =>
    obtain ⟨g, want⟩ := gw
    have : yielded l.toArray a.tmps g = yielded l.toArray b.tmps g := by
      unfold yielded
      cases ht : ((l.toArray)[g]?).bind (·.dst) with
      | none => rfl
      | some t =>
        have := h t (List.mem_append_right _ (by simp only [hg, ht]; simp))
        simp only [Option.bind_some, this]
    simp only [this]
theorem yl_same {o : Oper} {a b : Act} {w : World} {v : Value} (hs : ∀ cs c, o.op ≠ .select cs c) (h : ∀ x ∈ looks l o, a.tmps[x]? = b.tmps[x]?) (y : yl P l o a w v) : yl P l o b w v := by
  unfold yl at *
  rw [← eval_same hs h, ← wanted_same h]; exact y
theorem one_rel {o : Oper} {a b : Act} {w : World} {K K' : Act → World → Prop} {rest : Exit → Act → World → Prop} (hs : ∀ cs c, o.op ≠ .select cs c) (h : ∀ x ∈ looks l o, a.tmps[x]? = b.tmps[x]?) (R : Act → Act → Prop)
    (hput : ∀ v, R (a.put o.dst v) (b.put o.dst v)) (hdef : ∀ dd v, R (({ a with defers := dd :: a.defers } : Act).put o.dst v) (({ b with defers := dd :: b.defers } : Act).put o.dst v)) (hK : ∀ a' b' w', R a' b' → K a' w' → K' b' w')
    (y : wpList P l.toArray (onlyA K) [o] a w) : (if Region.wanted o (yielded l.toArray b.tmps) then o.wp P b w K' rest ∨ (o.asks P b w ∧ LetsOut rest) else K' (b.put o.dst undef) w) := by
  unfold wpList at y
  rw [wanted_same h] at y
  split
  · rename_i hw
    rw [if_pos hw] at y
    rcases y with y | ⟨_, a', w', hf⟩
    · left
      unfold Oper.wp at *
      rw [eval_same hs h] at y
      generalize (execOp b.eval o).run P w = r at *
      cases r with
      | ok n w' =>
        cases n <;> simp only [Oper.upon, wpList, onlyA] at y ⊢
        case value v => exact hK _ _ _ (hput v) y
        case skip => exact hK _ _ _ (hput _) y
        case defer dd => exact hK _ _ _ (hdef dd _) y
        case enter f args =>
          refine Calls.mono y fun e w'' he => ?_
          cases e with
          | returned u => exact hK _ _ _ (hput u) he
          | panicked c => exact he.elim
          | outgrown => obtain ⟨_, _, hf⟩ := he; exact hf.elim
        case row row args => exact Rows.mono y fun u w'' he => hK _ _ _ (hput u) he
      | halt x w' => cases x <;> simp only [Oper.upon, onlyA] at y
    · exact hf.elim
  · rename_i hw
    rw [if_neg hw] at y
    exact hK _ _ _ (hput _) y
structure Inv (P : Program) (l : List Oper) (E : List Nat) (A : List (Nat × Bool)) (listed : Array Bool) (r p : Act) (w : World) : Prop where
  size : listed.size = l.length
  sub : ∀ j, listed[j]? = some true → j ∈ E ++ idx A
  eff : ∀ j ∈ E, listed[j]? = some true
  tsize : r.tmps.size = p.tmps.size
  defers : r.defers = p.defers
  slots : ∀ x, (∀ i q o, (i, q) ∈ A → listed[i]? = some false → l[i]? = some o → o.dst ≠ some x) → p.tmps[x]? = r.tmps[x]?
  pend : ∀ (i : Nat) (q : Bool), (i, q) ∈ A → listed[i]? = some false → ∃ o d v, l[i]? = some o ∧ o.dst = some d ∧ p.tmps[d]? = some v ∧ (∀ w', q = true ∨ w' = w → yl P l o p w' v)
  preds : ∀ i q, (i, q) ∈ A → predsIn l i (E ++ idx A) = true ∧ slotsOk l i false = true
theorem mem_idx {A : List (Nat × Bool)} {i : Nat} : i ∈ idx A ↔ ∃ q, (i, q) ∈ A := by
  unfold idx; rw [List.mem_map]
  constructor
  · rintro ⟨⟨a, b⟩, h, rfl⟩; exact ⟨b, h⟩
  · rintro ⟨q, h⟩; exact ⟨(i, q), h, rfl⟩
theorem slots_spec {i : Nat} {acts : Bool} {o : Oper} {d : Tmp} (h : slotsOk l i acts = true) (ho : l[i]? = some o) (hd : o.dst = some d) {j : Nat} {q : Oper} (hq : l[j]? = some q) :
    (j ≠ i → q.dst ≠ some d) ∧ (d ∈ looks l q → j ≠ i ∧ (i ∈ predsOf q ∨ (acts = true ∧ j ∈ predsOf o))) := by
  unfold slotsOk at h
  rw [ho] at h
  simp only [hd] at h
  rw [List.all_eq_true] at h
  have hj := h j (List.mem_range.2 (List.getElem?_eq_some_iff.1 hq).1)
  rw [hq] at hj
  simp only [Bool.and_eq_true, Bool.or_eq_true, bne_iff_ne, ne_eq, Bool.not_eq_true', mem_iff] at hj
  have h1 := hj.1
  have h2 := hj.2
  clear hj
  refine ⟨fun hne => ?_, fun hm => ?_⟩
  · rcases h1 with h1 | h1
    · exact absurd (Nat.eq_of_beq_eq_true h1) hne
    · exact h1
  · rcases h2 with h2 | ⟨h2, h3⟩
    · rw [mem_iff.2 hm] at h2; cases h2
    · refine ⟨(fun e => by subst e; rw [Nat.beq_refl] at h2; cases h2), h3⟩
theorem ready_iff {listed : Array Bool} (hsz : listed.size = l.length) {j : Nat} : j ∈ Region.ready .any l.toArray listed ↔ listed[j]? = some false ∧ ∃ o, l[j]? = some o ∧ ∀ p ∈ predsOf o, listed[p]? = some true := by
  rw [mem_ready]
  have e1 : listed.getD j true = false ↔ listed[j]? = some false := by
    rw [Array.getD_eq_getD_getElem?]
    cases h : listed[j]? with
    | none => simp
    | some b => simp
  rw [e1]
  constructor
  · rintro ⟨h, o, ho, hp⟩
    refine ⟨h, o, by simpa using ho, fun p hp' => ?_⟩
    obtain ⟨e, he, hh⟩ := List.mem_filterMap.1 hp'
    by_cases hb : Region.binds .any e = true
    · rw [if_pos hb] at hh; cases hh
      have := hp e (by simpa using he) hb
      rw [Array.getD_eq_getD_getElem?] at this
      cases hx : listed[e.on]? with
      | none => rw [hx] at this; cases this
      | some b => rw [hx] at this; cases this; rfl
    · rw [if_neg hb] at hh; cases hh
  · rintro ⟨h, o, ho, hp⟩
    refine ⟨h, o, by simpa using ho, fun e he hb => ?_⟩
    have := hp e.on (List.mem_filterMap.2 ⟨e, by simpa using he, by rw [if_pos hb]⟩)
    rw [Array.getD_eq_getD_getElem?, this]; rfl
def left (listed : Array Bool) : Nat := (listed.toList.filter (· == false)).length
theorem left_set {listed : Array Bool} {j : Nat} (h : listed[j]? = some false) : left (listed.setIfInBounds j true) + 1 ≤ left listed := by
  unfold left
  have key : ∀ (L : List Bool) (j : Nat), L[j]? = some false → ((L.set j true).filter (· == false)).length + 1 ≤ (L.filter (· == false)).length := by
    intro L
    induction L with
    | nil => intro j h; simp at h
    | cons b L ih =>
      intro j h
      cases j with
      | zero => simp at h; subst h; simp
      | succ j =>
        have := ih j (by simpa using h)
        cases b <;> simp at this ⊢ <;> omega
  have := key listed.toList j (by simpa using h)
  simpa using this
theorem left_zero {listed : Array Bool} (h : left listed = 0) {j : Nat} : listed[j]? ≠ some false := by
  intro hj
  have := left_set hj
  omega
theorem getElem_set {listed : Array Bool} {i j : Nat} (hi : i < listed.size) : (listed.setIfInBounds i true)[j]? = if j = i then some true else listed[j]? := by
  by_cases h : j = i
  · subst h; simp [hi]
  · rw [if_neg h, Array.getElem?_setIfInBounds_ne (fun e => h e.symm)]
theorem put_size (a : Act) (x : Option Tmp) (v : Value) : (a.put x v).tmps.size = a.tmps.size := by cases x <;> simp [Act.put]
theorem put_defers (a : Act) (x : Option Tmp) (v : Value) : (a.put x v).defers = a.defers := by cases x <;> rfl
theorem put_ne (a : Act) {x : Option Tmp} {y : Tmp} (v : Value) (h : x ≠ some y) : (a.put x v).tmps[y]? = a.tmps[y]? := by
  cases x with
  | none => rfl
  | some d => simp only [Act.put]; exact Array.getElem?_setIfInBounds_ne (fun e => h (by rw [e]))
theorem put_eq (a : Act) {y : Tmp} (v : Value) (h : y < a.tmps.size) : (a.put (some y) v).tmps[y]? = some v := by simp [Act.put, h]
theorem preds_in {i : Nat} {o : Oper} {L : List Nat} (ho : l[i]? = some o) (h : predsIn l i L = true) : ∀ p ∈ predsOf o, p ∈ L := by
  unfold predsIn at h
  rw [ho] at h
  simp only [List.all_eq_true] at h
  exact fun p hp => mem_iff.1 (h p hp)
theorem unlisted {E : List Nat} {A : List (Nat × Bool)} {listed : Array Bool} {r p : Act} {w : World} (inv : Inv P l E A listed r p w) {i : Nat} (hlt : i < l.length) (h : i ∉ E ++ idx A) : listed[i]? = some false := by
  cases hb : listed[i]? with
  | none => rw [Array.getElem?_eq_none_iff, inv.size] at hb; omega
  | some b => cases b with
    | false => rfl
    | true => exact absurd (inv.sub i hb) h
theorem inv_eval {E : List Nat} {A : List (Nat × Bool)} {listed : Array Bool} {r p : Act} {w : World} (hsel : ∀ (j : Nat) (o : Oper) cs c, l[j]? = some o → o.op ≠ .select cs c) (inv : Inv P l E A listed r p w) {i : Nat} {q : Bool} {o : Oper} {d : Tmp} {v : Value}
    (hi : i ∉ E ++ idx A) (ho : l[i]? = some o) (hd : o.dst = some d) (hlt : d < p.tmps.size) (hp : predsIn l i (E ++ idx A) = true) (hs : slotsOk l i false = true) (hy : if q then ∀ w', yl P l o p w' v else yl P l o p w v) :
    Inv P l E ((i, q) :: A) listed r (p.put (some d) v) w := by
  have hil : i < l.length := (List.getElem?_eq_some_iff.1 ho).1
  have hun := unlisted inv hil hi
  have more : ∀ j, j ∈ E ++ idx A → j ∈ E ++ idx ((i, q) :: A) := fun j hj => by
    simp only [idx, List.map_cons, List.mem_append, List.mem_cons] at hj ⊢
    rcases hj with h | h
    · exact .inl h
    · exact .inr (.inr h)
  have noread : ∀ (j : Nat) (oj : Oper), l[j]? = some oj → (j = i ∨ predsIn l j (E ++ idx A) = true) → ∀ x ∈ looks l oj, (p.put (some d) v).tmps[x]? = p.tmps[x]? := by
    intro j oj hj hji x hx
    refine put_ne p v (fun e => ?_)
    cases e
    obtain ⟨hne, h | ⟨h, _⟩⟩ := (slots_spec hs ho hd hj).2 hx
    · rcases hji with rfl | hji
      · exact hne rfl
      · exact hi (preds_in hj hji i h)
    · cases h
  refine ⟨inv.size, fun j hj => more j (inv.sub j hj), inv.eff, by rw [put_size]; exact inv.tsize, by rw [put_defers]; exact inv.defers, fun x hx => ?_, fun j b hj hl => ?_, fun j b hj => ?_⟩
  · have hdx : d ≠ x := fun e => hx i q o (List.mem_cons_self ..) hun ho (by rw [hd, e])
    rw [put_ne p v (fun e => hdx (by cases e; rfl))]
    exact inv.slots x fun j b oj hj => hx j b oj (List.mem_cons_of_mem _ hj)
  · rcases List.mem_cons.1 hj with e | hj
    · cases e
      refine ⟨o, d, v, ho, hd, put_eq p v hlt, fun w' hw => yl_same (fun cs c => hsel i o cs c ho) (fun x hx => (noread i o ho (.inl rfl) x hx).symm) ?_⟩
      cases q with
      | true => exact hy w'
      | false => rcases hw with h | h
                 · cases h
                 · rw [h]; exact hy
    · obtain ⟨oj, dj, vj, h1, h2, h3, h4⟩ := inv.pend j b hj hl
      have hji : j ≠ i := fun e => hi (by rw [← e]; exact List.mem_append_right _ (mem_idx.2 ⟨b, hj⟩))
      refine ⟨oj, dj, vj, h1, h2, ?_, fun w' hw => yl_same (fun cs c => hsel j oj cs c h1) (fun x hx => (noread j oj h1 (.inr (inv.preds j b hj).1) x hx).symm) (h4 w' hw)⟩
      rw [put_ne p v (fun e => (slots_spec hs ho hd h1).1 hji (by rw [h2, e]))]
      exact h3
  · rcases List.mem_cons.1 hj with e | hj
    · cases e
      refine ⟨?_, hs⟩
      unfold predsIn at hp ⊢; rw [ho] at hp ⊢
      simp only [List.all_eq_true] at hp ⊢
      exact fun x hx => mem_iff.2 (more x (mem_iff.1 (hp x hx)))
    · obtain ⟨h1, h2⟩ := inv.preds j b hj
      refine ⟨?_, h2⟩
      unfold predsIn at h1 ⊢
      cases hoj : l[j]? with
      | none => rw [hoj] at h1; cases h1
      | some oj =>
        rw [hoj] at h1
        simp only [List.all_eq_true] at h1 ⊢
        exact fun x hx => mem_iff.2 (more x (mem_iff.1 (h1 x hx)))
theorem inv_pend {E : List Nat} {A : List (Nat × Bool)} {listed : Array Bool} {r p : Act} {w : World} (inv : Inv P l E A listed r p w) {i : Nat} {q : Bool} {o : Oper} {d : Tmp} {v : Value}
    (hi : (i, q) ∈ A) (hun : listed[i]? = some false) (ho : l[i]? = some o) (hd : o.dst = some d) (hv : p.tmps[d]? = some v) : Inv P l E A (listed.setIfInBounds i true) (r.put (some d) v) p w := by
  have hlt : i < listed.size := (Array.getElem?_eq_some_iff.1 hun).1
  refine ⟨by simpa using inv.size, fun j hj => ?_, fun j hj => ?_, by rw [put_size]; exact inv.tsize, by rw [put_defers]; exact inv.defers, fun x hx => ?_, fun j b hj hl => ?_, inv.preds⟩
  · rw [getElem_set hlt] at hj
    by_cases e : j = i
    · rw [e]; exact List.mem_append_right _ (mem_idx.2 ⟨q, hi⟩)
    · rw [if_neg e] at hj; exact inv.sub j hj
  · rw [getElem_set hlt]; split
    · rfl
    · exact inv.eff j hj
  · by_cases hdx : d = x
    · subst hdx
      rw [hv, put_eq r v (by rw [inv.tsize]; exact (Array.getElem?_eq_some_iff.1 hv).1)]
    · rw [put_ne r v (fun e => hdx (by cases e; rfl))]
      refine inv.slots x fun j b oj hj hl hoj => ?_
      by_cases e : j = i
      · subst e; rw [ho] at hoj; cases hoj; rw [hd]; exact fun e => hdx (by cases e; rfl)
      · exact hx j b oj hj (by rw [getElem_set hlt, if_neg e]; exact hl) hoj
  · rw [getElem_set hlt] at hl
    by_cases e : j = i
    · rw [if_pos e] at hl; cases hl
    · rw [if_neg e] at hl; exact inv.pend j b hj hl
theorem inv_eff {E : List Nat} {A : List (Nat × Bool)} {listed : Array Bool} {r p : Act} {w w' : World} (hsel : ∀ (j : Nat) (o : Oper) cs c, l[j]? = some o → o.op ≠ .select cs c) (inv : Inv P l E A listed r p w) {e : Nat} {o : Oper} {r' p' : Act} {rs : List Nat}
    (he : e ∉ E ++ idx A) (ho : l[e]? = some o) (hs : slotsOk l e true = true) (hp : ∀ q ∈ predsOf o, listed[q]? = some true) (hrs : ∀ i q, (i, q) ∈ A → q = true ∨ i ∈ rs ∨ i ∈ predsOf o)
    (hr : ∃ v D, r'.tmps = (r.put o.dst v).tmps ∧ r'.defers = D ∧ p'.tmps = (p.put o.dst v).tmps ∧ p'.defers = D) (hre : rechA P l rs p' w') : Inv P l (e :: E) A (listed.setIfInBounds e true) r' p' w' := by
  obtain ⟨v, D, hr1, hr2, hp1, hp2⟩ := hr
  have hun := unlisted inv (List.getElem?_eq_some_iff.1 ho).1 he
  have hlt : e < listed.size := (Array.getElem?_eq_some_iff.1 hun).1
  have notA : ∀ j b, (j, b) ∈ A → j ≠ e := fun j b hj q => he (by rw [← q]; exact List.mem_append_right _ (mem_idx.2 ⟨b, hj⟩))
  refine ⟨by simpa using inv.size, fun j hj => ?_, fun j hj => ?_, ?_, hr2.trans hp2.symm, fun x hx => ?_, fun j b hj hl => ?_, fun j b hj => ?_⟩
  · rw [getElem_set hlt] at hj
    by_cases q : j = e
    · rw [q]; exact List.mem_append_left _ (List.mem_cons_self ..)
    · rw [if_neg q] at hj
      rcases List.mem_append.1 (inv.sub j hj) with h | h
      · exact List.mem_append_left _ (List.mem_cons_of_mem _ h)
      · exact List.mem_append_right _ h
  · rw [getElem_set hlt]; split
    · rfl
    · rename_i hne
      rcases List.mem_cons.1 hj with h | h
      · exact absurd h hne
      · exact inv.eff j h
  · rw [hr1, hp1, put_size, put_size]; exact inv.tsize
  · have hold : (∀ i q o, (i, q) ∈ A → listed[i]? = some false → l[i]? = some o → o.dst ≠ some x) := fun i q oi hi hl hoi =>
      hx i q oi hi (by rw [getElem_set hlt, if_neg (notA i q hi)]; exact hl) hoi
    rw [hp1, hr1]
    by_cases hdx : o.dst = some x
    · rw [hdx]
      by_cases hb : x < p.tmps.size
      · rw [put_eq p v hb, put_eq r v (by rw [inv.tsize]; exact hb)]
      · rw [Array.getElem?_eq_none (by rw [put_size]; exact Nat.not_lt.1 hb), Array.getElem?_eq_none (by rw [put_size, inv.tsize]; exact Nat.not_lt.1 hb)]
    · rw [put_ne p v hdx, put_ne r v hdx]; exact inv.slots x hold
  · rw [getElem_set hlt, if_neg (notA j b hj)] at hl
    obtain ⟨oj, d, u, h1, h2, h3, h4⟩ := inv.pend j b hj hl
    have hnp : j ∉ predsOf o := fun h => by rw [hp j h] at hl; cases hl
    have hdst : o.dst ≠ some d := (slots_spec (inv.preds j b hj).2 h1 h2 ho).1 (fun q => notA j b hj q.symm)
    have h3' : p'.tmps[d]? = some u := by rw [hp1, put_ne p v hdst]; exact h3
    have keep : ∀ x ∈ looks l oj, p.tmps[x]? = p'.tmps[x]? := fun x hx => by
      rw [hp1]
      refine (put_ne p v fun hd => ?_).symm
      obtain ⟨_, h | ⟨_, h⟩⟩ := (slots_spec hs ho hd h1).2 hx
      · exact he (preds_in h1 (inv.preds j b hj).1 e h)
      · exact hnp h
    refine ⟨oj, d, u, h1, h2, h3', fun w'' hw => ?_⟩
    cases b with
    | true => exact yl_same (fun cs c => hsel j oj cs c h1) keep (h4 w'' (.inl rfl))
    | false =>
      rcases hw with h | h
      · cases h
      · subst h
        rcases hrs j false hj with h | h | h
        · cases h
        · obtain ⟨o2, d2, v2, g1, g2, g3, g4⟩ := hre j h
          rw [h1] at g1; cases g1
          rw [h2] at g2; cases g2
          rw [h3'] at g3; cases g3
          exact g4
        · exact absurd h hnp
  · obtain ⟨h1, h2⟩ := inv.preds j b hj
    refine ⟨?_, h2⟩
    unfold predsIn at h1 ⊢
    cases hoj : l[j]? with
    | none => rw [hoj] at h1; cases h1
    | some oj =>
      rw [hoj] at h1
      simp only [List.all_eq_true] at h1 ⊢
      exact fun x hx => mem_iff.2 (by
        rcases List.mem_append.1 (mem_iff.1 (h1 x hx)) with h | h
        · exact List.mem_append_left _ (List.mem_cons_of_mem _ h)
        · exact List.mem_append_right _ h)
def acts : Plan → Bool
  | .eval _ _ _ => false
  | _ => true
theorem settle {E : List Nat} {listed : Array Bool} {r : Act} {w : World} (hsel : ∀ (j : Nat) (o : Oper) cs c, l[j]? = some o → o.op ≠ .select cs c) : ∀ (pl : Plan) (A : List (Nat × Bool)) (p : Act),
    chk l E A true pl = true → Inv P l E A listed r p w → Ob P l Q pl p w → ∃ pl' A' p', acts pl' = true ∧ chk l E A' true pl' = true ∧ Inv P l E A' listed r p' w ∧ Ob P l Q pl' p' w := by
  intro pl
  induction pl with
  | stop => intro A p h1 h2 h3; exact ⟨_, A, p, rfl, h1, h2, h3⟩
  | fin => intro A p h1 h2 h3; exact ⟨_, A, p, rfl, h1, h2, h3⟩
  | eff e rs next alt => intro A p h1 h2 h3; exact ⟨_, A, p, rfl, h1, h2, h3⟩
  | eval i q rest ih =>
    intro A p h1 h2 h3
    simp only [chk, Bool.and_eq_true, Bool.not_eq_true'] at h1
    obtain ⟨⟨⟨⟨_, c1⟩, c2⟩, c3⟩, c4⟩ := h1
    obtain ⟨o, d, v, o1, o2, o3, o4, o5⟩ := h3
    exact ih _ _ c4 (inv_eval hsel h2 (fun h => by rw [mem_iff.2 h] at c1; cases c1) o1 o2 o3 c2 c3 o4) o5
theorem ob_find {E : List Nat} {A : List (Nat × Bool)} {a : Act} {w : World} : ∀ (pl : Plan) (first : Bool) (j : Nat), chk l E A first pl = true → Ob P l Q pl a w → j ∈ effsOf pl →
    ∃ o rs next, l[j]? = some o ∧ wpList P l.toArray (onlyA fun a' w' => rechA P l rs a' w' ∧ Ob P l Q next a' w') [o] a w ∧ chk l (j :: E) A true next = true ∧ slotsOk l j true = true ∧ j ∉ E ++ idx A ∧ ∀ i q, (i, q) ∈ A → q = true ∨ i ∈ rs ∨ i ∈ predsOf o := by
  intro pl
  induction pl with
  | stop => intro first j _ _ hj; cases hj
  | fin => intro first j _ _ hj; cases hj
  | eval i q rest => intro first j _ _ hj; cases hj
  | eff e rs next alt ih1 ih2 =>
    intro first j hc ob hj
    simp only [chk, Bool.and_eq_true, Bool.not_eq_true'] at hc
    obtain ⟨⟨⟨⟨⟨_, c1⟩, c2⟩, c3⟩, c4⟩, c5⟩ := hc
    obtain ⟨⟨o, ho, hw⟩, hrest⟩ := ob
    rcases List.mem_cons.1 hj with e1 | hj
    · subst e1
      refine ⟨o, rs, next, ho, hw, c4, c2, (fun h => by rw [mem_iff.2 h] at c1; cases c1), fun i q hi => ?_⟩
      have := List.all_eq_true.1 c3 (i, q) hi
      simp only [ho, Bool.or_eq_true, mem_iff] at this
      rcases this with (h | h) | h
      · exact .inl h
      · exact .inr (.inl h)
      · exact .inr (.inr h)
    · exact ih2 false j c5 hrest hj
theorem some_ready {listed : Array Bool} (hsz : listed.size = l.length) (hord : ∀ (j : Nat) (o : Oper), l[j]? = some o → ∀ p ∈ predsOf o, p < j) {j : Nat} (hj : listed[j]? = some false) : Region.ready .any l.toArray listed ≠ [] := by
  obtain ⟨m, hm, hmin⟩ := least_of (p := fun j => listed[j]? = some false) ⟨j, hj⟩
  have hlt : m < l.length := by rw [← hsz]; exact (Array.getElem?_eq_some_iff.1 hm).1
  have : m ∈ Region.ready .any l.toArray listed := (ready_iff hsz).2 ⟨hm, l[m], List.getElem?_eq_getElem hlt, fun p hp => by
    have hpm := hord m _ (List.getElem?_eq_getElem hlt) p hp
    cases hb : listed[p]? with
    | none => rw [Array.getElem?_eq_none_iff, hsz] at hb; omega
    | some b => cases b with
      | true => rfl
      | false => have := hmin p hb; omega⟩
  exact fun h => by rw [h] at this; cases this
theorem all_done {E : List Nat} {A : List (Nat × Bool)} {listed : Array Bool} {r p : Act} {w : World} (inv : Inv P l E A listed r p w) (h : ∀ j : Nat, listed[j]? ≠ some false) : r = p := by
  have : r.tmps = p.tmps := by
    apply Array.ext_getElem?
    intro x
    exact (inv.slots x fun i q o _ hl _ => absurd hl (h i)).symm
  cases r; cases p
  have hd := inv.defers
  simp only at this hd
  rw [this, hd]
theorem sim (hsel : ∀ (j : Nat) (o : Oper) cs c, l[j]? = some o → o.op ≠ .select cs c) (hord : ∀ (j : Nat) (o : Oper), l[j]? = some o → ∀ p ∈ predsOf o, p < j) :
    ∀ (fuel : Nat) (pl : Plan) (E : List Nat) (A : List (Nat × Bool)) (listed : Array Bool) (r p : Act) (w : World),
      chk l E A true pl = true → Inv P l E A listed r p w → Ob P l Q pl p w → left listed ≤ fuel → wpAny P .any l.toArray Q fuel listed r w := by
  intro fuel
  have finish : ∀ (pl : Plan) (E : List Nat) (A : List (Nat × Bool)) (listed : Array Bool) (r p : Act) (w : World), acts pl = true → chk l E A true pl = true → Inv P l E A listed r p w → Ob P l Q pl p w → (∀ j : Nat, listed[j]? ≠ some false) → Q .normal r w := by
    intro pl E A listed r p w ha hc inv ob hno
    cases pl with
    | stop => simp [chk] at hc
    | fin => rw [all_done inv hno]; exact ob
    | eval i q rest => cases ha
    | eff e rs next alt =>
      obtain ⟨o, _, _, ho, _, _, _, hne, _⟩ := ob_find _ true e hc ob (List.mem_cons_self ..)
      exact absurd (unlisted inv (List.getElem?_eq_some_iff.1 ho).1 hne) (hno e)
  induction fuel with
  | zero =>
    intro pl E A listed r p w hc inv ob hf
    obtain ⟨pl, A, p, ha, hc, inv, ob⟩ := settle hsel pl A p hc inv ob
    have hno : ∀ j : Nat, listed[j]? ≠ some false := fun j => left_zero (by omega)
    refine ⟨?_, finish pl E A listed r p w ha hc inv ob hno⟩
    cases hr : Region.ready .any l.toArray listed with
    | nil => rfl
    | cons x xs =>
      have : x ∈ Region.ready .any l.toArray listed := by rw [hr]; exact List.mem_cons_self ..
      exact absurd ((ready_iff inv.size).1 this).1 (hno x)
  | succ fuel ih =>
    intro pl E A listed r p w hc inv ob hf
    obtain ⟨pl, A, p, ha, hc, inv, ob⟩ := settle hsel pl A p hc inv ob
    refine ⟨fun hr => finish pl E A listed r p w ha hc inv ob fun j hj => some_ready inv.size hord hj hr, fun j hj => ?_⟩
    obtain ⟨hun, o, ho, hpr⟩ := (ready_iff inv.size).1 hj
    have hfu : left (listed.setIfInBounds j true) ≤ fuel := by have := left_set hun; omega
    have hsame : (∀ i q oi, (i, q) ∈ A → listed[i]? = some false → l[i]? = some oi → ∀ d, oi.dst = some d → d ∈ looks l o → i ∈ predsOf o) := fun i q oi hi hl hoi d hd hm => by
      obtain ⟨_, h | ⟨h, _⟩⟩ := (slots_spec (inv.preds i q hi).2 hoi hd ho).2 hm
      · exact h
      · cases h
    have agree : ∀ x ∈ looks l o, p.tmps[x]? = r.tmps[x]? := fun x hx => inv.slots x fun i q oi hi hl hoi hd => by
      have := hpr i (hsame i q oi hi hl hoi x hd hx)
      rw [hl] at this; cases this
    unfold wpOp
    have hoa : l.toArray[j]? = some o := by simpa using ho
    rw [hoa]
    show if Region.wanted o (yielded l.toArray r.tmps) = true then _ else _
    by_cases hjA : j ∈ E ++ idx A
    · rcases List.mem_append.1 hjA with hE | hA
      · have := inv.eff j hE; rw [hun] at this; cases this
      · obtain ⟨q, hq⟩ := mem_idx.1 hA
        obtain ⟨o', d, v, h1, h2, h3, h4⟩ := inv.pend j q hq hun
        rw [ho] at h1; cases h1
        have hy : yl P l o r w v := yl_same (fun cs c => hsel j o cs c ho) agree (h4 w (.inr rfl))
        have hnext := ih pl E A _ _ p w hc (inv_pend inv hq hun ho h2 h3) ob hfu
        rcases hy with ⟨hw, hrun⟩ | ⟨hw, rfl⟩
        · rw [if_pos hw]
          left
          unfold Oper.wp; rw [hrun]
          simp only [Oper.upon, h2]; exact hnext
        · rw [if_neg (by simp [hw]), h2]; exact hnext
    · have hjE : j ∈ effsOf pl := by
        cases pl with
        | stop => simp [chk] at hc
        | eval i q rest => cases ha
        | fin =>
          simp only [chk, Bool.true_and, List.all_eq_true] at hc
          exact absurd (mem_iff.1 (hc j (List.mem_range.2 (List.getElem?_eq_some_iff.1 ho).1))) hjA
        | eff e rs next alt =>
          have hc' := hc
          simp only [chk, Bool.and_eq_true, Bool.not_true, Bool.false_or] at hc'
          have := List.all_eq_true.1 hc'.1.1.1.1.1 j (List.mem_range.2 (List.getElem?_eq_some_iff.1 ho).1)
          simp only [Bool.or_eq_true, mem_iff, Bool.not_eq_true'] at this
          rcases this with (h | h) | h
          · exact absurd h hjA
          · exact h
          · exfalso
            have : predsIn l j (E ++ idx A) = true := by
              unfold predsIn; rw [ho]
              simp only [List.all_eq_true]
              exact fun x hx => mem_iff.2 (inv.sub x (hpr x hx))
            rw [this] at h; cases h
      obtain ⟨o', rs, next, g1, g2, g3, g4, g5, g6⟩ := ob_find pl true j hc ob hjE
      rw [ho] at g1; cases g1
      refine one_rel (fun cs c => hsel j o cs c ho) agree (fun p' r' => ∃ v D, r'.tmps = (r.put o.dst v).tmps ∧ r'.defers = D ∧ p'.tmps = (p.put o.dst v).tmps ∧ p'.defers = D)
        (fun v => ⟨v, _, rfl, rfl, rfl, by rw [put_defers, put_defers]; exact inv.defers.symm⟩) (fun dd v => ⟨v, _, ?_, rfl, ?_, by rw [put_defers, put_defers]; simp [inv.defers]⟩) (fun p' r' w' hrel hk => ?_) g2
      · cases o.dst <;> rfl
      · cases o.dst <;> rfl
      · obtain ⟨hre, hob⟩ := hk
        exact ih next (j :: E) A _ _ _ w' g3 (inv_eff hsel inv g5 ho g4 hpr g6 hrel hre) hob hfu
end sim
theorem ok_lt {N : Nat} {d : Tmp} {a : Act} (h : ok N d) (k : a.tmps.size = N) : d < a.tmps.size := by rw [k]; exact Nat.le_of_ble_eq_true h
structure TD (P : Program) (N : Nat) (l : List Oper) (pl : Plan) (D : List Deferred) (env : KEnv) (S : List Asn) (Q : Post) : Prop where
  run : ∀ G F a w, Holds N G F D env S a w → Ob P l (lift N G F Q) pl a w
def onlyN (next : List Deferred → KEnv → List Asn → Prop) : Post
  | .normal, D, env, S => next D env S
  | _, _, _, _ => False
section rules
variable {P : Program} {N : Nat} {D : List Deferred} {env : KEnv} {S : List Asn} {Q : Post} {l : List Oper}
variable {d : Tmp} {t : TypeId} {pos : String} {aft : Array Edge} {op : Op} {v : Value}
def rechs (P : Program) (N : Nat) (l : List Oper) (D : List Deferred) (env : KEnv) (S : List Asn) : List Nat → Prop
  | [] => True
  | i :: r => (∃ d op t pos aft g v, nthO l i = some ⟨some d, op, t, pos, aft, g⟩ ∧ (((g = none ∨ ∃ gw, g = some gw ∧ gd l env gw = some true) ∧ QS P N D env S op t v) ∨ (∃ gw, g = some gw ∧ gd l env gw = some false) ∧ v = undef) ∧ look env d = some v) ∧ rechs P N l D env S r
theorem rechs_A {rs : List Nat} (h : rechs P N l D env S rs) {G : Ghost} {F : List Asn} {a : Act} {w : World} (k : Holds N G F D env S a w) : rechA P l rs a w := by
  induction rs with
  | nil => intro i hi; cases hi
  | cons i rs ih =>
    obtain ⟨⟨d, op, t, pos, aft, g, v, h1, h2, h3⟩, hr⟩ := h
    intro j hj
    rcases List.mem_cons.1 hj with e | hj
    · subst e
      rcases h2 with ⟨h4, h2⟩ | ⟨⟨gw, rfl, h4⟩, rfl⟩
      · rcases h4 with rfl | ⟨gw, rfl, h4⟩
        · exact ⟨_, d, v, (nthO_get l _).symm.trans h1, rfl, k.env d v h3, .inl ⟨by simp [Region.wanted], h2.run G F a w k d pos aft⟩⟩
        · exact ⟨_, d, v, (nthO_get l _).symm.trans h1, rfl, k.env d v h3, .inl ⟨gd_wanted rfl h4 k.env, h2.run G F a w k d pos aft⟩⟩
      · exact ⟨_, d, undef, (nthO_get l _).symm.trans h1, rfl, k.env d _ h3, .inr ⟨gd_wanted rfl h4 k.env (o := ⟨some d, op, t, pos, aft, some gw⟩), rfl⟩⟩
    · exact ih hr j hj
theorem t_draw (pl : Plan) {id : Nat} (hm : P.follows .mixedOrders = true) (hc : chkAll l pl = true) (h : TD P N l pl D env S Q) : Trip P N (.region id l.toArray true) D env S Q :=
  ⟨fun G F a w k => by
    refine wp_region_any hm ?_
    simp only [chkAll, Bool.and_eq_true] at hc
    obtain ⟨⟨c1, c2⟩, c3⟩ := hc
    have k' : Holds N G F D env S a { w with drawn := w.drawn + 1 } := ⟨k.size, k.env, k.defers, k.sat.same rfl rfl rfl rfl⟩
    refine sim (fun j o cs c ho => Region.noSelect_spec c2 j o cs c (by simpa using ho)) (fun j o ho p hp => ?_) _ pl [] [] _ a a _ c3 ?_ (h.run G F a _ k') ?_
    · have := List.all_eq_true.1 c1 j (List.mem_range.2 (List.getElem?_eq_some_iff.1 ho).1)
      rw [ho] at this
      have := Nat.le_of_ble_eq_true (List.all_eq_true.1 this p hp)
      omega
    · refine ⟨by simp, fun j hj => ?_, (fun j hj => by cases hj), rfl, rfl, fun x _ => rfl, (fun i q hi => by cases hi), (fun i q hi => by cases hi)⟩
      rw [Array.getElem?_replicate] at hj
      split at hj <;> cases hj
    · unfold left
      simp⟩
theorem d_fin (h : Q .normal D env S) : TD P N l .fin D env S Q := ⟨fun G F a w k => ⟨D, env, S, h, k⟩⟩
theorem d_stop : TD P N l .stop D env S Q := ⟨fun _ _ _ _ _ => trivial⟩
theorem d_qp {i : Nat} {rest : Plan} (hi : nthO l i = some ⟨some d, op, t, pos, aft, none⟩) (h : QP P env op t v) (hN : ok N d) (next : TD P N l rest D ((d, v) :: env) S Q) : TD P N l (.eval i true rest) D env S Q :=
  ⟨fun G F a w k => by
    have hd : d < a.tmps.size := ok_lt hN k.size
    exact ⟨_, d, v, (nthO_get l i).symm.trans hi, rfl, hd, fun w' => .inl ⟨by simp [Region.wanted], h.run a.eval (fun _ _ h => k.env.eval h) w' d pos aft⟩,
      next.run G F _ _ ⟨by rw [put_size]; exact k.size, k.env.put hd, k.defers, k.sat⟩⟩⟩
theorem d_qs {i : Nat} {rest : Plan} (hi : nthO l i = some ⟨some d, op, t, pos, aft, none⟩) (h : QS P N D env S op t v) (hN : ok N d) (next : TD P N l rest D ((d, v) :: env) S Q) : TD P N l (.eval i false rest) D env S Q :=
  ⟨fun G F a w k => by
    have hd : d < a.tmps.size := ok_lt hN k.size
    exact ⟨_, d, v, (nthO_get l i).symm.trans hi, rfl, hd, .inl ⟨by simp [Region.wanted], h.run G F a w k d pos aft⟩,
      next.run G F _ _ ⟨by rw [put_size]; exact k.size, k.env.put hd, k.defers, k.sat⟩⟩⟩
theorem d_gqp {i : Nat} {rest : Plan} {g : Nat × Bool} (hi : nthO l i = some ⟨some d, op, t, pos, aft, some g⟩) (hg : gd l env g = some true) (h : QP P env op t v) (hN : ok N d) (next : TD P N l rest D ((d, v) :: env) S Q) : TD P N l (.eval i true rest) D env S Q :=
  ⟨fun G F a w k => by
    have hd : d < a.tmps.size := ok_lt hN k.size
    exact ⟨_, d, v, (nthO_get l i).symm.trans hi, rfl, hd, fun w' => .inl ⟨gd_wanted rfl hg k.env, h.run a.eval (fun _ _ h => k.env.eval h) w' d pos aft⟩,
      next.run G F _ _ ⟨by rw [put_size]; exact k.size, k.env.put hd, k.defers, k.sat⟩⟩⟩
theorem d_gqs {i : Nat} {rest : Plan} {g : Nat × Bool} (hi : nthO l i = some ⟨some d, op, t, pos, aft, some g⟩) (hg : gd l env g = some true) (h : QS P N D env S op t v) (hN : ok N d) (next : TD P N l rest D ((d, v) :: env) S Q) : TD P N l (.eval i false rest) D env S Q :=
  ⟨fun G F a w k => by
    have hd : d < a.tmps.size := ok_lt hN k.size
    exact ⟨_, d, v, (nthO_get l i).symm.trans hi, rfl, hd, .inl ⟨gd_wanted rfl hg k.env, h.run G F a w k d pos aft⟩,
      next.run G F _ _ ⟨by rw [put_size]; exact k.size, k.env.put hd, k.defers, k.sat⟩⟩⟩
theorem d_gno {i : Nat} {p : Bool} {rest : Plan} {g : Nat × Bool} (hi : nthO l i = some ⟨some d, op, t, pos, aft, some g⟩) (hg : gd l env g = some false) (hN : ok N d) (next : TD P N l rest D ((d, undef) :: env) S Q) : TD P N l (.eval i p rest) D env S Q :=
  ⟨fun G F a w k => by
    have hd : d < a.tmps.size := ok_lt hN k.size
    have hn := gd_wanted rfl hg k.env (o := ⟨some d, op, t, pos, aft, some g⟩)
    refine ⟨_, d, undef, (nthO_get l i).symm.trans hi, rfl, hd, ?_, next.run G F _ _ ⟨by rw [put_size]; exact k.size, k.env.put hd, k.defers, k.sat⟩⟩
    cases p with
    | true => exact fun w' => .inr ⟨hn, rfl⟩
    | false => exact .inr ⟨hn, rfl⟩⟩
theorem d_eff {e : Nat} {rs : List Nat} {next alt : Plan} {o : Oper} (he : nthO l e = some o) (h : TripL P N l [o] D env S (onlyN fun D env S => rechs P N l D env S rs ∧ TD P N l next D env S Q)) (ha : TD P N l alt D env S Q) :
    TD P N l (.eff e rs next alt) D env S Q :=
  ⟨fun G F a w k => by
    refine ⟨⟨o, (nthO_get l e).symm.trans he, ?_⟩, ha.run G F a w k⟩
    have := h.run G F a w k
    have mono : ∀ e' a' w', lift N G F (onlyN fun D env S => rechs P N l D env S rs ∧ TD P N l next D env S Q) e' a' w' → onlyA (fun a' w' => rechA P l rs a' w' ∧ Ob P l (lift N G F Q) next a' w') e' a' w' := by
      rintro e' a' w' ⟨D', env', S', q, k'⟩
      cases e' with
      | normal => exact ⟨rechs_A q.1 k', q.2.run G F a' w' k'⟩
      | _ => exact q.elim
    unfold wpList at this ⊢
    split
    · rename_i hw
      rw [if_pos hw] at this
      rcases this with h | ⟨_, a', w', D', env', S', q, _⟩
      · left
        unfold Oper.wp at *
        generalize (execOp a.eval o).run P w = r at *
        cases r with
        | ok n w' =>
          cases n <;> simp only [Oper.upon, wpList] at h ⊢
          case value v => exact mono _ _ _ h
          case skip => exact mono _ _ _ h
          case defer dd => exact mono _ _ _ h
          case enter f args =>
            refine Calls.mono h fun e w'' he => ?_
            cases e with
            | returned u => exact mono _ _ _ he
            | panicked c => exact mono _ _ _ he
            | outgrown => obtain ⟨a', w', D', env', S', q, _⟩ := he; exact q.elim
          case row row args => exact Rows.mono h fun u w'' he => mono _ _ _ he
        | halt x w' => cases x <;> simp only [Oper.upon] at h ⊢ <;> exact mono _ _ _ h
      · exact q.elim
    · rename_i hw
      rw [if_neg hw] at this
      simp only [wpList] at this ⊢
      exact mono _ _ _ this⟩
theorem r_nil : rechs P N l D env S [] := trivial
theorem r_cons {i : Nat} {rs : List Nat} (hi : nthO l i = some ⟨some d, op, t, pos, aft, none⟩) (h : QS P N D env S op t v) (hv : look env d = some v) (hr : rechs P N l D env S rs) : rechs P N l D env S (i :: rs) :=
  ⟨⟨d, op, t, pos, aft, none, v, hi, .inl ⟨.inl rfl, h⟩, hv⟩, hr⟩
theorem r_gcons {i : Nat} {rs : List Nat} {g : Nat × Bool} (hi : nthO l i = some ⟨some d, op, t, pos, aft, some g⟩) (hg : gd l env g = some true) (h : QS P N D env S op t v) (hv : look env d = some v) (hr : rechs P N l D env S rs) : rechs P N l D env S (i :: rs) :=
  ⟨⟨d, op, t, pos, aft, some g, v, hi, .inl ⟨.inr ⟨g, rfl, hg⟩, h⟩, hv⟩, hr⟩
theorem r_gno {i : Nat} {rs : List Nat} {g : Nat × Bool} (hi : nthO l i = some ⟨some d, op, t, pos, aft, some g⟩) (hg : gd l env g = some false) (hv : look env d = some undef) (hr : rechs P N l D env S rs) : rechs P N l D env S (i :: rs) :=
  ⟨⟨d, op, t, pos, aft, some g, undef, hi, .inr ⟨⟨g, rfl, hg⟩, rfl⟩, hv⟩, hr⟩
end rules
end Go.Ox
end
