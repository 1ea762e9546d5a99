/- WholeKept, part 4. No condition. -/
import Derived.Shelf.Sort.Plain
import Derived.Shelf.Slices.In.SortNone2
import Derived.Shelf.SlSortFuncK.WholeK
import Derived.Ground.GgsProg
import Derived.Ground.SlbNamesProg
import Derived.Shelf.Bytes.SlCountOne
import Derived.Test.YtonpakokjgloaaaGreatOx02
import Derived.Test.YtonpakokjgloaaaGreatOx03
set_option linter.all false
section
namespace Go.Proofs
open Go.Shelf
def Tryz.lays191_ren : Go.Shelf.Ren := ⟨fun | 191 => 100 | 189 => 154 | 125 => 217 | 257 => 216 | 128 => 294 | 129 => 295 | 294 => 285 | 295 => 286 | 296 => 287 | 297 => 288 | 298 => 289 | 299 => 290 | 216 => 291 | 300 => 292 | 301 => 293 | 328 => 347 | 329 => 348 | 330 => 349 | 331 => 350 | 332 => 351 | 215 => 352 | 343 => 366 | n => n, fun | 28 => 63 | 0 => 0 | 3 => 3 | 46 => 291 | 51 => 198 | 53 => 392 | 4 => 4 | 183 => 385 | 182 => 384 | 131 => 373 | 5 => 5 | 9 => 9 | 218 => 439 | 222 => 430 | 228 => 459 | 229 => 38 | n => n, fun | n => n⟩
theorem Tryz.lays191 : Go.Proofs.Lays.n191 Tryz.prog Tryz.lays191_ren := {
 mixed := by kernel_rfl
 f125 := Tryz.func217.trans (congrArg some (by kernel_rfl))
 f128 := Tryz.func294.trans (congrArg some (by kernel_rfl))
 f129 := Tryz.func295.trans (congrArg some (by kernel_rfl))
 f189 := Tryz.func154.trans (congrArg some (by kernel_rfl))
 f191 := Tryz.func100.trans (congrArg some (by kernel_rfl))
 f215 := Tryz.func352.trans (congrArg some (by kernel_rfl))
 f216 := Tryz.func291.trans (congrArg some (by kernel_rfl))
 f257 := Tryz.func216.trans (congrArg some (by kernel_rfl))
 f294 := Tryz.func285.trans (congrArg some (by kernel_rfl))
 f295 := Tryz.func286.trans (congrArg some (by kernel_rfl))
 f296 := Tryz.func287.trans (congrArg some (by kernel_rfl))
 f297 := Tryz.func288.trans (congrArg some (by kernel_rfl))
 f298 := Tryz.func289.trans (congrArg some (by kernel_rfl))
 f299 := Tryz.func290.trans (congrArg some (by kernel_rfl))
 f300 := Tryz.func292.trans (congrArg some (by kernel_rfl))
 f301 := Tryz.func293.trans (congrArg some (by kernel_rfl))
 f328 := Tryz.func347.trans (congrArg some (by kernel_rfl))
 f329 := Tryz.func348.trans (congrArg some (by kernel_rfl))
 f330 := Tryz.func349.trans (congrArg some (by kernel_rfl))
 f331 := Tryz.func350.trans (congrArg some (by kernel_rfl))
 f332 := Tryz.func351.trans (congrArg some (by kernel_rfl))
 f343 := Tryz.func366.trans (congrArg some (by kernel_rfl))
 t0 := Tryz.underlying0
 a0 := Tryz.isAgg0
 z0 := Tryz.sizeOf0
 v0 := Tryz.zeroValue0
 t3 := Tryz.underlying3
 a3 := Tryz.isAgg3
 z3 := Tryz.sizeOf3
 v3 := Tryz.zeroValue3
 t4 := Tryz.underlying4
 a4 := Tryz.isAgg4
 z4 := Tryz.sizeOf4
 v4 := Tryz.zeroValue4
 t5 := Tryz.underlying5
 a5 := Tryz.isAgg5
 z5 := Tryz.sizeOf5
 v5 := Tryz.zeroValue5
 t9 := Tryz.underlying9
 a9 := Tryz.isAgg9
 z9 := Tryz.sizeOf9
 v9 := Tryz.zeroValue9
 t28 := Tryz.underlying63
 a28 := Tryz.isAgg63
 z28 := Tryz.sizeOf63
 v28 := Tryz.zeroValue63
 t46 := Tryz.underlying291
 a46 := Tryz.isAgg291
 z46 := Tryz.sizeOf291
 v46 := Tryz.zeroValue291
 t51 := Tryz.underlying198
 a51 := Tryz.isAgg198
 z51 := Tryz.sizeOf198
 v51 := Tryz.zeroValue198
 t53 := Tryz.underlying392
 a53 := Tryz.isAgg392
 z53 := Tryz.sizeOf392
 v53 := Tryz.zeroValue392
 t131 := Tryz.underlying373
 a131 := Tryz.isAgg373
 z131 := Tryz.sizeOf373
 v131 := Tryz.zeroValue373
 t182 := Tryz.underlying384
 a182 := Tryz.isAgg384
 z182 := Tryz.sizeOf384
 v182 := Tryz.zeroValue384
 t183 := Tryz.underlying385
 a183 := Tryz.isAgg385
 z183 := Tryz.sizeOf385
 v183 := Tryz.zeroValue385
 t218 := Tryz.underlying439
 a218 := Tryz.isAgg439
 z218 := Tryz.sizeOf439
 v218 := Tryz.zeroValue439
 t222 := Tryz.underlying430
 a222 := Tryz.isAgg430
 z222 := Tryz.sizeOf430
 v222 := Tryz.zeroValue430
 t228 := Tryz.underlying459
 a228 := Tryz.isAgg459
 z228 := Tryz.sizeOf459
 v228 := Tryz.zeroValue459
 t229 := Tryz.underlying38
 a229 := Tryz.isAgg38
 z229 := Tryz.sizeOf38
 v229 := Tryz.zeroValue38 }
def Tryz.sv162_ren : Go.Shelf.Ren := ⟨fun | 6 => 162 | 10 => 228 | 11 => 229 | 12 => 230 | 13 => 217 | 14 => 231 | 24 => 294 | 25 => 295 | 26 => 311 | 27 => 312 | 28 => 313 | 29 => 314 | 30 => 315 | 31 => 316 | 32 => 317 | 33 => 318 | 34 => 354 | 35 => 355 | 36 => 356 | 37 => 357 | 38 => 358 | 39 => 367 | n => n, fun | 20 => 20 | 26 => 77 | 35 => 314 | 0 => 0 | 37 => 316 | 3 => 3 | 41 => 291 | 44 => 320 | 49 => 198 | 51 => 392 | 4 => 4 | 54 => 402 | 53 => 401 | 58 => 373 | 5 => 5 | 9 => 9 | 60 => 444 | 64 => 430 | 66 => 461 | 67 => 38 | 17 => 17 | 32 => 311 | 33 => 312 | 82 => 483 | 12 => 12 | 75 => 476 | 76 => 477 | 77 => 478 | 78 => 479 | 79 => 480 | 80 => 481 | n => n, fun | n => n⟩
theorem Tryz.sv162 : Go.Proofs.LaysGg.n6 Tryz.prog Tryz.sv162_ren := {
 mixed := by kernel_rfl
 f6 := Tryz.func162.trans (congrArg some (by kernel_rfl))
 f10 := Tryz.func228.trans (congrArg some (by kernel_rfl))
 f11 := Tryz.func229.trans (congrArg some (by kernel_rfl))
 f12 := Tryz.func230.trans (congrArg some (by kernel_rfl))
 f13 := Tryz.func217.trans (congrArg some (by kernel_rfl))
 f14 := Tryz.func231.trans (congrArg some (by kernel_rfl))
 f24 := Tryz.func294.trans (congrArg some (by kernel_rfl))
 f25 := Tryz.func295.trans (congrArg some (by kernel_rfl))
 f26 := Tryz.func311.trans (congrArg some (by kernel_rfl))
 f27 := Tryz.func312.trans (congrArg some (by kernel_rfl))
 f28 := Tryz.func313.trans (congrArg some (by kernel_rfl))
 f29 := Tryz.func314.trans (congrArg some (by kernel_rfl))
 f30 := Tryz.func315.trans (congrArg some (by kernel_rfl))
 f31 := Tryz.func316.trans (congrArg some (by kernel_rfl))
 f32 := Tryz.func317.trans (congrArg some (by kernel_rfl))
 f33 := Tryz.func318.trans (congrArg some (by kernel_rfl))
 f34 := Tryz.func354.trans (congrArg some (by kernel_rfl))
 f35 := Tryz.func355.trans (congrArg some (by kernel_rfl))
 f36 := Tryz.func356.trans (congrArg some (by kernel_rfl))
 f37 := Tryz.func357.trans (congrArg some (by kernel_rfl))
 f38 := Tryz.func358.trans (congrArg some (by kernel_rfl))
 f39 := Tryz.func367.trans (congrArg some (by kernel_rfl))
 t0 := Tryz.underlying0
 a0 := Tryz.isAgg0
 z0 := Tryz.sizeOf0
 v0 := Tryz.zeroValue0
 i0 := by kernel_rfl
 t3 := Tryz.underlying3
 a3 := Tryz.isAgg3
 z3 := Tryz.sizeOf3
 v3 := Tryz.zeroValue3
 i3 := by kernel_rfl
 t4 := Tryz.underlying4
 a4 := Tryz.isAgg4
 z4 := Tryz.sizeOf4
 v4 := Tryz.zeroValue4
 i4 := by kernel_rfl
 t5 := Tryz.underlying5
 a5 := Tryz.isAgg5
 z5 := Tryz.sizeOf5
 v5 := Tryz.zeroValue5
 i5 := by kernel_rfl
 t9 := Tryz.underlying9
 a9 := Tryz.isAgg9
 z9 := Tryz.sizeOf9
 v9 := Tryz.zeroValue9
 i9 := by kernel_rfl
 t12 := Tryz.underlying12
 a12 := Tryz.isAgg12
 z12 := Tryz.sizeOf12
 v12 := Tryz.zeroValue12
 i12 := by kernel_rfl
 t17 := Tryz.underlying17
 a17 := Tryz.isAgg17
 z17 := Tryz.sizeOf17
 v17 := Tryz.zeroValue17
 i17 := by kernel_rfl
 t20 := Tryz.underlying20
 a20 := Tryz.isAgg20
 z20 := Tryz.sizeOf20
 v20 := Tryz.zeroValue20
 i20 := by kernel_rfl
 t26 := Tryz.underlying77
 a26 := Tryz.isAgg77
 z26 := Tryz.sizeOf77
 v26 := Tryz.zeroValue77
 i26 := by kernel_rfl
 t32 := Tryz.underlying311
 a32 := Tryz.isAgg311
 z32 := Tryz.sizeOf311
 v32 := Tryz.zeroValue311
 i32 := by kernel_rfl
 t33 := Tryz.underlying312
 a33 := Tryz.isAgg312
 z33 := Tryz.sizeOf312
 v33 := Tryz.zeroValue312
 i33 := by kernel_rfl
 t35 := Tryz.underlying314
 a35 := Tryz.isAgg314
 z35 := Tryz.sizeOf314
 v35 := Tryz.zeroValue314
 i35 := by kernel_rfl
 t37 := Tryz.underlying316
 a37 := Tryz.isAgg316
 z37 := Tryz.sizeOf316
 v37 := Tryz.zeroValue316
 i37 := by kernel_rfl
 t41 := Tryz.underlying291
 a41 := Tryz.isAgg291
 z41 := Tryz.sizeOf291
 v41 := Tryz.zeroValue291
 i41 := by kernel_rfl
 t44 := Tryz.underlying320
 a44 := Tryz.isAgg320
 z44 := Tryz.sizeOf320
 v44 := Tryz.zeroValue320
 i44 := by kernel_rfl
 t49 := Tryz.underlying198
 a49 := Tryz.isAgg198
 z49 := Tryz.sizeOf198
 v49 := Tryz.zeroValue198
 i49 := by kernel_rfl
 t51 := Tryz.underlying392
 a51 := Tryz.isAgg392
 z51 := Tryz.sizeOf392
 v51 := Tryz.zeroValue392
 i51 := by kernel_rfl
 t53 := Tryz.underlying401
 a53 := Tryz.isAgg401
 z53 := Tryz.sizeOf401
 v53 := Tryz.zeroValue401
 i53 := by kernel_rfl
 t54 := Tryz.underlying402
 a54 := Tryz.isAgg402
 z54 := Tryz.sizeOf402
 v54 := Tryz.zeroValue402
 i54 := by kernel_rfl
 t58 := Tryz.underlying373
 a58 := Tryz.isAgg373
 z58 := Tryz.sizeOf373
 v58 := Tryz.zeroValue373
 i58 := by kernel_rfl
 t60 := Tryz.underlying444
 a60 := Tryz.isAgg444
 z60 := Tryz.sizeOf444
 v60 := Tryz.zeroValue444
 i60 := by kernel_rfl
 t64 := Tryz.underlying430
 a64 := Tryz.isAgg430
 z64 := Tryz.sizeOf430
 v64 := Tryz.zeroValue430
 i64 := by kernel_rfl
 t66 := Tryz.underlying461
 a66 := Tryz.isAgg461
 z66 := Tryz.sizeOf461
 v66 := Tryz.zeroValue461
 i66 := by kernel_rfl
 t67 := Tryz.underlying38
 a67 := Tryz.isAgg38
 z67 := Tryz.sizeOf38
 v67 := Tryz.zeroValue38
 i67 := by kernel_rfl
 t75 := Tryz.underlying476
 a75 := Tryz.isAgg476
 z75 := Tryz.sizeOf476
 v75 := Tryz.zeroValue476
 i75 := by kernel_rfl
 t76 := Tryz.underlying477
 a76 := Tryz.isAgg477
 z76 := Tryz.sizeOf477
 v76 := Tryz.zeroValue477
 i76 := by kernel_rfl
 t77 := Tryz.underlying478
 a77 := Tryz.isAgg478
 z77 := Tryz.sizeOf478
 v77 := Tryz.zeroValue478
 i77 := by kernel_rfl
 t78 := Tryz.underlying479
 a78 := Tryz.isAgg479
 z78 := Tryz.sizeOf479
 v78 := Tryz.zeroValue479
 i78 := by kernel_rfl
 t79 := Tryz.underlying480
 a79 := Tryz.isAgg480
 z79 := Tryz.sizeOf480
 v79 := Tryz.zeroValue480
 i79 := by kernel_rfl
 t80 := Tryz.underlying481
 a80 := Tryz.isAgg481
 z80 := Tryz.sizeOf481
 v80 := Tryz.zeroValue481
 i80 := by kernel_rfl
 t82 := Tryz.underlying483
 a82 := Tryz.isAgg483
 z82 := Tryz.sizeOf483
 v82 := Tryz.zeroValue483
 i82 := by kernel_rfl }
def Tryz.lays13_ren : Go.Shelf.Ren := ⟨fun | 13 => 84 | 24 => 141 | 25 => 142 | 12 => 143 | 31 => 199 | 19 => 200 | 20 => 201 | 21 => 202 | 22 => 203 | 23 => 204 | 29 => 272 | 30 => 273 | n => n, fun | 22 => 22 | 3 => 3 | 4 => 4 | 0 => 0 | 5 => 5 | 9 => 9 | 33 => 291 | 40 => 377 | 39 => 198 | n => n, fun | 0 => 0 | n => n⟩
theorem Tryz.lays13 : Go.Proofs.SlLaysB.n13 Tryz.prog Tryz.lays13_ren := {
 mixed := by kernel_rfl
 f13 := Tryz.func84.trans (congrArg some (by kernel_rfl))
 f25 := Tryz.func142.trans (congrArg some (by kernel_rfl))
 t0 := Tryz.underlying0
 a0 := Tryz.isAgg0
 z0 := Tryz.sizeOf0
 v0 := Tryz.zeroValue0
 t3 := Tryz.underlying3
 a3 := Tryz.isAgg3
 z3 := Tryz.sizeOf3
 v3 := Tryz.zeroValue3
 t4 := Tryz.underlying4
 a4 := Tryz.isAgg4
 z4 := Tryz.sizeOf4
 v4 := Tryz.zeroValue4
 t5 := Tryz.underlying5
 a5 := Tryz.isAgg5
 z5 := Tryz.sizeOf5
 v5 := Tryz.zeroValue5
 t22 := Tryz.underlying22
 a22 := Tryz.isAgg22
 z22 := Tryz.sizeOf22
 v22 := Tryz.zeroValue22 }
end Go.Proofs
end
section
namespace Go.Ox
open Go
def numF : Nat → List Value → KEnv
 | _, [] => []
 | n, v :: vs => (n, v) :: numF (n + 1) vs
def resV (env : KEnv) : List ResultVar → Option (List Value)
 | [] => some []
 | .tmp t :: rs => match look env t with
  | none => none
  | some v => match resV env rs with
   | none => none
   | some vs => some (v :: vs)
 | .cell _ _ :: _ => none
def retV : List Value → Value
 | [] => .tuple #[]
 | [v] => v
 | v :: u :: vs => .tuple (v :: u :: vs).toArray
theorem retV_eq (vs : List Value) : (if h : vs.toArray.size = 1 then vs.toArray[0] else .tuple vs.toArray) = retV vs := by
 cases vs with
 | nil => rfl
 | cons v vs => cases vs with
  | nil => rfl
  | cons u vs => rfl
theorem run_results {P : Program} {fn : Func} {rs : List ResultVar} (hr : fn.results = rs.toArray) {a : Act} {env : KEnv} (ha : Agrees a env) {vs : List Value} (h : resV env rs = some vs) (w : World) :
  (results fn a.tmps).run P w = .ok (retV vs) w := by
 have key : ∀ (f : ResultVar → Sem Value), (∀ t, f (.tmp t) = pure (a.tmps.getD t undef)) → ∀ (rs : List ResultVar) (vs : List Value), resV env rs = some vs → (rs.mapM f).run P w = .ok vs w := by
  intro f hf rs
  induction rs with
  | nil => intro vs h; cases h; rfl
  | cons r rs ih =>
   intro vs h
   cases r with
   | cell x t => cases h
   | tmp t =>
    unfold resV at h
    cases hl : look env t with
    | none => rw [hl] at h; cases h
    | some v =>
     rw [hl] at h; simp only at h
     cases hv : resV env rs with
     | none => rw [hv] at h; cases h
     | some us =>
      rw [hv] at h; cases h
      have h2 := ha t v hl
      rw [List.mapM_cons, Sem.run_bind, hf t, Sem.run_pure, Result.andThen_ok, Sem.run_bind, ih us hv, Result.andThen_ok, Sem.run_pure, Array.getD_eq_getD_getElem?, h2, Option.getD_some]
 unfold results
 rw [hr, Array.mapM_eq_mapM_toList, Sem.run_bind, Sem.run_map, key _ (fun _ => rfl) rs vs h]
 simp only [Result.andThen_ok]
 rw [← retV_eq]
 rfl
def bodyP (rs : List ResultVar) (R : Value → List Asn → Prop) : Post
 | .normal, D, env, S => D = [] ∧ ∃ vs, resV env rs = some vs ∧ ∃ S', Ent S S' ∧ R (retV vs) S'
 | .ret, D, env, S => D = [] ∧ ∃ vs, resV env rs = some vs ∧ ∃ S', Ent S S' ∧ R (retV vs) S'
 | _, _, _, _ => False
theorem numF_look {args : List Value} : ∀ {n t : Nat} {v : Value}, look (numF n args) t = some v → n ≤ t ∧ args[t - n]? = some v := by
 induction args with
 | nil => intro n t v h; cases h
 | cons a azz ih =>
  intro n t v h
  unfold numF look at h
  cases hb : Nat.beq n t with
  | true =>
   rw [hb] at h; cases h
   have := Nat.eq_of_beq_eq_true hb; subst this
   exact ⟨Nat.le_refl _, by simp⟩
  | false =>
   rw [hb] at h
   obtain ⟨h1, h2⟩ := ih h
   refine ⟨by omega, ?_⟩
   have : t - n = (t - (n + 1)) + 1 := by omega
   rw [this]; simpa using h2
theorem spec_of {P : Program} {f : FuncId} {fn : Func} {c : Code} {rs : List ResultVar} {N : Nat} {args : List Value} {Pre : List Asn} {R : Value → List Asn → Prop}
  (hf : P.funcs[f]? = some fn) (hb : fn.body = some c) (hr : fn.results = rs.toArray) (hn : fn.ntmps = N) (hle : Nat.ble args.length N = true)
  (h : Trip P N c [] (numF 0 args) Pre (bodyP rs R)) : Spec P f args Pre R := by
 intro G F w hs
 have hle' := Nat.le_of_ble_eq_true hle
 refine calls_of_wp hf hb (Code.wp_mono ?_ (h.run G F _ w ⟨?_, ?_, rfl, hs⟩))
 ·rintro e a w ⟨D, env, S, q, k⟩
  cases e with
  | normal =>
   obtain ⟨rfl, vs, hv, S', he, hR⟩ := q
   exact ⟨k.defers, retV vs, run_results hr k.env hv w, retV vs, S', rfl, hR, k.sat.ent (he.frame F)⟩
  | ret =>
   obtain ⟨rfl, vs, hv, S', he, hR⟩ := q
   exact ⟨k.defers, retV vs, run_results hr k.env hv w, retV vs, S', rfl, hR, k.sat.ent (he.frame F)⟩
  | exit i => exact q.elim
  | goto i => exact q.elim
  | panic i => exact q.elim
  | outgrown => exact q.elim
 ·simp only [Array.size_append, List.size_toArray, Array.size_replicate, hn]; omega
 ·intro t v hl
  obtain ⟨_, h2⟩ := numF_look hl
  have hlt := (List.getElem?_eq_some_iff.1 h2).1
  simp only [Nat.sub_zero] at h2 hlt
  rw [Array.getElem?_append_left (by simpa using hlt)]
  simpa using h2
section
variable {P : Program} {R : Value → List Asn → Prop} {env : KEnv} {S : List Asn} {rs : List ResultVar}
theorem b_ret {vs : List Value} (S' : List Asn) (hv : resV env rs = some vs) (he : Ent S S') (h : R (retV vs) S') : bodyP rs R .ret [] env S := ⟨rfl, vs, hv, S', he, h⟩
theorem b_end {vs : List Value} (S' : List Asn) (hv : resV env rs = some vs) (he : Ent S S') (h : R (retV vs) S') : bodyP rs R .normal [] env S := ⟨rfl, vs, hv, S', he, h⟩
end
end Go.Ox
end
