/- part 5 of the proof: contracts of the functions that the law reaches, and plain laws. -/
import Derived.Laws.StructEq
import Derived.Test.YtflgnpidelkkpaaGreatMq4
namespace Go.Proofs.YtflgnpidelkkpaaGreat
set_option maxRecDepth 8000
set_option linter.unusedVariables false
set_option linter.unusedSimpArgs false
def Arr (e : TypeId) (sz n : Nat) (cs : List Value) (A : Option Addr) (c : Nat) (h : Hp) : Prop :=
  cs.length = n * sz ∧ ((A = none ∧ n = 0 ∧ c = 0 ∧ h = Hp.none) ∨ ∃ g sp, A = some ⟨g, 0, none⟩ ∧ h = one g (cells (cs ++ sp) e) ∧ (cs ++ sp).length = c * sz ∧ n ≤ c ∧ c ≤ maxLen)
theorem Arr.nil (e : TypeId) (sz : Nat) : Arr e sz 0 [] none 0 Hp.none := ⟨by simp, .inl ⟨rfl, rfl, rfl, rfl⟩⟩
theorem Arr.mk {e : TypeId} {sz n c g : Nat} {cs sp : List Value} (h1 : cs.length = n * sz) (h2 : (cs ++ sp).length = c * sz) (h3 : n ≤ c) (h4 : c ≤ maxLen) : Arr e sz n cs (some ⟨g, 0, none⟩) c (one g (cells (cs ++ sp) e)) :=
  ⟨h1, .inr ⟨g, sp, rfl, rfl, h2, h3, h4⟩⟩
theorem Arr.le {e : TypeId} {sz n c : Nat} {cs : List Value} {A : Option Addr} {h : Hp} (a : Arr e sz n cs A c h) : n ≤ c := by
  rcases a.2 with ⟨_, h1, h2, _⟩ | ⟨g, sp, _, _, _, h3, _⟩
  · omega
  · exact h3
theorem Arr.row {e : TypeId} {sz n c : Nat} {cs : List Value} {A : Option Addr} {h : Hp} (a : Arr e sz n cs A c h) : ∀ (j : Nat) (v : Value), cs[j]? = some v → ∃ g sp, A = some ⟨g, 0, none⟩ ∧ h.get g = some (cells (cs ++ sp) e) ∧ (cs ++ sp)[j]? = some v := by
  intro j v hj
  rcases a.2 with ⟨_, h1, _, _⟩ | ⟨g, sp, hA, hh, _, _, _⟩
  · have := a.1; rw [h1, Nat.zero_mul] at this
    rw [List.eq_nil_of_length_eq_zero this] at hj; simp at hj
  · exact ⟨g, sp, hA, by rw [hh]; exact one_get _ _, by rw [List.getElem?_append_left (List.getElem?_eq_some_iff.1 hj).1]; exact hj⟩
theorem Arr.some {e : TypeId} {sz n c : Nat} {cs : List Value} {A : Option Addr} {h : Hp} (a : Arr e sz n cs A c h) (hn : 0 < n) : ∃ g sp, A = some ⟨g, 0, none⟩ ∧ h = one g (cells (cs ++ sp) e) ∧ (cs ++ sp).length = c * sz ∧ n ≤ c ∧ c ≤ maxLen := by
  rcases a.2 with ⟨_, h1, _, _⟩ | h
  · omega
  · exact h
theorem Arr.len {e : TypeId} {sz n c : Nat} {cs : List Value} {A : Option Addr} {h : Hp} (a : Arr e sz n cs A c h) : cs.length = n * sz := a.1
theorem snoc_cases {α : Type} (xs : List α) : xs = [] ∨ ∃ ys l, xs = ys ++ [l] := by
  rcases List.eq_nil_or_concat xs with h | ⟨ys, l, h⟩
  · exact .inl h
  · exact .inr ⟨ys, l, by simpa using h⟩
theorem Own.grown {B : World} {F h h' : Hp} {hs : List Hp} {w w' : World} (H : Own B F (h :: hs) w) (hk : ∀ k, k < w.heap.size → h.get k = none → w'.heap[k]? = w.heap[k]?)
    (hn : ∀ k o, h'.get k = some o → w'.heap[k]? = some o ∧ (h.get k ≠ none ∨ w.heap.size ≤ k)) (h1 : w'.os = w.os) (h2 : w'.tape = w.tape) (h3 : w'.output = w.output) (h4 : w.drawn ≤ w'.drawn) : Own B F (h' :: hs) w' := by
  refine Own.first (fun F ha S => ?_) H
  have hlt : ∀ b o, F.get b = some o → b < w.heap.size := fun b o e => (Array.getElem?_eq_some_iff.1 (S.heap b o (F.le_join _ b o e))).1
  refine ⟨fun b o e => ?_, fun b o e => ?_, h1.trans S.os, h2.trans S.tape, h3.trans S.output, Nat.le_trans S.drawn h4⟩
  · cases hh : h'.get b with
    | none => rfl
    | some o' =>
      rcases (hn b o' hh).2 with h5 | h5
      · exact absurd (ha b o e) h5
      · have := hlt b o e; omega
  · rcases Hp.join_inv e with e1 | e1
    · rw [hk b (hlt b o e1) (ha b o e1)]
      exact S.heap b o (F.le_join _ b o e1)
    · exact (hn b o e1).1
section
variable {P : Program} {n : Nat} {B : World} {F : Hp} {hs : List Hp} {env : Env} {ty : TypeId} {K : Value → List Hp → Prop}
theorem run_append_any (w : World) (base : Nat) (t ty e : TypeId) (i : TypeInfo) (z : Value) (size bytes : Nat) (ht : P.underlying t = some (.slice e)) (hi : P.info? e = some i) (hz : i.zero = some z)
    (hsize : i.size = size) (hby : i.bytes = bytes) (hzs : z.cells.size = size) (hsz : 0 < size)
    (v : Value) (n : Nat) (xs : List Value) (hown : w.ownsRow base e size v n xs)
    (A : Option Addr) (m c : Nat) (news : List Value) (hr : Row w A news) (hl : news.length = m * size) (h1 : ∀ u ∈ news, u.oneCell' = true)
    (h63 : n + m ≤ maxLen) (hbytes : (n + m) * bytes ≤ 140737488355328) (hbase : base ≤ w.heap.size) :
    ∃ v' w', (Builtin.append_ #[t, t] ty #[v, .slice A m c]).run P w = .ok v' w' ∧ w'.ownsRow base e size v' (n + m) (xs ++ news) ∧ w.grownBy w' v.ownBlock ∧
      (v'.ownBlock = v.ownBlock ∨ v'.ownBlock = some w.heap.size) := by
  cases A with
  | none =>
    have hn : news = [] := by
      cases news with
      | nil => rfl
      | cons a l => obtain ⟨b, o, h, _⟩ := hr 0 a rfl; cases h
    subst hn
    have hm : m = 0 := by
      rcases Nat.mul_eq_zero.1 hl.symm with h | h
      · exact h
      · omega
    subst hm
    refine ⟨v, w, ?_, by simpa using hown, World.grownBy.refl w _, .inl rfl⟩
    rcases hown.2 with ⟨rfl, rfl⟩ | ⟨g, cap, cur, rfl, _, _, hnc, _⟩
    · simp [Builtin.append_, run_underlying ht, sizeOf, typeInfo, hi, Builtin.lenOf, Builtin.firstCells]
    · simp [Builtin.append_, run_underlying ht, sizeOf, typeInfo, hi, Builtin.lenOf, Builtin.firstCells, hnc, storeCells]
  | some ad =>
    have hcells : ∀ j u, news[j]? = some u → w.cell? (ad.add j) = some u := by
      intro j u hu
      obtain ⟨b, o, h, hc⟩ := hr j u hu
      cases h
      unfold Addr.add
      split
      · next h => subst h; exact hc
      · exact hc
    obtain ⟨v', w', hrun, h2, h3, _, h5⟩ := run_append_own_at (P := P) w base t ty e i z size bytes ht hi hz hsize hby hzs hsz v n xs hown ad m c news hl hcells h1 h63 hbytes hbase
    exact ⟨v', w', hrun, h2, h3, h5⟩
def RowAt (F : Hp) (hs : List Hp) (A : Option Addr) (vs : List Value) : Prop := ∀ j v, vs[j]? = some v → ∃ b o, A = some ⟨b, o, none⟩ ∧ CellAt F hs b (o + j) v
theorem RowAt.nil {F : Hp} {hs : List Hp} {A : Option Addr} : RowAt F hs A [] := fun j v e => by simp at e
theorem RowAt.get {A : Option Addr} {vs : List Value} (h : RowAt F hs A vs) {w : World} (H : Own B F hs w) : Row w A vs := fun j v e => by
  obtain ⟨b, o, h1, h2⟩ := h j v e
  exact ⟨b, o, h1, h2.get H⟩
theorem RowAt.cells {b : Nat} {l : List Value} {t : TypeId} (h : At F hs b (cells l t)) : RowAt F hs (some ⟨b, 0, none⟩) l := fun j v e => ⟨b, 0, rfl, CellsAt.all h j v e⟩
theorem At.mem {h : Hp} {b : Nat} {o : Obj} (hm : h ∈ hs) (hb : h.get b = some o) : At F hs b o := by
  induction hm with
  | head => exact .here hb
  | tail _ _ ih => exact .there ih
theorem RowAt.arr {e sz m c : Nat} {vs : List Value} {A : Option Addr} {h : Hp} (a : Arr e sz m vs A c h) (hm : h ∈ hs) : RowAt F hs A vs := fun j v ej => by
  obtain ⟨g, sp, h1, h2, h3⟩ := a.row j v ej
  exact ⟨g, 0, h1, CellAt.mk (At.mem hm h2) (by rw [Nat.zero_add]; exact h3)⟩
theorem At.ofF {b : Nat} {o : Obj} (h : F.get b = some o) : At F hs b o := .ro h
theorem At.weak {hs' : List Hp} {b : Nat} {o : Obj} (h : At F hs b o) (hm : ∀ k, k ∈ hs → k ∈ hs') : At F hs' b o := by
  induction h with
  | ro h => exact .ro h
  | here h => exact At.mem (hm _ (.head _)) h
  | one => exact At.mem (hm _ (.head _)) (one_get _ _)
  | there _ ih => exact ih fun k hk => hm k (.tail _ hk)
theorem WO.append {t e sz by' : Nat} {z : Value} {zl cs news : List Value} {s x : Operand} {A A2 : Option Addr} {nn c m c2 : Nat} {h : Hp} {r : List Hp} [hu : UT P t (.slice e)] [hz : SZ P e sz by'] [hzr : ZR P e z zl]
    (hs1 : ev env s = some (.slice A nn c)) (hx : ev env x = some (.slice A2 m c2)) (ht : Take hs h r) (ha : Arr e sz nn cs A c h) (hzl : zl.length = sz) (hpos : 0 < sz) (hl : news.length = m * sz) (hr : RowAt F hs A2 news) (h1c : news.all (·.oneCell') = true)
    (hfit : (nn + m) * by' ≤ 140737488355328) (hmax : nn + m ≤ 9223372036854775807) (k : ∀ A' c' h', Arr e sz (nn + m) (cs ++ news) A' c' h' → K (.slice A' (nn + m) c') (h' :: r)) : WO P n B F (.call ⟨.builtin .append, #[s, x], #[t, t]⟩) ty env hs K :=
  fun o h1 h2 a w he ho next Q hn => by
    have H := ho.perm ht.perm
    have hrow := hr.get ho
    have hsz := hz.eq
    have hzero := hzr.eq
    unfold sizeB at hsz
    unfold zeroOf at hzero
    cases hi : P.info? e with
    | none => rw [hi] at hsz; cases hsz
    | some i =>
      rw [hi] at hsz hzero
      simp only [Option.map_some, Option.some.injEq, Prod.mk.injEq, Option.bind_some] at hsz hzero
      have hcl : z.cells.size = sz := by rw [hzr.cells]; simpa using hzl
      have hown : w.ownsRow 0 e sz (.slice A nn c) nn cs := by
        refine ⟨ha.1, ?_⟩
        rcases ha.2 with ⟨e1, e2, e3, e4⟩ | ⟨g, sp, e1, e2, e3, e4, e5⟩
        · subst e1; subst e2; subst e3; exact .inl ⟨rfl, rfl⟩
        · refine .inr ⟨g, c, (cs ++ sp).toArray, by rw [e1], Nat.zero_le _, H.all _ (.head _) _ _ (by rw [e2]; exact one_get _ _), e4, e5, by simpa using e3, ?_⟩
          rw [List.toList_toArray, List.take_append_of_le_length (by rw [ha.1]; exact Nat.le_refl _), ← ha.1, List.take_length]
      obtain ⟨v', w', hrun, g1, g2, g3⟩ := run_append_any (P := P) w 0 t o.type e i z sz by' hu.eq hi hzero hsz.1 hsz.2 hcl hpos (.slice A nn c) nn cs hown A2 m c2 news hrow hl (fun u hu => List.all_eq_true.1 h1c u hu) (by simpa [maxLen] using hmax) hfit (Nat.zero_le _)
      unfold Oper.wp execOp
      simp only [h1, resolve, invoke, builtin, Sem.run_bind, Sem.run_pure, Result.andThen_ok, List.map_toArray, List.map_cons, List.map_nil, he.ev hs1, he.ev hx, hrun, Oper.upon_value]
      have hkeep : ∀ k, k < w.heap.size → h.get k = none → w'.heap[k]? = w.heap[k]? := by
        intro k hk hnone
        refine g2.block k hk fun hkk => ?_
        rcases ha.2 with ⟨e1, _, _, _⟩ | ⟨g, sp, e1, e2, _⟩
        · subst e1; cases hkk
        · subst e1
          simp only [Value.ownBlock, Option.some.injEq] at hkk
          subst hkk
          rw [e2, one_get] at hnone
          cases hnone
      rcases g1.2 with ⟨e1, e2⟩ | ⟨g, cap, cur, e1, _, e3, e4, e5, e6, e7⟩
      · subst e1
        have hcs : cs ++ news = [] := List.eq_nil_of_length_eq_zero (by rw [g1.1, e2, Nat.zero_mul])
        have hK := k none 0 Hp.none ⟨g1.1, .inl ⟨rfl, e2, rfl, rfl⟩⟩
        rw [e2] at hK
        exact hn _ _ w' hK (H.grown hkeep (fun q o' e => by cases e) g2.os g2.tape g2.output (run_drawn P _ _ hrun))
      · subst e1
        have hgl : (cs ++ news).length = (nn + m) * sz := g1.1
        have hcur : cur = (cs ++ news ++ cur.toList.drop ((nn + m) * sz)).toArray := by
          apply Array.ext'
          rw [← e7]; simp
        have hcl2 : (cs ++ news ++ cur.toList.drop ((nn + m) * sz)).length = cap * sz := by
          have := congrArg Array.size hcur
          simp only [List.size_toArray] at this
          omega
        refine hn _ _ w' (k (some ⟨g, 0, none⟩) cap (one g (cells (cs ++ news ++ cur.toList.drop ((nn + m) * sz)) e)) ⟨hgl, .inr ⟨g, _, rfl, rfl, hcl2, e4, e5⟩⟩) (H.grown hkeep (fun q o' e' => ?_) g2.os g2.tape g2.output (run_drawn P _ _ hrun))
        obtain ⟨rfl, rfl⟩ := one_inv e'
        refine ⟨by rw [e3]; exact congrArg (fun z => some (Obj.cells z e (0, 0))) hcur, ?_⟩
        rcases g3 with g3 | g3
        · left
          rcases ha.2 with ⟨f1, _, _, _⟩ | ⟨g', sp', f1, f2, _⟩
          · subst f1; cases g3
          · subst f1
            simp only [Value.ownBlock, Option.some.injEq] at g3
            subst g3
            rw [f2, one_get]; exact fun h => by cases h
        · right
          simp only [Value.ownBlock, Option.some.injEq] at g3
          omega
def zrow (zl : List Value) : Nat → List Value
  | 0 => []
  | k + 1 => zl ++ zrow zl k
theorem zrow_len (zl : List Value) : ∀ k, (zrow zl k).length = k * zl.length
  | 0 => by simp [zrow]
  | k + 1 => by rw [zrow, List.length_append, zrow_len zl k, Nat.add_mul]; omega
theorem zrow_get (zl : List Value) : ∀ k j, j < k * zl.length → (zrow zl k)[j]? = zl[j % zl.length]?
  | 0, j, h => by omega
  | k + 1, j, h => by
    rw [zrow]
    have hp : 0 < zl.length := by
      rcases Nat.eq_zero_or_pos zl.length with h0 | h0
      · rw [h0, Nat.mul_zero] at h; omega
      · exact h0
    by_cases hj : j < zl.length
    · rw [List.getElem?_append_left hj, Nat.mod_eq_of_lt hj]
    · rw [List.getElem?_append_right (by omega), zrow_get zl k (j - zl.length) (by rw [Nat.add_mul] at h; omega), ← Nat.mod_eq_sub_mod (by omega)]
theorem zrow_arr (zl : List Value) (k : Nat) : ((Array.range (k * zl.length)).map fun i => zl.toArray[i % zl.toArray.size]!) = (zrow zl k).toArray := by
  apply Array.ext'
  apply List.ext_getElem?
  intro j
  simp only [Array.toList_map, Array.toList_range, List.getElem?_map, List.getElem?_range']
  by_cases hj : j < k * zl.length
  · have hp : 0 < zl.length := by
      rcases Nat.eq_zero_or_pos zl.length with h0 | h0
      · rw [h0, Nat.mul_zero] at hj; omega
      · exact h0
    rw [zrow_get zl k j hj, List.getElem?_eq_getElem (by simpa using hj)]
    have hm : j % zl.length < zl.length := Nat.mod_lt _ hp
    simp [hm]
  · rw [List.getElem?_eq_none (l := zrow zl k) (by rw [zrow_len]; omega), List.getElem?_eq_none (by simp; omega)]
    rfl
theorem WO.buildSlice {t e sz by' len : Nat} {z : Value} {zl l' : List Value} {ps : Array (Nat × Operand)} [hu : UT P t (.slice e)] [hz : SZ P e sz by'] [hzr : ZR P e z zl] (hzl : zl.length = sz) (hsm : Nat.ble (len * sz) 16777216 = true)
    (hf : Fill ((List.range len).map fun i => (i * sz, sz)) env ps.toList (zrow zl len) l') (k : ∀ b, K (.slice (some ⟨b, 0, none⟩) len len) (one b (cells l' e) :: hs)) : WO P n B F (.buildSlice t len ps) ty env hs K :=
  fun o h1 h2 a w he ho next Q hn => by
    have hsm := Nat.le_of_ble_eq_true hsm
    subst hzl
    have hfill := Fill.run (place := fun i => some (i * zl.length, zl.length)) (fun f q hq => by
      rw [List.getElem?_map] at hq
      cases hr : (List.range len)[f]? with
      | none => rw [hr] at hq; cases hq
      | some i =>
        rw [hr] at hq
        have := (List.getElem?_eq_some_iff.1 hr)
        obtain ⟨hlt, hi⟩ := this
        rw [List.getElem_range] at hi
        subst hi
        exact hq) he hf
    unfold Oper.wp execOp
    simp only [h1, Instr.buildSlice, Sem.run_bind, run_underlying hu.eq, Result.andThen_ok, run_size hz.eq]
    rw [if_neg (by omega)]
    have hps : (ps.map fun x => (x.fst, a.eval x.snd)).toList = ps.toList.map fun p => (p.1, a.eval p.2) := by simp
    have key := hn _ _ (w.alloc (cells l' e)) (k w.heap.size) (ho.alloc _)
    by_cases h0 : len * zl.length = 0
    · have hz0 : zrow zl len = [] := List.eq_nil_of_length_eq_zero (by rw [zrow_len, h0])
      rw [hz0] at hfill
      rw [if_pos h0]
      simp only [Sem.run_bind, Sem.run_pure, Result.andThen_ok]
      rw [show (Array.map (fun x => (#[] : Array Value)[x % (#[] : Array Value).size]!) (Array.range (len * zl.length))) = ([] : List Value).toArray by simp [h0], hps, hfill]
      simp only [newRow, Sem.run_bind, run_newObj, Result.andThen_ok, Sem.run_pure, Oper.upon_value]
      exact key
    · rw [if_neg h0]
      simp only [Sem.run_bind, run_zero hzr.eq, Result.andThen_ok, Sem.run_pure, hzr.cells]
      rw [zrow_arr zl len, hps, hfill]
      simp only [newRow, Sem.run_bind, run_newObj, Result.andThen_ok, Sem.run_pure, Oper.upon_value]
      exact key
theorem WO.makeSlice {t e sz by' : Nat} {z : Value} {zl : List Value} {x y : Operand} {i j : Int} (l c : Nat) [hu : UT P t (.slice e)] [hz : SZ P e sz by'] [hzr : ZR P e z zl] (hx : ev env x = some (.int .i64 i)) (hy : ev env y = some (.int .i64 j)) (hi : i = (l : Int)) (hj : j = (c : Int)) (hlc : l ≤ c)
    (hfit : c * by' ≤ 140737488355328) (hc : c ≤ 9223372036854775807) (hzl : zl.length = sz) (k : ∀ b, K (.slice (some ⟨b, 0, none⟩) l c) (one b (cells (zrow zl c) e) :: hs)) : WO P n B F (.makeSlice t x y) ty env hs K :=
  fun o h1 h2 a w he ho next Q hn => by
    subst hzl; subst hi; subst hj
    have w1 : IntKind.i64.wrap (l : Int) = l := wrap_i64 (by omega)
    have w2 : IntKind.i64.wrap (c : Int) = c := wrap_i64 (by omega)
    have hb : (typeInfo e).run P w = (match P.info? e with | some i => .ok i w | none => .halt (.stuck "no such type") w) := by
      unfold typeInfo
      simp only [Sem.run_bind, run_program, Result.andThen_ok]
      cases P.info? e <;> rfl
    have hsz := hz.eq
    unfold sizeB at hsz
    cases hi : P.info? e with
    | none => rw [hi] at hsz; cases hsz
    | some ti =>
      rw [hi] at hsz hb
      simp only [Option.map_some, Option.some.injEq, Prod.mk.injEq] at hsz
      have h48 : ¬ (2 : Int) ^ 48 < (ti.bytes : Int) * (c : Int) := by
        have h2 : (2 : Int) ^ 48 = 281474976710656 := by decide
        rw [h2, hsz.2]
        have : (by' : Int) * (c : Int) = ((c * by' : Nat) : Int) := by rw [Int.natCast_mul]; exact Int.mul_comm _ _
        rw [this]; omega
      have hps : (if ((decide ((c : Int) < 0) || decide ((ti.bytes : Int) * (c : Int) > 2 ^ 48)) || decide ((l : Int) < 0) || decide ((l : Int) > (c : Int))) = true then True else False) = False := by
        rw [if_neg]
        simp only [Bool.or_eq_true, decide_eq_true_eq, not_or]
        refine ⟨⟨⟨by omega, ?_⟩, by omega⟩, by omega⟩
        exact h48
      unfold Oper.wp execOp
      simp only [h1, he.ev hx, he.ev hy, Instr.makeSlice, Sem.run_bind, run_underlying hu.eq, Result.andThen_ok, asInt, asIntOf, Sem.run_pure, hb, w1, w2]
      rw [if_neg (by
        simp only [Bool.or_eq_true, decide_eq_true_eq, not_or]
        refine ⟨⟨⟨by omega, ?_⟩, by omega⟩, by omega⟩
        exact h48)]
      simp only [Sem.run_pure, Result.andThen_ok, run_askRoom, Sem.run_bind, run_size hz.eq, Int.toNat_natCast]
      by_cases h0 : c * zl.length = 0
      · have hz0 : zrow zl c = [] := List.eq_nil_of_length_eq_zero (by rw [zrow_len, h0])
        have hk := k w.heap.size
        rw [hz0] at hk
        rw [if_pos h0]
        simp only [Sem.run_pure, Result.andThen_ok, newRow, Sem.run_bind, run_newObj, Oper.upon_value]
        rw [show (Array.map (fun x => (#[] : Array Value)[x % (#[] : Array Value).size]!) (Array.range (c * zl.length))) = ([] : List Value).toArray by simp [h0]]
        exact hn _ _ (w.alloc (cells [] e)) hk (ho.alloc _)
      · rw [if_neg h0]
        simp only [Sem.run_bind, run_zero hzr.eq, Result.andThen_ok, Sem.run_pure, hzr.cells, zrow_arr, newRow, run_newObj, Oper.upon_value]
        exact hn _ _ (w.alloc (cells (zrow zl c) e)) (k w.heap.size) (ho.alloc _)
theorem run_bound (k : IntKind) (j m : Nat) (h : j ≤ m) (code : BoundsCode) (w : World) : (Instr.sliceBound (.int k (j : Int)) m code).run P w = .ok j w := by
  have hj' : (0 : Int) ≤ (j : Int) ∧ (j : Int) ≤ (m : Int) := ⟨by omega, by omega⟩
  simp only [Instr.sliceBound, asIntOf, Sem.run_bind, Sem.run_pure, Result.andThen_ok, if_pos hj', Int.toNat_natCast]
theorem add_nil (A : Option Addr) (sz : Nat) : A.map (·.add (0 * sz)) = A := by
  cases A with
  | none => rfl
  | some a => simp [Addr.add]
theorem Rn.sliceTo {t e sz by' m c : Nat} {A : Option Addr} {x y : Operand} {k : IntKind} {i : Int} (j : Nat) [hu : UT P t (.slice e)] [hz : SZ P e sz by'] (hx : ev env x = some (.slice A m c)) (hy : ev env y = some (.int k i)) (hi : i = (j : Int)) (hj : j ≤ c) :
    Rn P F hs (.slice t x none (some y) none) ty env (.slice A j c) := fun op h1 h2 n B a w he ho => by
  subst hi
  unfold execOp
  simp only [h1, he.ev hx, he.ev hy, Option.map_some, Option.map_none, Instr.sliceAt, Instr.slice, Instr.sliceBounds, Sem.run_bind, run_underlying hu.eq, run_size hz.eq, Sem.run_pure, Result.andThen_ok, run_bound k j c hj]
  simp only [add_nil, ite_self, Nat.sub_zero]
theorem Rn.sliceFrom {t e sz by' m c b o : Nat} {x y : Operand} {k : IntKind} {i : Int} (j : Nat) [hu : UT P t (.slice e)] [hz : SZ P e sz by'] (hx : ev env x = some (.slice (some ⟨b, o, none⟩) m c)) (hy : ev env y = some (.int k i)) (hi : i = (j : Int)) (hj : j ≤ m) :
    Rn P F hs (.slice t x (some y) none none) ty env (.slice (some ⟨b, if c = j then o else o + j * sz, none⟩) (m - j) (c - j)) := fun op h1 h2 n B a w he ho => by
  subst hi
  unfold execOp
  simp only [h1, he.ev hx, he.ev hy, Option.map_some, Option.map_none, Instr.sliceAt, Instr.slice, Instr.sliceBounds, Sem.run_bind, run_underlying hu.eq, run_size hz.eq, Sem.run_pure, Result.andThen_ok, run_bound k j m hj]
  by_cases h0 : c = j
  · simp only [if_pos h0]
  · simp only [if_neg h0, Option.map_some, Addr.add]
    by_cases h3 : j * sz = 0
    · simp [h3]
    · simp [h3]
theorem Rn.sliceClip {t e sz by' m c : Nat} {A : Option Addr} {x y y' : Operand} {k k' : IntKind} {i i' : Int} (j j' : Nat) [hu : UT P t (.slice e)] [hz : SZ P e sz by'] (hx : ev env x = some (.slice A m c)) (hy : ev env y = some (.int k i)) (hy' : ev env y' = some (.int k' i')) (hi : i = (j : Int)) (hi' : i' = (j' : Int)) (hj : j ≤ j') (hj' : j' ≤ c) :
    Rn P F hs (.slice t x none (some y) (some y')) ty env (.slice A j j') := fun op h1 h2 n B a w he ho => by
  subst hi; subst hi'
  unfold execOp
  simp only [h1, he.ev hx, he.ev hy, he.ev hy', Option.map_some, Option.map_none, Instr.sliceAt, Instr.slice, Instr.sliceBounds, Sem.run_bind, run_underlying hu.eq, run_size hz.eq, Sem.run_pure, Result.andThen_ok, run_bound k j j' hj, run_bound k' j' c hj']
  simp only [add_nil, ite_self, Nat.sub_zero]
end
end Go.Proofs.YtflgnpidelkkpaaGreat
namespace Go.Proofs.YtflgnpidelkkpaaGreat
set_option maxRecDepth 8000
set_option linter.unusedVariables false
set_option linter.unusedSimpArgs false
def flatFrom (P : Program) : Nat → List Field → Option (List Bool)
  | _, [] => some []
  | i, f :: fs => if f.name ≠ "_" ∧ f.offset = i then
      match P.underlying f.type, flatFrom P (i + 1) fs with
      | some (.int _), some ks => some (false :: ks)
      | some .bool, some ks => some (true :: ks)
      | _, _ => none
    else none
def flatOf (P : Program) (t : TypeId) : Option (List Bool) := match P.underlying t with
  | some (.struct fs) => flatFrom P 0 fs.toList
  | _ => none
class EQ (P : Program) (t : TypeId) (ks : outParam (List Bool)) : Prop where
  eq : flatOf P t = some ks
  st : P.stoodInHeld t = false
  gd : P.eqGuardType P.depth t = false
def eqV : Value → Value → Bool
  | .int _ a, .int _ b => a == b
  | .bool a, .bool b => a == b
  | _, _ => false
def eqL : List Value → List Value → Bool
  | x :: xs, y :: ys => eqV x y && eqL xs ys
  | _, _ => true
def fits : List Bool → List Value → List Value → Bool
  | [], [], [] => true
  | false :: ks, .int k _ :: xs, .int k' _ :: ys => decide (k = k') && fits ks xs ys
  | true :: ks, .bool _ :: xs, .bool _ :: ys => fits ks xs ys
  | _, _, _ => false
theorem run_partCell {P : Program} {t : TypeId} (h : aggOf P t = some false) {cs : Array Value} {i : Nat} {v : Value} (hv : cs[i]? = some v) (w : World) : (part t cs i).run P w = .ok v w := by
  unfold part
  simp only [Sem.run_bind, run_agg h, Result.andThen_ok, Bool.false_eq_true, if_false, hv, Sem.run_pure]
theorem run_eqFlat {P : Program} (d : Nat) (w : World) : ∀ (fs : List Field) (ks : List Bool) (pre pre' xs ys : List Value), flatFrom P pre.length fs = some ks → pre'.length = pre.length → fits ks xs ys = true →
    (Op.eqFields (d + 1) (pre ++ xs).toArray (pre' ++ ys).toArray fs).run P w = .ok (eqL xs ys) w
  | [], ks, pre, pre', xs, ys, h, hl, hf => by
    simp only [flatFrom, Option.some.injEq] at h
    subst h
    cases xs <;> cases ys <;> simp_all [fits, Op.eqFields, eqL]
  | f :: fs, ks, pre, pre', xs, ys, h, hl, hf => by
    simp only [flatFrom] at h
    split at h
    · next hn =>
      have hcell : ∀ (x : Value) (xs : List Value), (pre ++ x :: xs).toArray[f.offset]? = some x := fun x xs => by rw [hn.2]; simp
      have hcell' : ∀ (x : Value) (xs : List Value), (pre' ++ x :: xs).toArray[f.offset]? = some x := fun x xs => by rw [hn.2, ← hl]; simp
      split at h
      · next k ks' hu hk =>
        simp only [Option.some.injEq] at h
        subst h
        have hag : aggOf P f.type = some false := by unfold aggOf; rw [hu]; rfl
        cases xs with
        | nil => simp [fits] at hf
        | cons x xs =>
          cases ys with
          | nil => cases x <;> simp [fits] at hf
          | cons y ys =>
            cases x <;> cases y <;> simp only [fits, Bool.and_eq_true, decide_eq_true_eq, Bool.false_eq_true] at hf
            next k1 a k2 b =>
            obtain ⟨rfl, hf⟩ := hf
            have ih := run_eqFlat d w fs ks' (pre ++ [.int k1 a]) (pre' ++ [.int k1 b]) xs ys (by simpa using hk) (by simp [hl]) hf
            simp only [List.append_assoc, List.singleton_append] at ih
            simp only [Op.eqFields]
            rw [if_pos hn.1]
            simp only [Sem.run_bind, run_partCell hag (hcell _ _), run_partCell hag (hcell' _ _), Result.andThen_ok, run_equalIn_int _ _ _ _ _ _ _ hu, Sem.run_ite, ih, eqL, eqV]
            cases hab : a == b <;> simp
      · next ks' hu hk =>
        simp only [Option.some.injEq] at h
        subst h
        have hag : aggOf P f.type = some false := by unfold aggOf; rw [hu]; rfl
        cases xs with
        | nil => simp [fits] at hf
        | cons x xs =>
          cases ys with
          | nil => cases x <;> simp [fits] at hf
          | cons y ys =>
            cases x <;> cases y <;> simp only [fits, Bool.false_eq_true] at hf
            next a b =>
            have ih := run_eqFlat d w fs ks' (pre ++ [.bool a]) (pre' ++ [.bool b]) xs ys (by simpa using hk) (by simp [hl]) hf
            simp only [List.append_assoc, List.singleton_append] at ih
            simp only [Op.eqFields]
            rw [if_pos hn.1]
            simp only [Sem.run_bind, run_partCell hag (hcell _ _), run_partCell hag (hcell' _ _), Result.andThen_ok, run_equalIn_bool' _ _ _ _ _ hu, Sem.run_ite, ih, eqL, eqV]
            cases hab : a == b <;> simp
      · cases h
    · cases h
section
variable {P : Program} {n : Nat} {B : World} {F : Hp} {hs : List Hp} {env : Env} {ty : TypeId} {K : Value → List Hp → Prop}
theorem run_eqAgg {t : TypeId} {ks : List Bool} [hq : EQ P t ks] {xs ys : List Value} (hf : fits ks xs ys = true) (w : World) : (Op.equal t (.agg xs.toArray) (.agg ys.toArray)).run P w = .ok (eqL xs ys) w := by
  have h := hq.eq
  unfold flatOf at h
  split at h
  · next fs hu =>
    have hfo : P.fieldsOf t = fs := by unfold Program.fieldsOf; rw [hu]
    have := run_equalIn_struct (P := P) w 9999 t xs.toArray ys.toArray (by rw [hfo]; exact hu) hq.st
    rw [hfo] at this
    exact this.trans (run_eqFlat 9998 w fs.toList ks [] [] xs ys h rfl hf)
  · cases h
theorem run_guardAgg {t : TypeId} {ks : List Bool} [hq : EQ P t ks] {op : BinOp} {x y : Operand} {xs ys : Array Value} (w : World) : (eqGuard op t x y (.agg xs) (.agg ys)).run P w = .ok () w := by
  unfold eqGuard
  cases op <;> simp [hq.gd]
theorem Rn.eqA {t yt : TypeId} {ks : List Bool} {x y : Operand} {xs ys : List Value} [hq : EQ P t ks] (hx : ev env x = some (.agg xs.toArray)) (hy : ev env y = some (.agg ys.toArray)) (hf : fits ks xs ys = true) : Rn P F hs (.binOp .eql t x y yt) ty env (.bool (eqL xs ys)) := fun o h1 h2 n B a w he ho => by
  unfold execOp
  simp only [h1, he.ev hx, he.ev hy, Sem.run_bind, run_guardAgg (P := P) (t := t) w, Result.andThen_ok, binOp, run_eqAgg (P := P) (t := t) hf w, Sem.run_pure]
theorem Rn.neA {t yt : TypeId} {ks : List Bool} {x y : Operand} {xs ys : List Value} [hq : EQ P t ks] (hx : ev env x = some (.agg xs.toArray)) (hy : ev env y = some (.agg ys.toArray)) (hf : fits ks xs ys = true) : Rn P F hs (.binOp .neq t x y yt) ty env (.bool (!(eqL xs ys))) := fun o h1 h2 n B a w he ho => by
  unfold execOp
  simp only [h1, he.ev hx, he.ev hy, Sem.run_bind, run_guardAgg (P := P) (t := t) w, Result.andThen_ok, binOp, run_eqAgg (P := P) (t := t) hf w, Sem.run_pure]
theorem WO.copy {t e sz by' : Nat} {s x : Operand} {b o nn c m c2 mm : Nat} {A2 : Option Addr} {l cs : List Value} {u : TypeId} {hs' : List Hp} [hu : UT P t (.slice e)] [hz : SZ P e sz by'] (hs1 : ev env s = some (.slice (some ⟨b, o, none⟩) nn c)) (hx : ev env x = some (.slice A2 m c2))
    (hm : Nat.min m nn = mm) (hl : cs.length = mm * sz) (hr : RowAt F hs A2 cs) (h1c : cs.all (·.oneCell') = true) (hrp : Repl hs (one b (cells l u)) (one b (cells (splice l o cs) u)) hs') (hin : o + cs.length ≤ l.length) (k : K (.int .i64 mm) hs') : WO P n B F (.call ⟨.builtin .copy, #[s, x], #[t, t]⟩) ty env hs K :=
  fun op h1 h2 a w he ho next Q hn => by
    obtain ⟨r, p1, p2⟩ := hrp.perm
    have H := ho.perm p1
    have hrow := hr.get ho
    have hg : w.heap[b]? = some (.cells l.toArray u (0, 0)) := H.all _ (.head _) _ _ (one_get _ _)
    have hst := run_storeCells_at P b o u cs 0 l.toArray w hg (by simpa using hin) (fun v hv => List.all_eq_true.1 h1c v hv)
    have hfc : (Builtin.firstCells sz mm (.slice A2 m c2)).run P w = .ok cs.toArray w := by
      cases A2 with
      | none =>
        have : cs = [] := by
          cases cs with
          | nil => rfl
          | cons v vs => obtain ⟨_, _, h, _⟩ := hrow 0 v rfl; cases h
        subst this; rfl
      | some ad =>
        unfold Builtin.firstCells
        simp only
        rw [← hl]
        refine run_loadCells_list w ad cs fun j v hj => ?_
        obtain ⟨b', o', e1, e2⟩ := hrow j v hj
        cases e1
        unfold Addr.add
        split
        · next h => subst h; exact e2
        · exact e2
    have H' : Own B F (one b (cells (splice l o cs) u) :: r) (w.setRow b (List.take (o + 0) l ++ cs ++ List.drop (o + 0 + cs.length) l).toArray) := H.upd (by
      have := setRow_heap w b l.toArray (splice l o cs).toArray u (0, 0) hg
      simpa [splice] using this) (by
      intro q hq
      simp only [World.setRow, Array.getElem?_modify]
      rw [if_neg (Ne.symm hq)]) rfl rfl rfl
    unfold Oper.wp execOp
    simp only [h1, resolve, invoke, builtin, Sem.run_bind, Sem.run_pure, Result.andThen_ok, List.map_toArray, List.map_cons, List.map_nil, he.ev hs1, he.ev hx, Builtin.copy_, run_underlying hu.eq, run_size hz.eq]
    simp [Builtin.lenOf, run_underlying hu.eq, run_size hz.eq, hfc, hm, hst, goInt]
    have := hn _ hs' _ k (H'.perm p2.symm)
    rw [Oper.upon_value]
    simpa using this
theorem splice_len (l : List Value) (o : Nat) (vs : List Value) (h : o + vs.length ≤ l.length) : (splice l o vs).length = l.length := by
  unfold splice; simp only [List.length_append, List.length_take, List.length_drop]; omega
theorem splice_mid (pre mid post vs : List Value) (o : Nat) (h : o + vs.length ≤ mid.length) : splice (pre ++ mid ++ post) (pre.length + o) vs = pre ++ splice mid o vs ++ post := by
  unfold splice
  have e : pre ++ mid ++ post = pre ++ (mid ++ post) := List.append_assoc _ _ _
  have e1 : (pre ++ (mid ++ post)).take (pre.length + o) = pre ++ mid.take o := by
    rw [List.take_append, List.take_of_length_le (l := pre) (by omega), show pre.length + o - pre.length = o by omega, List.take_append_of_le_length (by omega)]
  have e2 : (pre ++ (mid ++ post)).drop (pre.length + o + vs.length) = mid.drop (o + vs.length) ++ post := by
    rw [List.drop_append, List.drop_eq_nil_of_le (by omega), show pre.length + o + vs.length - pre.length = o + vs.length by omega, List.drop_append_of_le_length (by omega), List.nil_append]
  rw [e, e1, e2]
  simp
theorem splice_all (l vs : List Value) (h : vs.length = l.length) : splice l 0 vs = vs := by simp [splice, h]
theorem set_flatI {α : Type} (f : α → List Value) (sz : Nat) (hsz : ∀ x, (f x).length = sz) (arr : List α) (i : Nat) (hi : i < arr.length) (x : α) (sp : List Value) : splice (arr.flatMap f ++ sp) (0 + i * sz) (f x) = (arr.set i x).flatMap f ++ sp := by
  have e1 : arr = arr.take i ++ arr[i] :: arr.drop (i + 1) := by rw [List.getElem_cons_drop, List.take_append_drop]
  have hl : ((arr.take i).flatMap f).length = i * sz := by rw [flat_len f sz hsz, List.length_take, Nat.min_eq_left (by omega)]
  have e2 : arr.flatMap f ++ sp = (arr.take i).flatMap f ++ f arr[i] ++ ((arr.drop (i + 1)).flatMap f ++ sp) := by
    have e1' : arr.flatMap f = (arr.take i).flatMap f ++ (f arr[i] ++ (arr.drop (i + 1)).flatMap f) := by
      conv => lhs; rw [e1]
      rw [List.flatMap_append, List.flatMap_cons]
    rw [e1', List.append_assoc, List.append_assoc, List.append_assoc]
  have e3 : (arr.set i x).flatMap f ++ sp = (arr.take i).flatMap f ++ f x ++ ((arr.drop (i + 1)).flatMap f ++ sp) := by
    rw [List.set_eq_take_append_cons_drop, if_pos hi]
    simp
  rw [e2, e3, Nat.zero_add, ← hl]
  have := splice_mid ((arr.take i).flatMap f) (f arr[i]) ((arr.drop (i + 1)).flatMap f ++ sp) (f x) 0 (by rw [hsz, hsz]; omega)
  simp only [Nat.add_zero] at this
  rw [this, splice_all _ _ (by rw [hsz, hsz])]
theorem get_flat' {α : Type} (f : α → List Value) (sz : Nat) (hsz : ∀ x, (f x).length = sz) (xs : List α) (i : Nat) (x : α) (sp : List Value) (h : xs[i]? = some x) : ∀ j v, (f x)[j]? = some v → (xs.flatMap f ++ sp)[0 + i * sz + j]? = some v := fun j v hv => by
  have := flat_get f sz hsz xs i j x v h hv
  rw [Nat.zero_add, List.getElem?_append_left (List.getElem?_eq_some_iff.1 this).1]
  exact this
theorem flat_room {α : Type} (f : α → List Value) (sz : Nat) (hsz : ∀ x, (f x).length = sz) (xs : List α) (i : Nat) (hi : i < xs.length) (sp : List Value) : 0 + i * sz + sz ≤ (xs.flatMap f ++ sp).length := by
  rw [List.length_append, flat_len f sz hsz]
  have : (i + 1) * sz ≤ xs.length * sz := Nat.mul_le_mul_right _ hi
  rw [Nat.add_mul] at this
  omega
theorem RowAt.elem {α : Type} {A : Option Addr} {f : α → List Value} {xs : List α} (h : RowAt F hs A (xs.flatMap f)) (sz : Nat) (hsz : ∀ x, (f x).length = sz) (hp : 0 < sz) (i : Nat) (x : α) (hi : xs[i]? = some x) : ∃ b o, A = some ⟨b, o, none⟩ ∧ CellsAt F hs b (o + i * sz) (f x) := by
  have g := fun j v (hj : (f x)[j]? = some v) => h (i * sz + j) v (flat_get f sz hsz xs i j x v hi hj)
  obtain ⟨b, o, rfl, _⟩ := g 0 _ (List.getElem?_eq_getElem (by rw [hsz]; exact hp))
  refine ⟨b, o, rfl, fun j v hj => ?_⟩
  obtain ⟨_, _, e, hc⟩ := g j v hj
  cases e
  rw [Nat.add_assoc]; exact hc
theorem RowAt.up {A : Option Addr} {vs : List Value} {G : Hp} {hs' : List Hp} (h : RowAt F hs A vs) (hF : F.le G) (hr : ∀ k ∈ hs, k.le G) : RowAt G hs' A vs := fun j v e => by
  obtain ⟨b, o, h1, cs, t, fz, h2, h3⟩ := h j v e
  exact ⟨b, o, h1, cs, t, fz, .ro (h2.up hF hr), h3⟩
theorem RowAt.weak {A : Option Addr} {vs : List Value} {hs' : List Hp} (h : RowAt F hs A vs) (hm : ∀ k, k ∈ hs → k ∈ hs') : RowAt F hs' A vs := fun j v e => by
  obtain ⟨b, o, h1, cs, t, fz, h2, h3⟩ := h j v e
  exact ⟨b, o, h1, cs, t, fz, h2.weak hm, h3⟩
theorem CellsAt.weak {b o : Nat} {vs : List Value} {hs' : List Hp} (h : CellsAt F hs b o vs) (hm : ∀ k, k ∈ hs → k ∈ hs') : CellsAt F hs' b o vs := fun j v e => by
  obtain ⟨cs, t, fz, h2, h3⟩ := h j v e
  exact ⟨cs, t, fz, h2.weak hm, h3⟩
end
end Go.Proofs.YtflgnpidelkkpaaGreat
