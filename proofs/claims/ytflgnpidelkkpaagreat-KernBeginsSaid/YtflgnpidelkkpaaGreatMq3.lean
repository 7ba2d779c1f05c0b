/- part 3 of the proof: contracts of the functions that the law reaches, and plain laws. -/
import Derived.OrdersHeld
import Derived.Scope
import Derived.Test.YtflgnpidelkkpaaGreatMq2
namespace Go.Proofs.YtflgnpidelkkpaaGreat
set_option maxRecDepth 8000
set_option linter.unusedVariables false
abbrev Env := List (Nat × Option Value)
def lk : Env → Nat → Option Value
  | [], _ => none
  | (k, v) :: r, t => cond (Nat.beq k t) v (lk r t)
def ev (env : Env) : Operand → Option Value
  | .tmp t => lk env t
  | .const v => some v
  | .global g => some (.pointer (some ⟨g, 0, none⟩))
  | .func f => some (.func (.func f) #[] #[])
def evs (env : Env) : List Operand → Option (List Value)
  | [] => some []
  | x :: xs => match ev env x, evs env xs with
    | some v, some vs => some (v :: vs)
    | _, _ => none
structure E (n : Nat) (env : Env) (a : Act) : Prop where
  defers : a.defers = []
  size : a.tmps.size = n
  val : ∀ t v, lk env t = some v → a.tmps.getD t undef = v
theorem E.ev {n : Nat} {env : Env} {a : Act} (h : E n env a) {x : Operand} {v : Value} (e : ev env x = some v) : a.eval x = v := by
  cases x with
  | tmp t => exact h.val t v e
  | const u => injection e
  | global g => injection e
  | func f => injection e
theorem E.evs {n : Nat} {env : Env} {a : Act} (h : E n env a) : ∀ {xs : List Operand} {vs : List Value}, evs env xs = some vs → xs.map a.eval = vs
  | [], vs, e => by injection e
  | x :: xs, vs, e => by
    simp only [YtflgnpidelkkpaaGreat.evs] at e
    split at e
    · next v us h1 h2 =>
      injection e with e; subst e
      rw [List.map_cons, h.ev h1, h.evs h2]
    · cases e
theorem lk_put (env : Env) (d t : Nat) (v : Option Value) : lk ((d, v) :: env) t = if d = t then v else lk env t := by
  simp only [lk]
  by_cases h : d = t
  · subst h; simp
  · rw [if_neg h]
    have : Nat.beq d t = false := by
      cases hb : Nat.beq d t with
      | false => rfl
      | true => exact absurd (Nat.eq_of_beq_eq_true hb) h
    rw [this]; rfl
theorem E.put {n : Nat} {env : Env} {a : Act} (h : E n env a) {d : Nat} (hd : Nat.blt d n = true) (v : Value) : E n ((d, some v) :: env) (a.put (some d) v) := by
  have hd : d < n := by simpa [Nat.blt_eq] using hd
  refine ⟨h.defers, by simp [Act.put, h.size], fun t u e => ?_⟩
  rw [lk_put] at e
  by_cases hdt : d = t
  · rw [if_pos hdt] at e
    injection e with e; subst e; subst hdt
    have hs := h.size
    simp [Act.put, hs, hd]
  · rw [if_neg hdt] at e
    have := h.val t u e
    simp only [Act.put, Array.getD_eq_getD_getElem?, Array.getElem?_setIfInBounds_ne hdt] at this ⊢
    exact this
theorem E.hide {n : Nat} {env : Env} {a : Act} {d : Nat} {v : Value} (h : E n ((d, some v) :: env) a) : E n ((d, none) :: env) a :=
  ⟨h.defers, h.size, fun t u e => h.val t u (by
    rw [lk_put] at e ⊢
    by_cases hk : d = t
    · rw [if_pos hk] at e; cases e
    · rw [if_neg hk] at e ⊢; exact e)⟩
theorem E.mono {n : Nat} {env env' : Env} {a : Act} (h : E n env a) (hs : ∀ t v, lk env' t = some v → lk env t = some v) : E n env' a :=
  ⟨h.defers, h.size, fun t v e => h.val t v (hs t v e)⟩
def subE : Env → Env → Prop
  | [], _ => True
  | (t, some v) :: r, env => lk env t = some v ∧ subE r env
  | (_, none) :: r, env => subE r env
theorem subE.spec {env : Env} : ∀ {en : Env}, subE en env → ∀ t v, lk en t = some v → lk env t = some v
  | [], _, t, v, e => by cases e
  | (k, some u) :: r, h, t, v, e => by
    rw [lk_put] at e
    by_cases hk : k = t
    · rw [if_pos hk] at e; injection e with e; subst e; subst hk; exact h.1
    · rw [if_neg hk] at e; exact subE.spec h.2 t v e
  | (k, none) :: r, h, t, v, e => by
    rw [lk_put] at e
    by_cases hk : k = t
    · rw [if_pos hk] at e; cases e
    · rw [if_neg hk] at e; exact subE.spec (en := r) h t v e
abbrev Post := Exit → Act → World → Prop
def NP (Q : Post) : Prop := ∀ c a w, ¬ Q (.panic c) a w
section
variable {P : Program} {n : Nat} {B : World} {F : Hp}
def W (P : Program) (n : Nat) (B : World) (F : Hp) (Q : Post) (c : Code) (env : Env) (hs : List Hp) : Prop := ∀ a w, E n env a → Own B F hs w → c.wp P Q a w
def X (n : Nat) (B : World) (F : Hp) (Q : Post) (x : Exit) (env : Env) (hs : List Hp) : Prop := ∀ a w, E n env a → Own B F hs w → Q x a w
def WL (P : Program) (n : Nat) (B : World) (F : Hp) (ops : Array Oper) (Q : Post) (rest : List Oper) (env : Env) (hs : List Hp) : Prop := ∀ a w, E n env a → Own B F hs w → wpList P ops Q rest a w
variable {Q : Post} {env : Env} {hs : List Hp}
theorem W.seq {c d : Code} (h : W P n B F (Exit.then (d.wp P Q) Q) c env hs) : W P n B F Q (.seq c d) env hs := fun a w he ho => wp_seq (h a w he ho)
theorem W.block {id : Nat} {c : Code} (h : W P n B F (Exit.inBlock id Q) c env hs) : W P n B F Q (.block id c) env hs := fun a w he ho => wp_block (h a w he ho)
theorem W.skip (h : X n B F Q .normal env hs) : W P n B F Q .skip env hs := fun a w he ho => wp_skip (h a w he ho)
theorem W.label {l : Nat} (h : X n B F Q .normal env hs) : W P n B F Q (.label l) env hs := fun a w he ho => wp_label (h a w he ho)
theorem W.ret (h : X n B F Q .ret env hs) : W P n B F Q .ret env hs := fun a w he ho => wp_ret (h a w he ho)
theorem W.exit {id : Nat} (h : X n B F Q (.exit id) env hs) : W P n B F Q (.exit id) env hs := fun a w he ho => wp_exit (h a w he ho)
theorem W.cond {c : Operand} {x y : Code} {t : Bool} (hc : ev env c = some (.bool t)) (h1 : t = true → W P n B F Q x env hs) (h2 : t = false → W P n B F Q y env hs) : W P n B F Q (.cond c x y) env hs :=
  fun a w he ho => wp_cond_split (he.ev hc) (fun e => h1 e a w he ho) (fun e => h2 e a w he ho)
theorem W.condT {c : Operand} {x y : Code} (hc : ev env c = some (.bool true)) (h1 : W P n B F Q x env hs) : W P n B F Q (.cond c x y) env hs :=
  fun a w he ho => wp_cond_true (he.ev hc) (h1 a w he ho)
theorem W.condF {c : Operand} {x y : Code} (hc : ev env c = some (.bool false)) (h1 : W P n B F Q y env hs) : W P n B F Q (.cond c x y) env hs :=
  fun a w he ho => wp_cond_false (he.ev hc) (h1 a w he ho)
theorem W.region {id : Nat} {l : List Oper} (h : WL P n B F l.toArray Q l env hs) : W P n B F Q (.region id l.toArray false) env hs := fun a w he ho => wp_region_lit (h a w he ho)
theorem WL.nil {ops : Array Oper} (h : X n B F Q .normal env hs) : WL P n B F ops Q [] env hs := fun a w he ho => wpList_nil (h a w he ho)
theorem X.blX {id : Nat} (h : X n B F Q .normal env hs) : X n B F (Exit.inBlock id Q) (.exit id) env hs := fun a w he ho => by
  simp only [Exit.inBlock, if_true]; exact h a w he ho
theorem X.blY {id k : Nat} (hk : Nat.beq k id = false) (h : X n B F Q (.exit k) env hs) : X n B F (Exit.inBlock id Q) (.exit k) env hs := fun a w he ho => by
  have : k ≠ id := fun e => by subst e; simp at hk
  simp only [Exit.inBlock, if_neg this]; exact h a w he ho
structure Cont (P : Program) (n : Nat) (B : World) (F : Hp) (Q Q' : Post) (d : Code) : Prop where
  nx : ∀ env hs, W P n B F Q d env hs → X n B F Q' .normal env hs
  rt : ∀ env hs, X n B F Q .ret env hs → X n B F Q' .ret env hs
  ex : ∀ id env hs, X n B F Q (.exit id) env hs → X n B F Q' (.exit id) env hs
  np : NP Q → NP Q'
theorem W.seqK {c d : Code} (h : ∀ Q', Cont P n B F Q Q' d → W P n B F Q' c env hs) : W P n B F Q (.seq c d) env hs :=
  W.seq (h _ ⟨fun _ _ k => k, fun _ _ k => k, fun _ _ _ k => k, fun k => k⟩)
structure Blk (n : Nat) (B : World) (F : Hp) (Q Q' : Post) (id : Nat) : Prop where
  nx : ∀ env hs, X n B F Q .normal env hs → X n B F Q' .normal env hs
  ot : ∀ env hs, X n B F Q .normal env hs → X n B F Q' (.exit id) env hs
  rt : ∀ env hs, X n B F Q .ret env hs → X n B F Q' .ret env hs
  ex : ∀ k env hs, Nat.beq k id = false → X n B F Q (.exit k) env hs → X n B F Q' (.exit k) env hs
  np : NP Q → NP Q'
theorem W.blockK {id : Nat} {c : Code} (h : ∀ Q', Blk n B F Q Q' id → W P n B F Q' c env hs) : W P n B F Q (.block id c) env hs :=
  W.block (h _ ⟨fun _ _ k => k, fun _ _ k => X.blX k, fun _ _ k => k, fun _ _ _ k q => X.blY k q, fun k => k⟩)
structure Scp (n : Nat) (B : World) (F : Hp) (Q Q' : Post) : Prop where
  nx : ∀ env hs, X n B F Q .normal env hs → X n B F Q' .normal env hs
  rt : ∀ env hs, X n B F Q .ret env hs → X n B F Q' .ret env hs
  ex : ∀ k env hs, X n B F Q (.exit k) env hs → X n B F Q' (.exit k) env hs
  np : NP Q → NP Q'
theorem W.scopeK {c : Code} (h : ∀ Q', Scp n B F Q Q' → W P n B F Q' c env hs) : W P n B F Q (.scope c) env hs := fun a w e o =>
  wp_scope_straight (h (Exit.noGoto Q) ⟨fun _ _ k => k, fun _ _ k => k, fun _ _ _ k => k, fun k => k⟩ a w e o)
theorem X.pad {x : Exit} (h : X n B F Q x env (Hp.none :: hs)) : X n B F Q x env hs := fun a w e o => h a w e o.pad
theorem W.pad {c : Code} (h : W P n B F Q c env (Hp.none :: hs)) : W P n B F Q c env hs := fun a w e o => h a w e o.pad
theorem WL.say {ops : Array Oper} {rest : List Oper} {d : Nat} {v v' : Value} (hl : lk env d = some v) (hv : v = v') (h : WL P n B F ops Q rest ((d, some v') :: env) hs) : WL P n B F ops Q rest env hs :=
  fun a w e o => h a w (e.mono fun t u hu => by
    rw [lk_put] at hu
    by_cases hk : d = t
    · rw [if_pos hk] at hu; injection hu with hu; subst hu; subst hk; subst hv; exact hl
    · rw [if_neg hk] at hu; exact hu) o
theorem wp_loop_ghost {σ : Type} (I : σ → Act → World → Prop) (μ : σ → Nat) {c : Code} {a : Act} {w : World} (s0 : σ) (h₀ : I s0 a w)
    (round : ∀ s a w, I s a w → c.wp P (Exit.then (fun a' w' => ∃ s', I s' a' w' ∧ μ s' < μ s) Q) a w) : (Code.loop c).wp P Q a w := by
  intro b k cs
  have key : ∀ m s a w, μ s = m → I s a w → ∃ e a' w', Q e a' w' ∧ Arrives P (lone (b.at a (.code c :: .inLoop c :: k)) cs w) b k cs e a' w' := by
    intro m
    induction m using Nat.strongRecOn with
    | _ m ih =>
      intro s a w hn hI
      obtain ⟨e, a₁, w₁, hq, harr⟩ := round s a w hI b (.inLoop c :: k) cs
      cases e with
      | normal =>
        obtain ⟨s', hI₁, hlt⟩ := hq
        obtain ⟨e₂, a₂, w₂, hq₂, harr₂⟩ := ih (μ s') (hn ▸ hlt) s' a₁ w₁ rfl hI₁
        exact ⟨e₂, a₂, w₂, hq₂, .of_steps (Steps.trans harr (.one step_inLoop)) harr₂⟩
      | exit id => exact ⟨_, a₁, w₁, hq, .pass (x := .inLoop c) rfl (fun _ _ => .inl (by simp)) harr⟩
      | goto l => exact ⟨_, a₁, w₁, hq, .pass (x := .inLoop c) rfl (fun _ _ => .inl (by simp)) harr⟩
      | ret => exact ⟨_, a₁, w₁, hq, .pass (x := .inLoop c) rfl (fun _ _ => .inl (by simp)) harr⟩
      | panic ch => exact ⟨_, a₁, w₁, hq, .pass (x := .inLoop c) rfl (fun _ _ => .inl (by simp)) harr⟩
      | outgrown => exact ⟨_, a₁, w₁, hq, .pass (x := .inLoop c) rfl (fun _ _ => .inl (by simp)) harr⟩
  obtain ⟨e, a', w', hq, harr⟩ := key _ s0 a w rfl h₀
  exact ⟨e, a', w', hq, .of_steps (.one step_loop) harr⟩
structure Inv (σ : Type) where
  ok : σ → Prop
  env : σ → Env
  hs : σ → List Hp
  left : σ → Nat
def Inv.at {σ : Type} (I : Inv σ) (n : Nat) (B : World) (F : Hp) (s : σ) (a : Act) (w : World) : Prop := I.ok s ∧ E n (I.env s) a ∧ Own B F (I.hs s) w
def Inv.again {σ : Type} (I : Inv σ) (n : Nat) (B : World) (F : Hp) (s : σ) (a : Act) (w : World) : Prop := ∃ s', I.at n B F s' a w ∧ I.left s' < I.left s
theorem W.loop {σ : Type} {c : Code} (I : Inv σ) (s0 : σ) (h0 : I.ok s0) (he : subE (I.env s0) env) (hk : Keep hs (I.hs s0))
    (round : ∀ s, I.ok s → W P n B F (Exit.then (I.again n B F s) Q) c (I.env s) (I.hs s)) : W P n B F Q (.loop c) env hs :=
  fun a w e o => wp_loop_ghost (fun s => I.at n B F s) I.left s0 ⟨h0, e.mono he.spec, hk.own o⟩ fun s a w ⟨h1, h2, h3⟩ => round s h1 a w h2 h3
theorem X.again {σ : Type} {I : Inv σ} {s : σ} (s' : σ) (h0 : I.ok s') (hlt : I.left s' < I.left s) (he : subE (I.env s') env) (hk : Keep hs (I.hs s')) :
    X n B F (Exit.then (I.again n B F s) Q) .normal env hs := fun a w e o => ⟨s', ⟨h0, e.mono he.spec, hk.own o⟩, hlt⟩
structure Again {σ : Type} (I : Inv σ) (n : Nat) (B : World) (F : Hp) (s : σ) (Q Q' : Post) : Prop where
  nx : ∀ s' env hs, I.ok s' → I.left s' < I.left s → subE (I.env s') env → Keep hs (I.hs s') → X n B F Q' .normal env hs
  rt : ∀ env hs, X n B F Q .ret env hs → X n B F Q' .ret env hs
  ex : ∀ id env hs, X n B F Q (.exit id) env hs → X n B F Q' (.exit id) env hs
  np : NP Q → NP Q'
theorem W.loopK {σ : Type} {c : Code} (I : Inv σ) (s0 : σ) (h0 : I.ok s0) (he : subE (I.env s0) env) (hk : Keep hs (I.hs s0))
    (round : ∀ s, I.ok s → ∀ Q', Again I n B F s Q Q' → W P n B F Q' c (I.env s) (I.hs s)) : W P n B F Q (.loop c) env hs :=
  W.loop I s0 h0 he hk fun s h => round s h _ ⟨fun s' _ _ h0 hl he hk => X.again s' h0 hl he hk, fun _ _ k => k, fun _ _ _ k => k, fun k => k⟩
structure Met {σ : Type} (I : Inv σ) (n : Nat) (B : World) (F : Hp) (Q Q' : Post) : Prop where
  nx : ∀ s env hs, I.ok s → subE (I.env s) env → Keep hs (I.hs s) → X n B F Q' .normal env hs
  rt : ∀ env hs, X n B F Q .ret env hs → X n B F Q' .ret env hs
  ex : ∀ id env hs, X n B F Q (.exit id) env hs → X n B F Q' (.exit id) env hs
  np : NP Q → NP Q'
theorem W.cut {σ : Type} {c d : Code} (I : Inv σ) (h : W P n B F (Exit.then (fun a w => ∃ s, I.at n B F s a w) Q) c env hs)
    (k : ∀ s, I.ok s → W P n B F Q d (I.env s) (I.hs s)) : W P n B F Q (.seq c d) env hs :=
  fun a w e o => wp_seq (Code.wp_mono (fun x a w q => by
    cases x with
    | normal => obtain ⟨s, h1, h2, h3⟩ := q; exact k s h1 a w h2 h3
    | _ => exact q) (h a w e o))
theorem W.cutK {σ : Type} {c d : Code} (I : Inv σ) (h : ∀ Q', Met I n B F Q Q' → W P n B F Q' c env hs)
    (k : ∀ s, I.ok s → W P n B F Q d (I.env s) (I.hs s)) : W P n B F Q (.seq c d) env hs :=
  W.cut I (h _ ⟨fun s _ _ h0 he hk a w e o => ⟨s, h0, e.mono he.spec, hk.own o⟩, fun _ _ k => k, fun _ _ _ k => k, fun k => k⟩) k
def WO (P : Program) (n : Nat) (B : World) (F : Hp) (op : Op) (ty : TypeId) (env : Env) (hs : List Hp) (K : Value → List Hp → Prop) : Prop :=
  ∀ o : Oper, o.op = op → o.type = ty → ∀ a w, E n env a → Own B F hs w → ∀ next Q, (∀ v hs' w', K v hs' → Own B F hs' w' → next (a.put o.dst v) w') → o.wp P a w next Q
def Rn (P : Program) (F : Hp) (hs : List Hp) (op : Op) (ty : TypeId) (env : Env) (v : Value) : Prop :=
  ∀ o : Oper, o.op = op → o.type = ty → ∀ n B a w, E n env a → Own B F hs w → (execOp a.eval o).run P w = .ok (.value v) w
theorem Rn.wo {op : Op} {ty : TypeId} {v : Value} {K : Value → List Hp → Prop} (h : Rn P F hs op ty env v) (k : K v hs) : WO P n B F op ty env hs K :=
  fun o h1 h2 a w he ho next Q hn => by
    unfold Oper.wp
    rw [h o h1 h2 n B a w he ho]
    exact hn v hs w k ho
theorem WO.mono {op : Op} {ty : TypeId} {K K' : Value → List Hp → Prop} (h : WO P n B F op ty env hs K) (k : ∀ v hs', K v hs' → K' v hs') : WO P n B F op ty env hs K' :=
  fun o h1 h2 a w he ho next Q hn => h o h1 h2 a w he ho next Q fun v hs' w' q => hn v hs' w' (k v hs' q)
variable {ops : Array Oper} {rest : List Oper} {d : Nat} {op : Op} {ty : TypeId} {pos : String} {aft : Array Edge}
theorem WL.ex (hd : Nat.blt d n = true) (h : WO P n B F op ty env hs fun v hs' => WL P n B F ops Q rest ((d, some v) :: env) hs') : WL P n B F ops Q (⟨some d, op, ty, pos, aft, none⟩ :: rest) env hs :=
  fun a w he ho => wpList_plain rfl fun K hK => h _ rfl rfl a w he ho K Q fun v hs' w' k o' => hK _ _ (k _ w' (he.put hd v) o')
theorem WL.ex0 (h : WO P n B F op ty env hs fun v hs' => WL P n B F ops Q rest env hs') : WL P n B F ops Q (⟨none, op, ty, pos, aft, none⟩ :: rest) env hs :=
  fun a w he ho => wpList_plain rfl fun K hK => h _ rfl rfl a w he ho K Q fun v hs' w' k o' => hK _ _ (k _ w' he o')
theorem WL.rd {v : Value} (hd : Nat.blt d n = true) (h : Rn P F hs op ty env v) (k : WL P n B F ops Q rest ((d, some v) :: env) hs) : WL P n B F ops Q (⟨some d, op, ty, pos, aft, none⟩ :: rest) env hs :=
  WL.ex hd (h.wo k)
theorem E.yield {a : Act} {j t : Nat} {v : Value} (he : E n env a) (hj : ((ops[j]?).bind (·.dst)) = some t) (hv : lk env t = some v) (hn : ∀ b, v = .bool b → True) :
    yielded ops a.tmps j = match v with | .bool b => some b | _ => none := by
  have := he.val t v hv
  unfold yielded
  rw [hj]
  simp only [Option.bind_some]
  rw [Array.getD_eq_getD_getElem?] at this
  cases hg : a.tmps[t]? with
  | none =>
    rw [hg] at this
    simp only [Option.getD_none] at this
    subst this
    rfl
  | some u =>
    rw [hg] at this
    simp only [Option.getD_some] at this
    subst this
    cases u <;> rfl
theorem WL.yes {dst : Option Tmp} {j t : Nat} {b : Bool} (hj : ((ops[j]?).bind (·.dst)) = some t) (hv : lk env t = some (.bool b))
    (h : WL P n B F ops Q (⟨dst, op, ty, pos, aft, none⟩ :: rest) env hs) : WL P n B F ops Q (⟨dst, op, ty, pos, aft, some (j, b)⟩ :: rest) env hs := fun a w he ho => by
  have h1 := h a w he ho
  have hy := he.yield hj hv (fun _ _ => trivial)
  simp only at hy
  have hw : Region.wanted (⟨dst, op, ty, pos, aft, some (j, b)⟩ : Oper) (yielded ops a.tmps) = true := by simp [Region.wanted, hy]
  unfold wpList at h1 ⊢
  rw [if_pos hw]
  rw [if_pos (by simp [Region.wanted])] at h1
  exact h1
theorem WL.no {o : Oper} {j t : Nat} {b c : Bool} (ho : o.guard = some (j, b)) (hdst : o.dst = some d) (hd : Nat.blt d n = true) (hj : ((ops[j]?).bind (·.dst)) = some t) (hv : lk env t = some (.bool c)) (hc : (c == b) = false)
    (h : WL P n B F ops Q rest ((d, some undef) :: env) hs) : WL P n B F ops Q (o :: rest) env hs := fun a w he hw => by
  have hy := he.yield hj hv (fun _ _ => trivial)
  simp only at hy
  have hn : Region.wanted o (yielded ops a.tmps) = false := by simp [Region.wanted, ho, hy]; simpa using hc
  unfold wpList
  rw [hn]
  simp only [Bool.false_eq_true, if_false, hdst]
  exact h _ w (he.put hd undef) hw
theorem WL.noU {o : Oper} {j t : Nat} {b : Bool} (ho : o.guard = some (j, b)) (hdst : o.dst = some d) (hd : Nat.blt d n = true) (hj : ((ops[j]?).bind (·.dst)) = some t) (hv : lk env t = some undef)
    (h : WL P n B F ops Q rest ((d, some undef) :: env) hs) : WL P n B F ops Q (o :: rest) env hs := fun a w he hw => by
  have hy := he.yield hj hv (fun _ _ => trivial)
  have hn : Region.wanted o (yielded ops a.tmps) = false := by simp [Region.wanted, ho, hy, undef]
  unfold wpList
  rw [hn]
  simp only [Bool.false_eq_true, if_false, hdst]
  exact h _ w (he.put hd undef) hw
theorem WL.noU0 {o : Oper} {j t : Nat} {b : Bool} (ho : o.guard = some (j, b)) (hdst : o.dst = none) (hj : ((ops[j]?).bind (·.dst)) = some t) (hv : lk env t = some undef)
    (h : WL P n B F ops Q rest env hs) : WL P n B F ops Q (o :: rest) env hs := fun a w he hw => by
  have hy := he.yield hj hv (fun _ _ => trivial)
  have hn : Region.wanted o (yielded ops a.tmps) = false := by simp [Region.wanted, ho, hy, undef]
  unfold wpList
  rw [hn]
  simp only [Bool.false_eq_true, if_false, hdst]
  exact h _ w he hw
theorem WL.bare {d : Nat} {v : Value} (h : WL P n B F ops Q rest ((d, none) :: env) hs) : WL P n B F ops Q rest ((d, some v) :: env) hs := fun a w he hw => h a w he.hide hw
theorem WL.no0 {o : Oper} {j t : Nat} {b c : Bool} (ho : o.guard = some (j, b)) (hdst : o.dst = none) (hj : ((ops[j]?).bind (·.dst)) = some t) (hv : lk env t = some (.bool c)) (hc : (c == b) = false)
    (h : WL P n B F ops Q rest env hs) : WL P n B F ops Q (o :: rest) env hs := fun a w he hw => by
  have hy := he.yield hj hv (fun _ _ => trivial)
  simp only at hy
  have hn : Region.wanted o (yielded ops a.tmps) = false := by simp [Region.wanted, ho, hy]; simpa using hc
  unfold wpList
  rw [hn]
  simp only [Bool.false_eq_true, if_false, hdst]
  exact h _ w he hw
theorem WL.guard {op : Op} {ty : TypeId} {pos : String} {aft : Array Edge} {j t : Nat} {b c : Bool} (hd : Nat.blt d n = true) (hj : ((ops[j]?).bind (·.dst)) = some t) (hv : lk env t = some (.bool c))
    (h1 : c = b → WL P n B F ops Q (⟨some d, op, ty, pos, aft, none⟩ :: rest) ((t, some (.bool b)) :: env) hs) (h2 : c = (!b) → WL P n B F ops Q rest ((d, some undef) :: (t, some (.bool (!b))) :: env) hs) : WL P n B F ops Q (⟨some d, op, ty, pos, aft, some (j, b)⟩ :: rest) env hs := by
  by_cases hc : c = b
  · subst hc
    exact WL.say hv rfl (WL.yes (b := c) hj (by simp [lk]) (h1 rfl))
  · have hc' : c = (!b) := by cases b <;> cases c <;> simp_all
    subst hc'
    exact WL.say hv rfl (WL.no (b := b) (c := !b) rfl rfl hd hj (by simp [lk]) (by cases b <;> rfl) (h2 rfl))
def WG (P : Program) (n : Nat) (B : World) (F : Hp) (ops : Array Oper) (Q : Post) (rest : List Oper) (t : Nat) (b w : Bool) (env1 env0 : Env) (hs : List Hp) : Prop :=
  (∀ k v, lk env0 k = some v → lk env1 k = some v) → (b = w → WL P n B F ops Q rest env1 hs) ∧ (b = (!w) → WL P n B F ops Q rest env0 hs)
theorem WG.start {op : Op} {ty : TypeId} {pos : String} {aft : Array Edge} {dst : Option Tmp} {j t : Nat} {b w : Bool} (hj : ((ops[j]?).bind (·.dst)) = some t) (hv : lk env t = some (.bool b))
    (h : WG P n B F ops Q (⟨dst, op, ty, pos, aft, some (j, w)⟩ :: rest) t b w env env hs) : WL P n B F ops Q (⟨dst, op, ty, pos, aft, some (j, w)⟩ :: rest) env hs := by
  obtain ⟨h1, h2⟩ := h fun _ _ e => e
  by_cases hb : b = w
  · exact h1 hb
  · exact h2 (by cases b <;> cases w <;> simp_all)
theorem WG.ex {op : Op} {ty : TypeId} {pos : String} {aft : Array Edge} {j t : Nat} {b w : Bool} {env1 env0 : Env} {v : Value} (hd : Nat.blt d n = true) (hj : ((ops[j]?).bind (·.dst)) = some t) (hv : lk env0 t = some (.bool b))
    (hr : b = w → Rn P F hs op ty env1 v) (h : WG P n B F ops Q rest t b w ((d, some v) :: env1) ((d, none) :: env0) hs) : WG P n B F ops Q (⟨some d, op, ty, pos, aft, some (j, w)⟩ :: rest) t b w env1 env0 hs := fun hle => by
  obtain ⟨h1, h2⟩ := h fun k u e => by
    rw [lk_put] at e ⊢
    by_cases hk : d = k
    · rw [if_pos hk] at e; cases e
    · rw [if_neg hk] at e ⊢; exact hle k u e
  refine ⟨fun hb => ?_, fun hb => ?_⟩
  · subst hb
    exact WL.yes (b := b) hj (hle _ _ hv) (WL.rd hd (hr rfl) (h1 rfl))
  · exact WL.no (b := w) (c := b) rfl rfl hd hj hv (by subst hb; cases w <;> rfl) (h2 hb).bare
theorem WG.or {ty : TypeId} {pos : String} {aft : Array Edge} {t : Nat} {b c : Bool} {y : Operand} {env1 env0 : Env} (hd : Nat.blt d n = true) (hv : lk env0 t = some (.bool b)) (hy : ev env1 y = some (.bool c))
    (k : WL P n B F ops Q rest ((d, some (.bool (b || c))) :: env0) hs) : WG P n B F ops Q (⟨some d, .pick (.tmp t) (.const (.bool true)) y, ty, pos, aft, none⟩ :: rest) t b false env1 env0 hs := fun hle => by
  refine ⟨fun hb => ?_, fun hb => ?_⟩
  · subst hb
    refine WL.rd (v := .bool c) hd (fun o h1 h2 n B a w he ho => by unfold execOp; simp only [h1, he.ev (x := .tmp t) (hle _ _ hv), he.ev hy]; rfl) fun a w he ho => k a w (he.mono fun q u e => ?_) ho
    rw [lk_put] at e ⊢
    by_cases hk : d = q
    · rw [if_pos hk] at e ⊢; simpa using e
    · rw [if_neg hk] at e ⊢; exact hle q u e
  · subst hb
    exact WL.rd (v := .bool (true || c)) hd (fun o h1 h2 n B a w he ho => by unfold execOp; simp only [h1, he.ev (x := .tmp t) hv]; rfl) k
theorem WG.and {ty : TypeId} {pos : String} {aft : Array Edge} {t : Nat} {b c : Bool} {y : Operand} {env1 env0 : Env} (hd : Nat.blt d n = true) (hv : lk env0 t = some (.bool b)) (hy : ev env1 y = some (.bool c))
    (k : WL P n B F ops Q rest ((d, some (.bool (b && c))) :: env0) hs) : WG P n B F ops Q (⟨some d, .pick (.tmp t) y (.const (.bool false)), ty, pos, aft, none⟩ :: rest) t b true env1 env0 hs := fun hle => by
  refine ⟨fun hb => ?_, fun hb => ?_⟩
  · subst hb
    refine WL.rd (v := .bool c) hd (fun o h1 h2 n B a w he ho => by unfold execOp; simp only [h1, he.ev (x := .tmp t) (hle _ _ hv), he.ev hy]; rfl) fun a w he ho => k a w (he.mono fun q u e => ?_) ho
    rw [lk_put] at e ⊢
    by_cases hk : d = q
    · rw [if_pos hk] at e ⊢; simpa using e
    · rw [if_neg hk] at e ⊢; exact hle q u e
  · subst hb
    exact WL.rd (v := .bool (false && c)) hd (fun o h1 h2 n B a w he ho => by unfold execOp; simp only [h1, he.ev (x := .tmp t) hv]; rfl) k
def wpAnyS (P : Program) (ops : Array Oper) (Q : Post) (S0 : World → Prop) (Ss : List ((World → Prop) × List Nat)) : Nat → Array Bool → Act → World → Prop
  | 0, listed, a, w => Region.ready .any ops listed = [] ∧ Q .normal a w
  | fuel + 1, listed, a, w => (Region.ready .any ops listed = [] → Q .normal a w) ∧
    ∀ i ∈ Region.ready .any ops listed, wpOp P ops Q i (fun a' w' => (S0 w' ∧ ∀ p ∈ Ss, p.2.contains i = false → p.1 w → p.1 w') ∧ wpAnyS P ops Q S0 Ss fuel (listed.setIfInBounds i true) a' w') a w
theorem wpAny_of_S {S0 : World → Prop} {Ss : List ((World → Prop) × List Nat)} : ∀ (fuel : Nat) (listed : Array Bool) (a : Act) (w : World), wpAnyS P ops Q S0 Ss fuel listed a w → wpAny P .any ops Q fuel listed a w
  | 0, _, _, _, h => h
  | fuel + 1, _, _, _, h => ⟨h.1, fun i hi => wpOp_mono (fun a' w' h' => wpAny_of_S fuel _ a' w' h'.2) (h.2 i hi)⟩
theorem wpAnyS_first {S0 Z : World → Prop} {Ss : List ((World → Prop) × List Nat)} {i : Nat} {oi : Oper} {v : Value} (hi : ops[i]? = some oi) (hsel : ∀ (j : Nat) (o : Oper) cs b, ops[j]? = some o → o.op ≠ .select cs b)
    (hQ : NP Q) (hZ : ∀ j oj w w', ops[j]? = some oj → (∀ e ∈ oj.after, Region.binds .any e = true → e.on ≠ i) → Z w → S0 w' → (∀ p ∈ Ss, p.2.contains j = false → p.1 w → p.1 w') → Z w') :
    ∀ (fuel : Nat) (listed : Array Bool) (a : Act) (w : World),
      (∀ j oj, ops[j]? = some oj → j ≠ i → listed.getD j true = false → (∀ e ∈ oj.after, Region.binds .any e = true → e.on ≠ i) → oi.apart ops oj = true) →
      i ∈ Region.ready .any ops listed → YieldsIf P ops Z oi v a → Z w → S0 w →
      wpAnyS P ops Q S0 Ss fuel (listed.setIfInBounds i true) (a.put oi.dst v) w → wpAnyS P ops Q S0 Ss (fuel + 1) listed a w := by
  intro fuel
  induction fuel with
  | zero =>
    intro listed a w _ hr hy hS hS0 H
    refine ⟨fun h => (by rw [h] at hr; cases hr), fun j hj => ?_⟩
    by_cases hji : j = i
    · subst hji; exact hy.wpOp hi hS ⟨⟨hS0, fun _ _ _ h => h⟩, H⟩
    · have := ready_mono hj hji
      rw [H.1] at this
      cases this
  | succ fuel ih =>
    intro listed a w hfree hr hy hS hS0 H
    refine ⟨fun h => (by rw [h] at hr; cases hr), fun j hj => ?_⟩
    by_cases hji : j = i
    · subst hji; exact hy.wpOp hi hS ⟨⟨hS0, fun _ _ _ h => h⟩, H⟩
    · have h1 := H.2 j (ready_mono hj hji)
      obtain ⟨hjun, oj, hoj, hall⟩ := mem_ready.1 hj
      have hnot : ∀ e ∈ oj.after, Region.binds .any e = true → e.on ≠ i := fun e he hb heq => by
        have h1 := hall e he hb
        have h0 := (mem_ready.1 hr).1
        rw [heq] at h1
        rcases Nat.lt_or_ge i listed.size with h' | h'
        · simp [h'] at h0 h1; rw [h0] at h1; cases h1
        · simp [Array.getElem?_eq_none h'] at h1
      have h2 := wpOp_putIf hoj (hfree j oj hoj hji hjun hnot) (fun cs b => hsel i oi cs b hi) (fun cs b => hsel j oj cs b hoj) (fun c a w q => absurd q (hQ c _ _)) hy h1
      have hfree' : ∀ k ok, ops[k]? = some ok → k ≠ i → (listed.setIfInBounds j true).getD k true = false →
          (∀ e ∈ ok.after, Region.binds .any e = true → e.on ≠ i) → oi.apart ops ok = true := fun k ok hk hki hun hno => by
        refine hfree k ok hk hki ?_ hno
        by_cases hjk : j = k
        · subst hjk; exact hjun
        · rw [getD_set_ne true hjk] at hun; exact hun
      refine wpOp_mono (fun a' w' h3 => ⟨h3.2.1, ih (listed.setIfInBounds j true) a' w' hfree' (ready_mono hr (Ne.symm hji)) h3.1 (hZ j oj w w' hoj hnot hS h3.2.1.1 h3.2.1.2) h3.2.1.1 ?_⟩) h2
      rw [Array.setIfInBounds_comm _ _ hji]
      exact h3.2.2
abbrev Pins := List (Hp × List Nat)
def Pins.held (ps : Pins) (B : World) (F : Hp) : List ((World → Prop) × List Nat) := ps.map fun p => (Own B F [p.1], p.2)
def WA (P : Program) (n : Nat) (B : World) (F : Hp) (ops : Array Oper) (Q : Post) (pins : Pins) (fuel : Nat) (listed : Array Bool) (env : Env) (hs : List Hp) : Prop :=
  NP Q → ∀ a w, E n env a → Own B F hs w → wpAnyS P ops Q (Own B F []) (pins.held B F) fuel listed a w
def bts (n m : Nat) : Array Bool := (Array.range n).map fun i => m.testBit i
inductive Pin (env : Env) (hs : List Hp) : List (Nat × List Nat) → Pins → Prop where
  | nil : Pin env hs [] []
  | cons {s b o : Nat} {ob : Obj} {tl : List Nat} {l : List (Nat × List Nat)} {ps : Pins} {r : List Hp} : lk env s = some (.pointer (some ⟨b, o, none⟩)) → Take hs (one b ob) r → Pin env hs l ps → Pin env hs ((s, tl) :: l) ((one b ob, tl) :: ps)
theorem W.draw {id : Nat} {m : Nat} {ps : Pins} (slots : List (Nat × List Nat)) (more : Pins) (hm : P.follows .mixedOrders = true) (hz : ops.size = m) (hl : (Array.replicate m false == bts m 0) = true) (hq : NP Q) (hp : Pin env hs slots ps)
    (h : WA P n B F ops Q (ps ++ more) m (bts m 0) env hs) : W P n B F Q (.region id ops true) env hs :=
  fun a w he ho => wp_region_any hm (by rw [hz, eq_of_beq hl]; exact wpAny_of_S _ _ _ _ (h hq a _ he ho.drew))
theorem WA.done {pins : Pins} {listed : Array Bool} (hr : Region.ready .any ops listed = []) (h : X n B F Q .normal env hs) : ∀ {fuel : Nat}, WA P n B F ops Q pins fuel listed env hs
  | 0 => fun _ a w he ho => ⟨hr, h a w he ho⟩
  | _ + 1 => fun _ a w he ho => ⟨fun _ => h a w he ho, by rw [hr]; simp⟩
def tkOk (ops : Array Oper) (listed ls : Array Bool) (i : Nat) : Bool := Region.noSelect ops && Region.free .any ops listed i && (Region.ready .any ops listed).contains i && (listed.setIfInBounds i true == ls)
theorem tkOk_spec {listed ls : Array Bool} {i : Nat} (h : tkOk ops listed ls i = true) : Region.noSelect ops = true ∧ Region.free .any ops listed i = true ∧ (Region.ready .any ops listed).contains i = true ∧ listed.setIfInBounds i true = ls := by
  unfold tkOk at h
  simp only [Bool.and_eq_true] at h
  exact ⟨h.1.1.1, h.1.1.2, h.1.2, eq_of_beq h.2⟩
def waits (ops : Array Oper) (tl : List Nat) (i : Nat) : Bool := tl.all fun j => match ops[j]? with
  | some o => o.after.any fun e => Region.binds .any e && e.on == i
  | none => true
theorem waits_spec {tl : List Nat} {i : Nat} (h : waits ops tl i = true) (j : Nat) (oj : Oper) (hj : ops[j]? = some oj) (hn : ∀ e ∈ oj.after, Region.binds .any e = true → e.on ≠ i) : tl.contains j = false := by
  cases hc : tl.contains j with
  | false => rfl
  | true =>
    have := List.all_eq_true.1 h j (by simpa using hc)
    rw [hj] at this
    simp only [Array.any_eq_true] at this
    obtain ⟨k, hk, he⟩ := this
    simp only [Bool.and_eq_true, beq_iff_eq] at he
    exact absurd he.2 (hn _ (Array.getElem_mem hk) he.1)
section
variable {pins : Pins} {fuel i j t k : Nat} {b c : Bool} {h0 : Hp} {tl : List Nat} {listed ls : Array Bool} {op : Op} {ty : TypeId} {pos : String} {aft : Array Edge} {v : Value}
theorem WA.tp (hi : ops[i]? = some ⟨some d, op, ty, pos, aft, none⟩) (hd : Nat.blt d n = true) (hc : tkOk ops listed ls i = true)
    (hy : Rn P F [] op ty env v) (h : WA P n B F ops Q pins fuel ls ((d, some v) :: env) hs) : WA P n B F ops Q pins (fuel + 1) listed env hs :=
  fun hQ a w he ho => by
    obtain ⟨hs1, hf, hr, hl⟩ := tkOk_spec hc
    exact wpAnyS_first (Z := Own B F []) hi (Region.noSelect_spec hs1) hQ (fun _ _ _ _ _ _ _ h0 _ => h0) fuel listed a w (Region.free_spec hi hf) (by simpa using hr) (.inl ⟨by simp [Region.wanted], fun w hS => hy _ rfl rfl n B a w he hS⟩) ho.sub ho.sub
      (by rw [hl]; exact h hQ _ w (he.put hd v) ho)
theorem WA.tpY (hi : ops[i]? = some ⟨some d, op, ty, pos, aft, some (j, b)⟩) (hd : Nat.blt d n = true) (hj : ((ops[j]?).bind (·.dst)) = some t) (hv : lk env t = some (.bool b)) (hc : tkOk ops listed ls i = true)
    (hy : Rn P F [] op ty env v) (h : WA P n B F ops Q pins fuel ls ((d, some v) :: env) hs) : WA P n B F ops Q pins (fuel + 1) listed env hs :=
  fun hQ a w he ho => by
    obtain ⟨hs1, hf, hr, hl⟩ := tkOk_spec hc
    exact wpAnyS_first (Z := Own B F []) hi (Region.noSelect_spec hs1) hQ (fun _ _ _ _ _ _ _ h0 _ => h0) fuel listed a w (Region.free_spec hi hf) (by simpa using hr) (.inl ⟨by have := he.yield hj hv (fun _ _ => trivial); simp only at this; simp [Region.wanted, this], fun w hS => hy _ rfl rfl n B a w he hS⟩) ho.sub ho.sub
      (by rw [hl]; exact h hQ _ w (he.put hd v) ho)
theorem WA.ld (hi : ops[i]? = some ⟨some d, op, ty, pos, aft, none⟩) (hd : Nat.blt d n = true) (hc : tkOk ops listed ls i = true) (hp : pins[k]? = some (h0, tl)) (hw : waits ops tl i = true) (hk : Keep hs [h0])
    (hy : Rn P F [h0] op ty env v) (h : WA P n B F ops Q pins fuel ls ((d, some v) :: env) hs) : WA P n B F ops Q pins (fuel + 1) listed env hs :=
  fun hQ a w he ho => by
    obtain ⟨hs1, hf, hr, hl⟩ := tkOk_spec hc
    exact wpAnyS_first (Z := Own B F [h0]) hi (Region.noSelect_spec hs1) hQ (fun j oj w w' hj hn hz _ hs => hs (Own B F [h0], tl) (List.mem_map.2 ⟨(h0, tl), List.mem_of_getElem? hp, rfl⟩) (waits_spec hw j oj hj hn) hz) fuel listed a w (Region.free_spec hi hf) (by simpa using hr) (.inl ⟨by simp [Region.wanted], fun w hS => hy _ rfl rfl n B a w he hS⟩) (hk.own ho) ho.sub
      (by rw [hl]; exact h hQ _ w (he.put hd v) ho)
theorem WA.ldY (hi : ops[i]? = some ⟨some d, op, ty, pos, aft, some (j, b)⟩) (hd : Nat.blt d n = true) (hj : ((ops[j]?).bind (·.dst)) = some t) (hv : lk env t = some (.bool b)) (hc : tkOk ops listed ls i = true) (hp : pins[k]? = some (h0, tl)) (hw : waits ops tl i = true) (hk : Keep hs [h0])
    (hy : Rn P F [h0] op ty env v) (h : WA P n B F ops Q pins fuel ls ((d, some v) :: env) hs) : WA P n B F ops Q pins (fuel + 1) listed env hs :=
  fun hQ a w he ho => by
    obtain ⟨hs1, hf, hr, hl⟩ := tkOk_spec hc
    exact wpAnyS_first (Z := Own B F [h0]) hi (Region.noSelect_spec hs1) hQ (fun j oj w w' hj hn hz _ hs => hs (Own B F [h0], tl) (List.mem_map.2 ⟨(h0, tl), List.mem_of_getElem? hp, rfl⟩) (waits_spec hw j oj hj hn) hz) fuel listed a w (Region.free_spec hi hf) (by simpa using hr) (.inl ⟨by have := he.yield hj hv (fun _ _ => trivial); simp only at this; simp [Region.wanted, this], fun w hS => hy _ rfl rfl n B a w he hS⟩) (hk.own ho) ho.sub
      (by rw [hl]; exact h hQ _ w (he.put hd v) ho)
theorem WA.tn (hi : ops[i]? = some ⟨some d, op, ty, pos, aft, some (j, b)⟩) (hd : Nat.blt d n = true) (hj : ((ops[j]?).bind (·.dst)) = some t) (hv : lk env t = some (.bool c)) (hcb : (c == b) = false) (hc : tkOk ops listed ls i = true)
    (h : WA P n B F ops Q pins fuel ls ((d, some undef) :: env) hs) : WA P n B F ops Q pins (fuel + 1) listed env hs :=
  fun hQ a w he ho => by
    obtain ⟨hs1, hf, hr, hl⟩ := tkOk_spec hc
    exact wpAnyS_first (Z := Own B F []) (v := undef) hi (Region.noSelect_spec hs1) hQ (fun _ _ _ _ _ _ _ h0 _ => h0) fuel listed a w (Region.free_spec hi hf) (by simpa using hr) (.inr ⟨by have := he.yield hj hv (fun _ _ => trivial); simp only at this; simp [Region.wanted, this]; simpa using hcb, rfl⟩) ho.sub ho.sub
      (by rw [hl]; exact h hQ _ w (he.put hd undef) ho)
end
def PinsOk (hs : List Hp) (i : Nat) : Pins → Prop
  | [] => True
  | (h, tl) :: r => (tl.contains i = true ∨ Keep hs [h]) ∧ PinsOk hs i r
theorem PinsOk.held {i : Nat} : ∀ {pins : Pins}, PinsOk hs i pins → ∀ {w' : World}, Own B F hs w' → ∀ p ∈ pins.held B F, p.2.contains i = false → p.1 w'
  | [], _, _, _, p, hp, _ => by cases hp
  | (h, tl) :: r, ⟨h1, h2⟩, w', ho, p, hp, hc => by
    rcases List.mem_cons.1 hp with rfl | hp
    · rcases h1 with h1 | h1
      · simp only at hc; rw [h1] at hc; cases hc
      · exact h1.own ho
    · exact PinsOk.held h2 ho p hp hc
def WB (P : Program) (n : Nat) (B : World) (F : Hp) (ops : Array Oper) (Q : Post) (pins : Pins) (fuel : Nat) (listed : Array Bool) (env : Env) (hs : List Hp) (i : Nat) : Prop :=
  NP Q → ∀ a w, E n env a → Own B F hs w → wpOp P ops Q i (fun a' w' => (Own B F [] w' ∧ ∀ p ∈ pins.held B F, p.2.contains i = false → p.1 w → p.1 w') ∧ wpAnyS P ops Q (Own B F []) (pins.held B F) fuel (listed.setIfInBounds i true) a' w') a w
theorem WA.all {pins : Pins} {fuel : Nat} {listed : Array Bool} {rs : List Nat} (hr : Region.ready .any ops listed = rs) (hne : rs ≠ []) (h : ∀ i ∈ rs, WB P n B F ops Q pins fuel listed env hs i) : WA P n B F ops Q pins (fuel + 1) listed env hs :=
  fun hQ a w he ho => ⟨fun h0 => absurd (hr ▸ h0) hne, fun i hi => h i (hr ▸ hi) hQ a w he ho⟩
theorem WA.one {pins : Pins} {fuel i : Nat} {listed : Array Bool} (hr : Region.ready .any ops listed = [i]) (h : WB P n B F ops Q pins fuel listed env hs i) : WA P n B F ops Q pins (fuel + 1) listed env hs :=
  WA.all hr (by simp) fun j hj => by simp at hj; subst hj; exact h
theorem WA.two {pins : Pins} {fuel i j : Nat} {listed : Array Bool} (hr : Region.ready .any ops listed = [i, j]) (h : WB P n B F ops Q pins fuel listed env hs i) (h' : WB P n B F ops Q pins fuel listed env hs j) : WA P n B F ops Q pins (fuel + 1) listed env hs :=
  WA.all hr (by simp) fun k hk => by
    simp at hk
    rcases hk with hk | hk <;> subst hk <;> assumption
theorem WA.three {pins : Pins} {fuel i j k : Nat} {listed : Array Bool} (hr : Region.ready .any ops listed = [i, j, k]) (h : WB P n B F ops Q pins fuel listed env hs i) (h' : WB P n B F ops Q pins fuel listed env hs j) (h'' : WB P n B F ops Q pins fuel listed env hs k) : WA P n B F ops Q pins (fuel + 1) listed env hs :=
  WA.all hr (by simp) fun l hl => by
    simp at hl
    rcases hl with hl | hl | hl <;> subst hl <;> assumption
theorem WB.ex {pins : Pins} {fuel i : Nat} {listed ls : Array Bool} {op : Op} {ty : TypeId} {pos : String} {aft : Array Edge} (hi : ops[i]? = some ⟨some d, op, ty, pos, aft, none⟩) (hd : Nat.blt d n = true) (hl : (listed.setIfInBounds i true == ls) = true)
    (h : WO P n B F op ty env hs fun v hs' => PinsOk hs' i pins ∧ WA P n B F ops Q pins fuel ls ((d, some v) :: env) hs') : WB P n B F ops Q pins fuel listed env hs i := fun hQ a w he ho => by
  unfold wpOp
  simp only [hi]
  rw [if_pos (by simp [Region.wanted])]
  refine .inl (h _ rfl rfl a w he ho _ Q fun v hs' w' k o' => ⟨⟨o'.sub, fun p hp hc _ => k.1.held o' p hp hc⟩, ?_⟩)
  rw [eq_of_beq hl]
  exact k.2 hQ _ w' (he.put hd v) o'
theorem WB.ex0 {pins : Pins} {fuel i : Nat} {listed ls : Array Bool} {op : Op} {ty : TypeId} {pos : String} {aft : Array Edge} (hi : ops[i]? = some ⟨none, op, ty, pos, aft, none⟩) (hl : (listed.setIfInBounds i true == ls) = true)
    (h : WO P n B F op ty env hs fun v hs' => PinsOk hs' i pins ∧ WA P n B F ops Q pins fuel ls env hs') : WB P n B F ops Q pins fuel listed env hs i := fun hQ a w he ho => by
  unfold wpOp
  simp only [hi]
  rw [if_pos (by simp [Region.wanted])]
  refine .inl (h _ rfl rfl a w he ho _ Q fun v hs' w' k o' => ⟨⟨o'.sub, fun p hp hc _ => k.1.held o' p hp hc⟩, ?_⟩)
  rw [eq_of_beq hl]
  exact k.2 hQ _ w' he o'
theorem WB.exY {pins : Pins} {fuel i j t : Nat} {b : Bool} {listed ls : Array Bool} {op : Op} {ty : TypeId} {pos : String} {aft : Array Edge} (hi : ops[i]? = some ⟨some d, op, ty, pos, aft, some (j, b)⟩) (hd : Nat.blt d n = true) (hj : ((ops[j]?).bind (·.dst)) = some t) (hv : lk env t = some (.bool b)) (hl : (listed.setIfInBounds i true == ls) = true)
    (h : WO P n B F op ty env hs fun v hs' => PinsOk hs' i pins ∧ WA P n B F ops Q pins fuel ls ((d, some v) :: env) hs') : WB P n B F ops Q pins fuel listed env hs i := fun hQ a w he ho => by
  have hw : Region.wanted (⟨some d, op, ty, pos, aft, some (j, b)⟩ : Oper) (yielded ops a.tmps) = true := by have := he.yield hj hv (fun _ _ => trivial); simp only at this; simp [Region.wanted, this]
  unfold wpOp
  simp only [hi]
  rw [if_pos hw]
  refine .inl (h _ rfl rfl a w he ho _ Q fun v hs' w' k o' => ⟨⟨o'.sub, fun p hp hc _ => k.1.held o' p hp hc⟩, ?_⟩)
  rw [eq_of_beq hl]
  exact k.2 hQ _ w' (he.put hd v) o'
def RR (B : World) (F : Hp) (K : Value → List Hp → Prop) : Ending → World → Prop := fun e w' => ∃ v hs', e = .returned v ∧ K v hs' ∧ Own B F hs' w'
def Spec (P : Program) (f : FuncId) (args : List Value) (F : Hp) (hs : List Hp) (K : Value → List Hp → Prop) : Prop := ∀ B w, Own B F hs w → Calls P f args.toArray w (RR B F K)
theorem Spec.mono {f : FuncId} {args : List Value} {K K' : Value → List Hp → Prop} (h : Spec P f args F hs K) (k : ∀ v hs', K v hs' → K' v hs') : Spec P f args F hs K' :=
  fun B w ho => (h B w ho).mono fun e w' ⟨v, hs', h1, h2, h3⟩ => ⟨v, hs', h1, k v hs' h2, h3⟩
theorem Spec.monoP {f : FuncId} {args : List Value} {K K' : Value → List Hp → Prop} (h : Spec P f args F hs K) (k : ∀ v hs', K v hs' → ∃ hs'', hs'.Perm hs'' ∧ K' v hs'') : Spec P f args F hs K' :=
  fun B w ho => (h B w ho).mono fun e w' ⟨v, hs', h1, h2, h3⟩ => let ⟨hs'', p, k'⟩ := k v hs' h2; ⟨v, hs'', h1, k', h3.perm p⟩
def argE : Nat → List Value → Env
  | _, [] => []
  | i, v :: r => (i, some v) :: argE (i + 1) r
theorem argE_lk : ∀ {l : List Value} {i t : Nat} {v : Value}, lk (argE i l) t = some v → ∃ j, t = i + j ∧ l[j]? = some v
  | [], _, _, _, h => by cases h
  | u :: r, i, t, v, h => by
    rw [argE, lk_put] at h
    by_cases hk : i = t
    · rw [if_pos hk] at h; exact ⟨0, by omega, by simpa using h⟩
    · rw [if_neg hk] at h
      obtain ⟨j, rfl, h2⟩ := argE_lk h
      exact ⟨j + 1, by omega, by simpa using h2⟩
theorem Spec.enter {f : FuncId} {fn : Func} {c : Code} {args : List Value} {K : Value → List Hp → Prop} (hf : P.funcs[f]? = some fn) (hb : fn.body = some c) (hn : fn.ntmps = n) (ha : Nat.ble args.length n = true)
    (h : ∀ B, W P n B F (bodyPost P fn (RR B F K)) c (argE 0 args) hs) : Spec P f args F hs K := fun B w ho => by
  have ha : args.length ≤ n := Nat.le_of_ble_eq_true ha
  refine calls_of_wp hf hb (h B _ w ⟨rfl, by simp [hn]; omega, fun t v e => ?_⟩ ho)
  obtain ⟨j, rfl, hj⟩ := argE_lk e
  have hlt := (List.getElem?_eq_some_iff.1 hj).1
  rw [Array.getD_eq_getD_getElem?, Array.getElem?_append_left (by simpa using hlt)]
  simp only [List.getElem?_toArray, Nat.zero_add, hj, Option.getD_some]
theorem Spec.openC {f : FuncId} {args : List Value} {hs r : List Hp} {K : Value → List Hp → Prop} (ha : apartL hs) (h : Spec P f args F (hs ++ r) K) : Spec P f args F (joinL hs :: r) K := fun B w ho => h B w (ho.openL ha)
theorem Spec.shutC {f : FuncId} {args : List Value} {K : Value → List Hp → Prop} (h : Spec P f args F hs fun v hs' => ∃ os new, hs' = os ++ new ∧ (apartL os → K v (joinL os :: new))) : Spec P f args F hs K := fun B w ho =>
  (h B w ho).mono fun e w' ⟨v, hs', e1, ⟨os, new, e2, k⟩, o'⟩ => by
    subst e2
    obtain ⟨a, o2⟩ := o'.shutL
    exact ⟨v, _, e1, k a, o2⟩
theorem Spec.obj {f : FuncId} {args : List Value} {r : List Hp} {R : List Hp → Prop} {R' : Value → List Hp → Prop} {K : Value → List Hp → Prop} {h0 : Hp} (ho : Thing R h0)
    (h : ∀ hs, R hs → Spec P f args F (hs ++ r) fun v hs' => ∃ os new, hs' = os ++ new ∧ R' v os ∧ K v new) : Spec P f args F (h0 :: r) fun v hs' => ∃ h1 new, hs' = h1 :: new ∧ Thing (R' v) h1 ∧ K v new := by
  obtain ⟨hs, rfl, ha, hr⟩ := ho
  refine Spec.openC ha (Spec.shutC ((h hs hr).mono fun v hs' ⟨os, new, e, r1, k⟩ => ⟨os, new, e, fun a => ⟨_, new, rfl, ⟨os, rfl, a, r1⟩, k⟩⟩))
theorem NP.body {fn : Func} {K : Value → List Hp → Prop} : NP (bodyPost P fn (RR B F K)) := fun c a w h => by
  obtain ⟨_, v, hs', h1, _⟩ := h
  cases h1
theorem WO.call {f : FuncId} {fn : Func} {c : Code} {xs : Array Operand} {ts : Array TypeId} {args : List Value} {own rest' : List Hp} {K K' : Value → List Hp → Prop}
    (hf : P.funcs[f]? = some fn) (hb : fn.body = some c) (hnm : (fn.name == "runtime.NumGoroutine") = false) (hx : evs env xs.toList = some args) (hp : hs.Perm (rest' ++ own))
    (hc : ∀ G, F.le G → (∀ h ∈ rest', h.le G) → Spec P f args G own K') (hk : ∀ v own', K' v own' → K v (rest' ++ own')) : WO P n B F (.call ⟨.value (.func f), xs, ts⟩) ty env hs K :=
  fun o h1 h2 a w he ho next Q hn => by
    obtain ⟨G, g1, g2, g3, g4⟩ := Own.split (ho.perm hp)
    have := hc G g1 g2 B w g3
    have hargs : xs.map a.eval = args.toArray := by
      have := he.evs hx
      apply Array.toList_inj.1
      simpa using this
    have hrun : (execOp a.eval o).run P w = .ok (.enter f args.toArray) w := by
      unfold execOp
      simp only [h1, resolve, Act.eval, Deferred.ofValue, invoke, callFunc, program, Sem.run_bind, Sem.run, Result.andThen_ok, hf, hnm, hb, hargs, Sem.run_pure]
      simp
      done
    unfold Oper.wp
    rw [hrun]
    refine this.mono fun e w' ⟨v, own', e1, e2, e3⟩ => ?_
    subst e1
    exact hn v _ w' (hk v own' e2) (g4 own' w' e3)
end
end Go.Proofs.YtflgnpidelkkpaaGreat
