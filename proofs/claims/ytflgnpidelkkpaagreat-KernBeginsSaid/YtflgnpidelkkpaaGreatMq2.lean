/- part 2 of the proof: contracts of the functions that the law reaches, and plain laws. -/
import Derived.WalkKit
import Derived.Below
namespace Go.Proofs.YtflgnpidelkkpaaGreat
set_option maxRecDepth 8000
set_option linter.unusedVariables false
theorem ask_drawn {α : Type} : ∀ (m : Ask α) (w : World), w.drawn ≤ (w.ask m).2.drawn
  | .done a, w => Nat.le_refl _
  | .ask what r k, w => by
    unfold World.ask
    dsimp only
    split
    · exact ask_drawn (k 0) w
    · exact Nat.le_trans (Nat.le_succ _) (ask_drawn (k _) { w with drawn := w.drawn + 1 })
theorem sys_drawn (w : World) (c : Sys) : w.drawn ≤ (w.sys c).2.drawn := by
  unfold World.sys
  have := ask_drawn (Kernel.perform c w.os) w
  split
  · exact Nat.le_refl _
  · next r os w' h => rw [h] at this; exact this
theorem freeze_drawn (w : World) (a : Addr) (n : Nat) : (w.freeze a n).drawn = w.drawn := by
  unfold World.freeze; split <;> rfl
theorem viewStore_drawn {p : Program} {w w' : World} {at_ k : Addr} {u : TypeId} {v : Value} {b : Bool} {l : List Addr} (h : w.viewStore p at_ u k v b = .ok (w', l)) : w'.drawn = w.drawn := by
  unfold World.viewStore at h
  simp only [bind, Except.bind, pure, Except.pure, throwThe, MonadExceptOf.throw, MonadExcept.throw] at h
  repeat' (first | (cases h; rfl) | (cases h; done) | split at h)
theorem farStore_drawn {p : Program} {w w' : World} {a : Addr} {v : Value} {b : Bool} {l : List Addr} (h : w.farStore p a v b = .ok (w', l)) : w'.drawn = w.drawn := by
  unfold World.farStore at h
  split at h
  · split at h
    · next h2 => cases h; exact viewStore_drawn h2
    · cases h
  · cases h
theorem run_drawn {α : Type} (P : Program) (m : Sem α) : ∀ (w : World) {v : α} {w' : World}, m.run P w = .ok v w' → w.drawn ≤ w'.drawn := by
  induction m with
  | pure a => intro w v w' h; cases h; exact Nat.le_refl _
  | load m a k ih =>
    intro w v w' h
    unfold Sem.run at h
    split at h
    · exact ih _ _ h
    · split at h
      · exact ih _ _ h
      · cases h
  | store m a u k ih =>
    intro w v w' h
    unfold Sem.run at h
    split at h <;> try (next hq => cases hq; done)
    · cases h
    · cases h
    · next hq =>
      obtain ⟨_, _, _, rfl⟩ := Sem.store.inj hq
      split at h
      · split at h
        · cases h
        · have t := ih _ h; exact t
      · split at h
        · next h2 => exact farStore_drawn h2 ▸ ih _ h
        · cases h
  | new o k ih => intro w v w' h; exact ih _ { w with heap := w.heap.push o } h
  | shape r k ih => intro w v w' h; exact ih _ _ h
  | freeze a n k ih => intro w v w' h; rw [← freeze_drawn w a n]; exact ih _ h
  | frozen a k ih => intro w v w' h; exact ih _ _ h
  | getObj r k ih =>
    intro w v w' h
    unfold Sem.run at h
    split at h
    · cases h
    · exact ih _ _ h
    · cases h
  | setObj r o k ih =>
    intro w v w' h
    unfold Sem.run at h
    split at h
    · cases h
    · exact ih { w with heap := w.heap.setIfInBounds r o } h
    · cases h
  | choose q k ih =>
    intro w v w' h
    unfold Sem.run at h
    split at h
    · exact ih _ _ h
    · exact Nat.le_trans (Nat.le_succ _) (ih _ { w with drawn := w.drawn + 1 } h)
  | sys c k ih => intro w v w' h; exact Nat.le_trans (sys_drawn w c) (ih _ _ h)
  | program k ih => intro w v w' h; exact ih _ _ h
  | mark m k ih => intro w v w' h; exact ih _ h
  | halt x => intro w v w' h; cases h
structure Hp where
  get : Nat → Option Obj
def Hp.le (F G : Hp) : Prop := ∀ b o, F.get b = some o → G.get b = some o
def Hp.apart (F G : Hp) : Prop := ∀ b o, F.get b = some o → G.get b = none
def Hp.join (F G : Hp) : Hp := ⟨fun b => match F.get b with | some o => some o | none => G.get b⟩
def Hp.none : Hp := ⟨fun _ => Option.none⟩
def one (b : Nat) (o : Obj) : Hp := ⟨fun k => if k = b then some o else none⟩
theorem one_get (b : Nat) (o : Obj) : (one b o).get b = some o := by simp [one]
theorem one_inv {b k : Nat} {o o' : Obj} (h : (one b o).get k = some o') : k = b ∧ o' = o := by
  unfold one at h
  simp only at h
  split at h
  · next e => exact ⟨e, by injection h with h; exact h.symm⟩
  · cases h
theorem Hp.le.refl (F : Hp) : F.le F := fun _ _ h => h
theorem Hp.le.trans {F G H : Hp} (h : F.le G) (k : G.le H) : F.le H := fun b o e => k b o (h b o e)
theorem Hp.le_join (F G : Hp) : F.le (F.join G) := fun b o h => by simp only [Hp.join, h]
theorem Hp.apart.symm {F G : Hp} (h : F.apart G) : G.apart F := fun b o e => by
  cases hf : F.get b with
  | none => rfl
  | some o' => rw [h b o' hf] at e; cases e
theorem Hp.le_join_r {F G : Hp} (h : F.apart G) : G.le (F.join G) := fun b o e => by
  simp only [Hp.join]
  rw [h.symm b o e]
  exact e
theorem Hp.join_inv {F G : Hp} {b : Nat} {o : Obj} (h : (F.join G).get b = some o) : F.get b = some o ∨ G.get b = some o := by
  simp only [Hp.join] at h
  split at h
  · next e => injection h with h; subst h; exact .inl e
  · exact .inr h
theorem Hp.apart.mono {F F' G G' : Hp} (h : F.apart G) (hf : F'.le F) (hg : G'.le G) : F'.apart G' := fun b o e => by
  cases hk : G'.get b with
  | none => rfl
  | some o' =>
    have h1 := h b o (hf b o e)
    rw [hg b o' hk] at h1; cases h1
theorem Hp.apart_none (F : Hp) : F.apart Hp.none := fun _ _ _ => rfl
structure Sub (B : World) (F : Hp) (w : World) : Prop where
  heap : ∀ b o, F.get b = some o → w.heap[b]? = some o
  os : w.os = B.os
  tape : w.tape = B.tape
  output : w.output = B.output
  drawn : B.drawn ≤ w.drawn
def Own (B : World) : Hp → List Hp → World → Prop
  | F, [], w => Sub B F w
  | F, h :: hs, w => F.apart h ∧ Own B (F.join h) hs w
theorem Sub.mono {B : World} {F G : Hp} {w : World} (h : Sub B F w) (hl : G.le F) : Sub B G w :=
  ⟨fun b o e => h.heap b o (hl b o e), h.os, h.tape, h.output, h.drawn⟩
theorem Own.sub {B : World} : ∀ {hs : List Hp} {F : Hp} {w : World}, Own B F hs w → Sub B F w
  | [], _, _, h => h
  | h :: hs, F, w, ⟨_, h2⟩ => (Own.sub h2).mono (F.le_join h)
theorem Own.mono {B : World} : ∀ {hs : List Hp} {F G : Hp} {w : World}, Own B F hs w → G.le F → Own B G hs w
  | [], _, _, _, h, hl => Sub.mono h hl
  | k :: hs, F, G, w, ⟨h1, h2⟩, hl => ⟨h1.mono hl (Hp.le.refl _), Own.mono h2 fun b o e => by
      rcases Hp.join_inv e with e | e
      · exact F.le_join k b o (hl b o e)
      · exact Hp.le_join_r h1 b o e⟩
theorem Own.swap {B : World} {F h k : Hp} {hs : List Hp} {w : World} (H : Own B F (h :: k :: hs) w) : Own B F (k :: h :: hs) w := by
  obtain ⟨h1, h2, h3⟩ := H
  have a1 : F.apart k := h2.mono (F.le_join h) (Hp.le.refl _)
  have a2 : h.apart k := h2.mono (Hp.le_join_r h1) (Hp.le.refl _)
  refine ⟨a1, fun b o e => ?_, h3.mono fun b o e => ?_⟩
  · rcases Hp.join_inv e with e | e
    · exact h1 b o e
    · exact a2.symm b o e
  · rcases Hp.join_inv e with e | e
    · rcases Hp.join_inv e with e | e
      · exact Hp.le_join _ _ b o (Hp.le_join _ _ b o e)
      · exact Hp.le_join_r h2 b o e
    · exact Hp.le_join _ _ b o (Hp.le_join_r h1 b o e)
theorem Own.perm {B : World} {hs hs' : List Hp} (p : hs.Perm hs') : ∀ {F : Hp} {w : World}, Own B F hs w → Own B F hs' w := by
  induction p with
  | nil => intro F w h; exact h
  | cons x _ ih => intro F w h; exact ⟨h.1, ih h.2⟩
  | swap x y l => intro F w h; exact Own.swap h
  | trans _ _ ih1 ih2 => intro F w h; exact ih2 (ih1 h)
theorem Own.drop {B : World} {F h : Hp} {hs : List Hp} {w : World} (H : Own B F (h :: hs) w) : Own B F hs w := H.2.mono (F.le_join h)
theorem Own.all {B : World} : ∀ {hs : List Hp} {F : Hp} {w : World}, Own B F hs w → ∀ h ∈ hs, ∀ b o, h.get b = some o → w.heap[b]? = some o
  | [], _, _, _, h, hm, _, _, _ => by cases hm
  | k :: hs, F, w, H, h, hm, b, o, e => by
    cases hm with
    | head => exact (Own.sub H.2).heap b o (Hp.le_join_r H.1 b o e)
    | tail _ hm => exact Own.all H.2 h hm b o e
theorem Own.ro {B : World} {F : Hp} {hs : List Hp} {w : World} (H : Own B F hs w) {b : Nat} {o : Obj} (e : F.get b = some o) : w.heap[b]? = some o := (Own.sub H).heap b o e
theorem Own.last {B : World} {h h' : Hp} {w w' : World} (hstep : ∀ F : Hp, F.apart h → Sub B (F.join h) w → F.apart h' ∧ Sub B (F.join h') w') :
    ∀ {hs : List Hp} {F : Hp}, Own B F (hs ++ [h]) w → Own B F (hs ++ [h']) w'
  | [], F, H => hstep F H.1 H.2
  | k :: hs, F, H => ⟨H.1, Own.last hstep H.2⟩
theorem Own.first {B : World} {h h' : Hp} {w w' : World} (hstep : ∀ F : Hp, F.apart h → Sub B (F.join h) w → F.apart h' ∧ Sub B (F.join h') w')
    {hs : List Hp} {F : Hp} (H : Own B F (h :: hs) w) : Own B F (h' :: hs) w' :=
  (Own.last hstep (H.perm (List.perm_append_comm (l₁ := [h]) (l₂ := hs)))).perm (List.perm_append_comm (l₁ := hs) (l₂ := [h']))
theorem Own.pad {B : World} {F : Hp} {hs : List Hp} {w : World} (H : Own B F hs w) : Own B F (Hp.none :: hs) w :=
  ⟨Hp.apart_none F, H.mono fun b o e => by
    rcases Hp.join_inv e with e | e
    · exact e
    · cases e⟩
theorem Own.alloc {B : World} {F : Hp} {hs : List Hp} {w : World} (o : Obj) (H : Own B F hs w) : Own B F (one w.heap.size o :: hs) (w.alloc o) := by
  refine Own.first (fun F _ S => ?_) H.pad
  have hlt : ∀ b o', F.get b = some o' → b < w.heap.size := fun b o' e => (Array.getElem?_eq_some_iff.1 (S.heap b o' (F.le_join _ b o' e))).1
  refine ⟨fun b o' e => ?_, fun b o' e => ?_, S.os, S.tape, S.output, S.drawn⟩
  · have := hlt b o' e
    simp only [one]
    rw [if_neg (by omega)]
  · rcases Hp.join_inv e with e | e
    · have h1 := hlt b o' e
      have h2 := S.heap b o' (F.le_join _ b o' e)
      simp only [World.alloc, Array.getElem?_push]
      rw [if_neg (by omega)]
      exact h2
    · obtain ⟨rfl, rfl⟩ := one_inv e
      exact heap_alloc_new w o'
theorem Own.upd {B : World} {F : Hp} {hs : List Hp} {w w' : World} {b : Nat} {o o' : Obj} (H : Own B F (one b o :: hs) w)
    (hb : w'.heap[b]? = some o') (hne : ∀ k, k ≠ b → w'.heap[k]? = w.heap[k]?) (h1 : w'.os = w.os) (h2 : w'.tape = w.tape) (h3 : w'.output = w.output) (h4 : w.drawn ≤ w'.drawn := by exact Nat.le_refl _) : Own B F (one b o' :: hs) w' := by
  refine Own.first (fun F ha S => ⟨fun k o1 e => ?_, fun k o1 e => ?_, h1.trans S.os, h2.trans S.tape, h3.trans S.output, Nat.le_trans S.drawn h4⟩) H
  · have hn := ha k o1 e
    simp only [one] at hn ⊢
    split at hn
    · cases hn
    · next hk => rw [if_neg hk]
  · rcases Hp.join_inv e with e1 | e1
    · have hkb : k ≠ b := by
        intro hk
        have hn := ha k o1 e1
        rw [hk, one_get] at hn; cases hn
      rw [hne k hkb]
      exact S.heap k o1 (F.le_join _ k o1 e1)
    · obtain ⟨rfl, rfl⟩ := one_inv e1
      exact hb
theorem Own.drew {B : World} : ∀ {hs : List Hp} {F : Hp} {w : World}, Own B F hs w → Own B F hs { w with drawn := w.drawn + 1 }
  | [], _, _, H => ⟨H.heap, H.os, H.tape, H.output, Nat.le_succ_of_le H.drawn⟩
  | _ :: _, _, _, H => ⟨H.1, Own.drew H.2⟩
theorem Own.lt {B : World} {F : Hp} {hs : List Hp} {w : World} {b : Nat} {o : Obj} (H : Own B F (one b o :: hs) w) : b < w.heap.size :=
  (Array.getElem?_eq_some_iff.1 (H.all _ (.head _) b o (one_get b o))).1
theorem Own.open2 {B : World} {F h k : Hp} {hs : List Hp} {w : World} (ha : h.apart k) (H : Own B F (h.join k :: hs) w) : Own B F (h :: k :: hs) w := by
  obtain ⟨h1, h2⟩ := H
  refine ⟨h1.mono (Hp.le.refl _) (Hp.le_join h k), fun b o e => ?_, h2.mono fun b o e => ?_⟩
  · rcases Hp.join_inv e with e | e
    · exact h1.mono (Hp.le.refl _) (Hp.le_join_r ha) b o e
    · exact ha b o e
  · rcases Hp.join_inv e with e | e
    · rcases Hp.join_inv e with e | e
      · exact Hp.le_join _ _ b o e
      · exact Hp.le_join_r h1 b o (Hp.le_join h k b o e)
    · exact Hp.le_join_r h1 b o (Hp.le_join_r ha b o e)
theorem Own.shut2 {B : World} {F h k : Hp} {hs : List Hp} {w : World} (H : Own B F (h :: k :: hs) w) : h.apart k ∧ Own B F (h.join k :: hs) w := by
  obtain ⟨h1, h2, h3⟩ := H
  have ha : h.apart k := h2.mono (Hp.le_join_r h1) (Hp.le.refl _)
  refine ⟨ha, fun b o e => ?_, h3.mono fun b o e => ?_⟩
  · cases hh : (h.join k).get b with
    | none => rfl
    | some o' =>
      rcases Hp.join_inv hh with e' | e'
      · have := h1 b o e; rw [e'] at this; cases this
      · have := h2 b o (Hp.le_join _ _ b o e); rw [e'] at this; cases this
  · rcases Hp.join_inv e with e | e
    · exact Hp.le_join _ _ b o (Hp.le_join _ _ b o e)
    · rcases Hp.join_inv e with e | e
      · exact Hp.le_join _ _ b o (Hp.le_join_r h1 b o e)
      · exact Hp.le_join_r h2 b o e
theorem Own.split {B : World} {own : List Hp} : ∀ {rest : List Hp} {F : Hp} {w : World}, Own B F (rest ++ own) w → ∃ G : Hp, F.le G ∧ (∀ h ∈ rest, h.le G) ∧ Own B G own w ∧
    ∀ own' w', Own B G own' w' → Own B F (rest ++ own') w'
  | [], F, w, H => ⟨F, Hp.le.refl _, fun h hm => (by cases hm), H, fun _ _ h => h⟩
  | k :: rest, F, w, H => by
    obtain ⟨G, h1, h2, h3, h4⟩ := Own.split H.2
    refine ⟨G, (Hp.le_join F k).trans h1, fun h hm => ?_, h3, fun own' w' h => ⟨H.1, h4 own' w' h⟩⟩
    cases hm with
    | head => exact (Hp.le_join_r H.1).trans h1
    | tail _ hm => exact h2 h hm
def joinL : List Hp → Hp
  | [] => Hp.none
  | h :: t => h.join (joinL t)
def apartL : List Hp → Prop
  | [] => True
  | h :: t => h.apart (joinL t) ∧ apartL t
theorem Own.openL {B : World} : ∀ {hs r : List Hp} {F : Hp} {w : World}, apartL hs → Own B F (joinL hs :: r) w → Own B F (hs ++ r) w
  | [], _, _, _, _, H => H.drop
  | h :: hs, r, F, w, ⟨a1, a2⟩, H => by
    have H2 := Own.open2 a1 H
    exact ⟨H2.1, Own.openL a2 H2.2⟩
theorem Own.shutL {B : World} : ∀ {hs r : List Hp} {F : Hp} {w : World}, Own B F (hs ++ r) w → apartL hs ∧ Own B F (joinL hs :: r) w
  | [], _, _, _, H => ⟨trivial, H.pad⟩
  | h :: hs, r, F, w, H => by
    obtain ⟨a2, H2⟩ := Own.shutL (hs := hs) (r := r) H.2
    obtain ⟨a1, H3⟩ := Own.shut2 (h := h) (k := joinL hs) (hs := r) ⟨H.1, H2⟩
    exact ⟨⟨a1, a2⟩, H3⟩
def Thing (R : List Hp → Prop) (h : Hp) : Prop := ∃ hs, h = joinL hs ∧ apartL hs ∧ R hs
inductive Take {α : Type} : List α → α → List α → Prop where
  | here {h : α} {t : List α} : Take (h :: t) h t
  | there {x h : α} {t r : List α} : Take t h r → Take (x :: t) h (x :: r)
theorem Take.perm {α : Type} {hs r : List α} {h : α} (t : Take hs h r) : hs.Perm (h :: r) := by
  induction t with
  | here => exact .refl _
  | there _ ih => exact (ih.cons _).trans (.swap _ _ _)
inductive Repl {α : Type} : List α → α → α → List α → Prop where
  | here {h h' : α} {t : List α} : Repl (h :: t) h h' (h' :: t)
  | there {x h h' : α} {t r : List α} : Repl t h h' r → Repl (x :: t) h h' (x :: r)
theorem Repl.perm {α : Type} {hs hs' : List α} {h h' : α} (t : Repl hs h h' hs') : ∃ r, hs.Perm (h :: r) ∧ hs'.Perm (h' :: r) := by
  induction t with
  | here => exact ⟨_, .refl _, .refl _⟩
  | there _ ih =>
    obtain ⟨r, h1, h2⟩ := ih
    exact ⟨_, (h1.cons _).trans (.swap _ _ _), (h2.cons _).trans (.swap _ _ _)⟩
inductive At (F : Hp) : List Hp → Nat → Obj → Prop where
  | ro {hs : List Hp} {b : Nat} {o : Obj} : F.get b = some o → At F hs b o
  | here {h : Hp} {hs : List Hp} {b : Nat} {o : Obj} : h.get b = some o → At F (h :: hs) b o
  | one {hs : List Hp} {b : Nat} {o : Obj} : At F (one b o :: hs) b o
  | there {h : Hp} {hs : List Hp} {b : Nat} {o : Obj} : At F hs b o → At F (h :: hs) b o
theorem At.get {B : World} {F : Hp} {hs : List Hp} {b : Nat} {o : Obj} (h : At F hs b o) : ∀ {w : World}, Own B F hs w → w.heap[b]? = some o := by
  induction h with
  | ro h => intro w H; exact H.ro h
  | here h => intro w H; exact H.all _ (.head _) _ _ h
  | one => intro w H; exact H.all _ (.head _) _ _ (one_get _ _)
  | there _ ih => intro w H; exact ih H.drop
inductive Keep {α : Type} : List α → List α → Prop where
  | nil {t : List α} : Keep t []
  | cons {t r s : List α} {h : α} : Take t h r → Keep r s → Keep t (h :: s)
theorem Keep.own {B : World} {hs ks : List Hp} (k : Keep hs ks) : ∀ {F : Hp} {w : World}, Own B F hs w → Own B F ks w := by
  induction k with
  | nil => intro F w H; exact H.sub
  | cons t _ ih =>
    intro F w H
    have := H.perm t.perm
    exact ⟨this.1, ih this.2⟩
end Go.Proofs.YtflgnpidelkkpaaGreat
