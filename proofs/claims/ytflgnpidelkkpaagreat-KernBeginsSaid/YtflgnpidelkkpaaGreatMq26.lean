/- part 26 of the proof: contracts of the functions that the law reaches, and plain laws. -/
import Derived.Test.YtflgnpidelkkpaaGreatMq7
import Derived.Test.YtflgnpidelkkpaaGreatMq24
import Derived.Test.YtflgnpidelkkpaaGreatMq25
namespace Go.Proofs.YtflgnpidelkkpaaGreat
set_option maxRecDepth 8000
set_option maxHeartbeats 1000000
set_option linter.unusedVariables false
set_option linter.unusedSimpArgs false
theorem Thing.mono {R R' : List Hp → Prop} {h : Hp} (t : Thing R h) (k : ∀ hs, R hs → R' hs) : Thing R' h := let ⟨hs, e, a, r⟩ := t; ⟨hs, e, a, k hs r⟩
structure KF (F : Hp) (b : Nat) (s : Kn) (a : KA) : Prop where
  blk : F.get b = some (cells (KM s a) 108)
  plat : PlatAt F a.p
  tx : TasksX F a.A1 a.ts
  nx : RowAt F [] a.A2 (s.next.flatMap encI)
  us : RowAt F [] a.A3 (s.used.flatMap encI)
  tasks : a.ts.map TaskV.pl = s.tasks
  pl : a.p.pl = s.p
theorem KF.up {F G : Hp} {b : Nat} {s : Kn} {a : KA} (h : KF F b s a) (hG : F.le G) : KF G b s a := ⟨hG _ _ h.blk, h.plat.up hG, h.tx.up hG, h.nx.up hG (by simp), h.us.up hG (by simp), h.tasks, h.pl⟩
theorem KParts.kf {b : Nat} {s : Kn} {a : KA} {hP hT hM hN hU hS hK hL hA hI hD hE hR hV hC : Hp} (k : KParts s a hP hT hM hN hU hS hK hL hA hI hD hE hR hV hC) (w : KOk s) {G : Hp} (h0 : (one b (cells (KM s a) 108)).le G) (h1 : hP.le G) (h2 : hT.le G) (h3 : hM.le G) (h4 : hN.le G) (h5 : hU.le G) : KF G b s a :=
  ⟨one_in h0, k.plat.up h1, k.tx w h2 h3, k.hN.rowX h4, k.hU.rowX h5, k.tasks, k.pl⟩
def stackOff (t : Int) (l : List Int) : List Int := l.filter fun x => !(x == t)
def endK (s : Kn) (kind : Int) (j : JobV) : Kn :=
  { s with jobs := offJ j.task s.jobs, stack := stackOff j.task s.stack, held := freeL j.task s.held, used := s.used.set j.task.toNat (w64 ((match s.tasks[j.task.toNat]? with | some t => t.cycles | none => 0) - j.left)), ended := true, events := s.events ++ [⟨kind, j.task, s.now, j.deadline⟩] }
def thereT (ts : List TaskV) : List TaskV := ts.filter fun t => !(t.period == 0)
theorem thereT_pl (ts : List TaskV) : (thereT ts).map TaskV.pl = thereK (ts.map TaskV.pl) := by
  unfold thereT thereK
  rw [List.filter_map]; rfl
theorem arr_at {α : Type} {f : α → List Value} {sz : Nat} (hsz : ∀ x, (f x).length = sz) {e : TypeId} {xs : List α} {A : Option Addr} {c : Nat} {h : Hp} (ha : Arr e sz xs.length (xs.flatMap f) A c h) {m : Nat} (hm : m < xs.length) :
    ∃ g L, A = some ⟨g, 0, none⟩ ∧ h = one g (cells L e) ∧ (∀ x, Arr e sz (xs.set m x).length ((xs.set m x).flatMap f) A c (one g (cells (splice L (0 + m * sz) (f x)) e))) ∧ 0 + m * sz + sz ≤ L.length ∧ (∀ x, xs[m]? = some x → ∀ j v, (f x)[j]? = some v → L[0 + m * sz + j]? = some v) := by
  obtain ⟨g, sp, e1, e2, hlen, hle, hmax⟩ := ha.some (by omega)
  have e6 : (xs.flatMap f).length = xs.length * sz := flat_len f sz hsz _
  refine ⟨g, xs.flatMap f ++ sp, e1, e2, fun x => ?_, flat_room f sz hsz xs m hm sp, fun x hx => get_flat' f sz hsz _ _ _ sp hx⟩
  rw [set_flatI f sz hsz xs m hm x sp, e1]
  have e5 : ((xs.set m x).flatMap f).length = (xs.set m x).length * sz := flat_len f sz hsz _
  exact Arr.mk e5 (by rw [List.length_append] at hlen ⊢; rw [e5, List.length_set]; rw [e6] at hlen; exact hlen) (by rw [List.length_set]; exact hle) hmax
attribute [local irreducible] W X WL WA WB WG WO Rn Own one splice Arr Spec WQ WH Qn
theorem endF_any (x : Int) (nb : Nat) (j : JobV) (F : Hp) (h : F.get nb = some (cells j.enc 142)) : Spec Tryz.prog 271 [.int .i64 x, .pointer (some ⟨nb, 0, none⟩)] F [] fun v hs => v = .bool (x == j.task) ∧ hs = [] := by
  refine Spec.enter Tryz.func271 rfl Tryz.ntmps271 rfl fun B => ?_
  repeat' (first | refine soA ?_ | refine sgA ?_ | refine sxA ?_ | refine sbA ?_ | refine fun (Q : Post) hQ => ?_ | refine fun (nb : Nat) => (?_ : WL _ _ _ _ _ _ _ _ _) | (refine WL.guard rfl rfl rfl (fun h => ?_) (fun h => ?_) <;> (try dsimp only at h)))
  ((refine seE ?_); refine ⟨[], Keep.nil, ?_⟩)
  exact ⟨rfl, rfl⟩
theorem thereF_any (x : TaskV) (F : Hp) : Spec Tryz.prog 201 [.agg x.enc.toArray] F [] fun v hs => v = .bool (x.period == 0) ∧ hs = [] := by
  refine Spec.enter Tryz.func201 rfl Tryz.ntmps201 rfl fun B => ?_
  repeat' (first | refine soA ?_ | refine sgA ?_ | refine sxA ?_ | refine sbA ?_ | refine fun (Q : Post) hQ => ?_ | refine fun (nb : Nat) => (?_ : WL _ _ _ _ _ _ _ _ _) | (refine WL.guard rfl rfl rfl (fun h => ?_) (fun h => ?_) <;> (try dsimp only at h)))
  ((refine seE ?_); refine ⟨[], Keep.nil, ?_⟩)
  exact ⟨rfl, rfl⟩
set_option maxHeartbeats 2000000 in
theorem there_any (b : Nat) (s : Kn) (a : KA) (F : Hp) (h : KF F b s a) : Spec Tryz.prog 146 [ptrV b] F [] fun v hs => ∃ A c h1, v = .slice A (thereT a.ts).length c ∧ hs = [h1] ∧ ArrK (thereT a.ts) A c h1 := by
  refine Spec.enter Tryz.func146 rfl Tryz.ntmps146 rfl fun B => ?_
  have hb := h.blk
  have hfit := h.tx.at_.fit
  repeat' (first | ((refine WL.ex rfl (WO.callN Tryz.func200 rfl (by kernel_rfl) rfl Takes.nil (fun G hG hh => cloneK_any a.A1 a.c1 a.ts G (h.tx.at_.row.up hG (by simp)) (by omega)) ?_); rintro v own' ⟨A, c, h1, rfl, rfl, ha⟩)) | ((apply WL.rd; (exact rfl); (exact Rn.makeFunc rfl rfl))) | (first | refine soA ?_ | refine sgA ?_ | refine sxA ?_ | refine sbA ?_ | refine fun (Q : Post) hQ => ?_ | refine fun (nb : Nat) => (?_ : WL _ _ _ _ _ _ _ _ _) | (refine WL.guard rfl rfl rfl (fun h => ?_) (fun h => ?_) <;> (try dsimp only at h))))
  repeat' (first | ((refine WL.ex rfl (WO.callN Tryz.func199 rfl (by kernel_rfl) rfl (own := [h1]) (by (exact tsA)) (fun G hG hh => deleteK_any Tryz.func201 rfl (by kernel_rfl) [] (fun x => x.period == 0) A c a.ts h1 G ha (by omega) (fun G' g' x => thereF_any x G')) ?_); rintro v own' ⟨h2, rfl, rfl, ha2⟩)) | (first | refine soA ?_ | refine sgA ?_ | refine sxA ?_ | refine sbA ?_ | refine fun (Q : Post) hQ => ?_ | refine fun (nb : Nat) => (?_ : WL _ _ _ _ _ _ _ _ _) | (refine WL.guard rfl rfl rfl (fun h => ?_) (fun h => ?_) <;> (try dsimp only at h))))
  (refine seE ?_)
  exact ⟨[h2], (by (exact keA)), A, c, h2, rfl, rfl, ha2⟩
theorem has_any (b : Nat) (s : Kn) (a : KA) (n : Int) (F : Hp) (h : KF F b s a) : Spec Tryz.prog 80 [ptrV b, .int .i64 n] F [] fun v hs => v = .bool (hasK s n) ∧ hs = [] := by
  refine Spec.enter Tryz.func80 rfl Tryz.ntmps80 rfl fun B => ?_
  have hb := h.blk
  have hlen : s.tasks.length = a.ts.length := by rw [← h.tasks, List.length_map]
  by_cases h1 : 0 ≤ n
  · obtain ⟨m, rfl⟩ : ∃ m : Nat, n = m := ⟨n.toNat, by omega⟩
    by_cases h2 : m < a.ts.length
    · obtain ⟨t, ht⟩ : ∃ t, a.ts[m]? = some t := ⟨_, List.getElem?_eq_getElem (by simpa using h2)⟩
      obtain ⟨g, o, eA, g1⟩ := h.tx.at_.row.elem 4 (fun _ => rfl) (by omega) m t ht
      have hp : periodV s.tasks (m : Int) = t.period := by rw [← h.tasks]; exact periodV_at ht
      have hv : hasK s (m : Int) = decide (0 < t.period) := by
        unfold hasK; rw [hp, decide_eq_true (by omega : (0 : Int) ≤ (m : Nat)), decide_eq_true (by omega : (m : Int) < (s.tasks.length : Nat))]; rfl
      rw [hv]
      repeat' (first | ((apply WL.rd; (exact rfl); (exact Rn.cmp (b := true) rfl rfl (congrArg some (decide_eq_true (by omega)))))) | ((apply WL.rd; (exact rfl); (exact Rn.indexAddrE m eA rfl rfl (by first | rfl | omega) (by first | assumption | omega)))) | ((apply WL.rd; (exact rfl); (apply Rn.load; (exact rfl); (exact (CellsAt.weak g1 (by simp)) 0 _ rfl)))) | (first | refine soA ?_ | refine sgA ?_ | refine sxA ?_ | refine sbA ?_ | refine fun (Q : Post) hQ => ?_ | refine fun (nb : Nat) => (?_ : WL _ _ _ _ _ _ _ _ _) | (refine WL.guard rfl rfl rfl (fun h => ?_) (fun h => ?_) <;> (try dsimp only at h))))
      ((refine seE ?_); refine ⟨[], Keep.nil, ?_⟩)
      exact ⟨rfl, rfl⟩
    · have hv : hasK s (m : Int) = false := by unfold hasK; rw [decide_eq_false (by omega : ¬ (m : Int) < (s.tasks.length : Nat))]; simp
      rw [hv]
      repeat' (first | ((apply WL.rd; (exact rfl); (exact ckA))) | (first | refine soA ?_ | refine sgA ?_ | refine sxA ?_ | refine sbA ?_ | refine fun (Q : Post) hQ => ?_ | refine fun (nb : Nat) => (?_ : WL _ _ _ _ _ _ _ _ _) | (refine WL.guard rfl rfl rfl (fun h => ?_) (fun h => ?_) <;> (try dsimp only at h))))
      ((refine seE ?_); refine ⟨[], Keep.nil, ?_⟩)
      exact ⟨rfl, rfl⟩
  · have hv : hasK s n = false := by unfold hasK; rw [decide_eq_false h1]; rfl
    rw [hv]
    repeat' (first | ((apply WL.rd; (exact rfl); (exact ckA))) | (first | refine soA ?_ | refine sgA ?_ | refine sxA ?_ | refine sbA ?_ | refine fun (Q : Post) hQ => ?_ | refine fun (nb : Nat) => (?_ : WL _ _ _ _ _ _ _ _ _) | (refine WL.guard rfl rfl rfl (fun h => ?_) (fun h => ?_) <;> (try dsimp only at h))))
    ((refine seE ?_); refine ⟨[], Keep.nil, ?_⟩)
    exact ⟨rfl, rfl⟩
set_option maxHeartbeats 8000000 in
theorem end_any (b : Nat) (s : Kn) (kind : Int) (j : JobV) (F : Hp) (hs : List Hp) (ho : KerC b s hs) (w : KOk s) (hj : 0 ≤ j.task ∧ j.task < 6) (hf : (s.events.length + 1) * 32 ≤ 140737488355328) : Spec Tryz.prog 244 [ptrV b, .int .i64 kind, .agg j.enc.toArray] F hs fun v hs' => v = .tuple #[] ∧ KerC b (endK s kind j) hs' := by
  obtain ⟨a, hP, hT, hM, hN, hU, hS, hK, hL, hA, hI, hD, hE, hR, hV, hC, rfl, k⟩ := ho
  refine Spec.enter Tryz.func244 rfl Tryz.ntmps244 rfl fun B => ?_
  have hst := w.stk
  have hhl := w.hlen
  obtain ⟨m, hm⟩ : ∃ m : Nat, j.task = m := ⟨j.task.toNat, by omega⟩
  have hml : m < a.ts.length := by have := w.nt; rw [← k.tasks, List.length_map] at this; omega
  have hmu : m < s.used.length := by have := w.nu; omega
  repeat' (first | refine soA ?_ | refine sgA ?_ | refine sxA ?_ | refine sbA ?_ | refine fun (Q : Post) hQ => ?_ | refine fun (nb : Nat) => (?_ : WL _ _ _ _ _ _ _ _ _) | (refine WL.guard rfl rfl rfl (fun h => ?_) (fun h => ?_) <;> (try dsimp only at h)))
  refine dra [(0, []), (5, [])] [] ?_
  refine drp 7 0 1 ?_
  refine drp 7 1 3 ?_
  refine drp 7 2 7 ?_
  refine drl 7 3 0 15 ?_
  refine drp 7 4 31 ?_
  refine drl 7 5 1 63 ?_
  refine dr1 6 ?_
  refine dre 7 6 127 ?_
  (refine WO.callN Tryz.func269 rfl (by kernel_rfl) rfl (own := [hS]) (by (exact tsA)) (fun G hG hh => Spec.objW k.hS (fun hs hr => rydrop_any a.sb s.jobs j.task G hs hr)) ?_; rintro v own' ⟨hS1, rfl, tS⟩)
  refine ⟨piA, ?_⟩
  refine drz ?_
  have tS1 : Thing (RdyC a.sb (offJ j.task s.jobs)) hS1 := tS.mono fun hs h => h.2
  repeat' (first | ((apply WL.rd; (exact rfl); (exact Rn.makeFunc rfl rfl))) | ((refine WL.ex rfl (WO.callN Tryz.func270 rfl (by kernel_rfl) rfl (own := [hK]) (by (exact tsA)) (fun G hG hh => deleteI_any Tryz.func271 rfl (by kernel_rfl) [.pointer (some ⟨nb, 0, none⟩)] (fun x => x == j.task) a.A4 a.c4 s.stack hK G k.hK (by omega) (fun G' g' x => endF_any x nb j G' (g' _ _ (one_in (hh (one nb (cells j.enc 142)) (by simp)))))) ?_); rintro v own' ⟨hK1, rfl, rfl, haK⟩)) | (first | refine soA ?_ | refine sgA ?_ | refine sxA ?_ | refine sbA ?_ | refine fun (Q : Post) hQ => ?_ | refine fun (nb : Nat) => (?_ : WL _ _ _ _ _ _ _ _ _) | (refine WL.guard rfl rfl rfl (fun h => ?_) (fun h => ?_) <;> (try dsimp only at h))))
  refine dra [(0, []), (5, [])] [] ?_
  refine drp 7 0 1 ?_
  refine drp 7 1 3 ?_
  refine drp 7 2 7 ?_
  refine drl 7 3 0 15 ?_
  refine drp 7 4 31 ?_
  refine drl 7 5 1 63 ?_
  refine dr1 6 ?_
  refine dre 7 6 127 ?_
  (refine WO.callN Tryz.func272 rfl (by kernel_rfl) rfl (own := [hL]) (by (exact tsA)) (fun G hG hh => Spec.objW k.hL (fun hs hr => free_any a.lk s.held j.task G hs hr (by omega))) ?_; rintro v own' ⟨hL1, rfl, tL⟩)
  refine ⟨piA, ?_⟩
  refine drz ?_
  have tL1 : Thing (LockC a.lk (freeL j.task s.held)) hL1 := tL.mono fun hs h => h.2
  obtain ⟨t, ht⟩ : ∃ t, a.ts[m]? = some t := ⟨_, List.getElem?_eq_getElem hml⟩
  obtain ⟨g, o, eA, g1⟩ := (RowAt.arr (F := F) (hs := [hT]) k.hT (by simp)).elem 4 (fun _ => rfl) (by omega) m t ht
  obtain ⟨gU, LU, eU, rfl, hUa, hUi, _⟩ := arr_at (f := encI) (sz := 1) (fun _ => rfl) k.hU hmu
  have hlu : (s.used.set m (w64 (t.cycles - j.left))).length = s.used.length := List.length_set
  repeat' (first | refine soA ?_ | refine sgA ?_ | refine sxA ?_ | refine sbA ?_ | refine fun (Q : Post) hQ => ?_ | refine fun (nb : Nat) => (?_ : WL _ _ _ _ _ _ _ _ _) | (refine WL.guard rfl rfl rfl (fun h => ?_) (fun h => ?_) <;> (try dsimp only at h)))
  refine dra [(0, []), (5, [])] [(hT, [])] ?_
  refine drp 20 0 1 ?_
  refine drp 20 1 3 ?_
  refine drp 20 2 7 ?_
  refine drl 20 3 0 15 ?_
  refine drp 20 4 31 ?_
  refine drl 20 5 1 63 ?_
  refine drp 20 6 127 ?_
  refine drp 20 7 255 ?_
  refine drp 20 8 511 ?_
  refine drl 20 9 0 1023 ?_
  refine drp 20 10 2047 ?_
  refine drl 20 11 1 4095 ?_
  refine drp 20 12 8191 (hy := by (exact Rn.indexAddrE m eA rfl rfl hm hml)) ?_
  refine drp 20 13 16383 ?_
  refine drl 20 14 2 32767 (hy := by (apply Rn.load; (exact rfl); (exact g1 1 _ rfl))) ?_
  refine drp 20 15 65535 ?_
  refine drl 20 16 1 131071 ?_
  refine drp 20 17 262143 (hy := by (exact Rn.subW rfl rfl)) ?_
  refine drp 20 18 524287 (hy := by (exact Rn.indexAddrE m eU rfl rfl hm hmu)) ?_
  refine dr1 19 ?_
  refine drf 20 19 1048575 ?_
  (apply WO.storeC (l := LU) (vs := [.int .i64 (w64 (t.cycles - j.left))]) (b := gU) (o := 0 + m * 1); (exact rfl); (exact rfl); (exact rfl); (exact rfl); (exact rfl); (exact rpA); (exact hUi))
  refine ⟨piA, ?_⟩
  refine drz ?_
  rw [← hlu]
  repeat' (first | refine soA ?_ | refine sgA ?_ | refine sxA ?_ | refine sbA ?_ | refine fun (Q : Post) hQ => ?_ | refine fun (nb : Nat) => (?_ : WL _ _ _ _ _ _ _ _ _) | (refine WL.guard rfl rfl rfl (fun h => ?_) (fun h => ?_) <;> (try dsimp only at h)))
  have ker : KerC b { s with jobs := offJ j.task s.jobs, stack := stackOff j.task s.stack, held := freeL j.task s.held, used := s.used.set m (w64 (t.cycles - j.left)), ended := true } _ := ⟨a, hP, hT, hM, hN, _, hS1, hK1, hL1, hA, hI, hD, hE, hR, hV, hC, rfl, { k with hS := tS1, hK := haK, hL := tL1, hU := hUa (w64 (t.cycles - j.left)) }⟩
  refine dra [(5, [10]), (0, [10])] [] ?_
  refine drp 11 0 1 ?_
  refine drp 11 1 3 ?_
  refine drp 11 2 7 ?_
  refine drl 11 3 0 15 ?_
  refine drp 11 4 31 ?_
  refine drp 11 5 63 ?_
  refine drp 11 6 127 ?_
  refine drl 11 7 1 255 ?_
  refine drp 11 8 511 ?_
  refine drl 11 9 0 1023 ?_
  refine dr1 10 ?_
  refine dre 11 10 2047 ?_
  (refine WO.callN Tryz.func102 rfl (by kernel_rfl) rfl (by (exact tsA)) (fun G hG hh => tell_any b _ kind j.task s.now j.deadline G _ ker hf) ?_; rintro v own' ⟨rfl, hk2⟩)
  refine ⟨piA, ?_⟩
  refine drz ?_
  repeat' (first | refine soA ?_ | refine sgA ?_ | refine sxA ?_ | refine sbA ?_ | refine fun (Q : Post) hQ => ?_ | refine fun (nb : Nat) => (?_ : WL _ _ _ _ _ _ _ _ _) | (refine WL.guard rfl rfl rfl (fun h => ?_) (fun h => ?_) <;> (try dsimp only at h)))
  (refine seE ?_)
  have hst2 : s.tasks[m]? = some t.pl := by rw [← k.tasks]; exact mapT_get ht
  have he : endK s kind j = tellK { s with jobs := offJ j.task s.jobs, stack := stackOff j.task s.stack, held := freeL j.task s.held, used := s.used.set m (w64 (t.cycles - j.left)), ended := true } kind j.task s.now j.deadline := by
    unfold endK tellK
    rw [hm, Int.toNat_natCast, hst2]; rfl
  exact ⟨own', keep_app own' _, rfl, he ▸ hk2⟩
end Go.Proofs.YtflgnpidelkkpaaGreat
namespace Go.Proofs.YtflgnpidelkkpaaGreat
set_option maxRecDepth 8000
set_option maxHeartbeats 1000000
set_option linter.unusedVariables false
set_option linter.unusedSimpArgs false
theorem RowAt.own {F hP : Hp} {A : Option Addr} {vs : List Value} (h : RowAt hP [] A vs) : RowAt F [hP] A vs := fun j v hj => by
  obtain ⟨b, o, e, cs, t, fz, hat, hv⟩ := h j v hj
  refine ⟨b, o, e, cs, t, fz, ?_, hv⟩
  cases hat with
  | ro hg => exact At.here hg
structure KG (F : Hp) (s : Kn) (a : KA) : Prop where
  plat : PlatAt F a.p
  tx : TasksX F a.A1 a.ts
  nx : RowAt F [] a.A2 (s.next.flatMap encI)
  tasks : a.ts.map TaskV.pl = s.tasks
  pl : a.p.pl = s.p
theorem KParts.kg {s : Kn} {a : KA} {hP hT hM hN hU hS hK hL hA hI hD hE hR hV hC : Hp} (k : KParts s a hP hT hM hN hU hS hK hL hA hI hD hE hR hV hC) (w : KOk s) {G : Hp} (h1 : hP.le G) (h2 : hT.le G) (h3 : hM.le G) (h4 : hN.le G) : KG G s a :=
  ⟨k.plat.up h1, k.tx w h2 h3, k.hN.rowX h4, k.tasks, k.pl⟩
theorem KG.lev {F : Hp} {s : Kn} {a : KA} (h : KG F s a) : a.p.levels.xs = s.p.levels := congrArg PP.levels h.pl
theorem KG.crit {F : Hp} {s : Kn} {a : KA} (h : KG F s a) (w : KOk s) : 0 ≤ a.p.crit ∧ a.p.crit < (a.p.levels.xs.length : Nat) := by
  have e : a.p.crit = s.p.crit := congrArg PP.crit h.pl
  rw [h.lev, e]; exact w.crit
theorem KG.lev4 {F : Hp} {s : Kn} {a : KA} (h : KG F s a) (w : KOk s) : a.p.levels.xs.length ≤ 4 := by rw [h.lev]; exact w.lev
theorem KG.tlen {F : Hp} {s : Kn} {a : KA} (h : KG F s a) (w : KOk s) : a.ts.length = 6 := by rw [← w.nt, ← h.tasks, List.length_map]
def sleepingK (s : Kn) : Kn := if w64 (s.wake - (slpOf s.p s.state).exit) ≤ s.now then didK { s with asleep := false } 6 (slpOf s.p s.state).exit s.state 0 0 else didK s 5 1 s.state 0 0
def nobodyK (s : Kn) : Kn :=
  if (bestV s.p.sleeps (w64 (readyV s.p s.tasks s.next s.now - s.now))).2 = true ∧ s.naps = true then
    didK { s with ended := false, asleep := true, state := (bestV s.p.sleeps (w64 (readyV s.p s.tasks s.next s.now - s.now))).1, wake := readyV s.p s.tasks s.next s.now } 4 (slpOf s.p (bestV s.p.sleeps (w64 (readyV s.p s.tasks s.next s.now - s.now))).1).enter (bestV s.p.sleeps (w64 (readyV s.p s.tasks s.next s.now - s.now))).1 0 0
  else didK { s with ended := false } 2 1 0 0 0
theorem slpOf_at {p : PP} {m : Nat} {x : SleepV} (h : p.sleeps[m]? = some x) : slpOf p (m : Int) = x := by
  have hl := (List.getElem?_eq_some_iff.1 h).1
  rw [slpOf, if_neg (by omega), Int.toNat_natCast, List.getD_eq_getElem?_getD, h]; rfl
theorem levOf_at {p : PP} {m : Nat} {x : LevelV} (h : p.levels[m]? = some x) : levOf p (m : Int) = x := by
  have hl := (List.getElem?_eq_some_iff.1 h).1
  rw [levOf, if_neg (by omega), Int.toNat_natCast, List.getD_eq_getElem?_getD, h]; rfl
attribute [local irreducible] W X WL WA WB WG WO Rn Own one splice Arr Spec WQ WH Qn
theorem KG.ready {F : Hp} {s : Kn} {a : KA} (h : KG F s a) (w : KOk s) (now : Int) : Spec Tryz.prog 248 [.agg a.p.enc.toArray, .slice a.A1 a.ts.length a.c1, .slice a.A2 s.next.length a.c2, .int .i64 now] F [] fun v hs => v = .int .i64 (readyV s.p s.tasks s.next now) ∧ hs = [] := by
  have k := ready_any a.p a.A1 a.c1 a.ts a.A2 a.c2 s.next now F h.plat (h.crit w) (h.lev4 w) h.tx h.nx (by rw [w.nn, h.tlen w])
  rwa [h.pl, h.tasks] at k
theorem KG.best {F : Hp} {s : Kn} {a : KA} (h : KG F s a) (w : KOk s) (stay : Int) : Spec Tryz.prog 249 [.agg a.p.enc.toArray, .int .i64 stay] F [] fun v hs => v = .tuple #[.int .i64 (bestV s.p.sleeps stay).1, .bool (bestV s.p.sleeps stay).2] ∧ hs = [] := by
  have e : a.p.sleeps.xs = s.p.sleeps := congrArg PP.sleeps h.pl
  have k := best_any a.p stay F h.plat (by rw [e]; exact w.slp)
  rwa [e] at k
set_option maxHeartbeats 4000000 in
theorem sleeping_any (b : Nat) (s : Kn) (F : Hp) (hs : List Hp) (ho : KerC b s hs) (w : KOk s) (ha : s.asleep = true) (hf : (s.trace.length + 1) * 48 ≤ 140737488355328) : Spec Tryz.prog 206 [ptrV b] F hs fun v hs' => v = .tuple #[] ∧ KerC b (sleepingK s) hs' := by
  have ho2 := ho
  obtain ⟨a, hP, hT, hM, hN, hU, hS, hK, hL, hA, hI, hD, hE, hR, hV, hC, rfl, k⟩ := ho
  refine Spec.enter Tryz.func206 rfl Tryz.ntmps206 rfl fun B => ?_
  have hsl := w.slpd ha
  obtain ⟨m, hm⟩ : ∃ m : Nat, s.state = m := ⟨s.state.toNat, by omega⟩
  have hps : a.p.sleeps.xs = s.p.sleeps := congrArg PP.sleeps k.pl
  have hml : m < a.p.sleeps.xs.length := by rw [hps]; omega
  obtain ⟨x, hx⟩ : ∃ x, a.p.sleeps.xs[m]? = some x := ⟨_, List.getElem?_eq_getElem (by simpa using hml)⟩
  have hxo : slpOf s.p s.state = x := by rw [hm]; exact slpOf_at (hps ▸ hx)
  obtain ⟨g, o, eA, g1⟩ := (RowAt.own (F := F) k.plat.sleeps).elem 6 (fun _ => rfl) (by omega) m x hx
  repeat' (first | refine soA ?_ | refine sgA ?_ | refine sxA ?_ | refine sbA ?_ | refine fun (Q : Post) hQ => ?_ | refine fun (nb : Nat) => (?_ : WL _ _ _ _ _ _ _ _ _) | (refine WL.guard rfl rfl rfl (fun h => ?_) (fun h => ?_) <;> (try dsimp only at h)))
  refine dra [(0, [])] [(hP, [])] ?_
  refine drp 13 0 1 ?_
  refine drp 13 1 3 ?_
  refine drp 13 2 7 ?_
  refine drp 13 3 15 ?_
  refine drl 13 4 0 31 ?_
  refine drp 13 5 63 ?_
  refine drp 13 6 127 ?_
  refine drp 13 7 255 ?_
  refine drl 13 8 0 511 ?_
  refine drp 13 9 1023 (hy := by (exact Rn.indexAddrE m eA rfl rfl hm hml)) ?_
  refine drl 13 10 1 2047 (hy := by (apply Rn.loadS; (exact rfl); (exact g1); (exact rfl))) ?_
  refine dr1 11 ?_
  refine dre 13 11 4095 ?_
  (refine WO.alloc ?_; intro nb)
  refine ⟨piA, ?_⟩
  refine dr1 12 ?_
  refine drf 13 12 8191 ?_
  (refine swA ?_)
  refine ⟨piA, ?_⟩
  refine drz ?_
  by_cases e : w64 (s.wake - x.exit) ≤ s.now
  · skip
    repeat' (first | ((refine W.quiet (id := 1) (by kernel_rfl) (by kernel_rfl) ?_)) | ((apply WQ.rd; (exact rfl); apply Rn.q; (exact Rn.cmp (b := true) rfl rfl (congrArg some (decide_eq_true e))))) | ((apply WQ.rd; (exact rfl); apply Rn.q; (exact Rn.subW rfl rfl))) | (first | refine sqA ?_ | refine soA ?_ | refine sgA ?_ | refine sxA ?_ | refine sbA ?_ | refine fun (Q : Post) hQ => ?_ | refine fun (nb : Nat) => (?_ : WL _ _ _ _ _ _ _ _ _) | (refine WL.guard rfl rfl rfl (fun h => ?_) (fun h => ?_) <;> (try dsimp only at h)) | (refine WQ.guard rfl rfl rfl (fun h => ?_) (fun h => ?_) <;> (try dsimp only at h))))
    have ker : KerC b { s with asleep := false } _ := ⟨a, hP, hT, hM, hN, hU, hS, hK, hL, hA, hI, hD, hE, hR, hV, hC, rfl, { k with }⟩
    refine dra [(2, [7]), (0, [7])] [] ?_
    refine drp 8 0 1 ?_
    refine drp 8 1 3 ?_
    refine drl 8 2 0 7 ?_
    refine drp 8 3 15 ?_
    refine drp 8 4 31 ?_
    refine drp 8 5 63 ?_
    refine drl 8 6 1 127 ?_
    refine dr1 7 ?_
    refine dre 8 7 255 ?_
    (refine WO.callN Tryz.func242 rfl (by kernel_rfl) rfl (by (exact tsA)) (fun G hG hh => did_any b _ 6 x.exit s.state 0 0 G _ ker hf) ?_; rintro v own' ⟨rfl, hk2⟩)
    refine ⟨piA, ?_⟩
    refine drz ?_
    repeat' (first | refine soA ?_ | refine sgA ?_ | refine sxA ?_ | refine sbA ?_ | refine fun (Q : Post) hQ => ?_ | refine fun (nb : Nat) => (?_ : WL _ _ _ _ _ _ _ _ _) | (refine WL.guard rfl rfl rfl (fun h => ?_) (fun h => ?_) <;> (try dsimp only at h)))
    (refine seE ?_)
    exact ⟨own', keep_app own' _, rfl, by rw [sleepingK, hxo, if_pos e]; exact hk2⟩
  · skip
    repeat' (first | ((refine W.quiet (id := 1) (by kernel_rfl) (by kernel_rfl) ?_)) | ((apply WQ.rd; (exact rfl); apply Rn.q; (exact Rn.cmp (b := false) rfl rfl (congrArg some (decide_eq_false e))))) | ((apply WQ.rd; (exact rfl); apply Rn.q; (exact Rn.subW rfl rfl))) | ((refine WL.ex0 (WO.callN Tryz.func242 rfl (by kernel_rfl) rfl (by (exact tsA)) (fun G hG hh => did_any b s 5 1 s.state 0 0 G _ ho2 hf) ?_); rintro v own' ⟨rfl, hk2⟩)) | ((refine WL.ex rfl (WO.callN Tryz.func242 rfl (by kernel_rfl) rfl (by (exact tsA)) (fun G hG hh => did_any b s 5 1 s.state 0 0 G _ ho2 hf) ?_); rintro v own' ⟨rfl, hk2⟩)) | (first | refine sqA ?_ | refine soA ?_ | refine sgA ?_ | refine sxA ?_ | refine sbA ?_ | refine fun (Q : Post) hQ => ?_ | refine fun (nb : Nat) => (?_ : WL _ _ _ _ _ _ _ _ _) | (refine WL.guard rfl rfl rfl (fun h => ?_) (fun h => ?_) <;> (try dsimp only at h)) | (refine WQ.guard rfl rfl rfl (fun h => ?_) (fun h => ?_) <;> (try dsimp only at h))))
    (refine seE ?_)
    exact ⟨own', keep_app own' _, rfl, by rw [sleepingK, hxo, if_neg e]; exact hk2⟩
set_option maxHeartbeats 8000000 in
theorem nobody_any (b : Nat) (s : Kn) (F : Hp) (hs : List Hp) (ho : KerC b s hs) (w : KOk s) (hf : (s.trace.length + 1) * 48 ≤ 140737488355328) : Spec Tryz.prog 208 [ptrV b] F hs fun v hs' => v = .tuple #[] ∧ KerC b (nobodyK s) hs' := by
  obtain ⟨a, hP, hT, hM, hN, hU, hS, hK, hL, hA, hI, hD, hE, hR, hV, hC, rfl, k⟩ := ho
  refine Spec.enter Tryz.func208 rfl Tryz.ntmps208 rfl fun B => ?_
  generalize hwk : readyV s.p s.tasks s.next s.now = wk
  generalize hbs : bestV s.p.sleeps (w64 (wk - s.now)) = bs
  obtain ⟨n, ok⟩ := bs
  have hin := bestF_in s.p.sleeps (w64 (wk - s.now)) s.p.sleeps.length (Nat.le_refl _)
  rw [show (List.range s.p.sleeps.length).foldl (bestF s.p.sleeps (w64 (wk - s.now))) (0, false) = bestV s.p.sleeps (w64 (wk - s.now)) from rfl, hbs] at hin
  dsimp only at hin
  repeat' (first | ((refine W.quiet (id := 1) (by kernel_rfl) (by kernel_rfl) ?_)) | ((refine W.quiet (id := 2) (by kernel_rfl) (by kernel_rfl) ?_)) | ((apply WQ.rd; (exact rfl); apply Rn.q; (exact Rn.loadS (vs := a.p.enc) rfl (CellsAt.part (by (exact atA)) rfl) rfl))) | ((apply WQ.rd; (exact rfl); apply Rn.q; (exact Rn.subW rfl rfl))) | ((apply WQ.rd; (exact rfl); (refine Qn.call Tryz.func248 rfl (by kernel_rfl) rfl (by (exact tsA)) (fun G hG hh => hwk ▸ (k.kg w (hh hP (by simp)) (hh hT (by simp)) (hh hM (by simp)) (hh hN (by simp))).ready w s.now)))) | ((apply WQ.rd; (exact rfl); (refine Qn.call Tryz.func249 rfl (by kernel_rfl) rfl (by (exact tsA)) (fun G hG hh => hbs ▸ (k.kg w (hh hP (by simp)) (hh hT (by simp)) (hh hM (by simp)) (hh hN (by simp))).best w _)))) | (first | refine sqA ?_ | refine soA ?_ | refine sgA ?_ | refine sxA ?_ | refine sbA ?_ | refine fun (Q : Post) hQ => ?_ | refine fun (nb : Nat) => (?_ : WL _ _ _ _ _ _ _ _ _) | (refine WL.guard rfl rfl rfl (fun h => ?_) (fun h => ?_) <;> (try dsimp only at h)) | (refine WQ.guard rfl rfl rfl (fun h => ?_) (fun h => ?_) <;> (try dsimp only at h))))
  refine W.cond rfl (fun h => ?_) (fun h => ?_)
  · have h' : ok = true ∧ s.naps = true := by simpa using h
    obtain ⟨m, hm, hml0⟩ := hin h'.1
    have hps : a.p.sleeps.xs = s.p.sleeps := congrArg PP.sleeps k.pl
    have hml : m < a.p.sleeps.xs.length := by rw [hps]; exact hml0
    obtain ⟨x, hx⟩ : ∃ x, a.p.sleeps.xs[m]? = some x := ⟨_, List.getElem?_eq_getElem (by simpa using hml)⟩
    have hxo : slpOf s.p n = x := by rw [hm]; exact slpOf_at (hps ▸ hx)
    obtain ⟨g, o, eA, g1⟩ := (RowAt.own (F := F) k.plat.sleeps).elem 6 (fun _ => rfl) (by omega) m x hx
    have ker : KerC b { s with ended := false, asleep := true, state := n, wake := wk } _ := ⟨a, hP, hT, hM, hN, hU, hS, hK, hL, hA, hI, hD, hE, hR, hV, hC, rfl, { k with }⟩
    repeat' (first | ((apply WL.rd; (exact rfl); (exact Rn.indexAddrE m eA rfl rfl hm hml))) | ((apply WL.rd; (exact rfl); (apply Rn.load; (exact rfl); (exact (CellsAt.weak g1 (by simp)) 1 _ rfl)))) | ((refine WL.ex rfl (WO.callN Tryz.func242 rfl (by kernel_rfl) rfl (by (exact tsA)) (fun G hG hh => did_any b _ 4 x.enter n 0 0 G _ ker hf) ?_); rintro v own' ⟨rfl, hk2⟩)) | (first | refine soA ?_ | refine sgA ?_ | refine sxA ?_ | refine sbA ?_ | refine fun (Q : Post) hQ => ?_ | refine fun (nb : Nat) => (?_ : WL _ _ _ _ _ _ _ _ _) | (refine WL.guard rfl rfl rfl (fun h => ?_) (fun h => ?_) <;> (try dsimp only at h))))
    (refine seE ?_)
    refine ⟨own', keep_app own' _, rfl, ?_⟩
    rw [nobodyK, hwk, hbs, if_pos h', hxo]; exact hk2
  · have h' : ¬ (ok = true ∧ s.naps = true) := by simpa using h
    have ker : KerC b { s with ended := false } _ := ⟨a, hP, hT, hM, hN, hU, hS, hK, hL, hA, hI, hD, hE, hR, hV, hC, rfl, { k with }⟩
    repeat' (first | ((refine WL.ex rfl (WO.callN Tryz.func242 rfl (by kernel_rfl) rfl (by (exact tsA)) (fun G hG hh => did_any b _ 2 1 0 0 0 G _ ker hf) ?_); rintro v own' ⟨rfl, hk2⟩)) | (first | refine soA ?_ | refine sgA ?_ | refine sxA ?_ | refine sbA ?_ | refine fun (Q : Post) hQ => ?_ | refine fun (nb : Nat) => (?_ : WL _ _ _ _ _ _ _ _ _) | (refine WL.guard rfl rfl rfl (fun h => ?_) (fun h => ?_) <;> (try dsimp only at h))))
    (refine seE ?_)
    refine ⟨own', keep_app own' _, rfl, ?_⟩
    rw [nobodyK, hwk, hbs, if_neg h']; exact hk2
end Go.Proofs.YtflgnpidelkkpaaGreat
namespace Go.Proofs.YtflgnpidelkkpaaGreat
set_option maxRecDepth 8000
set_option maxHeartbeats 1000000
set_option linter.unusedVariables false
set_option linter.unusedSimpArgs false
theorem TasksX.there {F : Hp} {A A' : Option Addr} {ts : List TaskV} (h : TasksX F A ts) {c : Nat} {h1 G : Hp} (hG : F.le G) (ha : ArrK (thereT ts) A' c h1) (h2 : h1.le G) : TasksX G A' (thereT ts) := by
  have hs : ∀ t ∈ thereT ts, t ∈ ts := fun t ht => (List.mem_filter.1 ht).1
  have hl : (thereT ts).length ≤ ts.length := List.length_filter_le _ _
  have hf := h.at_.fit
  exact ⟨⟨Arr.rowX ha h2, fun t ht => (h.at_.sec t (hs t ht)).up hG (by simp), by omega⟩, fun t ht => (h.dev t (hs t ht)).up hG (by simp), fun t ht => h.secF t (hs t ht), fun t ht => h.devF t (hs t ht)⟩
def usedF (ts : List TT) (us : List Int) (l : List Int) (n : Nat) : List Int := match ts[n]? with
  | none => l
  | some t => if 0 < t.period then l ++ [us.getD n 0] else l
def usedT (ts : List TT) (us : List Int) : List Int := (List.range ts.length).foldl (usedF ts us) []
def staticK (s : Kn) : Int := if s.policy = 3 then spareV s.p (thereK s.tasks) (usedT s.tasks s.used) else slowestV s.p (thereK s.tasks)
theorem used_len (ts : List TT) (us : List Int) (hp : ∀ t ∈ ts, 0 ≤ t.period) : ∀ k, k ≤ ts.length → ((List.range k).foldl (usedF ts us) []).length = (thereK (ts.take k)).length
  | 0, _ => rfl
  | k + 1, hk => by
    obtain ⟨t, ht⟩ : ∃ t, ts[k]? = some t := ⟨_, List.getElem?_eq_getElem (by omega)⟩
    have ih := used_len ts us hp k (by omega)
    have h0 := hp t (List.mem_of_getElem? ht)
    rw [foldl_range_succ, List.take_add_one, ht]
    unfold thereK at ih ⊢
    rw [List.filter_append, List.length_append, ← ih]
    unfold usedF
    rw [ht]
    dsimp only
    by_cases e : 0 < t.period
    · have e2 : (t.period == 0) = false := beq_eq_false_iff_ne.2 (by omega)
      rw [if_pos e, List.length_append]
      simp [e2]
    · have e2 : (t.period == 0) = true := beq_iff_eq.2 (by omega)
      rw [if_neg e]
      simp [e2]
structure StS where
  k : Nat
  l : List Int
  A : Option Addr
  c : Nat
  h : Hp
attribute [local irreducible] W X WL WA WB WG WO Rn Own one splice Arr Spec WQ WH Qn
set_option maxHeartbeats 8000000 in
theorem static_any (b : Nat) (s : Kn) (a : KA) (F : Hp) (h : KF F b s a) (w : KOk s) : Spec Tryz.prog 275 [ptrV b] F [] fun v hs => v = .int .i64 (staticK s) ∧ hs = [] := by
  refine Spec.enter Tryz.func275 rfl Tryz.ntmps275 rfl fun B => ?_
  have hb := h.blk
  have htl : a.ts.length = 6 := by rw [← w.nt, ← h.tasks, List.length_map]
  have elev : a.p.levels.xs = s.p.levels := congrArg PP.levels h.pl
  have ecr : a.p.crit = s.p.crit := congrArg PP.crit h.pl
  have hc : 0 ≤ a.p.crit ∧ a.p.crit < (a.p.levels.xs.length : Nat) := by rw [elev, ecr]; exact w.crit
  have hl4 : a.p.levels.xs.length ≤ 4 := by rw [elev]; exact w.lev
  have hth : (thereT a.ts).map TaskV.pl = thereK s.tasks := by rw [thereT_pl, h.tasks]
  by_cases e : s.policy = 3
  · have hv : staticK s = spareV s.p (thereK s.tasks) (usedT s.tasks s.used) := if_pos e
    refine W.pad ?_
    repeat' (first | ((apply WL.rd; (exact rfl); (exact Rn.cmp (b := false) rfl rfl (congrArg some (bne_eq_false_iff_eq.2 e))))) | (first | refine soA ?_ | refine sgA ?_ | refine sxA ?_ | refine sbA ?_ | refine fun (Q : Post) hQ => ?_ | refine fun (nb : Nat) => (?_ : WL _ _ _ _ _ _ _ _ _) | (refine WL.guard rfl rfl rfl (fun h => ?_) (fun h => ?_) <;> (try dsimp only at h))))
    refine W.loopK (σ := StS) ⟨fun x => x.k ≤ a.ts.length ∧ x.l = (List.range x.k).foldl (usedF s.tasks s.used) [] ∧ x.l.length ≤ x.k ∧ Arr 3 1 x.l.length (x.l.flatMap encI) x.A x.c x.h, fun x => [(23, some (.int .i64 (x.k : Nat))), (22, some (.int .i64 (a.ts.length : Nat))), (21, some (.slice a.A1 a.ts.length a.c1)), (0, some (ptrV b)), (3, some (.slice x.A x.l.length x.c))], fun x => [x.h], fun x => a.ts.length - x.k⟩ ⟨0, [], none, 0, Hp.none⟩ ⟨Nat.zero_le _, rfl, Nat.le_refl _, Arr.nil _ _⟩ (by repeat' (first | exact trivial | refine ⟨rfl, ?_⟩)) (by (exact keA)) ?_
    rintro ⟨k, l, A, c, h0⟩ ⟨hk, hl, hlk, ha⟩ Q hL
    dsimp only at hk hl hlk ha ⊢
    repeat' (first | refine soA ?_ | refine sgA ?_ | refine sxA ?_ | refine sbA ?_ | refine fun (Q : Post) hQ => ?_ | refine fun (nb : Nat) => (?_ : WL _ _ _ _ _ _ _ _ _) | (refine WL.guard rfl rfl rfl (fun h => ?_) (fun h => ?_) <;> (try dsimp only at h)))
    refine W.cond rfl (fun h3 => ?_) (fun h3 => ?_)
    · have hlt : k < a.ts.length := by simpa using h3
      obtain ⟨t, ht⟩ : ∃ t, a.ts[k]? = some t := ⟨_, List.getElem?_eq_getElem (by simpa using hlt)⟩
      obtain ⟨g, o, eA, g1⟩ := h.tx.at_.row.elem 4 (fun _ => rfl) (by omega) k t ht
      obtain ⟨u, hu⟩ : ∃ u, s.used[k]? = some u := ⟨_, List.getElem?_eq_getElem (by rw [w.nu]; omega)⟩
      obtain ⟨g2, o2, eA2, g3⟩ := ints_cell h.us hu
      have hst := foldl_range_succ (usedF s.tasks s.used) [] k
      rw [← hl] at hst
      have hst2 : s.tasks[k]? = some t.pl := by rw [← h.tasks]; exact mapT_get ht
      have huf : usedF s.tasks s.used l k = if 0 < t.period then l ++ [u] else l := by
        unfold usedF; rw [hst2, List.getD_eq_getElem?_getD, hu]; rfl
      rw [huf] at hst
      by_cases e3 : 0 < t.period
      · rw [if_pos e3] at hst
        have he : (l ++ [u]).length = l.length + 1 := by simp
        have hkb : k < s.used.length := by rw [w.nu]; omega
        repeat' (first | ((apply WL.rd; (exact rfl); (exact Rn.indexAddrE k eA rfl rfl (by first | rfl | omega) (by first | assumption | omega)))) | ((apply WL.rd; (exact rfl); (apply Rn.loadS; (exact rfl); (exact (CellsAt.weak g1 (by simp))); (exact rfl)))) | ((apply WL.rd; (exact rfl); (exact Rn.cmp (b := true) rfl rfl (congrArg some (decide_eq_true e3))))) | ((apply WL.rd; (exact rfl); (exact Rn.indexAddrE k eA2 rfl rfl rfl hkb))) | ((apply WL.rd; (exact rfl); (apply Rn.load; (exact rfl); (exact (CellsAt.weak g3 (by simp)) 0 _ rfl)))) | ((apply WL.ex; (exact rfl); (apply WO.append (h := h0) (news := [.int .i64 u]) (m := 1); (exact rfl); (exact rfl); (exact tkA); (exact ha); (exact rfl); (decide); (exact rfl); (apply RowAt.cells; (exact atA)); (exact rfl); (omega); (omega); intro A' c' h' ha'))) | (first | refine soA ?_ | refine sgA ?_ | refine sxA ?_ | refine sbA ?_ | refine fun (Q : Post) hQ => ?_ | refine fun (nb : Nat) => (?_ : WL _ _ _ _ _ _ _ _ _) | (refine WL.guard rfl rfl rfl (fun h => ?_) (fun h => ?_) <;> (try dsimp only at h))))
        exact hL.nx ⟨k + 1, l ++ [u], A', c', h'⟩ _ _ ⟨by dsimp only; omega, hst.symm, by dsimp only; omega, arrI_snoc ha'⟩ (by dsimp only; omega) (by repeat' (first | exact trivial | refine ⟨by rw [he]; rfl, ?_⟩ | refine ⟨rfl, ?_⟩)) (by (exact keA))
      · rw [if_neg e3] at hst
        repeat' (first | ((apply WL.rd; (exact rfl); (exact Rn.indexAddrE k eA rfl rfl (by first | rfl | omega) (by first | assumption | omega)))) | ((apply WL.rd; (exact rfl); (apply Rn.loadS; (exact rfl); (exact (CellsAt.weak g1 (by simp))); (exact rfl)))) | ((apply WL.rd; (exact rfl); (exact Rn.cmp (b := false) rfl rfl (congrArg some (decide_eq_false e3))))) | (first | refine soA ?_ | refine sgA ?_ | refine sxA ?_ | refine sbA ?_ | refine fun (Q : Post) hQ => ?_ | refine fun (nb : Nat) => (?_ : WL _ _ _ _ _ _ _ _ _) | (refine WL.guard rfl rfl rfl (fun h => ?_) (fun h => ?_) <;> (try dsimp only at h))))
        exact hL.nx ⟨k + 1, l, A, c, h0⟩ _ _ ⟨by dsimp only; omega, hst.symm, by dsimp only; omega, ha⟩ (by dsimp only; omega) (by repeat' (first | exact trivial | refine ⟨rfl, ?_⟩)) (by (exact keA))
    · obtain rfl : k = a.ts.length := by simp at h3; omega
      have htk : s.tasks.length = a.ts.length := by rw [← h.tasks, List.length_map]
      have hlu : l = usedT s.tasks s.used := by rw [hl, usedT, htk]
      have hll : l.length = (thereT a.ts).length := by
        have := used_len s.tasks s.used w.per s.tasks.length (Nat.le_refl _)
        rw [List.take_length, ← hth, List.length_map, htk, ← hl] at this
        exact this
      have hpl := h.pl
      repeat' (first | refine soA ?_ | refine sgA ?_ | refine sxA ?_ | refine sbA ?_ | refine fun (Q : Post) hQ => ?_ | refine fun (nb : Nat) => (?_ : WL _ _ _ _ _ _ _ _ _) | (refine WL.guard rfl rfl rfl (fun h => ?_) (fun h => ?_) <;> (try dsimp only at h)))
      refine dra [] [] ?_
      refine drp 9 0 1 ?_
      refine drp 9 1 3 ?_
      refine drp 9 2 7 ?_
      refine drp 9 3 15 (hy := by (exact Rn.loadS (vs := a.p.enc) rfl (CellsAt.part (At.ro hb) rfl) rfl)) ?_
      refine drp 9 4 31 ?_
      refine drp 9 6 95 ?_
      refine dr1 5 ?_
      refine dre 9 5 127 ?_
      (refine WO.callN Tryz.func146 rfl (by kernel_rfl) rfl Takes.nil (fun G hG hh => there_any b s a G (h.up hG)) ?_; rintro v own' ⟨A2, c2, h2, rfl, rfl, ha2⟩)
      refine ⟨piA, ?_⟩
      refine dr1 7 ?_
      refine dre 9 7 255 ?_
      (refine WO.callN Tryz.func289 rfl (by kernel_rfl) rfl Takes.nil (fun G hG hh => hpl ▸ hth ▸ spare_any a.p A2 c2 (thereT a.ts) A c l G (h.plat.up hG) hc hl4 (h.tx.there hG ha2 (hh h2 (by simp))) (ha.rowX (hh h0 (by simp))) hll) ?_; rintro v own' ⟨rfl, rfl⟩)
      refine ⟨piA, ?_⟩
      refine drp 9 8 511 ?_
      refine drz ?_
      repeat' (first | refine soA ?_ | refine sgA ?_ | refine sxA ?_ | refine sbA ?_ | refine fun (Q : Post) hQ => ?_ | refine fun (nb : Nat) => (?_ : WL _ _ _ _ _ _ _ _ _) | (refine WL.guard rfl rfl rfl (fun h => ?_) (fun h => ?_) <;> (try dsimp only at h)))
      ((refine seE ?_); refine ⟨[], Keep.nil, ?_⟩)
      exact ⟨by rw [hv, hlu], rfl⟩
  · have hv : staticK s = slowestV s.p (thereK s.tasks) := if_neg e
    have hpl := h.pl
    repeat' (first | ((apply WL.rd; (exact rfl); (exact Rn.cmp (b := true) rfl rfl (congrArg some (bne_iff_ne.2 e))))) | (first | refine soA ?_ | refine sgA ?_ | refine sxA ?_ | refine sbA ?_ | refine fun (Q : Post) hQ => ?_ | refine fun (nb : Nat) => (?_ : WL _ _ _ _ _ _ _ _ _) | (refine WL.guard rfl rfl rfl (fun h => ?_) (fun h => ?_) <;> (try dsimp only at h))))
    refine dra [] [] ?_
    refine drp 8 0 1 ?_
    refine drp 8 1 3 ?_
    refine drp 8 2 7 ?_
    refine drp 8 3 15 (hy := by (exact Rn.loadS (vs := a.p.enc) rfl (CellsAt.part (At.ro hb) rfl) rfl)) ?_
    refine drp 8 4 31 ?_
    refine dr1 5 ?_
    refine dre 8 5 63 ?_
    (refine WO.callN Tryz.func146 rfl (by kernel_rfl) rfl Takes.nil (fun G hG hh => there_any b s a G (h.up hG)) ?_; rintro v own' ⟨A2, c2, h2, rfl, rfl, ha2⟩)
    refine ⟨piA, ?_⟩
    refine dr1 6 ?_
    refine dre 8 6 127 ?_
    (refine WO.callN Tryz.func288 rfl (by kernel_rfl) rfl Takes.nil (fun G hG hh => hpl ▸ hth ▸ slowest_any a.p A2 c2 (thereT a.ts) G (h.plat.up hG) hc hl4 (h.tx.there hG ha2 (hh h2 (by simp)))) ?_; rintro v own' ⟨rfl, rfl⟩)
    refine ⟨piA, ?_⟩
    refine drp 8 7 255 ?_
    refine drz ?_
    repeat' (first | refine soA ?_ | refine sgA ?_ | refine sxA ?_ | refine sbA ?_ | refine fun (Q : Post) hQ => ?_ | refine fun (nb : Nat) => (?_ : WL _ _ _ _ _ _ _ _ _) | (refine WL.guard rfl rfl rfl (fun h => ?_) (fun h => ?_) <;> (try dsimp only at h)))
    ((refine seE ?_); refine ⟨[], Keep.nil, ?_⟩)
    exact ⟨by rw [hv], rfl⟩
end Go.Proofs.YtflgnpidelkkpaaGreat
