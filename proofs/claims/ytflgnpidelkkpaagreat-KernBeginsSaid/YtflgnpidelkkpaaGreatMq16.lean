/- part 16 of the proof: contracts of the functions that the law reaches, and plain laws. -/
import Derived.Test.YtflgnpidelkkpaaGreatMq7
import Derived.Test.YtflgnpidelkkpaaGreatMq15
namespace Go.Proofs.YtflgnpidelkkpaaGreat
set_option maxRecDepth 8000
set_option maxHeartbeats 1000000
set_option linter.unusedVariables false
set_option linter.unusedSimpArgs false
attribute [local irreducible] W X WL WA WB WG WO Rn Own one splice Arr Spec WQ WH Qn
theorem Rn.quoPar {P : Program} {F : Hp} {hs : List Hp} {ty : TypeId} {env : Env} {xt yt : TypeId} {x y : Operand} {n : Nat} (hn : 0 < n) (hb : n ≤ 8796093022208) (hx : ev env x = some (.int .i64 ((n : Nat) - 1))) (hy : ev env y = some (.int .i64 2)) : Rn P F hs (.binOp .quo xt x y yt) ty env (.int .i64 (par n : Nat)) := by
  have e : ((n : Int) - 1).tdiv 2 = ((par n : Nat) : Int) := by
    rw [Int.tdiv_eq_ediv_of_nonneg (by omega)]; unfold par; omega
  have := Rn.quo (P := P) (F := F) (hs := hs) (ty := ty) (xt := xt) (yt := yt) hx hy (by decide) (by rw [e]; unfold par; omega)
  rwa [e] at this
theorem HeapO.open {b : Nat} {arr : List HI} {hs : List Hp} (h : HeapO b arr hs) (hp : 0 < arr.length) : ∃ g sp c m hm, hs = [one b (cells [.slice (some ⟨g, 0, none⟩) arr.length c, .map (some m)] 218), one g (cells (arr.flatMap HI.enc ++ sp) 249), hm] ∧ MapI (atD arr) m hm ∧ Nd arr ∧ arr.length ≤ 8796093022208 := by
  obtain ⟨A, c, m, ha, hm, rfl, harr, hmap, hnd, hbd⟩ := h
  obtain ⟨g, sp, rfl, rfl, h1, h2, h3⟩ := harr.some hp
  exact ⟨g, sp, c, m, hm, rfl, hmap, hnd, hbd⟩
theorem keep_self {α : Type} : ∀ (l : List α), Keep l l
  | [] => .nil
  | _ :: t => .cons .here (keep_self t)
structure UpS where
  arr : List HI
  n : Nat
  hs : List Hp
set_option maxHeartbeats 2000000 in
theorem up_any (b : Nat) (arr : List HI) (n : Nat) (F : Hp) (hs : List Hp) (ho : HeapO b arr hs) (hi : n < arr.length) (he : Exc (gt arr) arr.length n) :
    Spec Tryz.prog 216 [.pointer (some ⟨b, 0, none⟩), .int .i64 (n : Nat)] F hs fun v hs' => v = .tuple #[] ∧ ∃ arr' n', HeapO b arr' hs' ∧ arr'.Perm arr ∧ n' < arr'.length ∧ Dn (gt arr') arr'.length n' ∧ gt arr' n' = gt arr n := by
  refine Spec.enter Tryz.func216 rfl Tryz.ntmps216 rfl fun B => ?_
  repeat' (first | refine soA ?_ | refine sgA ?_ | refine sxA ?_ | refine sbA ?_ | refine fun (Q : Post) hQ => ?_ | refine fun (nb : Nat) => (?_ : WL _ _ _ _ _ _ _ _ _) | (refine WL.guard rfl rfl rfl (fun h => ?_) (fun h => ?_) <;> (try dsimp only at h)))
  refine W.loopK (σ := UpS) ⟨fun s => HeapO b s.arr s.hs ∧ s.arr.Perm arr ∧ s.n < s.arr.length ∧ Exc (gt s.arr) s.arr.length s.n ∧ gt s.arr s.n = gt arr n, fun s => [(0, some (.pointer (some ⟨b, 0, none⟩))), (1, some (.int .i64 (s.n : Nat)))], fun s => s.hs, fun s => s.n⟩ ⟨arr, n, hs⟩ ⟨ho, .refl _, hi, he, rfl⟩ ⟨rfl, rfl, trivial⟩ ?_ ?_
  · exact keep_self _
  rintro ⟨ar, k, hs'⟩ ⟨ho, hp, hk, he, hg⟩ Q hL
  dsimp only at ho hp hk he hg ⊢
  obtain ⟨g, sp, c, m, hm, rfl, hmap, hnd, hbd⟩ := ho.open (by omega)
  have hpk : par k < ar.length := by unfold par; omega
  have gk := get_flat' HI.enc 2 HI.enc_len ar k _ sp (gt_get hk)
  have gp := get_flat' HI.enc 2 HI.enc_len ar (par k) _ sp (gt_get hpk)
  have hlen := Lib.hid hbd
  by_cases h0 : 0 < k
  · skip
    repeat' (first | refine soA ?_ | refine sgA ?_ | refine sxA ?_ | refine sbA ?_ | refine fun (Q : Post) hQ => ?_ | refine fun (nb : Nat) => (?_ : WL _ _ _ _ _ _ _ _ _) | (refine WL.guard rfl rfl rfl (fun h => ?_) (fun h => ?_) <;> (try dsimp only at h)))
    refine dra [(0, [])] [(one g (cells (ar.flatMap HI.enc ++ sp) 249), [])] ?_
    refine drp 21 0 1 ?_
    refine drp 21 1 3 (hy := by (exact Rn.cmp (b := true) rfl rfl (congrArg some (decide_eq_true (by omega))))) ?_
    refine drp 21 2 7 ?_
    refine WA.tpY (i := 3) (ls := bts 21 15) rfl rfl rfl rfl (by kernel_rfl) (Rn.move rfl) ?_
    refine WA.tpY (i := 4) (ls := bts 21 31) rfl rfl rfl rfl (by kernel_rfl) (Rn.nilCheck rfl) ?_
    refine WA.tpY (i := 5) (ls := bts 21 63) rfl rfl rfl rfl (by kernel_rfl) (by first | exact Rn.fieldAddr0 rfl | exact Rn.fieldAddr rfl) ?_
    refine WA.ldY (i := 6) (k := 0) (ls := bts 21 127) rfl rfl rfl rfl (by kernel_rfl) rfl (by kernel_rfl) (.cons (by (exact tkA)) .nil) (by first | exact Rn.load rfl (.mk At.one rfl) | exact Rn.loadS rfl (.all At.one) rfl) ?_
    refine WA.tpY (i := 7) (ls := bts 21 255) rfl rfl rfl rfl (by kernel_rfl) (Rn.move rfl) ?_
    refine WA.tpY (i := 8) (ls := bts 21 511) rfl rfl rfl rfl (by kernel_rfl) (by (exact Rn.indexAddr k rfl rfl rfl hk)) ?_
    refine WA.ldY (i := 9) (k := 1) (ls := bts 21 1023) rfl rfl rfl rfl (by kernel_rfl) rfl (by kernel_rfl) (.cons (by (exact tkA)) .nil) (by (exact Rn.loadS rfl (CellsAt.mk At.one gk) rfl)) ?_
    refine WA.tpY (i := 10) (ls := bts 21 2047) rfl rfl rfl rfl (by kernel_rfl) (Rn.move rfl) ?_
    refine WA.tpY (i := 11) (ls := bts 21 4095) rfl rfl rfl rfl (by kernel_rfl) (Rn.nilCheck rfl) ?_
    refine WA.tpY (i := 12) (ls := bts 21 8191) rfl rfl rfl rfl (by kernel_rfl) (by first | exact Rn.fieldAddr0 rfl | exact Rn.fieldAddr rfl) ?_
    refine WA.ldY (i := 13) (k := 0) (ls := bts 21 16383) rfl rfl rfl rfl (by kernel_rfl) rfl (by kernel_rfl) (.cons (by (exact tkA)) .nil) (by first | exact Rn.load rfl (.mk At.one rfl) | exact Rn.loadS rfl (.all At.one) rfl) ?_
    refine WA.tpY (i := 14) (ls := bts 21 32767) rfl rfl rfl rfl (by kernel_rfl) (Rn.move rfl) ?_
    refine WA.tpY (i := 15) (ls := bts 21 65535) rfl rfl rfl rfl (by kernel_rfl) (by first | exact Rn.sub rfl rfl (by omega) | exact Rn.subW rfl rfl) ?_
    refine WA.tpY (i := 16) (ls := bts 21 131071) rfl rfl rfl rfl (by kernel_rfl) (by (exact Rn.quoPar h0 (by omega) rfl rfl)) ?_
    refine WA.tpY (i := 17) (ls := bts 21 262143) rfl rfl rfl rfl (by kernel_rfl) (by (exact Rn.indexAddr (par k) rfl rfl rfl hpk)) ?_
    refine WA.ldY (i := 18) (k := 1) (ls := bts 21 524287) rfl rfl rfl rfl (by kernel_rfl) rfl (by kernel_rfl) (.cons (by (exact tkA)) .nil) (by (exact Rn.loadS rfl (CellsAt.mk At.one gp) rfl)) ?_
    refine dr1 19 ?_
    refine WB.exY (i := 19) (ls := bts 21 1048575) rfl rfl rfl rfl (by kernel_rfl) ?_
    (refine WO.call0 Tryz.func254 rfl (by kernel_rfl) rfl (fun G hG hh => ahead_any _ _ _) ?_; rintro v own' ⟨rfl, rfl⟩)
    refine ⟨piA, ?_⟩
    refine drp 21 20 2097151 ?_
    refine drz ?_
    repeat' (first | refine soA ?_ | refine sgA ?_ | refine sxA ?_ | refine sbA ?_ | refine fun (Q : Post) hQ => ?_ | refine fun (nb : Nat) => (?_ : WL _ _ _ _ _ _ _ _ _) | (refine WL.guard rfl rfl rfl (fun h => ?_) (fun h => ?_) <;> (try dsimp only at h)))
    refine W.cond rfl (fun ha => ?_) (fun ha => ?_)
    · skip
      repeat' (first | ((apply WL.rd; (exact rfl); (exact Rn.quoPar h0 (by omega) rfl rfl))) | ((refine WL.ex rfl (WO.callN Tryz.func253 rfl (by kernel_rfl) rfl (by (exact tsA)) (fun G hG hh => swap_any b ar k (par k) G _ ho hk hpk) ?_); rintro v own' ⟨rfl, ho'⟩)) | (first | refine soA ?_ | refine sgA ?_ | refine sxA ?_ | refine sbA ?_ | refine fun (Q : Post) hQ => ?_ | refine fun (nb : Nat) => (?_ : WL _ _ _ _ _ _ _ _ _) | (refine WL.guard rfl rfl rfl (fun h => ?_) (fun h => ?_) <;> (try dsimp only at h))))
      have hl' := swL_len ar k (par k)
      refine hL.nx ⟨swL ar k (par k), par k, own'⟩ _ _ ⟨ho', (swL_perm hk hpk).trans hp, by rw [hl']; exact hpk, ?_, ?_⟩ (by dsimp only; unfold par; omega) ⟨rfl, rfl, trivial⟩ ?_
      · rw [hl']
        exact (he.up h0 hk ha).congr hpk fun i hi => swL_get hk hpk i hi
      · rw [swL_get hk hpk _ hpk]; unfold sw; rw [if_pos rfl]; exact hg
      · rw [List.append_nil]; exact keep_self _
    · skip
      repeat' (first | refine soA ?_ | refine sgA ?_ | refine sxA ?_ | refine sbA ?_ | refine fun (Q : Post) hQ => ?_ | refine fun (nb : Nat) => (?_ : WL _ _ _ _ _ _ _ _ _) | (refine WL.guard rfl rfl rfl (fun h => ?_) (fun h => ?_) <;> (try dsimp only at h)))
      (refine seE ?_)
      refine ⟨_, (by (exact keA)), rfl, ar, k, ho, hp, hk, ?_, hg⟩
      exact he.stop (.inr ha)
  · skip
    repeat' (first | refine soA ?_ | refine sgA ?_ | refine sxA ?_ | refine sbA ?_ | refine fun (Q : Post) hQ => ?_ | refine fun (nb : Nat) => (?_ : WL _ _ _ _ _ _ _ _ _) | (refine WL.guard rfl rfl rfl (fun h => ?_) (fun h => ?_) <;> (try dsimp only at h)))
    refine dra [(0, [])] [] ?_
    refine drp 21 0 1 ?_
    refine drp 21 1 3 (hy := by (exact Rn.cmp (b := false) rfl rfl (congrArg some (decide_eq_false (by omega))))) ?_
    refine drp 21 2 7 ?_
    first | refine WA.tn (i := 3) (ls := bts 21 15) rfl rfl rfl rfl rfl (by kernel_rfl) ?_ | refine WA.tnU (i := 3) (ls := bts 21 15) rfl rfl rfl rfl (by kernel_rfl) ?_
    first | refine WA.tn (i := 4) (ls := bts 21 31) rfl rfl rfl rfl rfl (by kernel_rfl) ?_ | refine WA.tnU (i := 4) (ls := bts 21 31) rfl rfl rfl rfl (by kernel_rfl) ?_
    first | refine WA.tn (i := 5) (ls := bts 21 63) rfl rfl rfl rfl rfl (by kernel_rfl) ?_ | refine WA.tnU (i := 5) (ls := bts 21 63) rfl rfl rfl rfl (by kernel_rfl) ?_
    first | refine WA.tn (i := 6) (ls := bts 21 127) rfl rfl rfl rfl rfl (by kernel_rfl) ?_ | refine WA.tnU (i := 6) (ls := bts 21 127) rfl rfl rfl rfl (by kernel_rfl) ?_
    first | refine WA.tn (i := 7) (ls := bts 21 255) rfl rfl rfl rfl rfl (by kernel_rfl) ?_ | refine WA.tnU (i := 7) (ls := bts 21 255) rfl rfl rfl rfl (by kernel_rfl) ?_
    first | refine WA.tn (i := 8) (ls := bts 21 511) rfl rfl rfl rfl rfl (by kernel_rfl) ?_ | refine WA.tnU (i := 8) (ls := bts 21 511) rfl rfl rfl rfl (by kernel_rfl) ?_
    first | refine WA.tn (i := 9) (ls := bts 21 1023) rfl rfl rfl rfl rfl (by kernel_rfl) ?_ | refine WA.tnU (i := 9) (ls := bts 21 1023) rfl rfl rfl rfl (by kernel_rfl) ?_
    first | refine WA.tn (i := 10) (ls := bts 21 2047) rfl rfl rfl rfl rfl (by kernel_rfl) ?_ | refine WA.tnU (i := 10) (ls := bts 21 2047) rfl rfl rfl rfl (by kernel_rfl) ?_
    first | refine WA.tn (i := 11) (ls := bts 21 4095) rfl rfl rfl rfl rfl (by kernel_rfl) ?_ | refine WA.tnU (i := 11) (ls := bts 21 4095) rfl rfl rfl rfl (by kernel_rfl) ?_
    first | refine WA.tn (i := 12) (ls := bts 21 8191) rfl rfl rfl rfl rfl (by kernel_rfl) ?_ | refine WA.tnU (i := 12) (ls := bts 21 8191) rfl rfl rfl rfl (by kernel_rfl) ?_
    first | refine WA.tn (i := 13) (ls := bts 21 16383) rfl rfl rfl rfl rfl (by kernel_rfl) ?_ | refine WA.tnU (i := 13) (ls := bts 21 16383) rfl rfl rfl rfl (by kernel_rfl) ?_
    first | refine WA.tn (i := 14) (ls := bts 21 32767) rfl rfl rfl rfl rfl (by kernel_rfl) ?_ | refine WA.tnU (i := 14) (ls := bts 21 32767) rfl rfl rfl rfl (by kernel_rfl) ?_
    first | refine WA.tn (i := 15) (ls := bts 21 65535) rfl rfl rfl rfl rfl (by kernel_rfl) ?_ | refine WA.tnU (i := 15) (ls := bts 21 65535) rfl rfl rfl rfl (by kernel_rfl) ?_
    first | refine WA.tn (i := 16) (ls := bts 21 131071) rfl rfl rfl rfl rfl (by kernel_rfl) ?_ | refine WA.tnU (i := 16) (ls := bts 21 131071) rfl rfl rfl rfl (by kernel_rfl) ?_
    first | refine WA.tn (i := 17) (ls := bts 21 262143) rfl rfl rfl rfl rfl (by kernel_rfl) ?_ | refine WA.tnU (i := 17) (ls := bts 21 262143) rfl rfl rfl rfl (by kernel_rfl) ?_
    first | refine WA.tn (i := 18) (ls := bts 21 524287) rfl rfl rfl rfl rfl (by kernel_rfl) ?_ | refine WA.tnU (i := 18) (ls := bts 21 524287) rfl rfl rfl rfl (by kernel_rfl) ?_
    first | refine WA.tn (i := 19) (ls := bts 21 1048575) rfl rfl rfl rfl rfl (by kernel_rfl) ?_ | refine WA.tnU (i := 19) (ls := bts 21 1048575) rfl rfl rfl rfl (by kernel_rfl) ?_
    refine drp 21 20 2097151 ?_
    refine drz ?_
    repeat' (first | refine soA ?_ | refine sgA ?_ | refine sxA ?_ | refine sbA ?_ | refine fun (Q : Post) hQ => ?_ | refine fun (nb : Nat) => (?_ : WL _ _ _ _ _ _ _ _ _) | (refine WL.guard rfl rfl rfl (fun h => ?_) (fun h => ?_) <;> (try dsimp only at h)))
    (refine seE ?_)
    refine ⟨_, (by (exact keA)), rfl, ar, k, ho, hp, hk, ?_, hg⟩
    exact he.stop (.inl (by omega))
theorem keep_app {α : Type} : ∀ (l r : List α), Keep (l ++ r) l
  | [], _ => .nil
  | _ :: t, r => .cons .here (keep_app t r)
theorem ahead_trans {a b c : HI} (h : ahead a b = true) (k : ahead b c = true) : ahead a c = true := by rw [ahead_iff] at *; omega
theorem ahead_nahead' {a b c : HI} (h : ahead a b = true) (k : ahead c b = false) : ahead c a = false := by rw [ahead_iff] at h; rw [ahead_false] at *; omega
theorem par_kid {i k : Nat} (h0 : 0 < i) (h : par i = k) : i = 2 * k + 1 ∨ i = 2 * k + 2 := by unfold par at h; omega
theorem kid_at (k i : Nat) (hi : i < 2) : [Value.int .i64 (2 * (k : Int) + 1), .int .i64 (2 * (k : Int) + 2)][0 + i * 1]? = some (.int .i64 ((2 * k + 1 + i : Nat) : Int)) := by
  match i, hi with
  | 0, _ => simp
  | 1, _ => simp; omega
set_option maxHeartbeats 2000000 in
theorem down_any (b : Nat) (arr : List HI) (n : Nat) (F : Hp) (hs : List Hp) (ho : HeapO b arr hs) (hi : n < arr.length) (he : Dn (gt arr) arr.length n) :
    Spec Tryz.prog 217 [.pointer (some ⟨b, 0, none⟩), .int .i64 (n : Nat)] F hs fun v hs' => v = .tuple #[] ∧ ∃ arr', HeapO b arr' hs' ∧ arr'.Perm arr ∧ Hpd (gt arr') arr'.length := by
  refine Spec.enter Tryz.func217 rfl Tryz.ntmps217 rfl fun B => ?_
  repeat' (first | refine soA ?_ | refine sgA ?_ | refine sxA ?_ | refine sbA ?_ | refine fun (Q : Post) hQ => ?_ | refine fun (nb : Nat) => (?_ : WL _ _ _ _ _ _ _ _ _) | (refine WL.guard rfl rfl rfl (fun h => ?_) (fun h => ?_) <;> (try dsimp only at h)))
  refine W.loopK (σ := UpS) ⟨fun s => HeapO b s.arr s.hs ∧ s.arr.Perm arr ∧ s.n < s.arr.length ∧ Dn (gt s.arr) s.arr.length s.n, fun s => [(0, some (.pointer (some ⟨b, 0, none⟩))), (1, some (.int .i64 (s.n : Nat)))], fun s => s.hs, fun s => s.arr.length - s.n⟩ ⟨arr, n, hs⟩ ⟨ho, .refl _, hi, he⟩ ⟨rfl, rfl, trivial⟩ (keep_self _) ?_
  rintro ⟨ar, k, hs'⟩ ⟨ho, hp, hk, he⟩ Q hL
  dsimp only at ho hp hk he ⊢
  obtain ⟨g, sp, c, m, hm, rfl, hmap, hnd, hbd⟩ := ho.open (by omega)
  repeat' (first | refine soA ?_ | refine sgA ?_ | refine sxA ?_ | refine sbA ?_ | refine fun (Q : Post) hQ => ?_ | refine fun (nb : Nat) => (?_ : WL _ _ _ _ _ _ _ _ _) | (refine WL.guard rfl rfl rfl (fun h => ?_) (fun h => ?_) <;> (try dsimp only at h)))
  refine W.loopK (σ := Nat × Nat) ⟨fun s => s.1 ≤ 2 ∧ s.2 < ar.length ∧ (s.2 = k ∨ (0 < s.2 ∧ par s.2 = k ∧ ahead (gt ar s.2) (gt ar k) = true)) ∧ ∀ j, j < ar.length → (1 ≤ s.1 ∧ j = 2 * k + 1 ∨ 2 ≤ s.1 ∧ j = 2 * k + 2) → ahead (gt ar j) (gt ar s.2) = false, fun s => [(0, some (.pointer (some ⟨b, 0, none⟩))), (1, some (.int .i64 (k : Nat))), (4, some (.int .i64 (s.2 : Nat))), (14, some (.slice (some ⟨nb, 0, none⟩) 2 2)), (15, some (.int .i64 2)), (16, some (.int .i64 (s.1 : Nat)))], fun _ => [one b (cells [.slice (some ⟨g, 0, none⟩) ar.length c, .map (some m)] 218), one g (cells (ar.flatMap HI.enc ++ sp) 249), hm, one nb (cells [.int .i64 (2 * (k : Int) + 1), .int .i64 (2 * (k : Int) + 2)] 3)], fun s => 2 - s.1⟩ (0, k) ⟨by omega, hk, .inl rfl, fun j _ hj => by omega⟩ ?_ ?_ ?_
  · exact ⟨rfl, rfl, rfl, rfl, rfl, rfl, trivial⟩
  · dsimp only; (exact keA)
  rintro ⟨i, best⟩ ⟨hi2, hb, hbest, hall⟩ Q2 hI
  dsimp only at hi2 hb hbest hall ⊢
  have gb := get_flat' HI.enc 2 HI.enc_len ar best _ sp (gt_get hb)
  repeat' (first | refine soA ?_ | refine sgA ?_ | refine sxA ?_ | refine sbA ?_ | refine fun (Q : Post) hQ => ?_ | refine fun (nb : Nat) => (?_ : WL _ _ _ _ _ _ _ _ _) | (refine WL.guard rfl rfl rfl (fun h => ?_) (fun h => ?_) <;> (try dsimp only at h)))
  refine W.cond rfl (fun h => ?_) (fun h => ?_) <;> (try simp only [beq_iff_eq, bne_iff_ne, decide_eq_true_eq, decide_eq_false_iff_not, beq_eq_false_iff_ne, bne_eq_false_iff_eq, Bool.not_true, Bool.not_false, ne_eq, Int.not_lt, Int.not_le, Bool.not_eq_true', Bool.not_eq_false', Bool.not_eq_eq_eq_not] at h)
  · have hi3 : i < 2 := by omega
    have hkid := kid_at k i hi3
    repeat' (first | ((apply WL.rd; (exact rfl); (exact Rn.indexAddr i rfl rfl rfl (by omega)))) | ((apply WL.rd; (exact rfl); (apply Rn.load; (exact rfl); apply CellAt.mk; (focus (apply At.there; apply At.there; apply At.there; exact At.one)); (exact hkid)))) | (first | refine soA ?_ | refine sgA ?_ | refine sxA ?_ | refine sbA ?_ | refine fun (Q : Post) hQ => ?_ | refine fun (nb : Nat) => (?_ : WL _ _ _ _ _ _ _ _ _) | (refine WL.guard rfl rfl rfl (fun h => ?_) (fun h => ?_) <;> (try dsimp only at h))))
    by_cases hl : 2 * k + 1 + i < ar.length
    · have gq := get_flat' HI.enc 2 HI.enc_len ar (2 * k + 1 + i) _ sp (gt_get hl)
      refine dra [(0, [])] [(one g (cells (ar.flatMap HI.enc ++ sp) 249), [])] ?_
      refine drp 24 0 1 ?_
      refine drp 24 1 3 ?_
      refine drp 24 2 7 ?_
      refine drp 24 3 15 ?_
      refine drl 24 4 0 31 ?_
      refine drp 24 5 63 ?_
      refine drp 24 6 127 (hy := by (exact Rn.cmp (b := true) rfl rfl (congrArg some (decide_eq_true (by omega))))) ?_
      refine drp 24 7 255 ?_
      refine WA.tpY (i := 8) (ls := bts 24 511) rfl rfl rfl rfl (by kernel_rfl) (Rn.move rfl) ?_
      refine WA.tpY (i := 9) (ls := bts 24 1023) rfl rfl rfl rfl (by kernel_rfl) (Rn.nilCheck rfl) ?_
      refine WA.tpY (i := 10) (ls := bts 24 2047) rfl rfl rfl rfl (by kernel_rfl) (by first | exact Rn.fieldAddr0 rfl | exact Rn.fieldAddr rfl) ?_
      refine WA.ldY (i := 11) (k := 0) (ls := bts 24 4095) rfl rfl rfl rfl (by kernel_rfl) rfl (by kernel_rfl) (.cons (by (exact tkA)) .nil) (by first | exact Rn.load rfl (.mk At.one rfl) | exact Rn.loadS rfl (.all At.one) rfl) ?_
      refine WA.tpY (i := 12) (ls := bts 24 8191) rfl rfl rfl rfl (by kernel_rfl) (Rn.move rfl) ?_
      refine WA.tpY (i := 13) (ls := bts 24 16383) rfl rfl rfl rfl (by kernel_rfl) (by (exact Rn.indexAddr (2 * k + 1 + i) rfl rfl rfl hl)) ?_
      refine WA.ldY (i := 14) (k := 1) (ls := bts 24 32767) rfl rfl rfl rfl (by kernel_rfl) rfl (by kernel_rfl) (.cons (by (exact tkA)) .nil) (by (exact Rn.loadS rfl (CellsAt.mk At.one gq) rfl)) ?_
      refine WA.tpY (i := 15) (ls := bts 24 65535) rfl rfl rfl rfl (by kernel_rfl) (Rn.move rfl) ?_
      refine WA.tpY (i := 16) (ls := bts 24 131071) rfl rfl rfl rfl (by kernel_rfl) (Rn.nilCheck rfl) ?_
      refine WA.tpY (i := 17) (ls := bts 24 262143) rfl rfl rfl rfl (by kernel_rfl) (by first | exact Rn.fieldAddr0 rfl | exact Rn.fieldAddr rfl) ?_
      refine WA.ldY (i := 18) (k := 0) (ls := bts 24 524287) rfl rfl rfl rfl (by kernel_rfl) rfl (by kernel_rfl) (.cons (by (exact tkA)) .nil) (by first | exact Rn.load rfl (.mk At.one rfl) | exact Rn.loadS rfl (.all At.one) rfl) ?_
      refine WA.tpY (i := 19) (ls := bts 24 1048575) rfl rfl rfl rfl (by kernel_rfl) (Rn.move rfl) ?_
      refine WA.tpY (i := 20) (ls := bts 24 2097151) rfl rfl rfl rfl (by kernel_rfl) (by (exact Rn.indexAddr best rfl rfl rfl hb)) ?_
      refine WA.ldY (i := 21) (k := 1) (ls := bts 24 4194303) rfl rfl rfl rfl (by kernel_rfl) rfl (by kernel_rfl) (.cons (by (exact tkA)) .nil) (by (exact Rn.loadS rfl (CellsAt.mk At.one gb) rfl)) ?_
      refine dr1 22 ?_
      refine WB.exY (i := 22) (ls := bts 24 8388607) rfl rfl rfl rfl (by kernel_rfl) ?_
      (refine WO.call0 Tryz.func254 rfl (by kernel_rfl) rfl (fun G hG hh => ahead_any _ _ _) ?_; rintro v own' ⟨rfl, rfl⟩)
      refine ⟨piA, ?_⟩
      refine drp 24 23 16777215 ?_
      refine drz ?_
      repeat' (first | refine soA ?_ | refine sgA ?_ | refine sxA ?_ | refine sbA ?_ | refine fun (Q : Post) hQ => ?_ | refine fun (nb : Nat) => (?_ : WL _ _ _ _ _ _ _ _ _) | (refine WL.guard rfl rfl rfl (fun h => ?_) (fun h => ?_) <;> (try dsimp only at h)))
      refine W.cond rfl (fun ha => ?_) (fun ha => ?_)
      · skip
        repeat' (first | refine soA ?_ | refine sgA ?_ | refine sxA ?_ | refine sbA ?_ | refine fun (Q : Post) hQ => ?_ | refine fun (nb : Nat) => (?_ : WL _ _ _ _ _ _ _ _ _) | (refine WL.guard rfl rfl rfl (fun h => ?_) (fun h => ?_) <;> (try dsimp only at h)))
        refine hI.nx (i + 1, 2 * k + 1 + i) _ _ ⟨by dsimp only; omega, hl, ?_, ?_⟩ (by dsimp only; omega) ⟨rfl, rfl, rfl, rfl, rfl, rfl, trivial⟩ (by (exact keA))
        · right
          refine ⟨by omega, by unfold par; omega, ?_⟩
          rcases hbest with rfl | ⟨_, _, h2⟩
          · exact ha
          · exact ahead_trans ha h2
        · intro j hj hj2
          dsimp only at hj2 ⊢
          by_cases hji : j = 2 * k + 1 + i
          · subst hji; exact ahead_irr _
          · exact ahead_nahead' ha (hall j hj (by omega))
      · skip
        repeat' (first | refine soA ?_ | refine sgA ?_ | refine sxA ?_ | refine sbA ?_ | refine fun (Q : Post) hQ => ?_ | refine fun (nb : Nat) => (?_ : WL _ _ _ _ _ _ _ _ _) | (refine WL.guard rfl rfl rfl (fun h => ?_) (fun h => ?_) <;> (try dsimp only at h)))
        refine hI.nx (i + 1, best) _ _ ⟨by dsimp only; omega, hb, hbest, ?_⟩ (by dsimp only; omega) ⟨rfl, rfl, rfl, rfl, rfl, rfl, trivial⟩ (by (exact keA))
        intro j hj hj2
        dsimp only at hj2 ⊢
        by_cases hji : j = 2 * k + 1 + i
        · subst hji; exact ha
        · exact hall j hj (by omega)
    · skip
      refine dra [(0, [])] [] ?_
      refine drp 24 0 1 ?_
      refine drp 24 1 3 ?_
      refine drp 24 2 7 ?_
      refine drp 24 3 15 ?_
      refine drl 24 4 0 31 ?_
      refine drp 24 5 63 ?_
      refine drp 24 6 127 (hy := by (exact Rn.cmp (b := false) rfl rfl (congrArg some (decide_eq_false (by omega))))) ?_
      refine drp 24 7 255 ?_
      first | refine WA.tn (i := 8) (ls := bts 24 511) rfl rfl rfl rfl rfl (by kernel_rfl) ?_ | refine WA.tnU (i := 8) (ls := bts 24 511) rfl rfl rfl rfl (by kernel_rfl) ?_
      first | refine WA.tn (i := 9) (ls := bts 24 1023) rfl rfl rfl rfl rfl (by kernel_rfl) ?_ | refine WA.tnU (i := 9) (ls := bts 24 1023) rfl rfl rfl rfl (by kernel_rfl) ?_
      first | refine WA.tn (i := 10) (ls := bts 24 2047) rfl rfl rfl rfl rfl (by kernel_rfl) ?_ | refine WA.tnU (i := 10) (ls := bts 24 2047) rfl rfl rfl rfl (by kernel_rfl) ?_
      first | refine WA.tn (i := 11) (ls := bts 24 4095) rfl rfl rfl rfl rfl (by kernel_rfl) ?_ | refine WA.tnU (i := 11) (ls := bts 24 4095) rfl rfl rfl rfl (by kernel_rfl) ?_
      first | refine WA.tn (i := 12) (ls := bts 24 8191) rfl rfl rfl rfl rfl (by kernel_rfl) ?_ | refine WA.tnU (i := 12) (ls := bts 24 8191) rfl rfl rfl rfl (by kernel_rfl) ?_
      first | refine WA.tn (i := 13) (ls := bts 24 16383) rfl rfl rfl rfl rfl (by kernel_rfl) ?_ | refine WA.tnU (i := 13) (ls := bts 24 16383) rfl rfl rfl rfl (by kernel_rfl) ?_
      first | refine WA.tn (i := 14) (ls := bts 24 32767) rfl rfl rfl rfl rfl (by kernel_rfl) ?_ | refine WA.tnU (i := 14) (ls := bts 24 32767) rfl rfl rfl rfl (by kernel_rfl) ?_
      first | refine WA.tn (i := 15) (ls := bts 24 65535) rfl rfl rfl rfl rfl (by kernel_rfl) ?_ | refine WA.tnU (i := 15) (ls := bts 24 65535) rfl rfl rfl rfl (by kernel_rfl) ?_
      first | refine WA.tn (i := 16) (ls := bts 24 131071) rfl rfl rfl rfl rfl (by kernel_rfl) ?_ | refine WA.tnU (i := 16) (ls := bts 24 131071) rfl rfl rfl rfl (by kernel_rfl) ?_
      first | refine WA.tn (i := 17) (ls := bts 24 262143) rfl rfl rfl rfl rfl (by kernel_rfl) ?_ | refine WA.tnU (i := 17) (ls := bts 24 262143) rfl rfl rfl rfl (by kernel_rfl) ?_
      first | refine WA.tn (i := 18) (ls := bts 24 524287) rfl rfl rfl rfl rfl (by kernel_rfl) ?_ | refine WA.tnU (i := 18) (ls := bts 24 524287) rfl rfl rfl rfl (by kernel_rfl) ?_
      first | refine WA.tn (i := 19) (ls := bts 24 1048575) rfl rfl rfl rfl rfl (by kernel_rfl) ?_ | refine WA.tnU (i := 19) (ls := bts 24 1048575) rfl rfl rfl rfl (by kernel_rfl) ?_
      first | refine WA.tn (i := 20) (ls := bts 24 2097151) rfl rfl rfl rfl rfl (by kernel_rfl) ?_ | refine WA.tnU (i := 20) (ls := bts 24 2097151) rfl rfl rfl rfl (by kernel_rfl) ?_
      first | refine WA.tn (i := 21) (ls := bts 24 4194303) rfl rfl rfl rfl rfl (by kernel_rfl) ?_ | refine WA.tnU (i := 21) (ls := bts 24 4194303) rfl rfl rfl rfl (by kernel_rfl) ?_
      first | refine WA.tn (i := 22) (ls := bts 24 8388607) rfl rfl rfl rfl rfl (by kernel_rfl) ?_ | refine WA.tnU (i := 22) (ls := bts 24 8388607) rfl rfl rfl rfl (by kernel_rfl) ?_
      refine drp 24 23 16777215 ?_
      refine drz ?_
      repeat' (first | refine soA ?_ | refine sgA ?_ | refine sxA ?_ | refine sbA ?_ | refine fun (Q : Post) hQ => ?_ | refine fun (nb : Nat) => (?_ : WL _ _ _ _ _ _ _ _ _) | (refine WL.guard rfl rfl rfl (fun h => ?_) (fun h => ?_) <;> (try dsimp only at h)))
      refine hI.nx (i + 1, best) _ _ ⟨by dsimp only; omega, hb, hbest, ?_⟩ (by dsimp only; omega) ⟨rfl, rfl, rfl, rfl, rfl, rfl, trivial⟩ (by (exact keA))
      intro j hj hj2
      dsimp only at hj2 ⊢
      by_cases hji : j = 2 * k + 1 + i
      · omega
      · exact hall j hj (by omega)
  · have hi3 : i = 2 := by omega
    subst hi3
    repeat' (first | refine soA ?_ | refine sgA ?_ | refine sxA ?_ | refine sbA ?_ | refine fun (Q : Post) hQ => ?_ | refine fun (nb : Nat) => (?_ : WL _ _ _ _ _ _ _ _ _) | (refine WL.guard rfl rfl rfl (fun h => ?_) (fun h => ?_) <;> (try dsimp only at h)))
    refine W.cond rfl (fun h => ?_) (fun h => ?_) <;> (try simp only [beq_iff_eq, bne_iff_ne, decide_eq_true_eq, decide_eq_false_iff_not, beq_eq_false_iff_ne, bne_eq_false_iff_eq, Bool.not_true, Bool.not_false, ne_eq, Int.not_lt, Int.not_le, Bool.not_eq_true', Bool.not_eq_false', Bool.not_eq_eq_eq_not] at h)
    · have : best = k := by omega
      subst this
      repeat' (first | refine soA ?_ | refine sgA ?_ | refine sxA ?_ | refine sbA ?_ | refine fun (Q : Post) hQ => ?_ | refine fun (nb : Nat) => (?_ : WL _ _ _ _ _ _ _ _ _) | (refine WL.guard rfl rfl rfl (fun h => ?_) (fun h => ?_) <;> (try dsimp only at h)))
      (refine seE ?_)
      refine ⟨_, (by (exact keA)), rfl, ar, ho, hp, he.stop fun j h0 hj hpj => ?_⟩
      exact hall j hj (by have := par_kid h0 hpj; omega)
    · have hne : best ≠ k := by omega
      obtain ⟨h0, hpb, hab⟩ := hbest.resolve_left hne
      repeat' (first | ((refine WL.ex rfl (WO.callN Tryz.func253 rfl (by kernel_rfl) rfl (by (exact tsA)) (fun G hG hh => swap_any b ar k best G _ ho hk hb) ?_); rintro v own' ⟨rfl, ho'⟩)) | (first | refine soA ?_ | refine sgA ?_ | refine sxA ?_ | refine sbA ?_ | refine fun (Q : Post) hQ => ?_ | refine fun (nb : Nat) => (?_ : WL _ _ _ _ _ _ _ _ _) | (refine WL.guard rfl rfl rfl (fun h => ?_) (fun h => ?_) <;> (try dsimp only at h))))
      have hl' := swL_len ar k best
      have hlt : k < best := by unfold par at hpb; omega
      refine hL.nx ⟨swL ar k best, best, own'⟩ _ _ ⟨ho', (swL_perm hk hb).trans hp, by rw [hl']; exact hb, ?_⟩ (by dsimp only; rw [hl']; omega) ⟨rfl, rfl, trivial⟩ (keep_app _ _)
      rw [hl']
      exact (he.down h0 hb hpb hab fun j h0 hj hpj => hall j hj (by have := par_kid h0 hpj; omega)).congr hb fun i hi => swL_get hk hb i hi
end Go.Proofs.YtflgnpidelkkpaaGreat
namespace Go.Proofs.YtflgnpidelkkpaaGreat
set_option maxRecDepth 8000
set_option maxHeartbeats 1000000
set_option linter.unusedVariables false
theorem atD_look {arr : List HI} (h : Nd arr) {i : Nat} (hi : i < arr.length) : atD arr (gt arr i).id = some (.int .i64 (i : Nat)) := by
  unfold atD
  rw [(idx_iff h).2 ⟨_, gt_get hi, rfl⟩]; rfl
theorem gt_eq {arr : List HI} {i : Nat} (hi : i < arr.length) : gt arr i = arr[i] := by
  have := gt_get hi
  rw [List.getElem?_eq_getElem hi] at this
  exact (Option.some.inj this).symm
def off (id : Int) (l : List HI) : List HI := l.filter fun x => x.id != id
theorem off_perm {a b : List HI} (id : Int) (p : a.Perm b) : (off id a).Perm (off id b) := p.filter _
theorem off_nd {l : List HI} (id : Int) (h : Nd l) : Nd (off id l) := List.Nodup.sublist ((List.filter_sublist).map _) h
theorem off_none {l : List HI} {id : Int} (h : ∀ x ∈ l, x.id ≠ id) : off id l = l := by
  unfold off; rw [List.filter_eq_self]; intro x hx; simpa using h x hx
theorem off_mem {l : List HI} {id : Int} {x : HI} (h : x ∈ off id l) : x.id ≠ id := by
  unfold off at h; simpa using (List.mem_filter.1 h).2
theorem split_at {arr : List HI} {n : Nat} (hn : n < arr.length) : arr = arr.take n ++ gt arr n :: arr.drop (n + 1) := by
  rw [gt_eq hn, List.getElem_cons_drop, List.take_append_drop]
theorem off_split {arr : List HI} (h : Nd arr) {n : Nat} (hn : n < arr.length) : off (gt arr n).id arr = arr.take n ++ arr.drop (n + 1) := by
  have e := split_at hn
  have hh : Nd (arr.take n ++ gt arr n :: arr.drop (n + 1)) := by rw [← e]; exact h
  unfold Nd at hh
  rw [List.map_append, List.map_cons, List.nodup_append] at hh
  obtain ⟨h1, h2, h3⟩ := hh
  rw [List.nodup_cons] at h2
  generalize gt arr n = g at *
  conv => lhs; rw [e]
  unfold off
  rw [List.filter_append, List.filter_cons_of_neg (by simp)]
  congr 1
  · rw [List.filter_eq_self]
    intro x hx
    have := h3 x.id (List.mem_map_of_mem hx) g.id (by simp)
    simpa using this
  · rw [List.filter_eq_self]
    intro x hx
    have : x.id ≠ g.id := fun e => h2.1 (e ▸ List.mem_map_of_mem hx)
    simpa using this
theorem cons_nd {x : HI} {l : List HI} (h : Nd l) (hx : ∀ y ∈ l, y.id ≠ x.id) : Nd (x :: l) := by
  unfold Nd at *
  rw [List.map_cons, List.nodup_cons]
  refine ⟨fun hm => ?_, h⟩
  obtain ⟨y, hy, e⟩ := List.mem_map.1 hm
  exact hx y hy e
theorem set_perm {arr : List HI} (h : Nd arr) {n : Nat} (hn : n < arr.length) (x : HI) : (arr.set n x).Perm (x :: off (gt arr n).id arr) := by
  rw [off_split h hn, List.set_eq_take_append_cons_drop, if_pos hn]
  exact List.perm_middle
theorem set_gt {arr : List HI} {n i : Nat} (x : HI) (hi : i < arr.length) : gt (arr.set n x) i = if i = n then x else gt arr i := by
  rw [gt_eq (by simpa using hi), gt_eq hi, List.getElem_set]
  by_cases e : n = i
  · rw [if_pos e, if_pos e.symm]
  · rw [if_neg e, if_neg (Ne.symm e)]
theorem set_nd {arr : List HI} (h : Nd arr) {n : Nat} (hn : n < arr.length) {x : HI} (hx : x.id = (gt arr n).id) : Nd (arr.set n x) :=
  Nd.perm (cons_nd (off_nd _ h) fun y hy => hx ▸ off_mem hy) (set_perm h hn x).symm
theorem set_atD {arr : List HI} (h : Nd arr) {n : Nat} (hn : n < arr.length) {x : HI} (hx : x.id = (gt arr n).id) : atD (arr.set n x) = upd (atD arr) x.id (some (.int .i64 (n : Nat))) := by
  have : (arr.set n x).map (·.id) = arr.map (·.id) := by
    rw [List.map_set, hx, gt_eq hn]
    apply List.ext_getElem (by simp)
    intro i h1 h2
    rw [List.getElem_set]
    by_cases e : n = i
    · subst e; simp
    · rw [if_neg e]
  have e2 : atD (arr.set n x) = atD arr := by
    funext k
    unfold atD
    have e3 : ∀ l : List HI, l.findIdx? (fun x => x.id == k) = (l.map (·.id)).findIdx? (· == k) := fun l => by
      rw [List.findIdx?_map]; rfl
    rw [e3, e3, this]
  rw [e2]
  funext k
  unfold upd
  by_cases e : k = x.id
  · subst e; simp [hx, atD_look h hn]
  · simp [e]
theorem app_gt {arr : List HI} {i : Nat} (x : HI) (hi : i < arr.length + 1) : gt (arr ++ [x]) i = if i = arr.length then x else gt arr i := by
  rw [gt_eq (by simpa using hi)]
  by_cases e : i = arr.length
  · subst e; simp
  · rw [if_neg e, gt_eq (by omega), List.getElem_append_left (by omega)]
theorem app_nd {arr : List HI} (h : Nd arr) {x : HI} (hx : ∀ y ∈ arr, y.id ≠ x.id) : Nd (arr ++ [x]) :=
  Nd.perm (cons_nd h hx) (List.perm_append_comm (l₁ := [x]) (l₂ := arr))
theorem app_atD {arr : List HI} (h : Nd arr) {x : HI} (hx : ∀ y ∈ arr, y.id ≠ x.id) : atD (arr ++ [x]) = upd (atD arr) x.id (some (.int .i64 (arr.length : Nat))) := by
  funext k
  unfold upd atD
  rw [List.findIdx?_append]
  by_cases e : k = x.id
  · subst e
    rw [if_pos rfl, idx_none_iff.2 hx]
    simp
  · rw [if_neg e]
    have : ([x] : List HI).findIdx? (fun y => y.id == k) = none := by simp [Ne.symm e]
    rw [this]; simp
theorem atD_none {arr : List HI} {k : Int} (h : atD arr k = none) : ∀ y ∈ arr, y.id ≠ k := by
  unfold atD at h
  exact idx_none_iff.1 (by simpa using h)
theorem atD_some {arr : List HI} (h : Nd arr) {k : Int} {v : Value} (e : atD arr k = some v) : ∃ n, v = .int .i64 (n : Nat) ∧ n < arr.length ∧ (gt arr n).id = k := by
  unfold atD at e
  cases hf : arr.findIdx? (fun x => x.id == k) with
  | none => rw [hf] at e; cases e
  | some n =>
    rw [hf] at e
    obtain ⟨x, hx, hk⟩ := (idx_iff h).1 hf
    have hn := (List.getElem?_eq_some_iff.1 hx).1
    refine ⟨n, (Option.some.inj e).symm, hn, ?_⟩
    rw [gt_get hn] at hx
    rw [← hk, Option.some.inj hx]
theorem take_gt {arr : List HI} {i n : Nat} (hi : i < n) (hn : n ≤ arr.length) : gt (arr.take n) i = gt arr i := by
  rw [gt_eq (by simp; omega), gt_eq (by omega), List.getElem_take]
theorem take_off {arr : List HI} (h : Nd arr) {n : Nat} (hn : n + 1 = arr.length) : arr.take n = off (gt arr n).id arr := by
  rw [off_split h (by omega), List.drop_of_length_le (by omega), List.append_nil]
theorem take_nd {arr : List HI} (h : Nd arr) (n : Nat) : Nd (arr.take n) := List.Nodup.sublist ((List.take_sublist _ _).map _) h
theorem take_atD {arr : List HI} (h : Nd arr) {n : Nat} (hn : n + 1 = arr.length) : atD (arr.take n) = upd (atD arr) (gt arr n).id none := by
  have e := split_at (arr := arr) (n := n) (by omega)
  rw [List.drop_of_length_le (by omega)] at e
  have hx : ∀ y ∈ arr.take n, y.id ≠ (gt arr n).id := fun y hy => by rw [take_off h hn] at hy; exact off_mem hy
  have e2 := app_atD (take_nd h n) hx
  rw [← e] at e2
  rw [e2]
  funext k
  unfold upd
  by_cases ek : k = (gt arr n).id
  · subst ek
    rw [if_pos rfl]
    unfold atD; rw [idx_none_iff.2 hx]; rfl
  · rw [if_neg ek, if_neg ek]
end Go.Proofs.YtflgnpidelkkpaaGreat
