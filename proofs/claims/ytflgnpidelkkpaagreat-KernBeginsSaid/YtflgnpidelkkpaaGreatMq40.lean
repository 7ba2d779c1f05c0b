/- part 40 of the proof: contracts of the functions that the law reaches, and plain laws. -/
import Derived.Test.YtflgnpidelkkpaaGreatMq7
import Derived.Test.YtflgnpidelkkpaaGreatMq39
import Derived.Test.YtflgnpidelkkpaaGreatMq36
import Derived.Test.YtflgnpidelkkpaaGreatMq30
import Derived.Test.YtflgnpidelkkpaaGreatMq37
import Derived.Test.YtflgnpidelkkpaaGreatMq38
namespace Go.Proofs.YtflgnpidelkkpaaGreat
set_option maxRecDepth 8000
set_option maxHeartbeats 1000000
set_option linter.unusedVariables false
set_option linter.unusedSimpArgs false
abbrev newE : List (Nat × Nat) := [(1, 11), (2, 12), (3, 13), (4, 14), (5, 15), (6, 16), (7, 17), (8, 18), (9, 19), (13, 23), (17, 27), (18, 28)]
def newL : List Nat := [0, 2, 66, 194, 450, 962, 263106].flatMap fun c => [0, 4].flatMap fun a => [0, 8].flatMap fun b => [0, 16].flatMap fun d => [0, 32].flatMap fun e => [0, 8192].flatMap fun f => [0, 131072].map fun g => 121857 + c + a + b + d + e + f + g
def newD : List Nat := [0, 1, 0, 0, 0, 0, 2, 64, 128, 256, 0, 1024, 2048, 4096, 0, 16384, 32768, 65536, 512, 402430, 524288, 2097151, 4194303]
theorem newOk : maskOk newD 524287 (2 ^ 23) (newE.map (·.1)) newL = true := by kernel_rfl
def newR (p : PlatV) : Nat → Value → List Hp → Prop
  | 1, v, ns => ∃ (q : PlatV) (h1 h2 h3 : Hp), v = .agg q.enc.toArray ∧ ns = [h1, h2, h3] ∧ q.pl = p.pl ∧ RowAt h1 [] q.levels.A (q.levels.xs.flatMap LevelV.enc) ∧ RowAt h2 [] q.sleeps.A (q.sleeps.xs.flatMap SleepV.enc) ∧ RowAt h3 [] q.devices.A (q.devices.xs.flatMap DeviceV.enc)
  | 2, v, ns => ∃ b, v = .chan (some b) ∧ ns = [one b (.chan 6 #[] false 0 0 false)]
  | 3, v, ns => ∃ b, v = .slice (some ⟨b, 0, none⟩) 6 6 ∧ ns = [one b (cells (zrow (TaskV.enc ⟨0, 0, ⟨none, 0, []⟩, ⟨none, 0, []⟩⟩) 6) 33)]
  | 4, v, ns => ∃ b, v = .slice (some ⟨b, 0, none⟩) 6 6 ∧ ns = [one b (cells (zrow (encI 0) 6) 3)]
  | 5, v, ns => ∃ b, v = .slice (some ⟨b, 0, none⟩) 6 6 ∧ ns = [one b (cells (zrow (encI 0) 6) 3)]
  | 6, v, ns => ∃ b h, v = ptrV b ∧ ns = [h] ∧ Thing (RdyC b []) h
  | 7, v, ns => ∃ b h, v = ptrV b ∧ ns = [h] ∧ Thing (LockC b []) h
  | 8, v, ns => ∃ b h, v = ptrV b ∧ ns = [h] ∧ Thing (LatC b []) h
  | 9, v, ns => ∃ b h, v = ptrV b ∧ ns = [h] ∧ Thing (TimC b []) h
  | 13, v, ns => ∃ b, v = .slice (some ⟨b, 0, none⟩) p.devices.xs.length p.devices.xs.length ∧ ns = [one b (cells (zrow (DevV.enc ⟨0, 0⟩) p.devices.xs.length) 72)]
  | 17, v, ns => ∃ b, v = .slice (some ⟨b, 0, none⟩) p.devices.xs.length p.devices.xs.length ∧ ns = [one b (cells (zrow (encI 0) p.devices.xs.length) 3)]
  | 18, v, ns => ∃ b h, v = ptrV b ∧ ns = [h] ∧ Thing (TraceO b []) h
  | _, _, _ => False
attribute [local irreducible] W X WL WA WB WG WO Rn Own one splice Arr Spec WQ WH Qn
set_option maxHeartbeats 16000000 in
theorem knew_any (p : PlatV) (F : Hp) (hp : PlatAt F p) (f1 : p.sleeps.xs.length * 48 ≤ 140737488355328) (f2 : p.devices.xs.length * 56 ≤ 140737488355328) : Spec Tryz.prog 34 [.agg p.enc.toArray] F [] fun v hs =>
    (tableQ p.pl = true ∧ ∃ b, v = .tuple #[ptrV b, .int .i64 0] ∧ KerC b (newK p.pl) hs) ∨ (tableQ p.pl = false ∧ v = .tuple #[.pointer none, .int .i64 2] ∧ hs = []) := by
  refine Spec.enter Tryz.func34 rfl Tryz.ntmps34 rfl fun B => ?_
  cases ht : tableQ p.pl with
  | false =>
    have hv : (if tableQ p.pl = true then (0 : Int) else 2) = 2 := by rw [ht]; rfl
    repeat' (first | ((refine WL.ex rfl (WO.callN Tryz.func71 rfl (by kernel_rfl) rfl Takes.nil (fun G hG hh => hv ▸ tblCheck_any p G (hp.up hG) f1 f2) ?_); rintro v own' ⟨rfl, rfl⟩)) | (first | refine soA ?_ | refine sgA ?_ | refine sxA ?_ | refine sbA ?_ | refine fun (Q : Post) hQ => ?_ | refine fun (nb : Nat) => (?_ : WL _ _ _ _ _ _ _ _ _) | (refine WL.guard rfl rfl rfl (fun h => ?_) (fun h => ?_) <;> (try dsimp only at h))))
    ((refine seE ?_); refine ⟨[], Keep.nil, ?_⟩)
    exact .inr ⟨rfl, rfl, rfl⟩
  | true =>
    have hv : (if tableQ p.pl = true then (0 : Int) else 2) = 0 := by rw [ht]; rfl
    have t := tableQ_spec ht
    have l4 : p.levels.xs.length ≤ 4 := t.lev.2
    have s3 : p.sleeps.xs.length ≤ 3 := t.sl3
    have d3 : p.devices.xs.length ≤ 3 := t.dv3
    repeat' (first | ((refine WL.ex rfl (WO.callN Tryz.func71 rfl (by kernel_rfl) rfl Takes.nil (fun G hG hh => hv ▸ tblCheck_any p G (hp.up hG) f1 f2) ?_); rintro v own' ⟨rfl, rfl⟩)) | (first | refine soA ?_ | refine sgA ?_ | refine sxA ?_ | refine sbA ?_ | refine fun (Q : Post) hQ => ?_ | refine fun (nb : Nat) => (?_ : WL _ _ _ _ _ _ _ _ _) | (refine WL.guard rfl rfl rfl (fun h => ?_) (fun h => ?_) <;> (try dsimp only at h))))
    refine dra (m := 23) [(1, [])] [] ?_
    refine drl 23 0 0 1 ?_
    refine drp 23 10 1025 ?_
    refine drl 23 11 0 3073 ?_
    refine drp 23 12 7169 ?_
    refine drp 23 14 23553 ?_
    refine drl 23 15 0 56321 ?_
    refine drp 23 16 121857 ?_
    refine WA.any (fuel' := 4) (N := 23) (full := 524287) (k := 12) (m := 121857) newE newL (newR p) rfl (by decide) ?_ (by decide) (by decide) (by decide) (by decide) (fun e he => ?_) (fun i ns => PinsOk.one i ns) (fun e he => ?_) (fun f hf => ?_)
    · exact freeOk_mask (D := newD) rfl (by kernel_rfl) newOk
    · simp only [newE, List.mem_cons, List.not_mem_nil, or_false] at he
      rcases he with rfl | rfl | rfl | rfl | rfl | rfl | rfl | rfl | rfl | rfl | rfl | rfl <;> rfl
    · simp only [newE, List.mem_cons, List.not_mem_nil, or_false] at he
      rcases he with rfl | rfl | rfl | rfl | rfl | rfl | rfl | rfl | rfl | rfl | rfl | rfl
      · refine ⟨_, _, _, _, rfl, rfl, fun hs => ?_⟩; refine WO.callN Tryz.func72 rfl (by kernel_rfl) rfl (own := []) (by exact tsA) (fun G hG hh => kown_any p G (hp.up hG) (by omega) (by omega) (by omega)) ?_; rintro v own' ⟨q, g1, g2, g3, rfl, rfl, hq, r1, r2, r3⟩; exact ⟨[g1, g2, g3], ⟨q, g1, g2, g3, rfl, rfl, hq, r1, r2, r3⟩, rfl⟩
      · refine ⟨_, _, _, _, rfl, rfl, fun hs => ?_⟩; apply WO.makeChan 6; (exact rfl); (decide); (decide); intro b; exact ⟨_, ⟨b, rfl, rfl⟩, rfl⟩
      · refine ⟨_, _, _, _, rfl, rfl, fun hs => ?_⟩; apply WO.makeSlice 6 6; (exact rfl); (exact rfl); (exact rfl); (exact rfl); (exact Nat.le_refl _); (decide); (decide); (exact rfl); intro b; exact ⟨_, ⟨b, rfl, rfl⟩, rfl⟩
      · refine ⟨_, _, _, _, rfl, rfl, fun hs => ?_⟩; apply WO.makeSlice 6 6; (exact rfl); (exact rfl); (exact rfl); (exact rfl); (exact Nat.le_refl _); (decide); (decide); (exact rfl); intro b; exact ⟨_, ⟨b, rfl, rfl⟩, rfl⟩
      · refine ⟨_, _, _, _, rfl, rfl, fun hs => ?_⟩; apply WO.makeSlice 6 6; (exact rfl); (exact rfl); (exact rfl); (exact rfl); (exact Nat.le_refl _); (decide); (decide); (exact rfl); intro b; exact ⟨_, ⟨b, rfl, rfl⟩, rfl⟩
      · refine ⟨_, _, _, _, rfl, rfl, fun hs => ?_⟩; refine WO.callN Tryz.func73 rfl (by kernel_rfl) rfl (own := []) (by exact tsA) (fun G hG hh => Spec.thing (R := fun b hs => RdyC b [] hs) (rynew_any G)) ?_; rintro v own' ⟨b, h, rfl, rfl, t⟩; exact ⟨[h], ⟨b, h, rfl, rfl, t⟩, rfl⟩
      · refine ⟨_, _, _, _, rfl, rfl, fun hs => ?_⟩; refine WO.callN Tryz.func74 rfl (by kernel_rfl) rfl (own := []) (by exact tsA) (fun G hG hh => Spec.thing (R := fun b hs => LockC b [] hs) (lknew_any G)) ?_; rintro v own' ⟨b, h, rfl, rfl, t⟩; exact ⟨[h], ⟨b, h, rfl, rfl, t⟩, rfl⟩
      · refine ⟨_, _, _, _, rfl, rfl, fun hs => ?_⟩; refine WO.callN Tryz.func75 rfl (by kernel_rfl) rfl (own := []) (by exact tsA) (fun G hG hh => Spec.thing (R := fun b hs => LatC b [] hs) (lnew_any G)) ?_; rintro v own' ⟨b, h, rfl, rfl, t⟩; exact ⟨[h], ⟨b, h, rfl, rfl, t⟩, rfl⟩
      · refine ⟨_, _, _, _, rfl, rfl, fun hs => ?_⟩; refine WO.callN Tryz.func76 rfl (by kernel_rfl) rfl (own := []) (by exact tsA) (fun G hG hh => Spec.thing (R := fun b hs => TimC b [] hs) (tnew_any G)) ?_; rintro v own' ⟨b, h, rfl, rfl, t⟩; exact ⟨[h], ⟨b, h, rfl, rfl, t⟩, rfl⟩
      · refine ⟨_, _, _, _, rfl, rfl, fun hs => ?_⟩; apply WO.makeSlice p.devices.xs.length p.devices.xs.length; (exact rfl); (exact rfl); (exact rfl); (exact rfl); (exact Nat.le_refl _); (omega); (omega); (exact rfl); intro b; exact ⟨_, ⟨b, rfl, rfl⟩, rfl⟩
      · refine ⟨_, _, _, _, rfl, rfl, fun hs => ?_⟩; apply WO.makeSlice p.devices.xs.length p.devices.xs.length; (exact rfl); (exact rfl); (exact rfl); (exact rfl); (exact Nat.le_refl _); (omega); (omega); (exact rfl); intro b; exact ⟨_, ⟨b, rfl, rfl⟩, rfl⟩
      · refine ⟨_, _, _, _, rfl, rfl, fun hs => ?_⟩; refine WO.callN Tryz.func77 rfl (by kernel_rfl) rfl (own := []) (by exact tsA) (fun G hG hh => Spec.thing (R := fun b hs => TraceO b [] hs) (traceNew_any G)) ?_; rintro v own' ⟨b, h, rfl, rfl, t⟩; exact ⟨[h], ⟨b, h, rfl, rfl, t⟩, rfl⟩
    · obtain ⟨q, g1, g2, g3, v1, n1, hq, r1, r2, r3⟩ : newR p 1 (f 1).1 (f 1).2 := hf (1, 11) (by decide)
      obtain ⟨chb, v2, n2⟩ : newR p 2 (f 2).1 (f 2).2 := hf (2, 12) (by decide)
      obtain ⟨tb, v3, n3⟩ : newR p 3 (f 3).1 (f 3).2 := hf (3, 13) (by decide)
      obtain ⟨ub, v4, n4⟩ : newR p 4 (f 4).1 (f 4).2 := hf (4, 14) (by decide)
      obtain ⟨wb, v5, n5⟩ : newR p 5 (f 5).1 (f 5).2 := hf (5, 15) (by decide)
      obtain ⟨sb, hS, v6, n6, tS⟩ : newR p 6 (f 6).1 (f 6).2 := hf (6, 16) (by decide)
      obtain ⟨lb, hL, v7, n7, tL⟩ : newR p 7 (f 7).1 (f 7).2 := hf (7, 17) (by decide)
      obtain ⟨ab, hA, v8, n8, tA⟩ : newR p 8 (f 8).1 (f 8).2 := hf (8, 18) (by decide)
      obtain ⟨ib, hI, v9, n9, tI⟩ : newR p 9 (f 9).1 (f 9).2 := hf (9, 19) (by decide)
      obtain ⟨db, v13, n13⟩ : newR p 13 (f 13).1 (f 13).2 := hf (13, 23) (by decide)
      obtain ⟨eb, v17, n17⟩ : newR p 17 (f 17).1 (f 17).2 := hf (17, 27) (by decide)
      obtain ⟨rb, hR, v18, n18, tR⟩ : newR p 18 (f 18).1 (f 18).2 := hf (18, 28) (by decide)
      simp only [newE, List.map_cons, List.map_nil, List.flatMap_cons, List.flatMap_nil, List.cons_append, List.nil_append, List.append_nil, v1, n1, v2, n2, v3, n3, v4, n4, v5, n5, v6, n6, v7, n7, v8, n8, v9, n9, v13, n13, v17, n17, v18, n18]
      clear hf v1 v2 v3 v4 v5 v6 v7 v8 v9 v13 v17 v18 n1 n2 n3 n4 n5 n6 n7 n8 n9 n13 n17 n18
      refine drp 23 19 1048575 (hy := by (apply Rn.build; (exact fpA))) ?_
      refine dr1 20 ?_
      refine dre 23 20 2097151 ?_
      refine WO.box rfl rfl ?_
      intro kb
      refine ⟨piA, ?_⟩
      refine drp 23 21 4194303 ?_
      refine drp 23 22 8388607 ?_
      refine drz ?_
      repeat' (first | refine soA ?_ | refine sgA ?_ | refine sxA ?_ | refine sbA ?_ | refine fun (Q : Post) hQ => ?_ | refine fun (nb : Nat) => (?_ : WL _ _ _ _ _ _ _ _ _) | (refine WL.guard rfl rfl rfl (fun h => ?_) (fun h => ?_) <;> (try dsimp only at h)))
      refine X.shutK (hs1 := [g1, g2, g3]) (r := [one kb (cells [.slice q.levels.A q.levels.xs.length q.levels.c, .slice q.sleeps.A q.sleeps.xs.length q.sleeps.c, .slice q.devices.A q.devices.xs.length q.devices.c, .int .i64 q.idle, .int .i64 q.crit, .int .i64 q.switch, .int .i64 q.switchE, .int .i64 q.sems, .int .i64 q.horizon, .int .i64 0, .int .i64 0, .int .i64 0, .bool false, .chan (some chb), .slice (some ⟨tb, 0, none⟩) 6 6, .slice (some ⟨ub, 0, none⟩) 6 6, .slice (some ⟨wb, 0, none⟩) 6 6, ptrV sb, .slice none 0 0, .bool false, ptrV lb, ptrV ab, ptrV ib, .slice (some ⟨db, 0, none⟩) p.devices.xs.length p.devices.xs.length, .slice (some ⟨eb, 0, none⟩) p.devices.xs.length p.devices.xs.length, .bool false, .int .i64 0, .int .i64 0, ptrV rb, .int .i64 0, .int .i64 0, .int .i64 0, .int .i64 0, .slice none 0 0] 108), one tb (cells (zrow (TaskV.enc taskZV) 6) 33), one ub (cells (zrow (encI 0) 6) 3), one wb (cells (zrow (encI 0) 6) 3), hS, hL, hA, hI, one db (cells (zrow (DevV.enc ⟨0, 0⟩) p.devices.xs.length) 72), one eb (cells (zrow (encI 0) p.devices.xs.length) 3), hR, one chb (.chan 6 #[] false 0 0 false)]) (by (exact keA)) fun ap => X.pad (X.pad (X.pad ?_))
      (refine seE ?_)
      exact ⟨_, (by (exact keA)), .inl ⟨rfl, kb, rfl, new_done hq r1 r2 r3 tS tL tA tI tR d3 ap⟩⟩
end Go.Proofs.YtflgnpidelkkpaaGreat
namespace Go.Proofs.YtflgnpidelkkpaaGreat
set_option maxRecDepth 8000
set_option maxHeartbeats 1000000
set_option linter.unusedVariables false
set_option linter.unusedSimpArgs false
def spentV (s : Kn) (d : Int) : Int := if d < 0 ∨ (s.devs.length : Int) ≤ d then 0 else match s.devs[d.toNat]?, s.p.devices[d.toNat]? with
  | some x, some o => w64 (s.spent.getD d.toNat 0 + devEnergyV o x s.now)
  | _, _ => 0
structure TkS where
  k : Nat
  l : List TaskV
  A : Option Addr
  c : Nat
  h : Hp
  hm : Hp
structure TkO (s : Kn) (n : Nat) (x : TkS) : Prop where
  k : x.k ≤ n
  pl : x.l.map TaskV.pl = s.tasks.take x.k
  len : x.l.length = x.k
  arr : ArrK x.l x.A x.c x.h
  sec : ∀ t ∈ x.l, RowAt x.hm [] t.sec.A (t.sec.xs.flatMap encI)
  dev : ∀ t ∈ x.l, RowAt x.hm [] t.devs.A (t.devs.xs.flatMap encI)
attribute [local irreducible] W X WL WA WB WG WO Rn Own one splice Arr Spec WQ WH Qn
set_option maxHeartbeats 8000000 in
theorem kTasks_any (b : Nat) (s : Kn) (F : Hp) (hs : List Hp) (ho : KerC b s hs) (w : KOk s) : Spec Tryz.prog 44 [ptrV b] F hs fun v hs' =>
    ∃ (ts : List TaskV) (A : Option Addr) (c : Nat) (h1 h2 : Hp), v = .slice A ts.length ts.length ∧ hs' = h1 :: h2 :: hs ∧ ts.map TaskV.pl = s.tasks ∧ ArrK ts A c h1 ∧ (∀ t ∈ ts, RowAt h2 [] t.sec.A (t.sec.xs.flatMap encI)) ∧ (∀ t ∈ ts, RowAt h2 [] t.devs.A (t.devs.xs.flatMap encI)) := by
  obtain ⟨a, hP, hT, hM, hN, hU, hS, hK, hL, hA, hI, hD, hE, hR, hV, hC, rfl, k⟩ := ho
  refine Spec.enter Tryz.func44 rfl Tryz.ntmps44 rfl fun B => ?_
  have htl : a.ts.length = 6 := by rw [← w.nt, ← k.tasks, List.length_map]
  refine W.pad (W.pad ?_)
  repeat' (first | refine soA ?_ | refine sgA ?_ | refine sxA ?_ | refine sbA ?_ | refine fun (Q : Post) hQ => ?_ | refine fun (nb : Nat) => (?_ : WL _ _ _ _ _ _ _ _ _) | (refine WL.guard rfl rfl rfl (fun h => ?_) (fun h => ?_) <;> (try dsimp only at h)))
  refine W.loopK (σ := TkS) ⟨TkO s a.ts.length, fun x => [(13, some (.int .i64 (x.k : Nat))), (12, some (.int .i64 (a.ts.length : Nat))), (11, some (.slice a.A1 a.ts.length a.c1)), (3, some (.slice x.A x.l.length x.c))], fun x => [x.h, x.hm, one b (cells (KM s a) 108), hP, hT, hM, hN, hU, hS, hK, hL, hA, hI, hD, hE, hR, hV, hC], fun x => a.ts.length - x.k⟩ ⟨0, [], none, 0, Hp.none, Hp.none⟩ ⟨Nat.zero_le _, rfl, rfl, Arr.nil _ _, (fun t ht => by cases ht), (fun t ht => by cases ht)⟩ (by repeat' (first | exact trivial | refine ⟨rfl, ?_⟩)) (by (exact keA)) ?_
  rintro ⟨n, l, A, c, h0, hm⟩ ⟨hk, hpl, hln, ha, hsec, hdev⟩ Q hLo
  dsimp only at hk hpl hln ha hsec hdev ⊢
  repeat' (first | refine soA ?_ | refine sgA ?_ | refine sxA ?_ | refine sbA ?_ | refine fun (Q : Post) hQ => ?_ | refine fun (nb : Nat) => (?_ : WL _ _ _ _ _ _ _ _ _) | (refine WL.guard rfl rfl rfl (fun h => ?_) (fun h => ?_) <;> (try dsimp only at h)))
  refine W.cond rfl (fun h3 => ?_) (fun h3 => ?_)
  · have hlt : n < a.ts.length := by simpa using h3
    obtain ⟨t, ht⟩ : ∃ t, a.ts[n]? = some t := ⟨_, List.getElem?_eq_getElem (by simpa using hlt)⟩
    have htm : t ∈ a.ts := List.mem_of_getElem? ht
    obtain ⟨g, o, eA, g1⟩ := (k.hT.rowX (Hp.le.refl hT)).own (F := F) |>.elem 4 TaskV.enc_len (by omega) n t ht
    have hs3 := w.secl t.pl (k.tasks ▸ List.mem_map.2 ⟨t, htm, rfl⟩)
    have f1 : t.sec.xs.length ≤ 3 := hs3.1
    have f2 : t.devs.xs.length ≤ 3 := hs3.2
    have ht2 : s.tasks[n]? = some t.pl := by rw [← k.tasks]; exact mapT_get ht
    have hle : ∀ B1 B2 : Option Addr, (l ++ [(⟨t.period, t.cycles, ⟨B1, t.sec.xs.length, t.sec.xs⟩, ⟨B2, t.devs.xs.length, t.devs.xs⟩⟩ : TaskV)]).length = l.length + 1 := fun _ _ => by simp
    repeat' (first | ((apply WL.rd; (exact rfl); (exact Rn.indexAddrE n eA rfl rfl (by first | rfl | omega) (by first | assumption | omega)))) | ((apply WL.rd; (exact rfl); (apply Rn.loadS; (exact rfl); (exact (CellsAt.weak g1 (by simp))); (exact rfl)))) | ((refine WL.ex rfl (WO.callN Tryz.func86 rfl (by kernel_rfl) rfl (own := []) (by (exact tsA)) (fun G hG hh => ownE_any t G ((k.sec t htm).up (hh hM (by simp)) (by simp)) ((k.dev t htm).up (hh hM (by simp)) (by simp)) (by omega) (by omega)) ?_); rintro v own' ⟨B1, q1, k1, B2, q2, k2, rfl, rfl, aB1, aB2⟩)) | ((apply WL.ex; (exact rfl); (apply WO.append (h := h0) (news := (⟨t.period, t.cycles, ⟨B1, t.sec.xs.length, t.sec.xs⟩, ⟨B2, t.devs.xs.length, t.devs.xs⟩⟩ : TaskV).enc) (m := 1); (exact rfl); (exact rfl); (exact tkA); (exact ha); (exact rfl); (decide); (exact rfl); (apply RowAt.cells; (exact atA)); (exact rfl); (omega); (omega); intro A' c' h' ha'; rw [← hle B1 B2] at ha' ⊢))) | (first | refine soA ?_ | refine sgA ?_ | refine sxA ?_ | refine sbA ?_ | refine fun (Q : Post) hQ => ?_ | refine fun (nb : Nat) => (?_ : WL _ _ _ _ _ _ _ _ _) | (refine WL.guard rfl rfl rfl (fun h => ?_) (fun h => ?_) <;> (try dsimp only at h))))
    refine X.shutK (hs1 := [hm, k1, k2]) (r := [h', one b (cells (KM s a) 108), hP, hT, hM, hN, hU, hS, hK, hL, hA, hI, hD, hE, hR, hV, hC]) (by (exact keA)) fun ap => ?_
    have l0 := joinL_le ap hm (by simp)
    have l1 := joinL_le ap k1 (by simp)
    have l2 := joinL_le ap k2 (by simp)
    refine hLo.nx ⟨n + 1, l ++ [⟨t.period, t.cycles, ⟨B1, t.sec.xs.length, t.sec.xs⟩, ⟨B2, t.devs.xs.length, t.devs.xs⟩⟩], A', c', h', joinL [hm, k1, k2]⟩ _ _ ⟨hlt, ?_, ?_, arrK_snoc ha', fun x hx => ?_, fun x hx => ?_⟩ (by dsimp only; omega) (by repeat' (first | exact trivial | refine ⟨rfl, ?_⟩)) (by (exact keA))
    · dsimp only
      rw [List.map_append, hpl, List.take_add_one, ht2]; rfl
    · dsimp only
      rw [hle, hln]
    · rcases List.mem_append.1 hx with hx | hx
      · exact (hsec x hx).up l0 (by simp)
      · rw [List.mem_singleton] at hx; subst hx; exact aB1.rowX l1
    · rcases List.mem_append.1 hx with hx | hx
      · exact (hdev x hx).up l0 (by simp)
      · rw [List.mem_singleton] at hx; subst hx; exact aB2.rowX l2
  · obtain rfl : n = a.ts.length := by simp at h3; omega
    have hpl2 : l.map TaskV.pl = s.tasks := by rw [hpl, List.take_of_length_le]; rw [← k.tasks, List.length_map]; exact Nat.le_refl _
    have hcap : l.length ≤ c := ha.le
    repeat' (first | ((refine WL.ex rfl (WO.callN Tryz.func87 rfl (by kernel_rfl) rfl (by (exact tsA)) (fun G hG hh => clipK_any A c l.length G hcap) ?_); rintro v own' ⟨rfl, rfl⟩)) | (first | refine soA ?_ | refine sgA ?_ | refine sxA ?_ | refine sbA ?_ | refine fun (Q : Post) hQ => ?_ | refine fun (nb : Nat) => (?_ : WL _ _ _ _ _ _ _ _ _) | (refine WL.guard rfl rfl rfl (fun h => ?_) (fun h => ?_) <;> (try dsimp only at h))))
    (refine seE ?_)
    exact ⟨_, (by (exact keA)), l, A, c, h0, hm, rfl, rfl, hpl2, ha, hsec, hdev⟩
set_option maxHeartbeats 8000000 in
theorem kSpent_any (b : Nat) (s : Kn) (d : Int) (F : Hp) (hs : List Hp) (ho : KerC b s hs) (w : KOk s) (m : KMom s) : Spec Tryz.prog 42 [ptrV b, .int .i64 d] F hs fun v hs' => v = .int .i64 (spentV s d) ∧ hs' = hs := by
  obtain ⟨a, hP, hT, hM, hN, hU, hS, hK, hL, hA, hI, hD, hE, hR, hV, hC, rfl, k⟩ := ho
  refine Spec.enter Tryz.func42 rfl Tryz.ntmps42 rfl fun B => ?_
  by_cases h1 : d < 0 ∨ (s.devs.length : Int) ≤ d
  · have e : spentV s d = 0 := if_pos h1
    by_cases h2 : d < 0
    all_goals
      repeat' (first | ((apply WL.rd; (exact rfl); (exact ckA))) | (first | refine soA ?_ | refine sgA ?_ | refine sxA ?_ | refine sbA ?_ | refine fun (Q : Post) hQ => ?_ | refine fun (nb : Nat) => (?_ : WL _ _ _ _ _ _ _ _ _) | (refine WL.guard rfl rfl rfl (fun h => ?_) (fun h => ?_) <;> (try dsimp only at h))))
      (refine seE ?_)
      exact ⟨_, (by (exact keA)), by rw [e], rfl⟩
  · obtain ⟨i, hi⟩ : ∃ i : Nat, d = i := ⟨d.toNat, by omega⟩
    have hdl := w.nd
    have hel := w.ne
    have hpd : a.p.devices.xs = s.p.devices := congrArg PP.devices k.pl
    have hil : i < s.devs.length := by omega
    have hie : i < s.spent.length := by omega
    have hio : i < a.p.devices.xs.length := by rw [hpd]; omega
    obtain ⟨x, hx⟩ : ∃ x, s.devs[i]? = some x := ⟨_, List.getElem?_eq_getElem hil⟩
    obtain ⟨u, hu⟩ : ∃ u, s.spent[i]? = some u := ⟨_, List.getElem?_eq_getElem hie⟩
    obtain ⟨o, ho⟩ : ∃ o, a.p.devices.xs[i]? = some o := ⟨_, List.getElem?_eq_getElem hio⟩
    have ho2 : s.p.devices[i]? = some o := hpd ▸ ho
    have hR0 := m.dev i o x ho2 hx
    have e : spentV s d = w64 (u + devEnergyV o x s.now) := by
      unfold spentV; rw [if_neg h1, hi, Int.toNat_natCast, hx, ho2, getD_at hu]
    obtain ⟨gD, LD, eD, rfl, _, _, hDg⟩ := arr_at (f := DevV.enc) (sz := 2) DevV.enc_len k.hD hil
    obtain ⟨gE, LE, eE, rfl, _, _, hEg⟩ := arr_at (f := encI) (sz := 1) (fun _ => rfl) k.hE hie
    obtain ⟨g3, o3, e3, c3⟩ := (k.plat.devices.own (F := F)).elem 7 DeviceV.enc_len (by omega) i o ho
    repeat' (first | ((apply WL.rd; (exact rfl); (exact ckA))) | (first | refine soA ?_ | refine sgA ?_ | refine sxA ?_ | refine sbA ?_ | refine fun (Q : Post) hQ => ?_ | refine fun (nb : Nat) => (?_ : WL _ _ _ _ _ _ _ _ _) | (refine WL.guard rfl rfl rfl (fun h => ?_) (fun h => ?_) <;> (try dsimp only at h))))
    refine dra [(0, [])] [((one gE (cells LE 3)), []), (hP, []), ((one gD (cells LD 72)), [])] ?_
    refine drp 29 0 1 ?_
    refine drp 29 1 3 ?_
    refine drp 29 2 7 ?_
    refine drl 29 3 0 15 ?_
    refine drp 29 4 31 ?_
    refine drp 29 5 63 (hy := by (exact Rn.indexAddrE i eE rfl rfl hi hie)) ?_
    refine drl 29 6 1 127 (hy := by (apply Rn.load; (exact rfl); (exact .mk At.one (hEg u hu 0 _ rfl)))) ?_
    refine drp 29 7 255 ?_
    refine drp 29 8 511 ?_
    refine drp 29 9 1023 ?_
    refine drp 29 10 2047 ?_
    refine drl 29 11 0 4095 ?_
    refine drp 29 12 8191 ?_
    refine drp 29 13 16383 (hy := by (exact Rn.indexAddrE i e3 rfl rfl hi hio)) ?_
    refine drl 29 14 2 32767 (hy := by (exact Rn.loadS (vs := o.enc) rfl c3 rfl)) ?_
    refine drp 29 15 65535 ?_
    refine drp 29 16 131071 ?_
    refine drp 29 17 262143 ?_
    refine drl 29 18 0 524287 ?_
    refine drp 29 19 1048575 ?_
    refine drp 29 20 2097151 (hy := by (exact Rn.indexAddrE i eD rfl rfl hi hil)) ?_
    refine drl 29 21 3 4194303 (hy := by (exact Rn.loadS (vs := x.enc) rfl (CellsAt.mk At.one (hDg x hx)) rfl)) ?_
    refine drp 29 22 8388607 ?_
    refine drp 29 23 16777215 ?_
    refine drp 29 24 33554431 ?_
    refine drl 29 25 0 67108863 ?_
    refine dr1 26 ?_
    refine dre 29 26 134217727 ?_
    (refine WO.callN Tryz.func82 rfl (by kernel_rfl) rfl (by (exact tsA)) (fun G hG hh => energy_any o x s.now G hR0) ?_; rintro v own' ⟨rfl, rfl⟩)
    refine ⟨piA, ?_⟩
    refine drp 29 27 268435455 (hy := by (exact Rn.addW rfl rfl)) ?_
    refine drp 29 28 536870911 ?_
    refine drz ?_
    repeat' (first | refine soA ?_ | refine sgA ?_ | refine sxA ?_ | refine sbA ?_ | refine fun (Q : Post) hQ => ?_ | refine fun (nb : Nat) => (?_ : WL _ _ _ _ _ _ _ _ _) | (refine WL.guard rfl rfl rfl (fun h => ?_) (fun h => ?_) <;> (try dsimp only at h)))
    (refine seE ?_)
    exact ⟨_, (by (exact keA)), by rw [e], rfl⟩
end Go.Proofs.YtflgnpidelkkpaaGreat
namespace Go.Proofs.YtflgnpidelkkpaaGreat
set_option maxRecDepth 8000
set_option maxHeartbeats 1000000
set_option linter.unusedVariables false
set_option linter.unusedSimpArgs false
abbrev KerT (b : Nat) (s : Kn) (h : Hp) : Prop := Thing (KerC b s) h
section
variable {P : Program} {f : FuncId} {args : List Value} {F : Hp} {h0 : Hp} {R : List Hp → Prop}
theorem Spec.objA {V : Option Addr → Nat → Value} {K : Option Addr → Nat → Hp → Prop} (ho : Thing R h0) (h : ∀ hs, R hs → Spec P f args F hs fun v hs' => ∃ A c h, v = V A c ∧ hs' = h :: hs ∧ K A c h) : Spec P f args F [h0] fun v hs' => ∃ A c h, v = V A c ∧ hs' = [h0, h] ∧ K A c h :=
  (Spec.objK (r := []) (K := fun v new => ∃ A c h, v = V A c ∧ new = [h] ∧ K A c h) ho fun hs hr => by
    rw [List.append_nil]
    exact (h hs hr).mono fun v hs' ⟨A, c, h, e, e2, a⟩ => ⟨[h], ⟨A, c, h, e, rfl, a⟩, e2 ▸ (List.perm_append_singleton h hs).symm⟩).mono fun v hs' ⟨new, ⟨A, c, h, e, e1, a⟩, e2⟩ => ⟨A, c, h, e, by rw [e2, e1], a⟩
theorem Spec.objE {V : Value} {R' : List Hp → Prop} (ho : Thing R h0) (h : ∀ hs, R hs → Spec P f args F hs fun v hs' => v = V ∧ R' hs') : Spec P f args F [h0] fun v hs' => ∃ h1, v = V ∧ hs' = [h1] ∧ Thing R' h1 :=
  (Spec.objW (R' := fun v hs' => v = V ∧ R' hs') ho h).mono fun v hs' ⟨h1, e, hs, e2, ap, ev, r⟩ => ⟨h1, ev, e, hs, e2, ap, r⟩
theorem Spec.objV {V : Value} (ho : Thing R h0) (h : ∀ hs, R hs → Spec P f args F hs fun v hs' => v = V ∧ hs' = hs) : Spec P f args F [h0] fun v hs' => v = V ∧ hs' = [h0] := Spec.objR (K := fun v => v = V) ho h
end
variable {b : Nat} {s : Kn} {h0 : Hp} {F : Hp}
theorem kDoT (x : StepV) (c : Nat) (ho : KerT b s h0) (h : KInv s c) (hc : c + 1 ≤ 2198000000000) (hx : StepX F x) : Spec Tryz.prog 17 [ptrV b, .agg x.enc.toArray] F [h0] fun v hs' => ∃ h1, v = .tuple #[.int .i64 (doK s x).2.1, .int .i64 (doK s x).2.2] ∧ hs' = [h1] ∧ KerT b (doK s x).1 h1 :=
  Spec.objE ho fun hs hr => do_any b s x c F hs hr h hc hx
theorem kNowT (ho : KerT b s h0) : Spec Tryz.prog 19 [ptrV b] F [h0] fun v hs' => v = .int .i64 s.now ∧ hs' = [h0] := Spec.objV ho fun hs hr => kNow_any b s F hs hr
theorem kLevelT (ho : KerT b s h0) : Spec Tryz.prog 46 [ptrV b] F [h0] fun v hs' => v = .int .i64 s.level ∧ hs' = [h0] := Spec.objV ho fun hs hr => kLevel_any b s F hs hr
theorem kAsleepT (ho : KerT b s h0) : Spec Tryz.prog 29 [ptrV b] F [h0] fun v hs' => v = .bool s.asleep ∧ hs' = [h0] := Spec.objV ho fun hs hr => kAsleep_any b s F hs hr
theorem kMeterT (ho : KerT b s h0) : Spec Tryz.prog 25 [ptrV b] F [h0] fun v hs' => v = .agg s.meter.enc.toArray ∧ hs' = [h0] := Spec.objV ho fun hs hr => kMeter_any b s F hs hr
theorem kNextT (n : Int) (w : KOk s) (ho : KerT b s h0) : Spec Tryz.prog 37 [ptrV b, .int .i64 n] F [h0] fun v hs' => v = .int .i64 (nextK s n) ∧ hs' = [h0] := Spec.objV ho fun hs hr => kNext_any b s n F hs hr w
theorem kUsedT (n : Int) (w : KOk s) (ho : KerT b s h0) : Spec Tryz.prog 39 [ptrV b, .int .i64 n] F [h0] fun v hs' => v = .int .i64 (usedK s n) ∧ hs' = [h0] := Spec.objV ho fun hs hr => kUsed_any b s n F hs hr w
theorem kDeviceT (d : Int) (ho : KerT b s h0) : Spec Tryz.prog 41 [ptrV b, .int .i64 d] F [h0] fun v hs' => v = .agg (deviceK s d).enc.toArray ∧ hs' = [h0] := Spec.objV ho fun hs hr => kDevice_any b s d F hs hr
theorem kSpentT (d : Int) (w : KOk s) (m : KMom s) (ho : KerT b s h0) : Spec Tryz.prog 42 [ptrV b, .int .i64 d] F [h0] fun v hs' => v = .int .i64 (spentV s d) ∧ hs' = [h0] := Spec.objV ho fun hs hr => kSpent_any b s d F hs hr w m
theorem kEventsT (hf : s.events.length * 32 ≤ 140737488355328) (ho : KerT b s h0) : Spec Tryz.prog 28 [ptrV b] F [h0] fun v hs' => ∃ A c h, v = .slice A s.events.length s.events.length ∧ hs' = [h0, h] ∧ Arr 66 4 s.events.length (s.events.flatMap EventV.enc) A c h := Spec.objA ho fun hs hr => kEvents_any b s F hs hr hf
theorem kJobsT (w : KOk s) (ho : KerT b s h0) : Spec Tryz.prog 47 [ptrV b] F [h0] fun v hs' => ∃ A c h, v = .slice A s.jobs.length c ∧ hs' = [h0, h] ∧ Arr 142 6 s.jobs.length (s.jobs.flatMap JobV.enc) A c h := Spec.objA ho fun hs hr => kJobs_any b s F hs hr w
theorem kHeldT (w : KOk s) (ho : KerT b s h0) : Spec Tryz.prog 49 [ptrV b] F [h0] fun v hs' => ∃ A c h, v = .slice A s.held.length s.held.length ∧ hs' = [h0, h] ∧ ArrL s.held A c h := Spec.objA ho fun hs hr => kHeld_any b s F hs hr w
theorem kStackT (w : KOk s) (ho : KerT b s h0) : Spec Tryz.prog 48 [ptrV b] F [h0] fun v hs' => ∃ A c h, v = .slice A s.stack.length s.stack.length ∧ hs' = [h0, h] ∧ Arr 3 1 s.stack.length (s.stack.flatMap encI) A c h := Spec.objA ho fun hs hr => kStack_any b s F hs hr w
theorem kTraceT (hf : s.trace.length * 48 ≤ 140737488355328) (ho : KerT b s h0) : Spec Tryz.prog 22 [ptrV b] F [h0] fun v hs' => ∃ A c h, v = .slice A s.trace.length c ∧ hs' = [h0, h] ∧ Arr 52 6 s.trace.length (s.trace.flatMap IntervalV.enc) A c h := Spec.objA ho fun hs hr => kTrace_any b s F hs hr hf
theorem kTasksT (w : KOk s) (ho : KerT b s h0) : Spec Tryz.prog 44 [ptrV b] F [h0] fun v hs' =>
    ∃ (ts : List TaskV) (A : Option Addr) (c : Nat) (h1 h2 : Hp), v = .slice A ts.length ts.length ∧ hs' = [h0, h1, h2] ∧ ts.map TaskV.pl = s.tasks ∧ ArrK ts A c h1 ∧ (∀ t ∈ ts, RowAt h2 [] t.sec.A (t.sec.xs.flatMap encI)) ∧ (∀ t ∈ ts, RowAt h2 [] t.devs.A (t.devs.xs.flatMap encI)) :=
  (Spec.objK (r := []) (K := fun v new => ∃ (ts : List TaskV) (A : Option Addr) (c : Nat) (h1 h2 : Hp), v = .slice A ts.length ts.length ∧ new = [h1, h2] ∧ ts.map TaskV.pl = s.tasks ∧ ArrK ts A c h1 ∧ (∀ t ∈ ts, RowAt h2 [] t.sec.A (t.sec.xs.flatMap encI)) ∧ (∀ t ∈ ts, RowAt h2 [] t.devs.A (t.devs.xs.flatMap encI))) ho fun hs hr => by
    rw [List.append_nil]
    exact (kTasks_any b s F hs hr w).mono fun v hs' ⟨ts, A, c, h1, h2, e, e2, k⟩ => ⟨[h1, h2], ⟨ts, A, c, h1, h2, e, rfl, k⟩, e2 ▸ (List.perm_append_comm (l₁ := [h1, h2]) (l₂ := hs))⟩).mono fun v hs' ⟨new, ⟨ts, A, c, h1, h2, e, e1, k⟩, e2⟩ => ⟨ts, A, c, h1, h2, e, by rw [e2, e1], k⟩
theorem knewT {p : PlatV} (hp : PlatAt F p) (f1 : p.sleeps.xs.length * 48 ≤ 140737488355328) (f2 : p.devices.xs.length * 56 ≤ 140737488355328) (ht : tableQ p.pl = true) : Spec Tryz.prog 34 [.agg p.enc.toArray] F [] fun v hs => ∃ b h, v = .tuple #[ptrV b, .int .i64 0] ∧ hs = [h] ∧ KerT b (newK p.pl) h :=
  Spec.shutC ((knew_any p F hp f1 f2).mono fun v hs h => by
    rcases h with ⟨_, b, rfl, k⟩ | ⟨e, _⟩
    · exact ⟨hs, [], by simp, fun ap => ⟨b, joinL hs, rfl, rfl, hs, rfl, ap, k⟩⟩
    · rw [ht] at e; cases e)
theorem knewN {p : PlatV} (hp : PlatAt F p) (f1 : p.sleeps.xs.length * 48 ≤ 140737488355328) (f2 : p.devices.xs.length * 56 ≤ 140737488355328) (ht : tableQ p.pl = false) : Spec Tryz.prog 34 [.agg p.enc.toArray] F [] fun v hs => v = .tuple #[.pointer none, .int .i64 2] ∧ hs = [] :=
  (knew_any p F hp f1 f2).mono fun v hs h => by
    rcases h with ⟨e, _⟩ | ⟨_, e⟩
    · rw [ht] at e; cases e
    · exact e
end Go.Proofs.YtflgnpidelkkpaaGreat
namespace Go.Proofs.YtflgnpidelkkpaaGreat
set_option maxRecDepth 8000
set_option maxHeartbeats 1000000
set_option linter.unusedVariables false
set_option linter.unusedSimpArgs false
def nilI : Sl Int := ⟨none, 0, []⟩
def PA : PP := ⟨[⟨1, 2⟩], [], [], 0, 0, 0, 0, 0, 50⟩
def XA1 : StepV := ⟨1, 0, 0, 0, ⟨10, 2, nilI, nilI⟩⟩
def XA2 : StepV := ⟨3, 0, 0, 2, ⟨0, 0, nilI, nilI⟩⟩
def XA3 : StepV := ⟨4, 3, 0, 0, ⟨0, 0, nilI, nilI⟩⟩
theorem ansT : tableQ PA = true := by kernel_rfl
noncomputable def SA1 : Kn := (doK (newK PA) XA1).1
noncomputable def SA2 : Kn := (doK SA1 XA2).1
noncomputable def SA3 : Kn := (doK SA2 XA3).1
theorem ans1 : (doK (newK PA) XA1).2 = (0, 0) := by kernel_rfl
theorem ans2 : (doK SA1 XA2).2 = (0, 0) := by kernel_rfl
theorem ans3 : (doK SA2 XA3).2 = (0, 0) := by kernel_rfl
theorem ans4 : SA3.events = [⟨1, 0, 0, 10⟩, ⟨2, 0, 2, 10⟩] := by kernel_rfl
theorem ans5 : SA3.meter.run = 4 := by kernel_rfl
theorem ans6 : SA3.now = 3 := by kernel_rfl
end Go.Proofs.YtflgnpidelkkpaaGreat
namespace Go.Proofs.YtflgnpidelkkpaaGreat
set_option maxRecDepth 8000
set_option maxHeartbeats 1000000
set_option linter.unusedVariables false
set_option linter.unusedSimpArgs false
theorem stepX_nil {x : StepV} (F : Hp) (h1 : x.task.sec = nilI) (h2 : x.task.devs = nilI) : StepX F x := ⟨by rw [h1]; exact RowAt.nil, by rw [h2]; exact RowAt.nil, by rw [h1]; decide, by rw [h2]; decide⟩
theorem sa1_inv : KInv SA1 1 := doK_inv (newK_inv ansT) XA1 (by decide)
theorem sa2_inv : KInv SA2 2 := doK_inv sa1_inv XA2 (by decide)
attribute [local irreducible] W X WL WA WB WG WO Rn Own one splice Arr Spec WQ WH Qn
theorem do1 {b : Nat} {F h0 : Hp} (ho : KerT b (newK PA) h0) : Spec Tryz.prog 17 [ptrV b, .agg XA1.enc.toArray] F [h0] fun v hs' => ∃ h1, v = .tuple #[.int .i64 0, .int .i64 0] ∧ hs' = [h1] ∧ KerT b SA1 h1 := by
  have h := kDoT (F := F) XA1 0 ho (newK_inv ansT) (by decide) (stepX_nil F rfl rfl)
  rw [ans1] at h; exact h
theorem do2 {b : Nat} {F h0 : Hp} (ho : KerT b SA1 h0) : Spec Tryz.prog 17 [ptrV b, .agg XA2.enc.toArray] F [h0] fun v hs' => ∃ h1, v = .tuple #[.int .i64 0, .int .i64 0] ∧ hs' = [h1] ∧ KerT b SA2 h1 := by
  have h := kDoT (F := F) XA2 1 ho sa1_inv (by decide) (stepX_nil F rfl rfl)
  rw [ans2] at h; exact h
theorem do3 {b : Nat} {F h0 : Hp} (ho : KerT b SA2 h0) : Spec Tryz.prog 17 [ptrV b, .agg XA3.enc.toArray] F [h0] fun v hs' => ∃ h1, v = .tuple #[.int .i64 0, .int .i64 0] ∧ hs' = [h1] ∧ KerT b SA3 h1 := by
  have h := kDoT (F := F) XA3 2 ho sa2_inv (by decide) (stepX_nil F rfl rfl)
  rw [ans3] at h; exact h
theorem do4 {b : Nat} {F h0 : Hp} (ho : KerT b SA3 h0) : Spec Tryz.prog 28 [ptrV b] F [h0] fun v hs' => ∃ A c h, v = .slice A 2 2 ∧ hs' = [h0, h] ∧ Arr 66 4 2 ([⟨1, 0, 0, 10⟩, ⟨2, 0, 2, 10⟩].flatMap EventV.enc) A c h := by
  have h := kEventsT (F := F) (by rw [ans4]; decide) ho
  rw [ans4] at h; exact h
theorem do5 {b : Nat} {F h0 : Hp} (ho : KerT b SA3 h0) : Spec Tryz.prog 25 [ptrV b] F [h0] fun v hs' => v = .agg #[.int .i64 4, .int .i64 SA3.meter.idle, .int .i64 SA3.meter.switch, .int .i64 SA3.meter.sleep] ∧ hs' = [h0] := by
  have h := kMeterT (F := F) ho
  unfold MeterV.enc at h
  rw [ans5] at h; exact h
theorem do6 {b : Nat} {F h0 : Hp} (ho : KerT b SA3 h0) : Spec Tryz.prog 19 [ptrV b] F [h0] fun v hs' => v = .int .i64 3 ∧ hs' = [h0] := by
  have h := kNowT (F := F) ho
  rw [ans6] at h; exact h
set_option maxHeartbeats 8000000 in
theorem answersKn_any (F : Hp) : Spec Tryz.prog 33 [] F [] fun v hs => v = .bool true ∧ hs = [] := by
  refine Spec.enter Tryz.func33 rfl Tryz.ntmps33 rfl fun B => ?_
  have hpl : ∀ A : Option Addr, (⟨⟨A, 1, [⟨1, 2⟩]⟩, ⟨none, 0, []⟩, ⟨none, 0, []⟩, 0, 0, 0, 0, 0, 50⟩ : PlatV).pl = PA := fun A => rfl
  repeat' (first | ((apply WL.rd; (exact rfl); (apply Rn.build; (exact fpA)))) | ((refine WL.ex rfl (WO.callN Tryz.func34 rfl (by kernel_rfl) rfl (own := []) (by (exact tsA)) (fun G hG hh => (knewT (p := ⟨⟨some ⟨nb, 0, none⟩, 1, [⟨1, 2⟩]⟩, ⟨none, 0, []⟩, ⟨none, 0, []⟩, 0, 0, 0, 0, 0, 50⟩) ⟨(RowAt.cells (l := [.int .i64 1, .int .i64 2]) (by (exact atA))).up hG hh, RowAt.nil, RowAt.nil⟩ (Nat.le_of_ble_eq_true rfl) (Nat.le_of_ble_eq_true rfl) ansT : Spec _ _ _ _ _ fun v hs => ∃ b h, v = .tuple #[ptrV b, .int .i64 0] ∧ hs = [h] ∧ KerT b (newK PA) h)) ?_); rintro v own' ⟨b, h0, rfl, rfl, t0⟩)) | ((refine WL.ex rfl (WO.callN Tryz.func17 rfl (by kernel_rfl) rfl (own := [h0]) (by (exact tsA)) (fun G hG hh => do1 t0) ?_); rintro v own' ⟨h1, rfl, rfl, t1⟩)) | ((refine WL.ex rfl (WO.callN Tryz.func17 rfl (by kernel_rfl) rfl (own := [h1]) (by (exact tsA)) (fun G hG hh => do2 t1) ?_); rintro v own' ⟨h2, rfl, rfl, t2⟩)) | ((refine WL.ex rfl (WO.callN Tryz.func17 rfl (by kernel_rfl) rfl (own := [h2]) (by (exact tsA)) (fun G hG hh => do3 t2) ?_); rintro v own' ⟨h3, rfl, rfl, t3⟩)) | ((refine WL.ex rfl (WO.callN Tryz.func28 rfl (by kernel_rfl) rfl (own := [h3]) (by (exact tsA)) (fun G hG hh => do4 t3) ?_); rintro v own' ⟨A4, c4, h4, rfl, rfl, a4⟩; obtain ⟨g4, sp4, rfl, rfl, _, _, _⟩ := a4.some (Nat.le_of_ble_eq_true rfl))) | ((apply WL.rd; (exact rfl); (exact Rn.field rfl rfl))) | ((apply WL.rd; (exact rfl); (exact Rn.indexAddr 1 rfl rfl (by first | rfl | omega) (by omega)))) | ((apply WL.rd; (exact rfl); (exact Rn.loadS (vs := (⟨2, 0, 2, 10⟩ : EventV).enc) rfl (CellsAt.part (by (exact atA)) rfl) rfl))) | ((refine WL.ex rfl (WO.callN Tryz.func25 rfl (by kernel_rfl) rfl (own := [h3]) (by (exact tsA)) (fun G hG hh => do5 t3) ?_); rintro v own' ⟨rfl, rfl⟩)) | ((refine WL.ex rfl (WO.callN Tryz.func19 rfl (by kernel_rfl) rfl (own := [h3]) (by (exact tsA)) (fun G hG hh => do6 t3) ?_); rintro v own' ⟨rfl, rfl⟩)) | (first | refine soA ?_ | refine sgA ?_ | refine sxA ?_ | refine sbA ?_ | refine fun (Q : Post) hQ => ?_ | refine fun (nb : Nat) => (?_ : WL _ _ _ _ _ _ _ _ _) | (refine WL.guard rfl rfl rfl (fun h => ?_) (fun h => ?_) <;> (try dsimp only at h))))
  ((refine seE ?_); refine ⟨[], Keep.nil, ?_⟩)
  exact ⟨rfl, rfl⟩
end Go.Proofs.YtflgnpidelkkpaaGreat
