/- Layer 22: New, Feed and Flush (the program). -/
import Derived.Test.YtfheeghkajihoaaDoorBo
namespace Go.Proofs.YtfheeghkajihoaaDoor
open Go Go.Lx
set_option linter.unusedSimpArgs false
set_option linter.unusedVariables false
set_option maxRecDepth 100000
set_option maxHeartbeats 4000000

theorem new (bo : Int) : Pure Tryd.prog gl 17 [.int .i64 bo] (.agg (AsC ⟨bo, 1, 0, [], [], [], 0⟩)) := by
  refine fn_pureT Tryd.func17 t17 Tryd.ntmps17 (by simp) ?_
  unfold c17 r17
  rw [AsC_eq]
  repeat' (first | (simp (disch := first | omega | (simp only [List.length_cons, List.length_nil]; first | done | omega)) only [go_sem, Nat.reduceAdd, Nat.reduceMul, Nat.reduceSub, Nat.reduceEqDiff, Nat.reduceLeDiff, Nat.reduceMod, Nat.reduceLT, Int.reduceToNat, Int.reduceAdd, Int.reduceSub, Int.reduceMul, Int.reduceNeg, Int.reduceLE, Int.reduceLT, Int.reduceNe, Int.reduceEq, Int.reduceBEq, Int.reduceBNe, Int.reduceTMod, Int.reduceTDiv, Nat.reduceBEq]) | (refine allI (fun b => ?_)) | (refine allT (fun τ => ?_)) | (refine brP (fun h => ?_) (fun h => ?_) <;> (try simp only [zgx, zbx] at h)) | (apply And.intro; focus (first | omega | (simp; done) | (simp +contextual; done) | (intros; and_intros <;> first | assumption | omega) | (intros; simp_all; done) | (intro hgd; refine ⟨hgd, ?_⟩; simp [hgd]; done) | (intro hgd; simp only [zgx] at hgd ⊢; omega))) | fail)
  exact leV.agg ⟨leV.refl _, leV.refl _, leV.refl _, leV.nil_sl _ _, leV.nil_sl _ _, leV.nil_sl _ _, leV.refl _, trivial⟩
theorem leVs_ew : ∀ (l : List (Ev × Tok)), leVs (l.flatMap EwC) ((l.map Prod.fst).flatMap EvC)
  | [] => trivial
  | x :: l => by
    rw [List.flatMap_cons, List.map_cons, List.flatMap_cons, EwC_eq, EvC_eq]
    exact leVs.app ⟨leV.refl _, leV.refl _, leV.refl _, leV.osl_sl _ _ _ _ _, leV.refl _, trivial⟩ (leVs_ew l)
/-- what is given back -/
theorem pubO (k : Wk) (hc : caps k) : leVH gl (.tup [.agg [.int .i64 k.a.bo, .int .i64 k.a.nx, .int .i64 k.a.st, .msl 60 5 k.bO 0 k.ws.length k.cO, .msl 62 5 k.bL 0 k.a.ls.length k.cL, .msl 63 2 k.bG 0 k.a.gs.length k.cG, .int .i64 k.a.la], .osl 64 k.τ 5 k.out.length (k.out.flatMap EvC)]) [(60, .blk k.bO (BO k)), (62, .blk k.bL (BL k)), (63, .blk k.bG (BG k)), (64, .tok k.τ)] (.tup [.agg (AsC k.st.1), .osl 64 k.τ 5 k.out.length (k.out.flatMap EvC)]) [(64, .tok k.τ)] := by
  have h1 := len_ew k.ws
  have h2 := len_ls k.a.ls
  have h3 := len_gp k.a.gs
  have c1 := hc.cO
  have c2 := hc.cL
  have c3 := hc.cG
  have s1 : (BO k).length = k.cO * 5 := by rw [BO, length_Sp]; omega
  have s2 : (BL k).length = k.cL * 5 := by rw [BL, length_Sp]; omega
  have s3 : (BG k).length = k.cG * 2 := by rw [BG, length_Sp]; omega
  refine leVH.pub 60 rfl ?_ (leVH.pub 62 rfl ?_ (leVH.pub 63 rfl ?_ (leVH.of ?_ ⟨[(64, .tok k.τ)], List.Sublist.refl _, List.Perm.refl _⟩)))
  all_goals simp [pubV, pubAs, pubA, pubCs, pubC]
  · exact ⟨by omega, c1⟩
  · exact ⟨by omega, c2⟩
  · exact ⟨by omega, c3⟩
  · rw [BO, BL, BG, take_Sp _ h1, take_Sp _ h2, take_Sp _ h3, AsC_eq]
    simp only [Wk.st, List.length_map]
    exact leV.tup ⟨leV.agg ⟨leV.refl _, leV.refl _, leV.refl _, leV.sl (leVs_ew _), leV.refl _, leV.refl _, leV.refl _, trivial⟩, leV.refl _, trivial⟩
theorem pubT (k : Wk) (hc : caps k) : leVH gl (.tup [.agg [.int .i64 k.a.bo, .int .i64 k.a.nx, .int .i64 k.a.st, .msl 60 5 k.bO 0 k.ws.length k.cO, .msl 62 5 k.bL 0 k.a.ls.length k.cL, .msl 63 2 k.bG 0 k.a.gs.length k.cG, .int .i64 k.a.la], .osl 64 k.τ 5 k.out.length (k.out.flatMap EvC)]) [(60, .blk k.bO (BO k)), (62, .blk k.bL (BL k)), (63, .blk k.bG (BG k))] (.tup [.agg (AsC k.st.1), .sl 5 k.out.length (k.out.flatMap EvC)]) [] := by
  have h1 := len_ew k.ws
  have h2 := len_ls k.a.ls
  have h3 := len_gp k.a.gs
  have c1 := hc.cO
  have c2 := hc.cL
  have c3 := hc.cG
  have s1 : (BO k).length = k.cO * 5 := by rw [BO, length_Sp]; omega
  have s2 : (BL k).length = k.cL * 5 := by rw [BL, length_Sp]; omega
  have s3 : (BG k).length = k.cG * 2 := by rw [BG, length_Sp]; omega
  refine leVH.pub 60 rfl ?_ (leVH.pub 62 rfl ?_ (leVH.pub 63 rfl ?_ (leVH.of ?_ ⟨[], List.nil_sublist _, List.Perm.refl _⟩)))
  all_goals simp [pubV, pubAs, pubA, pubCs, pubC]
  · exact ⟨by omega, c1⟩
  · exact ⟨by omega, c2⟩
  · exact ⟨by omega, c3⟩
  · rw [BO, BL, BG, take_Sp _ h1, take_Sp _ h2, take_Sp _ h3, AsC_eq]
    simp only [Wk.st, List.length_map]
    exact leV.tup ⟨leV.agg ⟨leV.refl _, leV.refl _, leV.refl _, leV.sl (leVs_ew _), leV.refl _, leV.refl _, leV.refl _, trivial⟩, leV.osl_sl _ _ _ _ _, trivial⟩
theorem leVH.drop {x r : LV} {H H' H2 : Heap} (hs : H2.Sublist H) (h : leVH gl x H2 r H') : leVH gl x H r H' := fun w0 M HF w v hI hv => h w0 M HF w v (hI.sub (hs.append_right HF)) hv
theorem tkw_zip (l : List Ev) (τs : List Tok) (h : τs.length = l.length) : tkw (l.zip τs) = tks τs := by
  have e : (l.zip τs).map Prod.snd = τs := List.map_snd_zip (by omega)
  rw [tkw, tks, show (l.zip τs).map (fun x => ((61, Ent.tok x.2) : Nat × Ent)) = ((l.zip τs).map Prod.snd).map fun τ => (61, .tok τ) by rw [List.map_map]; rfl, e]
theorem fst_zip (l : List Ev) (τs : List Tok) (h : τs.length = l.length) : (l.zip τs).map Prod.fst = l := List.map_fst_zip (by omega)
/-- the assembler at work, in the beginning -/
def wk0 (a : As) (τs : List Tok) (b bO cO bL cL bG cG : Nat) : Wk := ⟨a, a.op.zip τs, [], ⟨0, 0, 0⟩, b, bO, cO, bL, cL, bG, cG⟩
/-- the beginning, by whatever name -/
theorem enterI {w0 : World} {M : Imm} {HF : Heap} {w : World} {H H1 R : Heap} (i : Nat) (a : As) (τs : List Tok) (b bO cO bL cL bG cG : Nat) (hτ : τs.length = a.op.length) (hp : H.Perm ((i, .blk b [.int .i64 a.bo, .int .i64 a.nx, .int .i64 a.st, .msl 60 5 bO 0 a.op.length cO, .msl 62 5 bL 0 a.ls.length cL, .msl 63 2 bG 0 a.gs.length cG, .int .i64 a.la, .fsl 1 0 []]) :: (60, .blk bO (Sp ((a.op.zip τs).flatMap EwC) ((cO - a.op.length) * 5))) :: (62, .blk bL (Sp (a.ls.flatMap LsC) ((cL - a.ls.length) * 5))) :: (63, .blk bG (Sp (a.gs.flatMap GpC) ((cG - a.gs.length) * 2))) :: (tks τs ++ R))) (h1 : (HT (wk0 a τs b bO cO bL cL bG cG) ++ R).Perm H1) (hI : Lx.Inv gl w0 M (H ++ HF) w) : Lx.Inv gl w0 M (H1 ++ HF) w := by
  have hlz : (a.op.zip τs).length = a.op.length := by rw [List.length_zip]; omega
  have h2 := hI.perm (hp.append_right HF)
  have h3 := h2.dummy 64 0
  have h4 := h3.perm (List.perm_append_comm (l₁ := [_]) (l₂ := [_, _, _, _]) |>.append_right ((tks τs ++ R) ++ HF))
  have h5 : Lx.Inv gl w0 M ([(50, .blk b [.int .i64 a.bo, .int .i64 a.nx, .int .i64 a.st, .msl 60 5 bO 0 a.op.length cO, .msl 62 5 bL 0 a.ls.length cL, .msl 63 2 bG 0 a.gs.length cG, .int .i64 a.la, .fsl 1 0 []]), (60, .blk bO (Sp ((a.op.zip τs).flatMap EwC) ((cO - a.op.length) * 5))), (62, .blk bL (Sp (a.ls.flatMap LsC) ((cL - a.ls.length) * 5))), (63, .blk bG (Sp (a.gs.flatMap GpC) ((cG - a.gs.length) * 2))), (64, .tok ⟨0, 0, 0⟩)] ++ ((tks τs ++ R) ++ HF)) w := h4.names (by simp)
  have h6 : heapLe [(50, .blk b [.int .i64 a.bo, .int .i64 a.nx, .int .i64 a.st, .msl 60 5 bO 0 a.op.length cO, .msl 62 5 bL 0 a.ls.length cL, .msl 63 2 bG 0 a.gs.length cG, .int .i64 a.la, .fsl 1 0 []]), (60, .blk bO (Sp ((a.op.zip τs).flatMap EwC) ((cO - a.op.length) * 5))), (62, .blk bL (Sp (a.ls.flatMap LsC) ((cL - a.ls.length) * 5))), (63, .blk bG (Sp (a.gs.flatMap GpC) ((cG - a.gs.length) * 2))), (64, .tok ⟨0, 0, 0⟩)] (HW (wk0 a τs b bO cO bL cL bG cG)) := by
    rw [HW_eq]
    simp only [WkC_eq, BO, BL, BG, wk0, hlz]
    exact ⟨⟨rfl, leV.refl _, leV.refl _, leV.refl _, leV.refl _, leV.refl _, leV.refl _, leV.refl _, leV.nil_osl _ _ _ _, trivial⟩, ⟨rfl, leVs.refl _⟩, ⟨rfl, leVs.refl _⟩, ⟨rfl, leVs.refl _⟩, rfl, trivial⟩
  have h7 := h6.inv h5
  refine Lx.Inv.perm h7 ?_
  rw [show HW (wk0 a τs b bO cO bL cL bG cG) ++ ((tks τs ++ R) ++ HF) = (HT (wk0 a τs b bO cO bL cL bG cG) ++ R) ++ HF by rw [HT]; simp only [List.append_assoc]; rw [show tkw (wk0 a τs b bO cO bL cL bG cG).ws = tks τs from tkw_zip _ _ hτ]]
  exact h1.append_right HF
theorem enter0 {env env' : Env} {H H1 R : Heap} (i : Nat) (a : As) (τs : List Tok) (b bO cO bL cL bG cG : Nat) (hτ : τs.length = a.op.length) (he : envLe env env') (hp : H.Perm ((i, .blk b [.int .i64 a.bo, .int .i64 a.nx, .int .i64 a.st, .msl 60 5 bO 0 a.op.length cO, .msl 62 5 bL 0 a.ls.length cL, .msl 63 2 bG 0 a.gs.length cG, .int .i64 a.la, .fsl 1 0 []]) :: (60, .blk bO (Sp ((a.op.zip τs).flatMap EwC) ((cO - a.op.length) * 5))) :: (62, .blk bL (Sp (a.ls.flatMap LsC) ((cL - a.ls.length) * 5))) :: (63, .blk bG (Sp (a.gs.flatMap GpC) ((cG - a.gs.length) * 2))) :: (tks τs ++ R))) (h1 : (HT (wk0 a τs b bO cO bL cL bG cG) ++ R).Perm H1) : Ents gl env H env' H1 :=
  Ents.mk he.get fun _ _ _ _ hI => enterI i a τs b bO cO bL cL bG cG hτ hp h1 hI
theorem okAs_of {a : As} {m : Nat} (h : okA a m) (hm : m ≤ 1000000000) : okAs a :=
  ⟨⟨by have := h.op; omega, by have := h.lL; omega, by have := h.lG; have := h.nx; omega⟩, fun e he => ⟨by have := (h.ev e he).2.1; omega, fun r hr => by have := (h.ev e he).2.2 r hr; omega⟩⟩
theorem caps0 (a : As) (τs : List Tok) (b bO cO bL cL bG cG : Nat) (hτ : τs.length = a.op.length) (h : a.op.length ≤ cO ∧ a.ls.length ≤ cL ∧ a.gs.length ≤ cG) : caps (wk0 a τs b bO cO bL cL bG cG) :=
  ⟨by simp only [wk0, List.length_zip]; omega, h.2.1, h.2.2⟩
theorem st0 (a : As) (τs : List Tok) (b bO cO bL cL bG cG : Nat) (hτ : τs.length = a.op.length) : (wk0 a τs b bO cO bL cL bG cG).st = (a, []) := by
  simp only [Wk.st, wk0, fst_zip _ _ hτ]
theorem LCalls.post {f : Nat} {args : List LV} {H : Heap} {K K' : LV → Heap → Prop} (h : LCalls Tryd.prog gl f args H K) (hk : ∀ r H', K r H' → ∃ r2 H2, leVH gl r H' r2 H2 ∧ K' r2 H2) : LCalls Tryd.prog gl f args H K' := fun w0 M HF w vs hI hv => (h w0 M HF w vs hI hv).mono (by
  rintro _ w' ⟨M', v, r, H', h1, h2, h3, h4, h5⟩
  obtain ⟨r2, H2, h6, h7⟩ := hk r H' h5
  obtain ⟨M2, h8, h9, h10⟩ := h6 w0 M' HF w' v h4 h3
  exact ⟨M2, v, r2, H2, h1.trans h8, h2, h9, h10, h7⟩)
theorem feedO (a : As) (m : Nat) (ok : okA a m) (l : List Rc) (hm : m + l.length ≤ 1000000000) (hl : ∀ r ∈ l, r.ps.length ≤ 1000000) : LCalls Tryd.prog gl 16 [.agg (AsC a), .sl 4 l.length (l.flatMap RcC)] [] fun v H => ∃ τ, v = .tup [.agg (AsC (feedS a l).1), .osl 64 τ 5 (feedS a l).2.length ((feedS a l).2.flatMap EvC)] ∧ H = [(64, .tok τ)] := by
  refine fn_viewT Tryd.func16 t16 Tryd.ntmps16 (by simp) ?_
  have hcl := clone a (okAs_of ok (by omega))
  have hll := len_rc l
  unfold c16 r16
  rw [AsC_eq a] at hcl ⊢
  repeat' (first | (simp (disch := first | omega | (simp only [List.length_cons, List.length_nil]; first | done | omega)) only [go_sem, Nat.reduceAdd, Nat.reduceMul, Nat.reduceSub, Nat.reduceEqDiff, Nat.reduceLeDiff, Nat.reduceMod, Nat.reduceLT, Int.reduceToNat, Int.reduceAdd, Int.reduceSub, Int.reduceMul, Int.reduceNeg, Int.reduceLE, Int.reduceLT, Int.reduceNe, Int.reduceEq, Int.reduceBEq, Int.reduceBNe, Int.reduceTMod, Int.reduceTDiv, Nat.reduceBEq]) | (refine allI (fun b => ?_)) | (refine allT (fun τ => ?_)) | (refine brP (fun h => ?_) (fun h => ?_) <;> (try simp only [zgx, zbx] at h)) | (apply And.intro; focus (first | omega | (simp; done) | (simp +contextual; done) | (intros; and_intros <;> first | assumption | omega) | (intros; simp_all; done) | (intro hgd; refine ⟨hgd, ?_⟩; simp [hgd]; done) | (intro hgd; simp only [zgx] at hgd ⊢; omega))) | fail)
  first | refine actsQ_U (hcl) (List.Perm.refl _) ?_ | refine actsQ_T (hcl) (List.Perm.refl _) ?_ | refine actsQ_N (hcl) (List.Perm.refl _) ?_ | refine actsQ_of (hcl) (List.Perm.refl _) ?_
  rintro _ _ ⟨τs, bO, cO, bL, cL, bG, cG, hτ, hcp, rfl, rfl⟩
  repeat' (first | (simp (disch := first | omega | (simp only [List.length_cons, List.length_nil]; first | done | omega)) only [go_sem, Nat.reduceAdd, Nat.reduceMul, Nat.reduceSub, Nat.reduceEqDiff, Nat.reduceLeDiff, Nat.reduceMod, Nat.reduceLT, Int.reduceToNat, Int.reduceAdd, Int.reduceSub, Int.reduceMul, Int.reduceNeg, Int.reduceLE, Int.reduceLT, Int.reduceNe, Int.reduceEq, Int.reduceBEq, Int.reduceBNe, Int.reduceTMod, Int.reduceTDiv, Nat.reduceBEq]) | (refine allI (fun b => ?_)) | (refine allT (fun τ => ?_)) | (refine brP (fun h => ?_) (fun h => ?_) <;> (try simp only [zgx, zbx] at h)) | (apply And.intro; focus (first | omega | (simp; done) | (simp +contextual; done) | (intros; and_intros <;> first | assumption | omega) | (intros; simp_all; done) | (intro hgd; refine ⟨hgd, ?_⟩; simp [hgd]; done) | (intro hgd; simp only [zgx] at hgd ⊢; omega))) | fail)
  rename_i b2 b4
  generalize b = bb at *
  generalize hR : ([(2, .blk b2 [.int .i64 a.bo, .int .i64 a.nx, .int .i64 a.st, .sl 5 a.op.length (a.op.flatMap EvC), .sl 5 a.ls.length (a.ls.flatMap LsC), .sl 2 a.gs.length (a.gs.flatMap GpC), .int .i64 a.la])] : Heap) = R
  refine loopI (ι := Nat × Wk) (fun y => y.1 ≤ l.length ∧ (y.2.b = bb ∧ caps y.2) ∧ y.2.st = (l.take y.1).foldl feedR (a, []) ∧ okA y.2.st.1 (m + y.1) ∧ y.2.out.length < y.2.a.nx) (fun y => [(15, .int .i64 y.1), (14, .int .i64 l.length), (13, .sl 4 l.length (l.flatMap RcC)), (6, .ptr 50 bb 0), (4, .ptr 4 b4 0)]) (fun y => (4, .blk b4 [.int .i64 0, .int .i64 0, .int .i64 0, .fsl 1 0 [], .fsl 1 0 [], .fsl 1 0 [], .int .i64 0]) :: (HT y.2 ++ R)) (fun y => l.length - y.1) (0, wk0 a τs bb bO cO bL cL bG cG) ⟨Nat.zero_le _, ⟨rfl, caps0 a τs bb bO cO bL cL bG cG hτ hcp⟩, st0 a τs bb bO cO bL cL bG cG hτ, by rw [st0 a τs bb bO cO bL cL bG cG hτ]; exact ok, by have := ok.nx; simp only [wk0, List.length_nil]; omega⟩ (enter0 12 a τs bb bO cO bL cL bG cG hτ ?_ (List.Perm.refl _) List.perm_middle) ?_
  · simp only [envLe, Lx.get, if_true, Nat.reduceEqDiff, if_false]
    exact ⟨leV.refl _, leV.refl _, leV.refl _, leV.ptr_name _ _ _ _, leV.refl _, trivial⟩
  rintro ⟨i, k⟩ ⟨h1, ⟨hb, hc⟩, hst, hok, ho⟩
  dsimp only at h1 hb hc hst hok ho ⊢
  subst hb
  simp (disch := first | omega | (simp only [List.length_cons, List.length_nil]; first | done | omega)) only [go_sem, Nat.reduceAdd, Nat.reduceMul, Nat.reduceSub, Nat.reduceEqDiff, Nat.reduceLeDiff, Nat.reduceMod, Nat.reduceLT, Int.reduceToNat, Int.reduceAdd, Int.reduceSub, Int.reduceMul, Int.reduceNeg, Int.reduceLE, Int.reduceLT, Int.reduceNe, Int.reduceEq, Int.reduceBEq, Int.reduceBNe, Int.reduceTMod, Int.reduceTDiv, Nat.reduceBEq]
  refine brP (fun hb => ?_) (fun hb => ?_)
  · have hlt : i < l.length := by simpa using hb
    have e2 := take_rows (f := RcC) (w := 4) (fun _ => rfl) rc0 l hlt
    have hps := hl _ (getD_memA (l := l) (i := i) rc0 hlt)
    have hts : l.take (i + 1) = l.take i ++ [l.getD i rc0] := take_succ_getD rc0 l hlt
    generalize l.getD i rc0 = r at *
    have htk := takeT k (m + i) r (by omega) hps hc hok
    have hok2 := okA_take hok hps
    have hfr : feedR k.st r = if (takeS k.st.1 r).2 then settleS ((takeS k.st.1 r).1.la - 64) ((takeS k.st.1 r).1, k.out) else ((takeS k.st.1 r).1, k.out) := rfl
    have hnx : (takeS k.st.1 r).1.nx = k.a.nx := by unfold takeS; split <;> rfl
    rw [RcC_eq] at e2 htk
    repeat' (first | (simp (disch := first | omega | (simp only [List.length_cons, List.length_nil]; first | done | omega)) only [go_sem, Nat.reduceAdd, Nat.reduceMul, Nat.reduceSub, Nat.reduceEqDiff, Nat.reduceLeDiff, Nat.reduceMod, Nat.reduceLT, Int.reduceToNat, Int.reduceAdd, Int.reduceSub, Int.reduceMul, Int.reduceNeg, Int.reduceLE, Int.reduceLT, Int.reduceNe, Int.reduceEq, Int.reduceBEq, Int.reduceBNe, Int.reduceTMod, Int.reduceTDiv, Nat.reduceBEq, e2, zRc]) | (refine allI (fun b => ?_)) | (refine allT (fun τ => ?_)) | (refine brP (fun h => ?_) (fun h => ?_) <;> (try simp only [zgx, zbx] at h)) | (apply And.intro; focus (first | omega | (simp; done) | (simp +contextual; done) | (intros; and_intros <;> first | assumption | omega) | (intros; simp_all; done) | (intro hgd; refine ⟨hgd, ?_⟩; simp [hgd]; done) | (intro hgd; simp only [zgx] at hgd ⊢; omega))) | fail)
    refine LCalls.use htk (H2 := [(8, _), (4, _)] ++ R) (List.perm_append_comm_assoc [(8, _), (4, _)] (HT k) R) ?_
    rintro _ _ ⟨k', ⟨hb', hc', hst'⟩, rfl, rfl⟩
    refine ⟨_, (List.perm_append_comm_assoc [(8, _), (4, _)] (HT k') R).symm, ?_⟩
    have ho' : k'.out.length < k'.a.nx := by
      have e1 : k'.out = k.out := congrArg Prod.snd hst'
      have e2 : k'.a.nx = (takeS k.st.1 r).1.nx := congrArg (fun z : St => z.1.nx) hst'
      rw [e1, e2, hnx]; exact ho
    have hla : k'.a.la = (takeS k.st.1 r).1.la := congrArg (fun z : St => z.1.la) hst'
    have hok' : okA k'.st.1 (m + i + 1) := by rw [hst']; exact hok2
    have hlb : 0 ≤ k'.a.la ∧ k'.a.la ≤ 1073741824 := hok'.la
    rw [← hla, ← hst'] at hfr
    refine ⟨_, _, _, EntsT.refl _ _ _ _, ?_⟩
    cases htb : (takeS k.st.1 r).2 with
    | false =>
      rw [htb, if_neg (by simp)] at hfr
      repeat' (first | (simp (disch := first | omega | (simp only [List.length_cons, List.length_nil]; first | done | omega)) only [go_sem, Nat.reduceAdd, Nat.reduceMul, Nat.reduceSub, Nat.reduceEqDiff, Nat.reduceLeDiff, Nat.reduceMod, Nat.reduceLT, Int.reduceToNat, Int.reduceAdd, Int.reduceSub, Int.reduceMul, Int.reduceNeg, Int.reduceLE, Int.reduceLT, Int.reduceNe, Int.reduceEq, Int.reduceBEq, Int.reduceBNe, Int.reduceTMod, Int.reduceTDiv, Nat.reduceBEq]) | (refine allI (fun b => ?_)) | (refine allT (fun τ => ?_)) | (refine brP (fun h => ?_) (fun h => ?_) <;> (try simp only [zgx, zbx] at h)) | (apply And.intro; focus (first | omega | (simp; done) | (simp +contextual; done) | (intros; and_intros <;> first | assumption | omega) | (intros; simp_all; done) | (intro hgd; refine ⟨hgd, ?_⟩; simp [hgd]; done) | (intro hgd; simp only [zgx] at hgd ⊢; omega))) | fail)
      refine ⟨⟨(i + 1, k'), by dsimp only; omega, ⟨hb', hc'⟩, ?_, hok', ho'⟩, by dsimp only; omega, Ents.sub (by simp [go_sem]) ⟨_, List.Sublist.cons _ (List.Sublist.refl _), List.Perm.refl _⟩⟩
      dsimp only
      rw [hts, List.foldl_append, ← hst]
      exact hfr.symm
    | true =>
      rw [htb, if_pos rfl] at hfr
      have gH : getH (HT k' ++ R) 50 = some (.blk k.b [.int .i64 k'.a.bo, .int .i64 k'.a.nx, .int .i64 k'.a.st, .msl 60 5 k'.bO 0 k'.ws.length k'.cO, .msl 62 5 k'.bL 0 k'.a.ls.length k'.cL, .msl 63 2 k'.bG 0 k'.a.gs.length k'.cG, .int .i64 k'.a.la, .osl 64 k'.τ 5 k'.out.length (k'.out.flatMap EvC)]) := by
        rw [HT, HW_eq, WkC_eq, hb']; rfl
      have hse := settleT k' (m + i + 1) (k'.a.la - 64) (by omega) (by omega) hc' hok' ho'
      rw [hb'] at hse
      repeat' (first | (simp (disch := first | omega | (simp only [List.length_cons, List.length_nil]; first | done | omega)) only [go_sem, Nat.reduceAdd, Nat.reduceMul, Nat.reduceSub, Nat.reduceEqDiff, Nat.reduceLeDiff, Nat.reduceMod, Nat.reduceLT, Int.reduceToNat, Int.reduceAdd, Int.reduceSub, Int.reduceMul, Int.reduceNeg, Int.reduceLE, Int.reduceLT, Int.reduceNe, Int.reduceEq, Int.reduceBEq, Int.reduceBNe, Int.reduceTMod, Int.reduceTDiv, Nat.reduceBEq, gH]) | (refine allI (fun b => ?_)) | (refine allT (fun τ => ?_)) | (refine brP (fun h => ?_) (fun h => ?_) <;> (try simp only [zgx, zbx] at h)) | (apply And.intro; focus (first | omega | (simp; done) | (simp +contextual; done) | (intros; and_intros <;> first | assumption | omega) | (intros; simp_all; done) | (intro hgd; refine ⟨hgd, ?_⟩; simp [hgd]; done) | (intro hgd; simp only [zgx] at hgd ⊢; omega))) | fail)
      refine LCalls.use hse (H2 := [(8, _), (4, _)] ++ R) (List.perm_append_comm_assoc [(8, _), (4, _)] (HT k') R) ?_
      rintro _ _ ⟨k2, ⟨hb2, hc2, hst2, hok2', ho2⟩, rfl, rfl⟩
      refine ⟨_, (List.perm_append_comm_assoc [(8, _), (4, _)] (HT k2) R).symm, ?_⟩
      refine ⟨_, _, _, EntsT.refl _ _ _ _, ?_⟩
      repeat' (first | (simp (disch := first | omega | (simp only [List.length_cons, List.length_nil]; first | done | omega)) only [go_sem, Nat.reduceAdd, Nat.reduceMul, Nat.reduceSub, Nat.reduceEqDiff, Nat.reduceLeDiff, Nat.reduceMod, Nat.reduceLT, Int.reduceToNat, Int.reduceAdd, Int.reduceSub, Int.reduceMul, Int.reduceNeg, Int.reduceLE, Int.reduceLT, Int.reduceNe, Int.reduceEq, Int.reduceBEq, Int.reduceBNe, Int.reduceTMod, Int.reduceTDiv, Nat.reduceBEq]) | (refine allI (fun b => ?_)) | (refine allT (fun τ => ?_)) | (refine brP (fun h => ?_) (fun h => ?_) <;> (try simp only [zgx, zbx] at h)) | (apply And.intro; focus (first | omega | (simp; done) | (simp +contextual; done) | (intros; and_intros <;> first | assumption | omega) | (intros; simp_all; done) | (intro hgd; refine ⟨hgd, ?_⟩; simp [hgd]; done) | (intro hgd; simp only [zgx] at hgd ⊢; omega))) | fail)
      refine ⟨⟨(i + 1, k2), by dsimp only; omega, ⟨hb2, hc2⟩, ?_, hok2', ho2⟩, by dsimp only; omega, Ents.sub (by simp [go_sem]) ⟨_, List.Sublist.cons _ (List.Sublist.refl _), List.Perm.refl _⟩⟩
      dsimp only
      rw [hts, List.foldl_append, ← hst, hst2]
      exact hfr.symm
  · have hie : i = l.length := by simp only [decide_eq_false_iff_not] at hb; omega
    subst hie
    rw [List.take_length] at hst
    rw [HT, HW_eq, WkC_eq]
    simp only [List.cons_append, List.nil_append]
    repeat' (first | (simp (disch := first | omega | (simp only [List.length_cons, List.length_nil]; first | done | omega)) only [go_sem, Nat.reduceAdd, Nat.reduceMul, Nat.reduceSub, Nat.reduceEqDiff, Nat.reduceLeDiff, Nat.reduceMod, Nat.reduceLT, Int.reduceToNat, Int.reduceAdd, Int.reduceSub, Int.reduceMul, Int.reduceNeg, Int.reduceLE, Int.reduceLT, Int.reduceNe, Int.reduceEq, Int.reduceBEq, Int.reduceBNe, Int.reduceTMod, Int.reduceTDiv, Nat.reduceBEq]) | (refine allI (fun b => ?_)) | (refine allT (fun τ => ?_)) | (refine brP (fun h => ?_) (fun h => ?_) <;> (try simp only [zgx, zbx] at h)) | (apply And.intro; focus (first | omega | (simp; done) | (simp +contextual; done) | (intros; and_intros <;> first | assumption | omega) | (intros; simp_all; done) | (intro hgd; refine ⟨hgd, ?_⟩; simp [hgd]; done) | (intro hgd; simp only [zgx] at hgd ⊢; omega))) | fail)
    have hf : feedS a l = k.st := hst.symm
    refine ⟨_, [(64, .tok k.τ)], leVH.drop (.cons _ (.cons _ (.cons_cons _ (.cons_cons _ (.cons_cons _ (.cons_cons _ (List.nil_sublist _))))))) (pubO k hc), k.τ, ?_, rfl⟩
    rw [hf]
    rfl
theorem feed (a : As) (m : Nat) (ok : okA a m) (l : List Rc) (hm : m + l.length ≤ 1000000000) (hl : ∀ r ∈ l, r.ps.length ≤ 1000000) : Pure Tryd.prog gl 16 [.agg (AsC a), .sl 4 l.length (l.flatMap RcC)] (.tup [.agg (AsC (feedS a l).1), .sl 5 (feedS a l).2.length ((feedS a l).2.flatMap EvC)]) :=
  LCalls.post (feedO a m ok l hm hl) (by
    rintro _ _ ⟨τ, rfl, rfl⟩
    exact ⟨_, [], leVH.of (leV.tup (show leVs [_, _] [_, _] from ⟨leV.refl _, leV.osl_sl _ _ _ _ _, trivial⟩)) ⟨[], List.nil_sublist _, List.Perm.refl _⟩, rfl, rfl⟩)
theorem getH_tkw (ws : List (Ev × Tok)) (e : Ent) (R : Heap) : getH (tkw ws ++ (2, e) :: R) 2 = some e := by
  induction ws with
  | nil => rfl
  | cons x l ih => exact ih
theorem setH_tkw (ws : List (Ev × Tok)) (e e' : Ent) (R : Heap) : setH (tkw ws ++ (2, e) :: R) 2 e' = tkw ws ++ (2, e') :: R := by
  induction ws with
  | nil => rfl
  | cons x l ih =>
    show (61, Ent.tok x.2) :: setH (tkw l ++ (2, e) :: R) 2 e' = (61, Ent.tok x.2) :: (tkw l ++ (2, e') :: R)
    rw [ih]
theorem settle8 (a : As) (m : Nat) (ok : okA a m) (hm : m ≤ 1000000000) (edge : Int) (hed : -100 ≤ edge ∧ edge ≤ 1073741824) (τs : List Tok) (b bO cO bL cL bG cG : Nat) (hτ : τs.length = a.op.length) (hcp : a.op.length ≤ cO ∧ a.ls.length ≤ cL ∧ a.gs.length ≤ cG) (R : Heap) : LCalls Tryd.prog gl 34 [.ptr 8 b 0, .int .i64 edge] ((8, .blk b [.int .i64 a.bo, .int .i64 a.nx, .int .i64 a.st, .msl 60 5 bO 0 a.op.length cO, .msl 62 5 bL 0 a.ls.length cL, .msl 63 2 bG 0 a.gs.length cG, .int .i64 a.la, .fsl 1 0 []]) :: (60, .blk bO (Sp ((a.op.zip τs).flatMap EwC) ((cO - a.op.length) * 5))) :: (62, .blk bL (Sp (a.ls.flatMap LsC) ((cL - a.ls.length) * 5))) :: (63, .blk bG (Sp (a.gs.flatMap GpC) ((cG - a.gs.length) * 2))) :: (tks τs ++ R)) fun x H => ∃ k', (k'.b = b ∧ caps k' ∧ k'.st = settleS edge (a, [])) ∧ x = .tup [] ∧ H = (8, .blk k'.b (WkC k')) :: (60, .blk k'.bO (BO k')) :: (62, .blk k'.bL (BL k')) :: (63, .blk k'.bG (BG k')) :: (64, .tok k'.τ) :: (tkw k'.ws ++ R) := by
  intro w0 M HF w vs hI hv
  have hs := settleT (wk0 a τs b bO cO bL cL bG cG) m edge hm hed (caps0 a τs b bO cO bL cL bG cG hτ hcp) (by rw [st0 a τs b bO cO bL cL bG cG hτ]; exact ok) (by have := ok.nx; simp only [wk0, List.length_nil]; omega)
  have h2 : LCalls Tryd.prog gl 34 [.ptr 50 b 0, .int .i64 edge] (HT (wk0 a τs b bO cO bL cL bG cG) ++ R) fun x H => ∃ k', (k'.b = b ∧ caps k' ∧ k'.st = settleS edge (a, [])) ∧ x = .tup [] ∧ H = HT k' ++ R :=
    LCalls.use hs (List.Perm.refl _) (by
      rintro _ _ ⟨k', ⟨h1, h2, h3, _, _⟩, rfl, rfl⟩
      exact ⟨_, List.Perm.refl _, k', ⟨h1, h2, by rw [h3, st0 a τs b bO cO bL cL bG cG hτ]⟩, rfl, rfl⟩)
  refine (h2 w0 M HF w vs (enterI 8 a τs b bO cO bL cL bG cG hτ (List.Perm.refl _) (List.Perm.refl _) hI) (leVs.rvs (xs := [.ptr 8 b 0, .int .i64 edge]) (ys := [.ptr 50 b 0, .int .i64 edge]) ⟨leV.ptr_name _ _ _ _, leV.refl _, trivial⟩ hv)).mono ?_
  rintro _ w' ⟨M', v, _, _, h1, h2, h3, h4, k', hk, rfl, rfl⟩
  refine ⟨M', v, _, _, h1, h2, h3, h4.names ?_, k', hk, rfl, rfl⟩
  rw [HT, HW_eq]
  simp
theorem flush (a : As) (m : Nat) (ok : okA a m) (hm : m ≤ 1000000000) : Pure Tryd.prog gl 23 [.agg (AsC a)] (.tup [.agg (AsC (flushS a).1), .sl 5 (flushS a).2.length ((flushS a).2.flatMap EvC)]) := by
  refine fn_viewT Tryd.func23 t23 Tryd.ntmps23 (by simp) ?_
  have hcl := clone a (okAs_of ok (by omega))
  unfold c23 r23
  rw [AsC_eq a] at hcl ⊢
  repeat' (first | (simp (disch := first | omega | (simp only [List.length_cons, List.length_nil]; first | done | omega)) only [go_sem, Nat.reduceAdd, Nat.reduceMul, Nat.reduceSub, Nat.reduceEqDiff, Nat.reduceLeDiff, Nat.reduceMod, Nat.reduceLT, Int.reduceToNat, Int.reduceAdd, Int.reduceSub, Int.reduceMul, Int.reduceNeg, Int.reduceLE, Int.reduceLT, Int.reduceNe, Int.reduceEq, Int.reduceBEq, Int.reduceBNe, Int.reduceTMod, Int.reduceTDiv, Nat.reduceBEq]) | (refine allI (fun b => ?_)) | (refine allT (fun τ => ?_)) | (refine brP (fun h => ?_) (fun h => ?_) <;> (try simp only [zgx, zbx] at h)) | (apply And.intro; focus (first | omega | (simp; done) | (simp +contextual; done) | (intros; and_intros <;> first | assumption | omega) | (intros; simp_all; done) | (intro hgd; refine ⟨hgd, ?_⟩; simp [hgd]; done) | (intro hgd; simp only [zgx] at hgd ⊢; omega))) | fail)
  first | refine actsQ_U (hcl) (List.Perm.refl _) ?_ | refine actsQ_T (hcl) (List.Perm.refl _) ?_ | refine actsQ_N (hcl) (List.Perm.refl _) ?_ | refine actsQ_of (hcl) (List.Perm.refl _) ?_
  rintro _ _ ⟨τs, bO, cO, bL, cL, bG, cG, hτ, hcp, rfl, rfl⟩
  repeat' (first | (simp (disch := first | omega | (simp only [List.length_cons, List.length_nil]; first | done | omega)) only [go_sem, Nat.reduceAdd, Nat.reduceMul, Nat.reduceSub, Nat.reduceEqDiff, Nat.reduceLeDiff, Nat.reduceMod, Nat.reduceLT, Int.reduceToNat, Int.reduceAdd, Int.reduceSub, Int.reduceMul, Int.reduceNeg, Int.reduceLE, Int.reduceLT, Int.reduceNe, Int.reduceEq, Int.reduceBEq, Int.reduceBNe, Int.reduceTMod, Int.reduceTDiv, Nat.reduceBEq]) | (refine allI (fun b => ?_)) | (refine allT (fun τ => ?_)) | (refine brP (fun h => ?_) (fun h => ?_) <;> (try simp only [zgx, zbx] at h)) | (apply And.intro; focus (first | omega | (simp; done) | (simp +contextual; done) | (intros; and_intros <;> first | assumption | omega) | (intros; simp_all; done) | (intro hgd; refine ⟨hgd, ?_⟩; simp [hgd]; done) | (intro hgd; simp only [zgx] at hgd ⊢; omega))) | fail)
  refine actsQ_U (settle8 a m ok hm a.la (by have := ok.la; omega) τs _ bO cO bL cL bG cG hτ hcp _) (List.Perm.of_eq (List.append_nil _).symm) ?_
  rintro _ _ ⟨k, ⟨hb, hc, hst⟩, rfl, rfl⟩
  rw [hb, List.append_nil, WkC_eq]
  repeat' (first | (simp (disch := first | omega | (simp only [List.length_cons, List.length_nil]; first | done | omega)) only [go_sem, Nat.reduceAdd, Nat.reduceMul, Nat.reduceSub, Nat.reduceEqDiff, Nat.reduceLeDiff, Nat.reduceMod, Nat.reduceLT, Int.reduceToNat, Int.reduceAdd, Int.reduceSub, Int.reduceMul, Int.reduceNeg, Int.reduceLE, Int.reduceLT, Int.reduceNe, Int.reduceEq, Int.reduceBEq, Int.reduceBNe, Int.reduceTMod, Int.reduceTDiv, Nat.reduceBEq, getH_tkw, setH_tkw]) | (refine allI (fun b => ?_)) | (refine allT (fun τ => ?_)) | (refine brP (fun h => ?_) (fun h => ?_) <;> (try simp only [zgx, zbx] at h)) | (apply And.intro; focus (first | omega | (simp; done) | (simp +contextual; done) | (intros; and_intros <;> first | assumption | omega) | (intros; simp_all; done) | (intro hgd; refine ⟨hgd, ?_⟩; simp [hgd]; done) | (intro hgd; simp only [zgx] at hgd ⊢; omega))) | fail)
  have hf : flushS a = k.st := hst.symm
  refine ⟨_, [], leVH.drop (.cons _ (.cons_cons _ (.cons_cons _ (.cons_cons _ (List.nil_sublist _))))) (pubT k hc), ?_, rfl⟩
  rw [hf]
  rfl
end Go.Proofs.YtfheeghkajihoaaDoor
