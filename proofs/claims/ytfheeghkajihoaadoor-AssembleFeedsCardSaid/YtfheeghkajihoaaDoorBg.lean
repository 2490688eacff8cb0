/- Layer 22: slices.overlaps, of which the model is the body; slices.Insert (the program). -/
import Derived.Test.YtfheeghkajihoaaDoorBf
import Derived.Laws.Externs
namespace Go.Proofs.YtfheeghkajihoaaDoor
open Go Go.Lx
set_option linter.unusedSimpArgs false
set_option linter.unusedVariables false
set_option maxRecDepth 100000
set_option maxHeartbeats 4000000

theorem run_ovl {P : Program} (w : World) (tS tR e : TypeId) (ht : P.underlying tS = some (.slice e)) (size : Nat) (hz : ∀ w, (Go.sizeOf e).run P w = .ok size w)
    (a : Addr) (bb bo la ca lb cb : Nat) (tA tB : TypeId) (kA kB : Nat)
    (hsa : w.shape? a.block = some (tA, kA)) (hsb : w.shape? bb = some (tB, kB)) (hkA : kA ≠ 0) (hkB : kB ≠ 0)
    (hf : ∀ o, w.frozen? ⟨bb, o, none⟩ = false) (h : a.block = bb → bo + lb * size ≤ a.off) :
    (Extern.SlicesOverlaps.overlaps #[tS, tS] #[tR] #[.slice (some a) la ca, .slice (some ⟨bb, bo, none⟩) lb cb]).run P w = .ok (.bool false) w := by
  change Sem.run P (α := Value) (do
    let some t := (#[tS, tS] : Array TypeId)[0]? | stuck "slices.overlaps: no parameter types"
    let .slice elem ← underlying t | stuck "slices.overlaps: slice type expected"
    let size ← sizeOf elem
    match (some a : Option Addr), (some (⟨bb, bo, none⟩ : Addr) : Option Addr) with
    | some a, some b =>
      if la = 0 ∨ lb = 0 ∨ size = 0 then pure (Value.bool false)
      else if a.block != b.block && (← frozen a) && (← frozen b) then unsupported .addressObserved
      else do
        if a.block != b.block then do
          noView a; noView b
          if ← mayBeOne a b then return Value.bool ((← choose (.extern "sameAddr.stringBytes" 2)) == 1)
        pure (Value.bool (a.block == b.block && a.off < b.off + lb * size && b.off < a.off + la * size))
    | _, _ => pure (Value.bool false)) w = _
  by_cases h0 : la = 0 ∨ lb = 0 ∨ size = 0
  · simp [run_underlying ht, hz, h0]
  · by_cases hab : a.block = bb
    · have h1 := h hab
      have h2 : ¬ a.off < bo + lb * size := by omega
      simp [run_underlying ht, hz, h0, hab, h2, Sem.run, hf, frozen]
    · have hnb : (a.block != bb) = true := by simpa using hab
      have hnb' : (a.block == bb) = false := by simpa using hab
      cases kB with
      | zero => exact absurd rfl hkB
      | succ kB =>
        cases kA with
        | zero => exact absurd rfl hkA
        | succ kA =>
        simp [run_underlying ht, hz, h0, hnb, hnb', frozen, noView, viewAt, mayBeOne, stringish, shape, Sem.run, hsa, hsb, hf]
theorem shape_cell {w : World} {a : Addr} {v : Value} (h : w.cell? a = some v) : ∃ t k, w.shape? a.block = some (t, k) ∧ a.off < k := by
  unfold World.cell? at h
  unfold World.shape?
  split at h
  · rename_i cs t z hh
    refine ⟨t, cs.size, by simp only [hh], ?_⟩
    split at h
    · cases h
    · rw [Array.getElem?_eq_some_iff] at h
      exact h.1
  · cases h
theorem ovl (c0 : LV) (cs ds : List LV) (id b off n cap : Nat) (hcs : (c0 :: cs).length = 1 * 5) (hn : 0 < n) (hd : off + n * 5 ≤ ds.length) : LCalls Tryd.prog gl 72 [.fsl 5 1 (c0 :: cs), .msl id 5 b off n cap] [(id, .blk b ds)] fun r H => r = .bool false ∧ H = [(id, .blk b ds)] := by
  intro w0 M HF w vs hI hv
  obtain ⟨v1, vs, rfl, h1, v2, vs2, rfl, h2, rfl⟩ := hv
  obtain ⟨_, h1⟩ := h1
  rcases h1 with ⟨b1, o1, rfl, h1⟩ | ⟨_, _, h1⟩
  case inr => omega
  obtain ⟨⟨u1, hM, _⟩, _⟩ := h1
  have hc1 := (hI.imm _ _ _ hM).1
  obtain ⟨tA, kA, hsa, hkA⟩ := shape_cell hc1
  have hme : (id, Ent.blk b ds) ∈ [(id, Ent.blk b ds)] ++ HF := List.mem_append_left _ (List.mem_singleton_self _)
  have hdl : 0 < ds.length := by omega
  obtain ⟨d0, hd0⟩ : ∃ d, ds[0]? = some d := ⟨_, List.getElem?_eq_getElem hdl⟩
  obtain ⟨u2, hc2, _⟩ := (hI.own _ hme).2 0 _ hd0
  obtain ⟨tB, kB, hsb, hkB⟩ := shape_cell hc2
  have hfz := hI.plain _ hme (by intro h; rw [h] at hdl; cases hdl)
  have hapart : b1 = b → off + n * 5 ≤ o1 := by
    intro h
    subst h
    have := fun hl => hI.free _ hme b1 o1 ⟨rfl, hl⟩
    by_cases hl : o1 < ds.length
    · rw [this hl] at hM; cases hM
    · omega
  rcases h2 with rfl | ⟨_, h2, _⟩
  case inr => omega
  have hrun := run_ovl (P := Tryd.prog) w 37 4 24 (by kernel_rfl) 5 (fun _ => by kernel_rfl) ⟨b1, o1, none⟩ b off 1 1 n cap tA tB kA kB hsa hsb (by dsimp only at hkA; omega) (by dsimp only at hkB; omega) hfz hapart
  refine .inr ⟨⟨_, Tryd.func72, by kernel_rfl⟩, .bool false, w, ?_, M, _, .bool false, [(id, .blk b ds)], MLe.refl M, rfl, rfl, hI, rfl, rfl⟩
  rw [run_callFunc_extern Tryd.func72 (by kernel_rfl) (by kernel_rfl) (by kernel_rfl) (e := Extern.SlicesOverlaps.overlaps #[37, 37] #[4]) (by kernel_rfl)]
  rw [show ([.slice (some ⟨b1, o1, none⟩) 1 1, .slice (some ⟨b, off, none⟩) n cap] : List Value).toArray = #[.slice (some ⟨b1, o1, none⟩) 1 1, .slice (some ⟨b, off, none⟩) n cap] from rfl, hrun]
  rfl
theorem leVH.ren {x r : LV} {H : Heap} {i : Nat} (j : Nat) {e : Ent} (h : leV x r) (hs : [(i, e)].Sublist H) : leVH gl x H r [(j, e)] := fun _ M HF _ v hI hv =>
  ⟨M, MLe.refl M, h M v hv, (hI.sub (hs.append_right HF)).names (by simp)⟩
theorem ins_eq {P Z R X Y : List LV} {p q : Nat} (hp : P.length = p) (hz : Z.length = X.length + Y.length) (hq : q = p + X.length) : List.take q (List.take p (P ++ Z ++ R) ++ X ++ List.drop (p + X.length) (P ++ Z ++ R)) ++ Y ++ List.drop (q + Y.length) (List.take p (P ++ Z ++ R) ++ X ++ List.drop (p + X.length) (P ++ Z ++ R)) = P ++ X ++ Y ++ R := by
  subst hp; subst hq
  have h1 : List.take P.length (P ++ Z ++ R) = P := by simp
  have h2 : List.drop (P.length + X.length) (P ++ Z ++ R) = List.drop X.length Z ++ R := by
    rw [List.append_assoc, ← List.drop_drop, List.drop_left, List.drop_append_of_le_length (by omega)]
  have h3 : (List.drop X.length Z).length = Y.length := by rw [List.length_drop, hz]; omega
  rw [h1, h2]
  have h4 : List.take (P.length + X.length) (P ++ X ++ (List.drop X.length Z ++ R)) = P ++ X := List.take_left' (by simp)
  have h5 : List.drop (P.length + X.length + Y.length) (P ++ X ++ (List.drop X.length Z ++ R)) = R := by
    rw [← List.append_assoc]
    exact List.drop_left' (by simp [h3]; omega)
  rw [h4, h5]
theorem ins (b i c n : Nat) (cs X : List LV) (hcs : cs.length = n * 5) (x1 x2 x3 x4 x5 : LV) (hX : X = [x1, x2, x3, x4, x5]) (hi : i ≤ n) (hc : n ≤ c) (hl : n ≤ 1000000000) : ActsE Tryd.prog gl 50 [.msl 60 5 b 0 n c, .int .i64 i, .fsl 5 1 X] 60 (.blk b (Sp cs ((c - n) * 5))) fun r e => ∃ b2 c2, n + 1 ≤ c2 ∧ r = .msl 60 5 b2 0 (n + 1) c2 ∧ e = .blk b2 (Sp (cs.take (i * 5) ++ X ++ cs.drop (i * 5)) ((c2 - (n + 1)) * 5)) := by
  refine fn_viewT Tryd.func50 t50 Tryd.ntmps50 (by simp) ?_
  have hle := length_Sp cs ((c - n) * 5)
  have hov := ovl x1 [x2, x3, x4, x5] (Sp cs ((c - n) * 5)) 60 b ((i + 1) * 5) (n - i) (c - (i + 1)) rfl
  unfold c50 r50
  rw [hX]
  repeat' (first | (simp (disch := first | omega | (simp only [List.length_cons, List.length_nil]; first | done | omega)) only [go_sem]) | (refine allI (fun b => ?_)) | (refine allT (fun τ => ?_)) | (refine brP (fun h => ?_) (fun h => ?_) <;> (try simp only [zgx, zbx] at h)) | (apply And.intro; focus (first | omega | (simp; done) | (simp +contextual; done) | (intros; and_intros <;> first | assumption | omega) | (intros; simp_all; done) | (intro hgd; refine ⟨hgd, ?_⟩; simp [hgd]; done) | (intro hgd; simp only [zgx] at hgd ⊢; omega))) | fail)
  · obtain rfl : i = n := by omega
    refine .inl ⟨by omega, by omega, by simp only [roomy]; omega, fun b2 c2 hc => ⟨_, _, leVH.self _ _, _, rfl, b2, c2, hc, rfl, ?_⟩⟩
    rw [take_Sp_le (by omega), List.drop_eq_nil_of_le (by omega)]
    simp [Sp]
  · obtain rfl : c = n := by omega
    have hlt : i < c := by omega
    have z1 : ((c : Int) + 1 - i).toNat = c + 1 - i := by omega
    have z2 : ((i : Int) + 1).toNat = i + 1 := by omega
    have z3 : i + (c + 1 - i) = c + 1 := by omega
    have z4 : ¬ c = i := by omega
    have z5 : min 1 (c + 1 - i) = 1 := by omega
    have z9 : Sp cs ((c - c) * 5) = cs := by simp [Sp]
    simp only [Nat.sub_zero, z1, z2, z3, if_neg z4, z5, ite_self, z9]
    refine .inr ?_
    refine ⟨?_, fun b2 c2 hc => ?_⟩
    · exact ⟨trivial, by omega, by omega, by simp only [roomy]; omega⟩
    have z6 : ¬ c2 = i := by omega
    have z7 : ¬ c2 = i + 1 := by omega
    have z8 : c + 1 - (i + 1) = c - i := by omega
    simp only [if_neg z6, if_neg z7, z8, Nat.min_self]
    have hX4 : List.take (1 * 5) [x1, x2, x3, x4, x5] = X := by rw [hX]; rfl
    have hPl : (cs.take (i * 5)).length = i * 5 := by rw [List.length_take]; omega
    have hYl : (cs.drop (i * 5)).length = (c - i) * 5 := by rw [List.length_drop]; omega
    have hXl : X.length = 5 := by rw [hX]; rfl
    have hY : List.take ((c - i) * 5) (List.take ((c - i) * 5) (List.drop (i * 5) cs)) = cs.drop (i * 5) := by
      rw [List.take_take, Nat.min_self, List.take_of_length_le (by omega)]
    have hZl : (zeros [LV.int .i64 0, LV.int .i64 0, LV.int .i64 0, .fsl 1 0 [], .bool false] ((c + 1 - i) * 5)).length = X.length + (cs.drop (i * 5)).length := by
      rw [hYl, hXl]
      simp only [zeros, List.length_map, List.length_range]
      omega
    rw [hX4, hY]
    generalize zeros [LV.int .i64 0, LV.int .i64 0, LV.int .i64 0, .fsl 1 0 [], .bool false] ((c + 1 - i) * 5) = Z at *
    have hE := ins_eq (P := cs.take (i * 5)) (Z := Z) (R := List.replicate ((c2 - (c + 1)) * 5) LV.any) (X := X) (Y := cs.drop (i * 5)) (p := i * 5) (q := (i + 1) * 5) hPl hZl (by rw [hXl]; omega)
    rw [hE]
    refine ⟨by omega, ?_, by omega, by omega, by omega, ?_, ?_⟩
    · simp only [List.length_append, List.length_replicate, hPl, hZl, hXl, hYl]
      omega
    · simp only [List.length_append, List.length_replicate, List.length_take, List.length_drop, hZl, hXl]
      omega
    · refine ⟨_, _, leVH.ren 60 (leV.msl_name _ 60 _ _ _ _ _) sub1, _, rfl, b2, c2, hc, rfl, ?_⟩
      rw [Sp, ← hX]
  · have hlt : i < n := by omega
    have z2 : ((i : Int) + 1).toNat = i + 1 := by omega
    have z1 : ((n : Int) + 1).toNat = n + 1 := by omega
    have z4 : (if c - 0 = i + 1 then if c = 0 then 0 else 0 else (if c = 0 then 0 else 0) + (i + 1) * 5) = if c = i + 1 then 0 else (i + 1) * 5 := by simp
    simp only [z1, z2, z4, Nat.sub_zero, ite_self, Nat.zero_add]
    have z5 : ¬ c = i + 1 := by omega
    have z6 : n + 1 - (i + 1) = n - i := by omega
    simp only [if_neg z5, z6]
    have hov := hov (by omega) (by omega)
    first | refine actsQ_U (hov) (pick_perm rfl (List.Perm.refl _)) ?_ | refine actsQ_T (hov) (pick_perm rfl (List.Perm.refl _)) ?_ | refine actsQ_N (hov) (pick_perm rfl (List.Perm.refl _)) ?_ | refine actsQ_of (hov) (pick_perm rfl (List.Perm.refl _)) ?_
    rintro _ _ ⟨rfl, rfl⟩
    repeat' (first | (simp (disch := first | omega | (simp only [List.length_cons, List.length_nil]; first | done | omega)) only [go_sem]) | (refine allI (fun b => ?_)) | (refine allT (fun τ => ?_)) | (refine brP (fun h => ?_) (fun h => ?_) <;> (try simp only [zgx, zbx] at h)) | (apply And.intro; focus (first | omega | (simp; done) | (simp +contextual; done) | (intros; and_intros <;> first | assumption | omega) | (intros; simp_all; done) | (intro hgd; refine ⟨hgd, ?_⟩; simp [hgd]; done) | (intro hgd; simp only [zgx] at hgd ⊢; omega))) | fail)
    have y1 : ¬ c = i := by omega
    have y2 : min (n + 1 - i) (n - i) = n - i := by omega
    have y3 : min 1 (n + 1 - i) = 1 := by omega
    have hX4 : List.take (1 * 5) [x1, x2, x3, x4, x5] = X := by rw [hX]; rfl
    have hPl : (cs.take (i * 5)).length = i * 5 := by rw [List.length_take]; omega
    have hYl : (cs.drop (i * 5)).length = (n - i) * 5 := by rw [List.length_drop]; omega
    have hXl : X.length = 5 := by rw [hX]; rfl
    have hS : Sp cs ((c - n) * 5) = cs.take (i * 5) ++ (cs.drop (i * 5) ++ List.replicate ((c - n) * 5) .any) := by
      rw [Sp, ← List.append_assoc, List.take_append_drop]
    have hY : List.take ((n - i) * 5) (List.take ((n + 1 - i) * 5) (List.drop (i * 5) (Sp cs ((c - n) * 5)))) = cs.drop (i * 5) := by
      rw [List.take_take, Nat.min_eq_left (by omega), hS, List.drop_left' hPl, List.take_left' hYl]
    simp only [z2, z6, if_neg y1, if_neg z5, y2, y3, hX4, hY, hXl, hYl]
    have hR : (List.drop ((i + 1) * 5 + (n - i) * 5) (Sp cs ((c - n) * 5))) = List.replicate ((c - (n + 1)) * 5) .any := by
      rw [Sp, List.drop_append, List.drop_eq_nil_of_le (by omega), List.nil_append, List.drop_replicate]
      congr 1
      omega
    rw [hR]
    have hT : (List.take ((i + 1) * 5) (Sp cs ((c - n) * 5))).length = (i + 1) * 5 := by rw [List.length_take]; omega
    have hT1 : List.take (i * 5) (List.take ((i + 1) * 5) (Sp cs ((c - n) * 5))) = cs.take (i * 5) := by
      rw [List.take_take, Nat.min_eq_left (by omega), take_Sp_le (by omega)]
    have hT2 : List.take (i * 5) (List.take ((i + 1) * 5) (Sp cs ((c - n) * 5)) ++ cs.drop (i * 5) ++ List.replicate ((c - (n + 1)) * 5) .any) = cs.take (i * 5) := by
      rw [List.append_assoc, List.take_append_of_le_length (by omega), hT1]
    have hT3 : List.drop (i * 5 + 5) (List.take ((i + 1) * 5) (Sp cs ((c - n) * 5)) ++ cs.drop (i * 5) ++ List.replicate ((c - (n + 1)) * 5) .any) = cs.drop (i * 5) ++ List.replicate ((c - (n + 1)) * 5) .any := by
      rw [List.append_assoc, List.drop_left' (by omega)]
    rw [hT2, hT3]
    refine ⟨by omega, by omega, by omega, ?_, ?_⟩
    · simp only [List.length_append, List.length_replicate, hT, hYl]
      omega
    · refine ⟨_, _, leVH.self _ _, _, rfl, b, c, by omega, rfl, ?_⟩
      rw [Sp, ← hX]
      simp only [List.append_assoc]
end Go.Proofs.YtfheeghkajihoaaDoor
