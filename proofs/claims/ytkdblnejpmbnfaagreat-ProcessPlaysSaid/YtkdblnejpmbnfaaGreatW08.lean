/- From the row's reading of the arguments to the engine's values, and from the engine's answer back to the row. -/
import Derived.Test.YtkdblnejpmbnfaaGreatW07
import Derived.Carry
import Derived.ChangeSame
import Derived.RowKit
namespace Go.Lx
open Go.RowKit Go.WideShapes Go.ChangeShapes
set_option linter.unusedSimpArgs false
set_option linter.unusedVariables false
inductive Sh where
  | int (k : IntKind)
  | bool
  | str
  | any
  | sl (bytes : Nat) (elem : List Sh)
mutual
/-- how many values and letters a reading holds -/
def bulk {H : Type} : DataW H → Nat
  | .lit (.string bytes) => bytes.length + 1
  | .lit _ => 1
  | .nil => 1
  | .ptr d => bulk d + 1
  | .slice elems spare => bulks elems + bulks spare + 1
  | .agg parts => bulks parts + 1
  | .iface _ d => bulk d + 1
  | .map entries => bulkEs entries + 1
  | .held _ => 1
def bulks {H : Type} : List (DataW H) → Nat
  | [] => 0
  | d :: r => bulk d + bulks r
def bulkEs {H : Type} : List (Lit × DataW H) → Nat
  | [] => 0
  | x :: r => bulkE x + bulkEs r
def bulkE {H : Type} : Lit × DataW H → Nat
  | (.string bytes, d) => bytes.length + bulk d + 1
  | (_, d) => bulk d + 1
end
theorem bulk_pos {H : Type} (d : DataW H) : 1 ≤ bulk d := by
  cases d with
  | lit l => cases l <;> simp [bulk]
  | _ => simp [bulk]
theorem bulk_part {H : Type} {d : DataW H} {l : List (DataW H)} (h : d ∈ l) : bulk d ≤ bulks l := by
  induction l with
  | nil => cases h
  | cons x r ih =>
    simp only [bulks]
    cases List.mem_cons.1 h with
    | inl e => subst e; omega
    | inr e => have := ih e; omega
theorem bulk_length {H : Type} (l : List (DataW H)) : l.length ≤ bulks l := by
  induction l with
  | nil => simp [bulks]
  | cons x r ih => have := bulk_pos x; simp only [bulks, List.length_cons]; omega
def Rd {H : Type} (B : Nat) (P : Program) (t : TypeId) (d : DataW H) : Prop := (B = maxLen ∨ bulk d ≤ B) ∧ ∀ w ∈ d.weights P t, w ≤ reachBytes
theorem weightsAll_mem {H : Type} {P : Program} {e : TypeId} {d : DataW H} {w : Nat} : ∀ {l : List (DataW H)}, d ∈ l → w ∈ d.weights P e → w ∈ DataW.weightsAll P e l
  | x :: r, h, hw => by
    simp only [DataW.weightsAll, List.mem_append]
    rcases List.mem_cons.1 h with rfl | h
    · exact .inl hw
    · exact .inr (weightsAll_mem h hw)
theorem weightsEach_mem {H : Type} {P : Program} {t : TypeId} {d : DataW H} {w : Nat} : ∀ {ts : List TypeId} {l : List (DataW H)} {i : Nat}, ts[i]? = some t → l[i]? = some d → w ∈ d.weights P t → w ∈ DataW.weightsEach P ts l
  | t0 :: ts, x :: r, 0, ht, hd, hw => by
    simp only [List.getElem?_cons_zero, Option.some.injEq] at ht hd
    subst ht; subst hd
    simp only [DataW.weightsEach, List.mem_append]
    exact .inl hw
  | t0 :: ts, x :: r, i + 1, ht, hd, hw => by
    simp only [List.getElem?_cons_succ] at ht hd
    simp only [DataW.weightsEach, List.mem_append]
    exact .inr (weightsEach_mem ht hd hw)
  | [], _, _, ht, _, _ => by simp at ht
  | _ :: _, [], _, _, hd, _ => by simp at hd
theorem Rd.all {H : Type} {B : Nat} {P : Program} {e : TypeId} {xs : List (DataW H × List MemPlace)} {x : DataW H × List MemPlace} {n : Nat} (h : B = maxLen ∨ bulks (xs.map (·.1)) + n ≤ B) (h' : ∀ w ∈ DataW.weightsAll P e (xs.map (·.1)), w ≤ reachBytes) (hx : x ∈ xs) : Rd B P e x.1 := by
  refine ⟨h.imp id fun h => ?_, fun w hw => h' w (weightsAll_mem (List.mem_map_of_mem (f := (·.1)) hx) hw)⟩
  have := bulk_part (List.mem_map_of_mem (f := (·.1)) hx)
  omega
theorem Rd.each {H : Type} {B : Nat} {P : Program} {t : TypeId} {ts : List TypeId} {xs : List (DataW H × List MemPlace)} {x : DataW H × List MemPlace} {n i : Nat} (h : B = maxLen ∨ bulks (xs.map (·.1)) + n ≤ B) (h' : ∀ w ∈ DataW.weightsEach P ts (xs.map (·.1)), w ≤ reachBytes) (ht : ts[i]? = some t) (hx : xs[i]? = some x) : Rd B P t x.1 := by
  refine ⟨h.imp id fun h => ?_, fun w hw => h' w (weightsEach_mem ht (by simp [hx]) hw)⟩
  have := bulk_part (List.mem_map_of_mem (f := (·.1)) (List.mem_of_getElem? hx))
  omega
variable {B : Nat}
mutual
def Fits (B : Nat) : Sh → LV → Prop
  | .int k, x => ∃ n, x = .int k n ∧ (Lit.int k n).wf = true
  | .bool, x => ∃ b, x = .bool b
  | .str, x => ∃ s, x = .str s ∧ s.length ≤ B ∧ s.length ≤ reachBytes
  | .any, x => x = .any
  | .sl bytes e, x => ∃ rows : List (List LV), x = .sl e.length rows.length rows.flatten ∧ rows.length ≤ B ∧ rows.length * bytes ≤ reachBytes ∧ ∀ r ∈ rows, FitsL B e r
def FitsL (B : Nat) : List Sh → List LV → Prop
  | [], l => l = []
  | s :: ss, l => ∃ x xs, l = x :: xs ∧ Fits B s x ∧ FitsL B ss xs
end
theorem FitsL_length : ∀ {a : List Sh} {x : List LV}, FitsL B a x → x.length = a.length
  | [], x, h => by simp only [FitsL] at h; simp [h]
  | s :: ss, x, h => by
    simp only [FitsL] at h
    obtain ⟨y, ys, rfl, _, h2⟩ := h
    simp [FitsL_length h2]
def shFs (g : TypeId → Option (List Sh)) : List Field → Option (List Sh)
  | [] => some []
  | f :: fs => (g f.type).bind fun a => (shFs g fs).map fun b => a ++ b
def tight (P : Program) : Nat → List Field → Bool
  | _, [] => true
  | o, f :: fs => f.offset == o && tight P (o + P.cellsOf f.type) fs
def tightT (P : Program) : Nat → TypeId → Bool
  | 0, _ => false
  | n + 1, t => match P.underlying t with
    | some (.struct fs) => tight P 0 fs.toList && (fs.toList.foldl (fun a f => a + P.cellsOf f.type) 0 == P.cellsOf t) && fs.toList.all fun f => tightT P n f.type
    | some (.array m e) => (m * P.cellsOf e == P.cellsOf t) && tightT P n e
    | _ => P.cellsOf t == 1
def shOf (P : Program) : Nat → TypeId → Option (List Sh)
  | 0, _ => none
  | n + 1, t => match P.underlying t with
    | some .bool => some [.bool]
    | some (.int k) => some [.int k]
    | some .string => some [.str]
    | some (.slice e) => match shOf P n e with
      | some s => if tightT P n e && s.length == P.cellsOf e && !s.isEmpty then some [.sl (P.bytesOf e) s] else some [.any]
      | none => some [.any]
    | some (.array m e) => (shOf P n e).map fun s => (List.replicate m s).flatten
    | some (.pointer _) => some [.any]
    | some (.interface _) => some [.any]
    | some (.struct fs) => shFs (shOf P n) fs.toList
    | _ => none
def M0f (W : World) : Nat → Nat → Option Value := fun b o => match W.cell? ⟨b, o, none⟩ with
  | some v => if v.oneCell' then some v else none
  | none => none
def M0 (W : World) : Imm := ⟨M0f W, fun _ => False⟩
theorem M0_some {W : World} {b o : Nat} {v : Value} (h : W.cell? ⟨b, o, none⟩ = some v) (h' : v.oneCell' = true) : M0 W b o = some v := by simp [M0, M0f, h, h']
theorem M0_of {W : World} {b o : Nat} {v : Value} (h : M0 W b o = some v) : W.cell? ⟨b, o, none⟩ = some v ∧ v.oneCell' = true := by
  simp only [M0] at h
  unfold M0f at h
  split at h
  · rename_i u hu
    split at h
    · cases h; exact ⟨hu, by assumption⟩
    · cases h
  · cases h
theorem FitsL_append : ∀ {a b : List Sh} {x y : List LV}, FitsL B a x → FitsL B b y → FitsL B (a ++ b) (x ++ y)
  | [], _, _, _, h, h' => by simp only [FitsL] at h; subst h; simpa using h'
  | c :: cs, _, _, _, h, h' => by
    simp only [FitsL] at h
    obtain ⟨u, us, rfl, h1, h2⟩ := h
    simp only [List.cons_append, FitsL]
    exact ⟨u, _, rfl, h1, FitsL_append h2 h'⟩
section
variable {H : Type} {enc : TypeId × Value → H} {P : Program} {W : World} {base : Nat} {sp : Nat → Bool} {held : Bool} {M : Imm}
def Gives (B : Nat) (M : Imm) (shs : List Sh) (cs : List Value) : Prop := ∃ l, FitsL B shs l ∧ RVs M l cs ∧ ∀ u ∈ cs, u.oneCell' = true
theorem Gives.one {s : Sh} {x : LV} {v : Value} (h : Fits B s x) (h' : RV M x v) (h1 : v.oneCell' = true) : Gives B M [s] [v] :=
  ⟨[x], by simp only [FitsL]; exact ⟨x, [], rfl, h, rfl⟩, by simp only [RVs]; exact ⟨v, [], rfl, h', rfl⟩, by simpa using h1⟩
theorem Gives.append {a b : List Sh} {x y : List Value} (h : Gives B M a x) (h' : Gives B M b y) : Gives B M (a ++ b) (x ++ y) := by
  obtain ⟨l, h1, h2, h3⟩ := h
  obtain ⟨l', h1', h2', h3'⟩ := h'
  exact ⟨l ++ l', FitsL_append h1 h1', RVs_append h2 h2', fun u hu => by rcases List.mem_append.1 hu with hu | hu; (exact h3 u hu); (exact h3' u hu)⟩
theorem gives_fields {n : Nat} (ih : ∀ (t : TypeId) (shs : List Sh) (fuel : Nat) (cs : List Value) (x : DataW H × List MemPlace), shOf P n t = some shs → tightT P n t = true → DataW.trod enc P W base sp held fuel t cs = some x → Rd B P t x.1 → Gives B M shs cs)
    {fuel : Nat} {cs : List Value} : ∀ (fs : List Field) (o : Nat) (shs : List Sh) (xs : List (DataW H × List MemPlace)), shFs (shOf P n) fs = some shs → tight P o fs = true → fs.all (fun f => tightT P n f.type) = true →
      cs.length = fs.foldl (fun a f => a + P.cellsOf f.type) o →
      (∀ (i : Nat) (f : Field), fs[i]? = some f → DataW.trod enc P W base sp held fuel f.type ((cs.drop f.offset).take (P.cellsOf f.type)) = xs[i]?) → xs.length = fs.length → (∀ (i : Nat) (f : Field) (x : DataW H × List MemPlace), fs[i]? = some f → xs[i]? = some x → Rd B P f.type x.1) → Gives B M shs (cs.drop o)
  | [], o, shs, xs, hs, _, _, hl, _, _, _ => by
    simp only [shFs, Option.some.injEq] at hs
    subst hs
    rw [List.foldl_nil] at hl
    rw [List.drop_eq_nil_of_le (by omega)]
    exact ⟨[], by simp [FitsL], by simp [RVs], by simp⟩
  | f :: fs, o, shs, xs, hs, ht, ha, hl, hx, hn, hB => by
    simp only [shFs, Option.bind_eq_some_iff, Option.map_eq_some_iff] at hs
    obtain ⟨a, h1, b, h2, rfl⟩ := hs
    simp only [tight, Bool.and_eq_true, beq_iff_eq] at ht
    obtain ⟨rfl, ht⟩ := ht
    simp only [List.all_cons, Bool.and_eq_true] at ha
    rw [List.foldl_cons] at hl
    match xs, hn, hB with
    | x0 :: xs, hn, hB =>
      have g0 := ih _ _ _ _ x0 h1 ha.1 (by simpa using hx 0 f rfl) (hB 0 f x0 rfl rfl)
      have g1 := gives_fields ih fs (f.offset + P.cellsOf f.type) b xs h2 ht ha.2 hl (fun i f' hf => by simpa using hx (i + 1) f' (by simpa using hf)) (by simpa using hn) (fun i f x hf hx => hB (i + 1) f x (by simpa using hf) (by simpa using hx))
      have := g0.append g1
      rwa [show cs.drop (f.offset + P.cellsOf f.type) = (cs.drop f.offset).drop (P.cellsOf f.type) by rw [List.drop_drop], List.take_append_drop] at this
theorem gives_array {e : TypeId} {s : List Sh} {fuel : Nat} {cs : List Value} {sz : Nat} (ih : ∀ (cs : List Value) (x : DataW H × List MemPlace), DataW.trod enc P W base sp held fuel e cs = some x → Rd B P e x.1 → Gives B M s cs) :
    ∀ (m k : Nat) (xs : List (DataW H × List MemPlace)), cs.length = (k + m) * sz → (∀ i, i < m → DataW.trod enc P W base sp held fuel e ((cs.drop ((k + i) * sz)).take sz) = xs[k + i]?) → k + m ≤ xs.length → (∀ x ∈ xs, Rd B P e x.1) → Gives B M (List.replicate m s).flatten (cs.drop (k * sz))
  | 0, k, xs, hl, _, _, _ => by
    rw [List.drop_eq_nil_of_le (by simp [hl])]
    exact ⟨[], by simp [FitsL], by simp [RVs], by simp⟩
  | m + 1, k, xs, hl, hx, hn, hB => by
    have h0 := hx 0 (by omega)
    simp only [Nat.add_zero] at h0
    rw [List.getElem?_eq_getElem (by omega)] at h0
    have g0 := ih _ _ h0 (hB _ (List.getElem_mem _))
    have g1 := gives_array ih m (k + 1) xs (by rw [hl]; congr 1; omega) (fun i hi => by
      have := hx (i + 1) (by omega)
      rwa [show k + (i + 1) = k + 1 + i by omega] at this) (by omega) hB
    have := g0.append g1
    rw [show cs.drop ((k + 1) * sz) = (cs.drop (k * sz)).drop sz by rw [List.drop_drop, Nat.add_mul, Nat.one_mul], List.take_append_drop] at this
    simpa [List.replicate_succ] using this
theorem cells_get {w : World} {b : Nat} {a : Addr} {n : Nat} {cs : List Value} (h : w.cells? b a n = some cs) : cs.length = n ∧ ∀ i, i < n → w.cell? (a.add i) = cs[i]? := by
  unfold World.cells? at h
  split at h
  · exact ⟨by simpa using mapM_some_length h, fun i hi => mapM_some_get h i i (by simp [hi])⟩
  · cases h
theorem gives_rows {e : TypeId} {s : List Sh} {fuel sz : Nat} (ih : ∀ (cs : List Value) (x : DataW H × List MemPlace), DataW.trod enc P W base sp held fuel e cs = some x → Rd B P e x.1 → Gives B (M0 W) s cs) (hs : s.length = sz) {b o : Nat} {elems : List (DataW H × List MemPlace)} (hB : ∀ x ∈ elems, Rd B P e x.1) :
    ∀ (m : Nat), m ≤ elems.length → (∀ i, i < elems.length → (W.cells? base ((⟨b, o, none⟩ : Addr).add (i * sz)) sz).bind (DataW.trod enc P W base sp held fuel e) = elems[i]?) →
      ∃ rows : List (List LV), rows.length = m ∧ (∀ r ∈ rows, FitsL B s r) ∧ RCs (M0 W) b o rows.flatten ∧ rows.flatten.length = m * sz
  | 0, _, _ => ⟨[], rfl, by simp, by simp [RCs], by simp⟩
  | m + 1, hm, hx => by
    obtain ⟨rows, h1, h2, h3, h4⟩ := gives_rows ih hs hB m (by omega) hx
    have hm' := hx m (by omega)
    rw [List.getElem?_eq_getElem (by omega)] at hm'
    simp only [Option.bind_eq_some_iff] at hm'
    obtain ⟨cs, hc, ht⟩ := hm'
    obtain ⟨hl, hg⟩ := cells_get hc
    obtain ⟨l, f1, f2, f3⟩ := ih cs _ ht (hB _ (List.getElem_mem _))
    have hll : l.length = sz := by rw [FitsL_length f1, hs]
    refine ⟨rows ++ [l], by simp [h1], fun r hr => ?_, ?_, ?_⟩
    · rcases List.mem_append.1 hr with hr | hr
      · exact h2 r hr
      · simp at hr; subst hr; exact f1
    · rw [List.flatten_append, List.flatten_singleton]
      refine RCs_append h3 (RCs_of_get fun i c hi => ?_)
      obtain ⟨v, hv1, hv2⟩ := RVs_get f2 i c hi
      have hi' : i < sz := by rw [← hll]; exact (List.getElem?_eq_some_iff.1 hi).1
      have hcell := hg i hi'
      rw [hv1, addr_add, addr_add] at hcell
      rw [h4]
      exact ⟨v, M0_some hcell (f3 v (List.mem_of_getElem? hv1)), hv2⟩
    · simp [h4, hll, Nat.add_mul]
theorem gives : ∀ (n : Nat) (t : TypeId) (shs : List Sh) (fuel : Nat) (cs : List Value) (x : DataW H × List MemPlace), shOf P n t = some shs → tightT P n t = true → DataW.trod enc P W base sp held fuel t cs = some x → Rd B P t x.1 → Gives B (M0 W) shs cs
  | 0, _, _, _, _, _, h, _, _, _ => by simp [shOf] at h
  | n + 1, t, shs, fuel, cs, x, h, ht, hx, hB => by
    cases fuel with
    | zero => simp [DataW.trod] at hx
    | succ fuel =>
    unfold shOf at h
    split at h
    · rename_i hu; cases h
      unfold DataW.trod at hx; rw [hu] at hx
      split at hx <;> simp_all
      rename_i b
      exact Gives.one (x := .bool b) (by simp [Fits]) (by simp [RV]) rfl
    · rename_i k hu; cases h
      unfold DataW.trod at hx; rw [hu] at hx
      split at hx <;> simp_all
      rename_i k1 k2 n1 _
      obtain ⟨⟨rfl, hw⟩, _⟩ := hx
      exact Gives.one (x := .int _ n1) (by simp only [Fits]; exact ⟨_, rfl, hw⟩) (by simp [RV]) rfl
    · rename_i hu; cases h
      unfold DataW.trod at hx; rw [hu] at hx
      split at hx <;> simp_all
      rename_i s
      have hl : s.data.toList.length ≤ B := by
        obtain ⟨h1, h2⟩ := hx
        rcases hB.1 with rfl | hB
        · simpa using h1
        · rw [← h2] at hB
          simp only [bulk] at hB
          omega
      have hw : s.data.toList.length ≤ reachBytes := by
        obtain ⟨h1, h2⟩ := hx
        have h3 := hB.2
        rw [← h2] at h3
        simp only [DataW.weights, List.mem_singleton, forall_eq] at h3
        exact h3
      exact Gives.one (x := .str s.data.toList) (by simp only [Fits]; exact ⟨s.data.toList, rfl, hl, hw⟩) (by simp [RV]) rfl
    · rename_i e hu
      have any : shs = [.any] → Gives B (M0 W) shs cs := by
        rintro rfl
        rcases DataW.trod_slice hu hx with ⟨rfl, _⟩ | ⟨a, len, cap, _, _, _, _, rfl, _⟩
        · exact Gives.one (x := .any) (by simp [Fits]) (by simp [RV]) rfl
        · exact Gives.one (x := .any) (by simp [Fits]) (by simp [RV]) rfl
      split at h
      · rename_i s hs
        split at h
        · rename_i hc
          cases h
          simp only [Bool.and_eq_true, beq_iff_eq, Bool.not_eq_true', List.isEmpty_eq_false_iff] at hc
          obtain ⟨⟨h1, h2⟩, h3⟩ := hc
          have hpos : 0 < s.length := List.length_pos_iff.2 h3
          rcases DataW.trod_slice hu hx with ⟨rfl, _⟩ | ⟨a, len, cap, elems, rest, f2, hf, rfl, hxe, _, hle, hcap, hel, hget, _⟩
          · exact Gives.one (x := .sl s.length 0 []) (by simp only [Fits]; exact ⟨[], by simp, by simp, by simp, by simp⟩) (by simp only [RV]; exact ⟨by simp, .inr ⟨none, 0, rfl, trivial⟩⟩) rfl
          · by_cases hl0 : len = 0
            · subst hl0
              exact Gives.one (x := .sl s.length 0 []) (by simp only [Fits]; exact ⟨[], by simp, by simp, by simp, by simp⟩) (by simp only [RV]; exact ⟨by simp, .inr ⟨some a, cap, rfl, trivial⟩⟩) rfl
            · obtain rfl : f2 = fuel := by omega
              -- the address has no spot: its first cell is there
              have hspot : a = ⟨a.block, a.off, none⟩ := by
                have h0 := hget 0 (by omega)
                rw [List.getElem?_eq_getElem (by omega)] at h0
                simp only [Option.bind_eq_some_iff] at h0
                obtain ⟨c0, hc0, _⟩ := h0
                obtain ⟨hl, hg⟩ := cells_get hc0
                have := hg 0 (by omega)
                rw [List.getElem?_eq_getElem (by omega)] at this
                simp only [Addr.add, Nat.zero_mul, if_true] at this
                unfold World.cell? at this
                split at this
                · split at this
                  · cases this
                  · rename_i hs; obtain ⟨ab, ao, as⟩ := a; simp at hs; simp [hs]
                · cases this
              obtain ⟨ab, ao, as⟩ := a
              cases hspot
              have hB' : B = maxLen ∨ bulks (elems.map (·.1)) + 1 ≤ B := by
                subst hxe
                refine hB.1.imp id fun h => ?_
                simp only [bulk] at h
                omega
              have hW' : (∀ w ∈ DataW.weightsAll P e (elems.map (·.1)), w ≤ reachBytes) ∧ len * P.bytesOf e ≤ reachBytes := by
                have h3 := hB.2
                subst hxe
                simp only [DataW.weights, hu, List.mem_cons, List.mem_append, List.length_map] at h3
                refine ⟨fun w hw => h3 w (.inr (.inl hw)), Nat.le_trans (Nat.mul_le_mul_right _ ?_) (h3 _ (.inl rfl))⟩
                omega
              have hBl : len ≤ B := by
                rcases hB' with rfl | h
                · omega
                · have := bulk_length (elems.map (·.1))
                  simp only [List.length_map] at this
                  omega
              obtain ⟨rows, r1, r2, r3, r4⟩ := gives_rows (P := P) (base := base) (sp := sp) (held := held) (fuel := f2) (e := e) (s := s) (sz := P.cellsOf e) (b := ab) (o := ao) (elems := elems) (fun cs x h hB => gives n e s f2 cs x hs h1 h hB) h2 (fun x hx => Rd.all hB' hW'.1 hx) elems.length (Nat.le_refl _) (fun i hi => hget i (by omega))
              refine Gives.one (x := .sl s.length rows.length rows.flatten) (by simp only [Fits]; exact ⟨rows, rfl, by omega, by rw [r1, hel]; exact hW'.2, r2⟩) ?_ rfl
              simp only [RV]
              refine ⟨by rw [r4, r1, h2], .inl ⟨ab, ao, cap, by rw [r1, hel], by omega, r3⟩⟩
        · cases h; exact any rfl
      · cases h; exact any rfl
    · rename_i m e hu
      simp only [Option.map_eq_some_iff] at h
      obtain ⟨s, hs, rfl⟩ := h
      unfold tightT at ht
      rw [hu] at ht
      simp only [Bool.and_eq_true, beq_iff_eq] at ht
      unfold DataW.trod at hx
      rw [hu] at hx
      simp only at hx
      split at hx
      · rename_i hl
        simp only [Option.map_eq_some_iff] at hx
        obtain ⟨xs, hx1, hxe⟩ := hx
        have hB' : B = maxLen ∨ bulks (xs.map (·.1)) + 1 ≤ B := by
          subst hxe
          refine hB.1.imp id fun h => ?_
          simp only [bulk] at h
          omega
        have hW' : ∀ w ∈ DataW.weightsAll P e (xs.map (·.1)), w ≤ reachBytes := by
          have h3 := hB.2
          subst hxe
          simpa only [DataW.weights, hu] using h3
        have hn : xs.length = m := by simpa using mapM_some_length hx1
        have := gives_array (M := M0 W) (sz := P.cellsOf e) (cs := cs) (fun cs x h hB => gives n e s fuel cs x hs ht.2 h hB) m 0 xs (by rw [hl, ← ht.1, Nat.zero_add]) (fun i hi => by
          rw [Nat.zero_add]
          exact mapM_some_get hx1 i i (by simp [hi])) (by omega) (fun x hx => Rd.all hB' hW' hx)
        simpa using this
      · cases hx
    · rename_i e hu; cases h
      rcases DataW.trod_pointer hu hx with ⟨rfl, _⟩ | ⟨a, _, _, _, _, rfl, _⟩
      · exact Gives.one (x := .any) (by simp [Fits]) (by simp [RV]) rfl
      · exact Gives.one (x := .any) (by simp [Fits]) (by simp [RV]) rfl
    · rename_i ms hu; cases h
      unfold DataW.trod at hx; rw [hu] at hx
      split at hx <;> simp_all
      · exact Gives.one (x := .any) (by simp [Fits]) (by simp [RV]) rfl
      · exact Gives.one (x := .any) (by simp [Fits]) (by simp [RV]) rfl
    · rename_i fs hu
      obtain ⟨xs, m, _, hxe, hl, hn, hf⟩ := DataW.trod_struct hu hx
      have hB' : B = maxLen ∨ bulks (xs.map (·.1)) + 1 ≤ B := by
        subst hxe
        refine hB.1.imp id fun h => ?_
        simp only [bulk] at h
        omega
      have hW' : ∀ w ∈ DataW.weightsEach P (fs.toList.map (·.type)) (xs.map (·.1)), w ≤ reachBytes := by
        have h3 := hB.2
        subst hxe
        simpa only [DataW.weights, hu] using h3
      unfold tightT at ht
      rw [hu] at ht
      simp only [Bool.and_eq_true, beq_iff_eq] at ht
      have := gives_fields (cs := cs) (gives n) fs.toList 0 shs xs h ht.1.1 ht.2 (by rw [hl, ht.1.2]) (fun i f hi => hf i f (by simpa using hi)) (by simpa using hn) (fun i f x hf hx => Rd.each (i := i) hB' hW' (by simp [hf]) hx)
      simpa using this
    · cases h
def isAgg (P : Program) (t : TypeId) : Bool := match P.underlying t with
  | some (.struct _) | some (.array _ _) => true
  | _ => false
def FitsA (B : Nat) : Bool × List Sh → LV → Prop
  | (true, shs), x => ∃ l, x = .agg l ∧ FitsL B shs l
  | (false, shs), x => FitsL B shs [x]
def shArg (P : Program) (t : TypeId) : Option (Bool × List Sh) := if tightT P 32 t then (shOf P 32 t).map fun l => (isAgg P t, l) else none
def FitsAll (B : Nat) : List (Bool × List Sh) → List LV → Prop
  | [], l => l = []
  | s :: ss, l => ∃ x xs, l = x :: xs ∧ FitsA B s x ∧ FitsAll B ss xs
theorem arg_gives {t : TypeId} {v : Value} {d : DataW H} {ps : List MemPlace} {b0 : Nat} {a : Bool × List Sh} (h : shArg P t = some a) (hok : Value.okWide P W .any b0 t v) (hd : DataW.Trod enc P W base sp held t v d ps) (hB : Rd B P t d) :
    ∃ x, FitsA B a x ∧ RV (M0 W) x v := by
  unfold shArg at h
  split at h
  case isFalse => cases h
  rename_i ht
  simp only [Option.map_eq_some_iff] at h
  obtain ⟨shs, hs, rfl⟩ := h
  obtain ⟨fuel, hd⟩ := hd
  obtain ⟨l, h1, h2, h3⟩ := gives 32 t shs fuel _ _ hs ht hd hB
  cases hA : isAgg P t with
  | true =>
    have : ∃ cs, v = .agg cs := by
      unfold isAgg at hA
      unfold Value.okWide at hok
      split at hA
      · rename_i hu; rw [hu] at hok; obtain ⟨cs, rfl, _⟩ := hok; exact ⟨_, rfl⟩
      · rename_i hu; rw [hu] at hok; obtain ⟨cs, rfl, _⟩ := hok; exact ⟨_, rfl⟩
      · cases hA
    obtain ⟨cs, rfl⟩ := this
    refine ⟨.agg l, ⟨l, rfl, h1⟩, ?_⟩
    simp only [RV]
    exact ⟨cs.toList, by simp, h2, h3⟩
  | false =>
    have hv : v.cells = #[v] := by
      unfold isAgg at hA
      unfold Value.okWide at hok
      cases v with
      | agg cs =>
        exfalso
        split at hA
        · cases hA
        · cases hA
        · rename_i n1 n2
          split at hok
          · rename_i hu; exact n1 _ hu
          · rename_i hu; exact n2 _ _ hu
          · unfold Cell.okWide at hok
            split at hok
            all_goals first
              | (exfalso; rename_i h; cases h; done)
              | (unfold Cell.ok at hok; split at hok <;> simp_all; done)
              | simp_all
      | _ => rfl
    rw [hv] at h2
    simp only at h2
    match l, h2 with
    | [], h2 => simp [RVs] at h2
    | x :: xs, h2 =>
      simp only [RVs] at h2
      obtain ⟨u, us, e, h2a, h2b⟩ := h2
      simp only [List.cons.injEq] at e
      obtain ⟨rfl, rfl⟩ := e
      cases xs with
      | nil => exact ⟨x, h1, h2a⟩
      | cons y ys => simp [RVs] at h2b
theorem args_give : ∀ {ts : List TypeId} {vs : List Value} {ds : List (DataW H)} {ps : List MemPlace} {as : List (Bool × List Sh)} {b0 : Nat}, ts.mapM (shArg P) = some as →
    (∀ (j : Nat) t v, ts[j]? = some t → vs[j]? = some v → Value.okWide P W .any b0 t v) → DataW.TrodAll enc P W base sp held ts vs ds ps → (∀ (i : Nat) t d, ts[i]? = some t → ds[i]? = some d → Rd B P t d) → ∃ l, FitsAll B as l ∧ RVs (M0 W) l vs
  | [], vs, ds, ps, as, b0, hm, _, h, _ => by
    obtain ⟨rfl, rfl, rfl⟩ := trodAll_nil h
    simp at hm
    subst hm
    exact ⟨[], rfl, by simp [RVs]⟩
  | t :: ts, vs, ds, ps, as, b0, hm, hok, h, hB => by
    obtain ⟨v, vs1, d, ds1, a, b, rfl, rfl, rfl, h1, h2⟩ := trodAll_cons h
    rw [List.mapM_cons] at hm
    simp only [Option.pure_def, Option.bind_eq_bind, Option.bind_eq_some_iff, Option.some.injEq] at hm
    obtain ⟨a0, ha, as0, has, rfl⟩ := hm
    obtain ⟨x, hx, hxv⟩ := arg_gives ha (hok 0 t v rfl rfl) h1 (hB 0 t d rfl rfl)
    obtain ⟨l, hl, hlv⟩ := args_give has (fun j t v hj hv => hok (j + 1) t v (by simpa using hj) (by simpa using hv)) h2 (fun i t d ht hd => hB (i + 1) t d (by simpa using ht) (by simpa using hd))
    exact ⟨x :: l, ⟨x, l, rfl, hx, hl⟩, by simp only [RVs]; exact ⟨v, vs1, rfl, hxv, hlv⟩⟩
theorem trodAll_below {W' : World} (hl : laidOutB P = true) (hb : Below W.heap.size W W') : ∀ {ts : List TypeId} {vs : List Value} {ds : List (DataW H)} {ps : List MemPlace}, ts.all (fun t => P.readableRec t && decide (t < P.types.size)) = true → (∀ x ∈ ps, x.block < W.heap.size) →
    DataW.TrodAll enc P W 0 (fun _ => true) true ts vs ds ps → ∀ sp : Nat → Bool, (∀ p ∈ ps, sp p.block = true) → DataW.TrodAll enc P W' 0 sp true ts vs ds ps
  | [], vs, ds, ps, _, _, h, _, _ => by
    obtain ⟨rfl, rfl, rfl⟩ := trodAll_nil h
    rfl
  | t :: ts, vs, ds, ps, hr, hlt, h, sp, hsp => by
    obtain ⟨v, vs1, d, ds1, a, b, rfl, rfl, rfl, h1, h2⟩ := trodAll_cons h
    simp only [List.all_cons, Bool.and_eq_true, decide_eq_true_eq] at hr
    exact ⟨a, b, WideElems.Trod_stays hl hr.1.1 hr.1.2 h1 (fun x hx => hb.same (hlt x (by simp [hx]))) (fun x hx => hsp x (by simp [hx])), trodAll_below hl hb hr.2 (fun x hx => hlt x (by simp [hx])) h2 sp (fun x hx => hsp x (by simp [hx])), rfl⟩
theorem post_of_below {f : Func} {s : ChangeSpec} {apart fresh handsOn again : Bool} {W W' : World} {args : Array Value} {v : Value} {ds gs : List (DataW H)} {before pa pv : List MemPlace}
    (hW : DataW.Whole enc P f.params.toList s.vars apart W args.toList ds gs before)
    (hres : ∀ (b : Nat) (sp : Nat → Bool) (hd : Bool), DataW.TrodAll enc P W' b sp hd f.resultTypes.toList (v.resultList f.resultTypes.size) (s.fn H (ds ++ gs)).results [])
    (hargs : ∀ sp : Nat → Bool, (∀ p ∈ before, sp p.block = true) → DataW.TrodAll enc P W' 0 sp true f.params.toList args.toList (s.fn H (ds ++ gs)).args pa)
    (hvars : ∀ sp : Nat → Bool, (∀ p ∈ before, sp p.block = true) → DataW.TrodVars enc P W' sp s.vars (s.fn H (ds ++ gs)).vars pv)
    (hps : before = pa ++ pv) (hb : Below W.heap.size W W')
    (hok : ∀ (j : Nat) (t : TypeId) (r : Value), f.resultTypes[j]? = some t → (v.resultList f.resultTypes.size)[j]? = some r → Value.okWide P W' .any 0 t r) :
    s.post enc P f apart fresh handsOn again W args v W' := by
  have hlt : ∀ p ∈ before, p.block < W.heap.size := fun p hp => hW.lt p hp
  have hold : ∀ p ∈ before, (fun b => decide (b < W.heap.size)) p.block = true := fun p hp => by simpa using hlt p hp
  refine ⟨ds, gs, before, [], pa, pv, hW, hres _ _ _, hargs _ hold, hvars _ hold, World.keptBut_mono (fun p hp => ⟨hp, ?_⟩) (hb.frame (· ∈ before)), fun _ => ?_⟩
  · rw [hps, List.mem_append] at hp
    exact Or.inr hp
  · obtain ⟨_, _, _, _, _, hz, hn⟩ := hW
    refine ⟨hok, _, _, ([] ++ pa) ++ pv, ⟨[] ++ pa, pv, trodAll_append (hargs _ (fun _ _ => rfl)) (hres _ _ _), hvars _ (fun _ _ => rfl), rfl, ?_, ?_⟩, ?_⟩
    · intro b off hp
      have hin : MemPlace.cell b off ∈ before := by rw [hps]; simpa using hp
      rw [hb.frozen (hlt _ hin)]
      exact hz b off hin
    · intro ha
      have := hn ha
      rw [hps] at this
      simpa using this
    · intro p hp _
      rw [hps]
      simpa using hp
theorem law_ofB {gl : Glob} {f : FuncId} {fn : Func} {s : ChangeSpec} {args : Array Value} {ds gs : List (DataW H)} {before : List MemPlace} {b0 : Nat} {as : List (Bool × List Sh)} {tb : TypeId}
    (hok : okF P f = true) (hvars : s.vars = []) (hrt : fn.resultTypes = #[tb]) (htb : P.underlying tb = some .bool) (hlo : laidOutB P = true) (hread : fn.params.toList.all (fun t => P.readableRec t && decide (t < P.types.size)) = true)
    (hsh : fn.params.toList.mapM (shArg P) = some as) (hval : ∀ (j : Nat) t v, fn.params[j]? = some t → args[j]? = some v → Value.okWide P W .any b0 t v)
    (hW : DataW.Whole enc P fn.params.toList s.vars false W args.toList ds gs before)
    (hfn : (s.fn H (ds ++ gs)).results = [.lit (.bool true)] ∧ (s.fn H (ds ++ gs)).args = ds ∧ (s.fn H (ds ++ gs)).vars = [])
    (hgl : ∀ g cs, gl g = some cs → RCs (M0 W) g 0 cs)
    (hB : B = maxLen ∨ bulks (ds ++ gs) ≤ B) (hw : (DataW.weightsEach P (fn.params.toList ++ []) (ds ++ gs)).all (· ≤ reachBytes) = true) (hP : ∀ l, FitsAll B as l → Pure P gl f l (.bool true)) :
    Calls P f args W fun e W' => ∃ v, e = .returned v ∧ s.post enc P fn false true false false W args v W' := by
  have hW' := hW
  obtain ⟨p, q, hA, hV, rfl, hfz, hnd⟩ := hW'
  rw [hvars] at hV
  have hV' : gs = [] ∧ q = [] := by
    cases gs with
    | nil => exact ⟨rfl, hV⟩
    | cons _ _ => exact hV.elim
  obtain ⟨rfl, rfl⟩ := hV'
  obtain ⟨l, hl, hlv⟩ := args_give hsh (fun j t v hj hv => hval j t v (by simpa using hj) (by simpa using hv)) hA (fun i t d ht hd => by
    refine ⟨hB.imp id fun h => ?_, fun w hw' => ?_⟩
    · have := bulk_part (List.mem_of_getElem? hd)
      simp only [List.append_nil] at h
      omega
    · simp only [List.append_nil, List.all_eq_true, decide_eq_true_eq] at hw
      exact hw w (weightsEach_mem ht hd hw'))
  have hI : Inv gl W (M0 W) ([] ++ []) W := by
    refine ⟨Below.refl _ _, fun b o v h => M0_of h, fun e he => by simp at he, by simp, fun e he => by simp at he, hgl, fun _ h => h.elim, fun e he => by simp at he⟩
  have := hP l hl W (M0 W) [] W args.toList hI hlv
  rw [Array.toArray_toList] at this
  obtain ⟨fn0, hf0, hb0⟩ : ∃ fn0, P.funcs[f]? = some fn0 ∧ fn0.body.isNone = false := by
    unfold okF at hok
    split at hok
    · rename_i fn0 h0
      simp only [Bool.and_eq_true, Bool.not_eq_true'] at hok
      exact ⟨fn0, h0, hok.2⟩
    · cases hok
  refine (this.calls hf0 hb0).mono fun e W' ⟨M', v, r, H', hM, he, hv, hI', hr, hH⟩ => ⟨v, he, ?_⟩
  subst hr
  simp only [RV] at hv
  subst hv
  have hb := hI'.below
  obtain ⟨e1, e2, e3⟩ := hfn
  refine post_of_below (pa := p) (pv := []) hW ?_ ?_ ?_ rfl hb ?_
  · intro b sp hd
    rw [e1, hrt]
    exact ⟨[], [], ⟨1, by simp [Value.cells, DataW.trod, htb]⟩, rfl, rfl⟩
  · intro sp hsp
    rw [e2]
    exact trodAll_below hlo hb hread (fun x hx => hW.lt x (by simp [hx])) hA sp (fun x hx => hsp x (by simp [hx]))
  · intro sp hsp
    rw [e3, hvars]
    rfl
  · exact ok_one hrt rfl (okWide_bool_mk htb _)
theorem law_of {gl : Glob} {f : FuncId} {fn : Func} {s : ChangeSpec} {args : Array Value} {ds gs : List (DataW H)} {before : List MemPlace} {b0 : Nat} {as : List (Bool × List Sh)} {tb : TypeId}
    (hok : okF P f = true) (hvars : s.vars = []) (hrt : fn.resultTypes = #[tb]) (htb : P.underlying tb = some .bool) (hlo : laidOutB P = true) (hread : fn.params.toList.all (fun t => P.readableRec t && decide (t < P.types.size)) = true)
    (hsh : fn.params.toList.mapM (shArg P) = some as) (hval : ∀ (j : Nat) t v, fn.params[j]? = some t → args[j]? = some v → Value.okWide P W .any b0 t v)
    (hW : DataW.Whole enc P fn.params.toList s.vars false W args.toList ds gs before)
    (hfn : (s.fn H (ds ++ gs)).results = [.lit (.bool true)] ∧ (s.fn H (ds ++ gs)).args = ds ∧ (s.fn H (ds ++ gs)).vars = [])
    (hgl : ∀ g cs, gl g = some cs → RCs (M0 W) g 0 cs)
    (hw : (DataW.weightsEach P (fn.params.toList ++ []) (ds ++ gs)).all (· ≤ reachBytes) = true) (hP : ∀ l, FitsAll maxLen as l → Pure P gl f l (.bool true)) :
    Calls P f args W fun e W' => ∃ v, e = .returned v ∧ s.post enc P fn false true false false W args v W' :=
  law_ofB (B := maxLen) hok hvars hrt htb hlo hread hsh hval hW hfn hgl (.inl rfl) hw hP
theorem rows_map {α : Type} {f : α → List LV} {Q : α → Prop} : ∀ {rows : List (List LV)}, (∀ r ∈ rows, ∃ x, Q x ∧ r = f x) → ∃ l : List α, rows = l.map f ∧ ∀ x ∈ l, Q x
  | [], _ => ⟨[], rfl, by simp⟩
  | r :: rows, h => by
    obtain ⟨x, h1, h2⟩ := h r (by simp)
    obtain ⟨l, h3, h4⟩ := rows_map (rows := rows) fun r hr => h r (List.mem_cons_of_mem _ hr)
    refine ⟨x :: l, by simp [h2, h3], fun y hy => ?_⟩
    rcases List.mem_cons.1 hy with rfl | hy
    · exact h1
    · exact h4 y hy
theorem rows_int {k : IntKind} {rows : List (List LV)} (h : ∀ r ∈ rows, FitsL 0 [.int k] r) : ∃ l : List Int, rows.flatten = l.map (LV.int k) ∧ l.length = rows.length ∧ ∀ n ∈ l, (Lit.int k n).wf = true := by
  obtain ⟨l, h1, h2⟩ := rows_map (f := fun n => [LV.int k n]) (Q := fun n => (Lit.int k n).wf = true) (rows := rows) fun r hr => by
    have := h r hr
    simp only [FitsL, Fits] at this
    obtain ⟨x, xs, rfl, ⟨n, rfl, hw⟩, rfl⟩ := this
    exact ⟨n, hw, rfl⟩
  subst h1
  refine ⟨l, ?_, by simp, h2⟩
  clear h h2
  induction l with
  | nil => rfl
  | cons x r ih => simp at ih ⊢; exact ih
theorem wf_i64 {n : Int} (h : (Lit.int .i64 n).wf = true) : -9223372036854775808 ≤ n ∧ n ≤ 9223372036854775807 := by
  simpa [Lit.wf, IntKind.min, IntKind.max, IntKind.signed, IntKind.bits] using h
end
end Go.Lx
namespace Go.Lx
open Go
set_option linter.unusedSimpArgs false
set_option linter.unusedVariables false
variable {P : Program} {gl : Glob}
theorem getD_rows {α : Type} {f : α → List LV} {w : Nat} (hf : ∀ a, (f a).length = w) {j : Nat} (hj : j < w) (d : α) : ∀ (l : List α) (i : Nat), i < l.length → (l.flatMap f).getD (i * w + j) .any = (f (l.getD i d)).getD j .any
  | [], i, h => by simp at h
  | a :: l, 0, _ => by
    simp only [List.flatMap_cons, Nat.zero_mul, Nat.zero_add]
    have h2 : j < (f a).length := by rw [hf]; exact hj
    simp [List.getD, List.getElem?_append_left h2]
  | a :: l, i + 1, h => by
    have ih := getD_rows hf hj d l i (by simpa using h)
    simp only [List.flatMap_cons]
    have e : (i + 1) * w + j = (f a).length + (i * w + j) := by rw [hf, Nat.add_mul]; omega
    rw [e]
    simp only [List.getD, List.getElem?_append_right (Nat.le_add_right _ _), Nat.add_sub_cancel_left] at ih ⊢
    simpa using ih
theorem length_rows {α : Type} {f : α → List LV} {w : Nat} (hf : ∀ a, (f a).length = w) : ∀ l : List α, (l.flatMap f).length = l.length * w
  | [] => by simp
  | a :: l => by simp [List.flatMap_cons, hf, length_rows hf l, Nat.add_mul]; omega
def entLe : Ent → Ent → Prop
  | .blk b cs, .blk b' cs' => b = b' ∧ leVs cs cs'
  | .tok t, .tok t' => t = t'
  | .map b es, .map b' es' => b = b' ∧ es = es'
  | _, _ => False
def heapLe : Heap → Heap → Prop
  | [], [] => True
  | (_, e) :: H, (_, e') :: H' => entLe e e' ∧ heapLe H H'
  | _, _ => False
theorem leVs.get : ∀ {xs ys : List LV}, leVs xs ys → ∀ (i : Nat) (y : LV), ys[i]? = some y → ∃ x, xs[i]? = some x ∧ leV x y
  | [], [], _, i, y, h => by simp at h
  | x :: xs, [], hl, i, y, h => by simp at h
  | [], z :: ys, hl, i, y, h => hl.elim
  | x :: xs, z :: ys, hl, 0, y, h => by
    simp only [List.getElem?_cons_zero, Option.some.injEq] at h
    subst h
    exact ⟨x, rfl, hl.1⟩
  | x :: xs, z :: ys, hl, i + 1, y, h => by
    simp only [List.getElem?_cons_succ] at h ⊢
    exact leVs.get hl.2 i y h
theorem heapLe.inv {w0 : World} {M : Imm} {w : World} : ∀ {H H' R : Heap}, heapLe H H' → Inv gl w0 M (H ++ R) w → Inv gl w0 M (H' ++ R) w
  | [], [], R, _, h => h
  | [], _ :: _, R, hl, h => hl.elim
  | _ :: _, [], R, hl, h => hl.elim
  | (i, e) :: H, (i', e') :: H', R, hl, h => by
    obtain ⟨h1, h2⟩ := hl
    have h3 : Inv gl w0 M ((i', e') :: (H ++ R)) w := by
      cases e with
      | blk b cs => cases e' with
        | blk b' cs' =>
          obtain ⟨rfl, h4⟩ := h1
          exact Inv.weaken h fun k c' hk => by
            obtain ⟨c, h5, h6⟩ := h4.get k c' hk
            exact ⟨c, h5, fun v hv => h6 M v hv⟩
        | tok t => exact h1.elim
        | map b' es => exact h1.elim
      | tok t => cases e' with
        | blk b' cs' => exact h1.elim
        | tok t' =>
          obtain rfl : t = t' := h1
          exact h.names (by simp)
        | map b' es => exact h1.elim
      | map b es => cases e' with
        | blk b' cs' => exact h1.elim
        | tok t' => exact h1.elim
        | map b' es' =>
          obtain ⟨rfl, rfl⟩ := h1
          exact h.names (by simp)
    have h4 : Inv gl w0 M (H ++ ((i', e') :: R)) w := h3.perm List.perm_middle.symm
    exact (heapLe.inv h2 h4).perm List.perm_middle
theorem Ents.heap {env env' : Env} {H H' : Heap} (H2 : Heap) (he : envLe env env') (hs : ∃ H1 : Heap, H1.Sublist H ∧ H1.Perm H2) (hl : heapLe H2 H') : Ents gl env H env' H' :=
  Ents.mk he.get fun _ _ HF _ hI => by
    obtain ⟨H1, h1, h2⟩ := hs
    exact hl.inv ((hI.sub (h1.append_right HF)).perm (h2.append_right HF))
theorem Ents.le {env env' : Env} {H H' : Heap} (he : envLe env env') (hl : heapLe H H') : Ents gl env H env' H' := Ents.heap H he ⟨H, List.Sublist.refl _, List.Perm.refl _⟩ hl
theorem Ents.dum {env env' : Env} {H H' : Heap} (id : Nat) (h : Ents gl env ((id, .tok ⟨0, 0, 0⟩) :: H) env' H') : Ents gl env H env' H' := fun vv n w0 M HF w a hI hF => h vv n w0 M HF w a (hI.dummy id 0) hF
end Go.Lx
namespace Go.Lx
open Go
set_option linter.unusedSimpArgs false
set_option linter.unusedVariables false
variable {P : Program} {gl : Glob}
theorem newsQ_of {f : FuncId} {args : List LV} {H : Heap} {K Q : LV → Heap → Prop} (h : LCalls P gl f args [] Q) (hk : ∀ r H', Q r H' → K r (H' ++ H)) : LCalls P gl f args H K :=
  LCalls.frame (H := []) (h.mono fun r' H' h1 => hk r' H' h1)
theorem newsQ_T {f : FuncId} {args : List LV} {H : Heap} {F : Env → Env → Heap → Prop} {d : Nat} {env tmp : Env} {Q : LV → Heap → Prop} (h : LCalls P gl f args [] Q) (hk : ∀ r H', Q r H' → F ((d, r) :: env) tmp (H' ++ H)) : LCalls P gl f args H (kvT gl F d env tmp) := newsQ_of h fun r e' hq => ⟨_, _, _, EntsT.refl _ _ _ _, hk r e' hq⟩
theorem newsQ_U {f : FuncId} {args : List LV} {H : Heap} {F : Env → Env → Heap → Prop} {d : Nat} {env tmp : Env} {Q : LV → Heap → Prop} (h : LCalls P gl f args [] Q) (hk : ∀ r H', Q r H' → F env ((d, r) :: tmp) (H' ++ H)) : LCalls P gl f args H (kvU gl F d env tmp) := newsQ_of h fun r e' hq => ⟨_, _, _, EntsT.refl _ _ _ _, hk r e' hq⟩
theorem leVH.le {x : LV} {H H' : Heap} (hl : heapLe H H') : leVH gl x H x H' := fun w0 M HF w v hI hv => ⟨M, MLe.refl M, hv, hl.inv hI⟩
theorem leVs.app : ∀ {xs ys us vs : List LV}, leVs xs ys → leVs us vs → leVs (xs ++ us) (ys ++ vs)
  | [], [], us, vs, _, h => h
  | [], _ :: _, us, vs, h, _ => h.elim
  | _ :: _, [], us, vs, h, _ => h.elim
  | x :: xs, y :: ys, us, vs, h, h' => ⟨h.1, leVs.app h.2 h'⟩
def Sp (cs : List LV) (k : Nat) : List LV := cs ++ List.replicate k .any
theorem take_Sp {cs : List LV} {n : Nat} (k : Nat) (h : cs.length = n) : (Sp cs k).take n = cs := by subst h; simp [Sp]
theorem length_Sp (cs : List LV) (k : Nat) : (Sp cs k).length = cs.length + k := by simp [Sp]
theorem sub1 {α : Type} {a : α} {l : List α} : [a].Sublist (a :: l) := List.Sublist.cons_cons _ (List.nil_sublist _)
theorem leVs_any : ∀ {xs : List LV} {n : Nat}, xs.length = n → leVs xs (List.replicate n .any)
  | [], 0, _ => trivial
  | [], n + 1, h => by simp at h
  | x :: xs, 0, h => by simp at h
  | x :: xs, n + 1, h => ⟨leV.any x, leVs_any (by simpa using h)⟩
theorem leVs.sp {cs zs : List LV} {k : Nat} (h : zs.length = k) : leVs (cs ++ zs) (Sp cs k) := leVs.app (leVs.refl _) (leVs_any h)
theorem leVH.ofNil (id s s' : Nat) : leVH gl (.fsl s 0 []) [] (.msl id s' 0 0 0 0) [(id, .blk 0 [])] := fun w0 M HF w v hI hv => by
  refine ⟨M, MLe.refl M, ?_, hI.empty id 0⟩
  simp only [RV] at hv ⊢
  refine .inr ⟨trivial, trivial, ?_⟩
  rcases hv.2 with ⟨b, o, h1, _⟩ | ⟨ad, h1, _⟩
  · exact ⟨_, h1⟩
  · exact ⟨_, h1⟩
theorem leVH.names {i j : Nat} {e : Ent} (b : Nat) : leVH gl (.ptr i b 0) [(i, e)] (.ptr j b 0) [(j, e)] := fun w0 M HF w v hI hv =>
  ⟨M, MLe.refl M, leV.ptr_name i j b 0 M v hv, Inv.names hI (by simp)⟩
theorem take_Sp_le {cs : List LV} {m k : Nat} (h : m ≤ cs.length) : (Sp cs k).take m = cs.take m := by rw [Sp, List.take_append_of_le_length h]
theorem bin_anyL (op : BinOp) (y : LV) : binQ op .any y = (False, .any) := by cases op <;> rfl
theorem pick_0a0 (c b g1 : Bool) : pickQ (.bool c) (.opt g1 .any) (.bool b) = (c = false, .bool b) := by simp [pickQ, LV.v, LV.g]
theorem pick_00a (c a g2 : Bool) : pickQ (.bool c) (.bool a) (.opt g2 .any) = (c = true, .bool a) := by simp [pickQ, LV.v, LV.g]
end Go.Lx
namespace Go.Lx
open Go
set_option linter.unusedSimpArgs false
set_option linter.unusedVariables false
variable {P : Program} {gl : Glob}
theorem leV.osl {i : Nat} {t : Tok} {s m : Nat} {xs ys : List LV} (h : leVs xs ys) : leV (.osl i t s m xs) (.osl i t s m ys) := fun M v hv => by
  simp only [RV] at hv ⊢
  refine ⟨by rw [← h.length]; exact hv.1, hv.2.imp ?_ id⟩
  rintro ⟨b, o, cap, e, hle, hc, hl⟩
  exact ⟨b, o, cap, e, hle, h.rcs hc, hl⟩
theorem leV.nil_osl (s s' i : Nat) (t : Tok) : leV (.fsl s 0 []) (.osl i t s' 0 []) := (leV.nil_sz s s').trans (leV.fsl_osl i t s' 0 [])
theorem take_rows {α : Type} {f : α → List LV} {w : Nat} (hw : ∀ x, (f x).length = w) (d : α) : ∀ (l : List α) {i : Nat}, i < l.length → ((l.flatMap f).drop (i * w)).take w = f (l.getD i d)
  | [], i, h => by simp at h
  | r :: l, 0, _ => by
    simp only [List.flatMap_cons, Nat.zero_mul, List.drop_zero, List.getD_cons_zero]
    rw [List.take_append_of_le_length (by rw [hw]; exact Nat.le_refl _), List.take_of_length_le (by rw [hw]; exact Nat.le_refl _)]
  | r :: l, i + 1, h => by
    simp only [List.flatMap_cons, List.getD_cons_succ]
    rw [← take_rows hw d l (i := i) (by simpa using h), show (i + 1) * w = (f r).length + i * w by rw [hw, Nat.add_mul]; omega, List.drop_append, List.drop_eq_nil_of_le (by omega), List.nil_append, Nat.add_sub_cancel_left]
theorem drop_rows {α : Type} {f : α → List LV} {w : Nat} (hw : ∀ x, (f x).length = w) : ∀ (l : List α) (i : Nat), (l.flatMap f).drop (i * w) = (l.drop i).flatMap f
  | [], i => by simp
  | r :: l, 0 => by simp
  | r :: l, i + 1 => by
    rw [List.flatMap_cons, List.drop_succ_cons, ← drop_rows hw l i, show (i + 1) * w = (f r).length + i * w by rw [hw, Nat.add_mul]; omega, List.drop_append, List.drop_eq_nil_of_le (by omega), List.nil_append, Nat.add_sub_cancel_left]
theorem taken_rows {α : Type} {f : α → List LV} {w : Nat} (hw : ∀ x, (f x).length = w) (l : List α) (i : Nat) : (l.flatMap f).take (i * w) = (l.take i).flatMap f := by
  have h1 : l.flatMap f = (l.take i).flatMap f ++ (l.drop i).flatMap f := by rw [← List.flatMap_append, List.take_append_drop]
  by_cases h : i ≤ l.length
  · rw [h1]
    refine List.take_left' ?_
    rw [length_rows hw, List.length_take, Nat.min_eq_left h]
  · rw [List.take_of_length_le (by rw [length_rows hw]; exact Nat.mul_le_mul_right w (by omega)), List.take_of_length_le (by omega)]
theorem take_succ_getD {α : Type} (d : α) (l : List α) {i : Nat} (h : i < l.length) : l.take (i + 1) = l.take i ++ [l.getD i d] := by
  rw [List.take_add_one]
  simp [List.getD, h]
theorem getD_memA {α : Type} (d : α) {l : List α} {i : Nat} (h : i < l.length) : l.getD i d ∈ l := by
  simp only [List.getD, List.getElem?_eq_getElem h, Option.getD_some]; exact List.getElem_mem h
theorem leVH.gen {x r : LV} {H H2 H3 H4 H' : Heap} (h : leV x r) (hs : H2.Sublist H) (hl : heapLe H2 H3) (hp : H3.Perm H4) (hn : H4.map Prod.snd = H'.map Prod.snd) : leVH gl x H r H' := fun w0 M HF w v hI hv =>
  ⟨M, MLe.refl M, h M v hv, ((hl.inv (hI.sub (hs.append_right HF))).perm (hp.append_right HF)).names (by simp [hn])⟩
theorem leV.nil_msl (s id s' : Nat) : leV (.fsl s 0 []) (.msl id s' 0 0 0 0) := fun M v hv => by
  simp only [RV] at hv ⊢
  refine .inr ⟨trivial, trivial, ?_⟩
  rcases hv.2 with ⟨b, o, h1, _⟩ | ⟨ad, h1, _⟩
  · exact ⟨_, h1⟩
  · exact ⟨_, h1⟩
theorem pick_perm {H H1 : Heap} {id : Nat} {e : Ent} (hg : getH H id = some e) (h : (delH H id).Perm H1) : H.Perm ((id, e) :: H1) := (getH_perm hg).1.trans (h.cons _)
theorem actsQ_of {f : FuncId} {args : List LV} {H H0 H2 : Heap} {K Q : LV → Heap → Prop} (h : LCalls P gl f args H0 Q) (hp : H.Perm (H0 ++ H2)) (hk : ∀ r H', Q r H' → K r (H' ++ H2)) : LCalls P gl f args H K :=
  LCalls.perm (LCalls.frame (H := H0) (H2 := H2) (h.mono fun r' H' h1 => hk r' H' h1)) hp
theorem actsQ_T {f : FuncId} {args : List LV} {H H0 H2 : Heap} {F : Env → Env → Heap → Prop} {d : Nat} {env tmp : Env} {Q : LV → Heap → Prop} (h : LCalls P gl f args H0 Q) (hp : H.Perm (H0 ++ H2)) (hk : ∀ r H', Q r H' → F ((d, r) :: env) tmp (H' ++ H2)) : LCalls P gl f args H (kvT gl F d env tmp) := actsQ_of h hp fun r e' hq => ⟨_, _, _, EntsT.refl _ _ _ _, hk r e' hq⟩
theorem actsQ_U {f : FuncId} {args : List LV} {H H0 H2 : Heap} {F : Env → Env → Heap → Prop} {d : Nat} {env tmp : Env} {Q : LV → Heap → Prop} (h : LCalls P gl f args H0 Q) (hp : H.Perm (H0 ++ H2)) (hk : ∀ r H', Q r H' → F env ((d, r) :: tmp) (H' ++ H2)) : LCalls P gl f args H (kvU gl F d env tmp) := actsQ_of h hp fun r e' hq => ⟨_, _, _, EntsT.refl _ _ _ _, hk r e' hq⟩
end Go.Lx
namespace Go.Lx
open Go
set_option linter.unusedSimpArgs false
set_option linter.unusedVariables false
variable {P : Program} {gl : Glob}
theorem callG_LU {g : Bool} {f : Nat} {args : List LV} {H : Heap} {F : Env → Env → Heap → Prop} {d : Nat} {env tmp : Env} (h1 : g = true → LCalls P gl f args H (kvU gl F d env tmp)) (h2 : g = false → F env ((d, .any) :: tmp) H) : callG P gl g f args H (kvU gl F d env tmp) := .inr ⟨h1, fun h => ⟨_, _, _, EntsT.refl _ _ _ _, h2 h⟩⟩
theorem un_any (op : UnOp) : unQ op .any = (False, .any) := by cases op <;> rfl
theorem actsP_U {f : FuncId} {args : List LV} {H H0 H2 : Heap} {F : Env → Env → Heap → Prop} {d : Nat} {env tmp : Env} {Q : LV → Heap → Prop} (h : LCalls P gl f args H0 Q) (hp : H.Perm (H0 ++ H2)) (hk : ∀ r H', Q r H' → F env ((d, r) :: tmp) (H2 ++ H')) : LCalls P gl f args H (kvU gl F d env tmp) :=
  LCalls.post_perm (LCalls.perm (LCalls.frame (H := H0) (H2 := H2) (K := fun r' H' => ∃ H1, H' = H1 ++ H2 ∧ Q r' H1) (h.mono fun r' H' hq => ⟨H', rfl, hq⟩)) hp) fun r' H' ⟨H1, e, hq⟩ => by
    subst e
    exact ⟨H2 ++ H1, List.perm_append_comm, _, _, _, EntsT.refl _ _ _ _, hk r' H1 hq⟩
end Go.Lx
namespace Go.Lx
open Go
set_option linter.unusedSimpArgs false
set_option linter.unusedVariables false
variable {P : Program} {gl : Glob}
mutual
/-- no literal of which the block is known to be new -/
def noN : LV → Bool
  | .nsl _ _ _ => false
  | .rp cs _ => noNs cs
  | .agg cs => noNs cs
  | .tup cs => noNs cs
  | .sl _ _ cs => noNs cs
  | .osl _ _ _ _ cs => noNs cs
  | .fsl _ _ cs => noNs cs
  | .clo _ cs => noNs cs
  | .opt _ v => noN v
  | _ => true
def noNs : List LV → Bool
  | [] => true
  | c :: cs => noN c && noNs cs
end
theorem noNs_append : ∀ (xs ys : List LV), noNs (xs ++ ys) = (noNs xs && noNs ys)
  | [], ys => by simp [noNs]
  | x :: xs, ys => by simp [noNs, noNs_append xs ys, Bool.and_assoc]
theorem noNs_flat {α : Type} {f : α → List LV} : ∀ (l : List α), (∀ a ∈ l, noNs (f a) = true) → noNs (l.flatMap f) = true
  | [], _ => rfl
  | a :: l, h => by
    rw [List.flatMap_cons, noNs_append, h a (by simp), noNs_flat l fun b hb => h b (by simp [hb])]
    rfl
def Imm.old (M : Imm) : Imm := ⟨M.f, fun _ => False⟩
mutual
theorem RV.old {M : Imm} : ∀ (x : LV) (v : Value), noN x = true → RV M x v → RV M.old x v
  | .any, _, _, _ => by simp [RV]
  | .int k n, v, _, h => by simpa [RV] using h
  | .bool b, v, _, h => by simpa [RV] using h
  | .str s, v, _, h => by simpa [RV] using h
  | .nil, v, _, h => by simpa [RV] using h
  | .ptr _ b off, v, _, h => by simpa [RV] using h
  | .rp cs off, v, hn, h => by
    simp only [RV, noN] at h hn ⊢
    obtain ⟨b, o, e, hc⟩ := h
    exact ⟨b, o, e, RCs.old cs b o hn hc⟩
  | .agg cs, v, hn, h => by
    simp only [RV, noN] at h hn ⊢
    obtain ⟨vs, e, hc, h1⟩ := h
    exact ⟨vs, e, RVs.old cs vs hn hc, h1⟩
  | .tup cs, v, hn, h => by
    simp only [RV, noN] at h hn ⊢
    obtain ⟨vs, e, hc⟩ := h
    exact ⟨vs, e, RVs.old cs vs hn hc⟩
  | .sl sz n cs, v, hn, h => by
    simp only [RV, noN] at h hn ⊢
    refine ⟨h.1, h.2.imp ?_ id⟩
    rintro ⟨b, o, cap, e, hle, hc⟩
    exact ⟨b, o, cap, e, hle, RCs.old cs b o hn hc⟩
  | .osl _ t sz n cs, v, hn, h => by
    simp only [RV, noN] at h hn ⊢
    refine ⟨h.1, h.2.imp ?_ id⟩
    rintro ⟨b, o, cap, e, hle, hc, hl⟩
    exact ⟨b, o, cap, e, hle, RCs.old cs b o hn hc, hl⟩
  | .fsl sz n cs, v, hn, h => by
    simp only [RV, noN] at h hn ⊢
    refine ⟨h.1, h.2.imp ?_ id⟩
    rintro ⟨b, o, e, hc⟩
    exact ⟨b, o, e, RCs.old cs b o hn hc⟩
  | .raw u, v, _, h => by simpa [RV] using h
  | .msl _ _ b off len cap, v, _, h => by simpa [RV] using h
  | .fn f, v, _, h => by simpa [RV] using h
  | .clo f cs, v, hn, h => by
    simp only [RV, noN] at h hn ⊢
    obtain ⟨vs, e, hc⟩ := h
    exact ⟨vs, e, RVs.old cs vs hn hc⟩
  | .opt g x, v, hn, h => by
    simp only [RV, noN] at h hn ⊢
    exact ⟨fun hg => RV.old x v hn (h.1 hg), h.2⟩
  | .nsl sz n cs, v, hn, h => by simp [noN] at hn
theorem RVs.old {M : Imm} : ∀ (cs : List LV) (vs : List Value), noNs cs = true → RVs M cs vs → RVs M.old cs vs
  | [], vs, _, h => by simpa [RVs] using h
  | c :: cs, vs, hn, h => by
    simp only [RVs, noNs, Bool.and_eq_true] at h hn ⊢
    obtain ⟨u, us, e, hu, hs⟩ := h
    exact ⟨u, us, e, RV.old c u hn.1 hu, RVs.old cs us hn.2 hs⟩
theorem RCs.old {M : Imm} : ∀ (cs : List LV) (b o : Nat), noNs cs = true → RCs M b o cs → RCs M.old b o cs
  | [], _, _, _, _ => by simp [RCs]
  | c :: cs, b, o, hn, h => by
    simp only [RCs, noNs, Bool.and_eq_true] at h hn ⊢
    obtain ⟨⟨u, hu, hv⟩, hs⟩ := h
    exact ⟨⟨u, hu, RV.old c u hn.1 hv⟩, RCs.old cs b (o + 1) hn.2 hs⟩
end
def LV.plain : LV → Bool
  | .int _ _ | .bool _ | .str _ => true
  | _ => false
def LV.plains : LV → Bool
  | .tup vs => vs.all LV.plain
  | x => x.plain
theorem RV.plain {M M' : Imm} {x : LV} {v : Value} (hx : x.plain = true) (h : RV M x v) : RV M' x v := by
  cases x <;> simp only [LV.plain, Bool.false_eq_true] at hx <;> simpa only [RV] using h
theorem RVs.plain {M M' : Imm} : ∀ {xs : List LV} {vs : List Value}, xs.all LV.plain = true → RVs M xs vs → RVs M' xs vs
  | [], vs, _, h => by simpa only [RVs] using h
  | x :: xs, vs, hx, h => by
    simp only [List.all_cons, Bool.and_eq_true] at hx
    simp only [RVs] at h ⊢
    obtain ⟨u, us, e, h1, h2⟩ := h
    exact ⟨u, us, e, RV.plain hx.1 h1, RVs.plain hx.2 h2⟩
theorem RV.plains {M M' : Imm} {x : LV} {v : Value} (hx : x.plains = true) (h : RV M x v) : RV M' x v := by
  cases x with
  | tup vs =>
    simp only [LV.plains] at hx
    simp only [RV] at h ⊢
    obtain ⟨us, e, h1⟩ := h
    exact ⟨us, e, RVs.plain hx h1⟩
  | _ => exact RV.plain (by simpa only [LV.plains] using hx) h
def Lent (gl : Glob) (H : Heap) (args : List LV) (H' : Heap) (args' : List LV) : Prop := ∀ w0 M HF w vs, Inv gl w0 M (H ++ HF) w → RVs M args vs → ∃ M1, Inv gl w0 M1 (H' ++ HF) w ∧ RVs M1 args' vs
theorem Lent.pub {H : Heap} {args : List LV} (id : Nat) {b : Nat} {cs : List LV} (hH : getH H id = some (.blk b cs)) (ho : (pubAs id b cs args).1) : Lent gl H args (delH H id) (pubAs id b cs args).2 := fun w0 M HF w vs hI hv => by
  obtain ⟨p1, _⟩ := getH_perm hH
  obtain ⟨M', hM, hI', hc⟩ := (hI.perm (p1.append_right HF)).publish
  exact ⟨M', hI', pubAs_sound hM hc hv ho⟩
theorem LCalls.lend {f : FuncId} {args args' : List LV} {H H' : Heap} {K : LV → Heap → Prop} {r : LV} (hg : ∀ g, gl g = none) (hl : Lent gl H args H' args') (hn : noNs args' = true) (hp : Pure P gl f args' r) (hr : r.plains = true) (hk : K r H) : LCalls P gl f args H K := fun w0 M HF w vs hI hv => by
  obtain ⟨M1, h1, h2⟩ := hl w0 M HF w vs hI hv
  have h3 : Inv gl w M1.old ([] ++ []) w := ⟨RowKit.Below.refl _ _, fun b o v hv => h1.imm b o v hv, (fun e he => by simp at he), List.Pairwise.nil, (fun e he => by simp at he), (fun g cs hgc => by rw [hg] at hgc; cases hgc), fun b hb => False.elim hb, (fun e he => by simp at he)⟩
  refine (hp w M1.old [] w vs h3 (RVs.old _ _ hn h2)).mono ?_
  rintro e w' ⟨M', v, r', H1, h4, h5, h6, h7, h8, h9⟩
  subst h8
  exact ⟨M, v, r', H, MLe.refl M, h5, RV.plains hr h6, hI.same h7.below, hk⟩
theorem lend_U {f : FuncId} {args args' : List LV} {H H' : Heap} {F : Env → Env → Heap → Prop} {d : Nat} {env tmp : Env} {r : LV} (hg : ∀ g, gl g = none) (hl : Lent gl H args H' args') (hn : noNs args' = true) (hp : Pure P gl f args' r) (hr : r.plains = true) (hk : F env ((d, r) :: tmp) H) : LCalls P gl f args H (kvU gl F d env tmp) :=
  LCalls.lend hg hl hn hp hr ⟨_, _, _, EntsT.refl _ _ _ _, hk⟩
end Go.Lx
