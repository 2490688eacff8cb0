/- kauditmake: a source of numbers. -/
import Derived.Test.YtfheeghkajihoaaDoorGl
import Derived.Test.YtfheeghkajihoaaDoorLxS
namespace Go.Proofs.YtfheeghkajihoaaDoor
open Go Go.Lx
set_option linter.unusedSimpArgs false
set_option linter.unusedVariables false
set_option maxRecDepth 100000
set_option maxHeartbeats 1000000

def Ms (l : List Int) : LV := .sl 1 l.length (l.map (LV.int .i64))
/-- a source, of which 'a' numbers were taken -/
def SB (b : Nat) (l : List Int) (a : Int) : Ent := .blk b [Ms l, .int .i64 a]
def okS (l : List Int) (a : Int) : Prop := l.length ≤ 200000000000000 ∧ (∀ n ∈ l, -9223372036854775808 ≤ n ∧ n ≤ 9223372036854775807) ∧ 0 ≤ a ∧ a ≤ 1000000000000
def nX (l : List Int) (a : Int) : Int := if a + 1 ≤ l.length then l.getD a.toNat 0 else (a + 1) * 7
def nV (l : List Int) (a n : Int) : Int := if (nX l a).tmod n < 0 then (nX l a).tmod n + n else (nX l a).tmod n
theorem nV_range (l : List Int) (a : Int) {n : Int} (hn : 1 ≤ n) : 0 ≤ nV l a n ∧ nV l a n < n := by
  unfold nV
  have h1 := Int.tmod_lt_of_pos (nX l a) (by omega : 0 < n)
  have h2 : -n < (nX l a).tmod n := Int.lt_tmod_of_pos (nX l a) (by omega)
  split <;> omega
theorem getD_memS {l : List Int} {i : Nat} (h : i < l.length) : l.getD i 0 ∈ l := by
  simp only [List.getD, List.getElem?_eq_getElem h, Option.getD_some]; exact List.getElem_mem h
theorem new_ (l : List Int) : NewsE Tryd.prog gl 10 [Ms l] 3000 fun r e => ∃ b, r = .ptr 3000 b 0 ∧ e = SB b l 0 := by
  refine NewsE.name (i := 3) (Q := fun r e => ∃ b, r = .ptr 3 b 0 ∧ e = SB b l 0) ?_ fun r e ⟨b, h2, h3⟩ => ⟨.ptr 3000 b 0, by subst h2; exact leV.ptr_name _ _ _ _, b, rfl, h3⟩
  refine fn_viewT Tryd.func10 t10 Tryd.ntmps10 (by simp) ?_
  unfold c10 r10 Ms
  simp (disch := first | omega | (simp only [List.length_cons, List.length_nil]; first | done | omega)) only [go_sem]
  intro b
  exact ⟨_, [(3, SB b l 0)], leVH.names b, SB b l 0, rfl, b, rfl, rfl⟩
theorem n_ (id b : Nat) (l : List Int) (a n : Int) (hc : okS l a) (hn : 1 ≤ n ∧ n ≤ 1000000000) : ActsE Tryd.prog gl 11 [.ptr id b 0, .int .i64 n] id (SB b l a) fun r e => r = .int .i64 (nV l a n) ∧ e = SB b l (a + 1) := by
  refine fn_viewT Tryd.func11 t11 Tryd.ntmps11 (by simp) ?_
  obtain ⟨h1, h2, h3, h4⟩ := hc
  unfold c11 r11 SB Ms
  repeat' (first | (simp (disch := first | omega | (simp only [List.length_cons, List.length_nil]; first | done | omega)) only [go_sem, getD_int, Nat.mul_one, List.length_map, Int.add_sub_cancel]) | (refine allI (fun b => ?_)) | (refine allT (fun τ => ?_)) | (refine brP (fun h => ?_) (fun h => ?_) <;> (try simp only [zgx, zbx] at h)))
  · omega
  · refine ⟨by omega, by omega, by omega, ?_⟩
    have e : nX l a = l.getD a.toNat 0 := by rw [nX, if_pos h]
    rw [← e]
    have hx : -n < (nX l a).tmod n ∧ (nX l a).tmod n < n := ⟨Int.lt_tmod_of_pos _ (by omega), Int.tmod_lt_of_pos _ (by omega)⟩
    repeat' (first | (simp (disch := first | omega | (simp only [List.length_cons, List.length_nil]; first | done | omega)) only [go_sem]) | (refine allI (fun b => ?_)) | (refine allT (fun τ => ?_)) | (refine brP (fun h => ?_) (fun h => ?_) <;> (try simp only [zgx, zbx] at h)))
    · exact viewE_end (leV.refl _) (List.Sublist.refl _) ⟨by rw [nV, if_pos h], rfl⟩
    · exact viewE_end (leV.refl _) (List.Sublist.refl _) ⟨by rw [nV, if_neg (by omega)], rfl⟩
  · refine ⟨by omega, ?_⟩
    have e : nX l a = (a + 1) * 7 := by rw [nX, if_neg (by omega)]
    rw [← e]
    have hx : -n < (nX l a).tmod n ∧ (nX l a).tmod n < n := ⟨Int.lt_tmod_of_pos _ (by omega), Int.tmod_lt_of_pos _ (by omega)⟩
    repeat' (first | (simp (disch := first | omega | (simp only [List.length_cons, List.length_nil]; first | done | omega)) only [go_sem]) | (refine allI (fun b => ?_)) | (refine allT (fun τ => ?_)) | (refine brP (fun h => ?_) (fun h => ?_) <;> (try simp only [zgx, zbx] at h)))
    · exact viewE_end (leV.refl _) (List.Sublist.refl _) ⟨by rw [nV, if_pos h], rfl⟩
    · exact viewE_end (leV.refl _) (List.Sublist.refl _) ⟨by rw [nV, if_neg (by omega)], rfl⟩
theorem range_ (id b : Nat) (l : List Int) (a x y : Int) (hc : okS l a) (hx : -1000000000 ≤ x ∧ x ≤ y ∧ y ≤ 100000000) (hd : y - x < 1000000000) : ActsE Tryd.prog gl 18 [.ptr id b 0, .int .i64 x, .int .i64 y] id (SB b l a) fun r e => r = .int .i64 (x + nV l a (y - x + 1)) ∧ e = SB b l (a + 1) := by
  refine fn_viewT Tryd.func18 t18 Tryd.ntmps18 (by simp) ?_
  have hr := nV_range l a (n := y - x + 1) (by omega)
  unfold c18 r18
  simp (disch := first | omega | (simp only [List.length_cons, List.length_nil]; first | done | omega)) only [go_sem]
  first | refine actsE_U (n_ id b l a (y - x + 1) hc (by omega)) (by first | rfl | simp only [getH, if_true]) ?_ | refine actsE_T (n_ id b l a (y - x + 1) hc (by omega)) (by first | rfl | simp only [getH, if_true]) ?_ | refine actsE_N (n_ id b l a (y - x + 1) hc (by omega)) (by first | rfl | simp only [getH, if_true]) ?_ | refine actsE_of (n_ id b l a (y - x + 1) hc (by omega)) (by first | rfl | simp only [getH, if_true]) ?_
  rintro r e ⟨rfl, rfl⟩
  simp (disch := first | omega | (simp only [List.length_cons, List.length_nil]; first | done | omega)) only [go_sem]
  exact viewE_end (leV.refl _) (List.Sublist.refl _) ⟨rfl, rfl⟩
def pickV (l : List Int) (a : Int) (ns : List Int) : Int := ns.getD (nV l a ns.length).toNat 0
theorem pickV_mem (l : List Int) (a : Int) (ns : List Int) (h0 : 0 < ns.length) : pickV l a ns ∈ ns := by
  have := nV_range l a (n := ns.length) (by omega)
  exact getD_memS (by omega)
theorem pick_ (id b : Nat) (l : List Int) (a : Int) (ns : List Int) (hc : okS l a) (h0 : 0 < ns.length) (hn : ns.length ≤ 1000) : ActsE Tryd.prog gl 25 [.ptr id b 0, .fsl 1 ns.length (ns.map (LV.int .i64))] id (SB b l a) fun r e => r = .int .i64 (pickV l a ns) ∧ e = SB b l (a + 1) := by
  refine fn_viewT Tryd.func25 t25 Tryd.ntmps25 (by simp) ?_
  have hr := nV_range l a (n := ns.length) (by omega)
  unfold c25 r25
  simp (disch := first | omega | (simp only [List.length_cons, List.length_nil]; first | done | omega)) only [go_sem]
  first | refine actsE_U (n_ id b l a ns.length hc (by omega)) (by first | rfl | simp only [getH, if_true]) ?_ | refine actsE_T (n_ id b l a ns.length hc (by omega)) (by first | rfl | simp only [getH, if_true]) ?_ | refine actsE_N (n_ id b l a ns.length hc (by omega)) (by first | rfl | simp only [getH, if_true]) ?_ | refine actsE_of (n_ id b l a ns.length hc (by omega)) (by first | rfl | simp only [getH, if_true]) ?_
  rintro r e ⟨rfl, rfl⟩
  simp (disch := first | omega | (simp only [List.length_cons, List.length_nil]; first | done | omega)) only [go_sem, getD_int, Nat.mul_one, List.length_map]
  exact ⟨by omega, by omega, viewE_end (leV.refl _) (List.Sublist.refl _) ⟨rfl, rfl⟩⟩
end Go.Proofs.YtfheeghkajihoaaDoor
