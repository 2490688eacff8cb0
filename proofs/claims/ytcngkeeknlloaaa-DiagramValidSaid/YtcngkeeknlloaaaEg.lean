/- Layer 16: cells of nodes. -/
import Derived.Test.YtcngkeeknlloaaaEe
import Derived.Test.YtcngkeeknlloaaaLxP
namespace Go.Proofs.Ytcngkeeknlloaaa
open Go Go.Lx
set_option linter.unusedSimpArgs false
set_option linter.unusedVariables false
set_option maxRecDepth 100000
set_option maxHeartbeats 4000000

theorem four (d : Dg) (ans : List Bool) (h1 : d.ns.length ≤ 1000000) (h2 : d.tb.length ≤ 1000000) (hw : ∀ b ∈ d.ns, brW b) (hr : (Lit.int .i64 d.r).wf = true) (ha : ans.length ≤ 281474976710656) : Pure Try.prog gl 18 [.agg (DgC d)] (.bool (validP d)) ∧ Pure Try.prog gl 23 [.agg (DgC d)] (.bool (validP d)) ∧ Pure Try.prog gl 19 [.agg (DgC d), BlS ans] (.int .i64 (decS d ans)) ∧ Pure Try.prog gl 20 [.agg (DgC d), BlS ans] (.int .i64 (decS d ans)) :=
  ⟨valid d h1 h2 hw, rvalid d h1 h2, decide2_ d ans h1 h2 hw hr ha, rdecide d ans h1 h2 hw hr ha⟩
/-- the cells before a node, the node, and those behind it -/
theorem rows3 (ns : List Br) (k m : Nat) (h : k < ns.length) : ∃ P R : List LV, P.length = k * 3 ∧ Sp (ns.flatMap BrC) m = P ++ (BrC (ns.getD k br0) ++ R) ∧ ∀ x, Sp ((ns.set k x).flatMap BrC) m = P ++ (BrC x ++ R) := by
  refine ⟨(ns.take k).flatMap BrC, (ns.drop (k + 1)).flatMap BrC ++ List.replicate m .any, by rw [len_br, List.length_take, Nat.min_eq_left (by omega)], ?_, fun x => ?_⟩
  · have e : ns = ns.take k ++ ns.getD k br0 :: ns.drop (k + 1) := by
      conv => lhs; rw [← List.take_append_drop k ns, List.drop_eq_getElem_cons h]
      simp [List.getD, h]
    conv => lhs; rw [e]
    rw [Sp, List.flatMap_append, List.flatMap_cons]
    simp only [List.append_assoc]
  · rw [List.set_eq_take_append_cons_drop, if_pos h]
    simp [Sp]
theorem nodeAt (ns : List Br) (k m : Nat) (h : k < ns.length) : List.take 3 (List.drop (k * 3) (Sp (ns.flatMap BrC) m)) = BrC (ns.getD k br0) := by
  obtain ⟨P, R, e1, e2, e3⟩ := rows3 ns k m h
  rw [e2, List.drop_left' e1]
  rfl
theorem set0 (ns : List Br) (k m : Nat) (v : Int) (h : k < ns.length) : List.take (k * 3) (Sp (ns.flatMap BrC) m) ++ [LV.int .i64 v] ++ List.drop (k * 3 + 1) (Sp (ns.flatMap BrC) m) = Sp ((ns.set k ⟨v, (ns.getD k br0).n, (ns.getD k br0).y⟩).flatMap BrC) m := by
  obtain ⟨P, R, e1, e2, e3⟩ := rows3 ns k m h
  rw [e2, e3, ← e1]
  simp [List.take_append, List.drop_append, BrC_eq]
theorem set1 (ns : List Br) (k m : Nat) (v : Int) (h : k < ns.length) : List.take (k * 3 + 1) (Sp (ns.flatMap BrC) m) ++ [LV.int .i64 v] ++ List.drop (k * 3 + 1 + 1) (Sp (ns.flatMap BrC) m) = Sp ((ns.set k ⟨(ns.getD k br0).a, v, (ns.getD k br0).y⟩).flatMap BrC) m := by
  obtain ⟨P, R, e1, e2, e3⟩ := rows3 ns k m h
  rw [e2, e3, ← e1]
  simp [List.take_append, List.drop_append, BrC_eq, Nat.add_assoc, List.take_of_length_le, List.drop_eq_nil_of_le]
theorem set2 (ns : List Br) (k m : Nat) (v : Int) (h : k < ns.length) : List.take (k * 3 + 2) (Sp (ns.flatMap BrC) m) ++ [LV.int .i64 v] ++ List.drop (k * 3 + 2 + 1) (Sp (ns.flatMap BrC) m) = Sp ((ns.set k ⟨(ns.getD k br0).a, (ns.getD k br0).n, v⟩).flatMap BrC) m := by
  obtain ⟨P, R, e1, e2, e3⟩ := rows3 ns k m h
  rw [e2, e3, ← e1]
  simp [List.take_append, List.drop_append, BrC_eq, Nat.add_assoc, List.take_of_length_le, List.drop_eq_nil_of_le]
theorem swap0 (ns : List Br) (k m : Nat) (h : k < ns.length) : List.take (k * 3) (LV.int .i64 (ns.getD k br0).a :: LV.int .i64 (ns.getD k br0).n :: LV.int .i64 (ns.getD k br0).y :: List.drop 3 (Sp (ns.flatMap BrC) m)) ++ [LV.int .i64 (ns.getD 0 br0).a, LV.int .i64 (ns.getD 0 br0).n, LV.int .i64 (ns.getD 0 br0).y] ++ List.drop (k * 3) (List.drop 3 (Sp (ns.flatMap BrC) m)) = Sp (((ns.set 0 (ns.getD k br0)).set k (ns.getD 0 br0)).flatMap BrC) m := by
  obtain ⟨P, R, e1, e2, e3⟩ := rows3 ns 0 m (by omega)
  have hP : P = [] := List.length_eq_zero_iff.1 (by omega)
  subst hP
  have e4 := e3 (ns.getD k br0)
  obtain ⟨P', R', g1, g2, g3⟩ := rows3 (ns.set 0 (ns.getD k br0)) k m (by rw [List.length_set]; exact h)
  rw [g3]
  have hd : List.drop 3 (Sp (ns.flatMap BrC) m) = R := by rw [e2]; rfl
  have ht : (LV.int .i64 (ns.getD k br0).a :: LV.int .i64 (ns.getD k br0).n :: LV.int .i64 (ns.getD k br0).y :: R) = Sp ((ns.set 0 (ns.getD k br0)).flatMap BrC) m := by rw [e4]; rfl
  have hr : List.drop (k * 3) R = List.drop (k * 3 + 3) (Sp ((ns.set 0 (ns.getD k br0)).flatMap BrC) m) := by rw [← ht]; rfl
  rw [hd, hr, ht, g2, ← g1]
  simp [List.take_append, List.drop_append, BrC_eq]
theorem set_w {ns : List Br} {k : Nat} {x : Br} (hx : brW x) (h : ∀ b ∈ ns, brW b) : ∀ b ∈ ns.set k x, brW b := fun b hb => by
  rcases List.mem_or_eq_of_mem_set hb with hb | hb
  · exact h b hb
  · rw [hb]; exact hx
theorem rows_at {B : Nat} {rows : List (List LV)} (h : ∀ r ∈ rows, FitsL B [.int .i64, .int .i64, .int .i64, .str, .int .i64, .int .i64, .str, .int .i64] r) : ∃ ts : List At, rows.flatten = ts.flatMap AtC ∧ ts.length = rows.length := by
  obtain ⟨l, h1, _⟩ := rows_map (f := AtC) (Q := fun _ => True) (rows := rows) fun r hr => by
    have := h r hr
    simp only [FitsL] at this
    obtain ⟨x0, _, rfl, h0, x1, _, rfl, h1, x2, _, rfl, h2, x3, _, rfl, h3, x4, _, rfl, h4, x5, _, rfl, h5, x6, _, rfl, h6, x7, _, rfl, h7, rfl⟩ := this
    simp only [Fits] at h0 h1 h2 h3 h4 h5 h6 h7
    obtain ⟨n0, rfl, _⟩ := h0
    obtain ⟨n1, rfl, _⟩ := h1
    obtain ⟨n2, rfl, _⟩ := h2
    obtain ⟨s3, rfl, _⟩ := h3
    obtain ⟨n4, rfl, _⟩ := h4
    obtain ⟨n5, rfl, _⟩ := h5
    obtain ⟨s6, rfl, _⟩ := h6
    obtain ⟨n7, rfl, _⟩ := h7
    exact ⟨⟨⟨n0, n1, n2, s3, n4⟩, n5, s6, n7⟩, trivial, rfl⟩
  subst h1
  exact ⟨l, by simp [List.flatMap], by simp⟩
theorem rows_br {B : Nat} {rows : List (List LV)} (h : ∀ r ∈ rows, FitsL B [.int .i64, .int .i64, .int .i64] r) : ∃ ns : List Br, rows.flatten = ns.flatMap BrC ∧ ns.length = rows.length ∧ ∀ b ∈ ns, brW b := by
  obtain ⟨l, h1, h2⟩ := rows_map (f := BrC) (Q := brW) (rows := rows) fun r hr => by
    have := h r hr
    simp only [FitsL] at this
    obtain ⟨x0, _, rfl, h0, x1, _, rfl, h1, x2, _, rfl, h2, rfl⟩ := this
    simp only [Fits] at h0 h1 h2
    obtain ⟨n0, rfl, w0⟩ := h0
    obtain ⟨n1, rfl, w1⟩ := h1
    obtain ⟨n2, rfl, w2⟩ := h2
    exact ⟨⟨n0, n1, n2⟩, ⟨w0, w1, w2⟩, rfl⟩
  subst h1
  exact ⟨l, by simp [List.flatMap], by simp, h2⟩
end Go.Proofs.Ytcngkeeknlloaaa
