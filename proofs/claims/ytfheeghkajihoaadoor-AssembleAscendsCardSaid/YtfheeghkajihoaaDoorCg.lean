/- Layer 22: what feeding keeps (plain). -/
import Derived.Test.YtfheeghkajihoaaDoorBn
namespace Go.Proofs.YtfheeghkajihoaaDoor
open Go Go.Lx
set_option linter.unusedSimpArgs false
set_option linter.unusedVariables false
set_option maxRecDepth 100000
set_option maxHeartbeats 4000000

theorem gaps_step {edge : Int} {s s' : St} (hed : edge ≤ 1073741824) (h : stepS edge s = some s') (hn : 1 ≤ s.1.nx) (hg : okGs s.1.gs) : okGs s'.1.gs ∧ s'.1.gs.length ≤ s.1.gs.length + 1 := by
  have hu := stepS_up h
  unfold stepS at h
  split at h
  · cases h
  split at h
  · split at h
    · cases h
    · cases h; exact ⟨hg, Nat.le_succ _⟩
  split at h
  · cases h; exact ⟨hg, Nat.le_succ _⟩
  split at h
  · cases h
  · cases h
    dsimp only at hu ⊢
    exact ⟨gapS_ok hg (by omega) (by omega), gapS_len _ _ _⟩
theorem okA_step {edge : Int} {s s' : St} {m : Nat} (hed : edge ≤ 1073741824) (h : stepS edge s = some s') (ok : okA s.1 m) : okA s'.1 m := by
  obtain ⟨⟨k1, k2, k3, k4⟩, k5, _⟩ := stepS_keep h
  have hu := stepS_up h
  have hn := ok.nx
  obtain ⟨g1, g2⟩ := gaps_step hed h hn.1 ok.gs
  have hlg := ok.lG
  exact ⟨Nat.le_trans k5.length_le ok.op, fun e he => ok.ev e (k5.mem he), by rw [k4]; exact ok.lL, by rw [k4]; exact ok.ls, g1, by omega, by omega, by rw [k2]; exact ok.st, by rw [k3]; exact ok.la⟩
theorem Runs.ok {edge : Int} {s s' : St} {m : Nat} (hed : edge ≤ 1073741824) (h : Runs edge s s') : okA s.1 m → okA s'.1 m := by
  induction h with
  | stop _ => exact id
  | step h _ ih => exact fun ok => ih (okA_step hed h ok)
theorem okA_settle {edge : Int} {s : St} {m : Nat} (hed : edge ≤ 1073741824) (ok : okA s.1 m) : okA (settleS edge s).1 m := by
  have h := Runs.ok hed (runs_ex edge _ s (Int.self_le_toNat _)) ok
  unfold settleS
  exact ⟨h.op, h.ev, Nat.le_trans (keep_le _ _) h.lL, fun x hx => h.ls x (List.mem_filter.1 hx).1, h.gs, h.nx, h.lG, h.st, h.la⟩
theorem okA_feedR {s : St} {m : Nat} {r : Rc} (ok : okA s.1 m) (hr : r.ps.length ≤ 1000000) : okA (feedR s r).1 (m + 1) := by
  have h := okA_take ok hr
  unfold feedR
  split
  · exact okA_settle (by have := h.la; omega) h
  · exact h
end Go.Proofs.YtfheeghkajihoaaDoor
