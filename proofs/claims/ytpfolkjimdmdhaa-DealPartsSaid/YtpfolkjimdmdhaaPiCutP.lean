/- Merging and cutting as plain facts. No condition. -/
import Derived.Test.YtpfolkjimdmdhaaPiB
namespace Go.Proofs.Ytpfolkjimdmdhaa
open Go.RowKit Sy
set_option linter.unusedVariables false
set_option linter.unusedSimpArgs false
theorem vol_ge : ∀ {l : List (Int × Int)}, (∀ q ∈ l, 0 ≤ q.2) → ∀ q ∈ l, q.2 ≤ Pc.vol l
  | [], _, q, hq => by cases hq
  | x :: s, hl, q, hq => by
    have h0 : ∀ (m : List (Int × Int)), (∀ q ∈ m, 0 ≤ q.2) → 0 ≤ Pc.vol m := by
      intro m
      induction m with
      | nil => intro _; simp [Pc.vol]
      | cons y t ih => intro hs; have := ih fun q hq => hs q (List.mem_cons_of_mem _ hq); have := hs y (List.mem_cons_self); simp only [Pc.vol]; omega
    have h1 := hl x (List.mem_cons_self)
    have h2 := h0 s fun q hq => hl q (List.mem_cons_of_mem _ hq)
    simp only [Pc.vol]
    rcases List.mem_cons.1 hq with rfl | hq
    · omega
    · have := vol_ge (fun z hz => hl z (List.mem_cons_of_mem _ hz)) q hq; omega
theorem join_each {l : List (Int × Int)} (h : Pc.Sane l) : ∀ q ∈ Pc.join l, 0 ≤ q.2 ∧ q.2 ≤ 100000000000 := by
  intro q hq
  have h1 := Pc.join_canon fun p hp => (h.each p hp).1
  have h2 := fun q hq => Int.le_of_lt (h1.pos q hq)
  have h3 := vol_ge h2 q hq
  rw [Pc.join_vol fun p hp => (h.each p hp).1] at h3
  have := h.vol
  exact ⟨h2 q hq, by omega⟩
theorem heads_sane {l : List (Int × Int)} (h : Pc.Sane l) {k : Int} (hk : 0 ≤ k) : Pc.Sane (Pc.heads l k) := ⟨by rw [Pc.heads_length]; exact h.len, Pc.heads_each l h.each k hk⟩
theorem tails_sane {l : List (Int × Int)} (h : Pc.Sane l) {k : Int} (hk : 0 ≤ k) : Pc.Sane (Pc.tails l k) := ⟨by rw [Pc.tails_length]; exact h.len, Pc.tails_each l h.each k hk⟩
end Go.Proofs.Ytpfolkjimdmdhaa
