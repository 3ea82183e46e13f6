/- Pushing back what has left. Plain Lean. -/
import Derived.Test.YtchjindkjbpbnaaPiPushP
import Derived.Test.YtchjindkjbpbnaaPiCutP
namespace Go.Proofs.Ytchjindkjbpbnaa
set_option linter.unusedVariables false
set_option linter.unusedSimpArgs false
theorem mem_litres {l : List (Int × Int)} {p : Int × Int} (h : p ∈ l) (hp : 0 < p.2) : p.1 ∈ Pc.litres l := by
  unfold Pc.litres
  refine List.mem_flatMap.2 ⟨p, h, List.mem_replicate.2 ⟨by omega, rfl⟩⟩
theorem litres_mem {l : List (Int × Int)} {x : Int} (h : x ∈ Pc.litres l) : ∃ q ∈ l, q.1 = x := by
  unfold Pc.litres at h
  obtain ⟨q, hq, hx⟩ := List.mem_flatMap.1 h
  exact ⟨q, hq, (List.mem_replicate.1 hx).2.symm⟩
/-- What a cut gives. -/
structure CutOk (ps : List (Int × Int)) (k : Nat) (a b : List (Int × Int)) : Prop where
  ca : Pc.Canon a
  cb : Pc.Canon b
  la : Pc.litres a = (Pc.litres ps).take k
  lb : Pc.litres b = (Pc.litres ps).drop k
  na : a.length ≤ ps.length
  nb : b.length ≤ ps.length
theorem cut_ok {ps : List (Int × Int)} (h : Pc.Sane ps) (k : Nat) : CutOk ps k (Pc.join (Pc.heads ps k)) (Pc.join (Pc.tails ps k)) := by
  have h1 := (heads_sane h (Int.natCast_nonneg k)).each
  have h2 := (tails_sane h (Int.natCast_nonneg k)).each
  have h3 := fun p hp => (h.each p hp).1
  refine ⟨Pc.join_canon fun p hp => (h1 p hp).1, Pc.join_canon fun p hp => (h2 p hp).1, ?_, ?_, ?_, ?_⟩
  · rw [Pc.join_litres fun p hp => (h1 p hp).1, Pc.heads_litres ps h3]
  · rw [Pc.join_litres fun p hp => (h2 p hp).1, Pc.tails_litres ps h3]
  · have := Pc.join_length (Pc.heads ps k); rw [Pc.heads_length] at this; exact this
  · have := Pc.join_length (Pc.tails ps k); rw [Pc.tails_length] at this; exact this
theorem vol_litres {a : List (Int × Int)} (h : Pc.Canon a) : Pc.vol a = ((Pc.litres a).length : Int) := (Pc.litres_length a fun p hp => Int.le_of_lt (h.pos p hp)).symm
/-- Canonical pieces of litres that are some of a valid fill's or two: valid. -/
theorem vd_part {a f g : List (Int × Int)} (hf : Pc.Vd f) (hg : Pc.Vd g) (hc : Pc.Canon a) (hl : ∀ x ∈ Pc.litres a, x ∈ Pc.litres f ∨ x ∈ Pc.litres g) (hn : a.length ≤ 200) (hv : (Pc.litres a).length ≤ 1000000) : Pc.Vd a := by
  refine Pc.vd_of_canon hc (fun p hp => ?_) hn (by rw [vol_litres hc]; omega)
  rcases hl p.1 (mem_litres hp (hc.pos p hp)) with h | h
  · obtain ⟨q, hq, he⟩ := litres_mem h; rw [← he]; exact (hf.each q hq).1
  · obtain ⟨q, hq, he⟩ := litres_mem h; rw [← he]; exact (hg.each q hq).1
/-- What a push of small fills gives: next, out. -/
structure PushOk (f g : List (Int × Int)) (back : Bool) (n o : List (Int × Int)) : Prop where
  eq : Pc.push f g back = (n, o, 0)
  vn : Pc.Vd n
  vo : Pc.Vd o
  ln : Pc.litres n = if back then (Pc.litres f ++ Pc.litres g).drop (Pc.litres g).length else (Pc.litres g ++ Pc.litres f).take (Pc.litres f).length
  lo : Pc.litres o = if back then (Pc.litres f ++ Pc.litres g).take (Pc.litres g).length else (Pc.litres g ++ Pc.litres f).drop (Pc.litres f).length
  nn : n.length ≤ f.length + g.length
  no : o.length ≤ f.length + g.length
theorem push_small {f g : List (Int × Int)} (hf : Pc.Vd f) (hg : Pc.Vd g) (hs : f.length + g.length ≤ 200) (back : Bool) : ∃ n o, PushOk f g back n o := by
  have vf := vol_litres hf.canon
  have vg := vol_litres hg.canon
  have bf := hf.vol
  have bg := hg.vol
  cases back with
  | true =>
    have hc := cut_ok (sane_app hf hg) (Pc.litres g).length
    rw [← vg] at hc
    have la := hc.la
    have lb := hc.lb
    rw [Pc.litres_append] at la lb
    have na := hc.na
    have nb := hc.nb
    rw [List.length_append] at na nb
    have hsh : Pc.shift f g true = (Pc.join (Pc.tails (f ++ g) (Pc.vol g)), Pc.join (Pc.heads (f ++ g) (Pc.vol g))) := rfl
    refine ⟨_, _, ?_, ?_, ?_, lb, la, nb, na⟩
    · rw [push_ok (Pc.valid_t hf) (Pc.valid_t hg) (by rw [hsh]; dsimp only; exact ⟨by omega, by omega⟩), hsh]
    · refine vd_part hf hg hc.cb (fun x hx => ?_) (by omega) (by rw [lb, List.length_drop, List.length_append]; omega)
      rw [lb] at hx; exact List.mem_append.1 (List.mem_of_mem_drop hx)
    · refine vd_part hf hg hc.ca (fun x hx => ?_) (by omega) (by rw [la, List.length_take, List.length_append]; omega)
      rw [la] at hx; exact List.mem_append.1 (List.mem_of_mem_take hx)
  | false =>
    have hc := cut_ok (sane_app hg hf) (Pc.litres f).length
    rw [← vf] at hc
    have la := hc.la
    have lb := hc.lb
    rw [Pc.litres_append] at la lb
    have na := hc.na
    have nb := hc.nb
    rw [List.length_append] at na nb
    have hsh : Pc.shift f g false = (Pc.join (Pc.heads (g ++ f) (Pc.vol f)), Pc.join (Pc.tails (g ++ f) (Pc.vol f))) := rfl
    refine ⟨_, _, ?_, ?_, ?_, la, lb, by omega, by omega⟩
    · rw [push_ok (Pc.valid_t hf) (Pc.valid_t hg) (by rw [hsh]; dsimp only; exact ⟨by omega, by omega⟩), hsh]
    · refine vd_part hg hf hc.ca (fun x hx => ?_) (by omega) (by rw [la, List.length_take, List.length_append]; omega)
      rw [la] at hx; exact List.mem_append.1 (List.mem_of_mem_take hx)
    · refine vd_part hg hf hc.cb (fun x hx => ?_) (by omega) (by rw [lb, List.length_drop, List.length_append]; omega)
      rw [lb] at hx; exact List.mem_append.1 (List.mem_of_mem_drop hx)
theorem push_undo {f g n o : List (Int × Int)} {back : Bool} (hf : Pc.Vd f) (hg : Pc.Vd g) (hs : f.length + g.length ≤ 100) (h : PushOk f g back n o) : Pc.push n o (!back) = (f, g, 0) := by
  obtain ⟨n2, o2, h2⟩ := push_small h.vn h.vo (by have := h.nn; have := h.no; omega) (!back)
  have e1 : n2 = f := by
    refine Pc.canon_unique h2.vn.canon hf.canon ?_
    rw [h2.ln, h.ln, h.lo]
    cases back <;> simp
  have e2 : o2 = g := by
    refine Pc.canon_unique h2.vo.canon hg.canon ?_
    rw [h2.lo, h.ln, h.lo]
    cases back <;> simp
  rw [h2.eq, e1, e2]
end Go.Proofs.Ytchjindkjbpbnaa
