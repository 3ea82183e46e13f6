/- Streams litre by litre; sums over streams; the order of batches. Plain Lean. No condition. -/
import Derived.Test.YtpfolkjimdmdhaaDlQ
import Derived.Test.YtpfolkjimdmdhaaDlD
namespace Go.Proofs.Ytpfolkjimdmdhaa
open Go.RowKit Sy
set_option linter.unusedVariables false
set_option linter.unusedSimpArgs false
namespace Dl
def who (r : List Int) (t : Nat) : Nat := (nx r (cs r t) r.length).toNat
def pick (r : List Int) (x : Nat) : List Int → Nat → List Int
  | [], _ => []
  | b :: L, t => if who r t = x then b :: pick r x L (t + 1) else pick r x L (t + 1)
theorem pick_app (r : List Int) (x : Nat) : ∀ (a b : List Int) (t : Nat), pick r x (a ++ b) t = pick r x a t ++ pick r x b (t + a.length)
  | [], b, t => by simp [pick]
  | c :: a, b, t => by
    have ih := pick_app r x a b (t + 1)
    simp only [List.cons_append, pick, ih, List.length_cons]
    rw [show t + 1 + a.length = t + (a.length + 1) by omega]
    split <;> simp
theorem cs_who {r : List Int} (h : Rates r) (t x : Nat) : rt (cs r (t + 1)) x = rt (cs r t) x + (if who r t = x then 1 else 0) := by
  obtain ⟨j, h1, h2, _, h4, _⟩ := cs_step h t
  have hw : who r t = j := by unfold who; rw [h1]; rfl
  rw [h4, rt_set (by rw [cs_len]; exact h2), hw]
  by_cases e : x = j
  · subst e; simp
  · rw [if_neg e, if_neg (fun h => e h.symm)]; omega
theorem pick_len {r : List Int} (h : Rates r) (x : Nat) : ∀ (L : List Int) (t : Nat), ((pick r x L t).length : Int) = rt (cs r (t + L.length)) x - rt (cs r t) x
  | [], t => by simp [pick]
  | b :: L, t => by
    have ih := pick_len h x L (t + 1)
    have hw := cs_who h t x
    simp only [pick, List.length_cons]
    rw [show t + (L.length + 1) = t + 1 + L.length by omega]
    split
    · rename_i e
      rw [if_pos e] at hw
      simp only [List.length_cons]; omega
    · rename_i e
      rw [if_neg e] at hw
      omega
theorem pick_rep {r : List Int} (h : Rates r) (x : Nat) (b : Int) : ∀ (v t : Nat), pick r x (List.replicate v b) t = List.replicate (rt (cs r (t + v)) x - rt (cs r t) x).toNat b := by
  intro v t
  have h1 := pick_len h x (List.replicate v b) t
  rw [List.length_replicate] at h1
  have h2 : ∀ c ∈ pick r x (List.replicate v b) t, c = b := by
    have : ∀ (L : List Int) (t : Nat), (∀ c ∈ L, c = b) → ∀ c ∈ pick r x L t, c = b := by
      intro L
      induction L with
      | nil => intro t _ c hc; simp [pick] at hc
      | cons a L ih =>
        intro t ha c hc
        simp only [pick] at hc
        split at hc
        · rcases List.mem_cons.1 hc with rfl | hc
          · exact ha _ (by simp)
          · exact ih _ (fun y hy => ha y (by simp [hy])) c hc
        · exact ih _ (fun y hy => ha y (by simp [hy])) c hc
    exact this _ t (fun c hc => List.eq_of_mem_replicate hc)
  rw [List.eq_replicate_iff]
  exact ⟨by omega, h2⟩
theorem strm_litres {r : List Int} (h : Rates r) (x : Nat) : ∀ (ps : List (Int × Int)) (t : Nat), Pc.litres (strm r x ps t) = pick r x (Pc.litres ps) t
  | [], t => by simp [strm, Pc.litres, pick]
  | p :: ps, t => by
    rw [strm, Pc.litres_cons, Pc.litres_cons, pick_app, pick_rep h, List.length_replicate, strm_litres h x ps]
theorem strm_nn (r : List Int) (i : Nat) : ∀ (l : List (Int × Int)) (n : Nat), ∀ q ∈ strm r i l n, 0 ≤ q.2
  | [], _, q, hq => by simp [strm] at hq
  | p :: t, n, q, hq => by
    simp only [strm, List.mem_cons] at hq
    rcases hq with rfl | hq
    · have := cs_mono r n i p.2.toNat
      simp only; omega
    · exact strm_nn r i t _ q hq
theorem heads_nn : ∀ {ps : List (Int × Int)}, (∀ p ∈ ps, 0 ≤ p.2) → ∀ k : Int, 0 ≤ k → ∀ p ∈ Pc.heads ps k, 0 ≤ p.2
  | [], _, k, _, p, hp => by simp [Pc.heads] at hp
  | q :: r, h, k, hk, p, hp => by
    have hq := h q (by simp)
    simp only [Pc.heads, List.mem_cons] at hp
    rcases hp with rfl | hp
    · simp only; omega
    · exact heads_nn (fun x hx => h x (by simp [hx])) _ (by omega) p hp
/-- The first litres of a stream are the stream of the first litres. -/
theorem deal_part {r : List Int} (h : Rates r) (x : Nat) {f : List (Int × Int)} (hf : ∀ p ∈ f, 0 ≤ p.2) (k : Nat) (hk : k ≤ (Pc.litres f).length) :
    Pc.join (Pc.heads (Pc.join (strm r x f 0)) (rt (cs r k) x)) = Pc.join (strm r x (Pc.join (Pc.heads f k)) 0) := by
  have hb := rt_bd r k x
  obtain ⟨n, hn⟩ : ∃ n : Nat, rt (cs r k) x = (n : Int) := ⟨(rt (cs r k) x).toNat, by omega⟩
  have hB : ∀ p ∈ Pc.join (strm r x f 0), 0 ≤ p.2 := fun p hp => by have := (Pc.join_canon (strm_nn r x f 0)).pos p hp; omega
  have hH : ∀ p ∈ Pc.heads (Pc.join (strm r x f 0)) (rt (cs r k) x), 0 ≤ p.2 := heads_nn hB _ (by omega)
  have hF : ∀ p ∈ Pc.heads f k, 0 ≤ p.2 := heads_nn hf _ (by omega)
  refine Pc.canon_unique (Pc.join_canon hH) (Pc.join_canon (strm_nn r x _ 0)) ?_
  rw [Pc.join_litres hH, hn, Pc.heads_litres _ hB, Pc.join_litres (strm_nn r x f 0), Pc.join_litres (strm_nn r x _ 0), strm_litres h, strm_litres h, Pc.join_litres hF, Pc.heads_litres _ hf]
  have h1 : Pc.litres f = (Pc.litres f).take k ++ (Pc.litres f).drop k := (List.take_append_drop _ _).symm
  have h2 := pick_len h x ((Pc.litres f).take k) 0
  rw [Nat.zero_add, List.length_take, Nat.min_eq_left hk, hn] at h2
  have h3 := rt_bd r 0 x
  conv => lhs; rw [h1, pick_app]
  exact List.take_left' (by omega)
/-- The streams' parts of a batch add up. -/
theorem rt_range {C : List Int} {n : Nat} (h : C.length = n) : (List.range n).map (rt C) = C := by
  apply List.ext_getElem?
  intro i
  rw [List.getElem?_map]
  by_cases hi : i < n
  · rw [List.getElem?_range hi, get_rt (by omega)]; rfl
  · rw [List.getElem?_eq_none (l := List.range n) (by simpa using Nat.le_of_not_lt hi), List.getElem?_eq_none (by omega)]; rfl
theorem tot_add (f g : Nat → Int) : ∀ L : List Nat, tot (L.map fun i => f i + g i) = tot (L.map f) + tot (L.map g)
  | [] => rfl
  | x :: L => by simp [tot, tot_add f g L]; omega
theorem tot_sub (f g : Nat → Int) : ∀ L : List Nat, tot (L.map fun i => f i - g i) = tot (L.map f) - tot (L.map g)
  | [] => rfl
  | x :: L => by simp [tot, tot_sub f g L]; omega
theorem tot_zero : ∀ L : List Nat, tot (L.map fun _ => 0) = 0
  | [] => rfl
  | x :: L => by simp [tot, tot_zero L]
theorem of_strm {r : List Int} (h : Rates r) (b : Int) : ∀ (ps : List (Int × Int)) (t : Nat), (∀ p ∈ ps, 0 ≤ p.2) → tot ((List.range r.length).map fun i => Pc.of_ (strm r i ps t) b) = Pc.of_ ps b
  | [], t, _ => by simp only [strm, Pc.of_]; exact tot_zero _
  | p :: ps, t, hp => by
    have ih := of_strm h b ps (t + p.2.toNat) (fun q hq => hp q (by simp [hq]))
    have h0 := hp p (by simp)
    simp only [strm, Pc.of_]
    by_cases e : p.1 = b
    · simp only [if_pos e]
      rw [tot_add, ih, tot_sub, rt_range (cs_len r _), rt_range (cs_len r _), cs_tot h, cs_tot h]
      omega
    · simp only [if_neg e]
      rw [tot_add, ih, tot_zero]
theorem of_count (b : Int) : ∀ {l : List (Int × Int)}, (∀ p ∈ l, 0 ≤ p.2) → Pc.of_ l b = ((Pc.litres l).count b : Int)
  | [], _ => by simp [Pc.of_, Pc.litres]
  | p :: r, h => by
    have ih := of_count b (l := r) fun q hq => h q (List.mem_cons_of_mem _ hq)
    have hp := h p (List.mem_cons_self)
    rw [Pc.litres_cons, List.count_append, Pc.of_, ih]
    by_cases he : p.1 = b
    · rw [if_pos he, he, List.count_replicate_self]; omega
    · have h0 : (List.replicate p.2.toNat p.1).count b = 0 := List.count_eq_zero.2 (by intro hm; exact he (List.mem_replicate.1 hm).2.symm)
      rw [if_neg he, h0]; omega
theorem of_join (b : Int) {l : List (Int × Int)} (h : ∀ p ∈ l, 0 ≤ p.2) : Pc.of_ (Pc.join l) b = Pc.of_ l b := by
  rw [of_count b h, of_count b (fun p hp => by have := (Pc.join_canon h).pos p hp; omega), Pc.join_litres h]
theorem of_dealt {r : List Int} (h : Rates r) (b : Int) {ps : List (Int × Int)} (hp : ∀ p ∈ ps, 0 ≤ p.2) : tot ((dealt r ps).map fun l => Pc.of_ l b) = Pc.of_ ps b := by
  rw [← of_strm h b ps 0 hp]
  unfold dealt
  rw [List.map_map]
  congr 1
  apply List.map_congr_left
  intro i _
  exact of_join b (strm_nn r i ps 0)
/-- Each stream gets its rate. -/
theorem vol_dealt {r : List Int} (h : Rates r) {f : List (Int × Int)} (hf : ∀ p ∈ f, 0 ≤ p.2) (hv : Pc.vol f = tot r) (i : Nat) : Pc.vol (Pc.join (strm r i f 0)) = rt r i := by
  rw [Pc.join_vol (strm_nn r i f 0), ← Pc.litres_length _ (strm_nn r i f 0), strm_litres h, pick_len h]
  have h1 := Pc.litres_length f hf
  rw [Nat.zero_add, show (Pc.litres f).length = (tot r).toNat by omega, cs_all h]
  have := rt_bd r 0 i
  omega
/-- The batches of a stream come in their order. -/
theorem join_sub (ps : List (Int × Int)) : ∀ out : List (Int × Int), ((ps.foldl Pc.jstep out).map Prod.fst).Sublist (out.map Prod.fst ++ ps.map Prod.fst) := by
  induction ps with
  | nil => intro out; simp
  | cons p r ih =>
    intro out
    have h1 : ((Pc.jstep out p).map Prod.fst).Sublist (out.map Prod.fst ++ [p.1]) := by
      unfold Pc.jstep
      split
      · exact List.sublist_append_left _ _
      · split
        · rename_i q hq
          split
          · have hs := Pc.last_split hq
            have : (out.dropLast ++ [(q.1, q.2 + p.2)]).map Prod.fst = out.map Prod.fst := by
              conv => rhs; rw [hs]
              simp
            rw [this]
            exact List.sublist_append_left _ _
          · simp
        · simp
    have h2 := ih (Pc.jstep out p)
    simp only [List.foldl_cons, List.map_cons]
    refine h2.trans ?_
    have h3 := h1.append (List.Sublist.refl (r.map Prod.fst))
    simpa using h3
theorem strm_fst (r : List Int) (i : Nat) : ∀ (l : List (Int × Int)) (n : Nat), (strm r i l n).map Prod.fst = l.map Prod.fst
  | [], _ => rfl
  | p :: t, n => by simp [strm, strm_fst r i t]
theorem dealt_sub (r : List Int) (i : Nat) (f : List (Int × Int)) : ((Pc.join (strm r i f 0)).map Prod.fst).Sublist (f.map Prod.fst) := by
  have := join_sub (strm r i f 0) []
  rw [strm_fst] at this
  simpa [Pc.join] using this
end Dl
end Go.Proofs.Ytpfolkjimdmdhaa
