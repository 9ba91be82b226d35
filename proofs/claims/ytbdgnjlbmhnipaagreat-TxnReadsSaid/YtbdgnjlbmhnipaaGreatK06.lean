/- Texts TrS, NdD, NdE, NdF, NdG, NdH, joined. -/
import Derived.Test.YtbdgnjlbmhnipaaGreatK05
/- Trees, as plain data: nodes that are split, put together, dealt anew; how high a tree is; ways. -/
set_option linter.unusedVariables false
set_option linter.unusedSimpArgs false
namespace Go.Proofs.YtbdgnjlbmhnipaaGreat
open Go.Proofs.YtbdgnjlbmhnipaaGreat.SL

/-! ### Splits -/
theorem cut_spec (d : Nd) : ∀ (m k : Nat), k ≤ d.cut m k ∧ d.cut m k ≤ k + m ∧ (d.cut m k = k + m ∨ d.size / 2 ≤ (d.front (d.cut m k)).size) ∧ (d.cut m k = k ∨ (d.front (d.cut m k - 1)).size < d.size / 2)
  | 0, k => ⟨Nat.le_refl _, Nat.le_refl _, .inl rfl, .inl rfl⟩
  | m + 1, k => by
    rw [Nd.cut]
    by_cases q : (d.front k).size < d.size / 2
    · rw [if_pos q]
      obtain ⟨h1, h2, h3, h4⟩ := cut_spec d m (k + 1)
      refine ⟨by omega, by omega, h3.imp (fun e => by omega) id, .inr ?_⟩
      rcases h4 with h4 | h4
      · rw [h4]; simpa using q
      · exact h4
    · rw [if_neg q]
      exact ⟨Nat.le_refl _, by omega, .inr (by omega), .inl rfl⟩
theorem front_size {d : Nd} (p : d.plain) {k : Nat} (hk : k + d.up ≤ d.keys.length) : (d.front k).size = if d.leaf then 1 + 9 * k + sumL (d.vals.take k) else 1 + 8 * k + 2 * (k + 1) := by
  cases hl : d.leaf
  · have := kidsLen p hl
    simp only [Nd.up, hl, Bool.false_eq_true, if_false] at hk
    simp only [Nd.front, Nd.size, hl, Bool.false_eq_true, if_false, List.length_take]
    omega
  · simp only [Nd.up, hl, if_true] at hk
    simp only [Nd.front, Nd.size, hl, if_true, List.length_take]
    omega
theorem back_size {d : Nd} (p : d.plain) {k : Nat} (hk : k + d.up ≤ d.keys.length) : (d.back k).size = if d.leaf then 1 + 9 * (d.keys.length - k) + sumL (d.vals.drop k) else 1 + 8 * (d.keys.length - k - 1) + 2 * (d.keys.length - k) := by
  cases hl : d.leaf
  · have := kidsLen p hl
    simp only [Nd.up, hl, Bool.false_eq_true, if_false] at hk
    simp only [Nd.back, Nd.size, Nd.up, hl, Bool.false_eq_true, if_false, List.length_drop]
    omega
  · simp only [Nd.up, hl, if_true] at hk
    simp only [Nd.back, Nd.size, Nd.up, hl, if_true, List.length_drop]
    omega
theorem sumL_split (l : List (List UInt8)) (k : Nat) : sumL l = sumL (l.take k) + sumL (l.drop k) := by rw [← sumL_append, List.take_append_drop]
theorem sumL_one {l : List (List UInt8)} (h : ∀ v ∈ l, v.length ≤ 40) (k : Nat) : sumL (l.take (k + 1)) ≤ sumL (l.take k) + 40 := by
  rcases Nat.lt_or_ge k l.length with q | q
  · rw [sumL_take_succ q]
    have : (l.getD k []).length ≤ 40 := by simp only [List.getD, List.getElem?_eq_getElem q, Option.getD_some]; exact h _ (List.getElem_mem q)
    omega
  · rw [List.take_of_length_le (by omega), List.take_of_length_le (by omega)]; omega
theorem at_spec {d : Nd} (p : d.plain) (h1 : 240 < d.size) (h2 : d.size ≤ 340) : 1 ≤ d.keys.length - 1 - d.up ∧ 1 ≤ d.at' ∧ d.at' + d.up < d.keys.length ∧ (d.front d.at').size ≤ 240 ∧ (d.back d.at').size ≤ 240 := by
  have hs := sumL_le p.val
  have hup : d.up ≤ 1 := by unfold Nd.up; split <;> omega
  have hbig : 3 ≤ d.keys.length - 1 - d.up := by
    cases hl : d.leaf
    · have := kidsLen p hl
      simp only [Nd.size, hl, Bool.false_eq_true, if_false, Nd.up] at *; omega
    · have := valsLen p hl
      simp only [Nd.size, hl, if_true, Nd.up] at *; omega
  obtain ⟨c1, c2, c3, c4⟩ := cut_spec d (d.keys.length - 1 - d.up - 1) 1
  rw [show d.cut (d.keys.length - 1 - d.up - 1) 1 = d.at' from rfl] at c1 c2 c3 c4
  generalize d.at' = k at *
  have hk : k + d.up < d.keys.length := by omega
  refine ⟨by omega, c1, hk, ?_⟩
  have f0 := front_size p (show k + d.up ≤ d.keys.length by omega)
  have f1 := front_size p (show (k - 1) + d.up ≤ d.keys.length by omega)
  have b0 := back_size p (show k + d.up ≤ d.keys.length by omega)
  have s0 := sumL_split d.vals k
  have s1 := sumL_one p.val (k - 1)
  have s2 := sumL_le (l := d.vals.drop k) (fun v hv => p.val v (List.mem_of_mem_drop hv))
  rw [show k - 1 + 1 = k by omega] at s1
  cases hl : d.leaf
  · have := kidsLen p hl
    simp only [Nd.size, hl, Bool.false_eq_true, if_false, Nd.up] at *
    constructor <;> omega
  · have := valsLen p hl
    have hd : (d.vals.drop k).length = d.keys.length - k := by simp; omega
    rw [hd] at s2
    have hz : k = 1 → sumL (d.vals.take k) ≤ 40 := fun e => by
      subst e; simp only [Nat.sub_self, List.take_zero, sumL_nil] at s1; omega
    simp only [Nd.size, hl, if_true, Nd.up] at *
    constructor <;> omega

theorem sep_mid : ∀ {ka kb : List Nat} {sa sb : List Sub} {mid : Nat}, sa.length = ka.length + 1 → Rise (ka ++ mid :: kb) → Sep (ka ++ mid :: kb) (sa ++ sb) → Sep ka sa ∧ (∀ x ∈ Sub.all sa, x.1 < mid) ∧ (∀ y ∈ Sub.all sb, mid ≤ y.1) ∧ Sep kb sb
  | [], kb, [s], sb, mid, _, _, ⟨h1, h2, h3⟩ => ⟨trivial, fun x hx => h1 x (by simpa [Sub.all] using hx), h2, h3⟩
  | k :: ka, kb, s :: sa, sb, mid, hl, hr, ⟨h1, h2, h3⟩ => by
    obtain ⟨r1, r2⟩ := List.pairwise_cons.1 hr
    obtain ⟨i1, i2, i3, i4⟩ := sep_mid (ka := ka) (kb := kb) (sa := sa) (sb := sb) (mid := mid) (by simpa using hl) r2 h3
    refine ⟨⟨h1, fun y hy => h2 y (by show y ∈ Sub.all (sa ++ sb); rw [Sub.all_append]; exact List.mem_append_left _ hy), i1⟩, ?_, i3, i4⟩
    intro x hx
    rw [Sub.all_cons] at hx
    rcases List.mem_append.1 hx with hx | hx
    · have := h1 x hx
      have := r1 mid (by simp)
      omega
    · exact i2 x hx
  | [], _, [], _, _, h, _, _ => by simp at h
  | [], _, _ :: _ :: _, _, _, h, _, _ => by simp at h
  | _ :: _, _, [], _, _, h, _, _ => by simp at h
theorem sep_join : ∀ {ka kb : List Nat} {sa sb : List Sub} {mid : Nat}, Sep ka sa → (∀ x ∈ Sub.all sa, x.1 < mid) → (∀ y ∈ Sub.all sb, mid ≤ y.1) → Sep kb sb → (∀ s ∈ sa, s.es ≠ []) → Sep (ka ++ mid :: kb) (sa ++ sb)
  | [], kb, [s], sb, mid, _, h2, h3, h4, _ => ⟨fun x hx => h2 x (by simpa [Sub.all] using hx), h3, h4⟩
  | k :: ka, kb, s :: sa, sb, mid, ⟨a1, a2, a3⟩, h2, h3, h4, hn => by
    have hsa := a3.len
    refine ⟨a1, ?_, sep_join a3 (fun x hx => h2 x (by rw [Sub.all_cons]; exact List.mem_append_right _ hx)) h3 h4 (fun s hs => hn s (by simp [hs]))⟩
    intro y hy0
    have hy1 : y ∈ Sub.all (sa ++ sb) := hy0
    rw [Sub.all_append] at hy1
    rcases List.mem_append.1 hy1 with hy | hy
    · exact a2 y hy
    · cases sa with
      | nil => simp at hsa
      | cons s' sa =>
        obtain ⟨x, hx⟩ := List.exists_mem_of_ne_nil _ (hn s' (by simp))
        have h5 := a2 x (by rw [Sub.all_cons]; exact List.mem_append_left _ hx)
        have h6 := h2 x (by rw [Sub.all_cons, Sub.all_cons]; exact List.mem_append_right _ (List.mem_append_left _ hx))
        have h7 := h3 y hy
        omega
  | [], _, [], _, _, h, _, _, _, _ => h.elim
  | [], _, _ :: _ :: _, _, _, h, _, _, _, _ => h.elim
  | _ :: _, _, [], _, _, h, _, _, _, _ => h.elim

theorem rise_take_drop {l : List Nat} (h : Rise l) {k : Nat} (hk : k < l.length) : (∀ x ∈ l.take k, x < l[k]) ∧ ∀ x ∈ l.drop k, l[k] ≤ x := by
  constructor
  · intro x hx
    obtain ⟨i, hi, rfl⟩ := List.getElem_of_mem hx
    simp only [List.length_take] at hi
    simpa using List.pairwise_iff_getElem.1 h i k (by omega) hk (by omega)
  · intro x hx
    obtain ⟨i, hi, rfl⟩ := List.getElem_of_mem hx
    simp only [List.length_drop] at hi
    rw [List.getElem_drop]
    rcases Nat.eq_zero_or_pos i with rfl | q
    · exact Nat.le_refl _
    · exact Nat.le_of_lt (List.pairwise_iff_getElem.1 h k (k + i) hk (by omega) (by omega))
theorem split_nt {g : Int → Nd → Prop} : ∀ {h : Nat} {d : Nd} {es : List Ent} {ps : List Int}, NT g h d es ps → ∀ {k : Nat}, 1 ≤ k → k + d.up < d.keys.length → ∃ e1 p1 e2 p2 mid, d.keys[k]? = some mid ∧ NT g h (d.front k) e1 p1 ∧ NT g h (d.back k) e2 p2 ∧ es = e1 ++ e2 ∧ ps = p1 ++ p2 ∧
    (∀ x ∈ e1, x.1 < mid) ∧ (∀ x ∈ e2, mid ≤ x.1) ∧ (d.front k).keys ≠ [] ∧ (d.back k).keys ≠ []
  | 0, d, es, ps, ⟨hl, p, e0, e00⟩, k, h1, h2 => by
    subst e0 e00
    have hv := valsLen p hl
    simp only [Nd.up, hl, if_true, Nat.add_zero] at h2
    have hrt := rise_take_drop p.rise h2
    have ef : (d.front k) = ⟨true, d.keys.take k, d.vals.take k, []⟩ := by simp [Nd.front, hl]
    have eb : (d.back k) = ⟨true, d.keys.drop k, d.vals.drop k, []⟩ := by simp [Nd.back, Nd.up, hl]
    have z1 : (d.keys.take k).zip (d.vals.take k) = d.ents.take k := (List.take_zipWith (f := Prod.mk)).symm
    have z2 : (d.keys.drop k).zip (d.vals.drop k) = d.ents.drop k := (List.drop_zipWith (f := Prod.mk)).symm
    refine ⟨(d.front k).ents, [], (d.back k).ents, [], d.keys[k], by simp [h2], ?_, ?_, ?_, rfl, ?_, ?_, ?_, ?_⟩
    · rw [ef]
      exact ⟨rfl, ⟨p.rise.sublist (List.take_sublist _ _), fun x hx => p.key x (List.mem_of_mem_take hx), fun x hx => p.val x (List.mem_of_mem_take hx), by simp, by simp [hv], rfl⟩, rfl, rfl⟩
    · rw [eb]
      exact ⟨rfl, ⟨p.rise.sublist (List.drop_sublist _ _), fun x hx => p.key x (List.mem_of_mem_drop hx), fun x hx => p.val x (List.mem_of_mem_drop hx), by simp, by simp [hv], rfl⟩, rfl, rfl⟩
    · rw [ef, eb]; show d.ents = (d.keys.take k).zip (d.vals.take k) ++ (d.keys.drop k).zip (d.vals.drop k); rw [z1, z2, List.take_append_drop]
    · intro x hx; rw [ef] at hx; exact hrt.1 _ (zip_fst_mem hx)
    · intro x hx; rw [eb] at hx; exact hrt.2 _ (zip_fst_mem hx)
    · rw [ef]; intro q; have := congrArg List.length q; simp only [List.length_take, List.length_nil] at this; omega
    · rw [eb]; intro q; have := congrArg List.length q; simp only [List.length_drop, List.length_nil] at this; omega
  | h + 1, d, es, ps, ⟨hl, p, ss, f, e0, e00, sp⟩, k, h1, h2 => by
    subst e0 e00
    have hk := kidsLen p hl
    simp only [Nd.up, hl, Bool.false_eq_true, if_false] at h2
    have hk2 : k < d.keys.length := by omega
    have ef : (d.front k) = ⟨false, d.keys.take k, [], d.kids.take (k + 1)⟩ := by simp [Nd.front, hl]
    have eb : (d.back k) = ⟨false, d.keys.drop (k + 1), [], d.kids.drop (k + 1)⟩ := by simp [Nd.back, Nd.up, hl]
    have f2 := f
    rw [← List.take_append_drop (k + 1) d.kids] at f2
    obtain ⟨sa, sb, rfl, fa, fb⟩ := f2.split
    have hr := p.rise
    rw [take_cons_drop hk2] at hr sp
    have hsa : sa.length = (d.keys.take k).length + 1 := by rw [← fa.len]; simp; omega
    obtain ⟨s1, s2, s3, s4⟩ := sep_mid hsa hr sp
    refine ⟨Sub.all sa, Sub.pages sa, Sub.all sb, Sub.pages sb, d.keys[k], by simp [hk2], ?_, ?_, Sub.all_append _ _, Sub.pages_append _ _, s2, s3, ?_, ?_⟩
    · rw [ef]
      exact nt_of (d := ⟨false, d.keys.take k, [], d.kids.take (k + 1)⟩) rfl rfl fa s1 (fun x hx => p.key x (List.mem_of_mem_take hx)) (fun x hx => p.kid x (List.mem_of_mem_take hx))
    · rw [eb]
      exact nt_of (d := ⟨false, d.keys.drop (k + 1), [], d.kids.drop (k + 1)⟩) rfl rfl fb s4 (fun x hx => p.key x (List.mem_of_mem_drop hx)) (fun x hx => p.kid x (List.mem_of_mem_drop hx))
    · rw [ef]; intro q; have := congrArg List.length q; simp only [List.length_take, List.length_nil] at this; omega
    · rw [eb]; intro q; have := congrArg List.length q; simp only [List.length_drop, List.length_nil] at this; omega

/-! ### Two nodes as one -/
theorem both_nt {g : Int → Nd → Prop} : ∀ {h : Nat} {a b : Nd} {e1 e2 : List Ent} {p1 p2 : List Int} {mid : Nat}, NT g h a e1 p1 → NT g h b e2 p2 → (∀ x ∈ e1, x.1 < mid) → (∀ x ∈ e2, mid ≤ x.1) → mid < 18446744073709551616 →
    NT g h (a.both mid b) (e1 ++ e2) (p1 ++ p2) ∧ (a.both mid b).size ≤ a.size + b.size + 7
  | 0, a, b, _, _, _, _, mid, ⟨la, pa, rfl, rfl⟩, ⟨lb, pb, rfl, rfl⟩, h1, h2, _ => by
    have va := valsLen pa la
    have vb := valsLen pb lb
    have ka := pa.kids; have kb := pb.kids
    simp only [la, lb, if_true] at ka kb
    have e : a.both mid b = ⟨true, a.keys ++ b.keys, a.vals ++ b.vals, a.kids ++ b.kids⟩ := by simp [Nd.both, la]
    rw [e]
    refine ⟨⟨rfl, ⟨List.pairwise_append.2 ⟨pa.rise, pb.rise, ?_⟩, ?_, ?_, ?_, by simp [va, vb], by simp [ka, kb]⟩, ?_, rfl⟩, ?_⟩
    · intro x hx y hy
      obtain ⟨v, hv⟩ := (mem_ents pa la).1 hx
      obtain ⟨w, hw⟩ := (mem_ents pb lb).1 hy
      have := h1 _ hv; have := h2 _ hw; omega
    · intro k hk; exact (List.mem_append.1 hk).elim (pa.key k) (pb.key k)
    · intro k hk; exact (List.mem_append.1 hk).elim (pa.val k) (pb.val k)
    · intro k hk; exact (List.mem_append.1 hk).elim (pa.kid k) (pb.kid k)
    · exact (List.zip_append (by rw [va])).symm
    · simp only [Nd.size, la, lb, if_true, List.length_append, sumL_append]; omega
  | h + 1, a, b, _, _, _, _, mid, ⟨la, pa, sa, fa, rfl, rfl, qa⟩, ⟨lb, pb, sb, fb, rfl, rfl, qb⟩, h1, h2, hm => by
    have ka := kidsLen pa la
    have kb := kidsLen pb lb
    have e : a.both mid b = ⟨false, a.keys ++ mid :: b.keys, a.vals ++ b.vals, a.kids ++ b.kids⟩ := by simp [Nd.both, la]
    rw [e, ← Sub.all_append, ← Sub.pages_append]
    refine ⟨nt_of (d := ⟨false, a.keys ++ mid :: b.keys, a.vals ++ b.vals, a.kids ++ b.kids⟩) rfl (by simp [noVals pa la, noVals pb lb]) (fa.append fb) (sep_join qa h1 h2 qb (some_of fa)) ?_ ?_, ?_⟩
    · intro k hk
      simp only [List.mem_append, List.mem_cons] at hk
      rcases hk with hk | rfl | hk
      · exact pa.key k hk
      · exact hm
      · exact pb.key k hk
    · intro k hk; exact (List.mem_append.1 hk).elim (pa.kid k) (pb.kid k)
    · simp only [Nd.size, la, lb, Bool.false_eq_true, if_false, List.length_append, List.length_cons]; omega

/-! ### Two holes side by side -/
structure Two (g : Int → Nd → Prop) (h : Nat) (d : Nd) (j : Nat) (sl sr : List Sub) : Prop where
  good : d.good
  leaf : d.leaf = false
  jlt : j < d.keys.length
  ol : All2 (OnP g h) (d.kids.take j) sl
  orr : All2 (OnP g h) (d.kids.drop (j + 2)) sr
  spl : SepL (d.keys.take j) sl
  spr : SepR (d.keys.drop (j + 1)) sr
  lr : ∀ k ∈ d.keys.take j, ∀ y ∈ Sub.all sr, k ≤ y.1
/-- Between the keys beside both. -/
def Fits2 (d : Nd) (j : Nat) (x : Nat) : Prop := (∀ k ∈ d.keys.take j, k ≤ x) ∧ ∀ k ∈ d.keys.drop (j + 1), x < k
theorem all2_snoc {α β : Type} {R : α → β → Prop} {l : List α} {a : α} {m : List β} (h : All2 R (l ++ [a]) m) : ∃ m' b, m = m' ++ [b] ∧ All2 R l m' ∧ R a b := by
  obtain ⟨m1, m2, rfl, h1, h2⟩ := h.split
  obtain ⟨b, m', rfl, h3, h4⟩ := all2_cons.1 h2
  rw [all2_nil.1 h4]
  exact ⟨m1, b, rfl, h1, h3⟩
theorem two_left {g : Int → Nd → Prop} {h : Nat} {d : Nd} {j : Nat} {sl sr : List Sub} (m : Mid g h d (j + 1) sl sr) : ∃ k sl' s, sl = sl' ++ [s] ∧ d.kids[j]? = some k ∧ OnP g h k s ∧ Two g h d j sl' sr ∧ (∀ x ∈ s.es, (∀ k ∈ d.keys.take j, k ≤ x.1) ∧ x.1 < d.keys.getD j 0) := by
  have p := m.good.p
  have hk := kidsLen p m.leaf
  have hj : j < d.keys.length := by have := m.ile; omega
  have o := m.ol
  have et : d.kids.take (j + 1) = d.kids.take j ++ [d.kids[j]] := by rw [List.take_succ_eq_append_getElem (by omega)]
  have ek : d.keys.take (j + 1) = d.keys.take j ++ [d.keys[j]] := by rw [List.take_succ_eq_append_getElem hj]
  rw [et] at o
  obtain ⟨sl', s, rfl, o1, o2⟩ := all2_snoc o
  have sp := m.spl
  have hlen : (d.keys.take j).length = sl'.length := by rw [← o1.len]; simp; omega
  rw [ek, sepL_app hlen] at sp
  obtain ⟨s1, s2, s3, s4, _⟩ := sp
  refine ⟨d.kids[j], sl', s, rfl, by simp [show j < d.kids.length by omega], o2, ⟨m.good, m.leaf, hj, o1, m.orr, s1, m.spr, fun k hk y hy => m.lr k (by rw [ek]; exact List.mem_append_left _ hk) y hy⟩, fun x hx => ⟨fun k hk => s2 k hk x (by simp [Sub.all, hx]), ?_⟩⟩
  have := s3 x hx
  simpa [List.getD, hj] using this
theorem two_right {g : Int → Nd → Prop} {h : Nat} {d : Nd} {j : Nat} {sl sr : List Sub} (m : Mid g h d j sl sr) (hj : j < d.keys.length) : ∃ k s sr', sr = s :: sr' ∧ d.kids[j + 1]? = some k ∧ OnP g h k s ∧ Two g h d j sl sr' ∧ (∀ x ∈ s.es, Fits2 d j x.1 ∧ d.keys.getD j 0 ≤ x.1) := by
  have p := m.good.p
  have hk := kidsLen p m.leaf
  have o := m.orr
  have hj2 : j + 1 < d.kids.length := by omega
  rw [List.drop_eq_getElem_cons hj2] at o
  obtain ⟨s, sr', rfl, o1, o2⟩ := all2_cons.1 o
  have sp := m.spr
  have ek : d.keys.drop j = d.keys[j] :: d.keys.drop (j + 1) := List.drop_eq_getElem_cons hj
  rw [ek] at sp
  obtain ⟨s1, s2⟩ := sp
  obtain ⟨s3, s4⟩ := sep_hole.1 s2
  refine ⟨d.kids[j + 1], s, sr', rfl, by simp [hj2], o1, ⟨m.good, m.leaf, hj, m.ol, o2, m.spl, s3, fun k hk y hy => m.lr k hk y (by simp [Sub.all_cons, hy])⟩, fun x hx => ⟨⟨fun k hk => m.lr k hk x (by simp [Sub.all_cons, hx]), ?_⟩, ?_⟩⟩
  · intro k hk2
    cases hr : d.keys.drop (j + 1) with
    | nil => rw [hr] at hk2; simp at hk2
    | cons k0 ks =>
      have h0 := s4 k0 ks hr x hx
      have hrise : Rise (d.keys.drop (j + 1)) := p.rise.sublist (List.drop_sublist _ _)
      rw [hr] at hrise hk2
      rcases List.mem_cons.1 hk2 with rfl | hk2
      · exact h0
      · have := (List.pairwise_cons.1 hrise).1 k hk2; omega
  · have := s1 x (by simp [Sub.all_cons, hx])
    simpa [List.getD, hj] using this
theorem set_take_drop {α : Type} {l : List α} {j : Nat} {a b : α} (h : j + 1 < l.length) : (l.set j a).set (j + 1) b = l.take j ++ a :: b :: l.drop (j + 2) := by
  apply List.ext_getElem?
  intro i
  rw [List.getElem?_set, List.getElem?_set]
  rcases Nat.lt_trichotomy i j with q | q | q
  · rw [if_neg (by omega), if_neg (by omega), List.getElem?_append_left (by simp; omega), List.getElem?_take_of_lt q]
  · subst q
    rw [if_neg (by omega), if_pos rfl, if_pos (by omega), List.getElem?_append_right (by simp; omega)]
    simp [show min i l.length = i by omega]
  · rw [List.getElem?_append_right (by simp; omega)]
    simp only [List.length_take, List.length_set, show min j l.length = j by omega]
    rcases Nat.lt_or_ge (j + 1) i with q2 | q2
    · rw [if_neg (by omega), if_neg (by omega), show i - j = (i - (j + 2)) + 2 by omega]
      simp [show j + 2 + (i - (j + 2)) = i by omega]
    · obtain rfl : i = j + 1 := by omega
      rw [if_pos rfl, if_pos (by omega)]
      simp
/-- Both holes filled by one kid. -/
theorem merge {g g' : Int → Nd → Prop} {h : Nat} {d : Nd} {j : Nat} {sl sr : List Sub} (m : Two g h d j sl sr) {k : Int} {s : Sub} (o : OnP g' h k s) (hk : 2 ≤ k ∧ k < 640) (hf : ∀ x ∈ s.es, Fits2 d j x.1) (same : ∀ p ∈ Sub.pages sl ++ Sub.pages sr, ∀ d, g p d → g' p d) :
    NT g' (h + 1) (Nd.unhang { d with kids := d.kids.set j k } j) (Sub.all sl ++ (s.es ++ Sub.all sr)) (Sub.pages sl ++ (s.ps ++ Sub.pages sr)) := by
  have p := m.good.p
  have hkl := kidsLen p m.leaf
  have hj := m.jlt
  have hlen : (d.keys.take j).length = sl.length := by rw [← m.ol.len]; simp; omega
  have ek : (Nd.unhang { d with kids := d.kids.set j k } j).kids = d.kids.take j ++ k :: d.kids.drop (j + 2) := by
    show laidL (d.kids.set j k) (j + 1) 1 [] = _
    have h1 : (d.kids.set j k).take (j + 1) = d.kids.take j ++ [k] := by
      rw [List.set_eq_take_append_cons_drop, if_pos (by omega), List.take_append]
      simp [List.take_take, show min j d.kids.length = j by omega]
    have h2 : (d.kids.set j k).drop (j + 1 + 1) = d.kids.drop (j + 2) := by rw [List.drop_set_of_lt (by omega)]
    simp [laidL, h1, h2]
  have ekk : (Nd.unhang { d with kids := d.kids.set j k } j).keys = d.keys.take j ++ d.keys.drop (j + 1) := by show laidL d.keys j 1 [] = _; simp [laidL]
  have := nt_of (g := g') (h := h) (d := Nd.unhang { d with kids := d.kids.set j k } j) (ss := sl ++ s :: sr) rfl rfl ?_ ?_ ?_ ?_
  · simpa [Sub.all_append, Sub.all_cons, Sub.pages_append, Sub.pages_cons] using this
  · rw [ek]
    exact (onP_all m.ol fun p hp => same p (by simp [hp])).append ⟨o, onP_all m.orr fun p hp => same p (by simp [hp])⟩
  · rw [ekk, sep_app hlen]
    refine ⟨m.spl, ?_, sep_hole.2 ⟨m.spr, fun k ks e x hx => (hf x hx).2 k (by rw [e]; simp)⟩⟩
    intro k hk y hy
    rw [Sub.all_cons] at hy
    rcases List.mem_append.1 hy with hy | hy
    · exact (hf y hy).1 k hk
    · exact m.lr k hk y hy
  · intro x hx
    rw [ekk] at hx
    exact (List.mem_append.1 hx).elim (fun h => p.key x (List.mem_of_mem_take h)) (fun h => p.key x (List.mem_of_mem_drop h))
  · intro x hx
    rw [ek] at hx
    simp only [List.mem_append, List.mem_cons] at hx
    rcases hx with hx | rfl | hx
    · exact p.kid x (List.mem_of_mem_take hx)
    · exact hk
    · exact p.kid x (List.mem_of_mem_drop hx)
/-- Both holes filled, with another key between. -/
theorem deal {g g' : Int → Nd → Prop} {h : Nat} {d : Nd} {j : Nat} {sl sr : List Sub} (m : Two g h d j sl sr) {k1 k2 : Int} {s1 s2 : Sub} {mid : Nat} (o1 : OnP g' h k1 s1) (o2 : OnP g' h k2 s2) (hk1 : 2 ≤ k1 ∧ k1 < 640) (hk2 : 2 ≤ k2 ∧ k2 < 640) (hm : mid < 18446744073709551616)
    (hf1 : ∀ x ∈ s1.es, Fits2 d j x.1 ∧ x.1 < mid) (hf2 : ∀ x ∈ s2.es, Fits2 d j x.1 ∧ mid ≤ x.1) (same : ∀ p ∈ Sub.pages sl ++ Sub.pages sr, ∀ d, g p d → g' p d) :
    NT g' (h + 1) { d with keys := d.keys.set j mid, kids := (d.kids.set j k1).set (j + 1) k2 } (Sub.all sl ++ (s1.es ++ s2.es ++ Sub.all sr)) (Sub.pages sl ++ (s1.ps ++ s2.ps ++ Sub.pages sr)) := by
  have p := m.good.p
  have hkl := kidsLen p m.leaf
  have hj := m.jlt
  have hlen : (d.keys.take j).length = sl.length := by rw [← m.ol.len]; simp; omega
  have ek : (d.kids.set j k1).set (j + 1) k2 = d.kids.take j ++ k1 :: k2 :: d.kids.drop (j + 2) := set_take_drop (by omega)
  have ekk : d.keys.set j mid = d.keys.take j ++ mid :: d.keys.drop (j + 1) := by rw [List.set_eq_take_append_cons_drop, if_pos hj]
  obtain ⟨x2, hx2⟩ := List.exists_mem_of_ne_nil _ o2.some
  rw [ek, ekk]
  have := nt_of (g := g') (h := h) (d := { d with keys := d.keys.take j ++ mid :: d.keys.drop (j + 1), kids := d.kids.take j ++ k1 :: k2 :: d.kids.drop (j + 2) }) (ss := sl ++ s1 :: s2 :: sr) m.leaf (show d.vals = [] from noVals p m.leaf) ?_ ?_ ?_ ?_
  · simpa [Sub.all_append, Sub.all_cons, Sub.pages_append, Sub.pages_cons] using this
  · exact (onP_all m.ol fun p hp => same p (by simp [hp])).append ⟨o1, o2, onP_all m.orr fun p hp => same p (by simp [hp])⟩
  · show Sep (d.keys.take j ++ mid :: d.keys.drop (j + 1)) _
    rw [sep_app hlen]
    refine ⟨m.spl, ?_, ⟨fun x hx => (hf1 x hx).2, ?_, sep_hole.2 ⟨m.spr, fun k ks e x hx => (hf2 x hx).1.2 k (by rw [e]; simp)⟩⟩⟩
    · intro k hk y hy
      simp only [Sub.all_cons, List.mem_append] at hy
      rcases hy with hy | hy | hy
      · exact (hf1 y hy).1.1 k hk
      · exact (hf2 y hy).1.1 k hk
      · exact m.lr k hk y hy
    · intro y hy
      rw [Sub.all_cons] at hy
      rcases List.mem_append.1 hy with hy | hy
      · exact (hf2 y hy).2
      · have hsr := m.spr
        cases hr : d.keys.drop (j + 1) with
        | nil => rw [hr] at hsr; cases sr with
          | nil => simp [Sub.all] at hy
          | cons => exact hsr.elim
        | cons k0 ks =>
          rw [hr] at hsr
          have h1 := hsr.1 y hy
          have h2 := (hf2 x2 hx2).1.2 k0 (by rw [hr]; simp)
          have h3 := (hf2 x2 hx2).2
          omega
  · intro k hk
    simp only [List.mem_append, List.mem_cons] at hk
    rcases hk with hk | rfl | hk
    · exact p.key k (List.mem_of_mem_take hk)
    · exact hm
    · exact p.key k (List.mem_of_mem_drop hk)
  · intro x hx
    simp only [List.mem_append, List.mem_cons] at hx
    rcases hx with hx | rfl | rfl | hx
    · exact p.kid x (List.mem_of_mem_take hx)
    · exact hk1
    · exact hk2
    · exact p.kid x (List.mem_of_mem_drop hx)

/-! ### How high a tree is -/
theorem OnP.high {g : Int → Nd → Prop} : ∀ {h : Nat} {k : Int} {s : Sub}, OnP g h k s → 2 ^ (h + 1) ≤ s.ps.length + 1
  | 0, k, s, ⟨d', ps', a1, a2, a3, a4, a5⟩ => by rw [a5]; simp
  | h + 1, k, s, ⟨d', ps', a1, a2, a3, ⟨l, p, ss, f, e, e2, sp⟩, a5⟩ => by
    have hk := sp.len
    have hne := a3 l
    have hlen : 1 ≤ d'.keys.length := by
      cases h0 : d'.keys with
      | nil => exact absurd h0 hne
      | cons => simp
    match ss, f with
    | [], _ => simp at hk
    | [_], _ => simp only [List.length_cons, List.length_nil] at hk; omega
    | s1 :: s2 :: ss, f =>
      have h1 := f.right (p := fun s => 2 ^ (h + 1) ≤ s.ps.length + 1) (fun k s o => OnP.high (h := h) o)
      have q1 : 2 ^ (h + 1) ≤ s1.ps.length + 1 := h1 s1 (by simp)
      have q2 : 2 ^ (h + 1) ≤ s2.ps.length + 1 := h1 s2 (by simp)
      have hz : s.ps.length = s1.ps.length + (s2.ps.length + (Sub.pages ss).length) + 1 := by rw [a5, e2, Sub.pages_cons, Sub.pages_cons]; simp only [List.length_cons, List.length_append]
      rw [Nat.pow_succ]
      omega

/-! ### Ways -/
structure Spot where
  pg : Int
  d : Nd
  i : Nat
def FitsP : List Spot → Nat → Prop
  | [], _ => True
  | s :: path, x => FitsAt s.d s.i x ∧ FitsP path x
/-- What stands beside a way, from its end upward. -/
def Way (g : Int → Nd → Prop) : List Spot → Nat → List Ent → List Ent → List Int → Prop
  | [], _, L, R, ps => L = [] ∧ R = [] ∧ ps = []
  | s :: path, h, L, R, ps => ∃ L' R' ps' sl sr, Way g path (h + 1) L' R' ps' ∧ g s.pg s.d ∧ Mid g h s.d s.i sl sr ∧ (∀ y ∈ Sub.all sl ++ Sub.all sr, FitsP path y.1) ∧ L = L' ++ Sub.all sl ∧ R = Sub.all sr ++ R' ∧ ps = s.pg :: (Sub.pages sl ++ (Sub.pages sr ++ ps'))
theorem Mid.same {g g' : Int → Nd → Prop} {h : Nat} {d : Nd} {i : Nat} {sl sr : List Sub} (m : Mid g h d i sl sr) (k : ∀ p ∈ Sub.pages sl ++ Sub.pages sr, ∀ d, g p d → g' p d) : Mid g' h d i sl sr :=
  ⟨m.good, m.leaf, m.ne, m.ile, onP_all m.ol fun p hp => k p (by simp [hp]), onP_all m.orr fun p hp => k p (by simp [hp]), m.spl, m.spr, m.lr⟩
theorem Way.same {g g' : Int → Nd → Prop} : ∀ {path : List Spot} {h : Nat} {L R : List Ent} {ps : List Int}, Way g path h L R ps → (∀ p ∈ ps, ∀ d, g p d → g' p d) → Way g' path h L R ps
  | [], _, _, _, _, w, _ => w
  | s :: path, h, L, R, ps, ⟨L', R', ps', sl, sr, w, a1, a2, a3, e1, e2, e3⟩, k => by
    subst e1 e2 e3
    exact ⟨L', R', ps', sl, sr, w.same (fun p hp => k p (by simp [hp])), k _ (by simp) _ a1, a2.same (fun p hp => k p (by simp only [List.mem_append] at hp; simp only [List.mem_cons, List.mem_append]; exact .inr (hp.elim .inl fun q => .inr (.inl q)))), a3, rfl, rfl, rfl⟩
theorem Way.lt {g : Int → Nd → Prop} : ∀ {path : List Spot} {h : Nat} {L R : List Ent} {ps : List Int}, Way g path h L R ps → ∀ {x : Nat}, FitsP path x → (∀ e ∈ L, e.1 < x) ∧ ∀ e ∈ R, x < e.1
  | [], _, _, _, _, ⟨rfl, rfl, rfl⟩, _, _ => ⟨by simp, by simp⟩
  | s :: path, h, L, R, ps, ⟨L', R', ps', sl, sr, w, a1, a2, a3, e1, e2, e3⟩, x, ⟨f1, f2⟩ => by
    subst e1 e2 e3
    obtain ⟨i1, i2⟩ := w.lt f2
    constructor
    · intro e he
      rcases List.mem_append.1 he with he | he
      · exact i1 e he
      · -- what stands to the left is below one of the keys
        have : ∀ {ks : List Nat} {ss : List Sub}, SepL ks ss → ∀ e ∈ Sub.all ss, ∃ k ∈ ks, e.1 < k := by
          intro ks
          induction ks with
          | nil => intro ss h e he; cases ss with
            | nil => simp [Sub.all] at he
            | cons => exact h.elim
          | cons k ks ih =>
            intro ss h e he
            cases ss with
            | nil => exact h.elim
            | cons s0 ss =>
              rw [Sub.all_cons] at he
              rcases List.mem_append.1 he with he | he
              · exact ⟨k, by simp, h.1 e he⟩
              · obtain ⟨k', h1, h2⟩ := ih h.2.2 e he
                exact ⟨k', by simp [h1], h2⟩
        obtain ⟨k, hk, h1⟩ := this a2.spl e he
        have := f1.1 k hk
        omega
    · intro e he
      rcases List.mem_append.1 he with he | he
      · have hsr := a2.spr
        cases hr : s.d.keys.drop s.i with
        | nil => rw [hr] at hsr; cases sr with
          | nil => simp [Sub.all] at he
          | cons => exact hsr.elim
        | cons k0 ks =>
          rw [hr] at hsr
          have h1 := hsr.1 e he
          have h2 := f1.2 k0 (by rw [hr]; simp)
          omega
      · exact i2 e he
end Go.Proofs.YtbdgnjlbmhnipaaGreat
/- Package node: what looks at a node. -/
set_option maxRecDepth 20000
set_option linter.unusedVariables false
set_option linter.unusedSimpArgs false
namespace Go.Proofs.YtbdgnjlbmhnipaaGreat
open Go.Proofs.YtbdgnjlbmhnipaaGreat.SL

/-- Where a node's rows are. -/
structure Rw where
  p1 : Option Addr
  c1 : Nat
  p2 : Option Addr
  c2 : Nat
  p3 : Option Addr
  c3 : Nat
/-- A node's value. -/
abbrev ndA (d : Nd) (r : Rw) : Array Value := #[.bool d.leaf, .slice r.p1 d.keys.length r.c1, .slice r.p2 d.vals.length r.c2, .slice r.p3 d.kids.length r.c3]
abbrev ndV (d : Nd) (r : Rw) : Value := .agg (ndA d r)
abbrev NdsK (d : Nd) (r : Rw) (_ : Unit) : List SProp := [vec 32 1 r.p1 d.keys.length r.c1 (uV d.keys), vec 9 1 r.p2 d.vals.length r.c2 (d.vals.map encS), vec 3 1 r.p3 d.kids.length r.c3 (d.kids.map encZ')]
/-- A node's rows. -/
def Nds (d : Nd) (r : Rw) : SProp := hid (fun _ : Unit => True) (NdsK d r)

theorem sGet {l : List (List UInt8)} {k : Nat} (h : k < l.length) : (l.map encS)[0 + ((k : Nat) : Int).toNat * 1]? = some (.string (str (l.getD k []))) := by
  rw [Nat.zero_add, Nat.mul_one, Int.toNat_natCast]
  simp [List.getD, h, encS]
theorem uGet {l : List Nat} {k : Nat} (h : k < l.length) : (uV l)[0 + ((k : Nat) : Int).toNat * 1]? = some (.int .u64 (l.getD k 0 : Nat)) := by
  rw [Nat.zero_add, Nat.mul_one, Int.toNat_natCast]
  simp [List.getD, h, uV]
theorem iGet {l : List Int} {k : Nat} (h : k < l.length) : (l.map encZ')[0 + ((k : Nat) : Int).toNat * 1]? = some (.int .i64 (l.getD k 0)) := by
  rw [Nat.zero_add, Nat.mul_one, Int.toNat_natCast]
  simp [List.getD, h, encZ']

set_option maxHeartbeats 1000000 in
theorem ndSize_does (d : Nd) (r : Rw) (hf : d.fits) : Does Tryz.prog 78 [ndV d r] [Nds d r] (fun v H => v = .int .i64 d.size ∧ H = [Nds d r]) := by
  obtain ⟨f1, f2, f3, f4⟩ := hf
  obtain ⟨leaf, keys, vals, kids⟩ := d
  obtain ⟨p1, c1, p2, c2, p3, c3⟩ := r
  dsimp only at f1 f2 f3 f4 ⊢
  have e1 : IntKind.i64.wrap (8 * (keys.length : Int)) = 8 * (keys.length : Int) := wrapI64 (by omega)
  have e2 : IntKind.i64.wrap (1 + 8 * (keys.length : Int)) = ((1 + 8 * keys.length : Nat) : Int) := by rw [wrapI64 (by omega)]; omega
  have e3 : IntKind.i64.wrap (2 * (kids.length : Int)) = ((2 * kids.length : Nat) : Int) := by rw [wrapI64 (by omega)]; omega
  have e4 : IntKind.i64.wrap (((1 + 8 * keys.length : Nat) : Int) + ((2 * kids.length : Nat) : Int)) = ((1 + 8 * keys.length + 2 * kids.length : Nat) : Int) := by rw [wrapI64 (by omega)]; omega
  have e5 : IntKind.i64.wrap (((1 + 8 * keys.length : Nat) : Int) + (keys.length : Int)) = ((1 + 8 * keys.length + keys.length : Nat) : Int) := by rw [wrapI64 (by omega)]; omega
  cases leaf
  · refine does_of Tryz.func78 Tryz.ntmps78 rfl rfl rfl (fun w0 F0 => ?_)
    (repeat' (first | refine g_seq (h := ?_) | refine g_region (h := ?_) | refine l_nil (h := ?_) | refine n_then (h := ?_) | refine l_pures1 (h := ?_) | refine l_load (h := ?_) | (refine l_box (h := ?_); intro _) | refine g_ret (h := ?_) | refine n_then_ret (h := ?_) | refine g_cond_t (h := ?_)))
    rw [e1, e2, e3, e4]
    refine r_retk [Nds ⟨false, keys, vals, kids⟩ ⟨p1, c1, p2, c2, p3, c3⟩] ?_
    exact ⟨rfl, rfl⟩
  · refine does_of Tryz.func78 Tryz.ntmps78 rfl rfl rfl (fun w0 F0 => ?_)
    refine g_open (A := Nds ⟨true, keys, vals, kids⟩ ⟨p1, c1, p2, c2, p3, c3⟩) (h := ?_); (rintro _ _; dsimp only [NdsK, List.cons_append, List.nil_append])
    (repeat' (first | refine g_seq (h := ?_) | refine g_region (h := ?_) | refine l_nil (h := ?_) | refine n_then (h := ?_) | refine l_pures1 (h := ?_) | refine l_load (h := ?_) | (refine l_box (h := ?_); intro _) | refine g_skip (h := ?_) | refine g_block (h := ?_) | refine g_cond_f (h := ?_)))
    rw [e1, e2, e5]
    rename_i b
    (refine g_loop (fun k : Nat => [(28, .int .i64 k), (3, .int .i64 (1 + 8 * keys.length + keys.length + sumL (vals.take k) : Nat)), (27, .int .i64 vals.length), (26, .slice p2 vals.length c2)]) (fun _ => NdsK ⟨true, keys, vals, kids⟩ ⟨p1, c1, p2, c2, p3, c3⟩ ()) (fun k => k ≤ vals.length) (fun k => vals.length - k) (0) ?_ ?_ ?_ ?_; rotate_left; (repeat (first | refine ts_nil | (refine ts_cons rfl ?_ ?_; first | (with_reducible rfl) | rotate_left))); (first | (intro _ i; with_reducible refine i) | rotate_left); rotate_left; (try omega); rotate_right)
    · intro k hk
      dsimp only [NdsK]
      (repeat' (first | refine g_seq (h := ?_) | refine g_region (h := ?_) | refine l_nil (h := ?_) | refine n_then (h := ?_) | refine l_pures1 (h := ?_) | refine g_skip (h := ?_) | refine g_ret (h := ?_) | refine g_block (h := ?_) | refine g_exit (h := ?_) | refine n_then_exit (h := ?_) | refine n_block_hit (h := ?_) | (refine g_sp (h1 := ?_) (h0 := ?_) <;> intro h)))
      · have hlt : k < vals.length := by omega
        refine l_ptr (m := vals.length) (h := ?_); rintro g rfl hc
        have hg := sGet hlt
        have e6 := sumL_take_succ hlt
        have e7 := sumL_take_le vals (k + 1)
        (repeat' (first | refine g_region (h := ?_) | refine l_nil (h := ?_) | refine n_then (h := ?_) | refine l_pures1 (h := ?_) | refine l_indexAddr (h := ?_) | refine n_block (h := ?_) | refine l_load_vec (h := ?_)))
        (refine n_back (k + 1) ?_ ?_ ?_ ?_; rotate_left; rotate_left; (repeat (first | refine ts_nil | (refine ts_cons rfl ?_ ?_; first | (with_reducible rfl) | rotate_left))); (first | (intro _ i; with_reducible refine i) | rotate_left); (try omega); (try omega))
        · rw [wrapI64 (by omega)]; rfl
        · rw [e6]; refine congrArg (Value.int .i64) ((wrapI64 ?_).trans ?_) <;> (try constructor) <;> omega
      · obtain rfl : k = vals.length := by omega
        (refine n_shut (A := Nds ⟨true, keys, vals, kids⟩ ⟨p1, c1, p2, c2, p3, c3⟩) (K := NdsK ⟨true, keys, vals, kids⟩ ⟨p1, c1, p2, c2, p3, c3⟩ (())) (hid_shuts (()) trivial) (h := ?_) (p := by dsimp only [NdsK]; (try simp only [List.map_nil, List.length_nil, List.length_set, List.length_append, List.length_cons, List.length_singleton, List.map_append, List.map_cons, Nat.zero_add]); exact parts_of))
        refine r_retk [Nds ⟨true, keys, vals, kids⟩ ⟨p1, c1, p2, c2, p3, c3⟩] ?_
        exact ⟨by rw [List.take_length]; rfl, rfl⟩
    · rfl
    · simp [sumL]
    · (intro _ i; exact inv_keep parts_of i)

theorem Find_does (d : Nd) (r : Rw) (x : Nat) (hf : d.fits) (hs : Rise d.keys) : Does Tryz.prog 82 [ndV d r, .int .u64 x] [Nds d r]
    (fun v H => v = .tuple #[.int .i64 (if d.leaf then posN d.keys x else cntN d.keys x : Nat), .bool (if d.leaf then decide (x ∈ d.keys) else true)] ∧ H = [Nds d r]) := by
  have hk := hf.k
  have hp := posN_le d.keys x
  obtain ⟨leaf, keys, vals, kids⟩ := d
  obtain ⟨p1, c1, p2, c2, p3, c3⟩ := r
  dsimp only at hk hs hp ⊢
  cases leaf
  · refine does_of Tryz.func82 Tryz.ntmps82 rfl rfl rfl (fun w0 F0 => ?_)
    refine g_open (A := Nds ⟨false, keys, vals, kids⟩ ⟨p1, c1, p2, c2, p3, c3⟩) (h := ?_); (rintro _ _; dsimp only [NdsK, List.cons_append, List.nil_append])
    (repeat' (first | refine g_seq (h := ?_) | refine g_region (h := ?_) | refine l_nil (h := ?_) | refine n_then (h := ?_) | refine l_pures1 (h := ?_) | (refine l_atc ?_; refine l_call (place_does keys x p1 c1 (by omega) hs) ?_) | refine l_load (h := ?_) | (refine l_box (h := ?_); intro _) | refine g_skip (h := ?_) | refine g_ret (h := ?_) | refine g_cond_f (h := ?_) | (refine g_sp (h1 := ?_) (h0 := ?_) <;> intro h)))
    · (refine n_shut (A := Nds ⟨false, keys, vals, kids⟩ ⟨p1, c1, p2, c2, p3, c3⟩) (K := NdsK ⟨false, keys, vals, kids⟩ ⟨p1, c1, p2, c2, p3, c3⟩ (())) (hid_shuts (()) trivial) (h := ?_) (p := by dsimp only [NdsK]; (try simp only [List.map_nil, List.length_nil, List.length_set, List.length_append, List.length_cons, List.length_singleton, List.map_append, List.map_cons, Nat.zero_add]); exact parts_of))
      refine r_retk [Nds ⟨false, keys, vals, kids⟩ ⟨p1, c1, p2, c2, p3, c3⟩] ?_
      refine ⟨?_, rfl⟩
      rw [wrapI64 (by omega), if_neg (by simp), cntN, if_pos h]; rfl
    · (refine n_shut (A := Nds ⟨false, keys, vals, kids⟩ ⟨p1, c1, p2, c2, p3, c3⟩) (K := NdsK ⟨false, keys, vals, kids⟩ ⟨p1, c1, p2, c2, p3, c3⟩ (())) (hid_shuts (()) trivial) (h := ?_) (p := by dsimp only [NdsK]; (try simp only [List.map_nil, List.length_nil, List.length_set, List.length_append, List.length_cons, List.length_singleton, List.map_append, List.map_cons, Nat.zero_add]); exact parts_of))
      refine r_retk [Nds ⟨false, keys, vals, kids⟩ ⟨p1, c1, p2, c2, p3, c3⟩] ?_
      refine ⟨?_, rfl⟩
      rw [if_neg (by simp), cntN, if_neg h]; rfl
  · refine does_of Tryz.func82 Tryz.ntmps82 rfl rfl rfl (fun w0 F0 => ?_)
    refine g_open (A := Nds ⟨true, keys, vals, kids⟩ ⟨p1, c1, p2, c2, p3, c3⟩) (h := ?_); (rintro _ _; dsimp only [NdsK, List.cons_append, List.nil_append])
    (repeat' (first | refine g_seq (h := ?_) | refine g_region (h := ?_) | refine l_nil (h := ?_) | refine n_then (h := ?_) | refine l_pures1 (h := ?_) | (refine l_atc ?_; refine l_call (place_does keys x p1 c1 (by omega) hs) ?_) | refine l_load (h := ?_) | (refine l_box (h := ?_); intro _) | refine g_ret (h := ?_) | refine n_then_ret (h := ?_) | refine g_cond_t (h := ?_)))
    (refine n_shut (A := Nds ⟨true, keys, vals, kids⟩ ⟨p1, c1, p2, c2, p3, c3⟩) (K := NdsK ⟨true, keys, vals, kids⟩ ⟨p1, c1, p2, c2, p3, c3⟩ (())) (hid_shuts (()) trivial) (h := ?_) (p := by dsimp only [NdsK]; (try simp only [List.map_nil, List.length_nil, List.length_set, List.length_append, List.length_cons, List.length_singleton, List.map_append, List.map_cons, Nat.zero_add]); exact parts_of))
    refine r_retk [Nds ⟨true, keys, vals, kids⟩ ⟨p1, c1, p2, c2, p3, c3⟩] ?_
    exact ⟨rfl, rfl⟩

theorem long_does (s : List UInt8) (h : s.length ≤ 40) : Does Tryz.prog 182 [.string (str s)] [] (fun v H => v = .bool false ∧ H = []) := by
  refine does_of Tryz.func182 Tryz.ntmps182 rfl rfl rfl (fun w0 F0 => ?_)
  (repeat (first | refine g_seq (h := ?_) | refine g_region (h := ?_) | refine l_nil (h := ?_) | refine n_then (h := ?_) | refine l_pures1 (h := ?_) | refine g_ret (h := ?_)))
  refine r_ret ?_
  exact ⟨by rw [decide_eq_false (show ¬ (s.length : Int) > 40 by omega)]; rfl, rfl⟩
theorem wrong_does (k : Int) (h : 2 ≤ k ∧ k < 640) : Does Tryz.prog 183 [.int .i64 k] [] (fun v H => v = .bool false ∧ H = []) := by
  refine does_of Tryz.func183 Tryz.ntmps183 rfl rfl rfl (fun w0 F0 => ?_)
  (repeat' (first | refine g_seq (h := ?_) | refine g_region (h := ?_) | refine l_nil (h := ?_) | refine n_then (h := ?_) | refine l_pures1 (h := ?_) | refine l_guard_yes (h := ?_) | refine g_ret (h := ?_) | (refine l_spF (h := ?_); intro h)))
  refine r_ret ?_
  exact ⟨by rw [decide_eq_false (show ¬ (k : Int) ≥ 640 by omega)]; rfl, rfl⟩
theorem IndexS_does (l : List (List UInt8)) (p : Option Addr) (c : Nat) (hl : l.length < 100000) (hh : ∀ s ∈ l, s.length ≤ 40) : Does Tryz.prog 187 [.slice p l.length c, .func (.func 182) #[] #[]] [vec 9 1 p l.length c (l.map encS)]
    (fun v H => v = .int .i64 (-1) ∧ H = [vec 9 1 p l.length c (l.map encS)]) := by
  refine does_of Tryz.func187 Tryz.ntmps187 rfl rfl rfl (fun w0 F0 => ?_)
  (repeat' (first | refine g_seq (h := ?_) | refine g_region (h := ?_) | refine l_nil (h := ?_) | refine n_then (h := ?_) | refine l_pures1 (h := ?_) | refine g_block (h := ?_)))
  (refine g_loop (fun k : Nat => [(8, .int .i64 k), (7, .int .i64 l.length), (0, .slice p l.length c), (1, .func (.func 182) #[] #[])]) (fun _ => [vec 9 1 p l.length c (l.map encS)]) (fun k => k ≤ l.length) (fun k => l.length - k) (0) ?_ ?_ ?_ ?_; rotate_left; (repeat (first | refine ts_nil | (refine ts_cons rfl ?_ ?_; first | (with_reducible rfl) | rotate_left))); (first | (intro _ i; with_reducible refine i) | rotate_left); rotate_left; (try omega); rotate_right)
  · intro k hk
    (repeat' (first | refine g_seq (h := ?_) | refine g_region (h := ?_) | refine l_nil (h := ?_) | refine n_then (h := ?_) | refine l_pures1 (h := ?_) | refine g_skip (h := ?_) | refine g_ret (h := ?_) | refine g_block (h := ?_) | refine g_exit (h := ?_) | refine n_then_exit (h := ?_) | refine n_block_hit (h := ?_) | (refine g_sp (h1 := ?_) (h0 := ?_) <;> intro h)))
    · have hlt : k < l.length := by omega
      refine l_ptr (m := l.length) (h := ?_); rintro g rfl hc
      have hg := sGet hlt
      have hm : (l.getD k []).length ≤ 40 := by simp only [List.getD, List.getElem?_eq_getElem hlt, Option.getD_some]; exact hh _ (List.getElem_mem hlt)
      (repeat' (first | refine g_region (h := ?_) | refine l_nil (h := ?_) | refine n_then (h := ?_) | refine l_pures1 (h := ?_) | (refine l_atc ?_; refine l_call (long_does (l.getD k []) hm) ?_) | refine l_indexAddr (h := ?_) | refine g_skip (h := ?_) | refine n_block (h := ?_) | refine g_cond_f (h := ?_) | refine l_load_vec (h := ?_)))
      (refine n_back (k + 1) ?_ ?_ ?_ ?_; rotate_left; rotate_left; (repeat (first | refine ts_nil | (refine ts_cons rfl ?_ ?_; first | (with_reducible rfl) | rotate_left))); (first | (intro _ i; with_reducible refine i) | rotate_left); (try omega); (try omega))
      rw [wrapI64 (by omega)]; rfl
    · refine r_ret ?_
      exact ⟨rfl, rfl⟩
  · rfl
theorem IndexI_does (l : List Int) (p : Option Addr) (c : Nat) (hl : l.length < 100000) (hh : ∀ s ∈ l, 2 ≤ s ∧ s < 640) : Does Tryz.prog 188 [.slice p l.length c, .func (.func 183) #[] #[]] [vec 3 1 p l.length c (l.map encZ')]
    (fun v H => v = .int .i64 (-1) ∧ H = [vec 3 1 p l.length c (l.map encZ')]) := by
  refine does_of Tryz.func188 Tryz.ntmps188 rfl rfl rfl (fun w0 F0 => ?_)
  (repeat' (first | refine g_seq (h := ?_) | refine g_region (h := ?_) | refine l_nil (h := ?_) | refine n_then (h := ?_) | refine l_pures1 (h := ?_) | refine g_block (h := ?_)))
  (refine g_loop (fun k : Nat => [(8, .int .i64 k), (7, .int .i64 l.length), (0, .slice p l.length c), (1, .func (.func 183) #[] #[])]) (fun _ => [vec 3 1 p l.length c (l.map encZ')]) (fun k => k ≤ l.length) (fun k => l.length - k) (0) ?_ ?_ ?_ ?_; rotate_left; (repeat (first | refine ts_nil | (refine ts_cons rfl ?_ ?_; first | (with_reducible rfl) | rotate_left))); (first | (intro _ i; with_reducible refine i) | rotate_left); rotate_left; (try omega); rotate_right)
  · intro k hk
    (repeat' (first | refine g_seq (h := ?_) | refine g_region (h := ?_) | refine l_nil (h := ?_) | refine n_then (h := ?_) | refine l_pures1 (h := ?_) | refine g_skip (h := ?_) | refine g_ret (h := ?_) | refine g_block (h := ?_) | refine g_exit (h := ?_) | refine n_then_exit (h := ?_) | refine n_block_hit (h := ?_) | (refine g_sp (h1 := ?_) (h0 := ?_) <;> intro h)))
    · have hlt : k < l.length := by omega
      refine l_ptr (m := l.length) (h := ?_); rintro g rfl hc
      have hg := iGet hlt
      have hm : 2 ≤ l.getD k 0 ∧ l.getD k 0 < 640 := by simp only [List.getD, List.getElem?_eq_getElem hlt, Option.getD_some]; exact hh _ (List.getElem_mem hlt)
      (repeat' (first | refine g_region (h := ?_) | refine l_nil (h := ?_) | refine n_then (h := ?_) | refine l_pures1 (h := ?_) | (refine l_atc ?_; refine l_call (wrong_does (l.getD k 0) hm) ?_) | refine l_indexAddr (h := ?_) | refine g_skip (h := ?_) | refine n_block (h := ?_) | refine g_cond_f (h := ?_) | refine l_load_vec (h := ?_)))
      (refine n_back (k + 1) ?_ ?_ ?_ ?_; rotate_left; rotate_left; (repeat (first | refine ts_nil | (refine ts_cons rfl ?_ ?_; first | (with_reducible rfl) | rotate_left))); (first | (intro _ i; with_reducible refine i) | rotate_left); (try omega); (try omega))
      rw [wrapI64 (by omega)]; rfl
    · refine r_ret ?_
      exact ⟨rfl, rfl⟩
  · rfl
theorem ContainsS_does (l : List (List UInt8)) (p : Option Addr) (c : Nat) (hl : l.length < 100000) (hh : ∀ s ∈ l, s.length ≤ 40) : Does Tryz.prog 184 [.slice p l.length c, .func (.func 182) #[] #[]] [vec 9 1 p l.length c (l.map encS)]
    (fun v H => v = .bool false ∧ H = [vec 9 1 p l.length c (l.map encS)]) := by
  refine does_of Tryz.func184 Tryz.ntmps184 rfl rfl rfl (fun w0 F0 => ?_)
  (repeat (first | refine g_seq (h := ?_) | refine g_region (h := ?_) | refine l_nil (h := ?_) | refine n_then (h := ?_) | refine l_pures1 (h := ?_) | (refine l_atc ?_; refine l_call (IndexS_does l p c hl hh) ?_) | refine g_ret (h := ?_)))
  refine r_ret ?_
  exact ⟨rfl, rfl⟩
theorem ContainsI_does (l : List Int) (p : Option Addr) (c : Nat) (hl : l.length < 100000) (hh : ∀ s ∈ l, 2 ≤ s ∧ s < 640) : Does Tryz.prog 185 [.slice p l.length c, .func (.func 183) #[] #[]] [vec 3 1 p l.length c (l.map encZ')]
    (fun v H => v = .bool false ∧ H = [vec 3 1 p l.length c (l.map encZ')]) := by
  refine does_of Tryz.func185 Tryz.ntmps185 rfl rfl rfl (fun w0 F0 => ?_)
  (repeat (first | refine g_seq (h := ?_) | refine g_region (h := ?_) | refine l_nil (h := ?_) | refine n_then (h := ?_) | refine l_pures1 (h := ?_) | (refine l_atc ?_; refine l_call (IndexI_does l p c hl hh) ?_) | refine g_ret (h := ?_)))
  refine r_ret ?_
  exact ⟨rfl, rfl⟩
end Go.Proofs.YtbdgnjlbmhnipaaGreat
/- Package node: is a node right? -/
set_option maxRecDepth 20000
set_option linter.unusedVariables false
set_option linter.unusedSimpArgs false
namespace Go.Proofs.YtbdgnjlbmhnipaaGreat
open Go.Proofs.YtbdgnjlbmhnipaaGreat.SL

set_option maxHeartbeats 2000000 in
theorem plain_tail (d : Nd) (r : Rw) (b : Nat) (g1 : Rise d.keys) (f1 : d.keys.length < 10000) (f2 : d.kids.length < 10000) (f3 : d.vals.length < 10000) (g3 : ∀ v ∈ d.vals, v.length ≤ 40) (g4 : ∀ i ∈ d.kids, 2 ≤ i ∧ i < 640) (w0 : World) (F0 : Nat → Prop) :
    G Tryz.prog 65 w0 F0 (csq 4 (bdy Tryz.f174)) (Post Tryz.prog Tryz.f174 w0 F0 fun v H => v = .bool true ∧ H = [Nds d r])
      [(1, .pointer (some ⟨b, 0, none⟩))] [] [cl b 140 (ndA d r).toList, Nds d r] := by
  obtain ⟨c, hc⟩ : ∃ c, c = csq 4 (bdy Tryz.f174) := ⟨_, rfl⟩
  rw [← hc]
  dsimp only [csq, bdy, Tryz.f174, Option.getD] at hc
  subst hc
  obtain ⟨leaf, keys, vals, kids⟩ := d
  obtain ⟨p1, c1, p2, c2, p3, c3⟩ := r
  dsimp only at *
  refine g_open (A := Nds ⟨leaf, keys, vals, kids⟩ ⟨p1, c1, p2, c2, p3, c3⟩) (h := ?_); (rintro _ _; dsimp only [NdsK, List.cons_append, List.nil_append])
  (repeat' (first | refine g_seq (h := ?_) | refine g_region (h := ?_) | refine l_nil (h := ?_) | refine n_then (h := ?_) | refine l_pures1 (h := ?_) | refine l_load (h := ?_) | refine g_block (h := ?_)))
  (refine g_loop (fun k : Nat => [(33, .int .i64 k), (32, .int .i64 keys.length), (31, .slice p1 keys.length c1), (1, .pointer (some ⟨b, 0, none⟩))]) (fun _ => cl b 140 (ndA ⟨leaf, keys, vals, kids⟩ ⟨p1, c1, p2, c2, p3, c3⟩).toList :: NdsK ⟨leaf, keys, vals, kids⟩ ⟨p1, c1, p2, c2, p3, c3⟩ ()) (fun k => k ≤ keys.length) (fun k => keys.length - k) (0) ?_ ?_ ?_ ?_; rotate_left; (repeat (first | refine ts_nil | (refine ts_cons rfl ?_ ?_; first | (with_reducible rfl) | rotate_left))); (first | (intro _ i; with_reducible refine i) | rotate_left); rotate_left; (try omega); rotate_right)
  · intro k hk
    dsimp only [NdsK]
    (repeat' (first | refine g_seq (h := ?_) | refine g_region (h := ?_) | refine l_nil (h := ?_) | refine n_then (h := ?_) | refine l_pures1 (h := ?_) | refine l_load (h := ?_) | refine g_skip (h := ?_) | refine g_block (h := ?_) | refine g_exit (h := ?_) | refine n_then_exit (h := ?_) | refine n_block_hit (h := ?_) | (refine g_sp (h1 := ?_) (h0 := ?_) <;> intro h)))
    · have hlt : k < keys.length := by omega
      refine g_ptr (m := keys.length) (h := ?_); rintro g rfl hc
      rcases Nat.eq_zero_or_pos k with rfl | hk0
      · (refine g_draw [cl _ _ _, vec _ _ _ _ _ _] (h := a_pass2 (h := ?_)))
        (repeat' (first | refine g_region (h := ?_) | refine l_nil (h := ?_) | refine n_then (h := ?_) | refine l_pures1 (h := ?_) | refine l_guard_no (h := ?_) | refine g_skip (h := ?_) | refine a_done (h := ?_) | refine a_one (h := ?_) | refine n_any (h := a_pass2 (h := ?_)) | refine a_no (h := ?_) | refine n_block (h := ?_) | refine g_cond_f (h := ?_)))
        (refine n_back (1) ?_ ?_ ?_ ?_; rotate_left; rotate_left; (repeat (first | refine ts_nil | (refine ts_cons rfl ?_ ?_; first | (with_reducible rfl) | rotate_left))); (first | (intro _ i; with_reducible refine i) | rotate_left); (try omega); (try omega))
        rw [wrapI64 (by omega)]; rfl
      · have ew : IntKind.i64.wrap ((k : Int) - 1) = ((k - 1 : Nat) : Int) := by rw [wrapI64 (by omega)]; omega
        have hg1 : (uV keys)[0 + (IntKind.i64.wrap ((k : Int) - 1)).toNat * 1]? = some (.int .u64 (keys.getD (k - 1) 0 : Nat)) := by rw [ew]; exact uGet (by omega)
        have hg2 := uGet hlt
        have hr : keys.getD (k - 1) 0 < keys.getD k 0 := g1.get (by omega) hlt
        (refine g_draw [cl _ _ _, vec 32 _ _ _ _ _] (h := a_pass2 (h := ?_)))
        (repeat' (first | refine g_region (h := ?_) | refine l_nil (h := ?_) | refine n_then (h := ?_) | refine l_pures1 (h := ?_) | refine l_guard_yes (h := ?_) | refine l_indexAddr (h := ?_) | refine g_skip (h := ?_) | refine a_done (h := ?_) | refine a_one (h := ?_) | refine n_any (h := a_pass2 (h := ?_)) | refine a_loadg (h := a_pass2 (h := ?_)) | refine a_vg (h := ?_) | refine n_block (h := ?_) | refine l_load_vec (h := ?_) | refine a_loadg_vec (h := a_pass2 (h := ?_)) | (refine a_spT (h := ?_); intro h) | (refine g_spF (h := ?_); intro h)))
        (refine n_back (k + 1) ?_ ?_ ?_ ?_; rotate_left; rotate_left; (repeat (first | refine ts_nil | (refine ts_cons rfl ?_ ?_; first | (with_reducible rfl) | rotate_left))); (first | (intro _ i; with_reducible refine i) | rotate_left); (try omega); (try omega))
        rw [wrapI64 (by omega)]; rfl
    · (repeat' (first | refine l_nil (h := ?_) | refine n_then (h := ?_) | refine l_pures1 (h := ?_) | (refine l_atc ?_; refine l_call (ContainsS_does vals p2 c2 (by omega) g3) ?_) | (refine l_atc ?_; refine l_call (ContainsI_does kids p3 c3 (by omega) g4) ?_) | refine l_guard_yes (h := ?_) | refine l_load (h := ?_) | refine g_ret (h := ?_)))
      (refine n_shut (A := Nds ⟨leaf, keys, vals, kids⟩ ⟨p1, c1, p2, c2, p3, c3⟩) (K := NdsK ⟨leaf, keys, vals, kids⟩ ⟨p1, c1, p2, c2, p3, c3⟩ (())) (hid_shuts (()) trivial) (h := ?_) (p := by dsimp only [NdsK]; (try simp only [List.map_nil, List.length_nil, List.length_set, List.length_append, List.length_cons, List.length_singleton, List.map_append, List.map_cons, Nat.zero_add]); exact parts_of))
      refine r_retk [Nds ⟨leaf, keys, vals, kids⟩ ⟨p1, c1, p2, c2, p3, c3⟩] ?_
      exact ⟨rfl, rfl⟩
  · rfl
  · (intro _ i; exact inv_keep parts_of i)
set_option maxHeartbeats 2000000 in
theorem plain_does (d : Nd) (r : Rw) (hd : d.plain) (hf : d.fits) : Does Tryz.prog 174 [ndV d r] [Nds d r] (fun v H => v = .bool true ∧ H = [Nds d r]) := by
  obtain ⟨g1, g2, g3, g4, g5, g6⟩ := hd
  obtain ⟨f1, f2, f3, f4⟩ := hf
  have tail := fun b => plain_tail d r b g1 f1 f2 f3 g3 g4
  obtain ⟨leaf, keys, vals, kids⟩ := d
  obtain ⟨p1, c1, p2, c2, p3, c3⟩ := r
  dsimp only at g1 g2 g3 g4 g5 g6 f1 f2 f3 f4
  cases leaf
  · simp only [Bool.false_eq_true, if_false] at g5 g6
    have e1 : IntKind.i64.wrap ((keys.length : Int) + 1) = (kids.length : Int) := by rw [wrapI64 (by omega)]; omega
    have e2 : (vals.length : Int) = 0 := by omega
    refine does_of Tryz.func174 Tryz.ntmps174 rfl rfl rfl (fun w0 F0 => ?_)
    (repeat' (first | refine g_seq (h := ?_) | refine g_region (h := ?_) | refine l_nil (h := ?_) | refine n_then (h := ?_) | refine l_pures1 (h := ?_) | refine l_load (h := ?_) | (refine l_box (h := ?_); intro _) | refine g_cond_t (h := ?_)))
    (refine g_draw [cl _ _ _] (h := a_pass2 (h := ?_)))
    (repeat' (first | ((with_reducible show G _ _ _ _ (Code.seq (Code.seq (Code.region 6 _ _) _) _) _ _ _ _); exact g_bang (tail _ w0 F0)) | refine g_seq (h := ?_) | refine g_region (h := ?_) | refine l_nil (h := ?_) | refine n_then (h := ?_) | refine l_pures1 (h := ?_) | refine l_guard_yes (h := ?_) | refine l_load (h := ?_) | refine g_skip (h := ?_) | refine a_done (h := ?_) | refine a_load (h := a_pass2 (h := ?_)) | (refine l_spF (h := ?_); intro h) | (refine g_spF (h := ?_); intro h)))
  · simp only [if_true] at g5 g6
    have e1 : (vals.length : Int) = keys.length := by omega
    have e2 : (kids.length : Int) = 0 := by omega
    refine does_of Tryz.func174 Tryz.ntmps174 rfl rfl rfl (fun w0 F0 => ?_)
    (repeat' (first | ((with_reducible show G _ _ _ _ (Code.seq (Code.seq (Code.region 6 _ _) _) _) _ _ _ _); exact g_bang (tail _ w0 F0)) | refine g_seq (h := ?_) | refine g_region (h := ?_) | refine l_nil (h := ?_) | refine n_then (h := ?_) | refine l_pures1 (h := ?_) | refine l_guard_yes (h := ?_) | refine l_load (h := ?_) | (refine l_box (h := ?_); intro _) | refine g_skip (h := ?_) | refine g_cond_f (h := ?_) | (refine l_spF (h := ?_); intro h) | (refine g_spF (h := ?_); intro h)))
theorem Right_does (d : Nd) (r : Rw) (hd : d.good) : Does Tryz.prog 155 [ndV d r] [Nds d r] (fun v H => v = .bool true ∧ H = [Nds d r]) := by
  have hf := hd.fits
  have hs := hd.size
  have h1 := hd.some
  have hp := plain_does d r hd.p hf
  have hz := ndSize_does d r hf
  have hk := hf.k
  obtain ⟨leaf, keys, vals, kids⟩ := d
  dsimp only at h1 hk
  cases leaf
  · refine does_of Tryz.func155 Tryz.ntmps155 rfl rfl rfl (fun w0 F0 => ?_)
    (repeat' (first | refine g_seq (h := ?_) | refine g_region (h := ?_) | refine l_nil (h := ?_) | refine n_then (h := ?_) | refine l_pures1 (h := ?_) | (refine l_atc ?_; refine l_call (hp) ?_) | (refine l_atc ?_; refine l_call (hz) ?_) | refine l_guard_yes (h := ?_) | refine l_guard_no (h := ?_) | refine l_load (h := ?_) | (refine l_box (h := ?_); intro _) | refine g_ret (h := ?_)))
    refine r_retk [Nds ⟨false, keys, vals, kids⟩ r] ?_
    exact ⟨by rw [decide_eq_true (by omega)]; rfl, rfl⟩
  · have h2 := h1 rfl
    refine does_of Tryz.func155 Tryz.ntmps155 rfl rfl rfl (fun w0 F0 => ?_)
    (repeat' (first | refine g_seq (h := ?_) | refine g_region (h := ?_) | refine l_nil (h := ?_) | refine n_then (h := ?_) | refine l_pures1 (h := ?_) | (refine l_atc ?_; refine l_call (hp) ?_) | (refine l_atc ?_; refine l_call (hz) ?_) | refine l_guard_yes (h := ?_) | refine l_load (h := ?_) | (refine l_box (h := ?_); intro _) | refine g_ret (h := ?_) | (refine l_spT (h := ?_); intro h)))
    refine r_retk [Nds ⟨true, keys, vals, kids⟩ r] ?_
    exact ⟨by rw [decide_eq_true (by omega)]; rfl, rfl⟩
end Go.Proofs.YtbdgnjlbmhnipaaGreat
/- Package node: a node's text, and back. -/
set_option maxRecDepth 20000
set_option linter.unusedVariables false
set_option linter.unusedSimpArgs false
namespace Go.Proofs.YtbdgnjlbmhnipaaGreat
open Go.Proofs.YtbdgnjlbmhnipaaGreat.SL

theorem numTake_put {n s : Nat} {r : List UInt8} (hs : 1 ≤ s ∧ s ≤ 8) (hn : n < 256 ^ s) : numTake (putN n s ++ r) s = (n, r, 0) := by
  have hl := putN_length s n
  rw [numTake, if_neg (by omega), if_neg (by rw [List.length_append, hl]; omega), Int.toNat_natCast, List.take_left' hl, List.drop_left' hl, getN_putN s n hn]
theorem rdNumber_does (rb n s : Nat) (r : List UInt8) (bad : Bool) (hs : 1 ≤ s ∧ s ≤ 8) (hn : n < 256 ^ s) (hr : r.length < 1000000) : Does Tryz.prog 158 [.pointer (some ⟨rb, 0, none⟩), .int .i64 s] [cl rb 249 [.string (str (putN n s ++ r)), .bool bad]]
    (fun v H => v = .int .u64 n ∧ H = [cl rb 249 [.string (str r), .bool bad]]) := by
  have hl := putN_length s n
  have ht := Take_does (putN n s ++ r) s (by omega) (by rw [List.length_append, hl]; omega)
  rw [numTake_put hs hn] at ht
  refine does_of Tryz.func158 Tryz.ntmps158 rfl rfl rfl (fun w0 F0 => ?_)
  cases bad
  · (repeat' (first | refine g_seq (h := ?_) | refine g_region (h := ?_) | refine l_nil (h := ?_) | refine n_then (h := ?_) | refine l_pures1 (h := ?_) | (refine l_atc ?_; refine l_call (ht) ?_) | refine l_guard_yes (h := ?_) | refine l_load (h := ?_) | refine l_store (h := ?_) | refine g_ret (h := ?_)))
    refine r_ret ?_
    exact ⟨rfl, rfl⟩
  · (repeat' (first | refine g_seq (h := ?_) | refine g_region (h := ?_) | refine l_nil (h := ?_) | refine n_then (h := ?_) | refine l_pures1 (h := ?_) | (refine l_atc ?_; refine l_call (ht) ?_) | refine l_guard_no (h := ?_) | refine l_load (h := ?_) | refine l_store (h := ?_) | refine g_ret (h := ?_)))
    refine r_ret ?_
    exact ⟨rfl, rfl⟩
theorem rdText_does (rb : Nat) (s r : List UInt8) (bad : Bool) (hs : s.length ≤ 255) (hr : r.length < 1000000) : Does Tryz.prog 159 [.pointer (some ⟨rb, 0, none⟩)] [cl rb 249 [.string (str (UInt8.ofNat s.length :: (s ++ r))), .bool bad]]
    (fun v H => v = .string (str s) ∧ H = [cl rb 249 [.string (str r), .bool bad]]) := by
  have ht := TakeText_does s r hs hr
  refine does_of Tryz.func159 Tryz.ntmps159 rfl rfl rfl (fun w0 F0 => ?_)
  cases bad
  · (repeat' (first | refine g_seq (h := ?_) | refine g_region (h := ?_) | refine l_nil (h := ?_) | refine n_then (h := ?_) | refine l_pures1 (h := ?_) | (refine l_atc ?_; refine l_call (ht) ?_) | refine l_guard_yes (h := ?_) | refine l_load (h := ?_) | refine l_store (h := ?_) | refine g_ret (h := ?_)))
    refine r_ret ?_
    exact ⟨rfl, rfl⟩
  · (repeat' (first | refine g_seq (h := ?_) | refine g_region (h := ?_) | refine l_nil (h := ?_) | refine n_then (h := ?_) | refine l_pures1 (h := ?_) | (refine l_atc ?_; refine l_call (ht) ?_) | refine l_guard_no (h := ?_) | refine l_load (h := ?_) | refine l_store (h := ?_) | refine g_ret (h := ?_)))
    refine r_ret ?_
    exact ⟨rfl, rfl⟩

theorem encNumber_does (b n s : Nat) (l : List UInt8) (hs : 1 ≤ s ∧ s ≤ 8) (hn : n < 256 ^ s) (hl : l.length < 100000) : Does Tryz.prog 156 [.int .u64 n, .int .i64 s, .pointer (some ⟨b, 0, none⟩)] [Bld b l] (fun v H => v = .tuple #[] ∧ H = [Bld b (l ++ putN n s)]) := by
  have h8 : (256 : Nat) ^ s ≤ 256 ^ 8 := Nat.pow_le_pow_right (by omega) hs.2
  have hp := Put_does n s (by omega) (by omega)
  have e : numPut n s = (putN n s, 0) := by rw [numPut, if_neg (by omega), Int.toNat_natCast, if_pos hn]
  rw [e] at hp
  have hw := bWriteString_does b l (putN n s) (by rw [putN_length]; omega)
  refine does_of Tryz.func156 Tryz.ntmps156 rfl rfl rfl (fun w0 F0 => ?_)
  (repeat' (first | refine g_seq (h := ?_) | refine g_region (h := ?_) | refine l_nil (h := ?_) | refine n_then (h := ?_) | refine l_pures1 (h := ?_) | (refine l_atc ?_; refine l_call (hp) ?_) | (refine l_atc ?_; refine l_call_ (hw) ?_; rintro _ _ _ ⟨_, rfl⟩ he; cases he)))
  refine r_end ?_
  exact ⟨rfl, rfl⟩

theorem encNum2 (b n : Nat) (l : List UInt8) (hn : n < 256 ^ 2) (hl : l.length < 100000) : Does Tryz.prog 156 [.int .u64 n, .int .i64 2, .pointer (some ⟨b, 0, none⟩)] [Bld b l] (fun v H => v = .tuple #[] ∧ H = [Bld b (l ++ putN n 2)]) := encNumber_does b n 2 l (by omega) hn hl
theorem encNum8 (b n : Nat) (l : List UInt8) (hn : n < 256 ^ 8) (hl : l.length < 100000) : Does Tryz.prog 156 [.int .u64 n, .int .i64 8, .pointer (some ⟨b, 0, none⟩)] [Bld b l] (fun v H => v = .tuple #[] ∧ H = [Bld b (l ++ putN n 8)]) := encNumber_does b n 8 l (by omega) hn hl
theorem rdNum1 (rb n : Nat) (r : List UInt8) (bad : Bool) (hn : n < 256 ^ 1) (hr : r.length < 1000000) : Does Tryz.prog 158 [.pointer (some ⟨rb, 0, none⟩), .int .i64 1] [cl rb 249 [.string (str (putN n 1 ++ r)), .bool bad]]
    (fun v H => v = .int .u64 n ∧ H = [cl rb 249 [.string (str r), .bool bad]]) := rdNumber_does rb n 1 r bad (by omega) hn hr
theorem rdNum2 (rb n : Nat) (r : List UInt8) (bad : Bool) (hn : n < 256 ^ 2) (hr : r.length < 1000000) : Does Tryz.prog 158 [.pointer (some ⟨rb, 0, none⟩), .int .i64 2] [cl rb 249 [.string (str (putN n 2 ++ r)), .bool bad]]
    (fun v H => v = .int .u64 n ∧ H = [cl rb 249 [.string (str r), .bool bad]]) := rdNumber_does rb n 2 r bad (by omega) hn hr
theorem rdNum8 (rb n : Nat) (r : List UInt8) (bad : Bool) (hn : n < 256 ^ 8) (hr : r.length < 1000000) : Does Tryz.prog 158 [.pointer (some ⟨rb, 0, none⟩), .int .i64 8] [cl rb 249 [.string (str (putN n 8 ++ r)), .bool bad]]
    (fun v H => v = .int .u64 n ∧ H = [cl rb 249 [.string (str r), .bool bad]]) := rdNumber_does rb n 8 r bad (by omega) hn hr
theorem kid_lt {i : Int} (h : 2 ≤ i ∧ i < 640) : i.toNat < 256 ^ 2 := by omega
theorem wrapKid {i : Int} (h : 2 ≤ i ∧ i < 640) : IntKind.u64.wrap i = ((i.toNat : Nat) : Int) := by rw [IntKind.wrap_u64]; omega
set_option maxHeartbeats 2000000 in
theorem Encode_does (d : Nd) (r : Rw) (hd : d.good) : Does Tryz.prog 141 [ndV d r] [Nds d r] (fun v H => v = .tuple #[.string (str d.text), .int .i64 0] ∧ H = [Nds d r]) := by
  have hf := hd.fits
  have hR := Right_does d r hd
  have hs := hd.size
  have htl := d.text_len hd.p
  have hpl : ∀ j, j ≤ d.keys.length → d.headT.length + (d.partT 0 j).length ≤ 240 := by
    intro j hj
    have h1 := Nd.partT_len hj (fun hl => valsLen hd.p hl)
    have h2 := Nd.partT_len (Nat.le_refl d.keys.length) (fun hl => valsLen hd.p hl)
    rw [Nd.text, List.length_append] at htl
    have h3 := sumL_take_le d.vals j
    have h4 : d.leaf = true → d.vals.take d.keys.length = d.vals := fun hl => by rw [← valsLen hd.p hl, List.take_length]
    cases hl : d.leaf
    · simp only [hl, Bool.false_eq_true, if_false] at h1 h2; omega
    · rw [h4 hl] at h2
      simp only [hl, if_true] at h1 h2; omega
  have htx : d.text = d.headT ++ d.partT 0 d.keys.length := rfl
  have hsn := d.partT_snoc
  have hpn : d.partT 0 0 = [] := rfl
  have hent : d.entT = fun i => putN (d.keys.getD i 0) 8 ++ if d.leaf then UInt8.ofNat (d.vals.getD i []).length :: d.vals.getD i [] else putN (d.kids.getD (i + 1) 0).toNat 2 := rfl
  have hhead : d.headT = if d.leaf then [1] else 2 :: putN (d.kids.getD 0 0).toNat 2 := rfl
  generalize d.headT = hd0 at *
  generalize d.text = tx at *
  obtain ⟨⟨g1, g2, g3, g4, g5, g6⟩, g7, g8⟩ := hd
  obtain ⟨f1, f2, f3, f4⟩ := hf
  generalize hpt : d.partT = pt at *
  generalize d.entT = en at *
  clear hpt
  obtain ⟨leaf, keys, vals, kids⟩ := d
  obtain ⟨p1, c1, p2, c2, p3, c3⟩ := r
  dsimp only at g1 g2 g3 g4 g5 g6 g7 f1 f2 f3 f4 hpl htx hsn hent hhead
  have hw1 : ∀ b, Does Tryz.prog 157 [.pointer (some ⟨b, 0, none⟩), .int .u8 1] [Bld b []] (fun v H => (∃ x, v = x) ∧ H = [Bld b ([] ++ [1])]) := fun b => bWriteByte_does b [] 1 (by simp)
  have hw2 : ∀ b, Does Tryz.prog 157 [.pointer (some ⟨b, 0, none⟩), .int .u8 2] [Bld b []] (fun v H => (∃ x, v = x) ∧ H = [Bld b ([] ++ [2])]) := fun b => bWriteByte_does b [] 2 (by simp)
  have hp0 : pt 0 0 = [] := hpn
  cases leaf
  · simp only [Bool.false_eq_true, if_false] at g5 g6 hhead hent
    have hk0 : 2 ≤ kids.getD 0 0 ∧ kids.getD 0 0 < 640 := g4 _ (getD_mem (by omega))
    refine does_of Tryz.func141 Tryz.ntmps141 rfl rfl rfl (fun w0 F0 => ?_)
    (repeat' (first | refine g_seq (h := ?_) | refine g_region (h := ?_) | refine l_nil (h := ?_) | refine n_then (h := ?_) | refine l_pures1 (h := ?_) | (refine l_atc ?_; refine l_call (hR) ?_) | refine l_load (h := ?_) | (refine l_box (h := ?_); intro _) | (refine l_alloc (h := ?_); intro _) | refine g_skip (h := ?_) | refine g_cond_f (h := ?_)))
    rename_i b1 b2
    refine l_inv (fun i => vec_nil (5) (1) i) ?_
    (refine l_shut (A := Bld b2 []) (K := BldK b2 [] (((none : Option Addr), (none : Option Addr), 0))) (hid_shuts (((none : Option Addr), (none : Option Addr), 0)) (Or.inl rfl)) (h := ?_) (p := by dsimp only [BldK]; (try simp only [List.map_nil, List.length_nil, List.length_set, List.length_append, List.length_cons, List.length_singleton, List.map_append, List.map_cons, Nat.zero_add, bsV]); exact parts_of))
    refine l_open (A := Nds ⟨false, keys, vals, kids⟩ ⟨p1, c1, p2, c2, p3, c3⟩) (h := ?_); (rintro _ _; dsimp only [NdsK, List.cons_append, List.nil_append])
    refine l_ptr (m := kids.length) (h := ?_); rintro g rfl hc
    have hg0 : (kids.map encZ')[0 + Int.toNat 0 * 1]? = some (.int .i64 (kids.getD 0 0)) := iGet (k := 0) (by omega)
    (repeat' (first | refine g_region (h := ?_) | refine l_nil (h := ?_) | refine n_then (h := ?_) | refine l_pures1 (h := ?_) | (refine l_atc ?_; refine l_call_ (hw2 _) ?_; rintro _ _ _ ⟨_, rfl⟩ he; cases he) | refine l_load (h := ?_) | refine l_indexAddr (h := ?_) | refine l_load_vec (h := ?_)))
    rw [wrapKid hk0]
    (repeat' (first | refine g_seq (h := ?_) | refine g_region (h := ?_) | refine l_nil (h := ?_) | refine n_then (h := ?_) | refine l_pures1 (h := ?_) | (refine l_atc ?_; refine l_call (encNum2 b2 (kids.getD 0 0).toNat ([] ++ [2]) (kid_lt hk0) (by simp)) ?_) | refine l_load (h := ?_) | refine g_block (h := ?_)))
    rw [show [] ++ [2] ++ putN (kids.getD 0 0).toNat 2 = hd0 from by rw [hhead]; rfl]
    (refine g_loop (fun j : Nat => [(28, .int .i64 j), (27, .int .i64 keys.length), (26, .slice p1 keys.length c1), (1, .pointer (some ⟨b1, 0, none⟩)), (4, .pointer (some ⟨b2, 0, none⟩)), (5, .func (.func 156) #[] #[.pointer (some ⟨b2, 0, none⟩)])]) (fun j => Bld b2 (hd0 ++ pt 0 j) :: cl b1 140 [.bool false, .slice p1 keys.length c1, .slice p2 vals.length c2, .slice (some ⟨g, 0, none⟩) kids.length c3] :: NdsK ⟨false, keys, vals, kids⟩ ⟨p1, c1, p2, c2, some ⟨g, 0, none⟩, c3⟩ ()) (fun j => j ≤ keys.length) (fun j => keys.length - j) (0) ?_ ?_ ?_ ?_; rotate_left; (repeat (first | refine ts_nil | (refine ts_cons rfl ?_ ?_; first | (with_reducible rfl) | rotate_left))); (first | (intro _ i; with_reducible refine i) | rotate_left); rotate_left; (try omega); rotate_right)
    · intro j hj
      dsimp only [NdsK]
      have hpj := hpl j hj
      (repeat' (first | refine g_seq (h := ?_) | refine g_region (h := ?_) | refine l_nil (h := ?_) | refine n_then (h := ?_) | refine l_pures1 (h := ?_) | refine g_skip (h := ?_) | refine g_block (h := ?_) | refine g_exit (h := ?_) | refine n_then_exit (h := ?_) | refine n_block_hit (h := ?_) | (refine g_sp (h1 := ?_) (h0 := ?_) <;> intro h)))
      · have hlt : j < keys.length := by omega
        refine l_ptr (m := keys.length) (h := ?_); rintro g1' rfl hc1
        have hg := uGet hlt
        have hgk := iGet (l := kids) (k := j + 1) (by omega)
        have hk := g4 _ (getD_mem (l := kids) (i := j + 1) (z := 0) (by omega))
        have hkey := g2 _ (getD_mem (l := keys) (i := j) (z := 0) hlt)
        have ew : IntKind.i64.wrap ((j : Int) + 1) = ((j + 1 : Nat) : Int) := by rw [wrapI64 (by omega)]; rfl
        (repeat' (first | refine g_seq (h := ?_) | refine g_region (h := ?_) | refine l_nil (h := ?_) | refine n_then (h := ?_) | refine l_pures1 (h := ?_) | (refine l_atc ?_; refine l_call (encNum8 b2 (keys.getD j 0) (hd0 ++ pt 0 j) (by omega) (by rw [List.length_append]; omega)) ?_) | refine l_load (h := ?_) | refine l_indexAddr (h := ?_) | refine g_skip (h := ?_) | refine g_cond_f (h := ?_) | refine l_load_vec (h := ?_)))
        rw [ew]
        (repeat' (first | refine l_pures1 (h := ?_) | refine l_load_vec (h := ?_)))
        rw [wrapKid hk]
        (repeat' (first | refine g_region (h := ?_) | refine l_nil (h := ?_) | refine n_then (h := ?_) | refine l_pures1 (h := ?_) | (refine l_atc ?_; refine l_call (encNum2 b2 (kids.getD (j + 1) 0).toNat (hd0 ++ pt 0 j ++ putN (keys.getD j 0) 8) (kid_lt hk) (by rw [List.length_append, List.length_append, putN_length]; omega)) ?_) | refine n_block (h := ?_)))
        have e2 : hd0 ++ pt 0 j ++ putN (keys.getD j 0) 8 ++ putN (kids.getD (j + 1) 0).toNat 2 = hd0 ++ pt 0 (j + 1) := by rw [hsn, hent]; simp
        rw [e2]
        (refine n_back (j + 1) ?_ ?_ ?_ ?_; rotate_left; rotate_left; (repeat (first | refine ts_nil | (refine ts_cons rfl ?_ ?_; first | (with_reducible rfl) | rotate_left))); (first | (intro _ i; with_reducible refine i) | rotate_left); (try omega); (try omega))
        · rw [ew]
        all_goals (intro _ i; exact inv_keep parts_of i)
      · obtain rfl : j = keys.length := by omega
        (repeat' (first | refine l_nil (h := ?_) | refine n_then (h := ?_) | refine l_pures1 (h := ?_) | (refine l_atc ?_; refine l_call (bString_does b2 (hd0 ++ pt 0 keys.length) (by rw [hhead]; simp)) ?_) | refine g_ret (h := ?_)))
        (refine n_shut (A := Nds ⟨false, keys, vals, kids⟩ ⟨p1, c1, p2, c2, some ⟨g, 0, none⟩, c3⟩) (K := NdsK ⟨false, keys, vals, kids⟩ ⟨p1, c1, p2, c2, some ⟨g, 0, none⟩, c3⟩ (())) (hid_shuts (()) trivial) (h := ?_) (p := by dsimp only [NdsK]; (try simp only [List.map_nil, List.length_nil, List.length_set, List.length_append, List.length_cons, List.length_singleton, List.map_append, List.map_cons, Nat.zero_add]); exact parts_of))
        refine r_retk [Nds ⟨false, keys, vals, kids⟩ ⟨p1, c1, p2, c2, some ⟨g, 0, none⟩, c3⟩] ?_
        exact ⟨by rw [htx]; rfl, rfl⟩
    · rfl
    · rw [hp0, List.append_nil]
      (intro _ i; exact inv_keep parts_of i)
  · simp only [if_true] at g5 g6 hhead hent
    refine does_of Tryz.func141 Tryz.ntmps141 rfl rfl rfl (fun w0 F0 => ?_)
    (repeat' (first | refine g_seq (h := ?_) | refine g_region (h := ?_) | refine l_nil (h := ?_) | refine n_then (h := ?_) | refine l_pures1 (h := ?_) | (refine l_atc ?_; refine l_call (hR) ?_) | refine l_load (h := ?_) | (refine l_box (h := ?_); intro _) | (refine l_alloc (h := ?_); intro _) | refine g_skip (h := ?_) | refine g_cond_t (h := ?_) | refine g_cond_f (h := ?_)))
    rename_i b1 b2
    refine l_inv (fun i => vec_nil (5) (1) i) ?_
    (refine l_shut (A := Bld b2 []) (K := BldK b2 [] (((none : Option Addr), (none : Option Addr), 0))) (hid_shuts (((none : Option Addr), (none : Option Addr), 0)) (Or.inl rfl)) (h := ?_) (p := by dsimp only [BldK]; (try simp only [List.map_nil, List.length_nil, List.length_set, List.length_append, List.length_cons, List.length_singleton, List.map_append, List.map_cons, Nat.zero_add, bsV]); exact parts_of))
    refine l_open (A := Nds ⟨true, keys, vals, kids⟩ ⟨p1, c1, p2, c2, p3, c3⟩) (h := ?_); (rintro _ _; dsimp only [NdsK, List.cons_append, List.nil_append])
    (repeat' (first | refine g_seq (h := ?_) | refine g_region (h := ?_) | refine l_nil (h := ?_) | refine n_then (h := ?_) | refine l_pures1 (h := ?_) | (refine l_atc ?_; refine l_call_ (hw1 _) ?_; rintro _ _ _ ⟨_, rfl⟩ he; cases he) | refine l_load (h := ?_) | refine g_block (h := ?_)))
    rw [show ([] : List UInt8) ++ [1] = hd0 from by rw [hhead]; rfl]
    (refine g_loop (fun j : Nat => [(28, .int .i64 j), (27, .int .i64 keys.length), (26, .slice p1 keys.length c1), (1, .pointer (some ⟨b1, 0, none⟩)), (4, .pointer (some ⟨b2, 0, none⟩)), (5, .func (.func 156) #[] #[.pointer (some ⟨b2, 0, none⟩)])]) (fun j => Bld b2 (hd0 ++ pt 0 j) :: cl b1 140 [.bool true, .slice p1 keys.length c1, .slice p2 vals.length c2, .slice p3 kids.length c3] :: NdsK ⟨true, keys, vals, kids⟩ ⟨p1, c1, p2, c2, p3, c3⟩ ()) (fun j => j ≤ keys.length) (fun j => keys.length - j) (0) ?_ ?_ ?_ ?_; rotate_left; (repeat (first | refine ts_nil | (refine ts_cons rfl ?_ ?_; first | (with_reducible rfl) | rotate_left))); (first | (intro _ i; with_reducible refine i) | rotate_left); rotate_left; (try omega); rotate_right)
    · intro j hj
      dsimp only [NdsK]
      have hpj := hpl j hj
      (repeat' (first | refine g_seq (h := ?_) | refine g_region (h := ?_) | refine l_nil (h := ?_) | refine n_then (h := ?_) | refine l_pures1 (h := ?_) | refine g_skip (h := ?_) | refine g_block (h := ?_) | refine g_exit (h := ?_) | refine n_then_exit (h := ?_) | refine n_block_hit (h := ?_) | (refine g_sp (h1 := ?_) (h0 := ?_) <;> intro h)))
      · have hlt : j < keys.length := by omega
        refine l_ptr (m := keys.length) (h := ?_); rintro g1' rfl hc1
        refine l_ptr (m := vals.length) (h := ?_); rintro g2' rfl hc2
        have hg := uGet hlt
        have hgv := sGet (l := vals) (k := j) (by omega)
        have hv := g3 _ (getD_mem (l := vals) (i := j) (z := []) (by omega))
        have hkey := g2 _ (getD_mem (l := keys) (i := j) (z := 0) hlt)
        have ew : IntKind.i64.wrap ((j : Int) + 1) = ((j + 1 : Nat) : Int) := by rw [wrapI64 (by omega)]; rfl
        (repeat' (first | refine g_seq (h := ?_) | refine g_region (h := ?_) | refine l_nil (h := ?_) | refine n_then (h := ?_) | refine l_pures1 (h := ?_) | (refine l_atc ?_; refine l_call (encNum8 b2 (keys.getD j 0) (hd0 ++ pt 0 j) (by omega) (by rw [List.length_append]; omega)) ?_) | (refine l_atc ?_; refine l_call (Text_does (vals.getD j []) (by omega)) ?_) | (refine l_atc ?_; refine l_call_ (bWriteString_does b2 (hd0 ++ pt 0 j ++ putN (keys.getD j 0) 8) (UInt8.ofNat (vals.getD j []).length :: vals.getD j []) (by rw [List.length_append, List.length_append, putN_length, List.length_cons]; omega)) ?_; rintro _ _ _ ⟨_, rfl⟩ he; cases he) | refine l_load (h := ?_) | refine l_indexAddr (h := ?_) | refine g_exit (h := ?_) | refine n_then_exit (h := ?_) | refine n_block_hit (h := ?_) | refine g_cond_t (h := ?_) | refine l_load_vec (h := ?_)))
        have e2 : hd0 ++ pt 0 j ++ putN (keys.getD j 0) 8 ++ UInt8.ofNat (vals.getD j []).length :: vals.getD j [] = hd0 ++ pt 0 (j + 1) := by rw [hsn, hent]; simp
        rw [e2]
        (refine n_back (j + 1) ?_ ?_ ?_ ?_; rotate_left; rotate_left; (repeat (first | refine ts_nil | (refine ts_cons rfl ?_ ?_; first | (with_reducible rfl) | rotate_left))); (first | (intro _ i; with_reducible refine i) | rotate_left); (try omega); (try omega))
        · rw [ew]
        all_goals (intro _ i; exact inv_keep parts_of i)
      · obtain rfl : j = keys.length := by omega
        (repeat' (first | refine l_nil (h := ?_) | refine n_then (h := ?_) | refine l_pures1 (h := ?_) | (refine l_atc ?_; refine l_call (bString_does b2 (hd0 ++ pt 0 keys.length) (by rw [hhead]; simp)) ?_) | refine g_ret (h := ?_)))
        (refine n_shut (A := Nds ⟨true, keys, vals, kids⟩ ⟨p1, c1, p2, c2, p3, c3⟩) (K := NdsK ⟨true, keys, vals, kids⟩ ⟨p1, c1, p2, c2, p3, c3⟩ (())) (hid_shuts (()) trivial) (h := ?_) (p := by dsimp only [NdsK]; (try simp only [List.map_nil, List.length_nil, List.length_set, List.length_append, List.length_cons, List.length_singleton, List.map_append, List.map_cons, Nat.zero_add]); exact parts_of))
        refine r_retk [Nds ⟨true, keys, vals, kids⟩ ⟨p1, c1, p2, c2, p3, c3⟩] ?_
        exact ⟨by rw [htx]; rfl, rfl⟩
    · rfl
    · rw [hp0, List.append_nil]
      (intro _ i; exact inv_keep parts_of i)
end Go.Proofs.YtbdgnjlbmhnipaaGreat
/- Package node: the node of a text. -/
set_option maxRecDepth 20000
set_option linter.unusedVariables false
set_option linter.unusedSimpArgs false
namespace Go.Proofs.YtbdgnjlbmhnipaaGreat
open Go.Proofs.YtbdgnjlbmhnipaaGreat.SL

theorem uV_snoc {l : List Nat} {j : Nat} (h : j < l.length) : uV (l.take j) ++ [Value.int .u64 (l.getD j 0 : Nat)] = uV (l.take (j + 1)) := by
  rw [List.take_succ_eq_append_getElem h, uV, uV, List.map_append]; simp [List.getD, h]
theorem encS_snoc {l : List (List UInt8)} {j : Nat} (h : j < l.length) : (l.take j).map encS ++ [Value.string (str (l.getD j []))] = (l.take (j + 1)).map encS := by
  rw [List.take_succ_eq_append_getElem h, List.map_append]; simp [encS, List.getD, h]
theorem encZ_snoc {l : List Int} {j : Nat} (h : j < l.length) : (l.take j).map encZ' ++ [Value.int .i64 (l.getD j 0)] = (l.take (j + 1)).map encZ' := by
  rw [List.take_succ_eq_append_getElem h, List.map_append]; simp [encZ', List.getD, h]
theorem wrapKid2 {i : Int} (h : 2 ≤ i ∧ i < 640) : IntKind.i64.wrap ((i.toNat : Nat) : Int) = i := by rw [wrapI64 (by omega)]; omega
theorem put_ne (n s : Nat) (r : List UInt8) : ((putN n (s + 1) ++ r) == []) = false := by
  have : (putN n (s + 1) ++ r) ≠ [] := by
    intro q; have := congrArg List.length q; rw [List.length_append, putN_length] at this; simp at this
  simpa using this

set_option maxHeartbeats 4000000 in
theorem DecodeL_does (keys : List Nat) (vals : List (List UInt8)) (hd : Nd.good ⟨true, keys, vals, []⟩) : Does Tryz.prog 144 [.string (str (Nd.text ⟨true, keys, vals, []⟩))] [] (fun v H => ∃ r, v = .tuple #[ndV ⟨true, keys, vals, []⟩ r, .int .i64 0] ∧ H = [Nds ⟨true, keys, vals, []⟩ r]) := by
  have hf := hd.fits
  have hR := fun r => Right_does ⟨true, keys, vals, []⟩ r hd
  have hs := hd.size
  have htl := Nd.text_len hd.p
  have htx : Nd.text ⟨true, keys, vals, []⟩ = putN 1 1 ++ Nd.partT ⟨true, keys, vals, []⟩ 0 keys.length := rfl
  have hcons := Nd.partT_cons ⟨true, keys, vals, []⟩
  have hent : Nd.entT ⟨true, keys, vals, []⟩ = fun i => putN (keys.getD i 0) 8 ++ UInt8.ofNat (vals.getD i []).length :: vals.getD i [] := rfl
  have hvl := valsLen hd.p rfl
  have hpl : ∀ j, j ≤ keys.length → (Nd.partT ⟨true, keys, vals, []⟩ j (keys.length - j)).length ≤ 1000 := by
    intro j hj
    have h2 : Nd.partT ⟨true, keys, vals, []⟩ 0 keys.length = Nd.partT ⟨true, keys, vals, []⟩ 0 j ++ Nd.partT ⟨true, keys, vals, []⟩ j (keys.length - j) := by
      rw [Nd.partT, Nd.partT, Nd.partT, ← List.flatMap_append]
      congr 1
      have := List.range'_append_1 (s := 0) (m := j) (n := keys.length - j)
      rw [Nat.zero_add, show j + (keys.length - j) = keys.length by omega] at this
      exact this.symm
    rw [htx, List.length_append, h2, List.length_append] at htl
    omega
  obtain ⟨⟨g1, g2, g3, g4, g5, g6⟩, g7, g8⟩ := hd
  obtain ⟨f1, f2, f3, f4⟩ := hf
  dsimp only at g1 g2 g3 g4 g5 g6 g7 f1 f2 f3 f4 hvl
  generalize Nd.text ⟨true, keys, vals, []⟩ = tx at *
  generalize Nd.entT ⟨true, keys, vals, []⟩ = en at *
  have hpz : Nd.partT ⟨true, keys, vals, []⟩ keys.length 0 = [] := rfl
  generalize Nd.partT ⟨true, keys, vals, []⟩ = pt at *
  rw [htx]
  have hr1 : ∀ rb, Does Tryz.prog 158 [.pointer (some ⟨rb, 0, none⟩), .int .i64 1] [cl rb 249 [.string (str (putN 1 1 ++ pt 0 keys.length)), .bool false]]
    (fun v H => v = .int .u64 1 ∧ H = [cl rb 249 [.string (str (pt 0 keys.length)), .bool false]]) := fun rb => rdNum1 rb 1 _ false (by omega) (by have := hpl 0 (Nat.zero_le _); rw [Nat.sub_zero] at this; omega)
  refine does_of Tryz.func144 Tryz.ntmps144 rfl rfl rfl (fun w0 F0 => ?_)
  (repeat' (first | refine g_seq (h := ?_) | refine g_region (h := ?_) | refine l_nil (h := ?_) | refine n_then (h := ?_) | refine l_pures1 (h := ?_) | (refine l_atc ?_; refine l_call (hr1 _) ?_) | refine l_guard_yes (h := ?_) | refine l_guard_no (h := ?_) | refine l_load (h := ?_) | refine l_store (h := ?_) | (refine l_box (h := ?_); intro _) | (refine l_alloc (h := ?_); intro _) | refine g_skip (h := ?_) | refine g_block (h := ?_) | refine g_cond_f (h := ?_)))
  rename_i rs rb nb
  rw [show ((1 : Int) == 1) = true from rfl]
  refine g_inv (fun i => vec_nil (32) (1) i) ?_
  refine g_inv (fun i => vec_nil (9) (1) i) ?_
  refine g_inv (fun i => vec_nil (3) (1) i) ?_
  (refine g_loop (fun y : Nat × Rw => [(4, .pointer (some ⟨rb, 0, none⟩)), (6, .pointer (some ⟨nb, 0, none⟩)), (2, .pointer (some ⟨rs, 0, none⟩))]) (fun y => [cl nb 140 [.bool true, .slice y.2.p1 y.1 y.2.c1, .slice y.2.p2 y.1 y.2.c2, .slice none 0 0], cl rb 249 [.string (str (pt y.1 (keys.length - y.1))), .bool false], cl rs 140 [.bool false, .slice none 0 0, .slice none 0 0, .slice none 0 0], vec 32 1 y.2.p1 y.1 y.2.c1 (uV (keys.take y.1)), vec 9 1 y.2.p2 y.1 y.2.c2 ((vals.take y.1).map encS), vec 3 1 none 0 0 []]) (fun y => y.1 ≤ keys.length) (fun y => keys.length - y.1) ((0, Rw.mk none 0 none 0 none 0)) ?_ ?_ ?_ ?_; rotate_left; (repeat (first | refine ts_nil | (refine ts_cons rfl ?_ ?_; first | (with_reducible rfl) | rotate_left))); (first | (intro _ i; with_reducible refine i) | rotate_left); rotate_left; (try omega); rotate_right)
  · rintro ⟨j, ⟨p1, c1, p2, c2, p3, c3⟩⟩ hj
    dsimp only at hj ⊢
    by_cases hlt : j < keys.length
    · have hv := g3 _ (getD_mem (l := vals) (i := j) (z := []) (by omega))
      have hkey := g2 _ (getD_mem (l := keys) (i := j) (z := 0) hlt)
      have hp1 := hpl (j + 1) hlt
      have e1 : pt j (keys.length - j) = putN (keys.getD j 0) 8 ++ (UInt8.ofNat (vals.getD j []).length :: (vals.getD j [] ++ pt (j + 1) (keys.length - (j + 1)))) := by
        rw [show keys.length - j = (keys.length - (j + 1)) + 1 by omega, hcons, hent]; simp
      have e2 := put_ne (keys.getD j 0) 7 (UInt8.ofNat (vals.getD j []).length :: (vals.getD j [] ++ pt (j + 1) (keys.length - (j + 1))))
      have hl1 : (UInt8.ofNat (vals.getD j []).length :: (vals.getD j [] ++ pt (j + 1) (keys.length - (j + 1)))).length < 1000000 := by rw [List.length_cons, List.length_append]; omega
      rw [e1]
      (repeat (first | refine g_seq (h := ?_) | refine g_region (h := ?_) | refine l_nil (h := ?_) | refine n_then (h := ?_) | refine l_pures1 (h := ?_) | refine l_guard_yes (h := ?_) | refine l_load (h := ?_) | refine g_skip (h := ?_) | refine g_block (h := ?_) | refine g_cond_t (h := ?_)))
      rw [e2]
      (repeat' fail)
      (refine g_draw [] (h := a_pass2 (h := ?_)))
      (repeat' (first | refine g_seq (h := ?_) | refine g_region (h := ?_) | refine l_nil (h := ?_) | refine n_then (h := ?_) | refine l_pures1 (h := ?_) | (refine l_atc ?_; refine l_call (rdNum8 rb (keys.getD j 0) _ false (by omega) hl1) ?_) | refine l_load (h := ?_) | refine l_store (h := ?_) | (refine l_buildSlice1 (h := ?_); intro _) | (refine l_append_new (h := ?_); intro _ _) | refine a_done (h := ?_) | refine a_one (h := ?_) | refine n_any (h := a_pass2 (h := ?_)) | refine g_cond_t (h := ?_) | refine a_fork2 (h1 := ?_) (h2 := ?_) | refine a1_of (h := ?_)))
      all_goals
        rename_i b1 pk ck
        rw [uV_snoc hlt]
      all_goals
        (refine g_draw [] (h := a_pass2 (h := ?_)))
      all_goals
        (repeat' (first | refine l_nil (h := ?_) | (refine l_atc ?_; refine l_call (rdText_does rb (vals.getD j []) (pt (j + 1) (keys.length - (j + 1))) false (by omega) (by omega)) ?_) | refine l_load (h := ?_) | refine l_store (h := ?_) | (refine l_buildSlice1 (h := ?_); intro _) | (refine l_append_new (h := ?_); intro _ _) | refine a_done (h := ?_) | refine a_one (h := ?_) | refine n_any (h := a_pass2 (h := ?_)) | refine n_block (h := ?_) | refine a_fork2 (h1 := ?_) (h2 := ?_) | refine a1_of (h := ?_)))
      all_goals
        rename_i b2 pv cv
        rw [encS_snoc (by omega)]
      all_goals
        (refine n_back ((j + 1, Rw.mk pk ck pv cv p3 c3)) ?_ ?_ ?_ ?_; rotate_left; rotate_left; (repeat (first | refine ts_nil | (refine ts_cons rfl ?_ ?_; first | (with_reducible rfl) | rotate_left))); (first | (intro _ i; with_reducible refine i) | rotate_left); (try omega); (try omega))
      all_goals (intro _ i; exact inv_keep parts_of i)
    · obtain rfl : j = keys.length := by omega
      rw [Nat.sub_self, hpz, List.take_length, show vals.take keys.length = vals by rw [← hvl, List.take_length]]
      have hvv : vec 9 1 p2 keys.length c2 (vals.map encS) = vec 9 1 p2 vals.length c2 (vals.map encS) := by rw [hvl]
      rw [hvv]
      (refine g_shut (A := Nds ⟨true, keys, vals, []⟩ ⟨p1, c1, p2, c2, none, 0⟩) (K := NdsK ⟨true, keys, vals, []⟩ ⟨p1, c1, p2, c2, none, 0⟩ (())) (hid_shuts (()) trivial) (h := ?_) (p := by dsimp only [NdsK]; (try simp only [List.map_nil, List.length_nil, List.length_set, List.length_append, List.length_cons, List.length_singleton, List.map_append, List.map_cons, Nat.zero_add]); exact parts_of))
      have hR2 : Does Tryz.prog 155 [.agg #[.bool true, .slice p1 keys.length c1, .slice p2 keys.length c2, .slice none 0 0]] [Nds ⟨true, keys, vals, []⟩ ⟨p1, c1, p2, c2, none, 0⟩] (fun v H => v = .bool true ∧ H = [Nds ⟨true, keys, vals, []⟩ ⟨p1, c1, p2, c2, none, 0⟩]) := by
        have := hR ⟨p1, c1, p2, c2, none, 0⟩
        simp only [ndV, ndA, hvl] at this
        exact this
      (repeat' (first | refine g_seq (h := ?_) | refine g_region (h := ?_) | refine l_nil (h := ?_) | refine n_then (h := ?_) | refine l_pures1 (h := ?_) | (refine l_atc ?_; refine l_call (hR2) ?_) | refine l_guard_yes (h := ?_) | refine l_guard_no (h := ?_) | refine l_load (h := ?_) | refine l_store (h := ?_) | refine g_skip (h := ?_) | refine g_ret (h := ?_) | refine g_exit (h := ?_) | refine n_then_exit (h := ?_) | refine n_block_hit (h := ?_) | refine g_cond_f (h := ?_)))
      refine r_retk [Nds ⟨true, keys, vals, []⟩ ⟨p1, c1, p2, c2, none, 0⟩] ?_
      exact ⟨⟨p1, c1, p2, c2, none, 0⟩, by simp only [ndV, ndA, hvl]; rfl, rfl⟩
  · simp only [Nat.sub_zero, List.take_zero, List.map_nil, uV]
    (intro _ i; exact inv_keep parts_of i)

/-- One kid of a branch is read. -/
theorem decB_body (rb nb rs : Nat) (kid : Int) (rest : List UInt8) (j : Nat) (ks : List Int) (keys : List Nat) (pk : Option Addr) (ck : Nat) (p3 : Option Addr) (c3 : Nat) (hk : 2 ≤ kid ∧ kid < 640) (hr : rest.length < 1000000) (hj : j < 1000) (w0 : World) (F0 : Nat → Prop) (Q : Exit → Act → World → Prop) (hc : SL.Calm Q)
    (h : ∀ p' c', N 86 w0 F0 .normal Q [(4, .pointer (some ⟨rb, 0, none⟩)), (6, .pointer (some ⟨nb, 0, none⟩)), (2, .pointer (some ⟨rs, 0, none⟩))] [] [cl nb 140 [.bool false, .slice pk (j + 1) ck, .slice none 0 0, .slice p' (j + 1 + 1) c'], cl rb 249 [.string (str rest), .bool false], vec 3 1 p' (j + 1 + 1) c' (ks.map encZ' ++ [.int .i64 kid]), cl rs 140 [.bool false, .slice none 0 0, .slice none 0 0, .slice none 0 0], vec 32 1 pk (j + 1) ck (uV keys), vec 9 1 none 0 0 []]) :
    G Tryz.prog 86 w0 F0 (nav [1, 1, 1, 1, 1, 1, 0, 2, 2, 1, 2, 1, 1, 1] (bdy Tryz.f144)) Q [(4, .pointer (some ⟨rb, 0, none⟩)), (6, .pointer (some ⟨nb, 0, none⟩)), (2, .pointer (some ⟨rs, 0, none⟩))] [] [cl nb 140 [.bool false, .slice pk (j + 1) ck, .slice none 0 0, .slice p3 (j + 1) c3], cl rb 249 [.string (str (putN kid.toNat 2 ++ rest)), .bool false], vec 3 1 p3 (j + 1) c3 (ks.map encZ'), cl rs 140 [.bool false, .slice none 0 0, .slice none 0 0, .slice none 0 0], vec 32 1 pk (j + 1) ck (uV keys), vec 9 1 none 0 0 []] := by
  obtain ⟨c, hc⟩ : ∃ c, c = nav [1, 1, 1, 1, 1, 1, 0, 2, 2, 1, 2, 1, 1, 1] (bdy Tryz.f144) := ⟨_, rfl⟩
  rw [← hc]
  dsimp only [nav, bdy, Tryz.f144, Option.getD] at hc
  subst hc
  (refine g_draw [] (h := a_pass2 (h := ?_)))
  (repeat' (first | refine l_nil (h := ?_) | (refine l_atc ?_; refine l_call (rdNum2 rb kid.toNat rest false (kid_lt hk) hr) ?_) | refine l_load (h := ?_) | refine l_store (h := ?_) | (refine l_buildSlice1 (h := ?_); intro _) | (refine l_append_new (h := ?_); intro _ _) | refine a_done (h := ?_) | refine a_one (h := ?_) | refine n_any (h := a_pass2 (h := ?_)) | refine a_fork2 (h1 := ?_) (h2 := ?_) | refine a1_of (h := ?_)))
  all_goals
    rw [wrapKid2 hk]
    exact n_bang (h _ _)

/-- The node behind all its keys. -/
theorem decB_end (rb nb rs : Nat) (keys : List Nat) (kids : List Int) (hd : Nd.good ⟨false, keys, [], kids⟩) (hl : kids.length = keys.length + 1) (pk : Option Addr) (ck : Nat) (p3 : Option Addr) (c3 : Nat) (w0 : World) (F0 : Nat → Prop) :
    G Tryz.prog 86 w0 F0 (nav [1, 1, 1, 1, 1, 1, 1] (bdy Tryz.f144)) (Post Tryz.prog Tryz.f144 w0 F0 (fun v H => ∃ r, v = .tuple #[ndV ⟨false, keys, [], kids⟩ r, .int .i64 0] ∧ H = [Nds ⟨false, keys, [], kids⟩ r]))
      [(4, .pointer (some ⟨rb, 0, none⟩)), (6, .pointer (some ⟨nb, 0, none⟩)), (2, .pointer (some ⟨rs, 0, none⟩))] [] [cl nb 140 [.bool false, .slice pk keys.length ck, .slice none 0 0, .slice p3 kids.length c3], cl rb 249 [.string (str []), .bool false], vec 3 1 p3 kids.length c3 (kids.map encZ'), cl rs 140 [.bool false, .slice none 0 0, .slice none 0 0, .slice none 0 0], vec 32 1 pk keys.length ck (uV keys), vec 9 1 none 0 0 []] := by
  have hR : Does Tryz.prog 155 [.agg #[.bool false, .slice pk keys.length ck, .slice none 0 0, .slice p3 kids.length c3]] [Nds ⟨false, keys, [], kids⟩ ⟨pk, ck, none, 0, p3, c3⟩] (fun v H => v = .bool true ∧ H = [Nds ⟨false, keys, [], kids⟩ ⟨pk, ck, none, 0, p3, c3⟩]) := Right_does ⟨false, keys, [], kids⟩ ⟨pk, ck, none, 0, p3, c3⟩ hd
  obtain ⟨c, hc⟩ : ∃ c, c = nav [1, 1, 1, 1, 1, 1, 1] (bdy Tryz.f144) := ⟨_, rfl⟩
  rw [← hc]
  dsimp only [nav, bdy, Tryz.f144, Option.getD] at hc
  subst hc
  (refine g_shut (A := Nds ⟨false, keys, [], kids⟩ ⟨pk, ck, none, 0, p3, c3⟩) (K := NdsK ⟨false, keys, [], kids⟩ ⟨pk, ck, none, 0, p3, c3⟩ (())) (hid_shuts (()) trivial) (h := ?_) (p := by dsimp only [NdsK]; (try simp only [List.map_nil, List.length_nil, List.length_set, List.length_append, List.length_cons, List.length_singleton, List.map_append, List.map_cons, Nat.zero_add]); exact parts_of))
  (repeat' (first | refine g_seq (h := ?_) | refine g_region (h := ?_) | refine l_nil (h := ?_) | refine n_then (h := ?_) | refine l_pures1 (h := ?_) | (refine l_atc ?_; refine l_call (hR) ?_) | refine l_guard_yes (h := ?_) | refine l_load (h := ?_) | refine l_store (h := ?_) | refine g_skip (h := ?_) | refine g_ret (h := ?_) | refine g_cond_f (h := ?_)))
  refine r_retk [Nds ⟨false, keys, [], kids⟩ ⟨pk, ck, none, 0, p3, c3⟩] ?_
  exact ⟨⟨pk, ck, none, 0, p3, c3⟩, rfl, rfl⟩

/-- The keys of a branch are read. -/
theorem decB_loop (rb nb rs : Nat) (keys : List Nat) (kids : List Int) (hd : Nd.good ⟨false, keys, [], kids⟩) (hl : kids.length = keys.length + 1) (p3 : Option Addr) (c3 : Nat) (w0 : World) (F0 : Nat → Prop) :
    G Tryz.prog 86 w0 F0 (nav [1, 1, 1, 1, 1, 1] (bdy Tryz.f144)) (Post Tryz.prog Tryz.f144 w0 F0 (fun v H => ∃ r, v = .tuple #[ndV ⟨false, keys, [], kids⟩ r, .int .i64 0] ∧ H = [Nds ⟨false, keys, [], kids⟩ r]))
      [(4, .pointer (some ⟨rb, 0, none⟩)), (6, .pointer (some ⟨nb, 0, none⟩)), (2, .pointer (some ⟨rs, 0, none⟩))] [] [cl nb 140 [.bool false, .slice none 0 0, .slice none 0 0, .slice p3 1 c3], cl rb 249 [.string (str (Nd.partT ⟨false, keys, [], kids⟩ 0 keys.length)), .bool false], vec 3 1 p3 1 c3 ((kids.take 1).map encZ'), cl rs 140 [.bool false, .slice none 0 0, .slice none 0 0, .slice none 0 0], vec 32 1 none 0 0 [], vec 9 1 none 0 0 []] := by
  have hend := fun pk ck p3 c3 => decB_end rb nb rs keys kids hd hl pk ck p3 c3 w0 F0
  have hbody := decB_body rb nb rs
  have hs := hd.size
  have hcons := Nd.partT_cons ⟨false, keys, [], kids⟩
  have hent : Nd.entT ⟨false, keys, [], kids⟩ = fun i => putN (keys.getD i 0) 8 ++ putN (kids.getD (i + 1) 0).toNat 2 := rfl
  have g2 := hd.p.key
  have g4 := hd.p.kid
  dsimp only [Nd.size] at g2 g4 hs
  simp only [Bool.false_eq_true, if_false] at hs
  have hpl : ∀ m j, j + m = keys.length → (Nd.partT ⟨false, keys, [], kids⟩ j m).length = 10 * m := by
    intro m
    induction m with
    | zero => intro j _; rfl
    | succ m ih => intro j hj; rw [hcons, List.length_append, ih (j + 1) (by omega), hent]; simp only [List.length_append, putN_length]; omega
  have hpz : Nd.partT ⟨false, keys, [], kids⟩ keys.length 0 = [] := rfl
  generalize Nd.partT ⟨false, keys, [], kids⟩ = pt at *
  generalize Nd.entT ⟨false, keys, [], kids⟩ = en at *
  obtain ⟨cc, hcc⟩ : ∃ cc, cc = nav [1, 1, 1, 1, 1, 1, 1] (bdy Tryz.f144) := ⟨_, rfl⟩
  obtain ⟨c, hc⟩ : ∃ c, c = nav [1, 1, 1, 1, 1, 1] (bdy Tryz.f144) := ⟨_, rfl⟩
  rw [← hc]
  dsimp only [nav, bdy, Tryz.f144, Option.getD] at hc
  subst hc
  refine g_seq (h := g_block (h := ?_))
  (refine g_loop (fun y : Nat × Option Addr × Nat × Option Addr × Nat => [(4, .pointer (some ⟨rb, 0, none⟩)), (6, .pointer (some ⟨nb, 0, none⟩)), (2, .pointer (some ⟨rs, 0, none⟩))]) (fun y => [cl nb 140 [.bool false, .slice y.2.1 y.1 y.2.2.1, .slice none 0 0, .slice y.2.2.2.1 (y.1 + 1) y.2.2.2.2], cl rb 249 [.string (str (pt y.1 (keys.length - y.1))), .bool false], vec 3 1 y.2.2.2.1 (y.1 + 1) y.2.2.2.2 ((kids.take (y.1 + 1)).map encZ'), cl rs 140 [.bool false, .slice none 0 0, .slice none 0 0, .slice none 0 0], vec 32 1 y.2.1 y.1 y.2.2.1 (uV (keys.take y.1)), vec 9 1 none 0 0 []]) (fun y => y.1 ≤ keys.length) (fun y => keys.length - y.1) ((0, (none : Option Addr), 0, p3, c3)) ?_ ?_ ?_ ?_; rotate_left; (repeat (first | refine ts_nil | (refine ts_cons rfl ?_ ?_; first | (with_reducible rfl) | rotate_left))); (first | (intro _ i; with_reducible refine i) | rotate_left); rotate_left; (try omega); rotate_right)
  · rintro ⟨j, pk, ck, pi, ci⟩ hj
    dsimp only at hj ⊢
    by_cases hlt : j < keys.length
    · have hkey := g2 _ (getD_mem (l := keys) (i := j) (z := 0) hlt)
      have hkid := g4 _ (getD_mem (l := kids) (i := j + 1) (z := 0) (by omega))
      have hp1 := hpl (keys.length - (j + 1)) (j + 1) (by omega)
      have e1 : pt j (keys.length - j) = putN (keys.getD j 0) 8 ++ (putN (kids.getD (j + 1) 0).toNat 2 ++ pt (j + 1) (keys.length - (j + 1))) := by
        rw [show keys.length - j = (keys.length - (j + 1)) + 1 by omega, hcons, hent]; simp
      have e2 := put_ne (keys.getD j 0) 7 (putN (kids.getD (j + 1) 0).toNat 2 ++ pt (j + 1) (keys.length - (j + 1)))
      have hl1 : (putN (kids.getD (j + 1) 0).toNat 2 ++ pt (j + 1) (keys.length - (j + 1))).length < 1000000 := by rw [List.length_append, putN_length]; omega
      rw [e1]
      (repeat (first | refine g_seq (h := ?_) | refine g_region (h := ?_) | refine l_nil (h := ?_) | refine n_then (h := ?_) | refine l_pures1 (h := ?_) | refine l_guard_yes (h := ?_) | refine l_load (h := ?_) | refine g_skip (h := ?_) | refine g_block (h := ?_) | refine g_cond_t (h := ?_)))
      rw [e2]
      (repeat' fail)
      (refine g_draw [] (h := a_pass2 (h := ?_)))
      (repeat' (first | refine g_seq (h := ?_) | refine g_region (h := ?_) | refine l_nil (h := ?_) | refine n_then (h := ?_) | refine l_pures1 (h := ?_) | (refine l_atc ?_; refine l_call (rdNum8 rb (keys.getD j 0) _ false (by omega) hl1) ?_) | refine l_load (h := ?_) | refine l_store (h := ?_) | (refine l_buildSlice1 (h := ?_); intro _) | (refine l_append_new (h := ?_); intro _ _) | refine a_done (h := ?_) | refine a_one (h := ?_) | refine n_any (h := a_pass2 (h := ?_)) | refine g_cond_f (h := ?_) | refine a_fork2 (h1 := ?_) (h2 := ?_) | refine a1_of (h := ?_)))
      all_goals
        rename_i b1 pk' ck'
        rw [uV_snoc hlt]
        refine g_bang (hbody (kids.getD (j + 1) 0) (pt (j + 1) (keys.length - (j + 1))) j (kids.take (j + 1)) (keys.take (j + 1)) pk' ck' pi ci hkid (by omega) (by omega) w0 F0 _ (by with_reducible (repeat (first | refine calm_post | apply calm_then | apply calm_block))) (fun p' c' => ?_))
        rw [encZ_snoc (by omega)]
        (repeat' refine n_block (h := ?_))
        (refine n_back ((j + 1, pk', ck', p', c')) ?_ ?_ ?_ ?_; rotate_left; rotate_left; (repeat (first | refine ts_nil | (refine ts_cons rfl ?_ ?_; first | (with_reducible rfl) | rotate_left))); (first | (intro _ i; with_reducible refine i) | rotate_left); (try omega); (try omega))
        all_goals (intro _ i; exact inv_keep parts_of i)
    · obtain rfl : j = keys.length := by omega
      rw [Nat.sub_self, hpz, List.take_length, show kids.take (keys.length + 1) = kids by rw [← hl, List.take_length], ← hl]
      (repeat' (first | ((with_reducible show G _ _ _ _ (Code.seq (Code.seq (Code.region 13 _ _) _) _) _ _ _ _); exact g_bang (hend _ _ _ _)) | refine g_seq (h := ?_) | refine g_region (h := ?_) | refine l_nil (h := ?_) | refine n_then (h := ?_) | refine l_pures1 (h := ?_) | refine l_guard_no (h := ?_) | refine l_load (h := ?_) | refine g_exit (h := ?_) | refine n_then_exit (h := ?_) | refine n_block_hit (h := ?_) | refine g_cond_f (h := ?_)))
  · intro w i
    simp only [Nat.sub_zero, Nat.zero_add, List.take_zero, uV, List.map_nil]
    exact inv_keep parts_of i

/-- The first kid of a branch is read. -/
theorem decB_first (rb nb rs : Nat) (keys : List Nat) (kids : List Int) (hd : Nd.good ⟨false, keys, [], kids⟩) (hl : kids.length = keys.length + 1) (w0 : World) (F0 : Nat → Prop) (Q : Exit → Act → World → Prop) (hc : SL.Calm Q)
    (h : ∀ p' c', N 86 w0 F0 .normal Q [(4, .pointer (some ⟨rb, 0, none⟩)), (6, .pointer (some ⟨nb, 0, none⟩)), (2, .pointer (some ⟨rs, 0, none⟩))] [] [cl nb 140 [.bool false, .slice none 0 0, .slice none 0 0, .slice p' 1 c'], cl rb 249 [.string (str (Nd.partT ⟨false, keys, [], kids⟩ 0 keys.length)), .bool false], vec 3 1 p' 1 c' ((kids.take 1).map encZ'), cl rs 140 [.bool false, .slice none 0 0, .slice none 0 0, .slice none 0 0], vec 32 1 none 0 0 [], vec 9 1 none 0 0 []]) :
    G Tryz.prog 86 w0 F0 (nav [1, 1, 1, 1, 1, 0, 1, 0] (bdy Tryz.f144)) Q [(4, .pointer (some ⟨rb, 0, none⟩)), (6, .pointer (some ⟨nb, 0, none⟩)), (2, .pointer (some ⟨rs, 0, none⟩))] [] [cl nb 140 [.bool false, .slice none 0 0, .slice none 0 0, .slice none 0 0], cl rb 249 [.string (str (putN (kids.getD 0 0).toNat 2 ++ Nd.partT ⟨false, keys, [], kids⟩ 0 keys.length)), .bool false], cl rs 140 [.bool false, .slice none 0 0, .slice none 0 0, .slice none 0 0], vec 32 1 none 0 0 [], vec 9 1 none 0 0 [], vec 3 1 none 0 0 []] := by
  have hk := hd.p.kid _ (getD_mem (l := kids) (i := 0) (z := 0) (by omega))
  have hs := hd.size
  have hpl := Nd.partT_len (d := ⟨false, keys, [], kids⟩) (Nat.le_refl _) (fun q => by cases q)
  simp only [Bool.false_eq_true, if_false] at hpl
  simp only [Nd.size, Bool.false_eq_true, if_false] at hs
  (try dsimp only at hpl hk hs)
  generalize Nd.partT ⟨false, keys, [], kids⟩ 0 keys.length = rest at *
  obtain ⟨c, hc⟩ : ∃ c, c = nav [1, 1, 1, 1, 1, 0, 1, 0] (bdy Tryz.f144) := ⟨_, rfl⟩
  rw [← hc]
  dsimp only [nav, bdy, Tryz.f144, Option.getD] at hc
  subst hc
  (refine g_draw [] (h := a_pass2 (h := ?_)))
  (repeat' (first | refine l_nil (h := ?_) | (refine l_atc ?_; refine l_call (rdNum2 rb (kids.getD 0 0).toNat rest false (kid_lt hk) (by omega)) ?_) | refine l_load (h := ?_) | refine l_store (h := ?_) | (refine l_buildSlice1 (h := ?_); intro _) | (refine l_append_new (h := ?_); intro _ _) | refine a_done (h := ?_) | refine a_one (h := ?_) | refine n_any (h := a_pass2 (h := ?_)) | refine a_fork2 (h1 := ?_) (h2 := ?_) | refine a1_of (h := ?_)))
  all_goals
    rw [wrapKid2 hk]
    have e : ([] : List Value) ++ [Value.int .i64 (kids.getD 0 0)] = (kids.take 1).map encZ' := encZ_snoc (j := 0) (by omega)
    rw [e]
    exact n_bang (h _ _)

theorem DecodeB_does (keys : List Nat) (kids : List Int) (hd : Nd.good ⟨false, keys, [], kids⟩) : Does Tryz.prog 144 [.string (str (Nd.text ⟨false, keys, [], kids⟩))] [] (fun v H => ∃ r, v = .tuple #[ndV ⟨false, keys, [], kids⟩ r, .int .i64 0] ∧ H = [Nds ⟨false, keys, [], kids⟩ r]) := by
  have hl := kidsLen hd.p rfl
  have hfirst := fun rb nb rs => decB_first rb nb rs keys kids hd hl
  have hloop := fun rb nb rs => decB_loop rb nb rs keys kids hd hl
  have hs := hd.size
  have hpl := Nd.partT_len (d := ⟨false, keys, [], kids⟩) (Nat.le_refl _) (fun q => by cases q)
  simp only [Bool.false_eq_true, if_false] at hpl
  simp only [Nd.size, Bool.false_eq_true, if_false] at hs
  (try dsimp only at hpl hs)
  have htx : Nd.text ⟨false, keys, [], kids⟩ = putN 2 1 ++ (putN (kids.getD 0 0).toNat 2 ++ Nd.partT ⟨false, keys, [], kids⟩ 0 keys.length) := rfl
  rw [htx]
  have hlen : (putN (kids.getD 0 0).toNat 2 ++ Nd.partT ⟨false, keys, [], kids⟩ 0 keys.length).length < 1000000 := by rw [List.length_append, putN_length]; omega
  generalize Nd.partT ⟨false, keys, [], kids⟩ 0 keys.length = rest at *
  have hr1 : ∀ rb, Does Tryz.prog 158 [.pointer (some ⟨rb, 0, none⟩), .int .i64 1] [cl rb 249 [.string (str (putN 2 1 ++ (putN (kids.getD 0 0).toNat 2 ++ rest))), .bool false]]
    (fun v H => v = .int .u64 2 ∧ H = [cl rb 249 [.string (str (putN (kids.getD 0 0).toNat 2 ++ rest)), .bool false]]) := fun rb => rdNum1 rb 2 _ false (by omega) hlen
  refine does_of Tryz.func144 Tryz.ntmps144 rfl rfl rfl (fun w0 F0 => ?_)
  (repeat' (first | refine g_seq (h := ?_) | refine g_region (h := ?_) | refine l_nil (h := ?_) | refine n_then (h := ?_) | refine l_pures1 (h := ?_) | (refine l_atc ?_; refine l_call (hr1 _) ?_) | refine l_guard_yes (h := ?_) | refine l_load (h := ?_) | refine l_store (h := ?_) | (refine l_box (h := ?_); intro _) | (refine l_alloc (h := ?_); intro _) | refine g_skip (h := ?_) | refine g_cond_t (h := ?_) | refine g_cond_f (h := ?_)))
  rename_i rs rb nb
  rw [show ((2 : Int) == 1) = false from rfl]
  refine g_inv (fun i => vec_nil (3) (1) i) ?_
  refine g_inv (fun i => vec_nil (9) (1) i) ?_
  refine g_inv (fun i => vec_nil (32) (1) i) ?_
  refine g_bang (hfirst rb nb rs w0 F0 _ (by with_reducible (repeat (first | refine calm_post | apply calm_then | apply calm_block))) (fun p' c' => ?_))
  refine n_then (h := ?_)
  exact hloop rb nb rs p' c' w0 F0
theorem Decode_does (d : Nd) (hd : d.good) : Does Tryz.prog 144 [.string (str d.text)] [] (fun v H => ∃ r, v = .tuple #[ndV d r, .int .i64 0] ∧ H = [Nds d r]) := by
  obtain ⟨leaf, keys, vals, kids⟩ := d
  cases leaf
  · obtain rfl : vals = [] := noVals hd.p rfl
    exact DecodeB_does keys kids hd
  · obtain rfl : kids = [] := by have := hd.p.kids; simpa using this
    exact DecodeL_does keys vals hd
end Go.Proofs.YtbdgnjlbmhnipaaGreat
/- Package node: what makes nodes of nodes. -/
set_option maxRecDepth 20000
set_option linter.unusedVariables false
set_option linter.unusedSimpArgs false
namespace Go.Proofs.YtbdgnjlbmhnipaaGreat
open Go.Proofs.YtbdgnjlbmhnipaaGreat.SL

theorem laidU1 (l : List Nat) (p : Option Addr) (c at' gone mb mc : Nat) (x : Nat) (aa ga : Int) (ha : aa = at') (hg : ga = gone) (hm : l.length < 100000) (h1 : at' < 100000) (h2 : gone < 100000) :
    Does Tryz.prog 117 [.slice p l.length c, .int .i64 aa, .int .i64 ga, .slice (some ⟨mb, 0, none⟩) 1 mc] [vec 32 1 p l.length c (uV l), cl mb 32 [.int .u64 (x : Nat)]]
      (fun v H => ∃ p' c', v = .slice p' (laidL l at' gone [x]).length c' ∧ H = [vec 32 1 p' (laidL l at' gone [x]).length c' (uV ((laidL l at' gone [x]))), vec 32 1 p l.length c (uV l)]) := by
  subst ha hg
  have e : laidL (uV l) at' gone [.int .u64 (x : Nat)] = uV ((laidL l at' gone [x])) := (laidL_map _ l at' gone [x]).symm
  have := laidU_one (uV l) p l.length c at' gone mb mc (.int .u64 (x : Nat)) (by simp [uV, Value.oneCell']) rfl hm h1 h2
  rw [e] at this
  simp only [uV_len] at this
  exact this
theorem laidU0 (l : List Nat) (p : Option Addr) (c at' gone : Nat) (aa ga : Int) (ha : aa = at') (hg : ga = gone) (hm : l.length < 100000) (h1 : at' < 100000) (h2 : gone < 100000) :
    Does Tryz.prog 117 [.slice p l.length c, .int .i64 aa, .int .i64 ga, .slice none 0 0] [vec 32 1 p l.length c (uV l)]
      (fun v H => ∃ p' c', v = .slice p' (laidL l at' gone []).length c' ∧ H = [vec 32 1 p' (laidL l at' gone []).length c' (uV (laidL l at' gone [])), vec 32 1 p l.length c (uV l)]) := by
  subst ha hg
  have e : laidL (uV l) at' gone [] = uV (laidL l at' gone []) := (laidL_map _ l at' gone []).symm
  have := laidU_none (uV l) p l.length c at' gone (by simp [uV, Value.oneCell']) hm h1 h2
  rw [e] at this
  simp only [uV_len] at this
  exact this

theorem laidS1 (l : List (List UInt8)) (p : Option Addr) (c at' gone mb mc : Nat) (x : List UInt8) (aa ga : Int) (ha : aa = at') (hg : ga = gone) (hm : l.length < 100000) (h1 : at' < 100000) (h2 : gone < 100000) :
    Does Tryz.prog 118 [.slice p l.length c, .int .i64 aa, .int .i64 ga, .slice (some ⟨mb, 0, none⟩) 1 mc] [vec 9 1 p l.length c (l.map encS), cl mb 9 [.string (str x)]]
      (fun v H => ∃ p' c', v = .slice p' (laidL l at' gone [x]).length c' ∧ H = [vec 9 1 p' (laidL l at' gone [x]).length c' (((laidL l at' gone [x])).map encS), vec 9 1 p l.length c (l.map encS)]) := by
  subst ha hg
  have e : laidL (l.map encS) at' gone [.string (str x)] = ((laidL l at' gone [x])).map encS := (laidL_map _ l at' gone [x]).symm
  have := laidS_one (l.map encS) p l.length c at' gone mb mc (.string (str x)) (by simp [encS, Value.oneCell']) rfl hm h1 h2
  rw [e] at this
  simp only [List.length_map] at this
  exact this
theorem laidS0 (l : List (List UInt8)) (p : Option Addr) (c at' gone : Nat) (aa ga : Int) (ha : aa = at') (hg : ga = gone) (hm : l.length < 100000) (h1 : at' < 100000) (h2 : gone < 100000) :
    Does Tryz.prog 118 [.slice p l.length c, .int .i64 aa, .int .i64 ga, .slice none 0 0] [vec 9 1 p l.length c (l.map encS)]
      (fun v H => ∃ p' c', v = .slice p' (laidL l at' gone []).length c' ∧ H = [vec 9 1 p' (laidL l at' gone []).length c' ((laidL l at' gone []).map encS), vec 9 1 p l.length c (l.map encS)]) := by
  subst ha hg
  have e : laidL (l.map encS) at' gone [] = (laidL l at' gone []).map encS := (laidL_map _ l at' gone []).symm
  have := laidS_none (l.map encS) p l.length c at' gone (by simp [encS, Value.oneCell']) hm h1 h2
  rw [e] at this
  simp only [List.length_map] at this
  exact this

theorem laidI1 (l : List Int) (p : Option Addr) (c at' gone mb mc : Nat) (x : Int) (aa ga : Int) (ha : aa = at') (hg : ga = gone) (hm : l.length < 100000) (h1 : at' < 100000) (h2 : gone < 100000) :
    Does Tryz.prog 120 [.slice p l.length c, .int .i64 aa, .int .i64 ga, .slice (some ⟨mb, 0, none⟩) 1 mc] [vec 3 1 p l.length c (l.map encZ'), cl mb 3 [.int .i64 x]]
      (fun v H => ∃ p' c', v = .slice p' (laidL l at' gone [x]).length c' ∧ H = [vec 3 1 p' (laidL l at' gone [x]).length c' (((laidL l at' gone [x])).map encZ'), vec 3 1 p l.length c (l.map encZ')]) := by
  subst ha hg
  have e : laidL (l.map encZ') at' gone [.int .i64 x] = ((laidL l at' gone [x])).map encZ' := (laidL_map _ l at' gone [x]).symm
  have := laidI_one (l.map encZ') p l.length c at' gone mb mc (.int .i64 x) (by simp [encZ', Value.oneCell']) rfl hm h1 h2
  rw [e] at this
  simp only [List.length_map] at this
  exact this
theorem laidI0 (l : List Int) (p : Option Addr) (c at' gone : Nat) (aa ga : Int) (ha : aa = at') (hg : ga = gone) (hm : l.length < 100000) (h1 : at' < 100000) (h2 : gone < 100000) :
    Does Tryz.prog 120 [.slice p l.length c, .int .i64 aa, .int .i64 ga, .slice none 0 0] [vec 3 1 p l.length c (l.map encZ')]
      (fun v H => ∃ p' c', v = .slice p' (laidL l at' gone []).length c' ∧ H = [vec 3 1 p' (laidL l at' gone []).length c' ((laidL l at' gone []).map encZ'), vec 3 1 p l.length c (l.map encZ')]) := by
  subst ha hg
  have e : laidL (l.map encZ') at' gone [] = (laidL l at' gone []).map encZ' := (laidL_map _ l at' gone []).symm
  have := laidI_none (l.map encZ') p l.length c at' gone (by simp [encZ', Value.oneCell']) hm h1 h2
  rw [e] at this
  simp only [List.length_map] at this
  exact this


set_option maxHeartbeats 1000000 in
theorem nPut_does (d : Nd) (r : Rw) (x : Nat) (v : List UInt8) (hl : d.leaf = true) (hf : d.fits) (hs : Rise d.keys) (hk : d.kids = []) : Does Tryz.prog 77 [ndV d r, .int .u64 x, .string (str v)] [Nds d r]
    (fun u H => ∃ r', u = ndV (d.put x v) r' ∧ H = [Nds (d.put x v) r', Nds d r]) := by
  obtain ⟨leaf, keys, vals, kids⟩ := d
  obtain ⟨p1, c1, p2, c2, p3, c3⟩ := r
  obtain ⟨f1, f2, f3, f4⟩ := hf
  dsimp only at f1 f2 f3 f4 hl hs hk
  subst hl hk
  have hp := posN_le keys x
  have hpl := place_does keys x p1 c1 (by omega) hs
  refine does_of Tryz.func77 Tryz.ntmps77 rfl rfl rfl (fun w0 F0 => ?_)
  refine g_open (A := Nds ⟨true, keys, vals, []⟩ ⟨p1, c1, p2, c2, p3, c3⟩) (h := ?_); (rintro _ _; dsimp only [NdsK, List.cons_append, List.nil_append])
  (repeat' (first | refine g_seq (h := ?_) | refine g_region (h := ?_) | refine l_nil (h := ?_) | refine n_then (h := ?_) | refine l_pures1 (h := ?_) | (refine l_atc ?_; refine l_call (hpl) ?_) | refine l_load (h := ?_) | (refine l_box (h := ?_); intro _) | (refine l_alloc (h := ?_); intro _) | refine g_skip (h := ?_) | refine g_cond_f (h := ?_) | (refine g_sp (h1 := ?_) (h0 := ?_) <;> intro h)))
  · rename_i b1 b2
    (refine g_draw [cl b1 140 (ndA ⟨true, keys, vals, []⟩ ⟨p1, c1, p2, c2, p3, c3⟩).toList] (h := a_pass2 (h := ?_)))
    (repeat' (first | refine l_nil (h := ?_) | refine n_then (h := ?_) | (refine l_atc ?_; refine l_call_ (laidU1 keys p1 c1 (posN keys x) 1 _ _ x _ 1 rfl rfl (by omega) (by omega) (by omega)) ?_; rintro _ _ _ ⟨q1, d1, rfl, rfl⟩ he; cases he) | (refine l_atc ?_; refine l_call_ (laidS1 vals p2 c2 (posN keys x) 1 _ _ v _ 1 rfl rfl (by omega) (by omega) (by omega)) ?_; rintro _ _ _ ⟨q2, d2, rfl, rfl⟩ he; cases he) | refine l_store (h := ?_) | (refine l_buildSlice1 (h := ?_); intro _) | refine g_ret (h := ?_) | refine a_done (h := ?_) | refine a_load (h := a_pass2 (h := ?_)) | refine a_one (h := ?_) | refine n_any (h := a_pass2 (h := ?_)) | refine a_fork2 (h1 := ?_) (h2 := ?_) | refine a1_of (h := ?_)))
    all_goals
      refine n_inv (fun i => vec_nil (3) (1) i) ?_
    all_goals
      (refine n_shut (A := Nds ⟨true, laidL keys (posN keys x) 1 [x], laidL vals (posN keys x) 1 [v], []⟩ ⟨q1, d1, q2, d2, none, 0⟩) (K := NdsK ⟨true, laidL keys (posN keys x) 1 [x], laidL vals (posN keys x) 1 [v], []⟩ ⟨q1, d1, q2, d2, none, 0⟩ (())) (hid_shuts (()) trivial) (h := ?_) (p := by dsimp only [NdsK]; (try simp only [List.map_nil, List.length_nil, List.length_set, List.length_append, List.length_cons, List.length_singleton, List.map_append, List.map_cons, Nat.zero_add]); exact parts_of))
    all_goals
      (refine n_shut (A := Nds ⟨true, keys, vals, []⟩ ⟨p1, c1, p2, c2, p3, c3⟩) (K := NdsK ⟨true, keys, vals, []⟩ ⟨p1, c1, p2, c2, p3, c3⟩ (())) (hid_shuts (()) trivial) (h := ?_) (p := by dsimp only [NdsK]; (try simp only [List.map_nil, List.length_nil, List.length_set, List.length_append, List.length_cons, List.length_singleton, List.map_append, List.map_cons, Nat.zero_add]); exact parts_of))
    all_goals
      refine r_retk [Nds ⟨true, laidL keys (posN keys x) 1 [x], laidL vals (posN keys x) 1 [v], []⟩ ⟨q1, d1, q2, d2, none, 0⟩, Nds ⟨true, keys, vals, []⟩ ⟨p1, c1, p2, c2, p3, c3⟩] ?_
    all_goals
      exact ⟨⟨q1, d1, q2, d2, none, 0⟩, by simp only [Nd.put, if_pos h]; rfl, by simp only [Nd.put, if_pos h]⟩
  · rename_i b1 b2
    (refine g_draw [cl b1 140 (ndA ⟨true, keys, vals, []⟩ ⟨p1, c1, p2, c2, p3, c3⟩).toList] (h := a_pass2 (h := ?_)))
    (repeat' (first | refine l_nil (h := ?_) | refine n_then (h := ?_) | (refine l_atc ?_; refine l_call_ (laidU1 keys p1 c1 (posN keys x) 0 _ _ x _ 0 rfl rfl (by omega) (by omega) (by omega)) ?_; rintro _ _ _ ⟨q1, d1, rfl, rfl⟩ he; cases he) | (refine l_atc ?_; refine l_call_ (laidS1 vals p2 c2 (posN keys x) 0 _ _ v _ 0 rfl rfl (by omega) (by omega) (by omega)) ?_; rintro _ _ _ ⟨q2, d2, rfl, rfl⟩ he; cases he) | refine l_store (h := ?_) | (refine l_buildSlice1 (h := ?_); intro _) | refine g_ret (h := ?_) | refine a_done (h := ?_) | refine a_load (h := a_pass2 (h := ?_)) | refine a_one (h := ?_) | refine n_any (h := a_pass2 (h := ?_)) | refine a_fork2 (h1 := ?_) (h2 := ?_) | refine a1_of (h := ?_)))
    all_goals
      refine n_inv (fun i => vec_nil (3) (1) i) ?_
    all_goals
      (refine n_shut (A := Nds ⟨true, laidL keys (posN keys x) 0 [x], laidL vals (posN keys x) 0 [v], []⟩ ⟨q1, d1, q2, d2, none, 0⟩) (K := NdsK ⟨true, laidL keys (posN keys x) 0 [x], laidL vals (posN keys x) 0 [v], []⟩ ⟨q1, d1, q2, d2, none, 0⟩ (())) (hid_shuts (()) trivial) (h := ?_) (p := by dsimp only [NdsK]; (try simp only [List.map_nil, List.length_nil, List.length_set, List.length_append, List.length_cons, List.length_singleton, List.map_append, List.map_cons, Nat.zero_add]); exact parts_of))
    all_goals
      (refine n_shut (A := Nds ⟨true, keys, vals, []⟩ ⟨p1, c1, p2, c2, p3, c3⟩) (K := NdsK ⟨true, keys, vals, []⟩ ⟨p1, c1, p2, c2, p3, c3⟩ (())) (hid_shuts (()) trivial) (h := ?_) (p := by dsimp only [NdsK]; (try simp only [List.map_nil, List.length_nil, List.length_set, List.length_append, List.length_cons, List.length_singleton, List.map_append, List.map_cons, Nat.zero_add]); exact parts_of))
    all_goals
      refine r_retk [Nds ⟨true, laidL keys (posN keys x) 0 [x], laidL vals (posN keys x) 0 [v], []⟩ ⟨q1, d1, q2, d2, none, 0⟩, Nds ⟨true, keys, vals, []⟩ ⟨p1, c1, p2, c2, p3, c3⟩] ?_
    all_goals
      exact ⟨⟨q1, d1, q2, d2, none, 0⟩, by simp only [Nd.put, if_neg h]; rfl, by simp only [Nd.put, if_neg h]⟩

set_option maxHeartbeats 1000000 in
theorem nWithout_does (d : Nd) (r : Rw) (i : Nat) (hl : d.leaf = true) (hf : d.fits) (hi : i < d.keys.length) (hk : d.kids = []) : Does Tryz.prog 94 [ndV d r, .int .i64 i] [Nds d r]
    (fun u H => ∃ r', u = ndV (d.without i) r' ∧ H = [Nds (d.without i) r', Nds d r]) := by
  obtain ⟨leaf, keys, vals, kids⟩ := d
  obtain ⟨p1, c1, p2, c2, p3, c3⟩ := r
  obtain ⟨f1, f2, f3, f4⟩ := hf
  dsimp only at f1 f2 f3 f4 hl hi hk
  subst hl hk
  refine does_of Tryz.func94 Tryz.ntmps94 rfl rfl rfl (fun w0 F0 => ?_)
  refine g_open (A := Nds ⟨true, keys, vals, []⟩ ⟨p1, c1, p2, c2, p3, c3⟩) (h := ?_); (rintro _ _; dsimp only [NdsK, List.cons_append, List.nil_append])
  (repeat' (first | refine g_seq (h := ?_) | refine g_region (h := ?_) | refine l_nil (h := ?_) | refine n_then (h := ?_) | refine l_pures1 (h := ?_) | refine l_guard_yes (h := ?_) | refine l_load (h := ?_) | (refine l_box (h := ?_); intro _) | (refine l_alloc (h := ?_); intro _) | refine g_skip (h := ?_) | (refine g_spF (h := ?_); intro h)))
  rename_i b1 b2
  (refine g_draw [cl b1 140 (ndA ⟨true, keys, vals, []⟩ ⟨p1, c1, p2, c2, p3, c3⟩).toList] (h := a_pass2 (h := ?_)))
  (repeat' (first | refine l_nil (h := ?_) | refine n_then (h := ?_) | (refine l_atc ?_; refine l_call_ (laidU0 keys p1 c1 i 1 _ 1 rfl rfl (by omega) (by omega) (by omega)) ?_; rintro _ _ _ ⟨q1, d1, rfl, rfl⟩ he; cases he) | (refine l_atc ?_; refine l_call_ (laidS0 vals p2 c2 i 1 _ 1 rfl rfl (by omega) (by omega) (by omega)) ?_; rintro _ _ _ ⟨q2, d2, rfl, rfl⟩ he; cases he) | refine l_store (h := ?_) | refine g_ret (h := ?_) | refine a_done (h := ?_) | refine a_load (h := a_pass2 (h := ?_)) | refine a_one (h := ?_) | refine n_any (h := a_pass2 (h := ?_))))
  all_goals
    refine n_inv (fun i => vec_nil (3) (1) i) ?_
  all_goals
    (refine n_shut (A := Nds ⟨true, laidL keys i 1 [], laidL vals i 1 [], []⟩ ⟨q1, d1, q2, d2, none, 0⟩) (K := NdsK ⟨true, laidL keys i 1 [], laidL vals i 1 [], []⟩ ⟨q1, d1, q2, d2, none, 0⟩ (())) (hid_shuts (()) trivial) (h := ?_) (p := by dsimp only [NdsK]; (try simp only [List.map_nil, List.length_nil, List.length_set, List.length_append, List.length_cons, List.length_singleton, List.map_append, List.map_cons, Nat.zero_add]); exact parts_of))
  all_goals
    (refine n_shut (A := Nds ⟨true, keys, vals, []⟩ ⟨p1, c1, p2, c2, p3, c3⟩) (K := NdsK ⟨true, keys, vals, []⟩ ⟨p1, c1, p2, c2, p3, c3⟩ (())) (hid_shuts (()) trivial) (h := ?_) (p := by dsimp only [NdsK]; (try simp only [List.map_nil, List.length_nil, List.length_set, List.length_append, List.length_cons, List.length_singleton, List.map_append, List.map_cons, Nat.zero_add]); exact parts_of))
  all_goals
    refine r_retk [Nds ⟨true, laidL keys i 1 [], laidL vals i 1 [], []⟩ ⟨q1, d1, q2, d2, none, 0⟩, Nds ⟨true, keys, vals, []⟩ ⟨p1, c1, p2, c2, p3, c3⟩] ?_
  all_goals
    exact ⟨⟨q1, d1, q2, d2, none, 0⟩, rfl, rfl⟩

set_option maxHeartbeats 1000000 in
theorem nHang_does (d : Nd) (r : Rw) (i x : Nat) (k : Int) (hl : d.leaf = false) (hf : d.fits) (hi : i ≤ d.keys.length) (hk : d.vals = []) : Does Tryz.prog 81 [ndV d r, .int .i64 i, .int .u64 x, .int .i64 k] [Nds d r]
    (fun u H => ∃ r', u = ndV (d.hang i x k) r' ∧ H = [Nds (d.hang i x k) r', Nds d r]) := by
  obtain ⟨leaf, keys, vals, kids⟩ := d
  obtain ⟨p1, c1, p2, c2, p3, c3⟩ := r
  obtain ⟨f1, f2, f3, f4⟩ := hf
  dsimp only at f1 f2 f3 f4 hl hi hk
  subst hl hk
  have ew : IntKind.i64.wrap ((i : Int) + 1) = ((i + 1 : Nat) : Int) := by rw [wrapI64 (by omega)]; rfl
  refine does_of Tryz.func81 Tryz.ntmps81 rfl rfl rfl (fun w0 F0 => ?_)
  refine g_open (A := Nds ⟨false, keys, [], kids⟩ ⟨p1, c1, p2, c2, p3, c3⟩) (h := ?_); (rintro _ _; dsimp only [NdsK, List.cons_append, List.nil_append])
  (repeat' (first | refine g_seq (h := ?_) | refine g_region (h := ?_) | refine l_nil (h := ?_) | refine n_then (h := ?_) | refine l_pures1 (h := ?_) | refine l_guard_yes (h := ?_) | refine l_load (h := ?_) | (refine l_box (h := ?_); intro _) | (refine l_alloc (h := ?_); intro _) | refine g_skip (h := ?_) | (refine g_spF (h := ?_); intro h)))
  rename_i b1 b2
  (refine g_draw [cl b1 140 (ndA ⟨false, keys, [], kids⟩ ⟨p1, c1, p2, c2, p3, c3⟩).toList] (h := a_pass2 (h := ?_)))
  (repeat' (first | refine l_nil (h := ?_) | refine n_then (h := ?_) | (refine l_atc ?_; refine l_call_ (laidU1 keys p1 c1 i 0 _ _ x _ 0 rfl rfl (by omega) (by omega) (by omega)) ?_; rintro _ _ _ ⟨q1, d1, rfl, rfl⟩ he; cases he) | (refine l_atc ?_; refine l_call_ (laidI1 kids p3 c3 (i + 1) 0 _ _ k _ 0 ew rfl (by omega) (by omega) (by omega)) ?_; rintro _ _ _ ⟨q2, d2, rfl, rfl⟩ he; cases he) | refine l_store (h := ?_) | (refine l_buildSlice1 (h := ?_); intro _) | refine g_ret (h := ?_) | refine a_done (h := ?_) | refine a_load (h := a_pass2 (h := ?_)) | refine a_one (h := ?_) | refine n_any (h := a_pass2 (h := ?_)) | refine a_fork2 (h1 := ?_) (h2 := ?_) | refine a1_of (h := ?_)))
  all_goals
    refine n_inv (fun i => vec_nil (9) (1) i) ?_
  all_goals
    (refine n_shut (A := Nds ⟨false, laidL keys i 0 [x], [], laidL kids (i + 1) 0 [k]⟩ ⟨q1, d1, none, 0, q2, d2⟩) (K := NdsK ⟨false, laidL keys i 0 [x], [], laidL kids (i + 1) 0 [k]⟩ ⟨q1, d1, none, 0, q2, d2⟩ (())) (hid_shuts (()) trivial) (h := ?_) (p := by dsimp only [NdsK]; (try simp only [List.map_nil, List.length_nil, List.length_set, List.length_append, List.length_cons, List.length_singleton, List.map_append, List.map_cons, Nat.zero_add]); exact parts_of))
  all_goals
    (refine n_shut (A := Nds ⟨false, keys, [], kids⟩ ⟨p1, c1, p2, c2, p3, c3⟩) (K := NdsK ⟨false, keys, [], kids⟩ ⟨p1, c1, p2, c2, p3, c3⟩ (())) (hid_shuts (()) trivial) (h := ?_) (p := by dsimp only [NdsK]; (try simp only [List.map_nil, List.length_nil, List.length_set, List.length_append, List.length_cons, List.length_singleton, List.map_append, List.map_cons, Nat.zero_add]); exact parts_of))
  all_goals
    refine r_retk [Nds ⟨false, laidL keys i 0 [x], [], laidL kids (i + 1) 0 [k]⟩ ⟨q1, d1, none, 0, q2, d2⟩, Nds ⟨false, keys, [], kids⟩ ⟨p1, c1, p2, c2, p3, c3⟩] ?_
  all_goals
    exact ⟨⟨q1, d1, none, 0, q2, d2⟩, rfl, rfl⟩

set_option maxHeartbeats 1000000 in
theorem nUnhang_does (d : Nd) (r : Rw) (i : Nat) (hl : d.leaf = false) (hf : d.fits) (hi : i < d.keys.length) (hk : d.vals = []) : Does Tryz.prog 130 [ndV d r, .int .i64 i] [Nds d r]
    (fun u H => ∃ r', u = ndV (d.unhang i) r' ∧ H = [Nds (d.unhang i) r', Nds d r]) := by
  obtain ⟨leaf, keys, vals, kids⟩ := d
  obtain ⟨p1, c1, p2, c2, p3, c3⟩ := r
  obtain ⟨f1, f2, f3, f4⟩ := hf
  dsimp only at f1 f2 f3 f4 hl hi hk
  subst hl hk
  have ew : IntKind.i64.wrap ((i : Int) + 1) = ((i + 1 : Nat) : Int) := by rw [wrapI64 (by omega)]; rfl
  refine does_of Tryz.func130 Tryz.ntmps130 rfl rfl rfl (fun w0 F0 => ?_)
  refine g_open (A := Nds ⟨false, keys, [], kids⟩ ⟨p1, c1, p2, c2, p3, c3⟩) (h := ?_); (rintro _ _; dsimp only [NdsK, List.cons_append, List.nil_append])
  (repeat' (first | refine g_seq (h := ?_) | refine g_region (h := ?_) | refine l_nil (h := ?_) | refine n_then (h := ?_) | refine l_pures1 (h := ?_) | refine l_guard_yes (h := ?_) | refine l_load (h := ?_) | (refine l_box (h := ?_); intro _) | (refine l_alloc (h := ?_); intro _) | refine g_skip (h := ?_) | (refine g_spF (h := ?_); intro h)))
  rename_i b1 b2
  (refine g_draw [cl b1 140 (ndA ⟨false, keys, [], kids⟩ ⟨p1, c1, p2, c2, p3, c3⟩).toList] (h := a_pass2 (h := ?_)))
  (repeat' (first | refine l_nil (h := ?_) | refine n_then (h := ?_) | (refine l_atc ?_; refine l_call_ (laidU0 keys p1 c1 i 1 _ 1 rfl rfl (by omega) (by omega) (by omega)) ?_; rintro _ _ _ ⟨q1, d1, rfl, rfl⟩ he; cases he) | (refine l_atc ?_; refine l_call_ (laidI0 kids p3 c3 (i + 1) 1 _ 1 ew rfl (by omega) (by omega) (by omega)) ?_; rintro _ _ _ ⟨q2, d2, rfl, rfl⟩ he; cases he) | refine l_store (h := ?_) | refine g_ret (h := ?_) | refine a_done (h := ?_) | refine a_load (h := a_pass2 (h := ?_)) | refine a_one (h := ?_) | refine n_any (h := a_pass2 (h := ?_))))
  all_goals
    refine n_inv (fun i => vec_nil (9) (1) i) ?_
  all_goals
    (refine n_shut (A := Nds ⟨false, laidL keys i 1 [], [], laidL kids (i + 1) 1 []⟩ ⟨q1, d1, none, 0, q2, d2⟩) (K := NdsK ⟨false, laidL keys i 1 [], [], laidL kids (i + 1) 1 []⟩ ⟨q1, d1, none, 0, q2, d2⟩ (())) (hid_shuts (()) trivial) (h := ?_) (p := by dsimp only [NdsK]; (try simp only [List.map_nil, List.length_nil, List.length_set, List.length_append, List.length_cons, List.length_singleton, List.map_append, List.map_cons, Nat.zero_add]); exact parts_of))
  all_goals
    (refine n_shut (A := Nds ⟨false, keys, [], kids⟩ ⟨p1, c1, p2, c2, p3, c3⟩) (K := NdsK ⟨false, keys, [], kids⟩ ⟨p1, c1, p2, c2, p3, c3⟩ (())) (hid_shuts (()) trivial) (h := ?_) (p := by dsimp only [NdsK]; (try simp only [List.map_nil, List.length_nil, List.length_set, List.length_append, List.length_cons, List.length_singleton, List.map_append, List.map_cons, Nat.zero_add]); exact parts_of))
  all_goals
    refine r_retk [Nds ⟨false, laidL keys i 1 [], [], laidL kids (i + 1) 1 []⟩ ⟨q1, d1, none, 0, q2, d2⟩, Nds ⟨false, keys, [], kids⟩ ⟨p1, c1, p2, c2, p3, c3⟩] ?_
  all_goals
    exact ⟨⟨q1, d1, none, 0, q2, d2⟩, rfl, rfl⟩

theorem laidL_take {α : Type} (l : List α) (k n : Nat) (h : l.length ≤ k + n) : laidL l k n [] = l.take k := by
  rw [laidL, List.drop_of_length_le h]; simp
theorem laidL_drop {α : Type} (l : List α) (n : Nat) : laidL l 0 n [] = l.drop n := by simp [laidL]
set_option maxHeartbeats 1000000 in
theorem frontL_does (d : Nd) (r : Rw) (nb k : Nat) (hl : d.leaf = true) (hf : d.fits) (hv : d.vals.length = d.keys.length) (hi : k < 10000) (hk : d.kids = []) : Does Tryz.prog 119 [.int .i64 k, .pointer (some ⟨nb, 0, none⟩)] [cl nb 140 (ndA d r).toList, Nds d r]
    (fun u H => ∃ r', u = ndV (d.front k) r' ∧ H = [Nds (d.front k) r', cl nb 140 (ndA d r).toList, Nds d r]) := by
  obtain ⟨leaf, keys, vals, kids⟩ := d
  obtain ⟨p1, c1, p2, c2, p3, c3⟩ := r
  obtain ⟨f1, f2, f3, f4⟩ := hf
  dsimp only at f1 f2 f3 f4 hl hi hk hv
  subst hl hk
  have el1 : laidL keys k keys.length [] = keys.take k := laidL_take _ _ _ (by omega)
  have el2 : laidL vals k keys.length [] = vals.take k := laidL_take _ _ _ (by omega)
  have lu := laidU0 keys p1 c1 k keys.length _ _ rfl rfl (by omega) (by omega) (by omega)
  have ls := laidS0 vals p2 c2 k keys.length _ _ rfl rfl (by omega) (by omega) (by omega)
  rw [el1] at lu
  rw [el2] at ls
  refine does_of Tryz.func119 Tryz.ntmps119 rfl rfl rfl (fun w0 F0 => ?_)
  refine g_open (A := Nds ⟨true, keys, vals, []⟩ ⟨p1, c1, p2, c2, p3, c3⟩) (h := ?_); (rintro _ _; dsimp only [NdsK, List.cons_append, List.nil_append])
  (repeat' (first | refine g_seq (h := ?_) | refine g_region (h := ?_) | refine l_nil (h := ?_) | refine n_then (h := ?_) | refine l_pures1 (h := ?_) | refine l_load (h := ?_) | (refine l_alloc (h := ?_); intro _) | refine g_cond_t (h := ?_)))
  (refine g_draw [cl nb 140 (ndA ⟨true, keys, vals, []⟩ ⟨p1, c1, p2, c2, p3, c3⟩).toList] (h := a_pass2 (h := ?_)))
  (repeat' (first | refine l_nil (h := ?_) | refine n_then (h := ?_) | (refine l_atc ?_; refine l_call_ (lu) ?_; rintro _ _ _ ⟨q1, d1, rfl, rfl⟩ he; cases he) | (refine l_atc ?_; refine l_call_ (ls) ?_; rintro _ _ _ ⟨q2, d2, rfl, rfl⟩ he; cases he) | refine l_store (h := ?_) | refine g_ret (h := ?_) | refine n_then_ret (h := ?_) | refine a_done (h := ?_) | refine a_load (h := a_pass2 (h := ?_)) | refine a_one (h := ?_) | refine n_any (h := a_pass2 (h := ?_))))
  all_goals
    refine n_inv (fun i => vec_nil (3) (1) i) ?_
  all_goals
    (refine n_shut (A := Nds ⟨true, keys.take k, vals.take k, []⟩ ⟨q1, d1, q2, d2, none, 0⟩) (K := NdsK ⟨true, keys.take k, vals.take k, []⟩ ⟨q1, d1, q2, d2, none, 0⟩ (())) (hid_shuts (()) trivial) (h := ?_) (p := by dsimp only [NdsK]; (try simp only [List.map_nil, List.length_nil, List.length_set, List.length_append, List.length_cons, List.length_singleton, List.map_append, List.map_cons, Nat.zero_add]); exact parts_of))
  all_goals
    (refine n_shut (A := Nds ⟨true, keys, vals, []⟩ ⟨p1, c1, p2, c2, p3, c3⟩) (K := NdsK ⟨true, keys, vals, []⟩ ⟨p1, c1, p2, c2, p3, c3⟩ (())) (hid_shuts (()) trivial) (h := ?_) (p := by dsimp only [NdsK]; (try simp only [List.map_nil, List.length_nil, List.length_set, List.length_append, List.length_cons, List.length_singleton, List.map_append, List.map_cons, Nat.zero_add]); exact parts_of))
  all_goals
    refine r_retk [Nds ⟨true, keys.take k, vals.take k, []⟩ ⟨q1, d1, q2, d2, none, 0⟩, cl nb 140 [.bool true, .slice p1 keys.length c1, .slice p2 vals.length c2, .slice p3 0 c3], Nds ⟨true, keys, vals, []⟩ ⟨p1, c1, p2, c2, p3, c3⟩] ?_
  all_goals
    exact ⟨⟨q1, d1, q2, d2, none, 0⟩, rfl, rfl⟩

set_option maxHeartbeats 1000000 in
theorem frontB_does (d : Nd) (r : Rw) (nb k : Nat) (hl : d.leaf = false) (hf : d.fits) (hi : k < 10000) (hk : d.vals = []) : Does Tryz.prog 119 [.int .i64 k, .pointer (some ⟨nb, 0, none⟩)] [cl nb 140 (ndA d r).toList, Nds d r]
    (fun u H => ∃ r', u = ndV (d.front k) r' ∧ H = [Nds (d.front k) r', cl nb 140 (ndA d r).toList, Nds d r]) := by
  obtain ⟨leaf, keys, vals, kids⟩ := d
  obtain ⟨p1, c1, p2, c2, p3, c3⟩ := r
  obtain ⟨f1, f2, f3, f4⟩ := hf
  dsimp only at f1 f2 f3 f4 hl hi hk
  subst hl hk
  have ew : IntKind.i64.wrap ((k : Int) + 1) = ((k + 1 : Nat) : Int) := by rw [wrapI64 (by omega)]; rfl
  have el1 : laidL keys k keys.length [] = keys.take k := laidL_take _ _ _ (by omega)
  have el2 : laidL kids (k + 1) kids.length [] = kids.take (k + 1) := laidL_take _ _ _ (by omega)
  have lu := laidU0 keys p1 c1 k keys.length _ _ rfl rfl (by omega) (by omega) (by omega)
  have ls := laidI0 kids p3 c3 (k + 1) kids.length _ _ ew rfl (by omega) (by omega) (by omega)
  rw [el1] at lu
  rw [el2] at ls
  refine does_of Tryz.func119 Tryz.ntmps119 rfl rfl rfl (fun w0 F0 => ?_)
  refine g_open (A := Nds ⟨false, keys, [], kids⟩ ⟨p1, c1, p2, c2, p3, c3⟩) (h := ?_); (rintro _ _; dsimp only [NdsK, List.cons_append, List.nil_append])
  (repeat' (first | refine g_seq (h := ?_) | refine g_region (h := ?_) | refine l_nil (h := ?_) | refine n_then (h := ?_) | refine l_pures1 (h := ?_) | refine l_load (h := ?_) | (refine l_alloc (h := ?_); intro _) | refine g_skip (h := ?_) | refine g_cond_f (h := ?_)))
  (refine g_draw [cl nb 140 (ndA ⟨false, keys, [], kids⟩ ⟨p1, c1, p2, c2, p3, c3⟩).toList] (h := a_pass2 (h := ?_)))
  (repeat' (first | refine l_nil (h := ?_) | refine n_then (h := ?_) | (refine l_atc ?_; refine l_call_ (lu) ?_; rintro _ _ _ ⟨q1, d1, rfl, rfl⟩ he; cases he) | (refine l_atc ?_; refine l_call_ (ls) ?_; rintro _ _ _ ⟨q2, d2, rfl, rfl⟩ he; cases he) | refine l_store (h := ?_) | refine g_ret (h := ?_) | refine a_done (h := ?_) | refine a_load (h := a_pass2 (h := ?_)) | refine a_one (h := ?_) | refine n_any (h := a_pass2 (h := ?_))))
  all_goals
    refine n_inv (fun i => vec_nil (9) (1) i) ?_
  all_goals
    (refine n_shut (A := Nds ⟨false, keys.take k, [], kids.take (k + 1)⟩ ⟨q1, d1, none, 0, q2, d2⟩) (K := NdsK ⟨false, keys.take k, [], kids.take (k + 1)⟩ ⟨q1, d1, none, 0, q2, d2⟩ (())) (hid_shuts (()) trivial) (h := ?_) (p := by dsimp only [NdsK]; (try simp only [List.map_nil, List.length_nil, List.length_set, List.length_append, List.length_cons, List.length_singleton, List.map_append, List.map_cons, Nat.zero_add]); exact parts_of))
  all_goals
    (refine n_shut (A := Nds ⟨false, keys, [], kids⟩ ⟨p1, c1, p2, c2, p3, c3⟩) (K := NdsK ⟨false, keys, [], kids⟩ ⟨p1, c1, p2, c2, p3, c3⟩ (())) (hid_shuts (()) trivial) (h := ?_) (p := by dsimp only [NdsK]; (try simp only [List.map_nil, List.length_nil, List.length_set, List.length_append, List.length_cons, List.length_singleton, List.map_append, List.map_cons, Nat.zero_add]); exact parts_of))
  all_goals
    refine r_retk [Nds ⟨false, keys.take k, [], kids.take (k + 1)⟩ ⟨q1, d1, none, 0, q2, d2⟩, cl nb 140 [.bool false, .slice p1 keys.length c1, .slice p2 0 c2, .slice p3 kids.length c3], Nds ⟨false, keys, [], kids⟩ ⟨p1, c1, p2, c2, p3, c3⟩] ?_
  all_goals
    exact ⟨⟨q1, d1, none, 0, q2, d2⟩, rfl, rfl⟩

/-- The first part of a split. -/
theorem front_does (d : Nd) (r : Rw) (nb k : Nat) (hp : d.plain) (hf : d.fits) (hi : k < 10000) : Does Tryz.prog 119 [.int .i64 k, .pointer (some ⟨nb, 0, none⟩)] [cl nb 140 (ndA d r).toList, Nds d r]
    (fun u H => ∃ r', u = ndV (d.front k) r' ∧ H = [Nds (d.front k) r', cl nb 140 (ndA d r).toList, Nds d r]) := by
  have hv := hp.vals
  have hk := hp.kids
  cases hl : d.leaf
  · rw [hl] at hv; exact frontB_does d r nb k hl hf hi (List.length_eq_zero_iff.1 (by simpa using hv))
  · rw [hl] at hv hk; exact frontL_does d r nb k hl hf (by simpa using hv) hi (List.length_eq_zero_iff.1 (by simpa using hk))

theorem Nd.cut_step {d : Nd} {m k : Nat} (h : (d.front k).size < d.size / 2) : d.cut (m + 1) k = d.cut m (k + 1) := by rw [Nd.cut, if_pos h]
theorem Nd.cut_stop {d : Nd} {m k : Nat} (h : ¬ (d.front k).size < d.size / 2) : d.cut m k = k := by
  cases m with
  | zero => rfl
  | succ m => rw [Nd.cut, if_neg h]
theorem Nd.front_size {d : Nd} (hp : d.plain) (k : Nat) : (d.front k).size ≤ d.size := by
  have h1 : (d.keys.take k).length ≤ d.keys.length := by rw [List.length_take]; omega
  have h2 : (d.kids.take (k + 1)).length ≤ d.kids.length := by rw [List.length_take]; omega
  have h3 := sumL_take_le d.vals k
  cases hl : d.leaf <;> simp only [Nd.size, Nd.front, hl, if_true, Bool.false_eq_true, if_false] <;> omega
theorem Nd.front_fits {d : Nd} (hf : d.fits) (k : Nat) : (d.front k).fits := by
  have h1 : (d.keys.take k).length ≤ d.keys.length := by rw [List.length_take]; omega
  have h2 : (d.kids.take (k + 1)).length ≤ d.kids.length := by rw [List.length_take]; omega
  have h3 := sumL_take_le d.vals k
  have h4 : (d.vals.take k).length ≤ d.vals.length := by rw [List.length_take]; omega
  obtain ⟨f1, f2, f3, f4⟩ := hf
  cases hl : d.leaf <;> constructor <;> simp only [Nd.front, hl, if_true, Bool.false_eq_true, if_false, List.length_nil, sumL_nil] <;> omega

/-- The same, the rows being open. -/
theorem frontR_does (d : Nd) (r : Rw) (nb k : Nat) (hp : d.plain) (hf : d.fits) (hi : k < 10000) : Does Tryz.prog 119 [.int .i64 k, .pointer (some ⟨nb, 0, none⟩)] (cl nb 140 (ndA d r).toList :: NdsK d r ())
    (fun u H => ∃ r', u = ndV (d.front k) r' ∧ H = NdsK d r () ++ [Nds (d.front k) r', cl nb 140 (ndA d r).toList]) := by
  intro w F s
  obtain ⟨F1, F2, a, s', dj, un⟩ := s
  refine (front_does d r nb k hp hf hi w F ⟨F1, F2, a, ⟨F2, fun _ => False, ⟨(), trivial, s'⟩, fun _ h => h, fun _ _ h => h, fun b => ⟨.inl, fun o => o.elim id False.elim⟩⟩, dj, un⟩).mono ?_
  rintro e w' ⟨v, H', he, ⟨r', hu, rfl⟩, i⟩
  obtain ⟨_, _, i'⟩ := (i.take (Take.there (Take.there Take.here))).opens (hid_opens (p := fun _ : Unit => True) (K := NdsK d r))
  exact ⟨v, _, he, ⟨r', hu, rfl⟩, i'⟩

set_option maxHeartbeats 1000000 in
theorem splitB_tail (d : Nd) (r : Rw) (k b1 b2 b3 : Nat) (hl : d.leaf = false) (hp : d.plain) (hf : d.fits) (he : k = d.at') (hk : 1 ≤ k ∧ k + 1 < d.keys.length) (w0 : World) (F0 : Nat → Prop) :
    G Tryz.prog 70 w0 F0 (nav [1, 1, 1, 1, 1, 1, 1, 1] (bdy Tryz.f79)) (Post Tryz.prog Tryz.f79 w0 F0 (fun u H => ∃ r1 r2, u = .tuple #[ndV (d.front d.at') r1, .int .u64 (d.keys.getD d.at' 0 : Nat), ndV (d.back d.at') r2, .bool true] ∧ H = [Nds (d.front d.at') r1, Nds (d.back d.at') r2, Nds d r])) [(9, .int .i64 k), (8, .func (.func 119) #[] #[.pointer (some ⟨b1, 0, none⟩)]), (6, .int .i64 1), (1, .pointer (some ⟨b1, 0, none⟩)), (2, .pointer (some ⟨b2, 0, none⟩)), (4, .pointer (some ⟨b3, 0, none⟩))] [] [cl b1 140 #[.bool false, .slice r.p1 d.keys.length r.c1, .slice r.p2 d.vals.length r.c2, .slice r.p3 d.kids.length r.c3].toList, Nds d r, cl b2 140 [.bool false, .slice none 0 0, .slice none 0 0, .slice none 0 0], cl b3 140 [.bool false, .slice none 0 0, .slice none 0 0, .slice none 0 0]] := by
  rw [← he]
  clear he
  have hu : d.up = 1 := by simp [Nd.up, hl]
  obtain ⟨p1, c1, p2, c2, p3, c3⟩ := r
  dsimp only
  have hkl := hf.k
  have hv := hp.vals
  have hki := hp.kids
  simp only [hl, if_true, Bool.false_eq_true, if_false] at hv hki
  have hb : d.back k = ⟨false, d.keys.drop (k + 1), [], d.kids.drop (k + 1)⟩ := by simp [Nd.back, hl, hu]
  have hfr := frontR_does d ⟨p1, c1, p2, c2, p3, c3⟩ b1 k hp hf (by omega)
  simp only [ndA, hl, NdsK, List.cons_append, List.nil_append] at hfr
  have ew1 : IntKind.i64.wrap ((k : Int) + 1) = ((k + 1 : Nat) : Int) := by rw [wrapI64 (by omega)]; omega
  have ew2 : IntKind.i64.wrap ((k : Int) + 1) = ((k + 1 : Nat) : Int) := by rw [wrapI64 (by omega)]; rfl
  have lu := laidU0 d.keys p1 c1 0 (k + 1) 0 _ rfl ew1 (by omega) (by omega) (by omega)
  rw [laidL_drop] at lu
  have l2 := laidI0 d.kids p3 c3 0 (k + 1) 0 _ rfl ew2 (by omega) (by omega) (by omega)
  rw [laidL_drop] at l2
  have hg := uGet (l := d.keys) (k := k) (by omega)
  obtain ⟨c, hc⟩ : ∃ c, c = nav [1, 1, 1, 1, 1, 1, 1, 1] (bdy Tryz.f79) := ⟨_, rfl⟩
  rw [← hc]
  dsimp only [nav, bdy, Tryz.f79, Option.getD] at hc
  subst hc
  refine g_open (A := Nds d ⟨p1, c1, p2, c2, p3, c3⟩) (h := ?_); (rintro _ _; dsimp only [NdsK, List.cons_append, List.nil_append])
  (repeat refine g_seq (h := ?_))
  (refine g_draw [cl b1 140 #[.bool false, .slice p1 d.keys.length c1, .slice p2 d.vals.length c2, .slice p3 d.kids.length c3].toList] (h := a_pass2 (h := ?_)))
  (repeat' (first | refine g_seq (h := ?_) | refine g_region (h := ?_) | refine l_nil (h := ?_) | refine n_then (h := ?_) | refine l_pures1 (h := ?_) | (refine l_atc ?_; refine l_call_ (lu) ?_; rintro _ _ _ ⟨q1, e1, rfl, rfl⟩ he; cases he) | (refine l_atc ?_; refine l_call_ (l2) ?_; rintro _ _ _ ⟨q2, e2, rfl, rfl⟩ he; cases he) | refine l_load (h := ?_) | refine l_store (h := ?_) | refine a_done (h := ?_) | refine a_load (h := a_pass2 (h := ?_)) | refine a_one (h := ?_) | refine n_any (h := a_pass2 (h := ?_)) | refine g_cond_f (h := ?_)))
  refine g_ptr (m := d.keys.length) (h := ?_); rintro g rfl hc1
  (refine g_draw [cl b1 140 [.bool false, .slice (some ⟨g, 0, none⟩) d.keys.length c1, .slice p2 d.vals.length c2, .slice p3 d.kids.length c3], vec 32 1 (some ⟨g, 0, none⟩) d.keys.length c1 (uV d.keys)] (h := a_pass2 (h := ?_)))
  (repeat' (first | refine l_nil (h := ?_) | refine n_then (h := ?_) | (refine l_atc ?_; refine l_call_ (hfr) ?_; rintro _ _ _ ⟨r1, rfl, rfl⟩ he; cases he) | refine l_load (h := ?_) | refine l_store (h := ?_) | refine l_indexAddr (h := ?_) | refine g_ret (h := ?_) | refine a_done (h := ?_) | refine a_load (h := a_pass2 (h := ?_)) | refine a_one (h := ?_) | refine n_any (h := a_pass2 (h := ?_)) | refine a_v (h := ?_) | refine a_load_vec (h := a_pass2 (h := ?_)) | refine a_fork2 (h1 := ?_) (h2 := ?_) | refine a_fork3 (h1 := ?_) (h2 := ?_) (h3 := ?_) | refine a1_of (h := ?_)))
  all_goals
    refine n_inv (fun i => vec_nil (9) (1) i) ?_
  all_goals
    (refine n_shut (A := Nds ⟨false, d.keys.drop (k + 1), [], d.kids.drop (k + 1)⟩ ⟨q1, e1, none, 0, q2, e2⟩) (K := NdsK ⟨false, d.keys.drop (k + 1), [], d.kids.drop (k + 1)⟩ ⟨q1, e1, none, 0, q2, e2⟩ (())) (hid_shuts (()) trivial) (h := ?_) (p := by dsimp only [NdsK]; (try simp only [List.map_nil, List.length_nil, List.length_set, List.length_append, List.length_cons, List.length_singleton, List.map_append, List.map_cons, Nat.zero_add]); exact parts_of))
  all_goals
    (refine n_shut (A := Nds d ⟨some ⟨g, 0, none⟩, c1, p2, c2, p3, c3⟩) (K := NdsK d ⟨some ⟨g, 0, none⟩, c1, p2, c2, p3, c3⟩ (())) (hid_shuts (()) trivial) (h := ?_) (p := by dsimp only [NdsK]; (try simp only [List.map_nil, List.length_nil, List.length_set, List.length_append, List.length_cons, List.length_singleton, List.map_append, List.map_cons, Nat.zero_add]); exact parts_of))
  all_goals
    refine r_retk [Nds (d.front k) r1, Nds ⟨false, d.keys.drop (k + 1), [], d.kids.drop (k + 1)⟩ ⟨q1, e1, none, 0, q2, e2⟩, Nds d ⟨some ⟨g, 0, none⟩, c1, p2, c2, p3, c3⟩] ?_
  all_goals
    refine ⟨r1, ⟨q1, e1, none, 0, q2, e2⟩, ?_, ?_⟩ <;> rw [hb]
    rfl

set_option maxHeartbeats 1000000 in
theorem splitB_does (d : Nd) (r : Rw) (hl : d.leaf = false) (hp : d.plain) (hf : d.fits) (hz : d.size < 10000) (hm : 1 ≤ d.keys.length - 1 - 1) : Does Tryz.prog 79 [.agg #[.bool false, .slice r.p1 d.keys.length r.c1, .slice r.p2 d.vals.length r.c2, .slice r.p3 d.kids.length r.c3]] [Nds d r]
    (fun u H => ∃ r1 r2, u = .tuple #[ndV (d.front d.at') r1, .int .u64 (d.keys.getD d.at' 0 : Nat), ndV (d.back d.at') r2, .bool true] ∧ H = [Nds (d.front d.at') r1, Nds (d.back d.at') r2, Nds d r]) := by
  have hfr := fun (b : Nat) k (hk : k < 10000) => front_does d r b k hp hf hk
  have hsz := ndSize_does d r hf
  have hsf := fun k r' => ndSize_does (d.front k) r' (Nd.front_fits hf k)
  have hfs := fun k => Nd.front_size hp k
  have hcs := fun m k => Nd.cut_step (d := d) (m := m) (k := k)
  have hcq := fun m k => Nd.cut_stop (d := d) (m := m) (k := k)
  have hu : d.up = 1 := by simp [Nd.up, hl]
  have hat : d.cut (d.keys.length - 1 - 1 - 1) 1 = d.at' := by rw [Nd.at', hu]
  have htl := fun k b1 b2 b3 => splitB_tail d r k b1 b2 b3 hl hp hf
  have hkl := hf.k
  simp only [ndV, ndA, hl] at hfr hsz
  have e4 : IntKind.i64.wrap (Int.tdiv (d.size : Int) 2) = ((d.size / 2 : Nat) : Int) := by rw [show Int.tdiv (d.size : Int) 2 = ((d.size / 2 : Nat) : Int) from rfl, wrapI64 (by omega)]
  have ew0 : IntKind.i64.wrap ((d.keys.length : Int) - 1) = ((d.keys.length - 1 : Nat) : Int) := by rw [wrapI64 (by omega)]; omega
  have ew1 : IntKind.i64.wrap (IntKind.i64.wrap ((d.keys.length : Int) - 1) - 1) = ((d.keys.length - 1 - 1 : Nat) : Int) := by rw [ew0, wrapI64 (by omega)]; omega
  refine does_of Tryz.func79 Tryz.ntmps79 rfl rfl rfl (fun w0 F0 => ?_)
  (repeat' (first | refine g_seq (h := ?_) | refine g_region (h := ?_) | refine l_nil (h := ?_) | refine n_then (h := ?_) | refine l_pures1 (h := ?_) | refine l_load (h := ?_) | (refine l_box (h := ?_); intro _) | (refine l_alloc (h := ?_); intro _) | refine g_skip (h := ?_) | refine g_block (h := ?_) | refine g_cond_t (h := ?_) | (refine g_spF (h := ?_); intro h)))
  rw [ew1]
  rename_i b1 b2 b3
  (refine g_loop (fun k : Nat => [(9, .int .i64 k), (7, .int .i64 ((d.keys.length - 1 - 1) : Nat)), (8, .func (.func 119) #[] #[.pointer (some ⟨b1, 0, none⟩)]), (6, .int .i64 1), (1, .pointer (some ⟨b1, 0, none⟩)), (2, .pointer (some ⟨b2, 0, none⟩)), (4, .pointer (some ⟨b3, 0, none⟩))]) (fun _ => [cl b1 140 #[.bool false, .slice r.p1 d.keys.length r.c1, .slice r.p2 d.vals.length r.c2, .slice r.p3 d.kids.length r.c3].toList, Nds d r, cl b2 140 [.bool false, .slice none 0 0, .slice none 0 0, .slice none 0 0], cl b3 140 [.bool false, .slice none 0 0, .slice none 0 0, .slice none 0 0]]) (fun k => (1 ≤ k ∧ k ≤ (d.keys.length - 1 - 1)) ∧ d.cut ((d.keys.length - 1 - 1) - k) k = d.at') (fun k => d.keys.length - k) (1) ?_ ?_ ?_ ?_; rotate_left; (repeat (first | refine ts_nil | (refine ts_cons rfl ?_ ?_; first | (with_reducible rfl) | rotate_left))); (first | (intro _ i; with_reducible refine i) | rotate_left); rotate_left; (try omega); rotate_right)
  · intro k hk
    dsimp only at hk ⊢
    obtain ⟨hk, hkc⟩ := hk
    have hfk := hfs k
    have ew2 : IntKind.i64.wrap ((k : Int) + 1) = ((k + 1 : Nat) : Int) := by rw [wrapI64 (by omega)]; rfl
    have hk0 : d.keys.length - 1 - 1 - k = 0 → k = d.at' := fun e => by rw [e] at hkc; exact hkc
    have hk1 : ¬ (d.front k).size < d.size / 2 → k = d.at' := fun e => (hcq _ _ e).symm.trans hkc
    have hk2 : k < d.keys.length - 1 - 1 → (d.front k).size < d.size / 2 → d.cut (d.keys.length - 1 - 1 - (k + 1)) (k + 1) = d.at' := fun e1 e2 => by
      rw [← hcs _ _ e2, show d.keys.length - 1 - 1 - (k + 1) + 1 = d.keys.length - 1 - 1 - k by omega]; exact hkc
    (repeat refine g_seq (h := ?_))
    (refine g_draw [cl b1 140 #[.bool false, .slice r.p1 d.keys.length r.c1, .slice r.p2 d.vals.length r.c2, .slice r.p3 d.kids.length r.c3].toList] (h := a_pass2 (h := ?_)))
    (repeat' (first | ((with_reducible show G _ _ _ _ (Code.seq (Code.region 11 _ _) _) _ _ _ _); exact g_bang (htl k b1 b2 b3 (by first | exact hk0 (by omega) | exact hk1 (by omega)) (by omega) _ _)) | refine g_region (h := ?_) | refine l_nil (h := ?_) | refine n_then (h := ?_) | refine l_pures1 (h := ?_) | (refine l_atc ?_; refine l_call_ (hfr b1 k (by omega)) ?_; rintro _ _ _ ⟨r', rfl, rfl⟩ he; cases he) | (refine l_atc ?_; refine l_call (hsf k _) ?_) | (refine l_atc ?_; refine l_call (hsz) ?_) | refine l_guard_yes (h := ?_) | refine l_guard_no (h := ?_) | refine l_load (h := ?_) | refine g_skip (h := ?_) | refine g_block (h := ?_) | refine g_exit (h := ?_) | refine n_then_exit (h := ?_) | refine n_block_hit (h := ?_) | refine a_done (h := ?_) | refine a_one (h := ?_) | refine n_any (h := a_pass2 (h := ?_)) | refine a_vg (h := ?_) | refine a_no (h := ?_) | refine n_block (h := ?_) | refine g_cond_f (h := ?_) | (refine a_sp (h1 := ?_) (h0 := ?_) <;> intro h) | (refine g_sp (h1 := ?_) (h0 := ?_) <;> intro h) | refine a_fork2 (h1 := ?_) (h2 := ?_) | refine a1_of (h := ?_)))
    all_goals
      (refine n_back (k + 1) ?_ ?_ ?_ ?_; rotate_left; rotate_left; (repeat (first | refine ts_nil | (refine ts_cons rfl ?_ ?_; first | (with_reducible rfl) | rotate_left))); (first | (intro _ i; with_reducible refine i) | rotate_left); (try omega); (try omega))
    all_goals (try rw [ew2])
    all_goals
      (intro _ i; exact inv_keep parts_of i)
  · rfl
  · (intro _ i; exact inv_keep parts_of i)

set_option maxHeartbeats 1000000 in
theorem splitL_tail (d : Nd) (r : Rw) (k b1 b2 b3 : Nat) (hl : d.leaf = true) (hp : d.plain) (hf : d.fits) (he : k = d.at') (hk : 1 ≤ k ∧ k + 0 < d.keys.length) (w0 : World) (F0 : Nat → Prop) :
    G Tryz.prog 70 w0 F0 (nav [1, 1, 1, 1, 1, 1, 1, 1] (bdy Tryz.f79)) (Post Tryz.prog Tryz.f79 w0 F0 (fun u H => ∃ r1 r2, u = .tuple #[ndV (d.front d.at') r1, .int .u64 (d.keys.getD d.at' 0 : Nat), ndV (d.back d.at') r2, .bool true] ∧ H = [Nds (d.front d.at') r1, Nds (d.back d.at') r2, Nds d r])) [(9, .int .i64 k), (8, .func (.func 119) #[] #[.pointer (some ⟨b1, 0, none⟩)]), (6, .int .i64 0), (1, .pointer (some ⟨b1, 0, none⟩)), (2, .pointer (some ⟨b2, 0, none⟩)), (4, .pointer (some ⟨b3, 0, none⟩))] [] [cl b1 140 #[.bool true, .slice r.p1 d.keys.length r.c1, .slice r.p2 d.vals.length r.c2, .slice r.p3 d.kids.length r.c3].toList, Nds d r, cl b2 140 [.bool false, .slice none 0 0, .slice none 0 0, .slice none 0 0], cl b3 140 [.bool false, .slice none 0 0, .slice none 0 0, .slice none 0 0]] := by
  rw [← he]
  clear he
  have hu : d.up = 0 := by simp [Nd.up, hl]
  obtain ⟨p1, c1, p2, c2, p3, c3⟩ := r
  dsimp only
  have hkl := hf.k
  have hv := hp.vals
  have hki := hp.kids
  simp only [hl, if_true, Bool.false_eq_true, if_false] at hv hki
  have hb : d.back k = ⟨true, d.keys.drop (k + 0), d.vals.drop k, []⟩ := by simp [Nd.back, hl, hu]
  have hfr := frontR_does d ⟨p1, c1, p2, c2, p3, c3⟩ b1 k hp hf (by omega)
  simp only [ndA, hl, NdsK, List.cons_append, List.nil_append] at hfr
  have ew1 : IntKind.i64.wrap ((k : Int) + 0) = ((k + 0 : Nat) : Int) := by rw [wrapI64 (by omega)]; omega
  have ew2 : IntKind.i64.wrap ((k : Int) + 1) = ((k + 1 : Nat) : Int) := by rw [wrapI64 (by omega)]; rfl
  have lu := laidU0 d.keys p1 c1 0 (k + 0) 0 _ rfl ew1 (by omega) (by omega) (by omega)
  rw [laidL_drop] at lu
  have l2 := laidS0 d.vals p2 c2 0 k 0 _ rfl rfl (by omega) (by omega) (by omega)
  rw [laidL_drop] at l2
  have hg := uGet (l := d.keys) (k := k) (by omega)
  obtain ⟨c, hc⟩ : ∃ c, c = nav [1, 1, 1, 1, 1, 1, 1, 1] (bdy Tryz.f79) := ⟨_, rfl⟩
  rw [← hc]
  dsimp only [nav, bdy, Tryz.f79, Option.getD] at hc
  subst hc
  refine g_open (A := Nds d ⟨p1, c1, p2, c2, p3, c3⟩) (h := ?_); (rintro _ _; dsimp only [NdsK, List.cons_append, List.nil_append])
  (repeat refine g_seq (h := ?_))
  (refine g_draw [cl b1 140 #[.bool true, .slice p1 d.keys.length c1, .slice p2 d.vals.length c2, .slice p3 d.kids.length c3].toList] (h := a_pass2 (h := ?_)))
  (repeat' (first | refine g_seq (h := ?_) | refine g_region (h := ?_) | refine l_nil (h := ?_) | refine n_then (h := ?_) | refine l_pures1 (h := ?_) | (refine l_atc ?_; refine l_call_ (lu) ?_; rintro _ _ _ ⟨q1, e1, rfl, rfl⟩ he; cases he) | (refine l_atc ?_; refine l_call_ (l2) ?_; rintro _ _ _ ⟨q2, e2, rfl, rfl⟩ he; cases he) | refine l_load (h := ?_) | refine l_store (h := ?_) | refine a_done (h := ?_) | refine a_load (h := a_pass2 (h := ?_)) | refine a_one (h := ?_) | refine n_any (h := a_pass2 (h := ?_)) | refine g_cond_t (h := ?_)))
  refine g_ptr (m := d.keys.length) (h := ?_); rintro g rfl hc1
  (refine g_draw [cl b1 140 [.bool true, .slice (some ⟨g, 0, none⟩) d.keys.length c1, .slice p2 d.vals.length c2, .slice p3 d.kids.length c3], vec 32 1 (some ⟨g, 0, none⟩) d.keys.length c1 (uV d.keys)] (h := a_pass2 (h := ?_)))
  (repeat' (first | refine l_nil (h := ?_) | refine n_then (h := ?_) | (refine l_atc ?_; refine l_call_ (hfr) ?_; rintro _ _ _ ⟨r1, rfl, rfl⟩ he; cases he) | refine l_load (h := ?_) | refine l_store (h := ?_) | refine l_indexAddr (h := ?_) | refine g_ret (h := ?_) | refine a_done (h := ?_) | refine a_load (h := a_pass2 (h := ?_)) | refine a_one (h := ?_) | refine n_any (h := a_pass2 (h := ?_)) | refine a_v (h := ?_) | refine a_load_vec (h := a_pass2 (h := ?_)) | refine a_fork2 (h1 := ?_) (h2 := ?_) | refine a_fork3 (h1 := ?_) (h2 := ?_) (h3 := ?_) | refine a1_of (h := ?_)))
  all_goals
    refine n_inv (fun i => vec_nil (3) (1) i) ?_
  all_goals
    (refine n_shut (A := Nds ⟨true, d.keys.drop (k + 0), d.vals.drop k, []⟩ ⟨q1, e1, q2, e2, none, 0⟩) (K := NdsK ⟨true, d.keys.drop (k + 0), d.vals.drop k, []⟩ ⟨q1, e1, q2, e2, none, 0⟩ (())) (hid_shuts (()) trivial) (h := ?_) (p := by dsimp only [NdsK]; (try simp only [List.map_nil, List.length_nil, List.length_set, List.length_append, List.length_cons, List.length_singleton, List.map_append, List.map_cons, Nat.zero_add]); exact parts_of))
  all_goals
    (refine n_shut (A := Nds d ⟨some ⟨g, 0, none⟩, c1, p2, c2, p3, c3⟩) (K := NdsK d ⟨some ⟨g, 0, none⟩, c1, p2, c2, p3, c3⟩ (())) (hid_shuts (()) trivial) (h := ?_) (p := by dsimp only [NdsK]; (try simp only [List.map_nil, List.length_nil, List.length_set, List.length_append, List.length_cons, List.length_singleton, List.map_append, List.map_cons, Nat.zero_add]); exact parts_of))
  all_goals
    refine r_retk [Nds (d.front k) r1, Nds ⟨true, d.keys.drop (k + 0), d.vals.drop k, []⟩ ⟨q1, e1, q2, e2, none, 0⟩, Nds d ⟨some ⟨g, 0, none⟩, c1, p2, c2, p3, c3⟩] ?_
  all_goals
    refine ⟨r1, ⟨q1, e1, q2, e2, none, 0⟩, ?_, ?_⟩ <;> rw [hb]
    rfl

set_option maxHeartbeats 1000000 in
theorem splitL_does (d : Nd) (r : Rw) (hl : d.leaf = true) (hp : d.plain) (hf : d.fits) (hz : d.size < 10000) (hm : 1 ≤ d.keys.length - 1 - 0) : Does Tryz.prog 79 [.agg #[.bool true, .slice r.p1 d.keys.length r.c1, .slice r.p2 d.vals.length r.c2, .slice r.p3 d.kids.length r.c3]] [Nds d r]
    (fun u H => ∃ r1 r2, u = .tuple #[ndV (d.front d.at') r1, .int .u64 (d.keys.getD d.at' 0 : Nat), ndV (d.back d.at') r2, .bool true] ∧ H = [Nds (d.front d.at') r1, Nds (d.back d.at') r2, Nds d r]) := by
  have hfr := fun (b : Nat) k (hk : k < 10000) => front_does d r b k hp hf hk
  have hsz := ndSize_does d r hf
  have hsf := fun k r' => ndSize_does (d.front k) r' (Nd.front_fits hf k)
  have hfs := fun k => Nd.front_size hp k
  have hcs := fun m k => Nd.cut_step (d := d) (m := m) (k := k)
  have hcq := fun m k => Nd.cut_stop (d := d) (m := m) (k := k)
  have hu : d.up = 0 := by simp [Nd.up, hl]
  have hat : d.cut (d.keys.length - 1 - 0 - 1) 1 = d.at' := by rw [Nd.at', hu]
  have htl := fun k b1 b2 b3 => splitL_tail d r k b1 b2 b3 hl hp hf
  have hkl := hf.k
  simp only [ndV, ndA, hl] at hfr hsz
  have e4 : IntKind.i64.wrap (Int.tdiv (d.size : Int) 2) = ((d.size / 2 : Nat) : Int) := by rw [show Int.tdiv (d.size : Int) 2 = ((d.size / 2 : Nat) : Int) from rfl, wrapI64 (by omega)]
  have ew0 : IntKind.i64.wrap ((d.keys.length : Int) - 1) = ((d.keys.length - 1 : Nat) : Int) := by rw [wrapI64 (by omega)]; omega
  have ew1 : IntKind.i64.wrap (IntKind.i64.wrap ((d.keys.length : Int) - 1) - 0) = ((d.keys.length - 1 - 0 : Nat) : Int) := by rw [ew0, wrapI64 (by omega)]; omega
  refine does_of Tryz.func79 Tryz.ntmps79 rfl rfl rfl (fun w0 F0 => ?_)
  (repeat' (first | refine g_seq (h := ?_) | refine g_region (h := ?_) | refine l_nil (h := ?_) | refine n_then (h := ?_) | refine l_pures1 (h := ?_) | refine l_load (h := ?_) | (refine l_box (h := ?_); intro _) | (refine l_alloc (h := ?_); intro _) | refine g_skip (h := ?_) | refine g_block (h := ?_) | refine g_cond_f (h := ?_) | (refine g_spF (h := ?_); intro h)))
  rw [ew1]
  rename_i b1 b2 b3
  (refine g_loop (fun k : Nat => [(9, .int .i64 k), (7, .int .i64 ((d.keys.length - 1 - 0) : Nat)), (8, .func (.func 119) #[] #[.pointer (some ⟨b1, 0, none⟩)]), (6, .int .i64 0), (1, .pointer (some ⟨b1, 0, none⟩)), (2, .pointer (some ⟨b2, 0, none⟩)), (4, .pointer (some ⟨b3, 0, none⟩))]) (fun _ => [cl b1 140 #[.bool true, .slice r.p1 d.keys.length r.c1, .slice r.p2 d.vals.length r.c2, .slice r.p3 d.kids.length r.c3].toList, Nds d r, cl b2 140 [.bool false, .slice none 0 0, .slice none 0 0, .slice none 0 0], cl b3 140 [.bool false, .slice none 0 0, .slice none 0 0, .slice none 0 0]]) (fun k => (1 ≤ k ∧ k ≤ (d.keys.length - 1 - 0)) ∧ d.cut ((d.keys.length - 1 - 0) - k) k = d.at') (fun k => d.keys.length - k) (1) ?_ ?_ ?_ ?_; rotate_left; (repeat (first | refine ts_nil | (refine ts_cons rfl ?_ ?_; first | (with_reducible rfl) | rotate_left))); (first | (intro _ i; with_reducible refine i) | rotate_left); rotate_left; (try omega); rotate_right)
  · intro k hk
    dsimp only at hk ⊢
    obtain ⟨hk, hkc⟩ := hk
    have hfk := hfs k
    have ew2 : IntKind.i64.wrap ((k : Int) + 1) = ((k + 1 : Nat) : Int) := by rw [wrapI64 (by omega)]; rfl
    have hk0 : d.keys.length - 1 - 0 - k = 0 → k = d.at' := fun e => by rw [e] at hkc; exact hkc
    have hk1 : ¬ (d.front k).size < d.size / 2 → k = d.at' := fun e => (hcq _ _ e).symm.trans hkc
    have hk2 : k < d.keys.length - 1 - 0 → (d.front k).size < d.size / 2 → d.cut (d.keys.length - 1 - 0 - (k + 1)) (k + 1) = d.at' := fun e1 e2 => by
      rw [← hcs _ _ e2, show d.keys.length - 1 - 0 - (k + 1) + 1 = d.keys.length - 1 - 0 - k by omega]; exact hkc
    (repeat refine g_seq (h := ?_))
    (refine g_draw [cl b1 140 #[.bool true, .slice r.p1 d.keys.length r.c1, .slice r.p2 d.vals.length r.c2, .slice r.p3 d.kids.length r.c3].toList] (h := a_pass2 (h := ?_)))
    (repeat' (first | ((with_reducible show G _ _ _ _ (Code.seq (Code.region 11 _ _) _) _ _ _ _); exact g_bang (htl k b1 b2 b3 (by first | exact hk0 (by omega) | exact hk1 (by omega)) (by omega) _ _)) | refine g_region (h := ?_) | refine l_nil (h := ?_) | refine n_then (h := ?_) | refine l_pures1 (h := ?_) | (refine l_atc ?_; refine l_call_ (hfr b1 k (by omega)) ?_; rintro _ _ _ ⟨r', rfl, rfl⟩ he; cases he) | (refine l_atc ?_; refine l_call (hsf k _) ?_) | (refine l_atc ?_; refine l_call (hsz) ?_) | refine l_guard_yes (h := ?_) | refine l_guard_no (h := ?_) | refine l_load (h := ?_) | refine g_skip (h := ?_) | refine g_block (h := ?_) | refine g_exit (h := ?_) | refine n_then_exit (h := ?_) | refine n_block_hit (h := ?_) | refine a_done (h := ?_) | refine a_one (h := ?_) | refine n_any (h := a_pass2 (h := ?_)) | refine a_vg (h := ?_) | refine a_no (h := ?_) | refine n_block (h := ?_) | refine g_cond_f (h := ?_) | (refine a_sp (h1 := ?_) (h0 := ?_) <;> intro h) | (refine g_sp (h1 := ?_) (h0 := ?_) <;> intro h) | refine a_fork2 (h1 := ?_) (h2 := ?_) | refine a1_of (h := ?_)))
    all_goals
      (refine n_back (k + 1) ?_ ?_ ?_ ?_; rotate_left; rotate_left; (repeat (first | refine ts_nil | (refine ts_cons rfl ?_ ?_; first | (with_reducible rfl) | rotate_left))); (first | (intro _ i; with_reducible refine i) | rotate_left); (try omega); (try omega))
    all_goals (try rw [ew2])
    all_goals
      (intro _ i; exact inv_keep parts_of i)
  · rfl
  · (intro _ i; exact inv_keep parts_of i)
end Go.Proofs.YtbdgnjlbmhnipaaGreat
