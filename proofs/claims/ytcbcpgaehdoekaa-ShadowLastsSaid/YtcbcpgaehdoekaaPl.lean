/- Plain facts on the models: sets of numbers, pages, disks. -/
import Derived.Test.YtcbcpgaehdoekaaShadC
set_option linter.unusedVariables false
set_option linter.unusedSimpArgs false
namespace Go.Proofs.Ytcbcpgaehdoekaa
open Go.Proofs.Ytcbcpgaehdoekaa.SL

/-! ### Sets -/
theorem hasB_snoc {l : List UInt8} {c : UInt8} {i : Nat} (h : i < 8 * l.length) : hasB (l ++ [c]) i = hasB l i := by
  simp only [hasB, Int.toNat_natCast]
  rw [List.getD, List.getElem?_append_left (by omega)]; rfl
theorem hasB_snoc2 {l : List UInt8} {c : UInt8} {m : Nat} (h : m < 8) : hasB (l ++ [c]) ((8 * l.length + m : Nat) : Int) = c.toNat.testBit m := by
  simp only [hasB, Int.toNat_natCast]
  rw [show (8 * l.length + m) / 8 = l.length by omega, show (8 * l.length + m) % 8 = m by omega, List.getD, List.getElem?_append_right (Nat.le_refl _)]
  simp
  intro _; omega
theorem countB_eq : ∀ (u : List UInt8), countB u = (usedN u (8 * u.length)).length := by
  refine snoc_ind rfl ?_
  intro l c ih
  rw [countB_snoc, ih]
  simp only [usedN, List.length_map]
  rw [← List.countP_eq_length_filter, ← List.countP_eq_length_filter, List.length_append, List.length_singleton, Nat.mul_add, List.range_add, List.countP_append, List.countP_map]
  congr 1
  · apply List.countP_congr
    intro i hi
    rw [hasB_snoc (List.mem_range.1 hi)]
  · rw [ones]
    apply List.countP_congr
    intro m hm
    have := hasB_snoc2 (l := l) (c := c) (List.mem_range.1 (by simpa using hm))
    simp only [Function.comp]
    rw [this]

theorem mem_usedN {u : List UInt8} {n : Nat} {i : Int} : i ∈ usedN u n ↔ hasB u i = true ∧ i < n := by
  simp only [usedN, List.mem_map, List.mem_filter, List.mem_range]
  constructor
  · rintro ⟨j, ⟨h1, h2⟩, rfl⟩
    exact ⟨h2, by omega⟩
  · rintro ⟨h1, h2⟩
    have := (hasB_lt h1).1
    exact ⟨i.toNat, ⟨by omega, by rw [Int.toNat_of_nonneg this]; exact h1⟩, Int.toNat_of_nonneg this⟩
theorem usedN_nodup (u : List UInt8) (n : Nat) : (usedN u n).Nodup := by
  exact List.Pairwise.map _ (fun a b (h : a ≠ b) q => h (by omega)) (List.Pairwise.filter _ List.nodup_range)

/-- A set's bytes have just these numbers. -/
structure Uses (u : List UInt8) (L : List Int) : Prop where
  len : u.length = 80
  nd : L.Nodup
  mem : ∀ i, hasB u i = true ↔ i ∈ L
theorem Uses.bd {u : List UInt8} {L : List Int} (h : Uses u L) {i : Int} (hi : i ∈ L) : 0 ≤ i ∧ i < 640 := by
  have := hasB_lt ((h.mem i).2 hi)
  rw [h.len] at this
  omega
theorem Uses.usedN {u : List UInt8} {L : List Int} (h : Uses u L) {n : Nat} (hn : ∀ i ∈ L, i < n) : (usedN u n).Perm L := by
  rw [List.perm_ext_iff_of_nodup (usedN_nodup _ _) h.nd]
  intro i
  rw [mem_usedN, h.mem]
  exact ⟨fun q => q.1, fun q => ⟨q, hn i q⟩⟩
theorem Uses.count {u : List UInt8} {L : List Int} (h : Uses u L) : countB u = L.length := by
  rw [countB_eq]
  exact (h.usedN (fun i hi => by have := h.bd hi; rw [h.len]; omega)).length_eq
theorem hasB_zeros (n : Nat) (i : Int) : hasB (List.replicate n 0) i = false := by
  simp only [hasB]
  have : (List.replicate n (0 : UInt8)).getD (i.toNat / 8) 0 = 0 := by
    rw [List.getD, List.getElem?_replicate]; split <;> rfl
  rw [this]; simp
theorem uses_new : Uses (newB 640) [] := ⟨newB_len, List.nodup_nil, fun i => by rw [newB, hasB_zeros]; simp⟩
theorem has_setAll {on : Bool} : ∀ {l : List Int} {u : List UInt8} {j : Int}, (∀ i ∈ l, 0 ≤ i ∧ i < 8 * (u.length : Int)) → hasB (setAll u on l) j = if j ∈ l then on else hasB u j
  | [], u, j, _ => by simp [setAll]
  | n :: l, u, j, h => by
    show hasB (setAll (withB u n on) on l) j = _
    have hn := h n (by simp)
    rw [has_setAll (fun i hi => by rw [withB_len]; exact h i (by simp [hi])), hasB_with hn.1 (by omega)]
    by_cases q : j ∈ l
    · simp [q]
    · by_cases e : j = n <;> simp [q, e]
theorem Uses.add {u : List UInt8} {L F : List Int} (h : Uses u L) (hF : F.Nodup) (hb : ∀ i ∈ F, 0 ≤ i ∧ i < 640) (hd : ∀ i ∈ F, i ∉ L) {l : List Int} (hl : l.Perm F) : Uses (setAll u true l) (L ++ F) := by
  refine ⟨by rw [setAll_len, h.len], List.nodup_append.2 ⟨h.nd, hF, fun x hx y hy q => hd y hy (q ▸ hx)⟩, fun i => ?_⟩
  rw [has_setAll (fun i hi => by have := hb i (hl.mem_iff.1 hi); rw [h.len]; omega)]
  simp only [hl.mem_iff, List.mem_append]
  by_cases q : i ∈ F <;> simp [q, h.mem i]
theorem Uses.del {u : List UInt8} {L G : List Int} (h : Uses u L) (hb : ∀ i ∈ G, 0 ≤ i ∧ i < 640) {l : List Int} (hl : l.Perm G) : Uses (setAll u false l) (L.filter fun i => !decide (i ∈ G)) := by
  refine ⟨by rw [setAll_len, h.len], h.nd.filter _, fun i => ?_⟩
  rw [has_setAll (fun i hi => by have := hb i (hl.mem_iff.1 hi); rw [h.len]; omega)]
  simp only [hl.mem_iff, List.mem_filter]
  by_cases q : i ∈ G <;> simp [q, h.mem i]

/-! ### Pages -/
theorem bodyP_len {k : Int} {t : List UInt8} (h : t.length ≤ 240) : (bodyP k t).length = 252 := by
  simp only [bodyP, List.length_cons, List.length_append, List.length_replicate]; omega
theorem sealP_len {k : Int} {t : List UInt8} (h : t.length ≤ 240) : (sealP k t).length = 256 := by
  simp only [sealP, List.length_append, bodyP_len h, putN_length]
theorem seal_of {k : Int} {t : List UInt8} (hk : 1 ≤ k ∧ k ≤ 15) (h : t.length ≤ 240) : pageSeal k t = (sealP k t, 0) := by
  rw [pageSeal, if_neg (by omega)]
theorem open_seal {k : Int} {t : List UInt8} (hk : 1 ≤ k ∧ k ≤ 15) (h : t.length ≤ 240) : pageOpen (sealP k t) = (k, t, 0) := by
  have hb := bodyP_len (k := k) h
  have e1 : (sealP k t).take 252 = bodyP k t := by rw [sealP, ← hb, List.take_left]
  have e2 : (sealP k t).drop 252 = putN (sumP (bodyP k t)) 4 := by rw [sealP, ← hb, List.drop_left]
  have e3 : getN (putN (sumP (bodyP k t)) 4) = sumP (bodyP k t) := getN_putN 4 _ (sumP_lt _)
  have e4 : (sealP k t).getD 1 0 = UInt8.ofNat t.length := rfl
  have e5 : (UInt8.ofNat t.length).toNat = t.length := by simp; omega
  have e6 : byteAt (sealP k t) 0 = k := by
    show (((UInt8.ofNat k.toNat).toNat : Nat) : Int) = k
    simp; omega
  have e7 : ((sealP k t).drop 2).take t.length = t := by
    show (t ++ List.replicate (250 - t.length) 0 ++ putN (sumP (bodyP k t)) 4).take t.length = t
    rw [List.append_assoc, List.take_left]
  rw [pageOpen, if_neg (by rw [sealP_len h]; omega), e1, e2, e3, if_neg (by omega), e4, e5, e6, Nat.min_eq_left (by omega), e7, seal_of hk h, if_pos rfl]
theorem open_zero : pageOpen zero256 = (0, [], 15) := by
  have h1 : sumP (zero256.take 252) = 16515073 := by decide +kernel
  have h2 : getN (zero256.drop 252) = 0 := by decide +kernel
  rw [pageOpen, if_neg (by rw [zero256_len]; omega), h1, h2, if_pos (by omega)]

/-! ### Disks that are up, with no fuse -/
structure Dk.lives (D : Dk) (N : Nat) : Prop where
  n : D.now.length = N
  up : D.gone = false
  fuse : D.fuse = -1
theorem Dk.lives.may {D : Dk} {N : Nat} (h : D.lives N) {n : Int} (hn : 0 ≤ n ∧ n < N) : D.may n = 0 := by
  rw [Dk.may, if_neg (by rw [h.up]; simp), if_neg (by rw [h.n]; omega)]
theorem Dk.lives.put {D : Dk} {N : Nat} (h : D.lives N) (n : Int) (s : List UInt8) : (D.put n s).lives N :=
  ⟨by simp [Dk.put, h.n], h.up, by show max (-1) (D.fuse - 1) = -1; rw [h.fuse]; rfl⟩
theorem Dk.lives.write {D : Dk} {N : Nat} (h : D.lives N) {n k : Int} {t : List UInt8} (hn : 0 ≤ n ∧ n < N) (hk : 1 ≤ k ∧ k ≤ 15) (ht : t.length ≤ 240) : pageWrite D n k t = (0, D.put n (sealP k t)) := by
  rw [pageWrite, seal_of hk ht, if_neg (by simp), Dk.write, if_neg (by rw [h.may hn]; simp), if_neg (by rw [sealP_len ht]; simp), if_neg (by rw [h.fuse]; omega)]
/-- What a page says. -/
def Dk.pg (D : Dk) (n : Int) : Int × List UInt8 × Int := pageOpen (D.now.getD n.toNat [])
theorem Dk.lives.read {D : Dk} {N : Nat} (h : D.lives N) {n : Int} (hn : 0 ≤ n ∧ n < N) : pageRead D n = D.pg n := by
  have : D.read n = (D.now.getD n.toNat [], 0) := by rw [Dk.read, if_pos (h.may hn)]
  rw [pageRead, this, if_neg (by simp)]; rfl
theorem Dk.put_now (D : Dk) (n : Int) (s : List UInt8) : (D.put n s).now = D.now.set n.toNat s := rfl
theorem getD_set {α : Type} {l : List α} {i j : Nat} {s z : α} (h : i < l.length) : (l.set i s).getD j z = if j = i then s else l.getD j z := by
  simp only [List.getD, List.getElem?_set]
  by_cases q : j = i
  · subst q; simp [h]
  · rw [if_neg (fun e => q e.symm), if_neg q]
theorem Dk.lives.pg_put {D : Dk} {N : Nat} (h : D.lives N) {n m : Int} {s : List UInt8} (hn : 0 ≤ n ∧ n < N) (hm : 0 ≤ m) : (D.put n s).pg m = if m = n then pageOpen s else D.pg m := by
  rw [Dk.pg, Dk.put_now, getD_set (by rw [h.n]; omega)]
  by_cases q : m = n
  · subst q; simp
  · rw [if_neg q, if_neg (by omega)]; rfl
theorem Dk.lives.sync {D : Dk} {N : Nat} (h : D.lives N) : D.sync.1 = 0 ∧ D.sync.2.lives N ∧ D.sync.2.now = D.now := by
  rw [Dk.sync, if_neg (by rw [h.up]; simp)]
  exact ⟨rfl, ⟨h.n, h.up, h.fuse⟩, rfl⟩
theorem Dk.pg_now {D E : Dk} (h : D.now = E.now) (n : Int) : D.pg n = E.pg n := by rw [Dk.pg, Dk.pg, h]
theorem Dk.new_lives (n : Nat) : (Dk.new n).lives n := ⟨List.length_replicate, rfl, rfl⟩
theorem Dk.new_pg {n : Nat} {i : Int} (h : 0 ≤ i ∧ i < n) : (Dk.new n).pg i = (0, [], 15) := by
  have : (Dk.new n).now.getD i.toNat [] = zero256 := by
    rw [List.getD, Dk.new, List.getElem?_replicate, if_pos (by omega)]; rfl
  rw [Dk.pg, this, open_zero]

/-! ### Heads -/
structure Hd.good (h : Hd) (N : Nat) (U : List Int) : Prop where
  g : 1 ≤ h.gen ∧ h.gen ≤ 281474976710655
  r : h.root = 0 ∨ h.root ∈ U
  u : Uses h.used U
  b : ∀ i ∈ U, 2 ≤ i ∧ i < N
theorem Hd.good.ok {h : Hd} {N : Nat} {U : List Int} (k : h.good N U) : h.ok := by
  refine ⟨⟨by have := k.g; omega, k.g.2⟩, ?_, by rw [k.u.len]; omega⟩
  rcases k.r with e | e
  · omega
  · have := k.u.bd e; omega
theorem Hd.good.nums {h : Hd} {N : Nat} {U : List Int} (k : h.good N U) : (numPut h.gen.toNat 6).1 = putN h.gen.toNat 6 ∧ (numPut h.root.toNat 2).1 = putN h.root.toNat 2 := by
  have h1 := k.ok.g
  have h2 := k.ok.r
  refine ⟨?_, ?_⟩
  · rw [numPut, if_neg (by omega), if_pos (by show _ < 281474976710656; omega)]; rfl
  · rw [numPut, if_neg (by omega), if_pos (by show _ < 65536; omega)]; rfl
theorem Hd.good.text_len {h : Hd} {N : Nat} {U : List Int} (k : h.good N U) : h.text.length = 88 := by
  have h1 := k.ok.g
  have h2 := k.ok.r
  obtain ⟨e1, e2⟩ := k.nums
  rw [Hd.text, e1, e2, List.length_append, List.length_append, putN_length, putN_length, k.u.len]
theorem Hd.good.of_text {h : Hd} {N : Nat} {U : List Int} (k : h.good N U) : headOf h.text = h := by
  have h1 := k.ok.g
  have h2 := k.ok.r
  obtain ⟨e1, e2⟩ := k.nums
  have et : h.text = putN h.gen.toNat 6 ++ (putN h.root.toNat 2 ++ h.used) := by rw [Hd.text, e1, e2, List.append_assoc]
  have d6 : h.text.drop 6 = putN h.root.toNat 2 ++ h.used := by rw [et, List.drop_left' (putN_length _ _)]
  rw [headOf, d6, show h.text.drop 8 = (h.text.drop 6).drop 2 by rw [List.drop_drop], d6, List.drop_left' (putN_length _ _), List.take_left' (putN_length _ _), et, List.take_left' (putN_length _ _),
    getN_putN 6 _ (by omega), getN_putN 2 _ (by omega), Int.toNat_of_nonneg h1.1, Int.toNat_of_nonneg h2.1]
theorem Hd.good.counts {h : Hd} {N : Nat} {U : List Int} (k : h.good N U) {n : Int} (hn : h.gen % 2 = n) : h.counts N n = true := by
  have h1 := k.g
  have hc : h.clear N 640 = true := by
    rw [Hd.clear, List.all_eq_true]
    intro i _
    cases q : hasB h.used i
    · simp
    · have := k.b _ ((k.u.mem i).1 q)
      simp; omega
  rw [Hd.counts, hc]
  have e : h.gen.tmod 2 = n := by rw [Int.tmod_eq_emod_of_nonneg (by omega)]; exact hn
  have e2 : decide (h.gen < 1) = false := by simp; omega
  rw [e, e2]
  rcases k.r with e | e
  · simp [e]
  · have := (k.u.mem _).2 e
    simp [this]
theorem readH_good {D : Dk} {N : Nat} {h : Hd} {U : List Int} (hl : D.lives N) (k : h.good N U) {n : Int} (hn : h.gen % 2 = n) (hN : 2 ≤ N) (e : D.pg n = (1, h.text, 0)) : readH D n = (h, true) := by
  rw [readH, hl.read (by omega), e, if_neg (by rw [k.text_len]; simp), k.of_text, hl.n, k.counts hn]
theorem readH_lt {D : Dk} {N : Nat} (hl : D.lives N) (hN : 2 ≤ N) {n : Int} (hn : 0 ≤ n ∧ n < 2) (h : (D.pg n).2.2 ≠ 0) : readH D n = (headNone, false) := by
  rw [readH, hl.read (by omega), if_pos (.inl h)]
theorem mount_of {D : Dk} {N : Nat} {h : Hd} (hl : D.lives N) (hg : 1 ≤ h.gen) (h1 : readH D (h.gen % 2) = (h, true)) (h2 : (readH D ((h.gen + 1) % 2)).2 = true → (readH D ((h.gen + 1) % 2)).1.gen < h.gen) : mount D = (some h, 0) := by
  have hb : mountBest D = h := by
    show mountStep D (mountStep D headNone 0) 1 = h
    rcases (by omega : h.gen % 2 = 0 ∧ (h.gen + 1) % 2 = 1 ∨ h.gen % 2 = 1 ∧ (h.gen + 1) % 2 = 0) with ⟨a, b⟩ | ⟨a, b⟩
    · rw [a] at h1; rw [b] at h2
      have s1 : mountStep D headNone 0 = h := by
        rw [mountStep, show ((0 : Nat) : Int) = 0 from rfl, h1, if_pos (by simp [headNone]; omega)]
      rw [s1, mountStep, show ((1 : Nat) : Int) = 1 from rfl]
      rw [if_neg]
      intro q
      simp only [Bool.and_eq_true, decide_eq_true_eq] at q
      have := h2 q.1
      omega
    · rw [a] at h1; rw [b] at h2
      have s1 : (mountStep D headNone 0).gen < h.gen := by
        rw [mountStep, show ((0 : Nat) : Int) = 0 from rfl]
        split
        · rename_i q
          simp only [Bool.and_eq_true] at q
          exact h2 q.1
        · simp [headNone]; omega
      rw [mountStep, show ((1 : Nat) : Int) = 1 from rfl, h1, if_pos (by simp; omega)]
  rw [mount, if_neg (by rw [hl.up]; simp), hb, if_neg (by omega)]
theorem lay_of {D : Dk} {N : Nat} {h : Hd} {U : List Int} (hl : D.lives N) (k : h.good N U) (hN : 2 ≤ N) : ∃ E, h.lay D = (0, E) ∧ E.lives N ∧ ∀ m, 0 ≤ m → E.pg m = if m = h.gen % 2 then (1, h.text, 0) else D.pg m := by
  have hg := k.g
  have e : h.gen.tmod 2 = h.gen % 2 := Int.tmod_eq_emod_of_nonneg (by omega)
  have hb : 0 ≤ h.gen % 2 ∧ h.gen % 2 < N := by omega
  have ht : h.text.length ≤ 240 := by rw [k.text_len]; omega
  have hw := hl.write hb (k := 1) (t := h.text) (by omega) ht
  have hp := hl.put (h.gen % 2) (sealP 1 h.text)
  obtain ⟨s1, s2, s3⟩ := hp.sync
  refine ⟨(D.put (h.gen % 2) (sealP 1 h.text)).sync.2, ?_, s2, fun m hm => ?_⟩
  · rw [Hd.lay, e, hw, if_neg (by simp)]
    exact Prod.ext s1 rfl
  · rw [Dk.pg_now s3, hl.pg_put hb hm, open_seal (by omega) ht]
end Go.Proofs.Ytcbcpgaehdoekaa
