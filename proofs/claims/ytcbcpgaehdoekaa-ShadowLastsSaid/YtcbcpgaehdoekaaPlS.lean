/- Plain facts on the models: a store on a disk that is up. -/
import Derived.Test.YtcbcpgaehdoekaaPl
set_option linter.unusedVariables false
set_option linter.unusedSimpArgs false
namespace Go.Proofs.Ytcbcpgaehdoekaa
open Go.Proofs.Ytcbcpgaehdoekaa.SL

theorem readH_pg {D E : Dk} {N : Nat} (hd : D.lives N) (he : E.lives N) {n : Int} (hn : 0 ≤ n ∧ n < N) (h : D.pg n = E.pg n) : readH D n = readH E n := by
  rw [readH, readH, hd.read hn, he.read hn, h, hd.n, he.n]

def Sh.head (S : Sh) : Hd := ⟨S.gen, S.root, S.used⟩
structure Fine (N : Nat) (S : Sh) (D : Dk) (U : List Int) : Prop where
  n : 8 ≤ N ∧ N ≤ 640
  d : D.lives N
  up : S.down = false
  h : S.head.good N U
  on : D.pg (S.gen % 2) = (1, S.head.text, 0)
  other : (readH D ((S.gen + 1) % 2)).2 = true → (readH D ((S.gen + 1) % 2)).1.gen < S.gen
  f : S.fresh.Nodup ∧ ∀ i ∈ S.fresh, 2 ≤ i ∧ i < N ∧ i ∉ U
  v : S.given.Nodup ∧ ∀ i ∈ S.given, i ∈ U

section
variable {N : Nat} {S : Sh} {D : Dk} {U : List Int}

theorem Fine.mounts (k : Fine N S D U) : mount D = (some S.head, 0) :=
  mount_of k.d k.h.g.1 (readH_good k.d k.h rfl (by have := k.n; omega) k.on) k.other
theorem Fine.over (k : Fine N S D U) : Fine N S.head.over D U :=
  ⟨k.n, k.d, rfl, k.h, k.on, k.other, ⟨by simp [Hd.over], by simp [Hd.over]⟩, ⟨by simp [Hd.over], by simp [Hd.over]⟩⟩
theorem Fine.roll (k : Fine N S D U) : Fine N S.roll D U :=
  ⟨k.n, k.d, k.up, k.h, k.on, k.other, ⟨by simp [Sh.roll], by simp [Sh.roll]⟩, ⟨by simp [Sh.roll], by simp [Sh.roll]⟩⟩
theorem Fine.left (k : Fine N S D U) : S.left D = N - 2 - U.length - S.fresh.length := by
  rw [Sh.left, k.d.n]
  have : countB S.used = U.length := k.h.u.count
  rw [this]
theorem Fine.usedLen (k : Fine N S D U) : (usedN S.used D.now.length).length = U.length := by
  rw [k.d.n]
  have := k.h.u.usedN (n := N) (fun i hi => (k.h.b i hi).2)
  exact this.length_eq

theorem Fine.free (k : Fine N S D U) (j : Nat) : S.free j = true ↔ (j : Int) ∉ U ∧ (j : Int) ∉ S.fresh := by
  have h := k.h.u.mem j
  simp only [Sh.head] at h
  rw [Sh.free, Bool.and_eq_true, Bool.not_eq_true', Bool.not_eq_true', decide_eq_false_iff_not, ← h]
  simp
theorem Sh.find_of {S : Sh} {m : Nat} (hm : S.free m = true) : ∀ {k n : Nat}, n ≤ m → m < n + k → (∀ j, n ≤ j → j < m → ¬ S.free j = true) → S.find k n = some m
  | 0, n, h1, h2, _ => by omega
  | k + 1, n, h1, h2, h3 => by
    rw [Sh.find]
    by_cases q : n = m
    · subst q; rw [if_pos hm]
    · rw [if_neg (h3 n (Nat.le_refl _) (by omega)), Sh.find_of hm (by omega) (by omega) (fun j a b => h3 j (by omega) b)]
theorem Sh.find_none {S : Sh} : ∀ {k n : Nat}, (∀ j, n ≤ j → j < n + k → ¬ S.free j = true) → S.find k n = none
  | 0, n, _ => rfl
  | k + 1, n, h => by
    rw [Sh.find, if_neg (h n (Nat.le_refl _) (by omega)), Sh.find_none (fun j a b => h j (by omega) (by omega))]
theorem Fine.take (k : Fine N S D U) {m : Nat} (h1 : 2 ≤ m ∧ m < N) (h2 : (m : Int) ∉ U ∧ (m : Int) ∉ S.fresh) (h3 : ∀ j : Nat, 2 ≤ j → j < m → (j : Int) ∈ U ∨ (j : Int) ∈ S.fresh) :
    S.take D = (((m : Int), 0), { S with fresh := S.fresh ++ [(m : Int)] }) ∧ Fine N { S with fresh := S.fresh ++ [(m : Int)] } D U := by
  have hn := k.n
  refine ⟨?_, k.n, k.d, k.up, k.h, k.on, k.other, ⟨?_, ?_⟩, k.v⟩
  · rw [Sh.take, if_neg (by rw [k.up]; simp), k.d.n, Sh.find_of ((k.free m).2 h2) h1.1 (by omega) (fun j a b q => by
      have := (k.free j).1 q
      rcases h3 j a b with e | e
      · exact this.1 e
      · exact this.2 e)]
  · exact List.nodup_append.2 ⟨k.f.1, by simp, by intro x hx y hy; simp only [List.mem_singleton] at hy; subst hy; exact fun q => h2.2 (q ▸ hx)⟩
  · intro i hi
    rcases List.mem_append.1 hi with hi | hi
    · exact k.f.2 i hi
    · simp only [List.mem_singleton] at hi; subst hi; exact ⟨by omega, by omega, h2.1⟩
theorem Fine.takeNone (k : Fine N S D U) (h : ∀ j : Nat, 2 ≤ j → j < N → (j : Int) ∈ U ∨ (j : Int) ∈ S.fresh) : S.take D = ((0, 4), S) := by
  rw [Sh.take, if_neg (by rw [k.up]; simp), k.d.n, Sh.find_none (fun j a b q => by
    have hf := (k.free j).1 q
    have hn := k.n
    rcases h j a (by omega) with e | e
    · exact hf.1 e
    · exact hf.2 e)]

theorem Sh.told_eq {e : Int} (h : e ≠ 5) : S.told e = S := by
  have : (e == 5) = false := by simpa using h
  rw [Sh.told, this, Bool.or_false]
theorem Fine.put (k : Fine N S D U) {n : Int} (hn : n ∈ S.fresh) (s : List UInt8) : Fine N S (D.put n s) U := by
  have hf := k.f.2 n hn
  have hN := k.n
  have hg := k.h.g
  refine ⟨k.n, k.d.put n s, k.up, k.h, ?_, ?_, k.f, k.v⟩
  · rw [k.d.pg_put (by omega) (by omega), if_neg (by omega), k.on]
  · rw [← readH_pg k.d (k.d.put n s) (by omega) (by rw [k.d.pg_put (by omega) (by omega), if_neg (by omega)])]
    exact k.other
theorem Fine.write (k : Fine N S D U) {n kd : Int} {t : List UInt8} (hn : n ∈ S.fresh) (hk : 1 ≤ kd ∧ kd ≤ 15) (ht : t.length ≤ 240) :
    S.write D n kd t = (0, S, D.put n (sealP kd t)) ∧ Fine N S (D.put n (sealP kd t)) U ∧ ∀ m, 0 ≤ m → (D.put n (sealP kd t)).pg m = if m = n then (kd, t, 0) else D.pg m := by
  have hf := k.f.2 n hn
  refine ⟨?_, k.put hn _, fun m hm => ?_⟩
  · rw [Sh.write, if_neg (by rw [k.up]; simp), if_pos hn, k.d.write (by omega) hk ht, Sh.told_eq (by simp)]
  · rw [k.d.pg_put (by omega) hm, open_seal hk ht]
theorem Fine.writeNo (k : Fine N S D U) {n kd : Int} {t : List UInt8} (hn : n ∉ S.fresh) : S.write D n kd t = (6, S, D) := by
  rw [Sh.write, if_neg (by rw [k.up]; simp), if_neg hn]
theorem open_no5 (b : List UInt8) : (pageOpen b).2.2 ≠ 5 := by
  rw [pageOpen]
  split
  · simp
  · split
    · simp
    · split <;> simp
theorem Fine.read (k : Fine N S D U) {n : Int} (hn : 2 ≤ n ∧ n < N) : S.read D n = (D.pg n, S) := by
  rw [Sh.read, if_neg (by rw [k.up]; simp), if_neg (by rw [k.d.n]; omega), k.d.read (by omega), Sh.told_eq (e := (D.pg n).2.2) (open_no5 _)]
theorem Fine.giveFresh (k : Fine N S D U) {n : Int} (hn : n ∈ S.fresh) : S.give n = (0, { S with fresh := S.fresh.erase n }) ∧ Fine N { S with fresh := S.fresh.erase n } D U := by
  refine ⟨by rw [Sh.give, if_neg (by rw [k.up]; simp), if_pos hn], k.n, k.d, k.up, k.h, k.on, k.other, ⟨k.f.1.erase _, fun i hi => k.f.2 i (List.mem_of_mem_erase hi)⟩, k.v⟩
theorem Fine.giveUsed (k : Fine N S D U) {n : Int} (hn : n ∈ U) (hv : n ∉ S.given) : S.give n = (0, { S with given := S.given ++ [n] }) ∧ Fine N { S with given := S.given ++ [n] } D U := by
  have hf : n ∉ S.fresh := fun q => (k.f.2 n q).2.2 hn
  have hb : hasB S.used n = true := (k.h.u.mem n).2 hn
  refine ⟨by rw [Sh.give, if_neg (by rw [k.up]; simp), if_neg hf, if_pos (by rw [hb]; simpa using hv)], k.n, k.d, k.up, k.h, k.on, k.other, k.f, ⟨?_, ?_⟩⟩
  · exact List.nodup_append.2 ⟨k.v.1, by simp, by intro x hx y hy; simp only [List.mem_singleton] at hy; subst hy; exact fun q => hv (q ▸ hx)⟩
  · intro i hi
    rcases List.mem_append.1 hi with hi | hi
    · exact k.v.2 i hi
    · simp only [List.mem_singleton] at hi; subst hi; exact hn
theorem Fine.giveNo (k : Fine N S D U) {n : Int} (hf : n ∉ S.fresh) (h : n ∈ U → n ∈ S.given) : S.give n = (6, S) := by
  rw [Sh.give, if_neg (by rw [k.up]; simp), if_neg hf, if_neg]
  intro q
  simp only [Bool.and_eq_true, Bool.not_eq_true', decide_eq_false_iff_not] at q
  exact q.2 (h ((k.h.u.mem n).1 q.1))

/-- The pages that count behind a commit. -/
def Sh.after (S : Sh) (U : List Int) : List Int := (U ++ S.fresh).filter fun i => !decide (i ∈ S.given)
theorem Sh.mem_after {i : Int} : i ∈ S.after U ↔ (i ∈ U ∨ i ∈ S.fresh) ∧ i ∉ S.given := by
  simp only [Sh.after, List.mem_filter, List.mem_append, Bool.not_eq_true', decide_eq_false_iff_not]
theorem Fine.next (k : Fine N S D U) {root : Int} (hr : root = 0 ∨ root ∈ S.after U) (hg : S.gen < 281474976710655) : (S.next root).good N (S.after U) := by
  have hN := k.n
  have hgg := k.h.g
  have ha := k.h.u.add k.f.1 (fun i hi => by have := k.f.2 i hi; omega) (fun i hi => (k.f.2 i hi).2.2) (rise_perm S.fresh)
  have hd := ha.del (G := S.given) (fun i hi => k.h.u.bd (k.v.2 i hi)) (rise_perm S.given)
  refine ⟨⟨?_, ?_⟩, hr, hd, ?_⟩
  · show 1 ≤ S.gen + 1
    have : 1 ≤ S.gen := hgg.1
    omega
  · show S.gen + 1 ≤ _
    omega
  · intro i hi
    rcases (Sh.mem_after.1 hi).1 with e | e
    · exact k.h.b i e
    · have := k.f.2 i e; omega
theorem Fine.commit (k : Fine N S D U) {root : Int} (hr : root = 0 ∨ root ∈ S.after U) (hg : S.gen < 281474976710655) :
    ∃ E, S.commit D root = (0, (S.next root).over, E) ∧ Fine N (S.next root).over E (S.after U) ∧ ∀ m, 2 ≤ m → E.pg m = D.pg m := by
  have hN := k.n
  have q := k.next hr hg
  have hg1 : 1 ≤ S.gen := k.h.g.1
  obtain ⟨s1, s2, s3⟩ := k.d.sync
  obtain ⟨E, e1, e2, e3⟩ := lay_of s2 q (by omega)
  refine ⟨E, ?_, ⟨k.n, e2, rfl, q, ?_, ?_, ⟨by simp [Hd.over], by simp [Hd.over]⟩, ⟨by simp [Hd.over], by simp [Hd.over]⟩⟩, ?_⟩
  · rw [Sh.commit, if_neg (by rw [k.up]; simp), if_neg, if_neg, if_neg (by rw [s1]; simp), e1, if_neg (by simp)]
    · have := q.g.2; omega
    · rintro ⟨a, b⟩
      rcases hr with e | e
      · exact a e
      · rw [(q.u.mem root).2 e] at b; cases b
  · show E.pg ((S.gen + 1) % 2) = _
    rw [e3 _ (by omega), if_pos (by rfl)]; rfl
  · show (readH E ((S.gen + 1 + 1) % 2)).2 = true → (readH E ((S.gen + 1 + 1) % 2)).1.gen < S.gen + 1
    rw [show (S.gen + 1 + 1) % 2 = S.gen % 2 by omega]
    have e4 : E.pg (S.gen % 2) = (1, S.head.text, 0) := by
      rw [e3 _ (by omega), if_neg (by show ¬ S.gen % 2 = (S.gen + 1) % 2; omega), Dk.pg_now s3, k.on]
    have e5 : readH E (S.gen % 2) = (S.head, true) := readH_good e2 k.h rfl (by omega) e4
    rw [e5]
    intro _
    show S.gen < S.gen + 1
    omega
  · intro m hm
    rw [e3 _ (by omega), if_neg (by have := q.g; omega), Dk.pg_now s3]
end

/-! ### The same, the store behind it by its parts -/
section
variable {N : Nat} {S : Sh} {D : Dk} {U : List Int}
theorem Fine.take' (k : Fine N S D U) {m : Int} (h1 : 2 ≤ m ∧ m < N) (h2 : m ∉ U ∧ m ∉ S.fresh) (h3 : ∀ j : Int, 2 ≤ j → j < m → j ∈ U ∨ j ∈ S.fresh) :
    ∃ S', S.take D = ((m, 0), S') ∧ Fine N S' D U ∧ S'.fresh = S.fresh ++ [m] ∧ S'.given = S.given ∧ S'.gen = S.gen ∧ S'.root = S.root := by
  obtain ⟨n, rfl⟩ : ∃ n : Nat, m = n := ⟨m.toNat, by omega⟩
  obtain ⟨a, b⟩ := k.take (m := n) (by omega) h2 (fun j a b => h3 j (by omega) (by omega))
  exact ⟨_, a, b, rfl, rfl, rfl, rfl⟩
theorem Fine.takeNone' (k : Fine N S D U) (h : ∀ j : Int, 2 ≤ j → j < N → j ∈ U ∨ j ∈ S.fresh) : S.take D = ((0, 4), S) := k.takeNone (fun j a b => h j (by omega) (by omega))
theorem Fine.write' (k : Fine N S D U) {n kd : Int} {t : List UInt8} (hn : n ∈ S.fresh) (hk : 1 ≤ kd ∧ kd ≤ 15) (ht : t.length ≤ 240) :
    ∃ E, S.write D n kd t = (0, S, E) ∧ Fine N S E U ∧ ∀ m, 0 ≤ m → E.pg m = if m = n then (kd, t, 0) else D.pg m := ⟨_, k.write hn hk ht⟩
theorem Fine.giveFresh' (k : Fine N S D U) {n : Int} (hn : n ∈ S.fresh) : ∃ S', S.give n = (0, S') ∧ Fine N S' D U ∧ S'.fresh = S.fresh.erase n ∧ S'.given = S.given ∧ S'.gen = S.gen ∧ S'.root = S.root := by
  obtain ⟨a, b⟩ := k.giveFresh hn
  exact ⟨_, a, b, rfl, rfl, rfl, rfl⟩
theorem Fine.giveUsed' (k : Fine N S D U) {n : Int} (hn : n ∈ U) (hv : n ∉ S.given) : ∃ S', S.give n = (0, S') ∧ Fine N S' D U ∧ S'.fresh = S.fresh ∧ S'.given = S.given ++ [n] ∧ S'.gen = S.gen ∧ S'.root = S.root := by
  obtain ⟨a, b⟩ := k.giveUsed hn hv
  exact ⟨_, a, b, rfl, rfl, rfl, rfl⟩
theorem Fine.commit' (k : Fine N S D U) {root : Int} (hr : root = 0 ∨ root ∈ S.after U) (hg : S.gen < 281474976710655) :
    ∃ S' E, S.commit D root = (0, S', E) ∧ Fine N S' E (S.after U) ∧ (∀ m, 2 ≤ m → E.pg m = D.pg m) ∧ S'.fresh = [] ∧ S'.given = [] ∧ S'.gen = S.gen + 1 ∧ S'.root = root := by
  obtain ⟨E, a, b, c⟩ := k.commit hr hg
  exact ⟨_, E, a, b, c, rfl, rfl, rfl, rfl⟩
theorem Fine.mounts' (k : Fine N S D U) : ∃ q : Hd, mount D = (some q, 0) ∧ Fine N q.over D U ∧ q.over.fresh = [] ∧ q.over.given = [] ∧ q.over.gen = S.gen ∧ q.over.root = S.root := ⟨_, k.mounts, k.over, rfl, rfl, rfl, rfl⟩
end

theorem headNew_good {N : Nat} (hN : 8 ≤ N ∧ N ≤ 640) : headNew.good N [] :=
  ⟨⟨by decide, by decide⟩, .inl rfl, uses_new, by simp⟩
theorem format_of {N : Nat} {D : Dk} (hN : 8 ≤ N ∧ N ≤ 640) (d : D.lives N) (h : (D.pg 0).2.2 ≠ 0) : ∃ E, format D = (some headNew, 0, E) ∧ Fine N headNew.over E [] ∧ ∀ m, 2 ≤ m → E.pg m = D.pg m := by
  obtain ⟨E, e1, e2, e3⟩ := lay_of d (headNew_good hN) (by omega)
  refine ⟨E, by rw [format, e1, if_neg (by simp)], ⟨hN, e2, rfl, headNew_good hN, ?_, ?_, ⟨by simp [Hd.over], by simp [Hd.over]⟩, ⟨by simp [Hd.over], by simp [Hd.over]⟩⟩, ?_⟩
  · rw [e3 _ (by decide), if_pos (by rfl)]; rfl
  · show (readH E 0).2 = true → _
    rw [readH_lt e2 (by omega) (by omega) (by rw [e3 0 (by omega), if_neg (by decide)]; exact h)]
    intro q; cases q
  · intro m hm
    rw [e3 _ (by omega), if_neg (by show ¬ m = 1; omega)]
theorem mount_new {N : Nat} (hN : 8 ≤ N ∧ N ≤ 640) : mount (Dk.new N) = (none, 3) := by
  have h0 := readH_lt (Dk.new_lives N) (by omega) (n := 0) (by omega) (by rw [Dk.new_pg (by omega)]; simp)
  have h1 := readH_lt (Dk.new_lives N) (by omega) (n := 1) (by omega) (by rw [Dk.new_pg (by omega)]; simp)
  have hb : mountBest (Dk.new N) = headNone := by
    show mountStep _ (mountStep _ headNone 0) 1 = _
    rw [mountStep, show ((1 : Nat) : Int) = 1 from rfl, h1, if_neg (by simp), mountStep, show ((0 : Nat) : Int) = 0 from rfl, h0, if_neg (by simp)]
  rw [mount, if_neg (by simp [Dk.new]), hb, if_pos (by rfl)]
end Go.Proofs.Ytcbcpgaehdoekaa
