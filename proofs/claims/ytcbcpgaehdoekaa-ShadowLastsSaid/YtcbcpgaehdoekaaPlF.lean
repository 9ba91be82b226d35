/- Plain facts on the models: a disk with a fuse, and a crash with nothing loose. -/
import Derived.Test.YtcbcpgaehdoekaaPlS
set_option linter.unusedVariables false
set_option linter.unusedSimpArgs false
namespace Go.Proofs.Ytcbcpgaehdoekaa
open Go.Proofs.Ytcbcpgaehdoekaa.SL

/-- What a crash leaves where nothing is loose. -/
def Dk.base (D : Dk) : Dk := { now := D.now, was := [], order := [], fuse := -1, gone := false }
theorem Dk.crash_base {D : Dk} (h : D.order = []) (ks : List Int) : D.crash ks = D.base := by
  rw [Dk.crash, h, Dk.base]; rfl
theorem Dk.base_lives {D : Dk} {N : Nat} (h : D.now.length = N) : D.base.lives N := ⟨h, rfl, rfl⟩
theorem Fine.now {N : Nat} {S : Sh} {D E : Dk} {U : List Int} (k : Fine N S D U) (e : E.lives N) (h : E.now = D.now) : Fine N S E U := by
  have hN := k.n
  refine ⟨k.n, e, k.up, k.h, by rw [Dk.pg_now h]; exact k.on, ?_, k.f, k.v⟩
  rw [readH_pg e k.d (by omega) (Dk.pg_now h _)]
  exact k.other
/-- A store of the same head. -/
theorem Fine.head {N : Nat} {S T : Sh} {D : Dk} {U : List Int} (k : Fine N S D U) (h1 : T.gen = S.gen) (h2 : T.root = S.root) (h3 : T.used = S.used) (h4 : T.down = false) (h5 : T.fresh = []) (h6 : T.given = []) : Fine N T D U := by
  obtain ⟨g, r, u, f, v, d⟩ := T
  dsimp only at h1 h2 h3 h4 h5 h6
  subst h1 h2 h3 h4 h5 h6
  exact ⟨k.n, k.d, rfl, k.h, k.on, k.other, ⟨by simp, by simp⟩, ⟨by simp, by simp⟩⟩

theorem write_up {D : Dk} {N : Nat} (hn : D.now.length = N) (hu : D.gone = false) (hf : D.fuse ≠ 0) {n k : Int} {t : List UInt8} (hb : 0 ≤ n ∧ n < N) (hk : 1 ≤ k ∧ k ≤ 15) (ht : t.length ≤ 240) : pageWrite D n k t = (0, D.put n (sealP k t)) := by
  have hm : D.may n = 0 := by rw [Dk.may, if_neg (by rw [hu]; simp), if_neg (by rw [hn]; omega)]
  rw [pageWrite, seal_of hk ht, if_neg (by simp), Dk.write, if_neg (by rw [hm]; simp), if_neg (by rw [sealP_len ht]; simp), if_neg hf]
theorem write_dead {D : Dk} {N : Nat} (hn : D.now.length = N) (hu : D.gone = false) (hf : D.fuse = 0) {n k : Int} {t : List UInt8} (hb : 0 ≤ n ∧ n < N) (hk : 1 ≤ k ∧ k ≤ 15) (ht : t.length ≤ 240) : pageWrite D n k t = (5, { D with gone := true }) := by
  have hm : D.may n = 0 := by rw [Dk.may, if_neg (by rw [hu]; simp), if_neg (by rw [hn]; omega)]
  rw [pageWrite, seal_of hk ht, if_neg (by simp), Dk.write, if_neg (by rw [hm]; simp), if_neg (by rw [sealP_len ht]; simp), if_pos hf]

section
variable {N : Nat} {S : Sh} {D : Dk} {U : List Int}
theorem Fine.writeF (k : Fine N S D.base U) (hu : D.gone = false) (hf : D.fuse ≠ 0) {n kd : Int} {t : List UInt8} (hn : n ∈ S.fresh) (hk : 1 ≤ kd ∧ kd ≤ 15) (ht : t.length ≤ 240) :
    ∃ E, S.write D n kd t = (0, S, E) ∧ Fine N S E.base U ∧ E.gone = false ∧ E.fuse = max (-1) (D.fuse - 1) ∧ ∀ m, 0 ≤ m → E.pg m = if m = n then (kd, t, 0) else D.pg m := by
  have hb := k.f.2 n hn
  have hl : D.now.length = N := k.d.n
  obtain ⟨_, k2, p2⟩ := k.write hn hk ht
  refine ⟨D.put n (sealP kd t), ?_, ?_, hu, rfl, fun m hm => ?_⟩
  · rw [Sh.write, if_neg (by rw [k.up]; simp), if_pos hn, write_up hl hu hf (by omega) hk ht, Sh.told_eq (by simp)]
  · exact k2.now (Dk.base_lives (by simp [Dk.put, hl])) rfl
  · exact p2 m hm
theorem Fine.writeD (k : Fine N S D.base U) (hu : D.gone = false) (hf : D.fuse = 0) {n kd : Int} {t : List UInt8} (hn : n ∈ S.fresh) (hk : 1 ≤ kd ∧ kd ≤ 15) (ht : t.length ≤ 240) :
    S.write D n kd t = (5, S.told 5, { D with gone := true }) := by
  have hb := k.f.2 n hn
  have hl : D.now.length = N := k.d.n
  rw [Sh.write, if_neg (by rw [k.up]; simp), if_pos hn, write_dead hl hu hf (by omega) hk ht]
theorem Dk.sync_up (hu : D.gone = false) : D.sync = (0, { D with was := [], order := [] }) := by rw [Dk.sync, if_neg (by rw [hu]; simp)]
theorem Fine.commitF (k : Fine N S D.base U) (hu : D.gone = false) (hf : D.fuse ≠ 0) {root : Int} (hr : root = 0 ∨ root ∈ S.after U) (hg : S.gen < 281474976710655) :
    ∃ S' E, S.commit D root = (0, S', E) ∧ Fine N S' E.base (S.after U) ∧ E.gone = false ∧ E.order = [] ∧ E.fuse = max (-1) (D.fuse - 1) ∧ (∀ m, 2 ≤ m → E.pg m = D.pg m) ∧ S'.fresh = [] ∧ S'.given = [] ∧ S'.gen = S.gen + 1 ∧ S'.root = root := by
  have hN := k.n
  have q := k.next hr hg
  have hg1 : 1 ≤ S.gen := k.h.g.1
  have hl : D.now.length = N := k.d.n
  obtain ⟨E0, c1, c2, c3⟩ := k.commit hr hg
  have e : (S.next root).gen.tmod 2 = (S.next root).gen % 2 := Int.tmod_eq_emod_of_nonneg (by have := q.g; omega)
  have hw : pageWrite { D with was := [], order := [] } ((S.next root).gen % 2) 1 (S.next root).text = (0, Dk.put { D with was := [], order := [] } ((S.next root).gen % 2) (sealP 1 (S.next root).text)) :=
    write_up (D := { D with was := [], order := [] }) (N := N) hl hu hf (by omega) (by omega) (by rw [q.text_len]; omega)
  have hlay : (S.next root).lay { D with was := [], order := [] } = (0, { Dk.put { D with was := [], order := [] } ((S.next root).gen % 2) (sealP 1 (S.next root).text) with was := [], order := [] }) := by
    rw [Hd.lay, e, hw, if_neg (by simp)]
    exact Dk.sync_up hu
  have hno : ¬ (root ≠ 0 ∧ hasB (S.next root).used root = false) := by
    rintro ⟨a, b⟩
    rcases hr with e | e
    · exact a e
    · rw [(q.u.mem root).2 e] at b; cases b
  have hmx : ¬ (S.next root).gen > 281474976710655 := by have := q.g.2; omega
  refine ⟨(S.next root).over, { Dk.put { D with was := [], order := [] } ((S.next root).gen % 2) (sealP 1 (S.next root).text) with was := [], order := [] }, ?_, ?_, hu, rfl, rfl, ?_, rfl, rfl, rfl, rfl⟩
  · rw [Sh.commit, if_neg (by rw [k.up]; simp), if_neg hno, if_neg hmx, Dk.sync_up hu, if_neg (by simp), hlay, if_neg (by simp)]
  · have hnow : E0.now = D.now.set ((S.next root).gen % 2).toNat (sealP 1 (S.next root).text) := by
      have hw0 : pageWrite D.base ((S.next root).gen % 2) 1 (S.next root).text = (0, D.base.put ((S.next root).gen % 2) (sealP 1 (S.next root).text)) :=
        k.d.write (by omega) (by omega) (by rw [q.text_len]; omega)
      have h0 : S.commit D.base root = (0, (S.next root).over, { D.base.put ((S.next root).gen % 2) (sealP 1 (S.next root).text) with was := [], order := [] }) := by
        have hl0 : (S.next root).lay D.base = (0, { D.base.put ((S.next root).gen % 2) (sealP 1 (S.next root).text) with was := [], order := [] }) := by
          rw [Hd.lay, e, hw0, if_neg (by simp)]
          exact Dk.sync_up rfl
        have hs0 : D.base.sync = (0, D.base) := Dk.sync_up rfl
        rw [Sh.commit, if_neg (by rw [k.up]; simp), if_neg hno, if_neg hmx, hs0, if_neg (by simp), hl0, if_neg (by simp)]
      rw [h0] at c1
      have := (Prod.mk.inj (Prod.mk.inj c1).2).2
      rw [← this]; rfl
    exact c2.now (Dk.base_lives (by simp [Dk.put, hl])) (by rw [hnow]; rfl)
  · intro m hm
    show pageOpen ((D.now.set _ _).getD m.toNat []) = pageOpen (D.now.getD m.toNat [])
    rw [getD_set (by rw [hl]; omega), if_neg (by omega)]
theorem Fine.commitD (k : Fine N S D.base U) (hu : D.gone = false) (hf : D.fuse = 0) {root : Int} (hr : root = 0 ∨ root ∈ S.after U) (hg : S.gen < 281474976710655) :
    ∃ E, S.commit D root = (5, S.told 5, E) ∧ E.gone = true ∧ E.order = [] ∧ E.now = D.now := by
  have hN := k.n
  have q := k.next hr hg
  have hl : D.now.length = N := k.d.n
  have e : (S.next root).gen.tmod 2 = (S.next root).gen % 2 := Int.tmod_eq_emod_of_nonneg (by have := q.g; omega)
  have hw : pageWrite { D with was := [], order := [] } ((S.next root).gen % 2) 1 (S.next root).text = (5, { D with was := [], order := [], gone := true }) :=
    write_dead (D := { D with was := [], order := [] }) (N := N) hl hu hf (by omega) (by omega) (by rw [q.text_len]; omega)
  have hno : ¬ (root ≠ 0 ∧ hasB (S.next root).used root = false) := by
    rintro ⟨a, b⟩
    rcases hr with e | e
    · exact a e
    · rw [(q.u.mem root).2 e] at b; cases b
  have hmx : ¬ (S.next root).gen > 281474976710655 := by have := q.g.2; omega
  refine ⟨{ D with was := [], order := [], gone := true }, ?_, rfl, rfl, rfl⟩
  have hlay : (S.next root).lay { D with was := [], order := [] } = (5, { D with was := [], order := [], gone := true }) := by
    rw [Hd.lay, e, hw, if_pos (by simp)]
  rw [Sh.commit, if_neg (by rw [k.up]; simp), if_neg hno, if_neg hmx, Dk.sync_up hu, if_neg (by simp), hlay, if_pos (by simp)]
end
end Go.Proofs.Ytcbcpgaehdoekaa
