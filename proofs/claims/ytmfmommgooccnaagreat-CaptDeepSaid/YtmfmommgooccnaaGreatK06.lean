/- Texts Disk, TrP, TrQ, TrR, TrS, NdD, NdE, NdF, NdG, joined. -/
import Derived.Test.YtmfmommgooccnaaGreatK05
/- Package disk. -/
set_option linter.unusedVariables false
set_option linter.unusedSimpArgs false
namespace Go.Proofs.YtmfmommgooccnaaGreat
open Go.Proofs.YtmfmommgooccnaaGreat.SL

/-- A disk: its sectors; of the loose ones what they were, and which they are; how many writes are left; has the power gone? -/
structure Dk where
  now : List (List UInt8)
  was : List (Int × List UInt8)
  order : List Int
  fuse : Int
  gone : Bool

def encS (l : List UInt8) : Value := .string (str l)
def encZ' (i : Int) : Value := .int .i64 i

structure Dk.ok (D : Dk) : Prop where
  n : D.now.length ≤ 640
  f : -1 ≤ D.fuse ∧ D.fuse < 9223372036854775808
  o : D.order.length ≤ D.now.length ∧ D.order.Nodup ∧ (∀ i ∈ D.order, 0 ≤ i ∧ i < D.now.length) ∧ D.was.map Prod.fst = D.order
  s : (∀ x ∈ D.now, x.length = 256) ∧ ∀ p ∈ D.was, p.2.length = 256

/-- Where it lies: its row, its sectors' row (and how long that is), its map, the loose ones' slice. -/
def DiskK (b : Nat) (D : Dk) (x : Nat × Nat × Nat × (Option Addr × Nat) × List Value) : List SProp :=
  [cl b 145 [.slice (some ⟨x.1, 0, none⟩) D.now.length x.2.1, .map (some x.2.2.1), .slice x.2.2.2.1.1 D.order.length x.2.2.2.1.2, .int .i64 D.fuse, .bool D.gone], cl x.1 9 (D.now.map encS ++ x.2.2.2.2), mp x.2.2.1 encS D.was,
   vec 3 1 x.2.2.2.1.1 D.order.length x.2.2.2.1.2 (D.order.map encZ')]
def DiskP (D : Dk) (x : Nat × Nat × Nat × (Option Addr × Nat) × List Value) : Prop := D.ok ∧ D.now.length ≤ x.2.1 ∧ x.2.1 ≤ 9223372036854775807
def Disk (b : Nat) (D : Dk) : SProp := hid (DiskP D) (DiskK b D)

theorem set_all {α : Type} {p : α → Prop} {l : List α} {i : Nat} {s : α} (h : ∀ x ∈ l, p x) (hs : p s) : ∀ x ∈ l.set i s, p x := fun x hx => (List.mem_or_eq_of_mem_set hx).elim (h x) (fun e => e ▸ hs)
theorem getD_all {α : Type} {p : α → Prop} {l : List α} {i : Nat} {z : α} (h : ∀ x ∈ l, p x) (hi : i < l.length) : p (l.getD i z) := by
  rw [List.getD, List.getElem?_eq_getElem hi]; exact h _ (List.getElem_mem _)
theorem Size_does (b : Nat) (D : Dk) : Does Tryz.prog 198 [.pointer (some ⟨b, 0, none⟩)] [Disk b D] (fun v H => v = .int .i64 D.now.length ∧ H = [Disk b D]) := by
  refine does_of Tryz.func198 Tryz.ntmps198 rfl rfl rfl (fun w0 F0 => ?_)
  refine g_open (A := Disk b D) (h := ?_); (rintro ⟨bn, c, bm, ⟨po, co⟩, rest⟩ ⟨ok, hc, hc2⟩; dsimp only [DiskK, List.cons_append, List.nil_append])
  (repeat (first | refine g_seq (h := ?_) | refine g_region (h := ?_) | refine l_nil (h := ?_) | refine n_then (h := ?_) | refine l_pures1 (h := ?_) | refine l_load (h := ?_) | refine g_ret (h := ?_)))
  (refine n_shut (A := Disk b D) (K := DiskK b D ((bn, c, bm, (po, co), rest))) (hid_shuts ((bn, c, bm, (po, co), rest)) ⟨ok, hc, hc2⟩) (h := ?_) (p := by dsimp only [DiskK]; (try simp only [List.map_nil, List.length_nil, List.length_set, List.length_append, List.length_cons, List.length_singleton, List.map_append, List.map_cons, Nat.zero_add]); exact parts_of))
  refine r_ret ?_
  exact ⟨rfl, rfl⟩

def Dk.may (D : Dk) (n : Int) : Int := if D.gone then 5 else if n < 0 ∨ n ≥ D.now.length then 1 else 0
theorem may_does (b : Nat) (D : Dk) (n : Int) : Does Tryz.prog 197 [.pointer (some ⟨b, 0, none⟩), .int .i64 n] [Disk b D] (fun v H => v = .int .i64 (D.may n) ∧ H = [Disk b D]) := by
  refine does_of Tryz.func197 Tryz.ntmps197 rfl rfl rfl (fun w0 F0 => ?_)
  refine g_open (A := Disk b D) (h := ?_); (rintro ⟨bn, c, bm, ⟨po, co⟩, rest⟩ ⟨ok, hc, hc2⟩; dsimp only [DiskK, List.cons_append, List.nil_append])
  (repeat' (first | refine g_seq (h := ?_) | refine g_region (h := ?_) | refine l_nil (h := ?_) | refine n_then (h := ?_) | refine l_pures1 (h := ?_) | refine l_guard_yes (h := ?_) | refine l_guard_no (h := ?_) | refine l_load (h := ?_) | refine g_skip (h := ?_) | refine g_ret (h := ?_) | refine n_then_ret (h := ?_) | refine n_block_ret (h := ?_) | refine g_block (h := ?_) | refine n_block (h := ?_) | refine g_cond_t (h := ?_) | (refine l_sp (h1 := ?_) (h0 := ?_) <;> intro h) | (refine g_sp (h1 := ?_) (h0 := ?_) <;> intro h)))
  all_goals (have hc : D.now.length ≤ c := hc)
  all_goals
    (refine n_shut (A := Disk b D) (K := DiskK b D ((bn, c, bm, (po, co), rest))) (hid_shuts ((bn, c, bm, (po, co), rest)) ⟨ok, hc, hc2⟩) (h := ?_) (p := by dsimp only [DiskK]; (try simp only [List.map_nil, List.length_nil, List.length_set, List.length_append, List.length_cons, List.length_singleton, List.map_append, List.map_cons, Nat.zero_add]); exact parts_of))
  all_goals
    refine r_ret ?_
  all_goals refine ⟨?_, rfl⟩
  · rw [Dk.may, if_pos (by assumption)]; rfl
  · rw [Dk.may, if_neg (by simp [*]), if_pos (by omega)]; rfl
  · rw [Dk.may, if_neg (by simp [*]), if_pos (by omega)]; rfl
  · rw [Dk.may, if_neg (by simp [*]), if_neg (by omega)]; rfl

theorem Dk.may_0 {D : Dk} {n : Int} (h : D.may n = 0) : D.gone = false ∧ 0 ≤ n ∧ n < D.now.length := by
  unfold Dk.may at h
  cases hg : D.gone <;> simp [hg] at h ⊢
  omega

def Dk.read (D : Dk) (n : Int) : List UInt8 × Int := if D.may n = 0 then (D.now.getD n.toNat [], 0) else ([], D.may n)
theorem encS_get {l : List (List UInt8)} {r : List Value} {j : Nat} (h : j < l.length) : (l.map encS ++ r)[j]? = some (encS (l.getD j [])) := by
  rw [List.getElem?_append_left (by simpa using h), List.getElem?_map, List.getD, List.getElem?_eq_getElem h]; rfl

theorem Read_does (b : Nat) (D : Dk) (n : Int) : Does Tryz.prog 220 [.pointer (some ⟨b, 0, none⟩), .int .i64 n] [Disk b D] (fun v H => v = .tuple #[.string (str (D.read n).1), .int .i64 (D.read n).2] ∧ H = [Disk b D]) := by
  refine does_of Tryz.func220 Tryz.ntmps220 rfl rfl rfl (fun w0 F0 => ?_)
  (repeat' (first | refine g_seq (h := ?_) | refine g_region (h := ?_) | refine l_nil (h := ?_) | refine n_then (h := ?_) | refine l_pures1 (h := ?_) | (refine l_at 197 ?_; refine l_call (may_does b D n) ?_) | refine g_skip (h := ?_) | refine g_ret (h := ?_) | refine n_then_ret (h := ?_) | (refine g_sp (h1 := ?_) (h0 := ?_) <;> intro h)))
  · refine r_ret ?_
    exact ⟨by rw [Dk.read, if_neg (by assumption)]; rfl, rfl⟩
  · obtain ⟨h1, h2, h3⟩ := Dk.may_0 h
    refine l_open (A := Disk b D) (h := ?_); (rintro ⟨bn, c, bm, ⟨po, co⟩, rest⟩ ⟨ok, hc, hc2⟩; dsimp only [DiskK, List.cons_append, List.nil_append])
    have hg : (D.now.map encS ++ rest)[0 + n.toNat * 1]? = some (encS (D.now.getD n.toNat [])) := by
      rw [Nat.zero_add, Nat.mul_one]; exact encS_get (by omega)
    (repeat' (first | refine l_nil (h := ?_) | refine n_then (h := ?_) | refine l_pures1 (h := ?_) | refine l_load (h := ?_) | refine l_load_at (h := ?_) | refine l_indexAddr (h := ?_) | refine g_ret (h := ?_)))
    (refine n_shut (A := Disk b D) (K := DiskK b D ((bn, c, bm, (po, co), rest))) (hid_shuts ((bn, c, bm, (po, co), rest)) ⟨ok, hc, hc2⟩) (h := ?_) (p := by dsimp only [DiskK]; (try simp only [List.map_nil, List.length_nil, List.length_set, List.length_append, List.length_cons, List.length_singleton, List.map_append, List.map_cons, Nat.zero_add]); exact parts_of))
    refine r_ret ?_
    exact ⟨by rw [Dk.read, if_pos (by assumption)]; rfl, rfl⟩

/-- What is known of a disk that is owned. -/
theorem does_disk {f : FuncId} {args : List Value} {b : Nat} {D : Dk} {H : List SProp} {q : Value → List SProp → Prop} (h : D.ok → Does Tryz.prog f args (Disk b D :: H) q) : Does Tryz.prog f args (Disk b D :: H) q := by
  intro w F s
  obtain ⟨_, _, ⟨_, ⟨ok, _⟩, _⟩, _⟩ := id s
  exact h ok w F s

def Dk.sync (D : Dk) : Int × Dk := if D.gone then (5, D) else (0, { D with was := [], order := [] })
theorem Sync_does (b : Nat) (D : Dk) : Does Tryz.prog 121 [.pointer (some ⟨b, 0, none⟩)] [Disk b D] (fun v H => v = .int .i64 D.sync.1 ∧ H = [Disk b D.sync.2]) := by
  refine does_of Tryz.func121 Tryz.ntmps121 rfl rfl rfl (fun w0 F0 => ?_)
  refine g_open (A := Disk b D) (h := ?_); (rintro ⟨bn, c, bm, ⟨po, co⟩, rest⟩ ⟨ok, hc, hc2⟩; dsimp only [DiskK, List.cons_append, List.nil_append])
  (repeat' (first | refine g_seq (h := ?_) | refine g_region (h := ?_) | refine l_nil (h := ?_) | refine n_then (h := ?_) | refine l_pures1 (h := ?_) | refine l_load (h := ?_) | refine g_skip (h := ?_) | refine g_ret (h := ?_) | refine n_then_ret (h := ?_) | (refine g_sp (h1 := ?_) (h0 := ?_) <;> intro h)))
  · (refine n_shut (A := Disk b D) (K := DiskK b D ((bn, c, bm, (po, co), rest))) (hid_shuts ((bn, c, bm, (po, co), rest)) ⟨ok, hc, hc2⟩) (h := ?_) (p := by dsimp only [DiskK]; (try simp only [List.map_nil, List.length_nil, List.length_set, List.length_append, List.length_cons, List.length_singleton, List.map_append, List.map_cons, Nat.zero_add]); exact parts_of))
    refine r_ret ?_
    exact ⟨by rw [Dk.sync, if_pos h]; rfl, by rw [Dk.sync, if_pos h]⟩
  · (refine l_makeMap (encS) (h := ?_); intro _)
    (repeat (first | refine g_seq (h := ?_) | refine g_region (h := ?_) | refine l_nil (h := ?_) | refine n_then (h := ?_) | refine l_pures1 (h := ?_) | refine l_store (h := ?_) | refine g_ret (h := ?_)))
    rename_i bm'
    refine n_inv (fun i => vec_nil (3) (1) i) ?_
    (refine n_shut (A := Disk b { D with was := [], order := [] }) (K := DiskK b { D with was := [], order := [] } ((bn, c, bm', ((none, 0) : Option Addr × Nat), rest))) (hid_shuts ((bn, c, bm', ((none, 0) : Option Addr × Nat), rest)) ⟨⟨ok.n, ok.f, by simp, ok.s.1, by simp⟩, hc, hc2⟩) (h := ?_) (p := by dsimp only [DiskK]; (try simp only [List.map_nil, List.length_nil, List.length_set, List.length_append, List.length_cons, List.length_singleton, List.map_append, List.map_cons, Nat.zero_add]); exact parts_of))
    refine r_retk [Disk b { D with was := [], order := [] }] ?_
    exact ⟨by rw [Dk.sync, if_neg (by simp [h])]; rfl, by rw [Dk.sync, if_neg (by simp [h])]⟩

theorem kvGet_none_iff {α : Type} : ∀ {l : List (Int × α)} {i : Int}, kvGet l i = none ↔ i ∉ l.map Prod.fst
  | [], i => by simp [kvGet]
  | (j, v) :: l, i => by
    simp only [kvGet, List.map_cons, List.mem_cons, not_or]
    by_cases q : j = i
    · subst q; simp
    · rw [if_neg q, kvGet_none_iff]
      exact ⟨fun h => ⟨fun e => q e.symm, h⟩, fun h => h.2⟩
theorem kvPut_none {α : Type} : ∀ {l : List (Int × α)} {i : Int} {x : α}, (kvGet l i).isSome = false → kvPut l i x = l ++ [(i, x)]
  | [], i, x, _ => rfl
  | (j, v) :: l, i, x, h => by
    simp only [kvGet] at h
    by_cases q : j = i
    · simp [q] at h
    · rw [if_neg q] at h
      simp [kvPut, q, kvPut_none h]
theorem room_of {l : List Int} {N : Nat} {n : Int} (h1 : l.Nodup) (h2 : ∀ i ∈ l, 0 ≤ i ∧ i < N) (h3 : n ∉ l) (h4 : 0 ≤ n) (h5 : n < N) : l.length < N := by
  have key : ∀ (N : Nat) (l : List Int), l.Nodup → (∀ i ∈ l, 0 ≤ i ∧ i < N) → l.length ≤ N := by
    intro N
    induction N with
    | zero =>
      intro l _ h
      cases l with
      | nil => exact Nat.le_refl _
      | cons a l => have := h a (by simp); omega
    | succ N ih =>
      intro l hn h
      have := ih (l.erase (N : Int)) (hn.erase _) (fun i hi => by
        have hi2 := h i (List.mem_of_mem_erase hi)
        have : i ≠ (N : Int) := fun q => by
          subst q
          exact (hn.not_mem_erase) hi
        omega)
      have h3 := List.length_erase_le (l := l) (a := (N : Int))
      rw [List.length_erase] at this
      split at this <;> omega
  have := key N (n :: l) (List.nodup_cons.2 ⟨h3, h1⟩) (fun i hi => by
    rcases List.mem_cons.1 hi with rfl | hi
    · exact ⟨h4, h5⟩
    · exact h2 i hi)
  simp at this
  omega
theorem encS_set {l : List (List UInt8)} {r : List Value} {j : Nat} {s : List UInt8} (h : j < l.length) : (l.map encS ++ r).set (0 + j * 1) (.string (str s)) = (l.set j s).map encS ++ r := by
  rw [Nat.zero_add, Nat.mul_one, List.set_append_left _ _ (by simpa using h), List.map_set]; rfl

def Dk.put (D : Dk) (n : Int) (s : List UInt8) : Dk :=
  { D with fuse := max (-1) (D.fuse - 1), was := if (kvGet D.was n).isSome then D.was else kvPut D.was n (D.now.getD n.toNat []), order := if (kvGet D.was n).isSome then D.order else D.order ++ [n], now := D.now.set n.toNat s }
def Dk.write (D : Dk) (n : Int) (s : List UInt8) : Int × Dk :=
  if D.may n ≠ 0 then (D.may n, D) else if s.length ≠ 256 then (1, D) else if D.fuse = 0 then (5, { D with gone := true }) else (0, D.put n s)

set_option maxHeartbeats 1000000 in
theorem Write_does (b : Nat) (D : Dk) (n : Int) (s : List UInt8) : Does Tryz.prog 179 [.pointer (some ⟨b, 0, none⟩), .int .i64 n, .string (str s)] [Disk b D] (fun v H => v = .int .i64 (D.write n s).1 ∧ H = [Disk b (D.write n s).2]) := by
  refine does_of Tryz.func179 Tryz.ntmps179 rfl rfl rfl (fun w0 F0 => ?_)
  (repeat' (first | refine g_seq (h := ?_) | refine g_region (h := ?_) | refine l_nil (h := ?_) | refine n_then (h := ?_) | refine l_pures1 (h := ?_) | (refine l_at 197 ?_; refine l_call (may_does b D n) ?_) | refine g_skip (h := ?_) | refine g_ret (h := ?_) | refine n_then_ret (h := ?_) | (refine g_sp (h1 := ?_) (h0 := ?_) <;> intro h)))
  · refine r_ret ?_
    exact ⟨by rw [Dk.write, if_pos (by assumption)]; rfl, by rw [Dk.write, if_pos (by assumption)]⟩
  · refine r_ret ?_
    exact ⟨by rw [Dk.write, if_neg (by omega), if_pos (by omega)]; rfl, by rw [Dk.write, if_neg (by omega), if_pos (by omega)]⟩
  · rename_i hm
    obtain ⟨h1, h2, h3⟩ := Dk.may_0 hm
    refine l_open (A := Disk b D) (h := ?_); (rintro ⟨bn, c, bm, ⟨po, co⟩, rest⟩ ⟨ok, hc, hc2⟩; dsimp only [DiskK, List.cons_append, List.nil_append])
    have hf := ok.f
    have hn := ok.n
    obtain ⟨o1, o2, o3, o4⟩ := ok.o
    have hw : IntKind.i64.wrap (D.fuse - 1) = D.fuse - 1 := wrapI64 (by omega)
    have hg : (D.now.map encS ++ rest)[0 + n.toNat * 1]? = some (encS (D.now.getD n.toNat [])) := by
      rw [Nat.zero_add, Nat.mul_one]; exact encS_get (by omega)
    have h256 : ¬ s.length ≠ 256 := by omega
    (repeat' (first | refine g_seq (h := ?_) | refine g_region (h := ?_) | refine l_nil (h := ?_) | refine n_then (h := ?_) | refine l_pures1 (h := ?_) | refine l_load (h := ?_) | refine l_store (h := ?_) | refine l_store_at (h := ?_) | refine l_indexAddr (h := ?_) | refine l_lookup_ok _ (h := ?_) | refine g_skip (h := ?_) | refine g_ret (h := ?_) | refine n_then_ret (h := ?_) | (refine g_sp (h1 := ?_) (h0 := ?_) <;> intro h)))
    · (refine n_shut (A := Disk b { D with gone := true }) (K := DiskK b { D with gone := true } ((bn, c, bm, (po, co), rest))) (hid_shuts ((bn, c, bm, (po, co), rest)) ⟨⟨ok.n, ok.f, ok.o, ok.s⟩, hc, hc2⟩) (h := ?_) (p := by dsimp only [DiskK]; (try simp only [List.map_nil, List.length_nil, List.length_set, List.length_append, List.length_cons, List.length_singleton, List.map_append, List.map_cons, Nat.zero_add]); exact parts_of))
      refine r_ret ?_
      exact ⟨by rw [Dk.write, if_neg (by omega), if_neg h256, if_pos (by assumption)]; rfl, by rw [Dk.write, if_neg (by omega), if_neg h256, if_pos (by assumption)]⟩
    · have hk : n ∉ D.order := by
        rw [← o4]; exact kvGet_none_iff.1 (by simpa using h)
      have hlt : D.order.length < D.now.length := room_of o2 o3 hk h2 h3
      (refine g_draw [_] (h := a_pass2 (h := ?_)))
      (repeat' (first | refine g_seq (h := ?_) | refine g_region (h := ?_) | refine l_nil (h := ?_) | refine n_then (h := ?_) | refine l_pures1 (h := ?_) | refine l_load (h := ?_) | refine l_store (h := ?_) | refine l_load_at (h := ?_) | refine l_store_at (h := ?_) | refine l_indexAddr (h := ?_) | refine l_mapUpdate (h := ?_) | (refine l_buildSlice1 (h := ?_); intro _) | (refine l_append_new (h := ?_); intro _ _) | refine g_ret (h := ?_) | refine a_done (h := ?_) | refine a_load (h := a_pass2 (h := ?_)) | refine a_one (h := ?_) | refine n_any (h := a_pass2 (h := ?_))))
      rename_i pe ce
      (simp only [cond_true, cond_false, mxI_eq, mnI_eq])
      rw [hw, encS_set (by omega)]
      have ex : D.put n s = { D with fuse := max (-1) (D.fuse - 1), was := kvPut D.was n (D.now.getD n.toNat []), order := D.order ++ [n], now := D.now.set n.toNat s } := by
        simp only [Dk.put, h, Bool.false_eq_true, if_false]
      have ok' : Dk.ok (D.put n s) := by
        rw [ex]
        refine ⟨by simpa using ok.n, ⟨by simp only; omega, by simp only; omega⟩, ⟨by simp; omega, ?_, ?_, ?_⟩, set_all (p := fun x : List UInt8 => x.length = 256) ok.s.1 (by omega), ?_⟩
        · exact List.nodup_append.2 ⟨o2, by simp, by intro x hx y hy; simp only [List.mem_singleton] at hy; subst hy; exact fun q => hk (q ▸ hx)⟩
        · intro i hi
          simp only [List.length_set]
          rcases List.mem_append.1 hi with hi | hi
          · exact o3 i hi
          · simp only [List.mem_singleton] at hi; subst hi; exact ⟨h2, h3⟩
        · rw [kvPut_none h, List.map_append, o4]; rfl
        · rw [kvPut_none h]
          intro p hp
          rcases List.mem_append.1 hp with hp | hp
          · exact ok.s.2 p hp
          · simp only [List.mem_singleton] at hp; subst hp
            exact getD_all (p := fun x : List UInt8 => x.length = 256) ok.s.1 (by omega)
      rw [ex] at ok'
      (refine n_shut (A := Disk b { D with fuse := max (-1) (D.fuse - 1), was := kvPut D.was n (D.now.getD n.toNat []), order := D.order ++ [n], now := D.now.set n.toNat s }) (K := DiskK b { D with fuse := max (-1) (D.fuse - 1), was := kvPut D.was n (D.now.getD n.toNat []), order := D.order ++ [n], now := D.now.set n.toNat s } ((bn, c, bm, (pe, ce), rest))) (hid_shuts ((bn, c, bm, (pe, ce), rest)) ⟨ok', by simpa using hc, hc2⟩) (h := ?_) (p := by dsimp only [DiskK]; (try simp only [List.map_nil, List.length_nil, List.length_set, List.length_append, List.length_cons, List.length_singleton, List.map_append, List.map_cons, Nat.zero_add, encZ']); exact parts_of))
      rw [← ex]
      refine r_retk [Disk b (D.put n s)] ?_
      exact ⟨by rw [Dk.write, if_neg (by omega), if_neg h256, if_neg (by assumption)]; rfl, by rw [Dk.write, if_neg (by omega), if_neg h256, if_neg (by assumption)]⟩
    · (simp only [cond_true, cond_false, mxI_eq, mnI_eq])
      rw [hw, encS_set (by omega)]
      have ex : D.put n s = { D with fuse := max (-1) (D.fuse - 1), now := D.now.set n.toNat s } := by
        simp only [Dk.put, h, if_true]
      (refine n_shut (A := Disk b { D with fuse := max (-1) (D.fuse - 1), now := D.now.set n.toNat s }) (K := DiskK b { D with fuse := max (-1) (D.fuse - 1), now := D.now.set n.toNat s } ((bn, c, bm, (po, co), rest))) (hid_shuts ((bn, c, bm, (po, co), rest)) ⟨⟨by simpa using ok.n, ⟨by simp only; omega, by simp only; omega⟩, by simpa using ok.o, set_all (p := fun x : List UInt8 => x.length = 256) ok.s.1 (by omega), ok.s.2⟩, by simpa using hc, hc2⟩) (h := ?_) (p := by dsimp only [DiskK]; (try simp only [List.map_nil, List.length_nil, List.length_set, List.length_append, List.length_cons, List.length_singleton, List.map_append, List.map_cons, Nat.zero_add]); exact parts_of))
      rw [← ex]
      refine r_ret ?_
      exact ⟨by rw [Dk.write, if_neg (by omega), if_neg h256, if_neg (by assumption)]; rfl, by rw [Dk.write, if_neg (by omega), if_neg h256, if_neg (by assumption)]⟩

end Go.Proofs.YtmfmommgooccnaaGreat
/- Trees of nodes on pages, as plain data: what a tree has, what stands beside a place in it. -/
set_option linter.unusedVariables false
set_option linter.unusedSimpArgs false
namespace Go.Proofs.YtmfmommgooccnaaGreat
open Go.Proofs.YtmfmommgooccnaaGreat.SL

abbrev Ent := Nat × List UInt8
def Nd.ents (d : Nd) : List Ent := d.keys.zip d.vals

/-- Kids of a node: each with what it has and its pages. -/
structure Sub where
  es : List Ent
  ps : List Int
def Sub.all (l : List Sub) : List Ent := l.flatMap Sub.es
def Sub.pages (l : List Sub) : List Int := l.flatMap Sub.ps
theorem Sub.all_cons (s : Sub) (l : List Sub) : Sub.all (s :: l) = s.es ++ Sub.all l := by simp [Sub.all]
theorem Sub.all_append (l m : List Sub) : Sub.all (l ++ m) = Sub.all l ++ Sub.all m := by simp [Sub.all]
theorem Sub.pages_cons (s : Sub) (l : List Sub) : Sub.pages (s :: l) = s.ps ++ Sub.pages l := by simp [Sub.pages]
theorem Sub.pages_append (l m : List Sub) : Sub.pages (l ++ m) = Sub.pages l ++ Sub.pages m := by simp [Sub.pages]

/-- What stands ahead of a key is below it, what stands behind is not. -/
def Sep : List Nat → List Sub → Prop
  | [], [_] => True
  | k :: ks, s :: ss => (∀ x ∈ s.es, x.1 < k) ∧ (∀ y ∈ Sub.all ss, k ≤ y.1) ∧ Sep ks ss
  | _, _ => False
/-- The same, of keys that have just what stands ahead. -/
def SepL : List Nat → List Sub → Prop
  | [], [] => True
  | k :: ks, s :: ss => (∀ x ∈ s.es, x.1 < k) ∧ (∀ y ∈ Sub.all ss, k ≤ y.1) ∧ SepL ks ss
  | _, _ => False
theorem SepL.len : ∀ {ks : List Nat} {ss : List Sub}, SepL ks ss → ks.length = ss.length
  | [], [], _ => rfl
  | _ :: _, _ :: _, h => by simp [SepL.len h.2.2]
theorem Sep.len : ∀ {ks : List Nat} {ss : List Sub}, Sep ks ss → ss.length = ks.length + 1
  | [], [_], _ => rfl
  | _ :: _, _ :: _, h => by simp [Sep.len h.2.2]
  | [], _ :: _ :: _, h => h.elim
theorem sep_app : ∀ {kl kr : List Nat} {sl sr : List Sub}, kl.length = sl.length → (Sep (kl ++ kr) (sl ++ sr) ↔ SepL kl sl ∧ (∀ k ∈ kl, ∀ y ∈ Sub.all sr, k ≤ y.1) ∧ Sep kr sr)
  | [], kr, [], sr, _ => by simp [SepL]
  | k :: kl, kr, s :: sl, sr, h => by
    have ih := sep_app (kl := kl) (kr := kr) (sl := sl) (sr := sr) (by simpa using h)
    simp only [List.cons_append, Sep, SepL, ih, Sub.all_append, List.mem_append, List.mem_cons]
    constructor
    · rintro ⟨h1, h2, h3, h4, h5⟩
      refine ⟨⟨h1, fun y hy => h2 y (.inl hy), h3⟩, ?_, h5⟩
      rintro k' (rfl | hk) y hy
      · exact h2 y (.inr hy)
      · exact h4 k' hk y hy
    · rintro ⟨⟨h1, h2, h3⟩, h4, h5⟩
      exact ⟨h1, fun y hy => hy.elim (h2 y) (h4 k (.inl rfl) y), h3, fun k' hk => h4 k' (.inr hk), h5⟩
/-- Two lists, thing by thing. -/
def All2 {α β : Type} (R : α → β → Prop) : List α → List β → Prop
  | [], [] => True
  | a :: l, b :: m => R a b ∧ All2 R l m
  | _, _ => False
theorem all2_cons {α β : Type} {R : α → β → Prop} {a : α} {l : List α} {m : List β} : All2 R (a :: l) m ↔ ∃ b m', m = b :: m' ∧ R a b ∧ All2 R l m' := by
  cases m with
  | nil => simp [All2]
  | cons b m => exact ⟨fun h => ⟨b, m, rfl, h⟩, fun ⟨_, _, e, h⟩ => by cases e; exact h⟩
theorem All2.len {α β : Type} {R : α → β → Prop} : ∀ {l : List α} {m : List β}, All2 R l m → l.length = m.length
  | [], [], _ => rfl
  | _ :: _, _ :: _, h => by simp [All2.len h.2]
theorem All2.append {α β : Type} {R : α → β → Prop} : ∀ {l l' : List α} {m m' : List β}, All2 R l m → All2 R l' m' → All2 R (l ++ l') (m ++ m')
  | [], _, [], _, _, h => h
  | [], _, _ :: _, _, h, _ => h.elim
  | _ :: _, _, [], _, h, _ => h.elim
  | _ :: _, _, _ :: _, _, h, k => ⟨h.1, All2.append h.2 k⟩
theorem All2.split {α β : Type} {R : α → β → Prop} : ∀ {l l' : List α} {m : List β}, All2 R (l ++ l') m → ∃ m1 m2, m = m1 ++ m2 ∧ All2 R l m1 ∧ All2 R l' m2
  | [], _, m, h => ⟨[], m, rfl, trivial, h⟩
  | _ :: _, _, _ :: _, h => by
    obtain ⟨m1, m2, rfl, h1, h2⟩ := All2.split h.2
    exact ⟨_ :: m1, m2, rfl, ⟨h.1, h1⟩, h2⟩
theorem All2.right {α β : Type} {R : α → β → Prop} {p : β → Prop} (k : ∀ a b, R a b → p b) : ∀ {l : List α} {m : List β}, All2 R l m → ∀ b ∈ m, p b
  | [], [], _, b, hb => by simp at hb
  | _ :: _, _ :: _, h, b, hb => by
    rcases List.mem_cons.1 hb with rfl | hb
    · exact k _ _ h.1
    · exact All2.right k h.2 b hb
theorem All2.mono {α β : Type} {R R' : α → β → Prop} : ∀ {l : List α} {m : List β}, All2 R l m → (∀ a b, b ∈ m → R a b → R' a b) → All2 R' l m
  | [], [], _, _ => trivial
  | _ :: _, _ :: _, h, k => ⟨k _ _ (by simp) h.1, All2.mono h.2 fun a b hb => k a b (by simp [hb])⟩

/-- What a node has, its kids' pages; its height; g: what is on a page. -/
def NT (g : Int → Nd → Prop) : Nat → Nd → List Ent → List Int → Prop
  | 0, d, es, ps => d.leaf = true ∧ d.plain ∧ es = d.ents ∧ ps = []
  | h + 1, d, es, ps => d.leaf = false ∧ d.plain ∧ ∃ ss : List Sub, All2 (fun k (s : Sub) => ∃ d' ps', g k d' ∧ d'.good ∧ (d'.leaf = false → d'.keys ≠ []) ∧ NT g h d' s.es ps' ∧ s.ps = k :: ps') d.kids ss ∧ es = Sub.all ss ∧ ps = Sub.pages ss ∧ Sep d.keys ss
/-- A tree on a page. -/
def OnP (g : Int → Nd → Prop) (h : Nat) (k : Int) (s : Sub) : Prop := ∃ d' ps', g k d' ∧ d'.good ∧ (d'.leaf = false → d'.keys ≠ []) ∧ NT g h d' s.es ps' ∧ s.ps = k :: ps'
theorem NT.plain {g : Int → Nd → Prop} : ∀ {h : Nat} {d : Nd} {es : List Ent} {ps : List Int}, NT g h d es ps → d.plain
  | 0, _, _, _, h => h.2.1
  | _ + 1, _, _, _, h => h.2.1
theorem NT.leaf {g : Int → Nd → Prop} : ∀ {h : Nat} {d : Nd} {es : List Ent} {ps : List Int}, NT g h d es ps → (d.leaf = true ↔ h = 0)
  | 0, _, _, _, h => by simp [h.1]
  | _ + 1, _, _, _, h => by have := h.1; simp [this]
theorem mem_pages {p : Int} {s : Sub} {ss : List Sub} (hs : s ∈ ss) (hp : p ∈ s.ps) : p ∈ Sub.pages ss := List.mem_flatMap.2 ⟨s, hs, hp⟩
theorem NT.same {g : Int → Nd → Prop} {g' : Int → Nd → Prop} : ∀ {h : Nat} {d : Nd} {es : List Ent} {ps : List Int}, NT g h d es ps → (∀ p ∈ ps, ∀ d, g p d → g' p d) → NT g' h d es ps
  | 0, _, _, _, n, _ => n
  | h + 1, d, es, ps, ⟨h1, h2, ss, h3, h4, h5, h6⟩, k => by
    subst h5
    refine ⟨h1, h2, ss, h3.mono ?_, h4, rfl, h6⟩
    rintro p s hs ⟨d', ps', a1, a2, a3, a4, a5⟩
    exact ⟨d', ps', k _ (mem_pages hs (by simp [a5])) _ a1, a2, a3, NT.same a4 (fun p hp => k p (mem_pages hs (by simp [a5, hp]))), a5⟩
theorem OnP.same {g : Int → Nd → Prop} {g' : Int → Nd → Prop} {h : Nat} {p : Int} {s : Sub} (o : OnP g h p s) (k : ∀ p ∈ s.ps, ∀ d, g p d → g' p d) : OnP g' h p s := by
  obtain ⟨d', ps', a1, a2, a3, a4, a5⟩ := o
  exact ⟨d', ps', k _ (by simp [a5]) _ a1, a2, a3, a4.same (fun p hp => k p (by simp [a5, hp])), a5⟩
theorem onP_all {g g' : Int → Nd → Prop} {h : Nat} {ks : List Int} {ss : List Sub} (o : All2 (OnP g h) ks ss) (k : ∀ p ∈ Sub.pages ss, ∀ d, g p d → g' p d) : All2 (OnP g' h) ks ss :=
  o.mono fun p s hs o => o.same fun p hp => k p (mem_pages hs hp)
/-- A strong tree has something. -/
theorem OnP.some {g : Int → Nd → Prop} : ∀ {h : Nat} {k : Int} {s : Sub}, OnP g h k s → s.es ≠ []
  | 0, k, s, ⟨d', ps', a1, a2, a3, a4, a5⟩ => by
    obtain ⟨l, p, e, _⟩ := a4
    have := a2.some l
    have h2 := p.vals
    rw [l] at h2
    simp only [if_true] at h2
    rw [e]
    intro q
    have := congrArg List.length q
    simp only [Nd.ents, List.length_zip, h2, List.length_nil] at this
    have h3 := a2.some l
    omega
  | h + 1, k, s, ⟨d', ps', a1, a2, a3, a4, a5⟩ => by
    obtain ⟨l, p, ss, f, e, _, sp⟩ := a4
    rw [e]
    have hl := sp.len
    cases ss with
    | nil => simp at hl
    | cons s0 ss =>
      have hs := f.right (p := fun s => s.es ≠ []) (fun k s o => OnP.some (h := h) o) s0 (by simp)
      rw [Sub.all_cons]
      simp [hs]
/-- Where all kids have something, keys rise. -/
theorem Sep.rise : ∀ {ks : List Nat} {ss : List Sub}, Sep ks ss → (∀ s ∈ ss, s.es ≠ []) → Rise ks
  | [], _, _, _ => List.Pairwise.nil
  | k :: ks, s :: ss, ⟨h1, h2, h3⟩, hn => by
    refine List.Pairwise.cons ?_ (Sep.rise h3 fun s hs => hn s (by simp [hs]))
    intro j hj
    -- the key j stands behind some kid
    have : ∀ {ks : List Nat} {ss : List Sub}, Sep ks ss → (∀ s ∈ ss, s.es ≠ []) → ∀ j ∈ ks, ∃ y ∈ Sub.all ss, y.1 < j := by
      intro ks
      induction ks with
      | nil => intro ss _ _ j hj; simp at hj
      | cons a ks ih =>
        intro ss hs hn j hj
        cases ss with
        | nil => exact hs.elim
        | cons s ss =>
          rcases List.mem_cons.1 hj with rfl | hj
          · obtain ⟨x, hx⟩ := List.exists_mem_of_ne_nil _ (hn s (by simp))
            exact ⟨x, by simp [Sub.all_cons, hx], hs.1 x hx⟩
          · obtain ⟨y, hy, h⟩ := ih hs.2.2 (fun s hs => hn s (by simp [hs])) j hj
            exact ⟨y, by simp [Sub.all_cons, hy], h⟩
    obtain ⟨y, hy, h⟩ := this h3 (fun s hs => hn s (by simp [hs])) j hj
    have := h2 y hy
    omega

/-- What stands in order. -/
def Ord (es : List Ent) : Prop := es.Pairwise fun a b => a.1 < b.1
theorem ord_append {a b : List Ent} : Ord (a ++ b) ↔ Ord a ∧ Ord b ∧ ∀ x ∈ a, ∀ y ∈ b, x.1 < y.1 := by simp [Ord, List.pairwise_append]
theorem zip_fst_mem {ks : List Nat} {vs : List (List UInt8)} {e : Ent} (h : e ∈ ks.zip vs) : e.1 ∈ ks := (List.of_mem_zip h).1
theorem rise_ord : ∀ {ks : List Nat} {vs : List (List UInt8)}, Rise ks → Ord (ks.zip vs)
  | [], _, _ => by simp [Ord]
  | _ :: _, [], _ => by simp [Ord]
  | k :: ks, v :: vs, h => by
    obtain ⟨h1, h2⟩ := List.pairwise_cons.1 h
    refine List.Pairwise.cons ?_ (rise_ord h2)
    intro e he
    exact h1 _ (zip_fst_mem he)
theorem Sep.ord : ∀ {ks : List Nat} {ss : List Sub}, Sep ks ss → (∀ s ∈ ss, Ord s.es) → Ord (Sub.all ss)
  | [], [s], _, h => by simpa [Sub.all] using h s (by simp)
  | k :: ks, s :: ss, ⟨h1, h2, h3⟩, h => by
    rw [Sub.all_cons, ord_append]
    refine ⟨h s (by simp), Sep.ord h3 (fun s hs => h s (by simp [hs])), ?_⟩
    intro x hx y hy
    have := h1 x hx
    have := h2 y hy
    omega
theorem NT.ord {g : Int → Nd → Prop} : ∀ {h : Nat} {d : Nd} {es : List Ent} {ps : List Int}, NT g h d es ps → Ord es
  | 0, d, es, ps, ⟨_, p, e, _⟩ => by rw [e]; exact rise_ord p.rise
  | h + 1, d, es, ps, ⟨_, _, ss, f, e, _, sp⟩ => by
    rw [e]
    exact sp.ord (f.right (fun k s o => by obtain ⟨d', ps', _, _, _, a4, _⟩ := o; exact NT.ord a4))
end Go.Proofs.YtmfmommgooccnaaGreat
/- Trees, as plain data: a place in a node, and what may be put there. -/
set_option linter.unusedVariables false
set_option linter.unusedSimpArgs false
namespace Go.Proofs.YtmfmommgooccnaaGreat
open Go.Proofs.YtmfmommgooccnaaGreat.SL

/-- How many keys are not above. -/
def cntN (l : List Nat) (x : Nat) : Nat := posN l x + if x ∈ l then 1 else 0
theorem cntN_spec : ∀ {l : List Nat} {x : Nat}, Rise l → cntN l x ≤ l.length ∧ (∀ k ∈ l.take (cntN l x), k ≤ x) ∧ ∀ k ∈ l.drop (cntN l x), x < k
  | [], x, _ => by simp [cntN, posN]
  | k :: l, x, h => by
    obtain ⟨h1, h2⟩ := List.pairwise_cons.1 h
    obtain ⟨i1, i2, i3⟩ := cntN_spec (l := l) (x := x) h2
    rcases Nat.lt_trichotomy k x with q | q | q
    · have : cntN (k :: l) x = cntN l x + 1 := by
        have hne : ¬ x = k := by omega
        simp only [cntN, posN, if_pos q, List.mem_cons, hne, false_or]; omega
      rw [this]
      refine ⟨by simpa using i1, ?_, by simpa using i3⟩
      intro j hj
      rw [List.take_succ_cons] at hj
      rcases List.mem_cons.1 hj with rfl | hj
      · omega
      · exact i2 j hj
    · subst q
      have : cntN (k :: l) k = 1 := by simp [cntN, posN]
      rw [this]
      exact ⟨by simp, by simp, by simpa using h1⟩
    · have hm : x ∉ k :: l := by
        intro hx
        rcases List.mem_cons.1 hx with rfl | hx
        · omega
        · have := h1 x hx; omega
      have : cntN (k :: l) x = 0 := by simp only [cntN, posN, if_neg (show ¬ k < x by omega), if_neg hm]
      rw [this]
      refine ⟨by simp, by simp, ?_⟩
      intro j hj
      rcases List.mem_cons.1 (by simpa using hj) with rfl | hj
      · exact q
      · have := h1 j hj; omega

/-- The first key to the right has what stands behind it. -/
def SepR : List Nat → List Sub → Prop
  | [], [] => True
  | k :: ks, sr => (∀ y ∈ Sub.all sr, k ≤ y.1) ∧ Sep ks sr
  | [], _ :: _ => False
theorem sep_hole {kr : List Nat} {s : Sub} {sr : List Sub} : Sep kr (s :: sr) ↔ SepR kr sr ∧ ∀ k ks, kr = k :: ks → ∀ x ∈ s.es, x.1 < k := by
  cases kr with
  | nil => cases sr <;> simp [Sep, SepR]
  | cons k ks =>
    constructor
    · rintro ⟨h1, h2, h3⟩
      exact ⟨⟨h2, h3⟩, fun k' ks' e => by cases e; exact h1⟩
    · rintro ⟨⟨h2, h3⟩, h1⟩
      exact ⟨h1 k ks rfl, h2, h3⟩

/-- Kid number i of a node on page p is a hole; sl, sr: what stands beside it. -/
structure Mid (g : Int → Nd → Prop) (h : Nat) (d : Nd) (i : Nat) (sl sr : List Sub) : Prop where
  good : d.good
  leaf : d.leaf = false
  ne : d.keys ≠ []
  ile : i ≤ d.keys.length
  ol : All2 (OnP g h) (d.kids.take i) sl
  orr : All2 (OnP g h) (d.kids.drop (i + 1)) sr
  spl : SepL (d.keys.take i) sl
  spr : SepR (d.keys.drop i) sr
  lr : ∀ k ∈ d.keys.take i, ∀ y ∈ Sub.all sr, k ≤ y.1
def FitsAt (d : Nd) (i : Nat) (x : Nat) : Prop := (∀ k ∈ d.keys.take i, k ≤ x) ∧ ∀ k ∈ d.keys.drop i, x < k

theorem kidsLen {d : Nd} (p : d.plain) (hl : d.leaf = false) : d.kids.length = d.keys.length + 1 := by have := p.kids; rw [hl] at this; simpa using this
theorem valsLen {d : Nd} (p : d.plain) (hl : d.leaf = true) : d.vals.length = d.keys.length := by have := p.vals; rw [hl] at this; simpa using this
theorem take_cons_drop {α : Type} {l : List α} {i : Nat} (h : i < l.length) : l = l.take i ++ l[i] :: l.drop (i + 1) := by simp

theorem descend {g : Int → Nd → Prop} {h : Nat} {d : Nd} {es : List Ent} {ps : List Int} (n : NT g (h + 1) d es ps) (hg : d.good) (hne : d.keys ≠ []) {i : Nat} (hi : i ≤ d.keys.length) :
    ∃ k sl s sr, d.kids[i]? = some k ∧ Mid g h d i sl sr ∧ OnP g h k s ∧ (∀ x ∈ s.es, FitsAt d i x.1) ∧ es = Sub.all sl ++ (s.es ++ Sub.all sr) ∧ ps = Sub.pages sl ++ (s.ps ++ Sub.pages sr) := by
  obtain ⟨hl, p, ss, f, rfl, rfl, sp⟩ := n
  have hk := kidsLen p hl
  have hi2 : i < d.kids.length := by omega
  have e := take_cons_drop hi2
  rw [e] at f
  obtain ⟨sl, m2, rfl, f1, f2⟩ := f.split
  obtain ⟨s, sr, rfl, o, f3⟩ := all2_cons.1 f2
  have hlen : (d.keys.take i).length = sl.length := by rw [← f1.len]; simp; omega
  have sp2 := sp
  rw [← List.take_append_drop i d.keys, sep_app hlen] at sp2
  obtain ⟨s1, s2, s3⟩ := sp2
  obtain ⟨s4, s5⟩ := sep_hole.1 s3
  refine ⟨d.kids[i], sl, s, sr, by simp [hi2], ⟨hg, hl, hne, hi, f1, f3, s1, s4, fun k hk y hy => s2 k hk y (by simp [Sub.all_cons, hy])⟩, o, ?_, by simp [Sub.all_append, Sub.all_cons], by simp [Sub.pages_append, Sub.pages_cons]⟩
  intro x hx
  refine ⟨fun k hk => s2 k hk x (by simp [Sub.all_cons, hx]), fun k hk => ?_⟩
  cases hr : d.keys.drop i with
  | nil => rw [hr] at hk; simp at hk
  | cons k0 ks =>
    have h0 := s5 k0 ks hr x hx
    rw [hr] at hk
    have hrise : Rise (d.keys.drop i) := List.Pairwise.sublist (List.drop_sublist _ _) p.rise
    rw [hr] at hrise
    rcases List.mem_cons.1 hk with rfl | hk
    · exact h0
    · have := (List.pairwise_cons.1 hrise).1 k hk; omega

theorem some_of {g : Int → Nd → Prop} {h : Nat} {ks : List Int} {ss : List Sub} (o : All2 (OnP g h) ks ss) : ∀ s ∈ ss, s.es ≠ [] := o.right fun _ _ o => o.some

/-- A node whose kids are on pages, out of its parts. -/
theorem nt_of {g : Int → Nd → Prop} {h : Nat} {d : Nd} {ss : List Sub} (hl : d.leaf = false) (hv : d.vals = []) (o : All2 (OnP g h) d.kids ss) (sp : Sep d.keys ss) (hk : ∀ k ∈ d.keys, k < 18446744073709551616) (hi : ∀ i ∈ d.kids, 2 ≤ i ∧ i < 640) : NT g (h + 1) d (Sub.all ss) (Sub.pages ss) := by
  refine ⟨hl, ⟨sp.rise (some_of o), hk, by simp [hv], hi, by simp [hl, hv], ?_⟩, ss, o, rfl, rfl, sp⟩
  rw [hl, o.len, sp.len]; simp
theorem noVals {d : Nd} (p : d.plain) (hl : d.leaf = false) : d.vals = [] := by have := p.vals; rw [hl] at this; simpa using this

/-- The hole is filled by one kid. -/
theorem plug {g g' : Int → Nd → Prop} {h : Nat} {d : Nd} {i : Nat} {sl sr : List Sub} (m : Mid g h d i sl sr) {k : Int} {s : Sub} (o : OnP g' h k s) (hk : 2 ≤ k ∧ k < 640) (hf : ∀ x ∈ s.es, FitsAt d i x.1) (same : ∀ p ∈ Sub.pages sl ++ Sub.pages sr, ∀ d, g p d → g' p d) :
    NT g' (h + 1) { d with kids := d.kids.set i k } (Sub.all sl ++ (s.es ++ Sub.all sr)) (Sub.pages sl ++ (s.ps ++ Sub.pages sr)) := by
  have p := m.good.p
  have hkl := kidsLen p m.leaf
  have hi := m.ile
  have hlen : (d.keys.take i).length = sl.length := by rw [← m.ol.len]; simp; omega
  have := nt_of (g := g') (h := h) (d := { d with kids := d.kids.set i k }) (ss := sl ++ s :: sr) m.leaf (show d.vals = [] from noVals p m.leaf) ?_ ?_ p.key ?_
  · simpa [Sub.all_append, Sub.all_cons, Sub.pages_append, Sub.pages_cons] using this
  · show All2 _ (d.kids.set i k) _
    rw [List.set_eq_take_append_cons_drop, if_pos (by omega)]
    exact (onP_all m.ol fun p hp => same p (by simp [hp])).append ⟨o, onP_all m.orr fun p hp => same p (by simp [hp])⟩
  · show Sep d.keys _
    rw [← List.take_append_drop i d.keys, sep_app hlen]
    refine ⟨m.spl, ?_, sep_hole.2 ⟨m.spr, fun k ks e x hx => (hf x hx).2 k (by rw [e]; simp)⟩⟩
    intro k hk y hy
    rw [Sub.all_cons] at hy
    rcases List.mem_append.1 hy with hy | hy
    · exact (hf y hy).1 k hk
    · exact m.lr k hk y hy
  · intro j hj
    rcases List.mem_or_eq_of_mem_set hj with hj | rfl
    · exact p.kid j hj
    · exact hk
/-- The hole is filled by two kids. -/
theorem plug2 {g g' : Int → Nd → Prop} {h : Nat} {d : Nd} {i : Nat} {sl sr : List Sub} (m : Mid g h d i sl sr) {k1 k2 : Int} {s1 s2 : Sub} {mid : Nat} (o1 : OnP g' h k1 s1) (o2 : OnP g' h k2 s2) (hk1 : 2 ≤ k1 ∧ k1 < 640) (hk2 : 2 ≤ k2 ∧ k2 < 640) (hm : mid < 18446744073709551616)
    (hf1 : ∀ x ∈ s1.es, FitsAt d i x.1 ∧ x.1 < mid) (hf2 : ∀ x ∈ s2.es, FitsAt d i x.1 ∧ mid ≤ x.1) (same : ∀ p ∈ Sub.pages sl ++ Sub.pages sr, ∀ d, g p d → g' p d) :
    NT g' (h + 1) (Nd.hang { d with kids := d.kids.set i k1 } i mid k2) (Sub.all sl ++ (s1.es ++ s2.es ++ Sub.all sr)) (Sub.pages sl ++ (s1.ps ++ s2.ps ++ Sub.pages sr)) := by
  have p := m.good.p
  have hkl := kidsLen p m.leaf
  have hi := m.ile
  have hlen : (d.keys.take i).length = sl.length := by rw [← m.ol.len]; simp; omega
  have ek : (Nd.hang { d with kids := d.kids.set i k1 } i mid k2).kids = d.kids.take i ++ k1 :: k2 :: d.kids.drop (i + 1) := by
    show laidL (d.kids.set i k1) (i + 1) 0 [k2] = _
    have h1 : (d.kids.set i k1).take (i + 1) = d.kids.take i ++ [k1] := by
      rw [List.set_eq_take_append_cons_drop, if_pos (by omega), List.take_append]
      simp [List.take_take, show min i d.kids.length = i by omega]
    have h2 : (d.kids.set i k1).drop (i + 1) = d.kids.drop (i + 1) := by rw [List.drop_set_of_lt (by omega)]
    simp [laidL, h1, h2]
  have ekk : (Nd.hang { d with kids := d.kids.set i k1 } i mid k2).keys = d.keys.take i ++ mid :: d.keys.drop i := by show laidL d.keys i 0 [mid] = _; simp [laidL]
  -- mid stands between what is ahead and behind
  obtain ⟨x1, hx1⟩ := List.exists_mem_of_ne_nil _ o1.some
  obtain ⟨x2, hx2⟩ := List.exists_mem_of_ne_nil _ o2.some
  have := nt_of (g := g') (h := h) (d := Nd.hang { d with kids := d.kids.set i k1 } i mid k2) (ss := sl ++ s1 :: s2 :: sr) rfl rfl ?_ ?_ ?_ ?_
  · simpa [Sub.all_append, Sub.all_cons, Sub.pages_append, Sub.pages_cons] using this
  · rw [ek]
    exact (onP_all m.ol fun p hp => same p (by simp [hp])).append ⟨o1, o2, onP_all m.orr fun p hp => same p (by simp [hp])⟩
  · rw [ekk, sep_app hlen]
    refine ⟨m.spl, ?_, ⟨fun x hx => (hf1 x hx).2, ?_, sep_hole.2 ⟨m.spr, fun k ks e x hx => (hf2 x hx).1.2 k (by rw [e]; simp)⟩⟩⟩
    · intro k hk y hy
      simp only [Sub.all_cons, List.mem_append] at hy
      rcases hy with hy | hy | hy
      · exact (hf1 y hy).1.1 k hk
      · exact (hf2 y hy).1.1 k hk
      · exact m.lr k hk y hy
    · intro y hy
      rw [Sub.all_cons] at hy
      rcases List.mem_append.1 hy with hy | hy
      · exact (hf2 y hy).2
      · have hsr := m.spr
        cases hr : d.keys.drop i with
        | nil => rw [hr] at hsr; cases sr with
          | nil => simp [Sub.all] at hy
          | cons => exact hsr.elim
        | cons k0 ks =>
          rw [hr] at hsr
          have h1 := hsr.1 y hy
          have h2 := (hf2 x2 hx2).1.2 k0 (by rw [hr]; simp)
          have h3 := (hf2 x2 hx2).2
          omega
  · intro k hk
    rw [ekk] at hk
    simp only [List.mem_append, List.mem_cons] at hk
    rcases hk with hk | rfl | hk
    · exact p.key k (List.mem_of_mem_take hk)
    · exact hm
    · exact p.key k (List.mem_of_mem_drop hk)
  · intro j hj
    rw [ek] at hj
    simp only [List.mem_append, List.mem_cons] at hj
    rcases hj with hj | rfl | rfl | hj
    · exact p.kid j (List.mem_of_mem_take hj)
    · exact hk1
    · exact hk2
    · exact p.kid j (List.mem_of_mem_drop hj)
end Go.Proofs.YtmfmommgooccnaaGreat
/- Trees, as plain data: leaves, nodes that are split, put together, dealt anew; how high a tree is; ways. -/
set_option linter.unusedVariables false
set_option linter.unusedSimpArgs false
namespace Go.Proofs.YtmfmommgooccnaaGreat
open Go.Proofs.YtmfmommgooccnaaGreat.SL

/-! ### What is put, and taken away -/
def putE (es : List Ent) (x : Nat) (v : List UInt8) : List Ent := es.filter (fun e => decide (e.1 < x)) ++ (x, v) :: es.filter (fun e => decide (x < e.1))
def delE (es : List Ent) (x : Nat) : List Ent := es.filter fun e => !(e.1 == x)
theorem putE_mid {L R e : List Ent} {x : Nat} {v : List UInt8} (hl : ∀ a ∈ L, a.1 < x) (hr : ∀ a ∈ R, x < a.1) : putE (L ++ (e ++ R)) x v = L ++ (putE e x v ++ R) := by
  have e1 : L.filter (fun e => decide (e.1 < x)) = L := List.filter_eq_self.2 (fun a ha => by simpa using hl a ha)
  have e2 : L.filter (fun e => decide (x < e.1)) = [] := List.filter_eq_nil_iff.2 (fun a ha => by have := hl a ha; simp; omega)
  have e3 : R.filter (fun e => decide (x < e.1)) = R := List.filter_eq_self.2 (fun a ha => by simpa using hr a ha)
  have e4 : R.filter (fun e => decide (e.1 < x)) = [] := List.filter_eq_nil_iff.2 (fun a ha => by have := hr a ha; simp; omega)
  simp [putE, List.filter_append, e1, e2, e3, e4]
theorem filt_lt : ∀ {ks : List Nat} {vs : List (List UInt8)} {x : Nat}, Rise ks → (ks.zip vs).filter (fun e => decide (e.1 < x)) = (ks.zip vs).take (posN ks x)
  | [], _, _, _ => by simp
  | _ :: _, [], _, _ => by simp
  | k :: ks, v :: vs, x, h => by
    obtain ⟨h1, h2⟩ := List.pairwise_cons.1 h
    rw [List.zip_cons_cons, posN]
    by_cases q : k < x
    · rw [if_pos q, List.filter_cons_of_pos (by simpa using q), List.take_succ_cons, filt_lt h2]
    · rw [if_neg q, List.filter_cons_of_neg (by simpa using q), List.take_zero, List.filter_eq_nil_iff]
      intro e he
      have := h1 _ (zip_fst_mem he)
      simp; omega
theorem filt_gt : ∀ {ks : List Nat} {vs : List (List UInt8)} {x : Nat}, Rise ks → (ks.zip vs).filter (fun e => decide (x < e.1)) = (ks.zip vs).drop (cntN ks x)
  | [], _, _, _ => by simp
  | _ :: _, [], _, _ => by simp
  | k :: ks, v :: vs, x, h => by
    obtain ⟨h1, h2⟩ := List.pairwise_cons.1 h
    rw [List.zip_cons_cons]
    rcases Nat.lt_trichotomy k x with q | q | q
    · have hne : ¬ x = k := by omega
      have : cntN (k :: ks) x = cntN ks x + 1 := by simp only [cntN, posN, if_pos q, List.mem_cons, hne, false_or]; omega
      rw [this, List.filter_cons_of_neg (by simp; omega), List.drop_succ_cons, filt_gt h2]
    · subst q
      have : cntN (k :: ks) k = 1 := by simp [cntN, posN]
      rw [this, List.filter_cons_of_neg (by simp), List.drop_succ_cons, List.drop_zero, List.filter_eq_self]
      intro e he
      simpa using h1 _ (zip_fst_mem he)
    · have hm : x ∉ k :: ks := by
        intro hx
        rcases List.mem_cons.1 hx with rfl | hx
        · omega
        · have := h1 x hx; omega
      have : cntN (k :: ks) x = 0 := by simp only [cntN, posN, if_neg (show ¬ k < x by omega), if_neg hm]
      rw [this, List.drop_zero, List.filter_eq_self]
      intro e he
      rcases List.mem_cons.1 he with rfl | he
      · simpa using q
      · have := h1 _ (zip_fst_mem he); simp; omega
theorem zip_laid {ks : List Nat} {vs : List (List UInt8)} {p g : Nat} {a : List Nat} {b : List (List UInt8)} (hl : vs.length = ks.length) (hp : p ≤ ks.length) (hab : a.length = b.length) :
    (laidL ks p g a).zip (laidL vs p g b) = (ks.zip vs).take p ++ a.zip b ++ (ks.zip vs).drop (p + g) := by
  unfold laidL
  rw [List.zip_append (by simp only [List.length_append, List.length_take]; omega), List.zip_append (by simp only [List.length_take]; omega)]
  congr 1
  · congr 1
    exact (List.take_zipWith (f := Prod.mk)).symm
  · exact (List.drop_zipWith (f := Prod.mk)).symm
theorem put_ents {d : Nd} (p : d.plain) (hl : d.leaf = true) (x : Nat) (v : List UInt8) : (d.put x v).ents = putE d.ents x v := by
  show (laidL d.keys _ _ [x]).zip (laidL d.vals _ _ [v]) = _
  rw [zip_laid (valsLen p hl) (posN_le _ _) rfl, putE, Nd.ents, filt_lt p.rise, filt_gt p.rise]
  simp [cntN]
theorem rise_laid_put {l : List Nat} (h : Rise l) (x : Nat) : Rise (laidL l (posN l x) (if x ∈ l then 1 else 0) [x]) := by
  have h2 := cntN_spec (x := x) h
  have ht : ∀ k ∈ l.take (posN l x), k < x := by
    intro k hk
    obtain ⟨i, hi, rfl⟩ := List.getElem_of_mem hk
    simp only [List.length_take] at hi
    have := posN_lt (l := l) (x := x) (j := i) (by omega)
    simpa [List.getD, show i < l.length by omega] using this
  unfold laidL
  refine List.pairwise_append.2 ⟨List.pairwise_append.2 ⟨h.sublist (List.take_sublist _ _), List.pairwise_singleton _ _, ?_⟩, h.sublist (List.drop_sublist _ _), ?_⟩
  · intro a ha b hb; simp only [List.mem_singleton] at hb; subst hb; exact ht a ha
  · intro a ha b hb
    have hb2 := h2.2.2 b hb
    rcases List.mem_append.1 ha with ha | ha
    · have := ht a ha; omega
    · simp only [List.mem_singleton] at ha; subst ha; exact hb2
theorem mem_laid {α : Type} {l : List α} {p g : Nat} {m : List α} {x : α} (h : x ∈ laidL l p g m) : x ∈ l ∨ x ∈ m := by
  unfold laidL at h
  simp only [List.mem_append] at h
  rcases h with (h | h) | h
  · exact .inl (List.mem_of_mem_take h)
  · exact .inr h
  · exact .inl (List.mem_of_mem_drop h)
theorem laid_len {α : Type} {l : List α} {p g : Nat} {m : List α} (h : p + g ≤ l.length) : (laidL l p g m).length = l.length - g + m.length := by
  simp only [laidL, List.length_append, List.length_take, List.length_drop]; omega
theorem sum_laid {l : List (List UInt8)} {p g : Nat} {m : List (List UInt8)} : sumL (laidL l p g m) ≤ sumL l + sumL m := by
  have e : l = l.take p ++ ((l.drop p).take g ++ (l.drop p).drop g) := by rw [List.take_append_drop, List.take_append_drop]
  have e2 : sumL l = sumL (l.take p) + (sumL ((l.drop p).take g) + sumL ((l.drop p).drop g)) := by rw [← sumL_append, ← sumL_append, ← e]
  rw [laidL, sumL_append, sumL_append, e2, List.drop_drop]
  omega
theorem posN_gone {l : List Nat} (h : Rise l) (x : Nat) : posN l x + (if x ∈ l then 1 else 0) ≤ l.length := (cntN_spec (x := x) h).1
theorem put_nt {g : Int → Nd → Prop} {d : Nd} {es : List Ent} {ps : List Int} (n : NT g 0 d es ps) {x : Nat} {v : List UInt8} (hx : x < 18446744073709551616) (hv : v.length ≤ 40) : NT g 0 (d.put x v) (putE es x v) [] ∧ (d.put x v).size ≤ d.size + 49 ∧ 0 < (d.put x v).keys.length := by
  obtain ⟨hl, p, rfl, rfl⟩ := n
  have hvl := valsLen p hl
  have hg := posN_gone p.rise x
  have l1 : (d.put x v).keys.length = d.keys.length - (if x ∈ d.keys then 1 else 0) + 1 := laid_len hg
  have l2 : (d.put x v).vals.length = d.vals.length - (if x ∈ d.keys then 1 else 0) + 1 := laid_len (by rw [hvl]; exact hg)
  have l3 : sumL (d.put x v).vals ≤ sumL d.vals + v.length := by have := sum_laid (l := d.vals) (p := posN d.keys x) (g := if x ∈ d.keys then 1 else 0) (m := [v]); rw [sumL_cons, sumL_nil] at this; exact this
  refine ⟨⟨rfl, ⟨rise_laid_put p.rise x, ?_, ?_, by simp [Nd.put], ?_, rfl⟩, (put_ents p hl x v).symm, rfl⟩, ?_, by omega⟩
  · intro k hk
    rcases mem_laid hk with hk | hk
    · exact p.key k hk
    · simp only [List.mem_singleton] at hk; omega
  · intro w hw
    rcases mem_laid hw with hw | hw
    · exact p.val w hw
    · simp only [List.mem_singleton] at hw; subst hw; exact hv
  · rw [show (d.put x v).leaf = true from rfl, if_pos rfl, l1, l2, hvl]
  · simp only [Nd.size, hl, show (d.put x v).leaf = true from rfl, if_true, l1]; omega
end Go.Proofs.YtmfmommgooccnaaGreat
/- Trees, as plain data: nodes that are split, put together, dealt anew; how high a tree is; ways. -/
set_option linter.unusedVariables false
set_option linter.unusedSimpArgs false
namespace Go.Proofs.YtmfmommgooccnaaGreat
open Go.Proofs.YtmfmommgooccnaaGreat.SL

/-! ### Splits -/
theorem cut_spec (d : Nd) : ∀ (m k : Nat), k ≤ d.cut m k ∧ d.cut m k ≤ k + m ∧ (d.cut m k = k + m ∨ d.size / 2 ≤ (d.front (d.cut m k)).size) ∧ (d.cut m k = k ∨ (d.front (d.cut m k - 1)).size < d.size / 2)
  | 0, k => ⟨Nat.le_refl _, Nat.le_refl _, .inl rfl, .inl rfl⟩
  | m + 1, k => by
    rw [Nd.cut]
    by_cases q : (d.front k).size < d.size / 2
    · rw [if_pos q]
      obtain ⟨h1, h2, h3, h4⟩ := cut_spec d m (k + 1)
      refine ⟨by omega, by omega, h3.imp (fun e => by omega) id, .inr ?_⟩
      rcases h4 with h4 | h4
      · rw [h4]; simpa using q
      · exact h4
    · rw [if_neg q]
      exact ⟨Nat.le_refl _, by omega, .inr (by omega), .inl rfl⟩
theorem front_size {d : Nd} (p : d.plain) {k : Nat} (hk : k + d.up ≤ d.keys.length) : (d.front k).size = if d.leaf then 1 + 9 * k + sumL (d.vals.take k) else 1 + 8 * k + 2 * (k + 1) := by
  cases hl : d.leaf
  · have := kidsLen p hl
    simp only [Nd.up, hl, Bool.false_eq_true, if_false] at hk
    simp only [Nd.front, Nd.size, hl, Bool.false_eq_true, if_false, List.length_take]
    omega
  · simp only [Nd.up, hl, if_true] at hk
    simp only [Nd.front, Nd.size, hl, if_true, List.length_take]
    omega
theorem back_size {d : Nd} (p : d.plain) {k : Nat} (hk : k + d.up ≤ d.keys.length) : (d.back k).size = if d.leaf then 1 + 9 * (d.keys.length - k) + sumL (d.vals.drop k) else 1 + 8 * (d.keys.length - k - 1) + 2 * (d.keys.length - k) := by
  cases hl : d.leaf
  · have := kidsLen p hl
    simp only [Nd.up, hl, Bool.false_eq_true, if_false] at hk
    simp only [Nd.back, Nd.size, Nd.up, hl, Bool.false_eq_true, if_false, List.length_drop]
    omega
  · simp only [Nd.up, hl, if_true] at hk
    simp only [Nd.back, Nd.size, Nd.up, hl, if_true, List.length_drop]
    omega
theorem sumL_split (l : List (List UInt8)) (k : Nat) : sumL l = sumL (l.take k) + sumL (l.drop k) := by rw [← sumL_append, List.take_append_drop]
theorem sumL_one {l : List (List UInt8)} (h : ∀ v ∈ l, v.length ≤ 40) (k : Nat) : sumL (l.take (k + 1)) ≤ sumL (l.take k) + 40 := by
  rcases Nat.lt_or_ge k l.length with q | q
  · rw [sumL_take_succ q]
    have : (l.getD k []).length ≤ 40 := by simp only [List.getD, List.getElem?_eq_getElem q, Option.getD_some]; exact h _ (List.getElem_mem q)
    omega
  · rw [List.take_of_length_le (by omega), List.take_of_length_le (by omega)]; omega
theorem at_spec {d : Nd} (p : d.plain) (h1 : 240 < d.size) (h2 : d.size ≤ 340) : 1 ≤ d.keys.length - 1 - d.up ∧ 1 ≤ d.at' ∧ d.at' + d.up < d.keys.length ∧ (d.front d.at').size ≤ 240 ∧ (d.back d.at').size ≤ 240 := by
  have hs := sumL_le p.val
  have hup : d.up ≤ 1 := by unfold Nd.up; split <;> omega
  have hbig : 3 ≤ d.keys.length - 1 - d.up := by
    cases hl : d.leaf
    · have := kidsLen p hl
      simp only [Nd.size, hl, Bool.false_eq_true, if_false, Nd.up] at *; omega
    · have := valsLen p hl
      simp only [Nd.size, hl, if_true, Nd.up] at *; omega
  obtain ⟨c1, c2, c3, c4⟩ := cut_spec d (d.keys.length - 1 - d.up - 1) 1
  rw [show d.cut (d.keys.length - 1 - d.up - 1) 1 = d.at' from rfl] at c1 c2 c3 c4
  generalize d.at' = k at *
  have hk : k + d.up < d.keys.length := by omega
  refine ⟨by omega, c1, hk, ?_⟩
  have f0 := front_size p (show k + d.up ≤ d.keys.length by omega)
  have f1 := front_size p (show (k - 1) + d.up ≤ d.keys.length by omega)
  have b0 := back_size p (show k + d.up ≤ d.keys.length by omega)
  have s0 := sumL_split d.vals k
  have s1 := sumL_one p.val (k - 1)
  have s2 := sumL_le (l := d.vals.drop k) (fun v hv => p.val v (List.mem_of_mem_drop hv))
  rw [show k - 1 + 1 = k by omega] at s1
  cases hl : d.leaf
  · have := kidsLen p hl
    simp only [Nd.size, hl, Bool.false_eq_true, if_false, Nd.up] at *
    constructor <;> omega
  · have := valsLen p hl
    have hd : (d.vals.drop k).length = d.keys.length - k := by simp; omega
    rw [hd] at s2
    have hz : k = 1 → sumL (d.vals.take k) ≤ 40 := fun e => by
      subst e; simp only [Nat.sub_self, List.take_zero, sumL_nil] at s1; omega
    simp only [Nd.size, hl, if_true, Nd.up] at *
    constructor <;> omega

theorem sep_mid : ∀ {ka kb : List Nat} {sa sb : List Sub} {mid : Nat}, sa.length = ka.length + 1 → Rise (ka ++ mid :: kb) → Sep (ka ++ mid :: kb) (sa ++ sb) → Sep ka sa ∧ (∀ x ∈ Sub.all sa, x.1 < mid) ∧ (∀ y ∈ Sub.all sb, mid ≤ y.1) ∧ Sep kb sb
  | [], kb, [s], sb, mid, _, _, ⟨h1, h2, h3⟩ => ⟨trivial, fun x hx => h1 x (by simpa [Sub.all] using hx), h2, h3⟩
  | k :: ka, kb, s :: sa, sb, mid, hl, hr, ⟨h1, h2, h3⟩ => by
    obtain ⟨r1, r2⟩ := List.pairwise_cons.1 hr
    obtain ⟨i1, i2, i3, i4⟩ := sep_mid (ka := ka) (kb := kb) (sa := sa) (sb := sb) (mid := mid) (by simpa using hl) r2 h3
    refine ⟨⟨h1, fun y hy => h2 y (by show y ∈ Sub.all (sa ++ sb); rw [Sub.all_append]; exact List.mem_append_left _ hy), i1⟩, ?_, i3, i4⟩
    intro x hx
    rw [Sub.all_cons] at hx
    rcases List.mem_append.1 hx with hx | hx
    · have := h1 x hx
      have := r1 mid (by simp)
      omega
    · exact i2 x hx
  | [], _, [], _, _, h, _, _ => by simp at h
  | [], _, _ :: _ :: _, _, _, h, _, _ => by simp at h
  | _ :: _, _, [], _, _, h, _, _ => by simp at h
theorem rise_take_drop {l : List Nat} (h : Rise l) {k : Nat} (hk : k < l.length) : (∀ x ∈ l.take k, x < l[k]) ∧ ∀ x ∈ l.drop k, l[k] ≤ x := by
  constructor
  · intro x hx
    obtain ⟨i, hi, rfl⟩ := List.getElem_of_mem hx
    simp only [List.length_take] at hi
    simpa using List.pairwise_iff_getElem.1 h i k (by omega) hk (by omega)
  · intro x hx
    obtain ⟨i, hi, rfl⟩ := List.getElem_of_mem hx
    simp only [List.length_drop] at hi
    rw [List.getElem_drop]
    rcases Nat.eq_zero_or_pos i with rfl | q
    · exact Nat.le_refl _
    · exact Nat.le_of_lt (List.pairwise_iff_getElem.1 h k (k + i) hk (by omega) (by omega))
theorem split_nt {g : Int → Nd → Prop} : ∀ {h : Nat} {d : Nd} {es : List Ent} {ps : List Int}, NT g h d es ps → ∀ {k : Nat}, 1 ≤ k → k + d.up < d.keys.length → ∃ e1 p1 e2 p2 mid, d.keys[k]? = some mid ∧ NT g h (d.front k) e1 p1 ∧ NT g h (d.back k) e2 p2 ∧ es = e1 ++ e2 ∧ ps = p1 ++ p2 ∧
    (∀ x ∈ e1, x.1 < mid) ∧ (∀ x ∈ e2, mid ≤ x.1) ∧ (d.front k).keys ≠ [] ∧ (d.back k).keys ≠ []
  | 0, d, es, ps, ⟨hl, p, e0, e00⟩, k, h1, h2 => by
    subst e0 e00
    have hv := valsLen p hl
    simp only [Nd.up, hl, if_true, Nat.add_zero] at h2
    have hrt := rise_take_drop p.rise h2
    have ef : (d.front k) = ⟨true, d.keys.take k, d.vals.take k, []⟩ := by simp [Nd.front, hl]
    have eb : (d.back k) = ⟨true, d.keys.drop k, d.vals.drop k, []⟩ := by simp [Nd.back, Nd.up, hl]
    have z1 : (d.keys.take k).zip (d.vals.take k) = d.ents.take k := (List.take_zipWith (f := Prod.mk)).symm
    have z2 : (d.keys.drop k).zip (d.vals.drop k) = d.ents.drop k := (List.drop_zipWith (f := Prod.mk)).symm
    refine ⟨(d.front k).ents, [], (d.back k).ents, [], d.keys[k], by simp [h2], ?_, ?_, ?_, rfl, ?_, ?_, ?_, ?_⟩
    · rw [ef]
      exact ⟨rfl, ⟨p.rise.sublist (List.take_sublist _ _), fun x hx => p.key x (List.mem_of_mem_take hx), fun x hx => p.val x (List.mem_of_mem_take hx), by simp, by simp [hv], rfl⟩, rfl, rfl⟩
    · rw [eb]
      exact ⟨rfl, ⟨p.rise.sublist (List.drop_sublist _ _), fun x hx => p.key x (List.mem_of_mem_drop hx), fun x hx => p.val x (List.mem_of_mem_drop hx), by simp, by simp [hv], rfl⟩, rfl, rfl⟩
    · rw [ef, eb]; show d.ents = (d.keys.take k).zip (d.vals.take k) ++ (d.keys.drop k).zip (d.vals.drop k); rw [z1, z2, List.take_append_drop]
    · intro x hx; rw [ef] at hx; exact hrt.1 _ (zip_fst_mem hx)
    · intro x hx; rw [eb] at hx; exact hrt.2 _ (zip_fst_mem hx)
    · rw [ef]; intro q; have := congrArg List.length q; simp only [List.length_take, List.length_nil] at this; omega
    · rw [eb]; intro q; have := congrArg List.length q; simp only [List.length_drop, List.length_nil] at this; omega
  | h + 1, d, es, ps, ⟨hl, p, ss, f, e0, e00, sp⟩, k, h1, h2 => by
    subst e0 e00
    have hk := kidsLen p hl
    simp only [Nd.up, hl, Bool.false_eq_true, if_false] at h2
    have hk2 : k < d.keys.length := by omega
    have ef : (d.front k) = ⟨false, d.keys.take k, [], d.kids.take (k + 1)⟩ := by simp [Nd.front, hl]
    have eb : (d.back k) = ⟨false, d.keys.drop (k + 1), [], d.kids.drop (k + 1)⟩ := by simp [Nd.back, Nd.up, hl]
    have f2 := f
    rw [← List.take_append_drop (k + 1) d.kids] at f2
    obtain ⟨sa, sb, rfl, fa, fb⟩ := f2.split
    have hr := p.rise
    rw [take_cons_drop hk2] at hr sp
    have hsa : sa.length = (d.keys.take k).length + 1 := by rw [← fa.len]; simp; omega
    obtain ⟨s1, s2, s3, s4⟩ := sep_mid hsa hr sp
    refine ⟨Sub.all sa, Sub.pages sa, Sub.all sb, Sub.pages sb, d.keys[k], by simp [hk2], ?_, ?_, Sub.all_append _ _, Sub.pages_append _ _, s2, s3, ?_, ?_⟩
    · rw [ef]
      exact nt_of (d := ⟨false, d.keys.take k, [], d.kids.take (k + 1)⟩) rfl rfl fa s1 (fun x hx => p.key x (List.mem_of_mem_take hx)) (fun x hx => p.kid x (List.mem_of_mem_take hx))
    · rw [eb]
      exact nt_of (d := ⟨false, d.keys.drop (k + 1), [], d.kids.drop (k + 1)⟩) rfl rfl fb s4 (fun x hx => p.key x (List.mem_of_mem_drop hx)) (fun x hx => p.kid x (List.mem_of_mem_drop hx))
    · rw [ef]; intro q; have := congrArg List.length q; simp only [List.length_take, List.length_nil] at this; omega
    · rw [eb]; intro q; have := congrArg List.length q; simp only [List.length_drop, List.length_nil] at this; omega

/-! ### Two nodes as one -/
/-! ### Two holes side by side -/
/-! ### How high a tree is -/
theorem OnP.high {g : Int → Nd → Prop} : ∀ {h : Nat} {k : Int} {s : Sub}, OnP g h k s → 2 ^ (h + 1) ≤ s.ps.length + 1
  | 0, k, s, ⟨d', ps', a1, a2, a3, a4, a5⟩ => by rw [a5]; simp
  | h + 1, k, s, ⟨d', ps', a1, a2, a3, ⟨l, p, ss, f, e, e2, sp⟩, a5⟩ => by
    have hk := sp.len
    have hne := a3 l
    have hlen : 1 ≤ d'.keys.length := by
      cases h0 : d'.keys with
      | nil => exact absurd h0 hne
      | cons => simp
    match ss, f with
    | [], _ => simp at hk
    | [_], _ => simp only [List.length_cons, List.length_nil] at hk; omega
    | s1 :: s2 :: ss, f =>
      have h1 := f.right (p := fun s => 2 ^ (h + 1) ≤ s.ps.length + 1) (fun k s o => OnP.high (h := h) o)
      have q1 : 2 ^ (h + 1) ≤ s1.ps.length + 1 := h1 s1 (by simp)
      have q2 : 2 ^ (h + 1) ≤ s2.ps.length + 1 := h1 s2 (by simp)
      have hz : s.ps.length = s1.ps.length + (s2.ps.length + (Sub.pages ss).length) + 1 := by rw [a5, e2, Sub.pages_cons, Sub.pages_cons]; simp only [List.length_cons, List.length_append]
      rw [Nat.pow_succ]
      omega

/-! ### Ways -/
structure Spot where
  pg : Int
  d : Nd
  i : Nat
def FitsP : List Spot → Nat → Prop
  | [], _ => True
  | s :: path, x => FitsAt s.d s.i x ∧ FitsP path x
/-- What stands beside a way, from its end upward. -/
def Way (g : Int → Nd → Prop) : List Spot → Nat → List Ent → List Ent → List Int → Prop
  | [], _, L, R, ps => L = [] ∧ R = [] ∧ ps = []
  | s :: path, h, L, R, ps => ∃ L' R' ps' sl sr, Way g path (h + 1) L' R' ps' ∧ g s.pg s.d ∧ Mid g h s.d s.i sl sr ∧ (∀ y ∈ Sub.all sl ++ Sub.all sr, FitsP path y.1) ∧ L = L' ++ Sub.all sl ∧ R = Sub.all sr ++ R' ∧ ps = s.pg :: (Sub.pages sl ++ (Sub.pages sr ++ ps'))
theorem Mid.same {g g' : Int → Nd → Prop} {h : Nat} {d : Nd} {i : Nat} {sl sr : List Sub} (m : Mid g h d i sl sr) (k : ∀ p ∈ Sub.pages sl ++ Sub.pages sr, ∀ d, g p d → g' p d) : Mid g' h d i sl sr :=
  ⟨m.good, m.leaf, m.ne, m.ile, onP_all m.ol fun p hp => k p (by simp [hp]), onP_all m.orr fun p hp => k p (by simp [hp]), m.spl, m.spr, m.lr⟩
theorem Way.same {g g' : Int → Nd → Prop} : ∀ {path : List Spot} {h : Nat} {L R : List Ent} {ps : List Int}, Way g path h L R ps → (∀ p ∈ ps, ∀ d, g p d → g' p d) → Way g' path h L R ps
  | [], _, _, _, _, w, _ => w
  | s :: path, h, L, R, ps, ⟨L', R', ps', sl, sr, w, a1, a2, a3, e1, e2, e3⟩, k => by
    subst e1 e2 e3
    exact ⟨L', R', ps', sl, sr, w.same (fun p hp => k p (by simp [hp])), k _ (by simp) _ a1, a2.same (fun p hp => k p (by simp only [List.mem_append] at hp; simp only [List.mem_cons, List.mem_append]; exact .inr (hp.elim .inl fun q => .inr (.inl q)))), a3, rfl, rfl, rfl⟩
theorem Way.lt {g : Int → Nd → Prop} : ∀ {path : List Spot} {h : Nat} {L R : List Ent} {ps : List Int}, Way g path h L R ps → ∀ {x : Nat}, FitsP path x → (∀ e ∈ L, e.1 < x) ∧ ∀ e ∈ R, x < e.1
  | [], _, _, _, _, ⟨rfl, rfl, rfl⟩, _, _ => ⟨by simp, by simp⟩
  | s :: path, h, L, R, ps, ⟨L', R', ps', sl, sr, w, a1, a2, a3, e1, e2, e3⟩, x, ⟨f1, f2⟩ => by
    subst e1 e2 e3
    obtain ⟨i1, i2⟩ := w.lt f2
    constructor
    · intro e he
      rcases List.mem_append.1 he with he | he
      · exact i1 e he
      · -- what stands to the left is below one of the keys
        have : ∀ {ks : List Nat} {ss : List Sub}, SepL ks ss → ∀ e ∈ Sub.all ss, ∃ k ∈ ks, e.1 < k := by
          intro ks
          induction ks with
          | nil => intro ss h e he; cases ss with
            | nil => simp [Sub.all] at he
            | cons => exact h.elim
          | cons k ks ih =>
            intro ss h e he
            cases ss with
            | nil => exact h.elim
            | cons s0 ss =>
              rw [Sub.all_cons] at he
              rcases List.mem_append.1 he with he | he
              · exact ⟨k, by simp, h.1 e he⟩
              · obtain ⟨k', h1, h2⟩ := ih h.2.2 e he
                exact ⟨k', by simp [h1], h2⟩
        obtain ⟨k, hk, h1⟩ := this a2.spl e he
        have := f1.1 k hk
        omega
    · intro e he
      rcases List.mem_append.1 he with he | he
      · have hsr := a2.spr
        cases hr : s.d.keys.drop s.i with
        | nil => rw [hr] at hsr; cases sr with
          | nil => simp [Sub.all] at he
          | cons => exact hsr.elim
        | cons k0 ks =>
          rw [hr] at hsr
          have h1 := hsr.1 e he
          have h2 := f1.2 k0 (by rw [hr]; simp)
          omega
      · exact i2 e he
end Go.Proofs.YtmfmommgooccnaaGreat
/- Package node: what looks at a node. -/
set_option maxRecDepth 20000
set_option linter.unusedVariables false
set_option linter.unusedSimpArgs false
namespace Go.Proofs.YtmfmommgooccnaaGreat
open Go.Proofs.YtmfmommgooccnaaGreat.SL

/-- Where a node's rows are. -/
structure Rw where
  p1 : Option Addr
  c1 : Nat
  p2 : Option Addr
  c2 : Nat
  p3 : Option Addr
  c3 : Nat
/-- A node's value. -/
abbrev ndA (d : Nd) (r : Rw) : Array Value := #[.bool d.leaf, .slice r.p1 d.keys.length r.c1, .slice r.p2 d.vals.length r.c2, .slice r.p3 d.kids.length r.c3]
abbrev ndV (d : Nd) (r : Rw) : Value := .agg (ndA d r)
abbrev NdsK (d : Nd) (r : Rw) (_ : Unit) : List SProp := [vec 30 1 r.p1 d.keys.length r.c1 (uV d.keys), vec 9 1 r.p2 d.vals.length r.c2 (d.vals.map encS), vec 3 1 r.p3 d.kids.length r.c3 (d.kids.map encZ')]
/-- A node's rows. -/
def Nds (d : Nd) (r : Rw) : SProp := hid (fun _ : Unit => True) (NdsK d r)

theorem sGet {l : List (List UInt8)} {k : Nat} (h : k < l.length) : (l.map encS)[0 + ((k : Nat) : Int).toNat * 1]? = some (.string (str (l.getD k []))) := by
  rw [Nat.zero_add, Nat.mul_one, Int.toNat_natCast]
  simp [List.getD, h, encS]
theorem uGet {l : List Nat} {k : Nat} (h : k < l.length) : (uV l)[0 + ((k : Nat) : Int).toNat * 1]? = some (.int .u64 (l.getD k 0 : Nat)) := by
  rw [Nat.zero_add, Nat.mul_one, Int.toNat_natCast]
  simp [List.getD, h, uV]
theorem iGet {l : List Int} {k : Nat} (h : k < l.length) : (l.map encZ')[0 + ((k : Nat) : Int).toNat * 1]? = some (.int .i64 (l.getD k 0)) := by
  rw [Nat.zero_add, Nat.mul_one, Int.toNat_natCast]
  simp [List.getD, h, encZ']

set_option maxHeartbeats 1000000 in
theorem ndSize_does (d : Nd) (r : Rw) (hf : d.fits) : Does Tryz.prog 112 [ndV d r] [Nds d r] (fun v H => v = .int .i64 d.size ∧ H = [Nds d r]) := by
  obtain ⟨f1, f2, f3, f4⟩ := hf
  obtain ⟨leaf, keys, vals, kids⟩ := d
  obtain ⟨p1, c1, p2, c2, p3, c3⟩ := r
  dsimp only at f1 f2 f3 f4 ⊢
  have e1 : IntKind.i64.wrap (8 * (keys.length : Int)) = 8 * (keys.length : Int) := wrapI64 (by omega)
  have e2 : IntKind.i64.wrap (1 + 8 * (keys.length : Int)) = ((1 + 8 * keys.length : Nat) : Int) := by rw [wrapI64 (by omega)]; omega
  have e3 : IntKind.i64.wrap (2 * (kids.length : Int)) = ((2 * kids.length : Nat) : Int) := by rw [wrapI64 (by omega)]; omega
  have e4 : IntKind.i64.wrap (((1 + 8 * keys.length : Nat) : Int) + ((2 * kids.length : Nat) : Int)) = ((1 + 8 * keys.length + 2 * kids.length : Nat) : Int) := by rw [wrapI64 (by omega)]; omega
  have e5 : IntKind.i64.wrap (((1 + 8 * keys.length : Nat) : Int) + (keys.length : Int)) = ((1 + 8 * keys.length + keys.length : Nat) : Int) := by rw [wrapI64 (by omega)]; omega
  cases leaf
  · refine does_of Tryz.func112 Tryz.ntmps112 rfl rfl rfl (fun w0 F0 => ?_)
    (repeat' (first | refine g_seq (h := ?_) | refine g_region (h := ?_) | refine l_nil (h := ?_) | refine n_then (h := ?_) | refine l_pures1 (h := ?_) | refine l_load (h := ?_) | (refine l_box (h := ?_); intro _) | refine g_ret (h := ?_) | refine n_then_ret (h := ?_) | refine g_cond_t (h := ?_)))
    rw [e1, e2, e3, e4]
    refine r_retk [Nds ⟨false, keys, vals, kids⟩ ⟨p1, c1, p2, c2, p3, c3⟩] ?_
    exact ⟨rfl, rfl⟩
  · refine does_of Tryz.func112 Tryz.ntmps112 rfl rfl rfl (fun w0 F0 => ?_)
    refine g_open (A := Nds ⟨true, keys, vals, kids⟩ ⟨p1, c1, p2, c2, p3, c3⟩) (h := ?_); (rintro _ _; dsimp only [NdsK, List.cons_append, List.nil_append])
    (repeat' (first | refine g_seq (h := ?_) | refine g_region (h := ?_) | refine l_nil (h := ?_) | refine n_then (h := ?_) | refine l_pures1 (h := ?_) | refine l_load (h := ?_) | (refine l_box (h := ?_); intro _) | refine g_skip (h := ?_) | refine g_block (h := ?_) | refine g_cond_f (h := ?_)))
    rw [e1, e2, e5]
    rename_i b
    (refine g_loop (fun k : Nat => [(28, .int .i64 k), (3, .int .i64 (1 + 8 * keys.length + keys.length + sumL (vals.take k) : Nat)), (27, .int .i64 vals.length), (26, .slice p2 vals.length c2)]) (fun _ => NdsK ⟨true, keys, vals, kids⟩ ⟨p1, c1, p2, c2, p3, c3⟩ ()) (fun k => k ≤ vals.length) (fun k => vals.length - k) (0) ?_ ?_ ?_ ?_; rotate_left; (repeat (first | refine ts_nil | (refine ts_cons rfl ?_ ?_; first | (with_reducible rfl) | rotate_left))); (first | (intro _ i; with_reducible refine i) | rotate_left); rotate_left; (try omega); rotate_right)
    · intro k hk
      dsimp only [NdsK]
      (repeat' (first | refine g_seq (h := ?_) | refine g_region (h := ?_) | refine l_nil (h := ?_) | refine n_then (h := ?_) | refine l_pures1 (h := ?_) | refine g_skip (h := ?_) | refine g_ret (h := ?_) | refine g_block (h := ?_) | refine g_exit (h := ?_) | refine n_then_exit (h := ?_) | refine n_block_hit (h := ?_) | (refine g_sp (h1 := ?_) (h0 := ?_) <;> intro h)))
      · have hlt : k < vals.length := by omega
        refine l_ptr (m := vals.length) (h := ?_); rintro g rfl hc
        have hg := sGet hlt
        have e6 := sumL_take_succ hlt
        have e7 := sumL_take_le vals (k + 1)
        (repeat' (first | refine g_region (h := ?_) | refine l_nil (h := ?_) | refine n_then (h := ?_) | refine l_pures1 (h := ?_) | refine l_indexAddr (h := ?_) | refine n_block (h := ?_) | refine l_load_vec (h := ?_)))
        (refine n_back (k + 1) ?_ ?_ ?_ ?_; rotate_left; rotate_left; (repeat (first | refine ts_nil | (refine ts_cons rfl ?_ ?_; first | (with_reducible rfl) | rotate_left))); (first | (intro _ i; with_reducible refine i) | rotate_left); (try omega); (try omega))
        · rw [wrapI64 (by omega)]; rfl
        · rw [e6]; refine congrArg (Value.int .i64) ((wrapI64 ?_).trans ?_) <;> (try constructor) <;> omega
      · obtain rfl : k = vals.length := by omega
        (refine n_shut (A := Nds ⟨true, keys, vals, kids⟩ ⟨p1, c1, p2, c2, p3, c3⟩) (K := NdsK ⟨true, keys, vals, kids⟩ ⟨p1, c1, p2, c2, p3, c3⟩ (())) (hid_shuts (()) trivial) (h := ?_) (p := by dsimp only [NdsK]; (try simp only [List.map_nil, List.length_nil, List.length_set, List.length_append, List.length_cons, List.length_singleton, List.map_append, List.map_cons, Nat.zero_add]); exact parts_of))
        refine r_retk [Nds ⟨true, keys, vals, kids⟩ ⟨p1, c1, p2, c2, p3, c3⟩] ?_
        exact ⟨by rw [List.take_length]; rfl, rfl⟩
    · rfl
    · simp [sumL]
    · (intro _ i; exact inv_keep parts_of i)

theorem Find_does (d : Nd) (r : Rw) (x : Nat) (hf : d.fits) (hs : Rise d.keys) : Does Tryz.prog 122 [ndV d r, .int .u64 x] [Nds d r]
    (fun v H => v = .tuple #[.int .i64 (if d.leaf then posN d.keys x else cntN d.keys x : Nat), .bool (if d.leaf then decide (x ∈ d.keys) else true)] ∧ H = [Nds d r]) := by
  have hk := hf.k
  have hp := posN_le d.keys x
  obtain ⟨leaf, keys, vals, kids⟩ := d
  obtain ⟨p1, c1, p2, c2, p3, c3⟩ := r
  dsimp only at hk hs hp ⊢
  cases leaf
  · refine does_of Tryz.func122 Tryz.ntmps122 rfl rfl rfl (fun w0 F0 => ?_)
    refine g_open (A := Nds ⟨false, keys, vals, kids⟩ ⟨p1, c1, p2, c2, p3, c3⟩) (h := ?_); (rintro _ _; dsimp only [NdsK, List.cons_append, List.nil_append])
    (repeat' (first | refine g_seq (h := ?_) | refine g_region (h := ?_) | refine l_nil (h := ?_) | refine n_then (h := ?_) | refine l_pures1 (h := ?_) | (refine l_atc ?_; refine l_call (place_does keys x p1 c1 (by omega) hs) ?_) | refine l_load (h := ?_) | (refine l_box (h := ?_); intro _) | refine g_skip (h := ?_) | refine g_ret (h := ?_) | refine g_cond_f (h := ?_) | (refine g_sp (h1 := ?_) (h0 := ?_) <;> intro h)))
    · (refine n_shut (A := Nds ⟨false, keys, vals, kids⟩ ⟨p1, c1, p2, c2, p3, c3⟩) (K := NdsK ⟨false, keys, vals, kids⟩ ⟨p1, c1, p2, c2, p3, c3⟩ (())) (hid_shuts (()) trivial) (h := ?_) (p := by dsimp only [NdsK]; (try simp only [List.map_nil, List.length_nil, List.length_set, List.length_append, List.length_cons, List.length_singleton, List.map_append, List.map_cons, Nat.zero_add]); exact parts_of))
      refine r_retk [Nds ⟨false, keys, vals, kids⟩ ⟨p1, c1, p2, c2, p3, c3⟩] ?_
      refine ⟨?_, rfl⟩
      rw [wrapI64 (by omega), if_neg (by simp), cntN, if_pos h]; rfl
    · (refine n_shut (A := Nds ⟨false, keys, vals, kids⟩ ⟨p1, c1, p2, c2, p3, c3⟩) (K := NdsK ⟨false, keys, vals, kids⟩ ⟨p1, c1, p2, c2, p3, c3⟩ (())) (hid_shuts (()) trivial) (h := ?_) (p := by dsimp only [NdsK]; (try simp only [List.map_nil, List.length_nil, List.length_set, List.length_append, List.length_cons, List.length_singleton, List.map_append, List.map_cons, Nat.zero_add]); exact parts_of))
      refine r_retk [Nds ⟨false, keys, vals, kids⟩ ⟨p1, c1, p2, c2, p3, c3⟩] ?_
      refine ⟨?_, rfl⟩
      rw [if_neg (by simp), cntN, if_neg h]; rfl
  · refine does_of Tryz.func122 Tryz.ntmps122 rfl rfl rfl (fun w0 F0 => ?_)
    refine g_open (A := Nds ⟨true, keys, vals, kids⟩ ⟨p1, c1, p2, c2, p3, c3⟩) (h := ?_); (rintro _ _; dsimp only [NdsK, List.cons_append, List.nil_append])
    (repeat' (first | refine g_seq (h := ?_) | refine g_region (h := ?_) | refine l_nil (h := ?_) | refine n_then (h := ?_) | refine l_pures1 (h := ?_) | (refine l_atc ?_; refine l_call (place_does keys x p1 c1 (by omega) hs) ?_) | refine l_load (h := ?_) | (refine l_box (h := ?_); intro _) | refine g_ret (h := ?_) | refine n_then_ret (h := ?_) | refine g_cond_t (h := ?_)))
    (refine n_shut (A := Nds ⟨true, keys, vals, kids⟩ ⟨p1, c1, p2, c2, p3, c3⟩) (K := NdsK ⟨true, keys, vals, kids⟩ ⟨p1, c1, p2, c2, p3, c3⟩ (())) (hid_shuts (()) trivial) (h := ?_) (p := by dsimp only [NdsK]; (try simp only [List.map_nil, List.length_nil, List.length_set, List.length_append, List.length_cons, List.length_singleton, List.map_append, List.map_cons, Nat.zero_add]); exact parts_of))
    refine r_retk [Nds ⟨true, keys, vals, kids⟩ ⟨p1, c1, p2, c2, p3, c3⟩] ?_
    exact ⟨rfl, rfl⟩

theorem long_does (s : List UInt8) (h : s.length ≤ 40) : Does Tryz.prog 228 [.string (str s)] [] (fun v H => v = .bool false ∧ H = []) := by
  refine does_of Tryz.func228 Tryz.ntmps228 rfl rfl rfl (fun w0 F0 => ?_)
  (repeat (first | refine g_seq (h := ?_) | refine g_region (h := ?_) | refine l_nil (h := ?_) | refine n_then (h := ?_) | refine l_pures1 (h := ?_) | refine g_ret (h := ?_)))
  refine r_ret ?_
  exact ⟨by rw [decide_eq_false (show ¬ (s.length : Int) > 40 by omega)]; rfl, rfl⟩
theorem wrong_does (k : Int) (h : 2 ≤ k ∧ k < 640) : Does Tryz.prog 229 [.int .i64 k] [] (fun v H => v = .bool false ∧ H = []) := by
  refine does_of Tryz.func229 Tryz.ntmps229 rfl rfl rfl (fun w0 F0 => ?_)
  (repeat' (first | refine g_seq (h := ?_) | refine g_region (h := ?_) | refine l_nil (h := ?_) | refine n_then (h := ?_) | refine l_pures1 (h := ?_) | refine l_guard_yes (h := ?_) | refine g_ret (h := ?_) | (refine l_spF (h := ?_); intro h)))
  refine r_ret ?_
  exact ⟨by rw [decide_eq_false (show ¬ (k : Int) ≥ 640 by omega)]; rfl, rfl⟩
theorem IndexS_does (l : List (List UInt8)) (p : Option Addr) (c : Nat) (hl : l.length < 100000) (hh : ∀ s ∈ l, s.length ≤ 40) : Does Tryz.prog 233 [.slice p l.length c, .func (.func 228) #[] #[]] [vec 9 1 p l.length c (l.map encS)]
    (fun v H => v = .int .i64 (-1) ∧ H = [vec 9 1 p l.length c (l.map encS)]) := by
  refine does_of Tryz.func233 Tryz.ntmps233 rfl rfl rfl (fun w0 F0 => ?_)
  (repeat' (first | refine g_seq (h := ?_) | refine g_region (h := ?_) | refine l_nil (h := ?_) | refine n_then (h := ?_) | refine l_pures1 (h := ?_) | refine g_block (h := ?_)))
  (refine g_loop (fun k : Nat => [(8, .int .i64 k), (7, .int .i64 l.length), (0, .slice p l.length c), (1, .func (.func 228) #[] #[])]) (fun _ => [vec 9 1 p l.length c (l.map encS)]) (fun k => k ≤ l.length) (fun k => l.length - k) (0) ?_ ?_ ?_ ?_; rotate_left; (repeat (first | refine ts_nil | (refine ts_cons rfl ?_ ?_; first | (with_reducible rfl) | rotate_left))); (first | (intro _ i; with_reducible refine i) | rotate_left); rotate_left; (try omega); rotate_right)
  · intro k hk
    (repeat' (first | refine g_seq (h := ?_) | refine g_region (h := ?_) | refine l_nil (h := ?_) | refine n_then (h := ?_) | refine l_pures1 (h := ?_) | refine g_skip (h := ?_) | refine g_ret (h := ?_) | refine g_block (h := ?_) | refine g_exit (h := ?_) | refine n_then_exit (h := ?_) | refine n_block_hit (h := ?_) | (refine g_sp (h1 := ?_) (h0 := ?_) <;> intro h)))
    · have hlt : k < l.length := by omega
      refine l_ptr (m := l.length) (h := ?_); rintro g rfl hc
      have hg := sGet hlt
      have hm : (l.getD k []).length ≤ 40 := by simp only [List.getD, List.getElem?_eq_getElem hlt, Option.getD_some]; exact hh _ (List.getElem_mem hlt)
      (repeat' (first | refine g_region (h := ?_) | refine l_nil (h := ?_) | refine n_then (h := ?_) | refine l_pures1 (h := ?_) | (refine l_atc ?_; refine l_call (long_does (l.getD k []) hm) ?_) | refine l_indexAddr (h := ?_) | refine g_skip (h := ?_) | refine n_block (h := ?_) | refine g_cond_f (h := ?_) | refine l_load_vec (h := ?_)))
      (refine n_back (k + 1) ?_ ?_ ?_ ?_; rotate_left; rotate_left; (repeat (first | refine ts_nil | (refine ts_cons rfl ?_ ?_; first | (with_reducible rfl) | rotate_left))); (first | (intro _ i; with_reducible refine i) | rotate_left); (try omega); (try omega))
      rw [wrapI64 (by omega)]; rfl
    · refine r_ret ?_
      exact ⟨rfl, rfl⟩
  · rfl
theorem IndexI_does (l : List Int) (p : Option Addr) (c : Nat) (hl : l.length < 100000) (hh : ∀ s ∈ l, 2 ≤ s ∧ s < 640) : Does Tryz.prog 234 [.slice p l.length c, .func (.func 229) #[] #[]] [vec 3 1 p l.length c (l.map encZ')]
    (fun v H => v = .int .i64 (-1) ∧ H = [vec 3 1 p l.length c (l.map encZ')]) := by
  refine does_of Tryz.func234 Tryz.ntmps234 rfl rfl rfl (fun w0 F0 => ?_)
  (repeat' (first | refine g_seq (h := ?_) | refine g_region (h := ?_) | refine l_nil (h := ?_) | refine n_then (h := ?_) | refine l_pures1 (h := ?_) | refine g_block (h := ?_)))
  (refine g_loop (fun k : Nat => [(8, .int .i64 k), (7, .int .i64 l.length), (0, .slice p l.length c), (1, .func (.func 229) #[] #[])]) (fun _ => [vec 3 1 p l.length c (l.map encZ')]) (fun k => k ≤ l.length) (fun k => l.length - k) (0) ?_ ?_ ?_ ?_; rotate_left; (repeat (first | refine ts_nil | (refine ts_cons rfl ?_ ?_; first | (with_reducible rfl) | rotate_left))); (first | (intro _ i; with_reducible refine i) | rotate_left); rotate_left; (try omega); rotate_right)
  · intro k hk
    (repeat' (first | refine g_seq (h := ?_) | refine g_region (h := ?_) | refine l_nil (h := ?_) | refine n_then (h := ?_) | refine l_pures1 (h := ?_) | refine g_skip (h := ?_) | refine g_ret (h := ?_) | refine g_block (h := ?_) | refine g_exit (h := ?_) | refine n_then_exit (h := ?_) | refine n_block_hit (h := ?_) | (refine g_sp (h1 := ?_) (h0 := ?_) <;> intro h)))
    · have hlt : k < l.length := by omega
      refine l_ptr (m := l.length) (h := ?_); rintro g rfl hc
      have hg := iGet hlt
      have hm : 2 ≤ l.getD k 0 ∧ l.getD k 0 < 640 := by simp only [List.getD, List.getElem?_eq_getElem hlt, Option.getD_some]; exact hh _ (List.getElem_mem hlt)
      (repeat' (first | refine g_region (h := ?_) | refine l_nil (h := ?_) | refine n_then (h := ?_) | refine l_pures1 (h := ?_) | (refine l_atc ?_; refine l_call (wrong_does (l.getD k 0) hm) ?_) | refine l_indexAddr (h := ?_) | refine g_skip (h := ?_) | refine n_block (h := ?_) | refine g_cond_f (h := ?_) | refine l_load_vec (h := ?_)))
      (refine n_back (k + 1) ?_ ?_ ?_ ?_; rotate_left; rotate_left; (repeat (first | refine ts_nil | (refine ts_cons rfl ?_ ?_; first | (with_reducible rfl) | rotate_left))); (first | (intro _ i; with_reducible refine i) | rotate_left); (try omega); (try omega))
      rw [wrapI64 (by omega)]; rfl
    · refine r_ret ?_
      exact ⟨rfl, rfl⟩
  · rfl
theorem ContainsS_does (l : List (List UInt8)) (p : Option Addr) (c : Nat) (hl : l.length < 100000) (hh : ∀ s ∈ l, s.length ≤ 40) : Does Tryz.prog 230 [.slice p l.length c, .func (.func 228) #[] #[]] [vec 9 1 p l.length c (l.map encS)]
    (fun v H => v = .bool false ∧ H = [vec 9 1 p l.length c (l.map encS)]) := by
  refine does_of Tryz.func230 Tryz.ntmps230 rfl rfl rfl (fun w0 F0 => ?_)
  (repeat (first | refine g_seq (h := ?_) | refine g_region (h := ?_) | refine l_nil (h := ?_) | refine n_then (h := ?_) | refine l_pures1 (h := ?_) | (refine l_atc ?_; refine l_call (IndexS_does l p c hl hh) ?_) | refine g_ret (h := ?_)))
  refine r_ret ?_
  exact ⟨rfl, rfl⟩
theorem ContainsI_does (l : List Int) (p : Option Addr) (c : Nat) (hl : l.length < 100000) (hh : ∀ s ∈ l, 2 ≤ s ∧ s < 640) : Does Tryz.prog 231 [.slice p l.length c, .func (.func 229) #[] #[]] [vec 3 1 p l.length c (l.map encZ')]
    (fun v H => v = .bool false ∧ H = [vec 3 1 p l.length c (l.map encZ')]) := by
  refine does_of Tryz.func231 Tryz.ntmps231 rfl rfl rfl (fun w0 F0 => ?_)
  (repeat (first | refine g_seq (h := ?_) | refine g_region (h := ?_) | refine l_nil (h := ?_) | refine n_then (h := ?_) | refine l_pures1 (h := ?_) | (refine l_atc ?_; refine l_call (IndexI_does l p c hl hh) ?_) | refine g_ret (h := ?_)))
  refine r_ret ?_
  exact ⟨rfl, rfl⟩
end Go.Proofs.YtmfmommgooccnaaGreat
/- Package node: is a node right? -/
set_option maxRecDepth 20000
set_option linter.unusedVariables false
set_option linter.unusedSimpArgs false
namespace Go.Proofs.YtmfmommgooccnaaGreat
open Go.Proofs.YtmfmommgooccnaaGreat.SL

set_option maxHeartbeats 2000000 in
theorem plain_tail (d : Nd) (r : Rw) (b : Nat) (g1 : Rise d.keys) (f1 : d.keys.length < 10000) (f2 : d.kids.length < 10000) (f3 : d.vals.length < 10000) (g3 : ∀ v ∈ d.vals, v.length ≤ 40) (g4 : ∀ i ∈ d.kids, 2 ≤ i ∧ i < 640) (w0 : World) (F0 : Nat → Prop) :
    G Tryz.prog 65 w0 F0 (csq 4 (bdy Tryz.f219)) (Post Tryz.prog Tryz.f219 w0 F0 fun v H => v = .bool true ∧ H = [Nds d r])
      [(1, .pointer (some ⟨b, 0, none⟩))] [] [cl b 176 (ndA d r).toList, Nds d r] := by
  obtain ⟨c, hc⟩ : ∃ c, c = csq 4 (bdy Tryz.f219) := ⟨_, rfl⟩
  rw [← hc]
  dsimp only [csq, bdy, Tryz.f219, Option.getD] at hc
  subst hc
  obtain ⟨leaf, keys, vals, kids⟩ := d
  obtain ⟨p1, c1, p2, c2, p3, c3⟩ := r
  dsimp only at *
  refine g_open (A := Nds ⟨leaf, keys, vals, kids⟩ ⟨p1, c1, p2, c2, p3, c3⟩) (h := ?_); (rintro _ _; dsimp only [NdsK, List.cons_append, List.nil_append])
  (repeat' (first | refine g_seq (h := ?_) | refine g_region (h := ?_) | refine l_nil (h := ?_) | refine n_then (h := ?_) | refine l_pures1 (h := ?_) | refine l_load (h := ?_) | refine g_block (h := ?_)))
  (refine g_loop (fun k : Nat => [(33, .int .i64 k), (32, .int .i64 keys.length), (31, .slice p1 keys.length c1), (1, .pointer (some ⟨b, 0, none⟩))]) (fun _ => cl b 176 (ndA ⟨leaf, keys, vals, kids⟩ ⟨p1, c1, p2, c2, p3, c3⟩).toList :: NdsK ⟨leaf, keys, vals, kids⟩ ⟨p1, c1, p2, c2, p3, c3⟩ ()) (fun k => k ≤ keys.length) (fun k => keys.length - k) (0) ?_ ?_ ?_ ?_; rotate_left; (repeat (first | refine ts_nil | (refine ts_cons rfl ?_ ?_; first | (with_reducible rfl) | rotate_left))); (first | (intro _ i; with_reducible refine i) | rotate_left); rotate_left; (try omega); rotate_right)
  · intro k hk
    dsimp only [NdsK]
    (repeat' (first | refine g_seq (h := ?_) | refine g_region (h := ?_) | refine l_nil (h := ?_) | refine n_then (h := ?_) | refine l_pures1 (h := ?_) | refine l_load (h := ?_) | refine g_skip (h := ?_) | refine g_block (h := ?_) | refine g_exit (h := ?_) | refine n_then_exit (h := ?_) | refine n_block_hit (h := ?_) | (refine g_sp (h1 := ?_) (h0 := ?_) <;> intro h)))
    · have hlt : k < keys.length := by omega
      refine g_ptr (m := keys.length) (h := ?_); rintro g rfl hc
      rcases Nat.eq_zero_or_pos k with rfl | hk0
      · (refine g_draw [cl _ _ _, vec _ _ _ _ _ _] (h := a_pass2 (h := ?_)))
        (repeat' (first | refine g_region (h := ?_) | refine l_nil (h := ?_) | refine n_then (h := ?_) | refine l_pures1 (h := ?_) | refine l_guard_no (h := ?_) | refine g_skip (h := ?_) | refine a_done (h := ?_) | refine a_one (h := ?_) | refine n_any (h := a_pass2 (h := ?_)) | refine a_no (h := ?_) | refine n_block (h := ?_) | refine g_cond_f (h := ?_)))
        (refine n_back (1) ?_ ?_ ?_ ?_; rotate_left; rotate_left; (repeat (first | refine ts_nil | (refine ts_cons rfl ?_ ?_; first | (with_reducible rfl) | rotate_left))); (first | (intro _ i; with_reducible refine i) | rotate_left); (try omega); (try omega))
        rw [wrapI64 (by omega)]; rfl
      · have ew : IntKind.i64.wrap ((k : Int) - 1) = ((k - 1 : Nat) : Int) := by rw [wrapI64 (by omega)]; omega
        have hg1 : (uV keys)[0 + (IntKind.i64.wrap ((k : Int) - 1)).toNat * 1]? = some (.int .u64 (keys.getD (k - 1) 0 : Nat)) := by rw [ew]; exact uGet (by omega)
        have hg2 := uGet hlt
        have hr : keys.getD (k - 1) 0 < keys.getD k 0 := g1.get (by omega) hlt
        (refine g_draw [cl _ _ _, vec 30 _ _ _ _ _] (h := a_pass2 (h := ?_)))
        (repeat' (first | refine g_region (h := ?_) | refine l_nil (h := ?_) | refine n_then (h := ?_) | refine l_pures1 (h := ?_) | refine l_guard_yes (h := ?_) | refine l_indexAddr (h := ?_) | refine g_skip (h := ?_) | refine a_done (h := ?_) | refine a_one (h := ?_) | refine n_any (h := a_pass2 (h := ?_)) | refine a_loadg (h := a_pass2 (h := ?_)) | refine a_vg (h := ?_) | refine n_block (h := ?_) | refine l_load_vec (h := ?_) | refine a_loadg_vec (h := a_pass2 (h := ?_)) | (refine a_spT (h := ?_); intro h) | (refine g_spF (h := ?_); intro h)))
        (refine n_back (k + 1) ?_ ?_ ?_ ?_; rotate_left; rotate_left; (repeat (first | refine ts_nil | (refine ts_cons rfl ?_ ?_; first | (with_reducible rfl) | rotate_left))); (first | (intro _ i; with_reducible refine i) | rotate_left); (try omega); (try omega))
        rw [wrapI64 (by omega)]; rfl
    · (repeat' (first | refine l_nil (h := ?_) | refine n_then (h := ?_) | refine l_pures1 (h := ?_) | (refine l_atc ?_; refine l_call (ContainsS_does vals p2 c2 (by omega) g3) ?_) | (refine l_atc ?_; refine l_call (ContainsI_does kids p3 c3 (by omega) g4) ?_) | refine l_guard_yes (h := ?_) | refine l_load (h := ?_) | refine g_ret (h := ?_)))
      (refine n_shut (A := Nds ⟨leaf, keys, vals, kids⟩ ⟨p1, c1, p2, c2, p3, c3⟩) (K := NdsK ⟨leaf, keys, vals, kids⟩ ⟨p1, c1, p2, c2, p3, c3⟩ (())) (hid_shuts (()) trivial) (h := ?_) (p := by dsimp only [NdsK]; (try simp only [List.map_nil, List.length_nil, List.length_set, List.length_append, List.length_cons, List.length_singleton, List.map_append, List.map_cons, Nat.zero_add]); exact parts_of))
      refine r_retk [Nds ⟨leaf, keys, vals, kids⟩ ⟨p1, c1, p2, c2, p3, c3⟩] ?_
      exact ⟨rfl, rfl⟩
  · rfl
  · (intro _ i; exact inv_keep parts_of i)
set_option maxHeartbeats 2000000 in
theorem plain_does (d : Nd) (r : Rw) (hd : d.plain) (hf : d.fits) : Does Tryz.prog 219 [ndV d r] [Nds d r] (fun v H => v = .bool true ∧ H = [Nds d r]) := by
  obtain ⟨g1, g2, g3, g4, g5, g6⟩ := hd
  obtain ⟨f1, f2, f3, f4⟩ := hf
  have tail := fun b => plain_tail d r b g1 f1 f2 f3 g3 g4
  obtain ⟨leaf, keys, vals, kids⟩ := d
  obtain ⟨p1, c1, p2, c2, p3, c3⟩ := r
  dsimp only at g1 g2 g3 g4 g5 g6 f1 f2 f3 f4
  cases leaf
  · simp only [Bool.false_eq_true, if_false] at g5 g6
    have e1 : IntKind.i64.wrap ((keys.length : Int) + 1) = (kids.length : Int) := by rw [wrapI64 (by omega)]; omega
    have e2 : (vals.length : Int) = 0 := by omega
    refine does_of Tryz.func219 Tryz.ntmps219 rfl rfl rfl (fun w0 F0 => ?_)
    (repeat' (first | refine g_seq (h := ?_) | refine g_region (h := ?_) | refine l_nil (h := ?_) | refine n_then (h := ?_) | refine l_pures1 (h := ?_) | refine l_load (h := ?_) | (refine l_box (h := ?_); intro _) | refine g_cond_t (h := ?_)))
    (refine g_draw [cl _ _ _] (h := a_pass2 (h := ?_)))
    (repeat' (first | ((with_reducible show G _ _ _ _ (Code.seq (Code.seq (Code.region 6 _ _) _) _) _ _ _ _); exact g_bang (tail _ w0 F0)) | refine g_seq (h := ?_) | refine g_region (h := ?_) | refine l_nil (h := ?_) | refine n_then (h := ?_) | refine l_pures1 (h := ?_) | refine l_guard_yes (h := ?_) | refine l_load (h := ?_) | refine g_skip (h := ?_) | refine a_done (h := ?_) | refine a_load (h := a_pass2 (h := ?_)) | (refine l_spF (h := ?_); intro h) | (refine g_spF (h := ?_); intro h)))
  · simp only [if_true] at g5 g6
    have e1 : (vals.length : Int) = keys.length := by omega
    have e2 : (kids.length : Int) = 0 := by omega
    refine does_of Tryz.func219 Tryz.ntmps219 rfl rfl rfl (fun w0 F0 => ?_)
    (repeat' (first | ((with_reducible show G _ _ _ _ (Code.seq (Code.seq (Code.region 6 _ _) _) _) _ _ _ _); exact g_bang (tail _ w0 F0)) | refine g_seq (h := ?_) | refine g_region (h := ?_) | refine l_nil (h := ?_) | refine n_then (h := ?_) | refine l_pures1 (h := ?_) | refine l_guard_yes (h := ?_) | refine l_load (h := ?_) | (refine l_box (h := ?_); intro _) | refine g_skip (h := ?_) | refine g_cond_f (h := ?_) | (refine l_spF (h := ?_); intro h) | (refine g_spF (h := ?_); intro h)))
theorem Right_does (d : Nd) (r : Rw) (hd : d.good) : Does Tryz.prog 199 [ndV d r] [Nds d r] (fun v H => v = .bool true ∧ H = [Nds d r]) := by
  have hf := hd.fits
  have hs := hd.size
  have h1 := hd.some
  have hp := plain_does d r hd.p hf
  have hz := ndSize_does d r hf
  have hk := hf.k
  obtain ⟨leaf, keys, vals, kids⟩ := d
  dsimp only at h1 hk
  cases leaf
  · refine does_of Tryz.func199 Tryz.ntmps199 rfl rfl rfl (fun w0 F0 => ?_)
    (repeat' (first | refine g_seq (h := ?_) | refine g_region (h := ?_) | refine l_nil (h := ?_) | refine n_then (h := ?_) | refine l_pures1 (h := ?_) | (refine l_atc ?_; refine l_call (hp) ?_) | (refine l_atc ?_; refine l_call (hz) ?_) | refine l_guard_yes (h := ?_) | refine l_guard_no (h := ?_) | refine l_load (h := ?_) | (refine l_box (h := ?_); intro _) | refine g_ret (h := ?_)))
    refine r_retk [Nds ⟨false, keys, vals, kids⟩ r] ?_
    exact ⟨by rw [decide_eq_true (by omega)]; rfl, rfl⟩
  · have h2 := h1 rfl
    refine does_of Tryz.func199 Tryz.ntmps199 rfl rfl rfl (fun w0 F0 => ?_)
    (repeat' (first | refine g_seq (h := ?_) | refine g_region (h := ?_) | refine l_nil (h := ?_) | refine n_then (h := ?_) | refine l_pures1 (h := ?_) | (refine l_atc ?_; refine l_call (hp) ?_) | (refine l_atc ?_; refine l_call (hz) ?_) | refine l_guard_yes (h := ?_) | refine l_load (h := ?_) | (refine l_box (h := ?_); intro _) | refine g_ret (h := ?_) | (refine l_spT (h := ?_); intro h)))
    refine r_retk [Nds ⟨true, keys, vals, kids⟩ r] ?_
    exact ⟨by rw [decide_eq_true (by omega)]; rfl, rfl⟩
end Go.Proofs.YtmfmommgooccnaaGreat
/- Package node: a node's text, and back. -/
set_option maxRecDepth 20000
set_option linter.unusedVariables false
set_option linter.unusedSimpArgs false
namespace Go.Proofs.YtmfmommgooccnaaGreat
open Go.Proofs.YtmfmommgooccnaaGreat.SL

theorem numTake_put {n s : Nat} {r : List UInt8} (hs : 1 ≤ s ∧ s ≤ 8) (hn : n < 256 ^ s) : numTake (putN n s ++ r) s = (n, r, 0) := by
  have hl := putN_length s n
  rw [numTake, if_neg (by omega), if_neg (by rw [List.length_append, hl]; omega), Int.toNat_natCast, List.take_left' hl, List.drop_left' hl, getN_putN s n hn]
theorem rdNumber_does (rb n s : Nat) (r : List UInt8) (bad : Bool) (hs : 1 ≤ s ∧ s ≤ 8) (hn : n < 256 ^ s) (hr : r.length < 1000000) : Does Tryz.prog 203 [.pointer (some ⟨rb, 0, none⟩), .int .i64 s] [cl rb 292 [.string (str (putN n s ++ r)), .bool bad]]
    (fun v H => v = .int .u64 n ∧ H = [cl rb 292 [.string (str r), .bool bad]]) := by
  have hl := putN_length s n
  have ht := Take_does (putN n s ++ r) s (by omega) (by rw [List.length_append, hl]; omega)
  rw [numTake_put hs hn] at ht
  refine does_of Tryz.func203 Tryz.ntmps203 rfl rfl rfl (fun w0 F0 => ?_)
  cases bad
  · (repeat' (first | refine g_seq (h := ?_) | refine g_region (h := ?_) | refine l_nil (h := ?_) | refine n_then (h := ?_) | refine l_pures1 (h := ?_) | (refine l_atc ?_; refine l_call (ht) ?_) | refine l_guard_yes (h := ?_) | refine l_load (h := ?_) | refine l_store (h := ?_) | refine g_ret (h := ?_)))
    refine r_ret ?_
    exact ⟨rfl, rfl⟩
  · (repeat' (first | refine g_seq (h := ?_) | refine g_region (h := ?_) | refine l_nil (h := ?_) | refine n_then (h := ?_) | refine l_pures1 (h := ?_) | (refine l_atc ?_; refine l_call (ht) ?_) | refine l_guard_no (h := ?_) | refine l_load (h := ?_) | refine l_store (h := ?_) | refine g_ret (h := ?_)))
    refine r_ret ?_
    exact ⟨rfl, rfl⟩
theorem rdText_does (rb : Nat) (s r : List UInt8) (bad : Bool) (hs : s.length ≤ 255) (hr : r.length < 1000000) : Does Tryz.prog 204 [.pointer (some ⟨rb, 0, none⟩)] [cl rb 292 [.string (str (UInt8.ofNat s.length :: (s ++ r))), .bool bad]]
    (fun v H => v = .string (str s) ∧ H = [cl rb 292 [.string (str r), .bool bad]]) := by
  have ht := TakeText_does s r hs hr
  refine does_of Tryz.func204 Tryz.ntmps204 rfl rfl rfl (fun w0 F0 => ?_)
  cases bad
  · (repeat' (first | refine g_seq (h := ?_) | refine g_region (h := ?_) | refine l_nil (h := ?_) | refine n_then (h := ?_) | refine l_pures1 (h := ?_) | (refine l_atc ?_; refine l_call (ht) ?_) | refine l_guard_yes (h := ?_) | refine l_load (h := ?_) | refine l_store (h := ?_) | refine g_ret (h := ?_)))
    refine r_ret ?_
    exact ⟨rfl, rfl⟩
  · (repeat' (first | refine g_seq (h := ?_) | refine g_region (h := ?_) | refine l_nil (h := ?_) | refine n_then (h := ?_) | refine l_pures1 (h := ?_) | (refine l_atc ?_; refine l_call (ht) ?_) | refine l_guard_no (h := ?_) | refine l_load (h := ?_) | refine l_store (h := ?_) | refine g_ret (h := ?_)))
    refine r_ret ?_
    exact ⟨rfl, rfl⟩

theorem encNumber_does (b n s : Nat) (l : List UInt8) (hs : 1 ≤ s ∧ s ≤ 8) (hn : n < 256 ^ s) (hl : l.length < 100000) : Does Tryz.prog 200 [.int .u64 n, .int .i64 s, .pointer (some ⟨b, 0, none⟩)] [Bld b l] (fun v H => v = .tuple #[] ∧ H = [Bld b (l ++ putN n s)]) := by
  have h8 : (256 : Nat) ^ s ≤ 256 ^ 8 := Nat.pow_le_pow_right (by omega) hs.2
  have hp := Put_does n s (by omega) (by omega)
  have e : numPut n s = (putN n s, 0) := by rw [numPut, if_neg (by omega), Int.toNat_natCast, if_pos hn]
  rw [e] at hp
  have hw := bWriteString_does b l (putN n s) (by rw [putN_length]; omega)
  refine does_of Tryz.func200 Tryz.ntmps200 rfl rfl rfl (fun w0 F0 => ?_)
  (repeat' (first | refine g_seq (h := ?_) | refine g_region (h := ?_) | refine l_nil (h := ?_) | refine n_then (h := ?_) | refine l_pures1 (h := ?_) | (refine l_atc ?_; refine l_call (hp) ?_) | (refine l_atc ?_; refine l_call_ (hw) ?_; rintro _ _ _ ⟨_, rfl⟩ he; cases he)))
  refine r_end ?_
  exact ⟨rfl, rfl⟩

theorem encNum2 (b n : Nat) (l : List UInt8) (hn : n < 256 ^ 2) (hl : l.length < 100000) : Does Tryz.prog 200 [.int .u64 n, .int .i64 2, .pointer (some ⟨b, 0, none⟩)] [Bld b l] (fun v H => v = .tuple #[] ∧ H = [Bld b (l ++ putN n 2)]) := encNumber_does b n 2 l (by omega) hn hl
theorem encNum8 (b n : Nat) (l : List UInt8) (hn : n < 256 ^ 8) (hl : l.length < 100000) : Does Tryz.prog 200 [.int .u64 n, .int .i64 8, .pointer (some ⟨b, 0, none⟩)] [Bld b l] (fun v H => v = .tuple #[] ∧ H = [Bld b (l ++ putN n 8)]) := encNumber_does b n 8 l (by omega) hn hl
theorem rdNum1 (rb n : Nat) (r : List UInt8) (bad : Bool) (hn : n < 256 ^ 1) (hr : r.length < 1000000) : Does Tryz.prog 203 [.pointer (some ⟨rb, 0, none⟩), .int .i64 1] [cl rb 292 [.string (str (putN n 1 ++ r)), .bool bad]]
    (fun v H => v = .int .u64 n ∧ H = [cl rb 292 [.string (str r), .bool bad]]) := rdNumber_does rb n 1 r bad (by omega) hn hr
theorem rdNum2 (rb n : Nat) (r : List UInt8) (bad : Bool) (hn : n < 256 ^ 2) (hr : r.length < 1000000) : Does Tryz.prog 203 [.pointer (some ⟨rb, 0, none⟩), .int .i64 2] [cl rb 292 [.string (str (putN n 2 ++ r)), .bool bad]]
    (fun v H => v = .int .u64 n ∧ H = [cl rb 292 [.string (str r), .bool bad]]) := rdNumber_does rb n 2 r bad (by omega) hn hr
theorem rdNum8 (rb n : Nat) (r : List UInt8) (bad : Bool) (hn : n < 256 ^ 8) (hr : r.length < 1000000) : Does Tryz.prog 203 [.pointer (some ⟨rb, 0, none⟩), .int .i64 8] [cl rb 292 [.string (str (putN n 8 ++ r)), .bool bad]]
    (fun v H => v = .int .u64 n ∧ H = [cl rb 292 [.string (str r), .bool bad]]) := rdNumber_does rb n 8 r bad (by omega) hn hr
theorem kid_lt {i : Int} (h : 2 ≤ i ∧ i < 640) : i.toNat < 256 ^ 2 := by omega
theorem wrapKid {i : Int} (h : 2 ≤ i ∧ i < 640) : IntKind.u64.wrap i = ((i.toNat : Nat) : Int) := by rw [IntKind.wrap_u64]; omega
set_option maxHeartbeats 2000000 in
theorem Encode_does (d : Nd) (r : Rw) (hd : d.good) : Does Tryz.prog 181 [ndV d r] [Nds d r] (fun v H => v = .tuple #[.string (str d.text), .int .i64 0] ∧ H = [Nds d r]) := by
  have hf := hd.fits
  have hR := Right_does d r hd
  have hs := hd.size
  have htl := d.text_len hd.p
  have hpl : ∀ j, j ≤ d.keys.length → d.headT.length + (d.partT 0 j).length ≤ 240 := by
    intro j hj
    have h1 := Nd.partT_len hj (fun hl => valsLen hd.p hl)
    have h2 := Nd.partT_len (Nat.le_refl d.keys.length) (fun hl => valsLen hd.p hl)
    rw [Nd.text, List.length_append] at htl
    have h3 := sumL_take_le d.vals j
    have h4 : d.leaf = true → d.vals.take d.keys.length = d.vals := fun hl => by rw [← valsLen hd.p hl, List.take_length]
    cases hl : d.leaf
    · simp only [hl, Bool.false_eq_true, if_false] at h1 h2; omega
    · rw [h4 hl] at h2
      simp only [hl, if_true] at h1 h2; omega
  have htx : d.text = d.headT ++ d.partT 0 d.keys.length := rfl
  have hsn := d.partT_snoc
  have hpn : d.partT 0 0 = [] := rfl
  have hent : d.entT = fun i => putN (d.keys.getD i 0) 8 ++ if d.leaf then UInt8.ofNat (d.vals.getD i []).length :: d.vals.getD i [] else putN (d.kids.getD (i + 1) 0).toNat 2 := rfl
  have hhead : d.headT = if d.leaf then [1] else 2 :: putN (d.kids.getD 0 0).toNat 2 := rfl
  generalize d.headT = hd0 at *
  generalize d.text = tx at *
  obtain ⟨⟨g1, g2, g3, g4, g5, g6⟩, g7, g8⟩ := hd
  obtain ⟨f1, f2, f3, f4⟩ := hf
  generalize hpt : d.partT = pt at *
  generalize d.entT = en at *
  clear hpt
  obtain ⟨leaf, keys, vals, kids⟩ := d
  obtain ⟨p1, c1, p2, c2, p3, c3⟩ := r
  dsimp only at g1 g2 g3 g4 g5 g6 g7 f1 f2 f3 f4 hpl htx hsn hent hhead
  have hw1 : ∀ b, Does Tryz.prog 201 [.pointer (some ⟨b, 0, none⟩), .int .u8 1] [Bld b []] (fun v H => (∃ x, v = x) ∧ H = [Bld b ([] ++ [1])]) := fun b => bWriteByte_does b [] 1 (by simp)
  have hw2 : ∀ b, Does Tryz.prog 201 [.pointer (some ⟨b, 0, none⟩), .int .u8 2] [Bld b []] (fun v H => (∃ x, v = x) ∧ H = [Bld b ([] ++ [2])]) := fun b => bWriteByte_does b [] 2 (by simp)
  have hp0 : pt 0 0 = [] := hpn
  cases leaf
  · simp only [Bool.false_eq_true, if_false] at g5 g6 hhead hent
    have hk0 : 2 ≤ kids.getD 0 0 ∧ kids.getD 0 0 < 640 := g4 _ (getD_mem (by omega))
    refine does_of Tryz.func181 Tryz.ntmps181 rfl rfl rfl (fun w0 F0 => ?_)
    (repeat' (first | refine g_seq (h := ?_) | refine g_region (h := ?_) | refine l_nil (h := ?_) | refine n_then (h := ?_) | refine l_pures1 (h := ?_) | (refine l_atc ?_; refine l_call (hR) ?_) | refine l_load (h := ?_) | (refine l_box (h := ?_); intro _) | (refine l_alloc (h := ?_); intro _) | refine g_skip (h := ?_) | refine g_cond_f (h := ?_)))
    rename_i b1 b2
    refine l_inv (fun i => vec_nil (5) (1) i) ?_
    (refine l_shut (A := Bld b2 []) (K := BldK b2 [] (((none : Option Addr), (none : Option Addr), 0))) (hid_shuts (((none : Option Addr), (none : Option Addr), 0)) (Or.inl rfl)) (h := ?_) (p := by dsimp only [BldK]; (try simp only [List.map_nil, List.length_nil, List.length_set, List.length_append, List.length_cons, List.length_singleton, List.map_append, List.map_cons, Nat.zero_add, bsV]); exact parts_of))
    refine l_open (A := Nds ⟨false, keys, vals, kids⟩ ⟨p1, c1, p2, c2, p3, c3⟩) (h := ?_); (rintro _ _; dsimp only [NdsK, List.cons_append, List.nil_append])
    refine l_ptr (m := kids.length) (h := ?_); rintro g rfl hc
    have hg0 : (kids.map encZ')[0 + Int.toNat 0 * 1]? = some (.int .i64 (kids.getD 0 0)) := iGet (k := 0) (by omega)
    (repeat' (first | refine g_region (h := ?_) | refine l_nil (h := ?_) | refine n_then (h := ?_) | refine l_pures1 (h := ?_) | (refine l_atc ?_; refine l_call_ (hw2 _) ?_; rintro _ _ _ ⟨_, rfl⟩ he; cases he) | refine l_load (h := ?_) | refine l_indexAddr (h := ?_) | refine l_load_vec (h := ?_)))
    rw [wrapKid hk0]
    (repeat' (first | refine g_seq (h := ?_) | refine g_region (h := ?_) | refine l_nil (h := ?_) | refine n_then (h := ?_) | refine l_pures1 (h := ?_) | (refine l_atc ?_; refine l_call (encNum2 b2 (kids.getD 0 0).toNat ([] ++ [2]) (kid_lt hk0) (by simp)) ?_) | refine l_load (h := ?_) | refine g_block (h := ?_)))
    rw [show [] ++ [2] ++ putN (kids.getD 0 0).toNat 2 = hd0 from by rw [hhead]; rfl]
    (refine g_loop (fun j : Nat => [(28, .int .i64 j), (27, .int .i64 keys.length), (26, .slice p1 keys.length c1), (1, .pointer (some ⟨b1, 0, none⟩)), (4, .pointer (some ⟨b2, 0, none⟩)), (5, .func (.func 200) #[] #[.pointer (some ⟨b2, 0, none⟩)])]) (fun j => Bld b2 (hd0 ++ pt 0 j) :: cl b1 176 [.bool false, .slice p1 keys.length c1, .slice p2 vals.length c2, .slice (some ⟨g, 0, none⟩) kids.length c3] :: NdsK ⟨false, keys, vals, kids⟩ ⟨p1, c1, p2, c2, some ⟨g, 0, none⟩, c3⟩ ()) (fun j => j ≤ keys.length) (fun j => keys.length - j) (0) ?_ ?_ ?_ ?_; rotate_left; (repeat (first | refine ts_nil | (refine ts_cons rfl ?_ ?_; first | (with_reducible rfl) | rotate_left))); (first | (intro _ i; with_reducible refine i) | rotate_left); rotate_left; (try omega); rotate_right)
    · intro j hj
      dsimp only [NdsK]
      have hpj := hpl j hj
      (repeat' (first | refine g_seq (h := ?_) | refine g_region (h := ?_) | refine l_nil (h := ?_) | refine n_then (h := ?_) | refine l_pures1 (h := ?_) | refine g_skip (h := ?_) | refine g_block (h := ?_) | refine g_exit (h := ?_) | refine n_then_exit (h := ?_) | refine n_block_hit (h := ?_) | (refine g_sp (h1 := ?_) (h0 := ?_) <;> intro h)))
      · have hlt : j < keys.length := by omega
        refine l_ptr (m := keys.length) (h := ?_); rintro g1' rfl hc1
        have hg := uGet hlt
        have hgk := iGet (l := kids) (k := j + 1) (by omega)
        have hk := g4 _ (getD_mem (l := kids) (i := j + 1) (z := 0) (by omega))
        have hkey := g2 _ (getD_mem (l := keys) (i := j) (z := 0) hlt)
        have ew : IntKind.i64.wrap ((j : Int) + 1) = ((j + 1 : Nat) : Int) := by rw [wrapI64 (by omega)]; rfl
        (repeat' (first | refine g_seq (h := ?_) | refine g_region (h := ?_) | refine l_nil (h := ?_) | refine n_then (h := ?_) | refine l_pures1 (h := ?_) | (refine l_atc ?_; refine l_call (encNum8 b2 (keys.getD j 0) (hd0 ++ pt 0 j) (by omega) (by rw [List.length_append]; omega)) ?_) | refine l_load (h := ?_) | refine l_indexAddr (h := ?_) | refine g_skip (h := ?_) | refine g_cond_f (h := ?_) | refine l_load_vec (h := ?_)))
        rw [ew]
        (repeat' (first | refine l_pures1 (h := ?_) | refine l_load_vec (h := ?_)))
        rw [wrapKid hk]
        (repeat' (first | refine g_region (h := ?_) | refine l_nil (h := ?_) | refine n_then (h := ?_) | refine l_pures1 (h := ?_) | (refine l_atc ?_; refine l_call (encNum2 b2 (kids.getD (j + 1) 0).toNat (hd0 ++ pt 0 j ++ putN (keys.getD j 0) 8) (kid_lt hk) (by rw [List.length_append, List.length_append, putN_length]; omega)) ?_) | refine n_block (h := ?_)))
        have e2 : hd0 ++ pt 0 j ++ putN (keys.getD j 0) 8 ++ putN (kids.getD (j + 1) 0).toNat 2 = hd0 ++ pt 0 (j + 1) := by rw [hsn, hent]; simp
        rw [e2]
        (refine n_back (j + 1) ?_ ?_ ?_ ?_; rotate_left; rotate_left; (repeat (first | refine ts_nil | (refine ts_cons rfl ?_ ?_; first | (with_reducible rfl) | rotate_left))); (first | (intro _ i; with_reducible refine i) | rotate_left); (try omega); (try omega))
        · rw [ew]
        all_goals (intro _ i; exact inv_keep parts_of i)
      · obtain rfl : j = keys.length := by omega
        (repeat' (first | refine l_nil (h := ?_) | refine n_then (h := ?_) | refine l_pures1 (h := ?_) | (refine l_atc ?_; refine l_call (bString_does b2 (hd0 ++ pt 0 keys.length) (by rw [hhead]; simp)) ?_) | refine g_ret (h := ?_)))
        (refine n_shut (A := Nds ⟨false, keys, vals, kids⟩ ⟨p1, c1, p2, c2, some ⟨g, 0, none⟩, c3⟩) (K := NdsK ⟨false, keys, vals, kids⟩ ⟨p1, c1, p2, c2, some ⟨g, 0, none⟩, c3⟩ (())) (hid_shuts (()) trivial) (h := ?_) (p := by dsimp only [NdsK]; (try simp only [List.map_nil, List.length_nil, List.length_set, List.length_append, List.length_cons, List.length_singleton, List.map_append, List.map_cons, Nat.zero_add]); exact parts_of))
        refine r_retk [Nds ⟨false, keys, vals, kids⟩ ⟨p1, c1, p2, c2, some ⟨g, 0, none⟩, c3⟩] ?_
        exact ⟨by rw [htx]; rfl, rfl⟩
    · rfl
    · rw [hp0, List.append_nil]
      (intro _ i; exact inv_keep parts_of i)
  · simp only [if_true] at g5 g6 hhead hent
    refine does_of Tryz.func181 Tryz.ntmps181 rfl rfl rfl (fun w0 F0 => ?_)
    (repeat' (first | refine g_seq (h := ?_) | refine g_region (h := ?_) | refine l_nil (h := ?_) | refine n_then (h := ?_) | refine l_pures1 (h := ?_) | (refine l_atc ?_; refine l_call (hR) ?_) | refine l_load (h := ?_) | (refine l_box (h := ?_); intro _) | (refine l_alloc (h := ?_); intro _) | refine g_skip (h := ?_) | refine g_cond_t (h := ?_) | refine g_cond_f (h := ?_)))
    rename_i b1 b2
    refine l_inv (fun i => vec_nil (5) (1) i) ?_
    (refine l_shut (A := Bld b2 []) (K := BldK b2 [] (((none : Option Addr), (none : Option Addr), 0))) (hid_shuts (((none : Option Addr), (none : Option Addr), 0)) (Or.inl rfl)) (h := ?_) (p := by dsimp only [BldK]; (try simp only [List.map_nil, List.length_nil, List.length_set, List.length_append, List.length_cons, List.length_singleton, List.map_append, List.map_cons, Nat.zero_add, bsV]); exact parts_of))
    refine l_open (A := Nds ⟨true, keys, vals, kids⟩ ⟨p1, c1, p2, c2, p3, c3⟩) (h := ?_); (rintro _ _; dsimp only [NdsK, List.cons_append, List.nil_append])
    (repeat' (first | refine g_seq (h := ?_) | refine g_region (h := ?_) | refine l_nil (h := ?_) | refine n_then (h := ?_) | refine l_pures1 (h := ?_) | (refine l_atc ?_; refine l_call_ (hw1 _) ?_; rintro _ _ _ ⟨_, rfl⟩ he; cases he) | refine l_load (h := ?_) | refine g_block (h := ?_)))
    rw [show ([] : List UInt8) ++ [1] = hd0 from by rw [hhead]; rfl]
    (refine g_loop (fun j : Nat => [(28, .int .i64 j), (27, .int .i64 keys.length), (26, .slice p1 keys.length c1), (1, .pointer (some ⟨b1, 0, none⟩)), (4, .pointer (some ⟨b2, 0, none⟩)), (5, .func (.func 200) #[] #[.pointer (some ⟨b2, 0, none⟩)])]) (fun j => Bld b2 (hd0 ++ pt 0 j) :: cl b1 176 [.bool true, .slice p1 keys.length c1, .slice p2 vals.length c2, .slice p3 kids.length c3] :: NdsK ⟨true, keys, vals, kids⟩ ⟨p1, c1, p2, c2, p3, c3⟩ ()) (fun j => j ≤ keys.length) (fun j => keys.length - j) (0) ?_ ?_ ?_ ?_; rotate_left; (repeat (first | refine ts_nil | (refine ts_cons rfl ?_ ?_; first | (with_reducible rfl) | rotate_left))); (first | (intro _ i; with_reducible refine i) | rotate_left); rotate_left; (try omega); rotate_right)
    · intro j hj
      dsimp only [NdsK]
      have hpj := hpl j hj
      (repeat' (first | refine g_seq (h := ?_) | refine g_region (h := ?_) | refine l_nil (h := ?_) | refine n_then (h := ?_) | refine l_pures1 (h := ?_) | refine g_skip (h := ?_) | refine g_block (h := ?_) | refine g_exit (h := ?_) | refine n_then_exit (h := ?_) | refine n_block_hit (h := ?_) | (refine g_sp (h1 := ?_) (h0 := ?_) <;> intro h)))
      · have hlt : j < keys.length := by omega
        refine l_ptr (m := keys.length) (h := ?_); rintro g1' rfl hc1
        refine l_ptr (m := vals.length) (h := ?_); rintro g2' rfl hc2
        have hg := uGet hlt
        have hgv := sGet (l := vals) (k := j) (by omega)
        have hv := g3 _ (getD_mem (l := vals) (i := j) (z := []) (by omega))
        have hkey := g2 _ (getD_mem (l := keys) (i := j) (z := 0) hlt)
        have ew : IntKind.i64.wrap ((j : Int) + 1) = ((j + 1 : Nat) : Int) := by rw [wrapI64 (by omega)]; rfl
        (repeat' (first | refine g_seq (h := ?_) | refine g_region (h := ?_) | refine l_nil (h := ?_) | refine n_then (h := ?_) | refine l_pures1 (h := ?_) | (refine l_atc ?_; refine l_call (encNum8 b2 (keys.getD j 0) (hd0 ++ pt 0 j) (by omega) (by rw [List.length_append]; omega)) ?_) | (refine l_atc ?_; refine l_call (Text_does (vals.getD j []) (by omega)) ?_) | (refine l_atc ?_; refine l_call_ (bWriteString_does b2 (hd0 ++ pt 0 j ++ putN (keys.getD j 0) 8) (UInt8.ofNat (vals.getD j []).length :: vals.getD j []) (by rw [List.length_append, List.length_append, putN_length, List.length_cons]; omega)) ?_; rintro _ _ _ ⟨_, rfl⟩ he; cases he) | refine l_load (h := ?_) | refine l_indexAddr (h := ?_) | refine g_exit (h := ?_) | refine n_then_exit (h := ?_) | refine n_block_hit (h := ?_) | refine g_cond_t (h := ?_) | refine l_load_vec (h := ?_)))
        have e2 : hd0 ++ pt 0 j ++ putN (keys.getD j 0) 8 ++ UInt8.ofNat (vals.getD j []).length :: vals.getD j [] = hd0 ++ pt 0 (j + 1) := by rw [hsn, hent]; simp
        rw [e2]
        (refine n_back (j + 1) ?_ ?_ ?_ ?_; rotate_left; rotate_left; (repeat (first | refine ts_nil | (refine ts_cons rfl ?_ ?_; first | (with_reducible rfl) | rotate_left))); (first | (intro _ i; with_reducible refine i) | rotate_left); (try omega); (try omega))
        · rw [ew]
        all_goals (intro _ i; exact inv_keep parts_of i)
      · obtain rfl : j = keys.length := by omega
        (repeat' (first | refine l_nil (h := ?_) | refine n_then (h := ?_) | refine l_pures1 (h := ?_) | (refine l_atc ?_; refine l_call (bString_does b2 (hd0 ++ pt 0 keys.length) (by rw [hhead]; simp)) ?_) | refine g_ret (h := ?_)))
        (refine n_shut (A := Nds ⟨true, keys, vals, kids⟩ ⟨p1, c1, p2, c2, p3, c3⟩) (K := NdsK ⟨true, keys, vals, kids⟩ ⟨p1, c1, p2, c2, p3, c3⟩ (())) (hid_shuts (()) trivial) (h := ?_) (p := by dsimp only [NdsK]; (try simp only [List.map_nil, List.length_nil, List.length_set, List.length_append, List.length_cons, List.length_singleton, List.map_append, List.map_cons, Nat.zero_add]); exact parts_of))
        refine r_retk [Nds ⟨true, keys, vals, kids⟩ ⟨p1, c1, p2, c2, p3, c3⟩] ?_
        exact ⟨by rw [htx]; rfl, rfl⟩
    · rfl
    · rw [hp0, List.append_nil]
      (intro _ i; exact inv_keep parts_of i)
end Go.Proofs.YtmfmommgooccnaaGreat
/- Package node: the node of a text. -/
set_option maxRecDepth 20000
set_option linter.unusedVariables false
set_option linter.unusedSimpArgs false
namespace Go.Proofs.YtmfmommgooccnaaGreat
open Go.Proofs.YtmfmommgooccnaaGreat.SL

theorem uV_snoc {l : List Nat} {j : Nat} (h : j < l.length) : uV (l.take j) ++ [Value.int .u64 (l.getD j 0 : Nat)] = uV (l.take (j + 1)) := by
  rw [List.take_succ_eq_append_getElem h, uV, uV, List.map_append]; simp [List.getD, h]
theorem encS_snoc {l : List (List UInt8)} {j : Nat} (h : j < l.length) : (l.take j).map encS ++ [Value.string (str (l.getD j []))] = (l.take (j + 1)).map encS := by
  rw [List.take_succ_eq_append_getElem h, List.map_append]; simp [encS, List.getD, h]
theorem encZ_snoc {l : List Int} {j : Nat} (h : j < l.length) : (l.take j).map encZ' ++ [Value.int .i64 (l.getD j 0)] = (l.take (j + 1)).map encZ' := by
  rw [List.take_succ_eq_append_getElem h, List.map_append]; simp [encZ', List.getD, h]
theorem wrapKid2 {i : Int} (h : 2 ≤ i ∧ i < 640) : IntKind.i64.wrap ((i.toNat : Nat) : Int) = i := by rw [wrapI64 (by omega)]; omega
theorem put_ne (n s : Nat) (r : List UInt8) : ((putN n (s + 1) ++ r) == []) = false := by
  have : (putN n (s + 1) ++ r) ≠ [] := by
    intro q; have := congrArg List.length q; rw [List.length_append, putN_length] at this; simp at this
  simpa using this

set_option maxHeartbeats 4000000 in
theorem DecodeL_does (keys : List Nat) (vals : List (List UInt8)) (hd : Nd.good ⟨true, keys, vals, []⟩) : Does Tryz.prog 184 [.string (str (Nd.text ⟨true, keys, vals, []⟩))] [] (fun v H => ∃ r, v = .tuple #[ndV ⟨true, keys, vals, []⟩ r, .int .i64 0] ∧ H = [Nds ⟨true, keys, vals, []⟩ r]) := by
  have hf := hd.fits
  have hR := fun r => Right_does ⟨true, keys, vals, []⟩ r hd
  have hs := hd.size
  have htl := Nd.text_len hd.p
  have htx : Nd.text ⟨true, keys, vals, []⟩ = putN 1 1 ++ Nd.partT ⟨true, keys, vals, []⟩ 0 keys.length := rfl
  have hcons := Nd.partT_cons ⟨true, keys, vals, []⟩
  have hent : Nd.entT ⟨true, keys, vals, []⟩ = fun i => putN (keys.getD i 0) 8 ++ UInt8.ofNat (vals.getD i []).length :: vals.getD i [] := rfl
  have hvl := valsLen hd.p rfl
  have hpl : ∀ j, j ≤ keys.length → (Nd.partT ⟨true, keys, vals, []⟩ j (keys.length - j)).length ≤ 1000 := by
    intro j hj
    have h2 : Nd.partT ⟨true, keys, vals, []⟩ 0 keys.length = Nd.partT ⟨true, keys, vals, []⟩ 0 j ++ Nd.partT ⟨true, keys, vals, []⟩ j (keys.length - j) := by
      rw [Nd.partT, Nd.partT, Nd.partT, ← List.flatMap_append]
      congr 1
      have := List.range'_append_1 (s := 0) (m := j) (n := keys.length - j)
      rw [Nat.zero_add, show j + (keys.length - j) = keys.length by omega] at this
      exact this.symm
    rw [htx, List.length_append, h2, List.length_append] at htl
    omega
  obtain ⟨⟨g1, g2, g3, g4, g5, g6⟩, g7, g8⟩ := hd
  obtain ⟨f1, f2, f3, f4⟩ := hf
  dsimp only at g1 g2 g3 g4 g5 g6 g7 f1 f2 f3 f4 hvl
  generalize Nd.text ⟨true, keys, vals, []⟩ = tx at *
  generalize Nd.entT ⟨true, keys, vals, []⟩ = en at *
  have hpz : Nd.partT ⟨true, keys, vals, []⟩ keys.length 0 = [] := rfl
  generalize Nd.partT ⟨true, keys, vals, []⟩ = pt at *
  rw [htx]
  have hr1 : ∀ rb, Does Tryz.prog 203 [.pointer (some ⟨rb, 0, none⟩), .int .i64 1] [cl rb 292 [.string (str (putN 1 1 ++ pt 0 keys.length)), .bool false]]
    (fun v H => v = .int .u64 1 ∧ H = [cl rb 292 [.string (str (pt 0 keys.length)), .bool false]]) := fun rb => rdNum1 rb 1 _ false (by omega) (by have := hpl 0 (Nat.zero_le _); rw [Nat.sub_zero] at this; omega)
  refine does_of Tryz.func184 Tryz.ntmps184 rfl rfl rfl (fun w0 F0 => ?_)
  (repeat' (first | refine g_seq (h := ?_) | refine g_region (h := ?_) | refine l_nil (h := ?_) | refine n_then (h := ?_) | refine l_pures1 (h := ?_) | (refine l_atc ?_; refine l_call (hr1 _) ?_) | refine l_guard_yes (h := ?_) | refine l_guard_no (h := ?_) | refine l_load (h := ?_) | refine l_store (h := ?_) | (refine l_box (h := ?_); intro _) | (refine l_alloc (h := ?_); intro _) | refine g_skip (h := ?_) | refine g_block (h := ?_) | refine g_cond_f (h := ?_)))
  rename_i rs rb nb
  rw [show ((1 : Int) == 1) = true from rfl]
  refine g_inv (fun i => vec_nil (30) (1) i) ?_
  refine g_inv (fun i => vec_nil (9) (1) i) ?_
  refine g_inv (fun i => vec_nil (3) (1) i) ?_
  (refine g_loop (fun y : Nat × Rw => [(4, .pointer (some ⟨rb, 0, none⟩)), (6, .pointer (some ⟨nb, 0, none⟩)), (2, .pointer (some ⟨rs, 0, none⟩))]) (fun y => [cl nb 176 [.bool true, .slice y.2.p1 y.1 y.2.c1, .slice y.2.p2 y.1 y.2.c2, .slice none 0 0], cl rb 292 [.string (str (pt y.1 (keys.length - y.1))), .bool false], cl rs 176 [.bool false, .slice none 0 0, .slice none 0 0, .slice none 0 0], vec 30 1 y.2.p1 y.1 y.2.c1 (uV (keys.take y.1)), vec 9 1 y.2.p2 y.1 y.2.c2 ((vals.take y.1).map encS), vec 3 1 none 0 0 []]) (fun y => y.1 ≤ keys.length) (fun y => keys.length - y.1) ((0, Rw.mk none 0 none 0 none 0)) ?_ ?_ ?_ ?_; rotate_left; (repeat (first | refine ts_nil | (refine ts_cons rfl ?_ ?_; first | (with_reducible rfl) | rotate_left))); (first | (intro _ i; with_reducible refine i) | rotate_left); rotate_left; (try omega); rotate_right)
  · rintro ⟨j, ⟨p1, c1, p2, c2, p3, c3⟩⟩ hj
    dsimp only at hj ⊢
    by_cases hlt : j < keys.length
    · have hv := g3 _ (getD_mem (l := vals) (i := j) (z := []) (by omega))
      have hkey := g2 _ (getD_mem (l := keys) (i := j) (z := 0) hlt)
      have hp1 := hpl (j + 1) hlt
      have e1 : pt j (keys.length - j) = putN (keys.getD j 0) 8 ++ (UInt8.ofNat (vals.getD j []).length :: (vals.getD j [] ++ pt (j + 1) (keys.length - (j + 1)))) := by
        rw [show keys.length - j = (keys.length - (j + 1)) + 1 by omega, hcons, hent]; simp
      have e2 := put_ne (keys.getD j 0) 7 (UInt8.ofNat (vals.getD j []).length :: (vals.getD j [] ++ pt (j + 1) (keys.length - (j + 1))))
      have hl1 : (UInt8.ofNat (vals.getD j []).length :: (vals.getD j [] ++ pt (j + 1) (keys.length - (j + 1)))).length < 1000000 := by rw [List.length_cons, List.length_append]; omega
      rw [e1]
      (repeat (first | refine g_seq (h := ?_) | refine g_region (h := ?_) | refine l_nil (h := ?_) | refine n_then (h := ?_) | refine l_pures1 (h := ?_) | refine l_guard_yes (h := ?_) | refine l_load (h := ?_) | refine g_skip (h := ?_) | refine g_block (h := ?_) | refine g_cond_t (h := ?_)))
      rw [e2]
      (repeat' (first | refine g_seq (h := ?_) | refine g_region (h := ?_) | refine l_nil (h := ?_) | refine n_then (h := ?_) | refine l_pures1 (h := ?_) | refine l_guard_yes (h := ?_) | refine l_guard_no (h := ?_) | refine l_guard_no0 (h := ?_) | refine l_guard_un (h := ?_) | refine l_guard_un0 (h := ?_) | refine l_load (h := ?_) | refine l_store (h := ?_) | (refine l_box (h := ?_); intro _) | (refine l_alloc (h := ?_); intro _) | refine l_index (h := ?_) | refine l_slice_str (h := ?_) | refine l_concat (h := ?_) | (refine l_makeSlice (h := ?_); intro _) | refine l_load_at (h := ?_) | refine l_store_at (h := ?_) | refine l_load_p (h := ?_) | refine l_indexAddr (h := ?_) | refine l_rem (h := ?_) | refine l_quo (h := ?_) | refine l_shr (h := ?_) | refine l_shl (h := ?_) | refine l_slice (h := ?_) | refine l_copy_in (h := ?_) | refine l_copy_row (h := ?_) | refine l_str_bs (h := ?_) | (refine l_bytes_of (h := ?_); intro _ _ _) | refine l_copy_str (h := ?_) | refine l_lookup _ (h := ?_) | refine l_lookup_ok _ (h := ?_) | refine l_mapUpdate (h := ?_) | refine l_delete0 (h := ?_) | refine l_len_map (h := ?_) | (refine l_buildSlice1 (h := ?_); intro _) | (refine l_append_new (h := ?_); intro _ _) | (refine l_append (h := ?_); intro _ _) | refine l_pure_none (h := ?_) | refine g_skip (h := ?_) | refine g_ret (h := ?_) | refine n_then_ret (h := ?_) | refine n_block_ret (h := ?_) | refine g_block (h := ?_) | refine g_exit (h := ?_) | refine n_then_exit (h := ?_) | refine n_block_hit (h := ?_) | refine a_done (h := ?_) | refine a_load (h := a_pass2 (h := ?_)) | refine a_one (h := ?_) | refine n_any (h := a_pass2 (h := ?_)) | refine a_load_at (h := a_pass2 (h := ?_)) | refine a_load_p (h := a_pass2 (h := ?_)) | refine a_loadg_p (h := a_pass2 (h := ?_)) | refine a_loadg (h := a_pass2 (h := ?_)) | refine a_v (h := ?_) | refine a_vg (h := ?_) | refine a_no (h := ?_) | refine a_un (h := ?_) | refine n_block_miss (h := ?_) | refine n_block (h := ?_) | refine g_cond_t (h := ?_) | refine g_cond_f (h := ?_) | refine l_load_vec (h := ?_) | refine l_store_vec (h := ?_) | refine a_load_vec (h := a_pass2 (h := ?_)) | refine a_loadg_vec (h := a_pass2 (h := ?_)) | (refine l_append_str (h := ?_); intro _ _) | (refine l_append_zeros (h := ?_); intro _ _ _) | refine l_to_unsafe (h := ?_) | refine l_from_unsafe (h := ?_) | refine l_neq_same (h := ?_) | refine l_slice_any (h := ?_) | (refine l_buildSlice2 (h := ?_); intro _) | (refine l_buildSlice3 (h := ?_); intro _) | (refine l_buildSlice4 (h := ?_); intro _) | refine l_slice3n (h := ?_) | refine l_sliceData (h := ?_) | refine l_outer_same outer_same (h := ?_) | refine l_unsafeString (h := ?_) | refine g_scope (h := ?_) | refine n_scope (h := ?_) | refine n_scope_ret (h := ?_) | refine n_scope_exit (h := ?_) | refine g_label (h := ?_) | refine l_assert (h := ?_) | refine l_eqStruct (h := ?_) | refine l_neStruct (h := ?_) | refine l_indexArr (h := ?_) | refine n_lw (h := ?_) | refine lw_nil (h := ?_) | refine lw_step (h := ?_) | refine lw_guard_yes (h := ?_) | refine l_lookup_k _ (h := ?_) | refine l_lookup_ok_k _ (h := ?_) | refine l_mapUpdate_k (h := ?_) | refine l_delete0_k (h := ?_) | refine l_len_map_k (h := ?_) | refine gr_seq (h := ?_) | refine gr_region (h := ?_) | refine nr_then (h := ?_) | refine gr_block (h := ?_) | refine gr_skip (h := ?_) | refine gr_exit (h := ?_) | refine gr_ret (h := ?_) | refine gr_label (h := ?_) | refine gr_cond_t (h := ?_) | refine gr_cond_f (h := ?_) | refine a_w (h := ?_) | refine a_lookupg_k _ (h := a_pass2 (h := ?_)) | (refine a_spT (h := ?_); intro h) | (refine a_spF (h := ?_); intro h) | (refine a_sp (h1 := ?_) (h0 := ?_) <;> intro h) | (refine l_spT (h := ?_); intro h) | (refine l_spF (h := ?_); intro h) | (refine l_sp (h1 := ?_) (h0 := ?_) <;> intro h) | (refine g_spT (h := ?_); intro h) | (refine g_spF (h := ?_); intro h) | (refine g_sp (h1 := ?_) (h0 := ?_) <;> intro h) | (refine gr_spT (h := ?_); intro h) | (refine gr_spF (h := ?_); intro h) | (refine gr_sp (h1 := ?_) (h0 := ?_) <;> intro h) | refine a_fork2 (h1 := ?_) (h2 := ?_) | refine a_fork3 (h1 := ?_) (h2 := ?_) (h3 := ?_) | refine a1_of (h := ?_)))
      (refine g_draw [] (h := a_pass2 (h := ?_)))
      (repeat' (first | refine g_seq (h := ?_) | refine g_region (h := ?_) | refine l_nil (h := ?_) | refine n_then (h := ?_) | refine l_pures1 (h := ?_) | (refine l_atc ?_; refine l_call (rdNum8 rb (keys.getD j 0) _ false (by omega) hl1) ?_) | refine l_load (h := ?_) | refine l_store (h := ?_) | (refine l_buildSlice1 (h := ?_); intro _) | (refine l_append_new (h := ?_); intro _ _) | refine a_done (h := ?_) | refine a_one (h := ?_) | refine n_any (h := a_pass2 (h := ?_)) | refine g_cond_t (h := ?_) | refine a_fork2 (h1 := ?_) (h2 := ?_) | refine a1_of (h := ?_)))
      all_goals
        rename_i b1 pk ck
        rw [uV_snoc hlt]
      all_goals
        (refine g_draw [] (h := a_pass2 (h := ?_)))
      all_goals
        (repeat' (first | refine l_nil (h := ?_) | (refine l_atc ?_; refine l_call (rdText_does rb (vals.getD j []) (pt (j + 1) (keys.length - (j + 1))) false (by omega) (by omega)) ?_) | refine l_load (h := ?_) | refine l_store (h := ?_) | (refine l_buildSlice1 (h := ?_); intro _) | (refine l_append_new (h := ?_); intro _ _) | refine a_done (h := ?_) | refine a_one (h := ?_) | refine n_any (h := a_pass2 (h := ?_)) | refine n_block (h := ?_) | refine a_fork2 (h1 := ?_) (h2 := ?_) | refine a1_of (h := ?_)))
      all_goals
        rename_i b2 pv cv
        rw [encS_snoc (by omega)]
      all_goals
        (refine n_back ((j + 1, Rw.mk pk ck pv cv p3 c3)) ?_ ?_ ?_ ?_; rotate_left; rotate_left; (repeat (first | refine ts_nil | (refine ts_cons rfl ?_ ?_; first | (with_reducible rfl) | rotate_left))); (first | (intro _ i; with_reducible refine i) | rotate_left); (try omega); (try omega))
      all_goals (intro _ i; exact inv_keep parts_of i)
    · obtain rfl : j = keys.length := by omega
      rw [Nat.sub_self, hpz, List.take_length, show vals.take keys.length = vals by rw [← hvl, List.take_length]]
      have hvv : vec 9 1 p2 keys.length c2 (vals.map encS) = vec 9 1 p2 vals.length c2 (vals.map encS) := by rw [hvl]
      rw [hvv]
      (refine g_shut (A := Nds ⟨true, keys, vals, []⟩ ⟨p1, c1, p2, c2, none, 0⟩) (K := NdsK ⟨true, keys, vals, []⟩ ⟨p1, c1, p2, c2, none, 0⟩ (())) (hid_shuts (()) trivial) (h := ?_) (p := by dsimp only [NdsK]; (try simp only [List.map_nil, List.length_nil, List.length_set, List.length_append, List.length_cons, List.length_singleton, List.map_append, List.map_cons, Nat.zero_add]); exact parts_of))
      have hR2 : Does Tryz.prog 199 [.agg #[.bool true, .slice p1 keys.length c1, .slice p2 keys.length c2, .slice none 0 0]] [Nds ⟨true, keys, vals, []⟩ ⟨p1, c1, p2, c2, none, 0⟩] (fun v H => v = .bool true ∧ H = [Nds ⟨true, keys, vals, []⟩ ⟨p1, c1, p2, c2, none, 0⟩]) := by
        have := hR ⟨p1, c1, p2, c2, none, 0⟩
        simp only [ndV, ndA, hvl] at this
        exact this
      (repeat' (first | refine g_seq (h := ?_) | refine g_region (h := ?_) | refine l_nil (h := ?_) | refine n_then (h := ?_) | refine l_pures1 (h := ?_) | (refine l_atc ?_; refine l_call (hR2) ?_) | refine l_guard_yes (h := ?_) | refine l_guard_no (h := ?_) | refine l_load (h := ?_) | refine l_store (h := ?_) | refine g_skip (h := ?_) | refine g_ret (h := ?_) | refine g_exit (h := ?_) | refine n_then_exit (h := ?_) | refine n_block_hit (h := ?_) | refine g_cond_f (h := ?_)))
      refine r_retk [Nds ⟨true, keys, vals, []⟩ ⟨p1, c1, p2, c2, none, 0⟩] ?_
      exact ⟨⟨p1, c1, p2, c2, none, 0⟩, by simp only [ndV, ndA, hvl]; rfl, rfl⟩
  · simp only [Nat.sub_zero, List.take_zero, List.map_nil, uV]
    (intro _ i; exact inv_keep parts_of i)

/-- One kid of a branch is read. -/
theorem decB_body (rb nb rs : Nat) (kid : Int) (rest : List UInt8) (j : Nat) (ks : List Int) (keys : List Nat) (pk : Option Addr) (ck : Nat) (p3 : Option Addr) (c3 : Nat) (hk : 2 ≤ kid ∧ kid < 640) (hr : rest.length < 1000000) (hj : j < 1000) (w0 : World) (F0 : Nat → Prop) (Q : Exit → Act → World → Prop) (hc : SL.Calm Q)
    (h : ∀ p' c', N 86 w0 F0 .normal Q [(4, .pointer (some ⟨rb, 0, none⟩)), (6, .pointer (some ⟨nb, 0, none⟩)), (2, .pointer (some ⟨rs, 0, none⟩))] [] [cl nb 176 [.bool false, .slice pk (j + 1) ck, .slice none 0 0, .slice p' (j + 1 + 1) c'], cl rb 292 [.string (str rest), .bool false], vec 3 1 p' (j + 1 + 1) c' (ks.map encZ' ++ [.int .i64 kid]), cl rs 176 [.bool false, .slice none 0 0, .slice none 0 0, .slice none 0 0], vec 30 1 pk (j + 1) ck (uV keys), vec 9 1 none 0 0 []]) :
    G Tryz.prog 86 w0 F0 (nav [1, 1, 1, 1, 1, 1, 0, 2, 2, 1, 2, 1, 1, 1] (bdy Tryz.f184)) Q [(4, .pointer (some ⟨rb, 0, none⟩)), (6, .pointer (some ⟨nb, 0, none⟩)), (2, .pointer (some ⟨rs, 0, none⟩))] [] [cl nb 176 [.bool false, .slice pk (j + 1) ck, .slice none 0 0, .slice p3 (j + 1) c3], cl rb 292 [.string (str (putN kid.toNat 2 ++ rest)), .bool false], vec 3 1 p3 (j + 1) c3 (ks.map encZ'), cl rs 176 [.bool false, .slice none 0 0, .slice none 0 0, .slice none 0 0], vec 30 1 pk (j + 1) ck (uV keys), vec 9 1 none 0 0 []] := by
  obtain ⟨c, hc⟩ : ∃ c, c = nav [1, 1, 1, 1, 1, 1, 0, 2, 2, 1, 2, 1, 1, 1] (bdy Tryz.f184) := ⟨_, rfl⟩
  rw [← hc]
  dsimp only [nav, bdy, Tryz.f184, Option.getD] at hc
  subst hc
  (refine g_draw [] (h := a_pass2 (h := ?_)))
  (repeat' (first | refine l_nil (h := ?_) | (refine l_atc ?_; refine l_call (rdNum2 rb kid.toNat rest false (kid_lt hk) hr) ?_) | refine l_load (h := ?_) | refine l_store (h := ?_) | (refine l_buildSlice1 (h := ?_); intro _) | (refine l_append_new (h := ?_); intro _ _) | refine a_done (h := ?_) | refine a_one (h := ?_) | refine n_any (h := a_pass2 (h := ?_)) | refine a_fork2 (h1 := ?_) (h2 := ?_) | refine a1_of (h := ?_)))
  all_goals
    rw [wrapKid2 hk]
    exact n_bang (h _ _)

/-- The node behind all its keys. -/
theorem decB_end (rb nb rs : Nat) (keys : List Nat) (kids : List Int) (hd : Nd.good ⟨false, keys, [], kids⟩) (hl : kids.length = keys.length + 1) (pk : Option Addr) (ck : Nat) (p3 : Option Addr) (c3 : Nat) (w0 : World) (F0 : Nat → Prop) :
    G Tryz.prog 86 w0 F0 (nav [1, 1, 1, 1, 1, 1, 1] (bdy Tryz.f184)) (Post Tryz.prog Tryz.f184 w0 F0 (fun v H => ∃ r, v = .tuple #[ndV ⟨false, keys, [], kids⟩ r, .int .i64 0] ∧ H = [Nds ⟨false, keys, [], kids⟩ r]))
      [(4, .pointer (some ⟨rb, 0, none⟩)), (6, .pointer (some ⟨nb, 0, none⟩)), (2, .pointer (some ⟨rs, 0, none⟩))] [] [cl nb 176 [.bool false, .slice pk keys.length ck, .slice none 0 0, .slice p3 kids.length c3], cl rb 292 [.string (str []), .bool false], vec 3 1 p3 kids.length c3 (kids.map encZ'), cl rs 176 [.bool false, .slice none 0 0, .slice none 0 0, .slice none 0 0], vec 30 1 pk keys.length ck (uV keys), vec 9 1 none 0 0 []] := by
  have hR : Does Tryz.prog 199 [.agg #[.bool false, .slice pk keys.length ck, .slice none 0 0, .slice p3 kids.length c3]] [Nds ⟨false, keys, [], kids⟩ ⟨pk, ck, none, 0, p3, c3⟩] (fun v H => v = .bool true ∧ H = [Nds ⟨false, keys, [], kids⟩ ⟨pk, ck, none, 0, p3, c3⟩]) := Right_does ⟨false, keys, [], kids⟩ ⟨pk, ck, none, 0, p3, c3⟩ hd
  obtain ⟨c, hc⟩ : ∃ c, c = nav [1, 1, 1, 1, 1, 1, 1] (bdy Tryz.f184) := ⟨_, rfl⟩
  rw [← hc]
  dsimp only [nav, bdy, Tryz.f184, Option.getD] at hc
  subst hc
  (refine g_shut (A := Nds ⟨false, keys, [], kids⟩ ⟨pk, ck, none, 0, p3, c3⟩) (K := NdsK ⟨false, keys, [], kids⟩ ⟨pk, ck, none, 0, p3, c3⟩ (())) (hid_shuts (()) trivial) (h := ?_) (p := by dsimp only [NdsK]; (try simp only [List.map_nil, List.length_nil, List.length_set, List.length_append, List.length_cons, List.length_singleton, List.map_append, List.map_cons, Nat.zero_add]); exact parts_of))
  (repeat' (first | refine g_seq (h := ?_) | refine g_region (h := ?_) | refine l_nil (h := ?_) | refine n_then (h := ?_) | refine l_pures1 (h := ?_) | (refine l_atc ?_; refine l_call (hR) ?_) | refine l_guard_yes (h := ?_) | refine l_load (h := ?_) | refine l_store (h := ?_) | refine g_skip (h := ?_) | refine g_ret (h := ?_) | refine g_cond_f (h := ?_)))
  refine r_retk [Nds ⟨false, keys, [], kids⟩ ⟨pk, ck, none, 0, p3, c3⟩] ?_
  exact ⟨⟨pk, ck, none, 0, p3, c3⟩, rfl, rfl⟩

/-- The keys of a branch are read. -/
theorem decB_loop (rb nb rs : Nat) (keys : List Nat) (kids : List Int) (hd : Nd.good ⟨false, keys, [], kids⟩) (hl : kids.length = keys.length + 1) (p3 : Option Addr) (c3 : Nat) (w0 : World) (F0 : Nat → Prop) :
    G Tryz.prog 86 w0 F0 (nav [1, 1, 1, 1, 1, 1] (bdy Tryz.f184)) (Post Tryz.prog Tryz.f184 w0 F0 (fun v H => ∃ r, v = .tuple #[ndV ⟨false, keys, [], kids⟩ r, .int .i64 0] ∧ H = [Nds ⟨false, keys, [], kids⟩ r]))
      [(4, .pointer (some ⟨rb, 0, none⟩)), (6, .pointer (some ⟨nb, 0, none⟩)), (2, .pointer (some ⟨rs, 0, none⟩))] [] [cl nb 176 [.bool false, .slice none 0 0, .slice none 0 0, .slice p3 1 c3], cl rb 292 [.string (str (Nd.partT ⟨false, keys, [], kids⟩ 0 keys.length)), .bool false], vec 3 1 p3 1 c3 ((kids.take 1).map encZ'), cl rs 176 [.bool false, .slice none 0 0, .slice none 0 0, .slice none 0 0], vec 30 1 none 0 0 [], vec 9 1 none 0 0 []] := by
  have hend := fun pk ck p3 c3 => decB_end rb nb rs keys kids hd hl pk ck p3 c3 w0 F0
  have hbody := decB_body rb nb rs
  have hs := hd.size
  have hcons := Nd.partT_cons ⟨false, keys, [], kids⟩
  have hent : Nd.entT ⟨false, keys, [], kids⟩ = fun i => putN (keys.getD i 0) 8 ++ putN (kids.getD (i + 1) 0).toNat 2 := rfl
  have g2 := hd.p.key
  have g4 := hd.p.kid
  dsimp only [Nd.size] at g2 g4 hs
  simp only [Bool.false_eq_true, if_false] at hs
  have hpl : ∀ m j, j + m = keys.length → (Nd.partT ⟨false, keys, [], kids⟩ j m).length = 10 * m := by
    intro m
    induction m with
    | zero => intro j _; rfl
    | succ m ih => intro j hj; rw [hcons, List.length_append, ih (j + 1) (by omega), hent]; simp only [List.length_append, putN_length]; omega
  have hpz : Nd.partT ⟨false, keys, [], kids⟩ keys.length 0 = [] := rfl
  generalize Nd.partT ⟨false, keys, [], kids⟩ = pt at *
  generalize Nd.entT ⟨false, keys, [], kids⟩ = en at *
  obtain ⟨cc, hcc⟩ : ∃ cc, cc = nav [1, 1, 1, 1, 1, 1, 1] (bdy Tryz.f184) := ⟨_, rfl⟩
  obtain ⟨c, hc⟩ : ∃ c, c = nav [1, 1, 1, 1, 1, 1] (bdy Tryz.f184) := ⟨_, rfl⟩
  rw [← hc]
  dsimp only [nav, bdy, Tryz.f184, Option.getD] at hc
  subst hc
  refine g_seq (h := g_block (h := ?_))
  (refine g_loop (fun y : Nat × Option Addr × Nat × Option Addr × Nat => [(4, .pointer (some ⟨rb, 0, none⟩)), (6, .pointer (some ⟨nb, 0, none⟩)), (2, .pointer (some ⟨rs, 0, none⟩))]) (fun y => [cl nb 176 [.bool false, .slice y.2.1 y.1 y.2.2.1, .slice none 0 0, .slice y.2.2.2.1 (y.1 + 1) y.2.2.2.2], cl rb 292 [.string (str (pt y.1 (keys.length - y.1))), .bool false], vec 3 1 y.2.2.2.1 (y.1 + 1) y.2.2.2.2 ((kids.take (y.1 + 1)).map encZ'), cl rs 176 [.bool false, .slice none 0 0, .slice none 0 0, .slice none 0 0], vec 30 1 y.2.1 y.1 y.2.2.1 (uV (keys.take y.1)), vec 9 1 none 0 0 []]) (fun y => y.1 ≤ keys.length) (fun y => keys.length - y.1) ((0, (none : Option Addr), 0, p3, c3)) ?_ ?_ ?_ ?_; rotate_left; (repeat (first | refine ts_nil | (refine ts_cons rfl ?_ ?_; first | (with_reducible rfl) | rotate_left))); (first | (intro _ i; with_reducible refine i) | rotate_left); rotate_left; (try omega); rotate_right)
  · rintro ⟨j, pk, ck, pi, ci⟩ hj
    dsimp only at hj ⊢
    by_cases hlt : j < keys.length
    · have hkey := g2 _ (getD_mem (l := keys) (i := j) (z := 0) hlt)
      have hkid := g4 _ (getD_mem (l := kids) (i := j + 1) (z := 0) (by omega))
      have hp1 := hpl (keys.length - (j + 1)) (j + 1) (by omega)
      have e1 : pt j (keys.length - j) = putN (keys.getD j 0) 8 ++ (putN (kids.getD (j + 1) 0).toNat 2 ++ pt (j + 1) (keys.length - (j + 1))) := by
        rw [show keys.length - j = (keys.length - (j + 1)) + 1 by omega, hcons, hent]; simp
      have e2 := put_ne (keys.getD j 0) 7 (putN (kids.getD (j + 1) 0).toNat 2 ++ pt (j + 1) (keys.length - (j + 1)))
      have hl1 : (putN (kids.getD (j + 1) 0).toNat 2 ++ pt (j + 1) (keys.length - (j + 1))).length < 1000000 := by rw [List.length_append, putN_length]; omega
      rw [e1]
      (repeat (first | refine g_seq (h := ?_) | refine g_region (h := ?_) | refine l_nil (h := ?_) | refine n_then (h := ?_) | refine l_pures1 (h := ?_) | refine l_guard_yes (h := ?_) | refine l_load (h := ?_) | refine g_skip (h := ?_) | refine g_block (h := ?_) | refine g_cond_t (h := ?_)))
      rw [e2]
      (repeat' (first | refine g_seq (h := ?_) | refine g_region (h := ?_) | refine l_nil (h := ?_) | refine n_then (h := ?_) | refine l_pures1 (h := ?_) | refine l_guard_yes (h := ?_) | refine l_guard_no (h := ?_) | refine l_guard_no0 (h := ?_) | refine l_guard_un (h := ?_) | refine l_guard_un0 (h := ?_) | refine l_load (h := ?_) | refine l_store (h := ?_) | (refine l_box (h := ?_); intro _) | (refine l_alloc (h := ?_); intro _) | refine l_index (h := ?_) | refine l_slice_str (h := ?_) | refine l_concat (h := ?_) | (refine l_makeSlice (h := ?_); intro _) | refine l_load_at (h := ?_) | refine l_store_at (h := ?_) | refine l_load_p (h := ?_) | refine l_indexAddr (h := ?_) | refine l_rem (h := ?_) | refine l_quo (h := ?_) | refine l_shr (h := ?_) | refine l_shl (h := ?_) | refine l_slice (h := ?_) | refine l_copy_in (h := ?_) | refine l_copy_row (h := ?_) | refine l_str_bs (h := ?_) | (refine l_bytes_of (h := ?_); intro _ _ _) | refine l_copy_str (h := ?_) | refine l_lookup _ (h := ?_) | refine l_lookup_ok _ (h := ?_) | refine l_mapUpdate (h := ?_) | refine l_delete0 (h := ?_) | refine l_len_map (h := ?_) | (refine l_buildSlice1 (h := ?_); intro _) | (refine l_append_new (h := ?_); intro _ _) | (refine l_append (h := ?_); intro _ _) | refine l_pure_none (h := ?_) | refine g_skip (h := ?_) | refine g_ret (h := ?_) | refine n_then_ret (h := ?_) | refine n_block_ret (h := ?_) | refine g_block (h := ?_) | refine g_exit (h := ?_) | refine n_then_exit (h := ?_) | refine n_block_hit (h := ?_) | refine a_done (h := ?_) | refine a_load (h := a_pass2 (h := ?_)) | refine a_one (h := ?_) | refine n_any (h := a_pass2 (h := ?_)) | refine a_load_at (h := a_pass2 (h := ?_)) | refine a_load_p (h := a_pass2 (h := ?_)) | refine a_loadg_p (h := a_pass2 (h := ?_)) | refine a_loadg (h := a_pass2 (h := ?_)) | refine a_v (h := ?_) | refine a_vg (h := ?_) | refine a_no (h := ?_) | refine a_un (h := ?_) | refine n_block_miss (h := ?_) | refine n_block (h := ?_) | refine g_cond_t (h := ?_) | refine g_cond_f (h := ?_) | refine l_load_vec (h := ?_) | refine l_store_vec (h := ?_) | refine a_load_vec (h := a_pass2 (h := ?_)) | refine a_loadg_vec (h := a_pass2 (h := ?_)) | (refine l_append_str (h := ?_); intro _ _) | (refine l_append_zeros (h := ?_); intro _ _ _) | refine l_to_unsafe (h := ?_) | refine l_from_unsafe (h := ?_) | refine l_neq_same (h := ?_) | refine l_slice_any (h := ?_) | (refine l_buildSlice2 (h := ?_); intro _) | (refine l_buildSlice3 (h := ?_); intro _) | (refine l_buildSlice4 (h := ?_); intro _) | refine l_slice3n (h := ?_) | refine l_sliceData (h := ?_) | refine l_outer_same outer_same (h := ?_) | refine l_unsafeString (h := ?_) | refine g_scope (h := ?_) | refine n_scope (h := ?_) | refine n_scope_ret (h := ?_) | refine n_scope_exit (h := ?_) | refine g_label (h := ?_) | refine l_assert (h := ?_) | refine l_eqStruct (h := ?_) | refine l_neStruct (h := ?_) | refine l_indexArr (h := ?_) | refine n_lw (h := ?_) | refine lw_nil (h := ?_) | refine lw_step (h := ?_) | refine lw_guard_yes (h := ?_) | refine l_lookup_k _ (h := ?_) | refine l_lookup_ok_k _ (h := ?_) | refine l_mapUpdate_k (h := ?_) | refine l_delete0_k (h := ?_) | refine l_len_map_k (h := ?_) | refine gr_seq (h := ?_) | refine gr_region (h := ?_) | refine nr_then (h := ?_) | refine gr_block (h := ?_) | refine gr_skip (h := ?_) | refine gr_exit (h := ?_) | refine gr_ret (h := ?_) | refine gr_label (h := ?_) | refine gr_cond_t (h := ?_) | refine gr_cond_f (h := ?_) | refine a_w (h := ?_) | refine a_lookupg_k _ (h := a_pass2 (h := ?_)) | (refine a_spT (h := ?_); intro h) | (refine a_spF (h := ?_); intro h) | (refine a_sp (h1 := ?_) (h0 := ?_) <;> intro h) | (refine l_spT (h := ?_); intro h) | (refine l_spF (h := ?_); intro h) | (refine l_sp (h1 := ?_) (h0 := ?_) <;> intro h) | (refine g_spT (h := ?_); intro h) | (refine g_spF (h := ?_); intro h) | (refine g_sp (h1 := ?_) (h0 := ?_) <;> intro h) | (refine gr_spT (h := ?_); intro h) | (refine gr_spF (h := ?_); intro h) | (refine gr_sp (h1 := ?_) (h0 := ?_) <;> intro h) | refine a_fork2 (h1 := ?_) (h2 := ?_) | refine a_fork3 (h1 := ?_) (h2 := ?_) (h3 := ?_) | refine a1_of (h := ?_)))
      (refine g_draw [] (h := a_pass2 (h := ?_)))
      (repeat' (first | refine g_seq (h := ?_) | refine g_region (h := ?_) | refine l_nil (h := ?_) | refine n_then (h := ?_) | refine l_pures1 (h := ?_) | (refine l_atc ?_; refine l_call (rdNum8 rb (keys.getD j 0) _ false (by omega) hl1) ?_) | refine l_load (h := ?_) | refine l_store (h := ?_) | (refine l_buildSlice1 (h := ?_); intro _) | (refine l_append_new (h := ?_); intro _ _) | refine a_done (h := ?_) | refine a_one (h := ?_) | refine n_any (h := a_pass2 (h := ?_)) | refine g_cond_f (h := ?_) | refine a_fork2 (h1 := ?_) (h2 := ?_) | refine a1_of (h := ?_)))
      all_goals
        rename_i b1 pk' ck'
        rw [uV_snoc hlt]
        refine g_bang (hbody (kids.getD (j + 1) 0) (pt (j + 1) (keys.length - (j + 1))) j (kids.take (j + 1)) (keys.take (j + 1)) pk' ck' pi ci hkid (by omega) (by omega) w0 F0 _ (by with_reducible (repeat (first | refine calm_post | apply calm_then | apply calm_block))) (fun p' c' => ?_))
        rw [encZ_snoc (by omega)]
        (repeat' refine n_block (h := ?_))
        (refine n_back ((j + 1, pk', ck', p', c')) ?_ ?_ ?_ ?_; rotate_left; rotate_left; (repeat (first | refine ts_nil | (refine ts_cons rfl ?_ ?_; first | (with_reducible rfl) | rotate_left))); (first | (intro _ i; with_reducible refine i) | rotate_left); (try omega); (try omega))
        all_goals (intro _ i; exact inv_keep parts_of i)
    · obtain rfl : j = keys.length := by omega
      rw [Nat.sub_self, hpz, List.take_length, show kids.take (keys.length + 1) = kids by rw [← hl, List.take_length], ← hl]
      (repeat' (first | ((with_reducible show G _ _ _ _ (Code.seq (Code.seq (Code.region 13 _ _) _) _) _ _ _ _); exact g_bang (hend _ _ _ _)) | refine g_seq (h := ?_) | refine g_region (h := ?_) | refine l_nil (h := ?_) | refine n_then (h := ?_) | refine l_pures1 (h := ?_) | refine l_guard_no (h := ?_) | refine l_load (h := ?_) | refine g_exit (h := ?_) | refine n_then_exit (h := ?_) | refine n_block_hit (h := ?_) | refine g_cond_f (h := ?_)))
  · intro w i
    simp only [Nat.sub_zero, Nat.zero_add, List.take_zero, uV, List.map_nil]
    exact inv_keep parts_of i

/-- The first kid of a branch is read. -/
theorem decB_first (rb nb rs : Nat) (keys : List Nat) (kids : List Int) (hd : Nd.good ⟨false, keys, [], kids⟩) (hl : kids.length = keys.length + 1) (w0 : World) (F0 : Nat → Prop) (Q : Exit → Act → World → Prop) (hc : SL.Calm Q)
    (h : ∀ p' c', N 86 w0 F0 .normal Q [(4, .pointer (some ⟨rb, 0, none⟩)), (6, .pointer (some ⟨nb, 0, none⟩)), (2, .pointer (some ⟨rs, 0, none⟩))] [] [cl nb 176 [.bool false, .slice none 0 0, .slice none 0 0, .slice p' 1 c'], cl rb 292 [.string (str (Nd.partT ⟨false, keys, [], kids⟩ 0 keys.length)), .bool false], vec 3 1 p' 1 c' ((kids.take 1).map encZ'), cl rs 176 [.bool false, .slice none 0 0, .slice none 0 0, .slice none 0 0], vec 30 1 none 0 0 [], vec 9 1 none 0 0 []]) :
    G Tryz.prog 86 w0 F0 (nav [1, 1, 1, 1, 1, 0, 1, 0] (bdy Tryz.f184)) Q [(4, .pointer (some ⟨rb, 0, none⟩)), (6, .pointer (some ⟨nb, 0, none⟩)), (2, .pointer (some ⟨rs, 0, none⟩))] [] [cl nb 176 [.bool false, .slice none 0 0, .slice none 0 0, .slice none 0 0], cl rb 292 [.string (str (putN (kids.getD 0 0).toNat 2 ++ Nd.partT ⟨false, keys, [], kids⟩ 0 keys.length)), .bool false], cl rs 176 [.bool false, .slice none 0 0, .slice none 0 0, .slice none 0 0], vec 30 1 none 0 0 [], vec 9 1 none 0 0 [], vec 3 1 none 0 0 []] := by
  have hk := hd.p.kid _ (getD_mem (l := kids) (i := 0) (z := 0) (by omega))
  have hs := hd.size
  have hpl := Nd.partT_len (d := ⟨false, keys, [], kids⟩) (Nat.le_refl _) (fun q => by cases q)
  simp only [Bool.false_eq_true, if_false] at hpl
  simp only [Nd.size, Bool.false_eq_true, if_false] at hs
  (try dsimp only at hpl hk hs)
  generalize Nd.partT ⟨false, keys, [], kids⟩ 0 keys.length = rest at *
  obtain ⟨c, hc⟩ : ∃ c, c = nav [1, 1, 1, 1, 1, 0, 1, 0] (bdy Tryz.f184) := ⟨_, rfl⟩
  rw [← hc]
  dsimp only [nav, bdy, Tryz.f184, Option.getD] at hc
  subst hc
  (refine g_draw [] (h := a_pass2 (h := ?_)))
  (repeat' (first | refine l_nil (h := ?_) | (refine l_atc ?_; refine l_call (rdNum2 rb (kids.getD 0 0).toNat rest false (kid_lt hk) (by omega)) ?_) | refine l_load (h := ?_) | refine l_store (h := ?_) | (refine l_buildSlice1 (h := ?_); intro _) | (refine l_append_new (h := ?_); intro _ _) | refine a_done (h := ?_) | refine a_one (h := ?_) | refine n_any (h := a_pass2 (h := ?_)) | refine a_fork2 (h1 := ?_) (h2 := ?_) | refine a1_of (h := ?_)))
  all_goals
    rw [wrapKid2 hk]
    have e : ([] : List Value) ++ [Value.int .i64 (kids.getD 0 0)] = (kids.take 1).map encZ' := encZ_snoc (j := 0) (by omega)
    rw [e]
    exact n_bang (h _ _)

theorem DecodeB_does (keys : List Nat) (kids : List Int) (hd : Nd.good ⟨false, keys, [], kids⟩) : Does Tryz.prog 184 [.string (str (Nd.text ⟨false, keys, [], kids⟩))] [] (fun v H => ∃ r, v = .tuple #[ndV ⟨false, keys, [], kids⟩ r, .int .i64 0] ∧ H = [Nds ⟨false, keys, [], kids⟩ r]) := by
  have hl := kidsLen hd.p rfl
  have hfirst := fun rb nb rs => decB_first rb nb rs keys kids hd hl
  have hloop := fun rb nb rs => decB_loop rb nb rs keys kids hd hl
  have hs := hd.size
  have hpl := Nd.partT_len (d := ⟨false, keys, [], kids⟩) (Nat.le_refl _) (fun q => by cases q)
  simp only [Bool.false_eq_true, if_false] at hpl
  simp only [Nd.size, Bool.false_eq_true, if_false] at hs
  (try dsimp only at hpl hs)
  have htx : Nd.text ⟨false, keys, [], kids⟩ = putN 2 1 ++ (putN (kids.getD 0 0).toNat 2 ++ Nd.partT ⟨false, keys, [], kids⟩ 0 keys.length) := rfl
  rw [htx]
  have hlen : (putN (kids.getD 0 0).toNat 2 ++ Nd.partT ⟨false, keys, [], kids⟩ 0 keys.length).length < 1000000 := by rw [List.length_append, putN_length]; omega
  generalize Nd.partT ⟨false, keys, [], kids⟩ 0 keys.length = rest at *
  have hr1 : ∀ rb, Does Tryz.prog 203 [.pointer (some ⟨rb, 0, none⟩), .int .i64 1] [cl rb 292 [.string (str (putN 2 1 ++ (putN (kids.getD 0 0).toNat 2 ++ rest))), .bool false]]
    (fun v H => v = .int .u64 2 ∧ H = [cl rb 292 [.string (str (putN (kids.getD 0 0).toNat 2 ++ rest)), .bool false]]) := fun rb => rdNum1 rb 2 _ false (by omega) hlen
  refine does_of Tryz.func184 Tryz.ntmps184 rfl rfl rfl (fun w0 F0 => ?_)
  (repeat' (first | refine g_seq (h := ?_) | refine g_region (h := ?_) | refine l_nil (h := ?_) | refine n_then (h := ?_) | refine l_pures1 (h := ?_) | (refine l_atc ?_; refine l_call (hr1 _) ?_) | refine l_guard_yes (h := ?_) | refine l_load (h := ?_) | refine l_store (h := ?_) | (refine l_box (h := ?_); intro _) | (refine l_alloc (h := ?_); intro _) | refine g_skip (h := ?_) | refine g_cond_t (h := ?_) | refine g_cond_f (h := ?_)))
  rename_i rs rb nb
  rw [show ((2 : Int) == 1) = false from rfl]
  refine g_inv (fun i => vec_nil (3) (1) i) ?_
  refine g_inv (fun i => vec_nil (9) (1) i) ?_
  refine g_inv (fun i => vec_nil (30) (1) i) ?_
  refine g_bang (hfirst rb nb rs w0 F0 _ (by with_reducible (repeat (first | refine calm_post | apply calm_then | apply calm_block))) (fun p' c' => ?_))
  refine n_then (h := ?_)
  exact hloop rb nb rs p' c' w0 F0
theorem Decode_does (d : Nd) (hd : d.good) : Does Tryz.prog 184 [.string (str d.text)] [] (fun v H => ∃ r, v = .tuple #[ndV d r, .int .i64 0] ∧ H = [Nds d r]) := by
  obtain ⟨leaf, keys, vals, kids⟩ := d
  cases leaf
  · obtain rfl : vals = [] := noVals hd.p rfl
    exact DecodeB_does keys kids hd
  · obtain rfl : kids = [] := by have := hd.p.kids; simpa using this
    exact DecodeL_does keys vals hd
end Go.Proofs.YtmfmommgooccnaaGreat
