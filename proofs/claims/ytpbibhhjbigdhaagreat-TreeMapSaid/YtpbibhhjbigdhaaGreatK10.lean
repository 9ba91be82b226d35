/- Texts TlD, TlF, TlC, TrDa, TrDb, TrDc, TrDd, TrDe, TrDf, TrDg, TrDh, TlG, SlS, TrGa, TrGb, joined. -/
import Derived.Test.YtpbibhhjbigdhaaGreatK09
/- The laws' entries: two lists that are the same. -/
set_option maxRecDepth 20000
set_option linter.unusedVariables false
set_option linter.unusedSimpArgs false
namespace Go.Proofs.YtpbibhhjbigdhaaGreat
open Go.Proofs.YtpbibhhjbigdhaaGreat.SL

theorem entC_get0 : ∀ {l : List Ent} {j : Nat}, j < l.length → (entC l)[j * 2]? = some (.int .u64 ((l.getD j (0, [])).1 : Nat))
  | [], j, h => by simp at h
  | e :: l, 0, _ => rfl
  | e :: l, j + 1, h => by
    have ih := entC_get0 (l := l) (j := j) (by simpa using h)
    have : (j + 1) * 2 = j * 2 + 1 + 1 := by omega
    rw [this]
    exact ih
theorem entC_get1 : ∀ {l : List Ent} {j : Nat}, j < l.length → (entC l)[j * 2 + 1]? = some (.string (str (l.getD j (0, [])).2))
  | [], j, h => by simp at h
  | e :: l, 0, _ => rfl
  | e :: l, j + 1, h => by
    have ih := entC_get1 (l := l) (j := j) (by simpa using h)
    have : (j + 1) * 2 + 1 = j * 2 + 1 + 1 + 1 := by omega
    rw [this]
    exact ih

set_option maxHeartbeats 4000000 in
theorem entries_same (a : List Ent) (p q : Option Addr) (c1 c2 : Nat) (ha : a.length < 10000) : Does Tryz.prog 18 [.slice p a.length c1, .slice q a.length c2] [vec 53 2 p a.length c1 (entC a), vec 53 2 q a.length c2 (entC a)]
    (fun v H => v = .bool true ∧ H = [vec 53 2 p a.length c1 (entC a), vec 53 2 q a.length c2 (entC a)]) := by
  refine does_of Tryz.func18 Tryz.ntmps18 rfl rfl rfl (fun w0 F0 => ?_)
  (repeat' (first | refine g_seq (h := ?_) | refine g_region (h := ?_) | refine l_nil (h := ?_) | refine n_then (h := ?_) | refine l_pures1 (h := ?_) | refine g_skip (h := ?_) | refine g_block (h := ?_) | (refine g_spF (h := ?_); intro h)))
  (refine g_loop (fun j : Nat => [(5, .int .i64 j), (0, .slice p a.length c1), (1, .slice q a.length c2)]) (fun j => [vec 53 2 p a.length c1 (entC a), vec 53 2 q a.length c2 (entC a)]) (fun j => j ≤ a.length) (fun j => a.length - j) (0) ?_ ?_ ?_ ?_; rotate_left; (repeat (first | refine ts_nil | (refine ts_cons rfl ?_ ?_; first | (with_reducible rfl) | rotate_left))); (first | (intro _ i; with_reducible refine i) | rotate_left); rotate_left; (try omega); rotate_right)
  · intro j hj
    by_cases hjl : j < a.length
    · refine g_ptr (m := a.length) (p := p) (h := ?_); rintro g1 rfl hc1
      refine g_ptr (m := a.length) (p := q) (h := ?_); rintro g2 rfl hc2
      have hg0 : (entC a)[0 + ((j : Nat) : Int).toNat * 2 + 0]? = some (.int .u64 ((a.getD j (0, [])).1 : Nat)) := (by rw [Nat.zero_add, Nat.add_zero, Int.toNat_natCast]; exact entC_get0 hjl)
      have hg1 : (entC a)[0 + ((j : Nat) : Int).toNat * 2 + 1]? = some (.string (str (a.getD j (0, [])).2)) := (by rw [Nat.zero_add, Int.toNat_natCast]; exact entC_get1 hjl)
      (repeat' (first | refine g_seq (h := ?_) | refine g_region (h := ?_) | refine l_nil (h := ?_) | refine n_then (h := ?_) | refine l_pures1 (h := ?_) | refine g_skip (h := ?_) | refine g_block (h := ?_) | (refine g_spT (h := ?_); intro h)))
      (refine g_draw [vec 53 2 (some ⟨g1, 0, none⟩) a.length c1 (entC a), vec 53 2 (some ⟨g2, 0, none⟩) a.length c2 (entC a)] (h := a_pass2 (h := ?_)))
      (repeat' (first | refine g_region (h := ?_) | refine l_nil (h := ?_) | refine n_then (h := ?_) | refine l_pures1 (h := ?_) | refine l_guard_yes (h := ?_) | refine l_indexAddr (h := ?_) | refine g_skip (h := ?_) | refine a_done (h := ?_) | refine a_one (h := ?_) | refine n_any (h := a_pass2 (h := ?_)) | refine a_v (h := ?_) | refine a_vg (h := ?_) | refine n_block (h := ?_) | refine l_load_vec (h := ?_) | refine a_load_vec (h := a_pass2 (h := ?_)) | refine a_loadg_vec (h := a_pass2 (h := ?_)) | (refine a_spF (h := ?_); intro h) | (refine g_spF (h := ?_); intro h)))
      (refine n_back (j + 1) ?_ ?_ ?_ ?_; rotate_left; rotate_left; (repeat (first | refine ts_nil | (refine ts_cons rfl ?_ ?_; first | (with_reducible rfl) | rotate_left))); (first | (intro _ i; with_reducible refine i) | rotate_left); (try omega); (try omega))
      · rw [wrapI64 (by omega)] <;> rfl
    · (repeat' (first | refine g_seq (h := ?_) | refine g_region (h := ?_) | refine l_nil (h := ?_) | refine n_then (h := ?_) | refine l_pures1 (h := ?_) | refine g_ret (h := ?_) | refine g_exit (h := ?_) | refine n_then_exit (h := ?_) | refine n_block_hit (h := ?_) | (refine g_spF (h := ?_); intro h)))
      refine r_retk [vec 53 2 p a.length c1 (entC a), vec 53 2 q a.length c2 (entC a)] ?_
      exact ⟨rfl, rfl⟩
  all_goals first | rfl | exact Nat.zero_le _

theorem Tr.scan {N : Nat} {S : Sh} {D : Dk} {U : List Int} {root : Int} {T : List Ent} {m : Nat} (k : Tr N S D U root T m) (hm : m < 10000) (sb db x : Nat) (most : Int) (h : -9223372036854775808 ≤ most ∧ most < 9223372036854775808) :
    Does Tryz.prog 17 [.pointer (some ⟨sb, 0, none⟩), .int .i64 root, .int .u64 x, .int .i64 most] [Store sb db S, Disk db D]
      (fun v H => ∃ p cap, v = .tuple #[.slice p ((geE T x).take most.toNat).length cap, .int .i64 0] ∧ H = [vec 53 2 p ((geE T x).take most.toNat).length cap (entC ((geE T x).take most.toNat)), Store sb db S, Disk db D]) :=
  scan_tree sb db x N root most U T S D k.fine k.tree (by have := k.len; omega) h
theorem Tr.scanAll {N : Nat} {S : Sh} {D : Dk} {U : List Int} {root : Int} {T : List Ent} {m : Nat} (k : Tr N S D U root T m) (hm : m ≤ 1000) (sb db : Nat) :
    Does Tryz.prog 17 [.pointer (some ⟨sb, 0, none⟩), .int .i64 root, .int .u64 0, .int .i64 1000] [Store sb db S, Disk db D]
      (fun v H => ∃ p cap, v = .tuple #[.slice p T.length cap, .int .i64 0] ∧ H = [vec 53 2 p T.length cap (entC T), Store sb db S, Disk db D]) := by
  have h := k.scan (by omega) sb db 0 1000 (by omega)
  have e : (geE T 0).take (Int.toNat 1000) = T := by
    have h0 : geE T 0 = T := List.filter_eq_self.2 fun e he => by simp
    rw [h0]
    exact List.take_of_length_le (by have := k.len; simp; omega)
  rw [e] at h
  exact h

theorem entC_cut : ∀ {l : List Ent} {j : Nat}, j < l.length → ((entC l).drop (j * 2)).take 2 = [.int .u64 ((l.getD j (0, [])).1 : Nat), .string (str (l.getD j (0, [])).2)]
  | [], j, h => by simp at h
  | e :: l, 0, _ => rfl
  | e :: l, j + 1, h => by
    have ih := entC_cut (l := l) (j := j) (by simpa using h)
    have : (j + 1) * 2 = j * 2 + 1 + 1 := by omega
    rw [this]
    exact ih
theorem part_ent {l : List Ent} {j : Nat} (h : j < l.length) : partV env 53 (entC l) (0 + ((j : Nat) : Int).toNat * 2) = some (entV (l.getD j (0, []))) := by
  have e : 0 + ((j : Nat) : Int).toNat * 2 = j * 2 := by rw [Int.toNat_natCast, Nat.zero_add]
  have hc : cutL (entC l) (j * 2) 2 = some [.int .u64 ((l.getD j (0, [])).1 : Nat), .string (str (l.getD j (0, [])).2)] := by
    rw [cutL_of (by rw [entC_len]; omega), entC_cut h]
  rw [e]
  show (match cutL (entC l) (j * 2) 2 with
        | some r => some (Value.agg r.toArray)
        | none => none) = _
  rw [hc]
end Go.Proofs.YtpbibhhjbigdhaaGreat
/- TreeOrders. -/
set_option maxRecDepth 20000
set_option linter.unusedVariables false
set_option linter.unusedSimpArgs false
namespace Go.Proofs.YtpbibhhjbigdhaaGreat
open Go.Proofs.YtpbibhhjbigdhaaGreat.SL

theorem rise_ext : ∀ {a b : List Nat}, Rise a → Rise b → (∀ x, x ∈ a ↔ x ∈ b) → a = b
  | [], [], _, _, _ => rfl
  | [], y :: b, _, _, h => by have := (h y).2 (by simp); simp at this
  | x :: a, [], _, _, h => by have := (h x).1 (by simp); simp at this
  | x :: a, y :: b, ha, hb, h => by
    obtain ⟨a1, a2⟩ := List.pairwise_cons.1 ha
    obtain ⟨b1, b2⟩ := List.pairwise_cons.1 hb
    have hxy : x = y := by
      rcases List.mem_cons.1 ((h x).1 (by simp)) with q | q
      · exact q
      · rcases List.mem_cons.1 ((h y).2 (by simp)) with q2 | q2
        · exact q2.symm
        · have := a1 y q2; have := b1 x q; omega
    subst hxy
    congr 1
    refine rise_ext a2 b2 fun z => ?_
    constructor
    · intro hz
      rcases List.mem_cons.1 ((h z).1 (by simp [hz])) with q | q
      · have := a1 z hz; omega
      · exact q
    · intro hz
      rcases List.mem_cons.1 ((h z).2 (by simp [hz])) with q | q
      · have := b1 z hz; omega
      · exact q
theorem ord_keys {T : List Ent} (o : Ord T) : Rise (T.map (·.1)) := List.Pairwise.map _ (fun a b h => h) o
theorem mem_keys {T : List Ent} (o : Ord T) {x : Nat} : x ∈ T.map (·.1) ↔ (getE T x).isSome = true := by
  rw [List.mem_map]
  constructor
  · rintro ⟨⟨y, v⟩, h, rfl⟩
    rw [getE_of o h]; rfl
  · intro h
    obtain ⟨v, hv⟩ := Option.isSome_iff_exists.1 h
    exact ⟨(x, v), getE_mem hv, rfl⟩

/-- Which keys there are. -/
def Keyed (T : List Ent) (f : Nat → Nat) (j : Nat) : Prop := ∀ x, (getE T x).isSome = true ↔ ∃ i, i < j ∧ f i = x
theorem Keyed.put {T : List Ent} {f : Nat → Nat} {j : Nat} (h : Keyed T f j) (v : List UInt8) : Keyed (putE T (f j) v) f (j + 1) := by
  intro x
  rw [getE_put]
  constructor
  · intro q
    by_cases e : x = f j
    · exact ⟨j, by omega, e.symm⟩
    · rw [if_neg e] at q
      obtain ⟨i, h1, h2⟩ := (h x).1 q
      exact ⟨i, by omega, h2⟩
  · rintro ⟨i, h1, rfl⟩
    by_cases e : f i = f j
    · rw [if_pos e]; rfl
    · rw [if_neg e]
      have : i ≠ j := fun q => e (by rw [q])
      exact (h _).2 ⟨i, by omega, rfl⟩

set_option maxHeartbeats 4000000 in
/-- What comes behind the loop. -/
theorem orders_tail (b db xb sb rb b' db' xb' sb' rb' n : Nat) (p : Option Addr) (ks : List Int) (cap : Nat) (o : Obj) (root root' : Int) (S S' : Sh) (D D' : Dk) (T V : List Ent) (k : Tr 400 S D [] root T n) (k' : Tr 400 S' D' [] root' V n) (hn : n ≤ 40) (he : T.map (·.1) = V.map (·.1)) (w0 : World) (F0 : Nat → Prop) :
    G Tryz.prog 201 w0 F0 (nav [1, 1, 1, 1, 1, 1, 1, 1] (bdy Tryz.f6)) (Post Tryz.prog Tryz.f6 w0 F0 (fun v H => v = .bool true ∧ H = [ins p ks.length (ks.map encZ') o]))
      [(6, .pointer (some ⟨b', 0, none⟩)), (4, .pointer (some ⟨b, 0, none⟩)), (3, .bool true), (0, .slice p ks.length cap)] [] [Wd b db xb sb rb root, Store sb db S, Disk db D, Wd b' db' xb' sb' rb' root', Store sb' db' S', Disk db' D', ins p ks.length (ks.map encZ') o] := by
  obtain ⟨c, hc⟩ : ∃ c, c = nav [1, 1, 1, 1, 1, 1, 1, 1] (bdy Tryz.f6) := ⟨_, rfl⟩
  rw [← hc]
  dsimp only [nav, bdy, Tryz.f6, Option.getD] at hc
  subst hc
  have hT := k.len
  have hlen : T.length = V.length := by have := congrArg List.length he; simpa using this
  have h1 := k.scanAll (by omega) sb db
  have h2 := k'.scanAll (by omega) sb' db'
  rw [← hlen] at h2
  have ho := k.tree.ord
  (repeat refine g_seq (h := ?_))
  (refine g_draw [Wd b db xb sb rb root] (h := a_pass2 (h := ?_)))
  (repeat (first | refine g_seq (h := ?_) | refine l_nil (h := ?_) | refine n_then (h := ?_) | (refine l_at 17 ?_; refine l_call_ (h1) ?_; rintro _ _ _ ⟨pa, ca, rfl, rfl⟩ he; cases he) | refine a_done (h := ?_) | refine a_load (h := a_pass2 (h := ?_)) | refine a_one (h := ?_) | refine n_any (h := a_pass2 (h := ?_))))
  (refine g_draw [Wd b' db' xb' sb' rb' root'] (h := a_pass2 (h := ?_)))
  (repeat' (first | refine g_seq (h := ?_) | refine g_region (h := ?_) | refine l_nil (h := ?_) | refine n_then (h := ?_) | refine l_pures1 (h := ?_) | (refine l_at 17 ?_; refine l_call_ (h2) ?_; rintro _ _ _ ⟨pb, cb, rfl, rfl⟩ he; cases he) | refine g_skip (h := ?_) | refine g_block (h := ?_) | refine a_done (h := ?_) | refine a_load (h := a_pass2 (h := ?_)) | refine a_one (h := ?_) | refine n_any (h := a_pass2 (h := ?_)) | (refine g_spF (h := ?_); intro h)))
  (refine g_loop (fun i : Nat => [(18, .int .i64 i), (17, .int .i64 0), (16, .slice pb T.length cb), (15, .int .i64 0), (14, .slice pa T.length ca), (6, .pointer (some ⟨b', 0, none⟩)), (4, .pointer (some ⟨b, 0, none⟩)), (3, .bool true)]) (fun i => [vec 53 2 pa T.length ca (entC T), vec 53 2 pb T.length cb (entC V), Wd b db xb sb rb root, Store sb db S, Disk db D, ins p ks.length (ks.map encZ') o]) (fun i => i ≤ T.length) (fun i => T.length - i) (0) ?_ ?_ ?_ ?_; rotate_left; (repeat (first | refine ts_nil | (refine ts_cons rfl ?_ ?_; first | (with_reducible rfl) | rotate_left))); (first | (intro _ i; with_reducible refine i) | rotate_left); rotate_left; (try omega); rotate_right)
  · intro i hi
    by_cases hil : i < T.length
    · refine g_ptr (m := T.length) (p := pa) (h := ?_); rintro ga rfl hca
      refine g_ptr (m := T.length) (p := pb) (h := ?_); rintro gb rfl hcb
      have hkeq : (V.getD i (0, [])).1 = (T.getD i (0, [])).1 := by
        have := congrArg (fun l => l[i]?) he
        simp only [List.getElem?_map, List.getElem?_eq_getElem hil, List.getElem?_eq_getElem (show i < V.length by omega), Option.map_some, Option.some.injEq] at this
        simp [List.getD, hil, show i < V.length by omega, this]
      have hga : (entC T)[0 + ((i : Nat) : Int).toNat * 2 + 0]? = some (.int .u64 ((T.getD i (0, [])).1 : Nat)) := (by rw [Nat.zero_add, Nat.add_zero, Int.toNat_natCast]; exact entC_get0 hil)
      have hga1 : (entC T)[0 + ((i : Nat) : Int).toNat * 2 + 1]? = some (.string (str (T.getD i (0, [])).2)) := (by rw [Nat.zero_add, Int.toNat_natCast]; exact entC_get1 hil)
      have hgb : (entC V)[0 + ((i : Nat) : Int).toNat * 2 + 0]? = some (.int .u64 ((T.getD i (0, [])).1 : Nat)) := (by rw [Nat.zero_add, Nat.add_zero, Int.toNat_natCast, ← hkeq]; exact entC_get0 (by omega))
      have hget := k.get sb db (T.getD i (0, [])).1
      have hgt : getE T (T.getD i (0, [])).1 = some (T.getD i (0, [])).2 := getE_of ho (getD_mem hil)
      rw [hgt] at hget
      (repeat' (first | refine g_seq (h := ?_) | refine g_region (h := ?_) | refine l_nil (h := ?_) | refine n_then (h := ?_) | refine l_pures1 (h := ?_) | refine g_skip (h := ?_) | refine g_block (h := ?_) | (refine g_spT (h := ?_); intro h)))
      (refine g_draw [vec 53 2 (some ⟨ga, 0, none⟩) T.length ca (entC T), Wd b db xb sb rb root] (h := a_pass2 (h := ?_)))
      (repeat' (first | refine g_seq (h := ?_) | refine l_nil (h := ?_) | refine n_then (h := ?_) | (refine l_atc ?_; refine l_call (hget) ?_) | refine l_indexAddr (h := ?_) | refine a_done (h := ?_) | refine a_load (h := a_pass2 (h := ?_)) | refine a_one (h := ?_) | refine n_any (h := a_pass2 (h := ?_)) | refine l_load_vec (h := ?_)))
      (refine g_draw [vec 53 2 (some ⟨ga, 0, none⟩) T.length ca (entC T), vec 53 2 (some ⟨gb, 0, none⟩) T.length cb (entC V)] (h := a_pass2 (h := ?_)))
      (repeat' (first | refine g_seq (h := ?_) | refine g_region (h := ?_) | refine l_nil (h := ?_) | refine n_then (h := ?_) | refine l_pures1 (h := ?_) | refine l_guard_yes (h := ?_) | refine l_indexAddr (h := ?_) | refine g_skip (h := ?_) | refine g_ret (h := ?_) | refine n_then_ret (h := ?_) | refine n_block_ret (h := ?_) | refine a_done (h := ?_) | refine a_one (h := ?_) | refine n_any (h := a_pass2 (h := ?_)) | refine a_v (h := ?_) | refine a_vg (h := ?_) | refine n_block (h := ?_) | refine l_load_vec (h := ?_) | refine a_load_vec (h := a_pass2 (h := ?_)) | (refine l_spF (h := ?_); intro h) | (refine g_sp (h1 := ?_) (h0 := ?_) <;> intro h)))
      · exact absurd rfl h
      · (refine n_back (i + 1) ?_ ?_ ?_ ?_; rotate_left; rotate_left; (repeat (first | refine ts_nil | (refine ts_cons rfl ?_ ?_; first | (with_reducible rfl) | rotate_left))); (first | (intro _ i; with_reducible refine i) | rotate_left); (try omega); (try omega))
        · rw [wrapI64 (by omega)] <;> rfl
        · skip
          (intro _ i; exact inv_keep parts_of i)
    · (repeat' (first | refine g_seq (h := ?_) | refine g_region (h := ?_) | refine l_nil (h := ?_) | refine n_then (h := ?_) | refine l_pures1 (h := ?_) | refine l_guard_yes (h := ?_) | refine g_ret (h := ?_) | refine g_exit (h := ?_) | refine n_then_exit (h := ?_) | refine n_block_hit (h := ?_) | (refine g_spF (h := ?_); intro h)))
      refine r_retk [ins p ks.length (ks.map encZ') o] ?_
      exact ⟨rfl, rfl⟩
  all_goals first | rfl | exact Nat.zero_le _ | (intro _ i; exact inv_keep parts_of i)

set_option maxHeartbeats 4000000 in
theorem TreeOrders_does (p : Option Addr) (ks : List Int) (cap : Nat) (o : Obj) (hk : ∀ z ∈ ks, (Lit.int .i64 z).wf = true) (hl : ks.length ≤ 9223372036854775807) :
    Does Tryz.prog 6 [.slice p ks.length cap] [ins p ks.length (ks.map encZ') o] (fun v H => v = .bool true ∧ H = [ins p ks.length (ks.map encZ') o]) := by
  obtain ⟨E1, f1, k0⟩ := tr_new (N := 400) (by omega)
  have hb := begins_does (i := 400) (n := 400) rfl (by omega) f1
  obtain ⟨n, hn⟩ : ∃ n : Nat, n = min ks.length 40 := ⟨_, rfl⟩
  have hmin : (bif false then mxI (ks.length : Int) 40 else mnI (ks.length : Int) 40) = (n : Int) := by rw [cond_false, mnI_eq]; omega
  refine does_of Tryz.func6 Tryz.ntmps6 rfl rfl rfl (fun w0 F0 => ?_)
  (repeat' (first | refine g_seq (h := ?_) | refine g_region (h := ?_) | refine l_nil (h := ?_) | refine n_then (h := ?_) | refine l_pures1 (h := ?_) | (refine l_atc ?_; refine l_call (examples_does) ?_) | (refine l_atc ?_; refine l_call_ (hb) ?_; rintro _ _ _ ⟨b, db, xb, sb, rb, rfl, rfl⟩ he; cases he) | refine l_guard_yes (h := ?_) | refine g_skip (h := ?_) | refine g_block (h := ?_) | refine g_cond_f (h := ?_)))
  rename_i b1 db1 xb1 sb1 rb1
  rw [hmin]
  (refine g_loop (fun y : Nat × (Int × Sh × Dk × List Ent) × Int × Sh × Dk × List Ent => [(9, .int .i64 y.1), (8, .int .i64 n), (6, .pointer (some ⟨b, 0, none⟩)), (4, .pointer (some ⟨b1, 0, none⟩)), (3, .bool true), (0, .slice p ks.length cap)]) (fun y => [Wd b1 db1 xb1 sb1 rb1 y.2.1.1, Store sb1 db1 y.2.1.2.1, Disk db1 y.2.1.2.2.1, Wd b db xb sb rb y.2.2.1, Store sb db y.2.2.2.1, Disk db y.2.2.2.2.1, ins p ks.length (ks.map encZ') o]) (fun y => Tr 400 y.2.1.2.1 y.2.1.2.2.1 [] y.2.1.1 y.2.1.2.2.2 y.1 ∧ Tr 400 y.2.2.2.1 y.2.2.2.2.1 [] y.2.2.1 y.2.2.2.2.2 y.1 ∧ Keyed y.2.1.2.2.2 (fun i => keyN (ks.getD i 0)) y.1 ∧ Keyed y.2.2.2.2.2 (fun i => keyN (ks.getD (n - 1 - i) 0)) y.1 ∧ y.1 ≤ n) (fun y => n - y.1) ((0, (0, headNew.over, E1, []), 0, headNew.over, E1, [])) ?_ ?_ ?_ ?_; rotate_left; (repeat (first | refine ts_nil | (refine ts_cons rfl ?_ ?_; first | (with_reducible rfl) | rotate_left))); (first | (intro _ i; with_reducible refine i) | rotate_left); rotate_left; (try omega); rotate_right)
  · rintro ⟨j, ⟨r1, S1, D1, T⟩, r2, S2, D2, V⟩ ⟨k1, k2, e1, e2, hj⟩
    dsimp only at k1 k2 e1 e2 hj ⊢
    by_cases hjl : j < n
    · refine g_open (o := ins_opens (p := p) (m := ks.length) (by omega)) (h := ?_); (rintro ⟨gb, off, row, fr, T0⟩ ⟨rfl, rfl, v5, v6, v7⟩; dsimp only [List.cons_append, List.nil_append])
      have hjk : j < ks.length := by omega
      have hjk2 : n - 1 - j < ks.length := by omega
      have ew : IntKind.i64.wrap (IntKind.i64.wrap ((n : Int) - 1) - (j : Int)) = ((n - 1 - j : Nat) : Int) := by rw [wrapI64 (n := (n : Int) - 1) (by omega), wrapI64 (by omega)]; omega
      have hgt : row[off + j * 1]? = some (.int .i64 (ks.getD j 0)) := ins_get v5 hjk (by rw [List.getElem?_map, List.getD, List.getElem?_eq_getElem hjk]; rfl)
      have hib : 0 ≤ IntKind.i64.wrap (IntKind.i64.wrap ((n : Int) - 1) - (j : Int)) ∧ IntKind.i64.wrap (IntKind.i64.wrap ((n : Int) - 1) - (j : Int)) < ks.length := by rw [ew]; omega
      have hgt2 : row[off + (IntKind.i64.wrap (IntKind.i64.wrap ((n : Int) - 1) - (j : Int))).toNat * 1]? = some (.int .i64 (ks.getD (n - 1 - j) 0)) := by
        rw [ew, Int.toNat_natCast]
        exact ins_get v5 hjk2 (by rw [List.getElem?_map, List.getD, List.getElem?_eq_getElem hjk2]; rfl)
      have hw1 := wf_i64 (hk _ (getD_mem hjk (z := 0)))
      have hw2 := wf_i64 (hk _ (getD_mem hjk2 (z := 0)))
      have hkey1 := key_does (ks.getD j 0) hw1
      have hval1 := value_does (ks.getD j 0) hw1
      have hput1 := k1.put sb1 db1 (keyN (ks.getD j 0)) (valN (ks.getD j 0)) (keyN_lt _) (valN_len _) (by simp; omega)
      have hkey2 := key_does (ks.getD (n - 1 - j) 0) hw2
      have hval2 := value_does (ks.getD (n - 1 - j) 0) hw2
      have hput2 := k2.put sb db (keyN (ks.getD (n - 1 - j) 0)) (valN (ks.getD (n - 1 - j) 0)) (keyN_lt _) (valN_len _) (by simp; omega)
      (repeat' (first | refine g_seq (h := ?_) | refine g_region (h := ?_) | refine l_nil (h := ?_) | refine n_then (h := ?_) | refine l_pures1 (h := ?_) | refine g_skip (h := ?_) | refine g_block (h := ?_) | (refine g_spT (h := ?_); intro h)))
      (refine g_draw [Wd b1 db1 xb1 sb1 rb1 r1, pts gb (.cells row.toArray T0 fr)] (h := a_pass2 (h := ?_)))
      (repeat' (first | refine g_seq (h := ?_) | refine l_nil (h := ?_) | refine n_then (h := ?_) | (refine l_atc ?_; refine l_call (hkey1) ?_) | (refine l_atc ?_; refine l_call (hval1) ?_) | (refine l_atc ?_; refine l_call_ (hput1) ?_; rintro _ _ _ ⟨r1', S1', D1', rfl, rfl, k1', _, _⟩ he; cases he) | refine a_done (h := ?_) | refine a_load (h := a_pass2 (h := ?_)) | refine a_one (h := ?_) | refine n_any (h := a_pass2 (h := ?_)) | refine a_load_p (h := a_pass2 (h := ?_)) | refine a_v (h := ?_) | refine a_w (h := ?_)))
      (refine g_draw [Wd b db xb sb rb r2, pts gb (.cells row.toArray T0 fr)] (h := a_pass2 (h := ?_)))
      (repeat' (first | refine g_seq (h := ?_) | refine g_region (h := ?_) | refine l_nil (h := ?_) | refine n_then (h := ?_) | refine l_pures1 (h := ?_) | (refine l_atc ?_; refine l_call (hkey2) ?_) | (refine l_atc ?_; refine l_call (hval2) ?_) | (refine l_atc ?_; refine l_call_ (hput2) ?_; rintro _ _ _ ⟨r2', S2', D2', rfl, rfl, k2', _, _⟩ he; cases he) | refine l_guard_yes (h := ?_) | refine l_store (h := ?_) | refine g_skip (h := ?_) | refine a_done (h := ?_) | refine a_load (h := a_pass2 (h := ?_)) | refine a_one (h := ?_) | refine n_any (h := a_pass2 (h := ?_)) | refine a_load_p (h := a_pass2 (h := ?_)) | refine a_v (h := ?_) | refine n_block (h := ?_) | refine g_cond_f (h := ?_) | refine a_w (h := ?_)))
      refine n_shut (ins_shuts v5 v6 v7) (h := ?_)
      (refine n_back ((j + 1, (r1', S1', D1', putE T (keyN (ks.getD j 0)) (valN (ks.getD j 0))), r2', S2', D2', putE V (keyN (ks.getD (n - 1 - j) 0)) (valN (ks.getD (n - 1 - j) 0)))) ?_ ?_ ?_ ?_; rotate_left; rotate_left; (repeat (first | refine ts_nil | (refine ts_cons rfl ?_ ?_; first | (with_reducible rfl) | rotate_left))); (first | (intro _ i; with_reducible refine i) | rotate_left); (try omega); (try omega))
      · exact ⟨k1', k2', e1.put _, e2.put (f := fun i => keyN (ks.getD (n - 1 - i) 0)) _, hjl⟩
      · dsimp only; omega
      · rw [wrapI64 (by omega)] <;> rfl
      · skip
        (intro _ i; exact inv_keep parts_of i)
    · obtain rfl : j = n := by omega
      have he : T.map (·.1) = V.map (·.1) := rise_ext (ord_keys k1.tree.ord) (ord_keys k2.tree.ord) fun x => by
        rw [mem_keys k1.tree.ord, mem_keys k2.tree.ord, e1, e2]
        constructor
        · rintro ⟨i, h1, h2⟩
          exact ⟨j - 1 - i, by omega, by dsimp only; rw [show j - 1 - (j - 1 - i) = i by omega]; exact h2⟩
        · rintro ⟨i, h1, h2⟩
          exact ⟨j - 1 - i, by omega, h2⟩
      (repeat' (first | ((with_reducible show G _ _ _ _ (Code.seq (Code.region 18 _ _) _) _ _ _ _); exact g_bang (orders_tail b1 db1 xb1 sb1 rb1 b db xb sb rb j p ks cap o r1 r2 S1 S2 D1 D2 T V k1 k2 (by omega) he w0 F0)) | refine g_seq (h := ?_) | refine g_region (h := ?_) | refine l_nil (h := ?_) | refine n_then (h := ?_) | refine l_pures1 (h := ?_) | refine g_exit (h := ?_) | refine n_then_exit (h := ?_) | refine n_block_hit (h := ?_) | (refine g_spF (h := ?_); intro h)))
  · exact ⟨k0, k0, fun x => by simp [getE], fun x => by simp [getE], Nat.zero_le _⟩
  · rfl
  · skip
    (intro _ i; exact inv_keep parts_of i)
end Go.Proofs.YtpbibhhjbigdhaaGreat
/- TreeStops. -/
set_option maxRecDepth 20000
set_option linter.unusedVariables false
set_option linter.unusedSimpArgs false
namespace Go.Proofs.YtpbibhhjbigdhaaGreat
open Go.Proofs.YtpbibhhjbigdhaaGreat.SL

/-- The keys that were met are those of the tree. -/
def Met (kv : List (Int × Bool)) (T : List Ent) : Prop := ∀ x : Nat, (kvGet kv (x : Int)).getD false = (getE T x).isSome
theorem Met.put {kv : List (Int × Bool)} {T : List Ent} (h : Met kv T) (x : Nat) (v : List UInt8) : Met (kvPut kv x true) (putE T x v) := by
  intro y
  rw [kvGet_put, getE_put]
  by_cases q : y = x
  · subst q; simp
  · rw [if_neg (by omega), if_neg q]; exact h y

set_option maxHeartbeats 4000000 in
/-- What comes behind the loop. -/
theorem stops_tail (b db xb sb rb mb x j : Nat) (p : Option Addr) (ks : List Int) (cap : Nat) (o : Obj) (long root : Int) (S : Sh) (D : Dk) (T : List Ent) (kv : List (Int × Bool)) (k : Tr 100 S D [] root T j) (hm : Met kv T) (h1 : 0 ≤ long ∧ long < 256) (h2 : x < 18446744073709551616) (w0 : World) (F0 : Nat → Prop) :
    G Tryz.prog 186 w0 F0 (nav [1, 1, 1, 1, 1, 1, 1] (bdy Tryz.f4)) (Post Tryz.prog Tryz.f4 w0 F0 (fun v H => v = .bool true ∧ H = [ins p ks.length (ks.map encZ') o]))
      [(10, .map (some mb)), (8, .pointer (some ⟨b, 0, none⟩)), (7, .bool true), (0, .slice p ks.length cap), (1, .int .u8 long), (2, .int .u64 x)] [] [mpk .u64 mb Value.bool kv, Wd b db xb sb rb root, Store sb db S, Disk db D, ins p ks.length (ks.map encZ') o] := by
  obtain ⟨c, hc⟩ : ∃ c, c = nav [1, 1, 1, 1, 1, 1, 1] (bdy Tryz.f4) := ⟨_, rfl⟩
  rw [← hc]
  dsimp only [nav, bdy, Tryz.f4, Option.getD] at hc
  subst hc
  have hL := sLeft_does sb db S D
  have hlong := putLong_does sb x root (List.take (41 + long).toNat (List.drop 0 (List.replicate (41 + long).toNat 0))) (by simp; omega) (by simp; omega)
  have hget := k.get sb db x
  have ew : IntKind.i64.wrap long = long := wrapI64 (by omega)
  have ew2 : IntKind.i64.wrap (41 + long) = 41 + long := wrapI64 (by omega)
  (repeat (first | refine g_seq (h := ?_) | refine g_region (h := ?_) | refine l_nil (h := ?_) | refine n_then (h := ?_) | refine l_pures1 (h := ?_) | (refine l_at 15 ?_; refine l_call (hL) ?_) | refine l_load (h := ?_)))
  (refine g_draw [Wd b db xb sb rb root] (h := a_pass2 (h := ?_)))
  (repeat (first | refine a_load (h := a_pass2 (h := ?_)) | refine a_one (h := ?_)))
  rw [ew, ew2]
  (repeat (first | refine l_nil (h := ?_) | (refine l_makeSlice (h := ?_); intro _) | refine a_one (h := ?_) | refine n_any (h := a_pass2 (h := ?_))))
  rw [bsV0]
  (repeat (first | refine g_seq (h := ?_) | refine l_nil (h := ?_) | refine n_then (h := ?_) | (refine l_at 11 ?_; refine l_call (hlong) ?_) | refine l_str_bs (h := ?_) | refine a_done (h := ?_) | refine a_one (h := ?_) | refine n_any (h := a_pass2 (h := ?_))))
  (refine g_draw [Wd b db xb sb rb root] (h := a_pass2 (h := ?_)))
  (repeat (first | refine g_seq (h := ?_) | refine g_region (h := ?_) | refine l_nil (h := ?_) | refine n_then (h := ?_) | refine l_pures1 (h := ?_) | (refine l_at 16 ?_; refine l_call (hget) ?_) | refine a_done (h := ?_) | refine a_load (h := a_pass2 (h := ?_)) | refine a_one (h := ?_) | refine n_any (h := a_pass2 (h := ?_)) | refine l_lookup_k _ (h := ?_)))
  rw [hm x]
  cases hx : getE T x with
  | some u =>
    (repeat' (first | refine g_seq (h := ?_) | refine g_region (h := ?_) | refine l_nil (h := ?_) | refine n_then (h := ?_) | refine l_pures1 (h := ?_) | refine l_guard_yes (h := ?_) | refine g_ret (h := ?_) | refine n_then_ret (h := ?_) | refine g_cond_t (h := ?_)))
    refine r_retk [ins p ks.length (ks.map encZ') o] ?_
    exact ⟨rfl, rfl⟩
  | none =>
    have hdel := k.delNo sb db x hx
    (repeat (first | refine g_seq (h := ?_) | refine n_then (h := ?_) | refine g_skip (h := ?_) | refine g_cond_f (h := ?_)))
    (refine g_draw [Wd b db xb sb rb root] (h := a_pass2 (h := ?_)))
    (repeat' (first | refine g_seq (h := ?_) | refine g_region (h := ?_) | refine l_nil (h := ?_) | refine n_then (h := ?_) | refine l_pures1 (h := ?_) | (refine l_at 14 ?_; refine l_call (hdel) ?_) | (refine l_at 15 ?_; refine l_call (hL) ?_) | refine l_guard_yes (h := ?_) | refine l_load (h := ?_) | refine g_ret (h := ?_) | refine a_done (h := ?_) | refine a_load (h := a_pass2 (h := ?_)) | refine a_one (h := ?_) | refine n_any (h := a_pass2 (h := ?_)) | (refine l_spT (h := ?_); intro h)))
    refine r_retk [ins p ks.length (ks.map encZ') o] ?_
    exact ⟨by simp [packV], rfl⟩

set_option maxHeartbeats 4000000 in
theorem TreeStops_does (p : Option Addr) (ks : List Int) (cap : Nat) (o : Obj) (long other : Int) (hk : ∀ z ∈ ks, (Lit.int .i64 z).wf = true) (hl : ks.length ≤ 9223372036854775807) (h1 : 0 ≤ long ∧ long < 256) (h2 : 0 ≤ other ∧ other < 18446744073709551616) :
    Does Tryz.prog 4 [.slice p ks.length cap, .int .u8 long, .int .u64 other] [ins p ks.length (ks.map encZ') o] (fun v H => v = .bool true ∧ H = [ins p ks.length (ks.map encZ') o]) := by
  obtain ⟨x, rfl⟩ : ∃ x : Nat, other = x := ⟨other.toNat, by omega⟩
  obtain ⟨E1, f1, k0⟩ := tr_new (N := 100) (by omega)
  have hb := begins_does (i := 100) (n := 100) rfl (by omega) f1
  refine does_of Tryz.func4 Tryz.ntmps4 rfl rfl rfl (fun w0 F0 => ?_)
  (repeat' (first | refine g_seq (h := ?_) | refine g_region (h := ?_) | refine l_nil (h := ?_) | refine n_then (h := ?_) | refine l_pures1 (h := ?_) | (refine l_atc ?_; refine l_call (examples_does) ?_) | (refine l_atc ?_; refine l_call_ (hb) ?_; rintro _ _ _ ⟨b, db, xb, sb, rb, rfl, rfl⟩ he; cases he) | refine g_skip (h := ?_) | refine g_cond_f (h := ?_)))
  (refine l_makeMap_k (.u64) (Value.bool) (h := ?_); intro _)
  (repeat (first | refine g_seq (h := ?_) | refine g_region (h := ?_) | refine l_nil (h := ?_) | refine n_then (h := ?_) | refine l_pures1 (h := ?_) | refine g_block (h := ?_)))
  rename_i mb
  (refine g_loop (fun y : Nat × Int × Sh × Dk × List Ent × List (Int × Bool) => [(11, .int .i64 y.1), (10, .map (some mb)), (8, .pointer (some ⟨b, 0, none⟩)), (7, .bool true), (0, .slice p ks.length cap), (1, .int .u8 long), (2, .int .u64 x)]) (fun y => [mpk .u64 mb Value.bool y.2.2.2.2.2, Wd b db xb sb rb y.2.1, Store sb db y.2.2.1, Disk db y.2.2.2.1, ins p ks.length (ks.map encZ') o]) (fun y => Tr 100 y.2.2.1 y.2.2.2.1 [] y.2.1 y.2.2.2.2.1 y.1 ∧ Met y.2.2.2.2.2 y.2.2.2.2.1 ∧ y.1 ≤ ks.length ∧ y.1 ≤ 20) (fun y => ks.length - y.1) ((0, 0, headNew.over, E1, [], [])) ?_ ?_ ?_ ?_; rotate_left; (repeat (first | refine ts_nil | (refine ts_cons rfl ?_ ?_; first | (with_reducible rfl) | rotate_left))); (first | (intro _ i; with_reducible refine i) | rotate_left); rotate_left; (try omega); rotate_right)
  · rintro ⟨j, root, S, D, T, kv⟩ ⟨k, hm, hj, hj20⟩
    dsimp only at k hm hj hj20 ⊢
    by_cases hjl : j < ks.length ∧ j < 20
    · refine g_open (o := ins_opens (p := p) (m := ks.length) (by omega)) (h := ?_); (rintro ⟨gb, off, row, fr, T0⟩ ⟨rfl, rfl, v5, v6, v7⟩; dsimp only [List.cons_append, List.nil_append])
      have hgt : row[off + j * 1]? = some (.int .i64 (ks.getD j 0)) := ins_get v5 hjl.1 (by rw [List.getElem?_map, List.getD, List.getElem?_eq_getElem hjl.1]; rfl)
      have hw := wf_i64 (hk _ (getD_mem hjl.1 (z := 0)))
      have hkey := key_does (ks.getD j 0) hw
      have hval := value_does (j : Int) (by omega)
      have hput := k.put sb db (keyN (ks.getD j 0)) (valN j) (keyN_lt _) (valN_len _) (by simp; omega)
      (repeat' (first | refine g_seq (h := ?_) | refine g_region (h := ?_) | refine l_nil (h := ?_) | refine n_then (h := ?_) | refine l_pures1 (h := ?_) | refine l_guard_yes (h := ?_) | refine g_skip (h := ?_) | refine g_block (h := ?_) | (refine l_spT (h := ?_); intro h) | (refine g_spT (h := ?_); intro h)))
      (refine g_draw [Wd b db xb sb rb root, pts gb (.cells row.toArray T0 fr)] (h := a_pass2 (h := ?_)))
      (repeat' (first | refine g_seq (h := ?_) | refine g_region (h := ?_) | refine l_nil (h := ?_) | refine n_then (h := ?_) | refine l_pures1 (h := ?_) | (refine l_atc ?_; refine l_call (hkey) ?_) | (refine l_atc ?_; refine l_call (hval) ?_) | (refine l_atc ?_; refine l_call_ (hput) ?_; rintro _ _ _ ⟨r', S', D', rfl, rfl, k', g', r2⟩ he; cases he) | refine l_store (h := ?_) | refine l_load_p (h := ?_) | refine l_indexAddr (h := ?_) | refine g_skip (h := ?_) | refine a_done (h := ?_) | refine a_load (h := a_pass2 (h := ?_)) | refine a_one (h := ?_) | refine n_any (h := a_pass2 (h := ?_)) | refine n_block (h := ?_) | refine g_cond_f (h := ?_) | refine l_mapUpdate_k (h := ?_)))
      refine n_shut (ins_shuts v5 v6 v7) (h := ?_)
      (refine n_back ((j + 1, r', S', D', putE T (keyN (ks.getD j 0)) (valN j), kvPut kv (keyN (ks.getD j 0) : Nat) true)) ?_ ?_ ?_ ?_; rotate_left; rotate_left; (repeat (first | refine ts_nil | (refine ts_cons rfl ?_ ?_; first | (with_reducible rfl) | rotate_left))); (first | (intro _ i; with_reducible refine i) | rotate_left); (try omega); (try omega))
      · exact ⟨k', hm.put _ _, hjl.1, hjl.2⟩
      · dsimp only; omega
      · rw [wrapI64 (by omega)]; rfl
      · skip
        (intro _ i; exact inv_keep parts_of i)
    · have hx64 : x < 18446744073709551616 := by omega
      (repeat' (first | ((with_reducible show G _ _ _ _ (Code.seq (Code.region 16 _ _) _) _ _ _ _); exact g_bang (stops_tail b db xb sb rb mb x j p ks cap o long root S D T kv k hm h1 hx64 w0 F0)) | refine g_seq (h := ?_) | refine g_region (h := ?_) | refine l_nil (h := ?_) | refine n_then (h := ?_) | refine l_pures1 (h := ?_) | refine l_guard_yes (h := ?_) | refine l_guard_no (h := ?_) | refine g_exit (h := ?_) | refine n_then_exit (h := ?_) | refine n_block_hit (h := ?_) | refine g_cond_f (h := ?_) | (refine l_sp (h1 := ?_) (h0 := ?_) <;> intro h) | (refine g_spF (h := ?_); intro h)))
  · exact ⟨k0, fun y => rfl, Nat.zero_le _, Nat.zero_le _⟩
  · rfl
end Go.Proofs.YtpbibhhjbigdhaaGreat
/- Package tree: even. -/
set_option maxRecDepth 20000
set_option linter.unusedVariables false
set_option linter.unusedSimpArgs false
namespace Go.Proofs.YtpbibhhjbigdhaaGreat
open Go.Proofs.YtpbibhhjbigdhaaGreat.SL

/-- Which one of two neighbours stands first. -/
def fstN (i : Nat) (bd n : Nd) : Nd := if i = 0 then n else bd
def sndN (i : Nat) (bd n : Nd) : Nd := if i = 0 then bd else n
def othN (i : Nat) : Nat := if i = 0 then 1 else i - 1
def lefN (i : Nat) : Nat := i - 1

/-- Up to where both nodes are in hand. -/
abbrev evT (b b5 b8 b12 b13 : Nat) (l : Int) : List (Nat × Value) := [(9, .int .i64 l), (8, .pointer (some ⟨b8, 0, none⟩)), (5, .pointer (some ⟨b5, 0, none⟩)), (12, .pointer (some ⟨b12, 0, none⟩)), (13, .pointer (some ⟨b13, 0, none⟩)), (0, .pointer (some ⟨b, 0, none⟩))]
abbrev evH (b5 b8 b12 b13 : Nat) (spg : Int) (d : Nd) (r : Rw) (i : Nat) (x y : Nd) (rx ry : Rw) (A B C : SProp) : List SProp :=
  [cl b8 79 #[.bool false, .slice none 0 0, .slice none 0 0, .slice none 0 0].toList, cl b5 83 [.int .i64 spg, .bool d.leaf, .slice r.p1 d.keys.length r.c1, .slice r.p2 d.vals.length r.c2, .slice r.p3 d.kids.length r.c3, .int .i64 i], cl b12 79 (ndA x rx).toList, cl b13 79 (ndA y ry).toList, Nds d r, Nds x rx, Nds y ry, A, B, C]

set_option maxHeartbeats 4000000 in
theorem even_head (b sb db deep i : Nat) (spg : Int) (d n bd : Nd) (r rn : Rw) (read : Int) (S : Sh) (D : Dk) (q : Value → List SProp → Prop) (hs : d.good) (hsl : d.leaf = false) (hi : i ≤ d.keys.length) (hk : d.keys ≠ []) (hbd : bd.good) (hlf : bd.leaf = n.leaf)
    (hr : S.read D (d.kids.getD (othN i) 0) = ((2, bd.text, 0), S)) (h1 : 0 ≤ read ∧ read < 640) (h2 : deep + 1 ≤ 10)
    (hT : ∀ w0 F0 b5 b8 b12 b13 r rx ry, G Tryz.prog 156 w0 F0 (nav [1, 1, 1, 1, 1, 1, 1, 1] (bdy Tryz.f38)) (Post Tryz.prog Tryz.f38 w0 F0 q)
      (evT b b5 b8 b12 b13 (lefN i)) [] (evH b5 b8 b12 b13 spg d r i (fstN i bd n) (sndN i bd n) rx ry (Wk b sb (read + 1) 0) (Store sb db S) (Disk db D))) :
    Does Tryz.prog 38 [.pointer (some ⟨b, 0, none⟩), .agg #[.int .i64 spg, .bool d.leaf, .slice r.p1 d.keys.length r.c1, .slice r.p2 d.vals.length r.c2, .slice r.p3 d.kids.length r.c3, .int .i64 i], ndV n rn, .int .i64 deep] [Nds d r, Nds n rn, Wk b sb read 0, Store sb db S, Disk db D] q := by
  have hkl := kidsLen hs.p hsl
  have hkp : 0 < d.keys.length := List.length_pos_iff.2 hk
  have hfk := hs.fits.k
  have hrd := wNode_does b sb db (deep + 1) (d.kids.getD (othN i) 0) read S D bd hbd hr h1 h2
  have ed : IntKind.i64.wrap ((deep : Int) + 1) = ((deep + 1 : Nat) : Int) := by rw [wrapI64 (by omega)]; rfl
  rw [← ed] at hrd
  obtain ⟨p1, c1, p2, c2, p3, c3⟩ := r
  refine does_of Tryz.func38 Tryz.ntmps38 rfl rfl rfl (fun w0 F0 => ?_)
  dsimp only
  (repeat (first | refine g_seq (h := ?_) | refine g_region (h := ?_) | refine l_nil (h := ?_) | refine n_then (h := ?_) | (refine l_box (h := ?_); intro _) | (refine l_alloc (h := ?_); intro _)))
  rename_i b5 b6 b8
  (refine g_draw [cl b5 83 _] (h := a_pass2 (h := ?_)))
  (repeat (first | refine g_seq (h := ?_) | refine g_region (h := ?_) | refine l_nil (h := ?_) | refine n_then (h := ?_) | refine l_pures1 (h := ?_) | refine l_load (h := ?_) | refine a_done (h := ?_) | refine a_load (h := a_pass2 (h := ?_))))
  refine g_open (A := Nds d ⟨p1, c1, p2, c2, p3, c3⟩) (h := ?_); (rintro _ _; dsimp only [NdsK, List.cons_append, List.nil_append])
  refine g_ptr (m := d.kids.length) (h := ?_); rintro g3 rfl hc3
  cases i with
  | zero =>
    have hgk : (d.kids.map encZ')[0 + Int.toNat 1 * 1]? = some (.int .i64 (d.kids.getD 1 0)) := iGet (l := d.kids) (k := 1) (by omega)
    dsimp only [othN, fstN, sndN] at hrd hT
    simp only [if_true, show ((lefN 0 : Nat) : Int) = 0 from rfl] at hrd hT
    (repeat' (first | refine g_seq (h := ?_) | refine g_region (h := ?_) | refine l_nil (h := ?_) | refine n_then (h := ?_) | refine l_pures1 (h := ?_) | (refine l_atc ?_; refine l_call_ (hrd) ?_; rintro _ _ _ ⟨rb, rfl, rfl⟩ he; cases he) | refine l_load (h := ?_) | refine l_store (h := ?_) | (refine l_alloc (h := ?_); intro _) | refine l_indexAddr (h := ?_) | refine g_skip (h := ?_) | refine g_cond_t (h := ?_) | refine g_cond_f (h := ?_) | refine l_load_vec (h := ?_) | (refine g_sp (h1 := ?_) (h0 := ?_) <;> intro h)))
    · exact absurd hlf (by assumption)
    rename_i b11
    (refine g_shut (A := Nds d ⟨p1, c1, p2, c2, some ⟨g3, 0, none⟩, c3⟩) (K := NdsK d ⟨p1, c1, p2, c2, some ⟨g3, 0, none⟩, c3⟩ (())) (hid_shuts (()) trivial) (h := ?_) (p := by dsimp only [NdsK]; (try simp only [List.map_nil, List.length_nil, List.length_set, List.length_append, List.length_cons, List.length_singleton, List.map_append, List.map_cons, Nat.zero_add]); exact parts_of))
    (refine g_draw [cl b11 79 _, cl b6 79 _] (h := a_pass2 (h := ?_)))
    (repeat' (first | ((with_reducible show G _ _ _ _ (Code.seq (Code.region 13 _ _) _) _ _ _ _); exact g_bang (hT w0 F0 b5 b8 _ _ ⟨p1, c1, p2, c2, some ⟨g3, 0, none⟩, c3⟩ rn rb)) | refine g_seq (h := ?_) | refine g_region (h := ?_) | refine l_nil (h := ?_) | refine n_then (h := ?_) | refine l_pures1 (h := ?_) | refine l_load (h := ?_) | refine l_store (h := ?_) | (refine l_alloc (h := ?_); intro _) | refine a_done (h := ?_) | refine a_load (h := a_pass2 (h := ?_)) | refine a_one (h := ?_) | refine n_any (h := a_pass2 (h := ?_)) | refine g_cond_t (h := ?_) | refine a_fork2 (h1 := ?_) (h2 := ?_) | refine a1_of (h := ?_)))
  | succ i =>
    have ew : IntKind.i64.wrap (((i + 1 : Nat) : Int) - 1) = (i : Int) := by rw [wrapI64 (by omega)]; omega
    have hgk : (d.kids.map encZ')[0 + ((i : Nat) : Int).toNat * 1]? = some (.int .i64 (d.kids.getD i 0)) := iGet (l := d.kids) (k := i) (by omega)
    dsimp only [othN, fstN, sndN] at hrd hT
    simp only [show ((lefN (i + 1) : Nat) : Int) = (i : Int) from rfl, Nat.add_eq_zero_iff, Nat.one_ne_zero, and_false, if_false, Nat.add_sub_cancel] at hrd hT
    rw [ew]
    (repeat' (first | refine g_seq (h := ?_) | refine g_region (h := ?_) | refine l_nil (h := ?_) | refine n_then (h := ?_) | refine l_pures1 (h := ?_) | (refine l_atc ?_; refine l_call_ (hrd) ?_; rintro _ _ _ ⟨rb, rfl, rfl⟩ he; cases he) | refine l_load (h := ?_) | refine l_store (h := ?_) | (refine l_alloc (h := ?_); intro _) | refine l_indexAddr (h := ?_) | refine g_skip (h := ?_) | refine g_cond_f (h := ?_) | refine l_load_vec (h := ?_) | (refine g_sp (h1 := ?_) (h0 := ?_) <;> intro h)))
    · exact absurd hlf (by assumption)
    rename_i b11
    (refine g_shut (A := Nds d ⟨p1, c1, p2, c2, some ⟨g3, 0, none⟩, c3⟩) (K := NdsK d ⟨p1, c1, p2, c2, some ⟨g3, 0, none⟩, c3⟩ (())) (hid_shuts (()) trivial) (h := ?_) (p := by dsimp only [NdsK]; (try simp only [List.map_nil, List.length_nil, List.length_set, List.length_append, List.length_cons, List.length_singleton, List.map_append, List.map_cons, Nat.zero_add]); exact parts_of))
    (refine g_draw [cl b11 79 _, cl b6 79 _] (h := a_pass2 (h := ?_)))
    (repeat' (first | ((with_reducible show G _ _ _ _ (Code.seq (Code.region 13 _ _) _) _ _ _ _); exact g_bang (hT w0 F0 b5 b8 _ _ ⟨p1, c1, p2, c2, some ⟨g3, 0, none⟩, c3⟩ rb rn)) | refine g_seq (h := ?_) | refine g_region (h := ?_) | refine l_nil (h := ?_) | refine n_then (h := ?_) | refine l_pures1 (h := ?_) | refine l_store (h := ?_) | (refine l_alloc (h := ?_); intro _) | refine g_skip (h := ?_) | refine a_done (h := ?_) | refine a_load (h := a_pass2 (h := ?_)) | refine a_one (h := ?_) | refine n_any (h := a_pass2 (h := ?_)) | (refine g_spF (h := ?_); intro h) | refine a_fork2 (h1 := ?_) (h2 := ?_) | refine a1_of (h := ?_)))
end Go.Proofs.YtpbibhhjbigdhaaGreat
/- Package tree: even, two nodes joined, or dealt anew. -/
set_option maxRecDepth 20000
set_option linter.unusedVariables false
set_option linter.unusedSimpArgs false
namespace Go.Proofs.YtpbibhhjbigdhaaGreat
open Go.Proofs.YtpbibhhjbigdhaaGreat.SL

theorem set_uV {l : List Nat} {j k : Nat} : (uV l).set (0 + ((j : Nat) : Int).toNat * 1) (Value.int .u64 (k : Nat)) = uV (l.set j k) := by rw [Nat.zero_add, Nat.mul_one, Int.toNat_natCast, uV, uV, List.map_set]
theorem set_encZ {l : List Int} {j : Nat} {m : Int} : (l.map encZ').set (0 + ((j : Nat) : Int).toNat * 1) (Value.int .i64 m) = (l.set j m).map encZ' := by rw [Nat.zero_add, Nat.mul_one, Int.toNat_natCast, List.map_set]; rfl
set_option maxHeartbeats 4000000 in
theorem even_merge (b sb db i j : Nat) (spg : Int) (d x y : Nd) (rd m : Int) (S S1 S2 : Sh) (D D1 : Dk) (hs : d.good) (hsl : d.leaf = false) (hj : j < d.keys.length) (hx : x.fits) (hy : y.fits) (hlf : y.leaf = x.leaf) (hall : (x.both (d.keys.getD j 0) y).fits)
    (hz : (x.both (d.keys.getD j 0) y).size ≤ 240)
    (hL : ∀ r, Does Tryz.prog 35 [.pointer (some ⟨b, 0, none⟩), .int .i64 (d.kids.getD j 0), ndV (x.both (d.keys.getD j 0) y) r] [Wk b sb rd 0, Store sb db S, Disk db D, Nds (x.both (d.keys.getD j 0) y) r] (fun v H => v = .int .i64 m ∧ H = [Wk b sb rd 0, Store sb db S1, Disk db D1, Nds (x.both (d.keys.getD j 0) y) r]))
    (hg : S1.give (d.kids.getD (j + 1) 0) = (0, S2)) (hkb : -9223372036854775808 ≤ d.kids.getD (j + 1) 0 ∧ d.kids.getD (j + 1) 0 < 9223372036854775808)
    (w0 : World) (F0 : Nat → Prop) (b5 b8 b12 b13 : Nat) (r rx ry : Rw) :
    G Tryz.prog 156 w0 F0 (nav [1, 1, 1, 1, 1, 1, 1, 1] (bdy Tryz.f38)) (Post Tryz.prog Tryz.f38 w0 F0 (fun v H => ∃ r, v = ndV (Nd.unhang { d with kids := d.kids.set j m } j) r ∧ H = [Nds (Nd.unhang { d with kids := d.kids.set j m } j) r, Wk b sb rd 0, Store sb db S2, Disk db D1]))
      (evT b b5 b8 b12 b13 (j : Nat)) [] (evH b5 b8 b12 b13 spg d r i x y rx ry (Wk b sb rd 0) (Store sb db S) (Disk db D)) := by
  have hkl := kidsLen hs.p hsl
  have hfk := hs.fits.k
  have hB := tBoth_does x y rx ry (d.keys.getD j 0) hx hy hlf
  have hZ := fun r => ndSize_does (x.both (d.keys.getD j 0) y) r hall
  have hG := sGive_does sb db S1 (d.kids.getD (j + 1) 0) hkb
  rw [hg] at hG
  dsimp only at hG
  have hF := wFail0_does b sb rd
  have ew : IntKind.i64.wrap ((j : Int) + 1) = ((j + 1 : Nat) : Int) := by rw [wrapI64 (by omega)]; rfl
  have hib : 0 ≤ IntKind.i64.wrap ((j : Int) + 1) ∧ IntKind.i64.wrap ((j : Int) + 1) < d.kids.length := by rw [ew]; omega
  have hgi2 : ((d.kids.set j m).map encZ')[0 + (IntKind.i64.wrap ((j : Int) + 1)).toNat * 1]? = some (.int .i64 (d.kids.getD (j + 1) 0)) := by
    rw [ew]
    have := iGet (l := d.kids.set j m) (k := j + 1) (by simp; omega)
    rw [this, List.getD, List.getD, List.getElem?_set_ne (by omega)]
  obtain ⟨p1, c1, p2, c2, p3, c3⟩ := r
  obtain ⟨c, hc⟩ : ∃ c, c = nav [1, 1, 1, 1, 1, 1, 1, 1] (bdy Tryz.f38) := ⟨_, rfl⟩
  rw [← hc]
  dsimp only [nav, bdy, Tryz.f38, Option.getD] at hc
  subst hc
  dsimp only [evT, evH]
  refine g_open (A := Nds d ⟨p1, c1, p2, c2, p3, c3⟩) (h := ?_); (rintro _ _; dsimp only [NdsK, List.cons_append, List.nil_append])
  refine g_ptr (m := d.kids.length) (h := ?_); rintro g3 rfl hc3
  refine g_ptr (m := d.keys.length) (h := ?_); rintro g1 rfl hc1
  have hgk := uGet (l := d.keys) (k := j) hj
  have hgi := iGet (l := d.kids) (k := j) (by omega)
  have hU := nUnhang_does { d with kids := d.kids.set j m } ⟨some ⟨g1, 0, none⟩, c1, p2, c2, some ⟨g3, 0, none⟩, c3⟩ j hsl ⟨hfk, by simpa using hs.fits.i, hs.fits.v, hs.fits.s⟩ hj (show d.vals = [] from noVals hs.p hsl)
  have hU2 : Does Tryz.prog 75 [.agg #[.bool d.leaf, .slice (some ⟨g1, 0, none⟩) d.keys.length c1, .slice p2 d.vals.length c2, .slice (some ⟨g3, 0, none⟩) d.kids.length c3], .int .i64 j] [Nds { d with kids := d.kids.set j m } ⟨some ⟨g1, 0, none⟩, c1, p2, c2, some ⟨g3, 0, none⟩, c3⟩] (fun u H => ∃ r', u = ndV (Nd.unhang { d with kids := d.kids.set j m } j) r' ∧ H = [Nds (Nd.unhang { d with kids := d.kids.set j m } j) r', Nds { d with kids := d.kids.set j m } ⟨some ⟨g1, 0, none⟩, c1, p2, c2, some ⟨g3, 0, none⟩, c3⟩]) := by
    have e : ndV { d with kids := d.kids.set j m } ⟨some ⟨g1, 0, none⟩, c1, p2, c2, some ⟨g3, 0, none⟩, c3⟩ = .agg #[.bool d.leaf, .slice (some ⟨g1, 0, none⟩) d.keys.length c1, .slice p2 d.vals.length c2, .slice (some ⟨g3, 0, none⟩) d.kids.length c3] := by simp
    rw [← e]; exact hU
  (repeat (first | refine g_seq (h := ?_) | refine g_region (h := ?_) | refine l_nil (h := ?_) | refine n_then (h := ?_) | refine l_pures1 (h := ?_) | refine l_load (h := ?_) | refine l_store (h := ?_) | (refine l_alloc (h := ?_); intro _)))
  rename_i b14
  (refine g_draw [cl b12 79 (ndA x rx).toList, cl b13 79 (ndA y ry).toList, cl b14 79 _, vec 38 1 (some ⟨g1, 0, none⟩) d.keys.length c1 (uV d.keys)] (h := a_pass2 (h := ?_)))
  (repeat' (first | refine g_seq (h := ?_) | refine g_region (h := ?_) | refine l_nil (h := ?_) | refine n_then (h := ?_) | refine l_pures1 (h := ?_) | (refine l_atc ?_; refine l_call_ (hB) ?_; rintro _ _ _ ⟨r15, rfl, rfl⟩ he; cases he) | (refine l_atc ?_; refine l_call (hZ _) ?_) | refine l_load (h := ?_) | refine l_store (h := ?_) | (refine l_alloc (h := ?_); intro _) | refine a_done (h := ?_) | refine a_load (h := a_pass2 (h := ?_)) | refine a_one (h := ?_) | refine n_any (h := a_pass2 (h := ?_)) | refine a_v (h := ?_) | refine a_load_vec (h := a_pass2 (h := ?_)) | (refine g_spT (h := ?_); intro h) | refine a_fork2 (h1 := ?_) (h2 := ?_) | refine a1_of (h := ?_)))
  all_goals rename_i b15
  all_goals
    (refine g_draw [cl b14 79 [.bool d.leaf, .slice (some ⟨g1, 0, none⟩) d.keys.length c1, .slice p2 d.vals.length c2, .slice (some ⟨g3, 0, none⟩) d.kids.length c3], cl b15 79 (ndA (x.both (d.keys.getD j 0) y) r15).toList] (h := a_pass2 (h := ?_)))
  all_goals
    (repeat' (first | refine g_seq (h := ?_) | refine g_region (h := ?_) | refine l_nil (h := ?_) | refine n_then (h := ?_) | refine l_pures1 (h := ?_) | (refine l_at 35 ?_; refine l_call (hL r15) ?_) | refine l_load (h := ?_) | refine l_indexAddr (h := ?_) | refine a_done (h := ?_) | refine a_load (h := a_pass2 (h := ?_)) | refine a_one (h := ?_) | refine n_any (h := a_pass2 (h := ?_)) | refine g_cond_t (h := ?_) | refine l_load_vec (h := ?_) | refine l_store_vec (h := ?_)))
  all_goals rw [set_encZ]
  all_goals
    (refine g_draw [Wk b sb rd 0, cl b14 79 [.bool d.leaf, .slice (some ⟨g1, 0, none⟩) d.keys.length c1, .slice p2 d.vals.length c2, .slice (some ⟨g3, 0, none⟩) d.kids.length c3], vec 3 1 (some ⟨g3, 0, none⟩) d.kids.length c3 ((d.kids.set j m).map encZ')] (h := a_pass2 (h := ?_)))
  all_goals
    (repeat (first | refine g_seq (h := ?_) | refine g_region (h := ?_) | refine l_nil (h := ?_) | refine n_then (h := ?_) | refine l_pures1 (h := ?_) | (refine l_atc ?_; refine l_call (hG) ?_) | (refine l_atc ?_; refine l_call (hF) ?_) | refine l_load (h := ?_) | refine l_indexAddr (h := ?_) | refine a_done (h := ?_) | refine a_load (h := a_pass2 (h := ?_)) | refine a_one (h := ?_) | refine n_any (h := a_pass2 (h := ?_)) | refine l_load_vec (h := ?_)))
  all_goals
    (refine l_shut (A := Nds { d with kids := d.kids.set j m } ⟨some ⟨g1, 0, none⟩, c1, p2, c2, some ⟨g3, 0, none⟩, c3⟩) (K := NdsK { d with kids := d.kids.set j m } ⟨some ⟨g1, 0, none⟩, c1, p2, c2, some ⟨g3, 0, none⟩, c3⟩ (())) (hid_shuts (()) trivial) (h := ?_) (p := by dsimp only [NdsK]; (try simp only [List.map_nil, List.length_nil, List.length_set, List.length_append, List.length_cons, List.length_singleton, List.map_append, List.map_cons, Nat.zero_add]); exact parts_of))
  all_goals
    (repeat (first | refine l_nil (h := ?_) | refine n_then (h := ?_) | (refine l_atc ?_; refine l_call_ (hU2) ?_; rintro _ _ _ ⟨rr, rfl, rfl⟩ he; cases he) | refine l_store (h := ?_) | refine g_ret (h := ?_) | refine n_then_ret (h := ?_)))
  all_goals
    refine r_retk [Nds (Nd.unhang { d with kids := d.kids.set j m } j) rr, Wk b sb rd 0, Store sb db S2, Disk db D1] ?_
  all_goals exact ⟨rr, rfl, rfl⟩

set_option maxHeartbeats 4000000 in
theorem even_deal (b sb db i j : Nat) (spg : Int) (d x y al : Nd) (rd m1 m2 : Int) (S S1 S2 : Sh) (D D1 D2 : Dk) (hs : d.good) (hsl : d.leaf = false) (hj : j < d.keys.length) (hx : x.fits) (hy : y.fits) (hlf : y.leaf = x.leaf) (hal : x.both (d.keys.getD j 0) y = al) (hap : al.plain) (hall : al.fits)
    (hz : 240 < al.size) (hz2 : al.size < 10000) (hm : 1 ≤ al.keys.length - 1 - al.up)
    (hL1 : ∀ r, Does Tryz.prog 35 [.pointer (some ⟨b, 0, none⟩), .int .i64 (d.kids.getD j 0), ndV (al.front al.at') r] [Wk b sb rd 0, Store sb db S, Disk db D, Nds (al.front al.at') r] (fun v H => v = .int .i64 m1 ∧ H = [Wk b sb rd 0, Store sb db S1, Disk db D1, Nds (al.front al.at') r]))
    (hL2 : ∀ r, Does Tryz.prog 35 [.pointer (some ⟨b, 0, none⟩), .int .i64 (d.kids.getD (j + 1) 0), ndV (al.back al.at') r] [Wk b sb rd 0, Store sb db S1, Disk db D1, Nds (al.back al.at') r] (fun v H => v = .int .i64 m2 ∧ H = [Wk b sb rd 0, Store sb db S2, Disk db D2, Nds (al.back al.at') r]))
    (w0 : World) (F0 : Nat → Prop) (b5 b8 b12 b13 : Nat) (r rx ry : Rw) :
    G Tryz.prog 156 w0 F0 (nav [1, 1, 1, 1, 1, 1, 1, 1] (bdy Tryz.f38)) (Post Tryz.prog Tryz.f38 w0 F0 (fun v H => ∃ r, v = ndV { d with keys := d.keys.set j (al.keys.getD al.at' 0), kids := (d.kids.set j m1).set (j + 1) m2 } r ∧ H = [Nds { d with keys := d.keys.set j (al.keys.getD al.at' 0), kids := (d.kids.set j m1).set (j + 1) m2 } r, Wk b sb rd 0, Store sb db S2, Disk db D2]))
      (evT b b5 b8 b12 b13 (j : Nat)) [] (evH b5 b8 b12 b13 spg d r i x y rx ry (Wk b sb rd 0) (Store sb db S) (Disk db D)) := by
  have hkl := kidsLen hs.p hsl
  have hfk := hs.fits.k
  have hB := tBoth_does x y rx ry (d.keys.getD j 0) hx hy hlf
  rw [hal] at hB
  have hZ := fun r => ndSize_does al r hall
  have hSp := fun r => nSplit_does al r hap hall hz2 hm
  have ew : IntKind.i64.wrap ((j : Int) + 1) = ((j + 1 : Nat) : Int) := by rw [wrapI64 (by omega)]; rfl
  have hib : 0 ≤ IntKind.i64.wrap ((j : Int) + 1) ∧ IntKind.i64.wrap ((j : Int) + 1) < d.kids.length := by rw [ew]; omega
  have hul : (uV d.keys).length = d.keys.length := by simp [uV]
  have hgi2 : (d.kids.map encZ')[0 + (IntKind.i64.wrap ((j : Int) + 1)).toNat * 1]? = some (.int .i64 (d.kids.getD (j + 1) 0)) := by
    rw [ew]
    exact iGet (l := d.kids) (k := j + 1) (by omega)
  obtain ⟨p1, c1, p2, c2, p3, c3⟩ := r
  obtain ⟨c, hc⟩ : ∃ c, c = nav [1, 1, 1, 1, 1, 1, 1, 1] (bdy Tryz.f38) := ⟨_, rfl⟩
  rw [← hc]
  dsimp only [nav, bdy, Tryz.f38, Option.getD] at hc
  subst hc
  dsimp only [evT, evH]
  refine g_open (A := Nds d ⟨p1, c1, p2, c2, p3, c3⟩) (h := ?_); (rintro _ _; dsimp only [NdsK, List.cons_append, List.nil_append])
  refine g_ptr (m := d.kids.length) (h := ?_); rintro g3 rfl hc3
  refine g_ptr (m := d.keys.length) (h := ?_); rintro g1 rfl hc1
  have hgk := uGet (l := d.keys) (k := j) hj
  have hgi := iGet (l := d.kids) (k := j) (by omega)
  (repeat (first | refine g_seq (h := ?_) | refine g_region (h := ?_) | refine l_nil (h := ?_) | refine n_then (h := ?_) | refine l_pures1 (h := ?_) | refine l_load (h := ?_) | refine l_store (h := ?_) | (refine l_alloc (h := ?_); intro _)))
  rename_i b14
  (refine g_draw [cl b12 79 (ndA x rx).toList, cl b13 79 (ndA y ry).toList, cl b14 79 _, vec 38 1 (some ⟨g1, 0, none⟩) d.keys.length c1 (uV d.keys)] (h := a_pass2 (h := ?_)))
  (repeat' (first | refine g_seq (h := ?_) | refine g_region (h := ?_) | refine l_nil (h := ?_) | refine n_then (h := ?_) | refine l_pures1 (h := ?_) | (refine l_atc ?_; refine l_call_ (hB) ?_; rintro _ _ _ ⟨r15, rfl, rfl⟩ he; cases he) | (refine l_atc ?_; refine l_call (hZ _) ?_) | (refine l_atc ?_; refine l_call_ (hSp _) ?_; rintro _ _ _ ⟨r1, r2, rfl, rfl⟩ he; cases he) | refine l_load (h := ?_) | refine l_store (h := ?_) | (refine l_alloc (h := ?_); intro _) | refine g_skip (h := ?_) | refine a_done (h := ?_) | refine a_load (h := a_pass2 (h := ?_)) | refine a_one (h := ?_) | refine n_any (h := a_pass2 (h := ?_)) | refine a_v (h := ?_) | refine g_cond_f (h := ?_) | refine a_load_vec (h := a_pass2 (h := ?_)) | (refine g_spF (h := ?_); intro h) | refine a_fork2 (h1 := ?_) (h2 := ?_) | refine a1_of (h := ?_)))
  all_goals rename_i b15
  all_goals
    (refine g_draw [cl b12 79 _, cl b14 79 [.bool d.leaf, .slice (some ⟨g1, 0, none⟩) d.keys.length c1, .slice p2 d.vals.length c2, .slice (some ⟨g3, 0, none⟩) d.kids.length c3], vec 3 1 (some ⟨g3, 0, none⟩) d.kids.length c3 (d.kids.map encZ')] (h := a_pass2 (h := ?_)))
  all_goals
    (repeat' (first | refine g_seq (h := ?_) | refine g_region (h := ?_) | refine l_nil (h := ?_) | refine n_then (h := ?_) | refine l_pures1 (h := ?_) | (refine l_at 35 ?_; refine l_call (hL1 r1) ?_) | refine l_load (h := ?_) | refine l_indexAddr (h := ?_) | refine g_skip (h := ?_) | refine a_done (h := ?_) | refine a_load (h := a_pass2 (h := ?_)) | refine a_one (h := ?_) | refine n_any (h := a_pass2 (h := ?_)) | refine g_cond_f (h := ?_) | refine l_load_vec (h := ?_)))
  all_goals
    (refine g_draw [cl b13 79 _, cl b14 79 [.bool d.leaf, .slice (some ⟨g1, 0, none⟩) d.keys.length c1, .slice p2 d.vals.length c2, .slice (some ⟨g3, 0, none⟩) d.kids.length c3]] (h := a_pass2 (h := ?_)))
  all_goals
    (repeat' (first | refine g_seq (h := ?_) | refine g_region (h := ?_) | refine l_nil (h := ?_) | refine n_then (h := ?_) | (refine l_at 35 ?_; refine l_call (hL2 r2) ?_) | refine l_load (h := ?_) | refine l_store (h := ?_) | refine l_indexAddr (h := ?_) | refine g_ret (h := ?_) | refine a_done (h := ?_) | refine a_load (h := a_pass2 (h := ?_)) | refine a_one (h := ?_) | refine n_any (h := a_pass2 (h := ?_)) | refine l_load_vec (h := ?_) | refine l_store_vec (h := ?_)))
  all_goals rw [ew, set_encZ, set_encZ, set_uV]
  all_goals
    (refine n_shut (A := Nds { d with keys := d.keys.set j (al.keys.getD al.at' 0), kids := (d.kids.set j m1).set (j + 1) m2 } ⟨some ⟨g1, 0, none⟩, c1, p2, c2, some ⟨g3, 0, none⟩, c3⟩) (K := NdsK { d with keys := d.keys.set j (al.keys.getD al.at' 0), kids := (d.kids.set j m1).set (j + 1) m2 } ⟨some ⟨g1, 0, none⟩, c1, p2, c2, some ⟨g3, 0, none⟩, c3⟩ (())) (hid_shuts (()) trivial) (h := ?_) (p := by dsimp only [NdsK]; (try simp only [List.map_nil, List.length_nil, List.length_set, List.length_append, List.length_cons, List.length_singleton, List.map_append, List.map_cons, Nat.zero_add]); exact parts_of))
  all_goals
    refine r_retk [Nds { d with keys := d.keys.set j (al.keys.getD al.at' 0), kids := (d.kids.set j m1).set (j + 1) m2 } ⟨some ⟨g1, 0, none⟩, c1, p2, c2, some ⟨g3, 0, none⟩, c3⟩, Wk b sb rd 0, Store sb db S2, Disk db D2] ?_
  all_goals exact ⟨⟨some ⟨g1, 0, none⟩, c1, p2, c2, some ⟨g3, 0, none⟩, c3⟩, by simp [packV], rfl⟩
end Go.Proofs.YtpbibhhjbigdhaaGreat
/- Delete, plainly: a node in hand and its neighbour. No code. -/
set_option maxRecDepth 20000
set_option linter.unusedVariables false
set_option linter.unusedSimpArgs false
namespace Go.Proofs.YtpbibhhjbigdhaaGreat
open Go.Proofs.YtpbibhhjbigdhaaGreat.SL

def LinkTo : List Spot → Int → Prop
  | [], _ => True
  | s :: up, pg => s.d.kids.getD s.i 0 = pg ∧ LinkTo up s.pg
/-- A node in hand that may be low, or have nothing. -/
structure HandD (N : Nat) (U : List Int) (T : List Ent) (S : Sh) (D : Dk) (up : List Spot) (pg : Int) (n : Nd) (h : Nat) (Lf Rt es : List Ent) (ps qs : List Int) : Prop where
  fine : Fine N S D U
  way : Way (Gd N D) up h Lf Rt qs
  nt : NT (Gd N D) h n es ps
  pages : (pg :: (ps ++ qs)).Perm (S.after U)
  fit : ∀ e ∈ es, FitsP up e.1
  all : Lf ++ (es ++ Rt) = T
  size : n.size ≤ 240
  link : LinkTo up pg

theorem mem_take_self {α : Type} {l : List α} {j : Nat} (h : j < l.length) : l[j] ∈ l.take (j + 1) := by
  have : (l.take (j + 1))[j]'(by simp; omega) = l[j] := by simp
  rw [← this]
  exact List.getElem_mem _
theorem both_keys {a b : Nd} {mid : Nat} (h : a.keys ≠ [] ∨ b.keys ≠ []) : (a.both mid b).keys ≠ [] := by
  unfold Nd.both
  dsimp only
  split
  · rcases h with h | h <;> simp [h]
  · simp
/-- The node in hand and its neighbour, as one; what stands beside. -/
structure Pair (N : Nat) (U : List Int) (T : List Ent) (S : Sh) (D : Dk) (s : Spot) (up : List Spot) (n : Nd) (h : Nat) (bd : Nd) (sl sr : List Sub) (L' R' es : List Ent) (ps q0 : List Int) : Prop where
  jlt : lefN s.i < s.d.keys.length
  go : Gd N D (s.d.kids.getD (othN s.i) 0) bd
  gb : bd.good
  lf : bd.leaf = n.leaf
  two : Two (Gd N D) h s.d (lefN s.i) sl sr
  nt : NT (Gd N D) h ((fstN s.i bd n).both (s.d.keys.getD (lefN s.i) 0) (sndN s.i bd n)) es ps
  sz : ((fstN s.i bd n).both (s.d.keys.getD (lefN s.i) 0) (sndN s.i bd n)).size ≤ 340
  ne : ((fstN s.i bd n).both (s.d.keys.getD (lefN s.i) 0) (sndN s.i bd n)).keys ≠ []
  f2 : ∀ e ∈ es, Fits2 s.d (lefN s.i) e.1
  fp : ∀ e ∈ es, FitsP up e.1
  way : Way (Gd N D) up (h + 1) L' R' q0
  gs : Gd N D s.pg s.d
  fs : ∀ e ∈ Sub.all sl ++ Sub.all sr, FitsP up e.1
  all : L' ++ ((Sub.all sl ++ (es ++ Sub.all sr)) ++ R') = T
  pages : (s.d.kids.getD (lefN s.i) 0 :: s.d.kids.getD (lefN s.i + 1) 0 :: (ps ++ (s.pg :: (Sub.pages sl ++ (Sub.pages sr ++ q0))))).Perm (S.after U)

theorem HandD.pair {N : Nat} {U : List Int} {T : List Ent} {S : Sh} {D : Dk} {s : Spot} {up : List Spot} {pg : Int} {n : Nd} {h : Nat} {Lf Rt es : List Ent} {ps qs : List Int} (k : HandD N U T S D (s :: up) pg n h Lf Rt es ps qs) (hz : n.size < 80) :
    ∃ bd sl sr L' R' es' ps' q0, Pair N U T S D s up n h bd sl sr L' R' es' ps' q0 := by
  obtain ⟨L', R', q0, sl, sr, w, g, mid, fs, rfl, rfl, rfl⟩ := k.way
  have hN := k.fine.n
  have hkl := kidsLen mid.good.p mid.leaf
  have hkp : 0 < s.d.keys.length := List.length_pos_iff.2 mid.ne
  obtain ⟨spg, d, i⟩ := s
  have hlink := k.link.1
  dsimp only at *
  cases i with
  | zero =>
    obtain ⟨kk, sb, sr', rfl, hk1, ⟨bd, ps', g1, g2, g3, g4, g5⟩, two, hf⟩ := two_right mid hkp
    have hsl : sl = [] := by have := mid.ol.len; simpa using this.symm
    subst hsl
    have hkk : d.kids.getD 1 0 = kk := by rw [List.getD, hk1]; rfl
    have hm64 : d.keys.getD 0 0 < 18446744073709551616 := mid.good.p.key _ (getD_mem hkp)
    have hd0 : d.keys.getD 0 0 ∈ d.keys.drop 0 := by rw [List.drop_zero]; exact getD_mem hkp
    obtain ⟨nt, sz⟩ := both_nt (mid := d.keys.getD 0 0) k.nt g4 (fun e he => (k.fit e he).1.2 _ hd0) (fun e he => (hf e he).2) hm64
    have hlf : bd.leaf = n.leaf := by
      have a := g4.leaf
      have b := k.nt.leaf
      cases h1 : bd.leaf <;> cases h2 : n.leaf <;> simp_all
    have hbk : bd.keys ≠ [] := by
      cases h1 : bd.leaf
      · exact g3 h1
      · exact List.length_pos_iff.1 (g2.some h1)
    refine ⟨bd, [], sr', L', R', _, _, q0, ⟨hkp, by rw [show othN 0 = 1 from rfl, hkk]; exact g1, g2, hlf, two, nt, ?_, both_keys (.inr hbk), ?_, ?_, w, g, ?_, ?_, ?_⟩⟩
    · have := g2.size
      show (n.both (d.keys.getD 0 0) bd).size ≤ 340
      omega
    · intro e he
      rcases List.mem_append.1 he with he | he
      · exact ⟨by simp [lefN], fun k' hk' => (k.fit e he).1.2 k' (by rw [List.drop_zero]; exact List.mem_of_mem_drop hk')⟩
      · exact (hf e he).1
    · intro e he
      rcases List.mem_append.1 he with he | he
      · exact (k.fit e he).2
      · exact fs e (by simp [Sub.all_cons, he])
    · intro e he
      exact fs e (by simp only [List.mem_append, Sub.all_cons] at he ⊢; exact he.elim .inl fun q => .inr (.inr q))
    · rw [← k.all]; simp [Sub.all_cons]
    · refine List.Perm.trans ?_ k.pages
      rw [show lefN 0 = 0 from rfl, hlink, hkk, Sub.pages_cons, g5]
      refine List.perm_iff_count.2 fun a => ?_
      simp only [List.count_append, List.count_cons, List.cons_append]
      omega
  | succ j =>
    have hj : j < d.keys.length := by have := mid.ile; omega
    obtain ⟨kk, sl', sb, rfl, hk1, ⟨bd, ps', g1, g2, g3, g4, g5⟩, two, hf⟩ := two_left mid
    have hkk : d.kids.getD j 0 = kk := by rw [List.getD, hk1]; rfl
    have hm64 : d.keys.getD j 0 < 18446744073709551616 := mid.good.p.key _ (getD_mem hj)
    have hdj : d.keys.getD j 0 ∈ d.keys.take (j + 1) := by
      have := mem_take_self hj
      simpa [List.getD, hj] using this
    obtain ⟨nt, sz⟩ := both_nt (mid := d.keys.getD j 0) g4 k.nt (fun e he => (hf e he).2) (fun e he => (k.fit e he).1.1 _ hdj) hm64
    have hlf : bd.leaf = n.leaf := by
      have a := g4.leaf
      have b := k.nt.leaf
      cases h1 : bd.leaf <;> cases h2 : n.leaf <;> simp_all
    have hbk : bd.keys ≠ [] := by
      cases h1 : bd.leaf
      · exact g3 h1
      · exact List.length_pos_iff.1 (g2.some h1)
    have hrise := mid.good.p.rise
    refine ⟨bd, sl', sr, L', R', _, _, q0, ⟨hj, by rw [show othN (j + 1) = j by simp [othN], hkk]; exact g1, g2, hlf, two, nt, ?_, both_keys (.inl hbk), ?_, ?_, w, g, ?_, ?_, ?_⟩⟩
    · have := g2.size
      have e1 : fstN (j + 1) bd n = bd := by simp [fstN]
      have e2 : sndN (j + 1) bd n = n := by simp [sndN]
      rw [e1, e2]
      show (bd.both (d.keys.getD j 0) n).size ≤ 340
      omega
    · intro e he
      rcases List.mem_append.1 he with he | he
      · refine ⟨(hf e he).1, fun k' hk' => ?_⟩
        have h1 := (hf e he).2
        have h2 := (rise_take_drop hrise hj).2
        have hk2 : k' ∈ d.keys.drop (j + 1) := hk'
        have h3 : d.keys[j] < k' := by
          have := hrise
          rw [← List.take_append_drop (j + 1) d.keys] at this
          have hm : d.keys[j] ∈ d.keys.take (j + 1) := mem_take_self hj
          exact (List.pairwise_append.1 this).2.2 _ hm _ hk2
        have h4 : d.keys.getD j 0 = d.keys[j] := by simp [List.getD, hj]
        omega
      · exact ⟨fun k' hk' => (k.fit e he).1.1 k' (by rw [List.take_succ_eq_append_getElem hj]; exact List.mem_append_left _ hk'), (k.fit e he).1.2⟩
    · intro e he
      rcases List.mem_append.1 he with he | he
      · exact fs e (by simp [Sub.all, he])
      · exact (k.fit e he).2
    · intro e he
      exact fs e (by simp only [List.mem_append, Sub.all_append] at he ⊢; exact he.elim (fun q => .inl (.inl q)) .inr)
    · rw [← k.all]; simp [Sub.all]
    · refine List.Perm.trans ?_ k.pages
      have hl2 : d.kids.getD (lefN (j + 1) + 1) 0 = pg := hlink
      rw [hl2, show lefN (j + 1) = j from rfl, hkk, Sub.pages_append]
      refine List.perm_iff_count.2 fun a => ?_
      have e5 : Sub.pages [sb] = kk :: ps' := by simp [Sub.pages, g5]
      rw [e5]
      simp only [List.count_append, List.count_cons, List.cons_append]
      omega
end Go.Proofs.YtpbibhhjbigdhaaGreat
/- Package tree: a round of Delete. -/
set_option maxRecDepth 20000
set_option linter.unusedVariables false
set_option linter.unusedSimpArgs false
namespace Go.Proofs.YtpbibhhjbigdhaaGreat
open Go.Proofs.YtpbibhhjbigdhaaGreat.SL

theorem HandD.lay {N : Nat} {U : List Int} {T : List Ent} {S : Sh} {D : Dk} {s : Spot} {up : List Spot} {pg : Int} {n : Nd} {h : Nat} {Lf Rt es : List Ent} {ps qs : List Int} (k : HandD N U T S D (s :: up) pg n h Lf Rt es ps qs) (hz : 80 ≤ n.size) (room : U.length + S.fresh.length + 2 < N) :
    ∃ (m : Int) (S' : Sh) (D' : Dk) (Lf' Rt' es' : List Ent) (ps' qs' : List Int),
      (∀ b sb db read r, Does Tryz.prog 35 [.pointer (some ⟨b, 0, none⟩), .int .i64 pg, ndV n r] [Wk b sb read 0, Store sb db S, Disk db D, Nds n r] (fun v H => v = .int .i64 m ∧ H = [Wk b sb read 0, Store sb db S', Disk db D', Nds n r])) ∧
      HandD N U T S' D' up s.pg { s.d with kids := s.d.kids.set s.i m } (h + 1) Lf' Rt' es' ps' qs' ∧ S'.fresh.length ≤ S.fresh.length + 1 ∧ S'.gen = S.gen ∧ S'.root = S.root := by
  have hne : n.keys ≠ [] := by
    intro e
    have hp := k.nt.plain
    cases hl : n.leaf
    · have : n.size = 1 + 2 * n.kids.length := by simp [Nd.size, hl, e]
      have := kidsLen hp hl
      rw [e] at this
      simp at this
      omega
    · have hv := valsLen hp hl
      rw [e] at hv
      have hv2 : n.vals = [] := List.length_eq_zero_iff.1 (by simpa using hv)
      have : n.size = 1 := by simp [Nd.size, hl, e, hv2, sumL]
      omega
  have hgood : n.good := ⟨k.nt.plain, fun _ => List.length_pos_iff.2 hne, k.size⟩
  obtain ⟨m, S', D', c1, c2, c3, c4, c5, c6, c7, c8, c9, c10⟩ := lay_ok k.fine k.pages room hgood
  have K : Hand N U T S D (s :: up) pg n h Lf Rt es ps qs := ⟨k.fine, k.way, k.nt, k.pages, k.fit, k.all, hne⟩
  obtain ⟨Lf', Rt', es', ps', qs', k', v1, v2, v3⟩ := Hand.up K k.size c2 c3 c4 c6
  have hsz : Nd.size { s.d with kids := s.d.kids.set s.i m } = s.d.size := by simp only [Nd.size, List.length_set]
  exact ⟨m, S', D', Lf', Rt', es', ps', qs', c1, ⟨k'.fine, k'.way, k'.nt, k'.pages, k'.fit, k'.all, by rw [hsz]; exact v1.size, k.link.2⟩, c8, c9, c10⟩

theorem HandD.even {N : Nat} {U : List Int} {T : List Ent} {S : Sh} {D : Dk} {s : Spot} {up : List Spot} {pg : Int} {n : Nd} {h : Nat} {Lf Rt es : List Ent} {ps qs : List Int} (k : HandD N U T S D (s :: up) pg n h Lf Rt es ps qs) (hz : n.size < 80) (room : U.length + S.fresh.length + 4 < N)
    (b sb db deep : Nat) (r rn : Rw) (read : Int) (h1 : 0 ≤ read ∧ read < 640) (h2 : deep + 1 ≤ 10) :
    Does Tryz.prog 38 [.pointer (some ⟨b, 0, none⟩), .agg #[.int .i64 s.pg, .bool s.d.leaf, .slice r.p1 s.d.keys.length r.c1, .slice r.p2 s.d.vals.length r.c2, .slice r.p3 s.d.kids.length r.c3, .int .i64 s.i], ndV n rn, .int .i64 deep] [Nds s.d r, Nds n rn, Wk b sb read 0, Store sb db S, Disk db D]
      (fun v H => ∃ (n' : Nd) (r' : Rw) (S' : Sh) (D' : Dk), v = ndV n' r' ∧ H = [Nds n' r', Wk b sb (read + 1) 0, Store sb db S', Disk db D'] ∧ (∃ Lf' Rt' es' ps' qs', HandD N U T S' D' up s.pg n' (h + 1) Lf' Rt' es' ps' qs') ∧ S'.fresh.length ≤ S.fresh.length + 2 ∧ S'.gen = S.gen ∧ S'.root = S.root) := by
  obtain ⟨bd, sl, sr, L', R', es', ps', q0, p⟩ := k.pair hz
  have hN := k.fine.n
  have hs : s.d.good := p.two.good
  have hsl : s.d.leaf = false := p.two.leaf
  have hkl := kidsLen hs.p hsl
  have hi : s.i ≤ s.d.keys.length := by
    obtain ⟨_, _, _, _, _, _, _, mid, _⟩ := k.way
    exact mid.ile
  have hkk : s.d.keys ≠ [] := by intro e; have := p.jlt; rw [e] at this; simp at this
  have hrb : S.read D (s.d.kids.getD (othN s.i) 0) = ((2, bd.text, 0), S) := by rw [k.fine.read p.go.1, p.go.2]
  have hnf : n.fits := k.nt.plain.fits (by have := k.size; omega)
  have hxf : (fstN s.i bd n).fits := by unfold fstN; split; exact hnf; exact p.gb.fits
  have hyf : (sndN s.i bd n).fits := by unfold sndN; split; exact p.gb.fits; exact hnf
  have hlf2 : (sndN s.i bd n).leaf = (fstN s.i bd n).leaf := by unfold sndN fstN; split; exact p.lf; exact p.lf.symm
  obtain ⟨al, hal⟩ : ∃ al, (fstN s.i bd n).both (s.d.keys.getD (lefN s.i) 0) (sndN s.i bd n) = al := ⟨_, rfl⟩
  have pnt := p.nt
  have psz := p.sz
  have pne := p.ne
  rw [hal] at pnt psz pne
  have haf : al.fits := pnt.plain.fits (by omega)
  have hjl := p.jlt
  have hkb : ∀ q, q < s.d.kids.length → -9223372036854775808 ≤ s.d.kids.getD q 0 ∧ s.d.kids.getD q 0 < 9223372036854775808 := fun q hq => by
    have := hs.p.kid _ (getD_mem (z := 0) hq)
    omega
  by_cases hz2 : al.size ≤ 240
  · have hgood : al.good := ⟨pnt.plain, fun _ => List.length_pos_iff.2 pne, hz2⟩
    obtain ⟨m, S1, D1, c1, c2, c3, c4, c5, c6, c7, c8, c9, c10⟩ := lay_ok k.fine p.pages (by omega) hgood
    obtain ⟨S2, g1, g2, g3, g4, g5, g6⟩ := give_ok (pg := s.d.kids.getD (lefN s.i + 1) 0) (rest := m :: (ps' ++ (s.pg :: (Sub.pages sl ++ (Sub.pages sr ++ q0))))) c2 ((List.Perm.swap _ _ _).trans c6)
    have ck : ∀ q ∈ ps' ++ (s.pg :: (Sub.pages sl ++ (Sub.pages sr ++ q0))), ∀ dd, Gd N D q dd → Gd N D1 q dd := fun q hq dd gd => gd.keep (c4 q (List.mem_cons_of_mem _ hq))
    refine (even_head b sb db deep s.i s.pg s.d n bd r rn read S D _ hs hsl hi hkk p.gb p.lf hrb h1 h2 (fun w0 F0 b5 b8 b12 b13 r rx ry => even_merge b sb db s.i (lefN s.i) s.pg s.d (fstN s.i bd n) (sndN s.i bd n) (read + 1) m S S1 S2 D D1 hs hsl hjl hxf hyf hlf2 (by rw [hal]; exact haf) (by rw [hal]; exact hz2) (fun r => by rw [hal]; exact c1 b sb db (read + 1) r) g1 (hkb _ (by omega)) w0 F0 b5 b8 b12 b13 r rx ry)).mono ?_
    rintro v H ⟨r', rfl, rfl⟩
    have o : OnP (Gd N D1) h m ⟨es', m :: ps'⟩ := ⟨al, ps', c3, hgood, fun _ => pne, pnt.same (fun q hq => ck q (by simp [hq])), rfl⟩
    have hnt := merge p.two o (by have := c3.1; omega) p.f2 (fun q hq => ck q (by simp only [List.mem_append, List.mem_cons] at hq ⊢; exact .inr (.inr (hq.elim .inl fun z => .inr (.inl z)))))
    refine ⟨_, r', S2, D1, rfl, rfl, ⟨L', R', _, _, q0, ⟨g2, p.way.same (fun q hq => ck q (by simp [hq])), hnt, ?_, ?_, p.all, ?_, k.link.2⟩⟩, by omega, g5.trans c9, g6.trans c10⟩
    · refine List.Perm.trans ?_ g3
      refine List.perm_iff_count.2 fun a => ?_
      simp only [List.count_append, List.count_cons, List.cons_append]
      omega
    · intro e he
      simp only [List.mem_append] at he
      rcases he with he | he | he
      · exact p.fs e (by simp [he])
      · exact p.fp e he
      · exact p.fs e (by simp [he])
    · have h3 := hs.size
      have h4 : (Nd.unhang { s.d with kids := s.d.kids.set (lefN s.i) m } (lefN s.i)).size ≤ s.d.size := by
        have l1 := laid_len (l := s.d.keys) (p := lefN s.i) (g := 1) (m := []) (by omega)
        have l2 := laid_len (l := s.d.kids.set (lefN s.i) m) (p := lefN s.i + 1) (g := 1) (m := []) (by simp; omega)
        simp only [Nd.unhang, Nd.size, hsl, Bool.false_eq_true, if_false, l1, l2, List.length_set, List.length_nil]
        omega
      exact Nat.le_trans h4 h3
  · have hz3 : 240 < al.size := by omega
    obtain ⟨a1, a2, a3, a4, a5⟩ := at_spec pnt.plain hz3 psz
    obtain ⟨e1, p1, e2, p2, md, hmd, n1, n2, rfl, rfl, lt1, ge2, q1, q2⟩ := split_nt pnt a2 a3
    have hmd' : al.keys.getD al.at' 0 = md := by rw [List.getD, hmd]; rfl
    have hmm : md < 18446744073709551616 := pnt.plain.key md (List.mem_of_getElem? hmd)
    have gf : (al.front al.at').good := ⟨n1.plain, fun _ => List.length_pos_iff.2 q1, a4⟩
    have gb : (al.back al.at').good := ⟨n2.plain, fun _ => List.length_pos_iff.2 q2, a5⟩
    obtain ⟨m1, S1, D1, c1, c2, c3, c4, c5, c6, c7, c8, c9, c10⟩ := lay_ok k.fine p.pages (by omega) gf
    obtain ⟨m2, S2, D2, f1, f2, f3, f4, f5, f6, f7, f8, f9, f10⟩ := lay_ok (pg := s.d.kids.getD (lefN s.i + 1) 0) (rest := m1 :: (p1 ++ p2 ++ (s.pg :: (Sub.pages sl ++ (Sub.pages sr ++ q0))))) c2 ((List.Perm.swap _ _ _).trans c6) (by omega) gb
    have ck : ∀ q ∈ p1 ++ p2 ++ (s.pg :: (Sub.pages sl ++ (Sub.pages sr ++ q0))), ∀ dd, Gd N D q dd → Gd N D2 q dd := fun q hq dd gd => (gd.keep (c4 q (List.mem_cons_of_mem _ hq))).keep (f4 q (List.mem_cons_of_mem _ hq))
    refine (even_head b sb db deep s.i s.pg s.d n bd r rn read S D _ hs hsl hi hkk p.gb p.lf hrb h1 h2 (fun w0 F0 b5 b8 b12 b13 r rx ry => even_deal b sb db s.i (lefN s.i) s.pg s.d (fstN s.i bd n) (sndN s.i bd n) al (read + 1) m1 m2 S S1 S2 D D1 D2 hs hsl hjl hxf hyf hlf2 hal pnt.plain haf hz3 (by omega) a1 (fun r => c1 b sb db (read + 1) r) (fun r => f1 b sb db (read + 1) r) w0 F0 b5 b8 b12 b13 r rx ry)).mono ?_
    rintro v H ⟨r', rfl, rfl⟩
    rw [hmd']
    have o1 : OnP (Gd N D2) h m1 ⟨e1, m1 :: p1⟩ := ⟨_, p1, c3.keep (f4 m1 (by simp)), gf, fun _ => q1, n1.same (fun q hq => ck q (by simp [hq])), rfl⟩
    have o2 : OnP (Gd N D2) h m2 ⟨e2, m2 :: p2⟩ := ⟨_, p2, f3, gb, fun _ => q2, n2.same (fun q hq => ck q (by simp [hq])), rfl⟩
    have hnt := deal p.two o1 o2 (by have := c3.1; omega) (by have := f3.1; omega) hmm (fun x hx => ⟨p.f2 x (by simp [hx]), lt1 x hx⟩) (fun x hx => ⟨p.f2 x (by simp [hx]), ge2 x hx⟩) (fun q hq => ck q (by simp only [List.mem_append, List.mem_cons] at hq ⊢; exact .inr (.inr (hq.elim .inl fun z => .inr (.inl z)))))
    refine ⟨_, r', S2, D2, rfl, rfl, ⟨L', R', _, _, q0, ⟨f2, p.way.same (fun q hq => ck q (by simp [hq])), hnt, ?_, ?_, p.all, ?_, k.link.2⟩⟩, by omega, f9.trans c9, f10.trans c10⟩
    · refine List.Perm.trans ?_ f6
      refine List.perm_iff_count.2 fun a => ?_
      simp only [List.count_append, List.count_cons, List.cons_append]
      omega
    · intro e he
      simp only [List.mem_append] at he
      rcases he with he | (he | he) | he
      · exact p.fs e (by simp [he])
      · exact p.fp e (by simp [he])
      · exact p.fp e (by simp [he])
      · exact p.fs e (by simp [he])
    · have h3 := hs.size
      have h4 : Nd.size { s.d with keys := s.d.keys.set (lefN s.i) md, kids := (s.d.kids.set (lefN s.i) m1).set (lefN s.i + 1) m2 } = s.d.size := by
        simp only [Nd.size, hsl, Bool.false_eq_true, if_false, List.length_set]
      exact Nat.le_trans (Nat.le_of_eq h4) h3
end Go.Proofs.YtpbibhhjbigdhaaGreat
/- Package tree: Delete, behind its loop. -/
set_option maxRecDepth 20000
set_option linter.unusedVariables false
set_option linter.unusedSimpArgs false
namespace Go.Proofs.YtpbibhhjbigdhaaGreat
open Go.Proofs.YtpbibhhjbigdhaaGreat.SL

abbrev DelQ (N : Nat) (U : List Int) (T : List Ent) (S0 : Sh) (sb db : Nat) (v : Value) (H : List SProp) : Prop :=
  ∃ (m : Int) (S' : Sh) (D' : Dk), v = .tuple #[.int .i64 m, .bool true, .int .i64 0] ∧ H = [Store sb db S', Disk db D'] ∧ IsTree N S' D' U m T ∧ Fine N S' D' U ∧ S'.gen = S0.gen ∧ S'.root = S0.root

set_option maxHeartbeats 4000000 in
theorem del_tail (b sb db b13 b15 N : Nat) (U : List Int) (T : List Ent) (S0 S : Sh) (D : Dk) (xs : Sp) (n : Nd) (rn : Rw) (rd : Int) {h : Nat} {Lf Rt es : List Ent} {ps qs : List Int} (k : HandD N U T S D [] xs.pg n h Lf Rt es ps qs) (room : U.length + S.fresh.length + 2 < N) (hg : S.gen = S0.gen) (hr : S.root = S0.root) (w0 : World) (F0 : Nat → Prop) :
    G Tryz.prog 158 w0 F0 (nav [1, 1, 1, 1, 1, 1, 1, 1, 1] (bdy Tryz.f14)) (Post Tryz.prog Tryz.f14 w0 F0 (DelQ N U T S0 sb db))
      [(15, .pointer (some ⟨b15, 0, none⟩)), (13, .pointer (some ⟨b13, 0, none⟩)), (11, .pointer (some ⟨b, 0, none⟩)), (0, .pointer (some ⟨sb, 0, none⟩))] [] [cl b13 83 xs.c, cl b15 79 (ndA n rn).toList, Nds n rn, Wk b sb rd 0, Store sb db S, Disk db D] := by
  have hN := k.fine.n
  obtain ⟨xpg, xd, xr, xi⟩ := xs
  dsimp only at k
  obtain ⟨rfl, rfl, rfl⟩ := k.way
  have hall := k.all
  simp only [List.nil_append, List.append_nil] at hall
  have hpp := k.pages
  rw [List.append_nil] at hpp
  have hp := k.nt.plain
  have hfk := (hp.fits (by have := k.size; omega)).k
  have hpg : 2 ≤ xpg ∧ xpg < N := by
    have hm : xpg ∈ S.after U := hpp.mem_iff.1 (by simp)
    rcases (Sh.mem_after.1 hm).1 with q | q
    · exact k.fine.h.b _ q
    · have := k.fine.f.2 _ q; omega
  obtain ⟨c, hc⟩ : ∃ c, c = nav [1, 1, 1, 1, 1, 1, 1, 1, 1] (bdy Tryz.f14) := ⟨_, rfl⟩
  rw [← hc]
  dsimp only [nav, bdy, Tryz.f14, Option.getD] at hc
  subst hc
  dsimp only [Sp.c]
  by_cases hne : n.keys = []
  · obtain ⟨S', g1, g2, g3, g4, g5, g6⟩ := give_ok k.fine hpp
    have hG := sGive_does sb db S xpg (by omega)
    rw [g1] at hG
    dsimp only at hG
    have hF := wFail0_does b sb rd
    have hkl0 : n.keys.length = 0 := by rw [hne]; rfl
    cases hl : n.leaf
    · have hkl := kidsLen hp hl
      have hgk := iGet (l := n.kids) (k := 0) (by omega)
      obtain ⟨p1, c1, p2, c2, p3, c3⟩ := rn
      refine g_open (A := Nds n ⟨p1, c1, p2, c2, p3, c3⟩) (h := ?_); (rintro _ _; dsimp only [NdsK, List.cons_append, List.nil_append])
      refine g_ptr (m := n.kids.length) (h := ?_); rintro g rfl hc
      have hit : IsTree N S' D U (n.kids.getD 0 0) T := by
        have hnt := k.nt
        cases h with
        | zero => have := hnt.1; rw [hl] at this; cases this
        | succ h =>
          obtain ⟨_, _, ss, f, e1, e2, sp⟩ := hnt
          rw [hne] at sp
          cases ss with
          | nil => exact sp.elim
          | cons s0 ss =>
            cases ss with
            | cons _ _ => exact sp.elim
            | nil =>
              cases hks : n.kids with
              | nil => rw [hks] at f; exact f.elim
              | cons k0 kk =>
                rw [hks] at f
                have h1 := f.1
                refine .inr ⟨h, s0.ps, ?_, ?_⟩
                · rw [← hall, e1]
                  have : Sub.all [s0] = s0.es := by simp [Sub.all]
                  rw [this]
                  exact h1
                · rw [e2] at g3
                  simpa [Sub.pages] using g3
      (repeat' (first | refine g_seq (h := ?_) | refine g_region (h := ?_) | refine l_nil (h := ?_) | refine n_then (h := ?_) | refine l_pures1 (h := ?_) | (refine l_atc ?_; refine l_call (hG) ?_) | (refine l_atc ?_; refine l_call (hF) ?_) | refine l_guard_yes (h := ?_) | refine l_load (h := ?_) | refine l_indexAddr (h := ?_) | refine g_skip (h := ?_) | refine g_ret (h := ?_) | refine g_cond_t (h := ?_) | refine g_cond_f (h := ?_) | refine l_load_vec (h := ?_) | (refine g_spF (h := ?_); intro h)))
      refine r_retk [Store sb db S', Disk db D] ?_
      exact ⟨_, S', D, rfl, rfl, hit, g2, g5.trans hg, g6.trans hr⟩
    · have hit : IsTree N S' D U 0 T := by
        have hnt := k.nt
        have h0 := hnt.leaf.1 hl
        subst h0
        obtain ⟨_, _, e1, e2⟩ := hnt
        refine .inl ⟨rfl, ?_, ?_⟩
        · rw [← hall, e1, Nd.ents, hne]; rfl
        · rw [e2] at g3
          exact List.Perm.nil_eq g3 ▸ rfl
      (repeat' (first | refine g_seq (h := ?_) | refine g_region (h := ?_) | refine l_nil (h := ?_) | refine n_then (h := ?_) | refine l_pures1 (h := ?_) | (refine l_atc ?_; refine l_call (hG) ?_) | (refine l_atc ?_; refine l_call (hF) ?_) | refine l_guard_yes (h := ?_) | refine l_load (h := ?_) | refine g_skip (h := ?_) | refine g_ret (h := ?_) | refine g_cond_f (h := ?_) | (refine g_spF (h := ?_); intro h)))
      refine r_retk [Store sb db S', Disk db D] ?_
      exact ⟨0, S', D, rfl, rfl, hit, g2, g5.trans hg, g6.trans hr⟩
  · have hkl : 0 < n.keys.length := List.length_pos_iff.2 hne
    have hgood : n.good := ⟨hp, fun _ => hkl, k.size⟩
    obtain ⟨m, S', D', c1, c2, c3, c4, c5, c6, c7, c8, c9, c10⟩ := lay_ok k.fine k.pages room hgood
    have K : Hand N U T S D [] xpg n h [] [] es ps [] := ⟨k.fine, k.way, k.nt, k.pages, k.fit, k.all, hne⟩
    (repeat' (first | refine g_seq (h := ?_) | refine g_region (h := ?_) | refine l_nil (h := ?_) | refine n_then (h := ?_) | refine l_pures1 (h := ?_) | (refine l_at 35 ?_; refine l_call (c1 b sb db rd rn) ?_) | refine l_load (h := ?_) | refine g_skip (h := ?_) | refine g_ret (h := ?_) | refine g_cond_f (h := ?_) | (refine g_spT (h := ?_); intro h)))
    refine r_retk [Store sb db S', Disk db D'] ?_
    exact ⟨m, S', D', rfl, rfl, Hand.top K k.size c2 c3 c4 c6, c2, c9.trans hg, c10.trans hr⟩
end Go.Proofs.YtpbibhhjbigdhaaGreat
/- Package tree: a round of Delete's loop. -/
set_option maxRecDepth 20000
set_option linter.unusedVariables false
set_option linter.unusedSimpArgs false
namespace Go.Proofs.YtpbibhhjbigdhaaGreat
open Go.Proofs.YtpbibhhjbigdhaaGreat.SL

abbrev delT (b sb b' b13 b15 b16 : Nat) : List (Nat × Value) := [(17, .bool true), (16, .pointer (some ⟨b16, 0, none⟩)), (15, .pointer (some ⟨b15, 0, none⟩)), (13, .pointer (some ⟨b13, 0, none⟩)), (12, .pointer (some ⟨b', 0, none⟩)), (11, .pointer (some ⟨b, 0, none⟩)), (0, .pointer (some ⟨sb, 0, none⟩))]

set_option maxHeartbeats 4000000 in
theorem del_lay (A : SProp) (b sb db b' b13 b15 b16 : Nat) (rd m : Int) (xs s : Sp) (L : List Sp) (n : Nd) (rn : Rw) (S S' : Sh) (D D' : Dk) (hn : 80 ≤ n.size) (hf : n.fits) (hk : s.i < s.d.kids.length) (hlen : L.length < 100)
    (hL : ∀ r, Does Tryz.prog 35 [.pointer (some ⟨b, 0, none⟩), .int .i64 (s.d.kids.getD s.i 0), ndV n r] [Wk b sb rd 0, Store sb db S, Disk db D, Nds n r] (fun v H => v = .int .i64 m ∧ H = [Wk b sb rd 0, Store sb db S', Disk db D', Nds n r]))
    (w0 : World) (F0 : Nat → Prop) (Q : Exit → Act → World → Prop) (hc : SL.Calm Q)
    (hq : ∀ r, N 158 w0 F0 .normal Q (delT b sb b' b13 b15 b16) [] [cl b16 83 s.c, cl b13 83 s.c, cl b15 79 (ndA { s.d with kids := s.d.kids.set s.i m } r).toList, Stk b' L, Nds { s.d with kids := s.d.kids.set s.i m } r, Wk b sb rd 0, Store sb db S', Disk db D', A]) :
    G Tryz.prog 158 w0 F0 (nav [1, 1, 1, 1, 1, 1, 1, 1, 0, 1, 2, 2, 1, 0, 2] (bdy Tryz.f14)) Q (delT b sb b' b13 b15 b16) [] [cl b16 83 s.c, cl b13 83 xs.c, cl b15 79 (ndA n rn).toList, Stk b' L, Nds s.d s.r, Nds n rn, Wk b sb rd 0, Store sb db S, Disk db D, A] := by
  have hS := ndSize_does n rn hf
  obtain ⟨tpg, td, ⟨p1, c1, p2, c2, p3, c3⟩, ti⟩ := s
  dsimp only at hk hL hq ⊢
  obtain ⟨c, hc⟩ : ∃ c, c = nav [1, 1, 1, 1, 1, 1, 1, 1, 0, 1, 2, 2, 1, 0, 2] (bdy Tryz.f14) := ⟨_, rfl⟩
  rw [← hc]
  dsimp only [nav, bdy, Tryz.f14, Option.getD] at hc
  subst hc
  dsimp only [Sp.c, delT] at hq ⊢
  refine g_open (A := Stk b' L) (h := ?_); (rintro ⟨ps, cs⟩ _; dsimp only [StkK, List.cons_append, List.nil_append])
  refine g_open (A := Nds td ⟨p1, c1, p2, c2, p3, c3⟩) (h := ?_); (rintro _ _; dsimp only [NdsK, List.cons_append, List.nil_append])
  refine g_ptr (m := td.kids.length) (h := ?_); rintro g rfl hcp
  have hgk := iGet (l := td.kids) (k := ti) (by omega)
  (repeat' (first | refine g_seq (h := ?_) | refine g_region (h := ?_) | refine l_nil (h := ?_) | refine n_then (h := ?_) | refine l_pures1 (h := ?_) | (refine l_atc ?_; refine l_call (hS) ?_) | refine l_guard_no (h := ?_) | refine l_load (h := ?_) | refine g_cond_t (h := ?_) | (refine l_spT (h := ?_); intro h)))
  all_goals
    (refine g_draw [cl b16 83 _, vec 3 1 (some ⟨g, 0, none⟩) td.kids.length c3 (td.kids.map encZ'), cl b15 79 _] (h := a_pass2 (h := ?_)))
  all_goals
    (repeat' (first | refine g_seq (h := ?_) | refine g_region (h := ?_) | refine l_nil (h := ?_) | refine n_then (h := ?_) | refine l_pures1 (h := ?_) | (refine l_at 35 ?_; refine l_call (hL rn) ?_) | refine l_load (h := ?_) | refine l_store (h := ?_) | refine l_indexAddr (h := ?_) | refine g_skip (h := ?_) | refine a_done (h := ?_) | refine a_load (h := a_pass2 (h := ?_)) | refine a_one (h := ?_) | refine n_any (h := a_pass2 (h := ?_)) | refine g_cond_f (h := ?_) | refine l_load_vec (h := ?_) | refine l_store_vec (h := ?_)))
  rw [set_encZ]
  (refine n_shut (A := Nds { td with kids := td.kids.set ti m } ⟨p1, c1, p2, c2, some ⟨g, 0, none⟩, c3⟩) (K := NdsK { td with kids := td.kids.set ti m } ⟨p1, c1, p2, c2, some ⟨g, 0, none⟩, c3⟩ (())) (hid_shuts (()) trivial) (h := ?_) (p := by dsimp only [NdsK]; (try simp only [List.map_nil, List.length_nil, List.length_set, List.length_append, List.length_cons, List.length_singleton, List.map_append, List.map_cons, Nat.zero_add]); exact parts_of))
  (refine n_shut (A := Stk b' L) (K := StkK b' L ((ps, cs))) (hid_shuts ((ps, cs)) trivial) (h := ?_) (p := by dsimp only [StkK]; (try simp only [List.map_nil, List.length_nil, List.length_set, List.length_append, List.length_cons, List.length_singleton, List.map_append, List.map_cons, Nat.zero_add]); exact parts_of))
  have hq' := hq ⟨p1, c1, p2, c2, some ⟨g, 0, none⟩, c3⟩
  simp only [List.length_set] at hq'
  exact n_bang hq'

set_option maxHeartbeats 4000000 in
theorem del_even (A : SProp) (P : Nd → Sh → Dk → Prop) (b sb db b' b13 b15 b16 : Nat) (rd rd' : Int) (xs s : Sp) (L : List Sp) (n : Nd) (rn : Rw) (S : Sh) (D : Dk) (hn : n.size < 80) (hf : n.fits) (hk : 1 < s.d.kids.length) (hk2 : s.d.kids.length < 10000) (hlen : L.length < 100)
    (hE : ∀ r rn, Does Tryz.prog 38 [.pointer (some ⟨b, 0, none⟩), .agg #[.int .i64 s.pg, .bool s.d.leaf, .slice r.p1 s.d.keys.length r.c1, .slice r.p2 s.d.vals.length r.c2, .slice r.p3 s.d.kids.length r.c3, .int .i64 s.i], ndV n rn, .int .i64 (L.length + 1 : Nat)] [Nds s.d r, Nds n rn, Wk b sb rd 0, Store sb db S, Disk db D]
      (fun v H => ∃ (n' : Nd) (r' : Rw) (S' : Sh) (D' : Dk), v = ndV n' r' ∧ H = [Nds n' r', Wk b sb rd' 0, Store sb db S', Disk db D'] ∧ P n' S' D'))
    (w0 : World) (F0 : Nat → Prop) (Q : Exit → Act → World → Prop) (hc : SL.Calm Q)
    (hq : ∀ n' r' S' D', P n' S' D' → N 158 w0 F0 .normal Q (delT b sb b' b13 b15 b16) [] [cl b16 83 s.c, cl b13 83 s.c, cl b15 79 (ndA n' r').toList, Stk b' L, Nds n' r', Wk b sb rd' 0, Store sb db S', Disk db D', A]) :
    G Tryz.prog 158 w0 F0 (nav [1, 1, 1, 1, 1, 1, 1, 1, 0, 1, 2, 2, 1, 0, 2] (bdy Tryz.f14)) Q (delT b sb b' b13 b15 b16) [] [cl b16 83 s.c, cl b13 83 xs.c, cl b15 79 (ndA n rn).toList, Stk b' L, Nds s.d s.r, Nds n rn, Wk b sb rd 0, Store sb db S, Disk db D, A] := by
  have hS := ndSize_does n rn hf
  have ed : IntKind.i64.wrap ((L.length : Int) + 1) = ((L.length + 1 : Nat) : Int) := by rw [wrapI64 (by omega)]; rfl
  rw [← ed] at hE
  obtain ⟨tpg, td, ⟨p1, c1, p2, c2, p3, c3⟩, ti⟩ := s
  dsimp only at hk hE hq ⊢
  have hE2 := hE ⟨p1, c1, p2, c2, p3, c3⟩ rn
  dsimp only at hE2
  obtain ⟨c, hc⟩ : ∃ c, c = nav [1, 1, 1, 1, 1, 1, 1, 1, 0, 1, 2, 2, 1, 0, 2] (bdy Tryz.f14) := ⟨_, rfl⟩
  rw [← hc]
  dsimp only [nav, bdy, Tryz.f14, Option.getD] at hc
  subst hc
  dsimp only [Sp.c, delT] at hq ⊢
  refine g_open (A := Stk b' L) (h := ?_); (rintro ⟨ps, cs⟩ _; dsimp only [StkK, List.cons_append, List.nil_append])
  (repeat' (first | refine g_seq (h := ?_) | refine g_region (h := ?_) | refine l_nil (h := ?_) | refine n_then (h := ?_) | refine l_pures1 (h := ?_) | (refine l_atc ?_; refine l_call (hS) ?_) | (refine l_atc ?_; refine l_call_ (hE2) ?_; rintro _ _ _ ⟨n', r', S', D', rfl, rfl, hP⟩ he; cases he) | refine l_guard_yes (h := ?_) | refine l_load (h := ?_) | refine l_store (h := ?_) | refine g_skip (h := ?_) | refine g_cond_f (h := ?_) | (refine l_spF (h := ?_); intro h) | (refine g_spF (h := ?_); intro h)))
  (refine n_shut (A := Stk b' L) (K := StkK b' L ((ps, cs))) (hid_shuts ((ps, cs)) trivial) (h := ?_) (p := by dsimp only [StkK]; (try simp only [List.map_nil, List.length_nil, List.length_set, List.length_append, List.length_cons, List.length_singleton, List.map_append, List.map_cons, Nat.zero_add]); exact parts_of))
  exact n_bang (hq n' r' S' D' hP)
end Go.Proofs.YtpbibhhjbigdhaaGreat
/- Package tree: the loop of Delete. -/
set_option maxRecDepth 20000
set_option linter.unusedVariables false
set_option linter.unusedSimpArgs false
namespace Go.Proofs.YtpbibhhjbigdhaaGreat
open Go.Proofs.YtpbibhhjbigdhaaGreat.SL

structure DelSt where
  L : List Sp
  ab : Option Sp
  b16 : Nat
  xs : Sp
  n : Nd
  rn : Rw
  S : Sh
  D : Dk
  rd : Int
def abL (ab : Option Sp) : List Sp := match ab with
  | some s => [s]
  | none => []
def abC (ab : Option Sp) : List Value := match ab with
  | some s => s.c
  | none => [.int .i64 0, .bool false, .slice none 0 0, .slice none 0 0, .slice none 0 0, .int .i64 0]
def abN (ab : Option Sp) : Nat := match ab with
  | some _ => 1
  | none => 0
/-- What holds at each round of Delete. -/
def DelI (N : Nat) (U : List Int) (T : List Ent) (S0 : Sh) (y : DelSt) : Prop :=
  ∃ h Lf Rt es ps qs, HandD N U T y.S y.D ((abL y.ab).map Sp.spot ++ (y.L.map Sp.spot).reverse) y.xs.pg y.n h Lf Rt es ps qs ∧ (y.ab = none → y.L = []) ∧ U.length + y.S.fresh.length + 2 * (y.L.length + abN y.ab) + 5 < N ∧ y.L.length ≤ 8 ∧ 0 ≤ y.rd ∧ y.rd + y.L.length + abN y.ab < 640 ∧ y.S.gen = S0.gen ∧ y.S.root = S0.root

theorem inv_tail {w0 w : World} {F0 : Nat → Prop} {A : SProp} {H : List SProp} (i : Inv w0 F0 (A :: H) w) : Inv w0 F0 H w :=
  i.imp fun s => by
    obtain ⟨F1, F2, _, s', _, un⟩ := s
    exact ⟨F2, s', fun b hb => (un b).2 (.inr hb)⟩
theorem ndl_one {w0 w : World} {F0 : Nat → Prop} {H : List SProp} {s : Sp} (i : Inv w0 F0 (NdL [s] :: H) w) : Inv w0 F0 (Nds s.d s.r :: H) w := inv_tail (ndl_last (L := []) i)
theorem ndl_sing {w0 w : World} {F0 : Nat → Prop} {H : List SProp} {s : Sp} (i : Inv w0 F0 (Nds s.d s.r :: H) w) : Inv w0 F0 (NdL [s] :: H) w := ndl_snoc (L := []) (ndl_nil i)

theorem abL_len (ab : Option Sp) : (abL ab).length = abN ab := by cases ab <;> rfl
theorem DelI.next {N : Nat} {U : List Int} {T : List Ent} {S0 S' : Sh} {D' : Dk} {L' : List Sp} {ab : Option Sp} {b17 : Nat} {s : Sp} {n' : Nd} {r : Rw} {rd : Int} {h : Nat} {Lf Rt es : List Ent} {ps qs : List Int}
    (k : HandD N U T S' D' ((L' ++ abL ab).map Sp.spot).reverse s.pg n' h Lf Rt es ps qs) (hab : ab = none → L' = []) (room : U.length + S'.fresh.length + 2 * (L' ++ abL ab).length + 5 < N) (hL : (L' ++ abL ab).length ≤ 8) (h1 : 0 ≤ rd) (h2 : rd + ((L' ++ abL ab).length : Nat) < 640) (hg : S'.gen = S0.gen) (hr : S'.root = S0.root) :
    DelI N U T S0 ⟨L', ab, b17, s, n', r, S', D', rd⟩ := by
  have hl := abL_len ab
  rw [List.length_append, hl] at room hL h2
  refine ⟨h, Lf, Rt, es, ps, qs, ?_, hab, room, by show L'.length ≤ 8; omega, h1, by show rd + (L'.length : Int) + (abN ab : Int) < 640; omega, hg, hr⟩
  have e : ((L' ++ abL ab).map Sp.spot).reverse = (abL ab).map Sp.spot ++ (L'.map Sp.spot).reverse := by
    rw [List.map_append, List.reverse_append]
    cases ab <;> rfl
  rw [e] at k
  exact k

set_option maxHeartbeats 4000000 in
theorem del_next (A B C : SProp) (b sb b' b13 b15 b16 : Nat) (s : Sp) (L : List Sp) (n' : Nd) (r' : Rw) (hlen : L.length < 100) (w0 : World) (F0 : Nat → Prop) (Q : Exit → Act → World → Prop) (hc : SL.Calm Q)
    (hq : ∀ b16' ab L', L = L' ++ abL ab → (ab = none → L' = []) → N 158 w0 F0 .normal Q [(17, .bool ab.isSome), (16, .pointer (some ⟨b16', 0, none⟩)), (15, .pointer (some ⟨b15, 0, none⟩)), (13, .pointer (some ⟨b13, 0, none⟩)), (12, .pointer (some ⟨b', 0, none⟩)), (11, .pointer (some ⟨b, 0, none⟩)), (0, .pointer (some ⟨sb, 0, none⟩))] []
      [cl b16' 83 (abC ab), cl b13 83 s.c, cl b15 79 (ndA n' r').toList, Stk b' L', NdL L', NdL (abL ab), Nds n' r', A, B, C]) :
    G Tryz.prog 158 w0 F0 (nav [1, 1, 1, 1, 1, 1, 1, 1, 0, 1, 2, 2, 1, 1] (bdy Tryz.f14)) Q (delT b sb b' b13 b15 b16) [] [cl b16 83 s.c, cl b13 83 s.c, cl b15 79 (ndA n' r').toList, Stk b' L, NdL L, Nds n' r', A, B, C] := by
  obtain ⟨c, hc⟩ : ∃ c, c = nav [1, 1, 1, 1, 1, 1, 1, 1, 0, 1, 2, 2, 1, 1] (bdy Tryz.f14) := ⟨_, rfl⟩
  rw [← hc]
  dsimp only [nav, bdy, Tryz.f14, Option.getD] at hc
  subst hc
  rcases List.eq_nil_or_concat L with rfl | ⟨L', s2, rfl⟩
  · have hp := popNone_does b'
    dsimp only [Sp.c, delT]
    (repeat (first | refine g_seq (h := ?_) | refine g_region (h := ?_) | refine l_nil (h := ?_) | refine n_then (h := ?_) | refine l_pures1 (h := ?_) | (refine l_atc ?_; refine l_call (hp) ?_) | refine l_load (h := ?_) | refine l_store (h := ?_) | (refine l_alloc (h := ?_); intro _)))
    rename_i b17
    refine n_inv (fun i => ndl_nil i) ?_
    have hq' := hq b17 none [] rfl (fun _ => rfl)
    dsimp only [abC, abL, Option.isSome, Sp.c, ndA] at hq' ⊢
    exact n_bang hq'
  · rw [List.concat_eq_append] at *
    have hp := pop_does b' L' s2 (by simp at hlen; omega)
    refine g_inv (fun i => ndl_last (i.take (A := NdL (L' ++ [s2])) (by with_reducible (repeat (first | refine Take.here | apply Take.there))))) ?_
    dsimp only [Sp.c, delT]
    (repeat (first | refine g_seq (h := ?_) | refine g_region (h := ?_) | refine l_nil (h := ?_) | refine n_then (h := ?_) | refine l_pures1 (h := ?_) | (refine l_atc ?_; refine l_call (hp) ?_) | refine l_load (h := ?_) | refine l_store (h := ?_) | (refine l_alloc (h := ?_); intro _)))
    rename_i b17
    refine n_inv (fun i => ndl_sing (s := s2) (i.take (A := Nds s2.d s2.r) (by with_reducible (repeat (first | refine Take.here | apply Take.there))))) ?_
    have hq' := hq b17 (some s2) L' rfl (fun e => by cases e)
    dsimp only [abC, abL, Option.isSome, Sp.c, ndA] at hq' ⊢
    exact n_bang hq'

set_option maxHeartbeats 8000000 in
theorem del_loop (b sb db b' b13 b15 N : Nat) (U : List Int) (T : List Ent) (S0 : Sh) (y0 : DelSt) (h0 : DelI N U T S0 y0) (w0 : World) (F0 : Nat → Prop) :
    G Tryz.prog 158 w0 F0 (nav [1, 1, 1, 1, 1, 1, 1, 1, 0, 1] (bdy Tryz.f14)) (Exit.then ((nav [1, 1, 1, 1, 1, 1, 1, 1, 1] (bdy Tryz.f14)).wp Tryz.prog (Post Tryz.prog Tryz.f14 w0 F0 (DelQ N U T S0 sb db))) (Post Tryz.prog Tryz.f14 w0 F0 (DelQ N U T S0 sb db)))
      [(17, .bool y0.ab.isSome), (16, .pointer (some ⟨y0.b16, 0, none⟩)), (15, .pointer (some ⟨b15, 0, none⟩)), (13, .pointer (some ⟨b13, 0, none⟩)), (12, .pointer (some ⟨b', 0, none⟩)), (11, .pointer (some ⟨b, 0, none⟩)), (0, .pointer (some ⟨sb, 0, none⟩))] []
      [cl y0.b16 83 (abC y0.ab), cl b13 83 y0.xs.c, cl b15 79 (ndA y0.n y0.rn).toList, Stk b' y0.L, NdL y0.L, NdL (abL y0.ab), Nds y0.n y0.rn, Wk b sb y0.rd 0, Store sb db y0.S, Disk db y0.D] := by
  obtain ⟨tl, htl⟩ : ∃ c, c = nav [1, 1, 1, 1, 1, 1, 1, 1, 1] (bdy Tryz.f14) := ⟨_, rfl⟩
  rw [← htl]
  obtain ⟨c, hc⟩ : ∃ c, c = nav [1, 1, 1, 1, 1, 1, 1, 1, 0, 1] (bdy Tryz.f14) := ⟨_, rfl⟩
  rw [← hc]
  dsimp only [nav, bdy, Tryz.f14, Option.getD] at hc
  subst hc
  refine g_block ?_
  (refine g_loop (fun y : DelSt => [(17, .bool y.ab.isSome), (16, .pointer (some ⟨y.b16, 0, none⟩)), (15, .pointer (some ⟨b15, 0, none⟩)), (13, .pointer (some ⟨b13, 0, none⟩)), (12, .pointer (some ⟨b', 0, none⟩)), (11, .pointer (some ⟨b, 0, none⟩)), (0, .pointer (some ⟨sb, 0, none⟩))]) (fun y => [cl y.b16 83 (abC y.ab), cl b13 83 y.xs.c, cl b15 79 (ndA y.n y.rn).toList, Stk b' y.L, NdL y.L, NdL (abL y.ab), Nds y.n y.rn, Wk b sb y.rd 0, Store sb db y.S, Disk db y.D]) (fun y => DelI N U T S0 y) (fun y => y.L.length + abN y.ab) (y0) ?_ ?_ ?_ ?_; rotate_left; (repeat (first | refine ts_nil | (refine ts_cons rfl ?_ ?_; first | (with_reducible rfl) | rotate_left))); (first | (intro _ i; with_reducible refine i) | rotate_left); rotate_left; (try omega); rotate_right)
  · rintro ⟨L, ab, b16, xs, n, rn, S, D, rd⟩ ⟨h, Lf, Rt, es, ps, qs, k, hab, room, hL8, hrd0, hrd, hgen, hroot⟩
    dsimp only at k hab room hL8 hrd0 hrd hgen hroot ⊢
    cases ab with
    | none =>
      obtain rfl := hab rfl
      dsimp only [Option.isSome]
      have ht := del_tail b sb db b13 b15 N U T S0 S D xs n rn rd (k : HandD N U T S D [] xs.pg n h Lf Rt es ps qs) (by simp only [List.length_nil, abN] at room; omega) hgen hroot w0 F0
      rw [← htl] at ht
      (repeat (first | refine g_seq (h := ?_) | refine g_region (h := ?_) | refine l_nil (h := ?_) | refine n_then (h := ?_) | refine l_pures1 (h := ?_) | refine g_exit (h := ?_) | refine n_then_exit (h := ?_) | refine n_block_hit (h := ?_) | refine g_cond_f (h := ?_)))
      exact g_bang ht
    | some s =>
      dsimp only [Option.isSome, abL, abN, abC] at *
      have k : HandD N U T S D (s.spot :: (L.map Sp.spot).reverse) xs.pg n h Lf Rt es ps qs := k
      obtain ⟨_, _, _, _, _, _, v0, v1, _⟩ := k.way
      have v2 : s.d.leaf = false := v1.leaf
      have v3 : s.i ≤ s.d.keys.length := v1.ile
      have v4 : s.d.good := v1.good
      have v5 : s.d.kids.length = s.d.keys.length + 1 := kidsLen v4.p v2
      have v6 := v4.fits.i
      have v7 : 0 < s.d.keys.length := List.length_pos_iff.2 v1.ne
      have v8 := v4.size
      have hnf : n.fits := k.nt.plain.fits (by have := k.size; omega)
      have hv9 : s.d.kids.length < 10000 := by
        simp only [Nd.size, v2, Bool.false_eq_true, if_false] at v8
        omega
      refine g_inv (fun i => ndl_one (i.take (A := NdL [s]) (by with_reducible (repeat (first | refine Take.here | apply Take.there))))) ?_
      by_cases hz : 80 ≤ n.size
      · obtain ⟨m, S', D', Lf', Rt', es', ps', qs', c1, c2, c3, c4, c5⟩ := k.lay hz (by omega)
        have hlink : s.d.kids.getD s.i 0 = xs.pg := k.link.1
        (repeat (first | ((with_reducible show G _ _ _ _ (Code.seq (Code.region 15 _ _) _) _ _ _ _); refine g_bang (del_lay (NdL L) b sb db b' b13 b15 b16 rd m xs s L n rn S S' D D' hz hnf (by omega) (by omega) (by rw [hlink]; exact c1 b sb db rd) w0 F0 _ (by with_reducible (repeat (first | refine calm_post | apply calm_then | apply calm_block))) ?_)) | refine g_seq (h := ?_) | refine g_region (h := ?_) | refine l_nil (h := ?_) | refine n_then (h := ?_) | refine l_pures1 (h := ?_) | refine g_skip (h := ?_) | refine g_block (h := ?_) | refine g_cond_t (h := ?_)))
        intro r
        (repeat (first | ((with_reducible show G _ _ _ _ (Code.seq (Code.seq (Code.region 24 _ _) _) _) _ _ _ _); refine g_bang (del_next (Wk b sb rd 0) (Store sb db S') (Disk db D') b sb b' b13 b15 b16 s L { s.d with kids := s.d.kids.set s.i m } r (by omega) w0 F0 _ (by with_reducible (repeat (first | refine calm_post | apply calm_then | apply calm_block))) ?_)) | refine n_then (h := ?_) | refine n_block (h := ?_)))
        intro b17 ab L' hL hab'
        subst hL
        (refine n_back ((⟨L', ab, b17, s, { s.d with kids := s.d.kids.set s.i m }, r, S', D', rd⟩ : DelSt)) ?_ ?_ ?_ ?_; rotate_left; rotate_left; (repeat (first | refine ts_nil | (refine ts_cons rfl ?_ ?_; first | (with_reducible rfl) | rotate_left))); (first | (intro _ i; with_reducible refine i) | rotate_left); (try omega); (try omega))
        · simp only [List.length_append, abL_len] at room hrd hL8
          exact DelI.next c2 hab' (by rw [List.length_append, abL_len]; omega) (by rw [List.length_append, abL_len]; omega) hrd0 (by rw [List.length_append, abL_len]; omega) (c4.trans hgen) (c5.trans hroot)
        · show L'.length + abN ab < (L' ++ abL ab).length + 1
          rw [List.length_append, abL_len]; omega
        · cases ab <;> rfl
        · cases ab <;> dsimp only [abC, abL, ndA]
          all_goals
            (intro _ i; exact inv_keep parts_of i)
      · have hz : n.size < 80 := by omega
        have hE := fun r rn => k.even hz (by omega) b sb db (L.length + 1) r rn rd ⟨hrd0, by omega⟩ (by omega)
        (repeat (first | ((with_reducible show G _ _ _ _ (Code.seq (Code.region 15 _ _) _) _ _ _ _); refine g_bang (del_even (NdL L) (fun n' S' D' => (∃ Lf' Rt' es' ps' qs', HandD N U T S' D' (L.map Sp.spot).reverse s.pg n' (h + 1) Lf' Rt' es' ps' qs') ∧ S'.fresh.length ≤ S.fresh.length + 2 ∧ S'.gen = S.gen ∧ S'.root = S.root) b sb db b' b13 b15 b16 rd (rd + 1) xs s L n rn S D hz hnf (by omega) (by omega) (by omega) hE w0 F0 _ (by with_reducible (repeat (first | refine calm_post | apply calm_then | apply calm_block))) ?_)) | refine g_seq (h := ?_) | refine g_region (h := ?_) | refine l_nil (h := ?_) | refine n_then (h := ?_) | refine l_pures1 (h := ?_) | refine g_skip (h := ?_) | refine g_block (h := ?_) | refine g_cond_t (h := ?_)))
        rintro n' r S' D' ⟨⟨Lf', Rt', es', ps', qs', c2⟩, c3, c4, c5⟩
        (repeat (first | ((with_reducible show G _ _ _ _ (Code.seq (Code.seq (Code.region 24 _ _) _) _) _ _ _ _); refine g_bang (del_next (Wk b sb (rd + 1) 0) (Store sb db S') (Disk db D') b sb b' b13 b15 b16 s L n' r (by omega) w0 F0 _ (by with_reducible (repeat (first | refine calm_post | apply calm_then | apply calm_block))) ?_)) | refine n_then (h := ?_) | refine n_block (h := ?_)))
        intro b17 ab L' hL hab'
        subst hL
        (refine n_back ((⟨L', ab, b17, s, n', r, S', D', rd + 1⟩ : DelSt)) ?_ ?_ ?_ ?_; rotate_left; rotate_left; (repeat (first | refine ts_nil | (refine ts_cons rfl ?_ ?_; first | (with_reducible rfl) | rotate_left))); (first | (intro _ i; with_reducible refine i) | rotate_left); (try omega); (try omega))
        · simp only [List.length_append, abL_len] at room hrd hL8
          exact DelI.next c2 hab' (by rw [List.length_append, abL_len]; omega) (by rw [List.length_append, abL_len]; omega) (by omega) (by rw [List.length_append, abL_len]; omega) (c4.trans hgen) (c5.trans hroot)
        · show L'.length + abN ab < (L' ++ abL ab).length + 1
          rw [List.length_append, abL_len]; omega
        · cases ab <;> rfl
        · cases ab <;> dsimp only [abC, abL, ndA]
          all_goals
            (intro _ i; exact inv_keep parts_of i)
end Go.Proofs.YtpbibhhjbigdhaaGreat
/- Package tree: Delete, whole. -/
set_option maxRecDepth 20000
set_option linter.unusedVariables false
set_option linter.unusedSimpArgs false
namespace Go.Proofs.YtpbibhhjbigdhaaGreat
open Go.Proofs.YtpbibhhjbigdhaaGreat.SL

theorem goes_link {S : Sh} {D : Dk} {x : Nat} {s : Spot} : ∀ {top : List Spot} {pg : Int} {up : List Spot}, Goes S D x pg (top ++ [s]) → LinkTo up pg → LinkTo (top.reverse ++ up) s.pg
  | [], pg, up, g, l => by
    have h : s.pg = pg := g.1
    rw [h]; exact l
  | t :: top, pg, up, g, l => by
    obtain ⟨h1, _, _, h | h⟩ := g
    · simp at h
    · rw [List.reverse_cons, List.append_assoc]
      exact goes_link (up := t :: up) h.2.2 ⟨rfl, by rw [h1]; exact l⟩

set_option maxHeartbeats 8000000 in
theorem del1_does (sb db x N : Nat) (v : List UInt8) (root : Int) (U : List Int) (T0 T : List Ent) (S : Sh) (D : Dk) (k : Fine N S D U) (ht : IsTree N S D U root T0) (hv : getE T0 x = some v) (l0 : List Spot) (s : Spot) (hg : Goes S D x root (l0 ++ [s])) (hl : l0.length ≤ 8)
    (hsi : s.i < s.d.keys.length)
    (hI : ∀ b16 L' ab (t : Sp) r, (L' ++ abL ab).map Sp.spot = l0 → (ab = none → L' = []) → t.spot = s → DelI N U T S ⟨L', ab, b16, t, s.d.without s.i, r, S, D, 0 + ((l0.length + 1 : Nat) : Int)⟩) :
    Does Tryz.prog 14 [.pointer (some ⟨sb, 0, none⟩), .int .i64 root, .int .u64 x] [Store sb db S, Disk db D] (DelQ N U T S sb db) := by
  obtain ⟨hd, hlf, hi⟩ := hg.last
  have hw := fun b => way_does b sb db x root 0 S D (l0 ++ [s]) hg (by simp; omega) (by simp; omega)
  have hG := get_tree sb db x N root U T0 S D k ht
  rw [hv] at hG
  refine does_of Tryz.func14 Tryz.ntmps14 rfl rfl rfl (fun w0 F0 => ?_)
  (repeat' (first | refine g_seq (h := ?_) | refine g_region (h := ?_) | refine l_nil (h := ?_) | refine n_then (h := ?_) | refine l_pures1 (h := ?_) | (refine l_at 16 ?_; refine l_call (hG) ?_) | (refine l_box (h := ?_); intro _) | refine g_skip (h := ?_) | refine g_block (h := ?_) | refine n_block (h := ?_) | refine g_cond_f (h := ?_)))
  rename_i b
  refine l_inv (H' := [Wk b sb 0 0, Store sb db S, Disk db D]) (fun i => i) ?_
  (repeat' (first | refine g_seq (h := ?_) | refine g_region (h := ?_) | refine l_nil (h := ?_) | refine n_then (h := ?_) | refine l_pures1 (h := ?_) | (refine l_atc ?_; refine l_call_ (hw b) ?_; rintro _ _ _ ⟨b', L, hL, rfl, rfl⟩ he; cases he) | refine l_load (h := ?_) | refine g_skip (h := ?_) | refine g_cond_f (h := ?_)))
  obtain ⟨L0, t, rfl⟩ : ∃ L0 t, L = L0 ++ [t] := by
    rcases List.eq_nil_or_concat L with rfl | ⟨l, s, rfl⟩
    · simp at hL
    · exact ⟨l, s, by simp⟩
  have hL2 : L0.map Sp.spot = l0 ∧ t.spot = s := by
    have := congrArg List.reverse hL
    simp at this
    exact ⟨this.2, this.1⟩
  obtain ⟨hL1, hts⟩ := hL2
  subst hts
  have hlen : L0.length = l0.length := by rw [← hL1]; simp
  have hpop := pop_does b' L0 t (by omega)
  refine l_inv (fun q => ndl_last (q.take (A := NdL (L0 ++ [t])) (by with_reducible (repeat (first | refine Take.here | apply Take.there))))) ?_
  dsimp only [Sp.spot] at hlf hsi
  have hki : t.d.kids = [] := List.length_eq_zero_iff.1 (by have := hd.p.kids; rw [show (Sp.spot t).d.leaf = true from hlf] at this; simpa using this)
  have hP := nWithout_does t.d t.r t.i hlf hd.fits hsi hki
  have hlp := fun b13 b15 b16 L' ab rp h1 h2 => del_loop b sb db b' b13 b15 N U T S ⟨L', ab, b16, t, t.d.without t.i, rp, S, D, 0 + ((l0 ++ [t.spot]).length : Int)⟩ (by rw [List.length_append, List.length_singleton]; exact hI b16 L' ab t rp h1 h2 rfl) w0 F0
  dsimp only [Sp.c] at hlp
  rcases List.eq_nil_or_concat L0 with rfl | ⟨L', s2, rfl⟩
  · have hp2 := popNone_does b'
    have h2 := fun b13 b15 b16 rp => hlp b13 b15 b16 [] none rp (by simpa [abL] using hL1) (fun _ => rfl)
    dsimp only [Option.isSome, abC, abL] at h2
    refine l_inv (fun i => ndl_nil i) ?_
    (repeat (first | ((with_reducible show G _ _ _ _ (Code.block 1 _) _ _ _ _); exact g_bang (h2 _ _ _ _)) | refine g_seq (h := ?_) | refine g_region (h := ?_) | refine l_nil (h := ?_) | refine n_then (h := ?_) | refine l_pures1 (h := ?_) | (refine l_atc ?_; refine l_call (hpop) ?_) | (refine l_atc ?_; refine l_call_ (hP) ?_; rintro _ _ _ ⟨rp, rfl, rfl⟩ he; cases he) | (refine l_atc ?_; refine l_call (hp2) ?_) | refine l_load (h := ?_) | refine l_store (h := ?_) | (refine l_alloc (h := ?_); intro _)))
  · rw [List.concat_eq_append] at *
    have hp2 := pop_does b' L' s2 (by simp at hlen; omega)
    have h2 := fun b13 b15 b16 rp => hlp b13 b15 b16 L' (some s2) rp (by simpa [abL] using hL1) (fun e => by cases e)
    dsimp only [Option.isSome, abC, abL, Sp.c] at h2
    refine l_inv (fun q => ndl_last (q.take (A := NdL (L' ++ [s2])) (by with_reducible (repeat (first | refine Take.here | apply Take.there))))) ?_
    refine l_inv (fun i => ndl_sing (s := s2) (i.take (A := Nds s2.d s2.r) (by with_reducible (repeat (first | refine Take.here | apply Take.there))))) ?_
    (repeat (first | ((with_reducible show G _ _ _ _ (Code.block 1 _) _ _ _ _); exact g_bang (h2 _ _ _ _)) | refine g_seq (h := ?_) | refine g_region (h := ?_) | refine l_nil (h := ?_) | refine n_then (h := ?_) | refine l_pures1 (h := ?_) | (refine l_atc ?_; refine l_call (hpop) ?_) | (refine l_atc ?_; refine l_call_ (hP) ?_; rintro _ _ _ ⟨rp, rfl, rfl⟩ he; cases he) | (refine l_atc ?_; refine l_call (hp2) ?_) | refine l_load (h := ?_) | refine l_store (h := ?_) | (refine l_alloc (h := ?_); intro _)))

theorem del_tree (sb db x N : Nat) (v : List UInt8) (root : Int) (U : List Int) (T : List Ent) (S : Sh) (D : Dk) (k : Fine N S D U) (ht : IsTree N S D U root T) (hv : getE T x = some v) (room : U.length + S.fresh.length + 25 < N) :
    Does Tryz.prog 14 [.pointer (some ⟨sb, 0, none⟩), .int .i64 root, .int .u64 x] [Store sb db S, Disk db D] (DelQ N U (delE T x) S sb db) := by
  have hN := k.n
  have ht0 := ht
  rcases ht with ⟨rfl, rfl, h0⟩ | ⟨h, ps, o, hp⟩
  · simp [getE] at hv
  · obtain ⟨top, s, L, R, qs, r1, r2, r8, r3, r4, r5, r6, r7, f1, f2, r10, r11, hroot, he⟩ := tree_way k o hp x
    have hx : x ∈ s.d.keys := by
      apply Decidable.byContradiction
      intro c
      rw [if_neg c, hv] at he
      cases he
    have hlt : s.i < s.d.keys.length := by
      have hg := posN_gone r4.p.rise x
      rw [if_pos hx] at hg
      rw [r6]; omega
    obtain ⟨lt1, lt2⟩ := r3.lt f1
    obtain ⟨n1, n2⟩ := without_nt (g := Gd N D) (d := s.d) (es := s.d.ents) (ps := []) ⟨r5, r4.p, rfl, rfl⟩ hx
    have hlink := goes_link (up := []) r1 trivial
    rw [List.append_nil] at hlink
    refine del1_does sb db x N v root U T (delE T x) S D k ht0 hv top s r1 (by omega) hlt fun b16 L' ab t r e1 e2 e3 => DelI.next (h := 0) (Lf := L) (Rt := R) (es := delE s.d.ents x) (ps := []) (qs := qs) ⟨k, ?_, ?_, ?_, ?_, ?_, ?_, ?_⟩ e2 ?_ ?_ (by omega) ?_ rfl rfl
    all_goals
      have e5 : (L' ++ abL ab).length = top.length := by rw [← e1, List.length_map]
      have e4 : t.pg = s.pg := congrArg Spot.pg e3
    · rw [e1]; exact r3
    · rw [r6]; exact n1
    · rw [e4]; exact r11
    · intro e h1
      rw [e1]
      exact f2 e (List.mem_filter.1 h1).1
    · rw [← r10, delE_mid lt1 lt2]
    · have := r4.size
      rw [r6]; omega
    · rw [e1, e4]; exact hlink
    · rw [e5]; omega
    · rw [e5]; omega
    · rw [e5]; omega
end Go.Proofs.YtpbibhhjbigdhaaGreat
/- TreeEmpties. -/
set_option maxRecDepth 20000
set_option linter.unusedVariables false
set_option linter.unusedSimpArgs false
namespace Go.Proofs.YtpbibhhjbigdhaaGreat
open Go.Proofs.YtpbibhhjbigdhaaGreat.SL

theorem Tr.del {N : Nat} {S : Sh} {D : Dk} {U : List Int} {root : Int} {T : List Ent} {m : Nat} (k : Tr N S D U root T m) (sb db x : Nat) (hx : (getE T x).isSome = true) (room : U.length + 2 * m + 25 < N) :
    Does Tryz.prog 14 [.pointer (some ⟨sb, 0, none⟩), .int .i64 root, .int .u64 x] [Store sb db S, Disk db D]
      (fun u H => ∃ r S' D', u = .tuple #[.int .i64 r, .bool true, .int .i64 0] ∧ H = [Store sb db S', Disk db D'] ∧ Tr N S' D' U r (delE T x) m ∧ S'.gen = S.gen ∧ S'.root = S.root) := by
  have h1 := k.tree.few
  have h2 := k.fine.fresh_le
  have h3 := k.len
  obtain ⟨v, hv⟩ := Option.isSome_iff_exists.1 hx
  refine (del_tree sb db x N v root U T S D k.fine k.tree hv (by omega)).mono ?_
  rintro u H ⟨r, S', D', rfl, rfl, a, b, c, d⟩
  exact ⟨r, S', D', rfl, rfl, ⟨b, a, by have := delE_len T x; omega⟩, c, d⟩

/-- The keys of a tree, in a list. -/
def KeyL (K : List Nat) (T : List Ent) : Prop := K.Nodup ∧ ∀ x, (getE T x).isSome = true ↔ x ∈ K
theorem KeyL.same {K : List Nat} {T : List Ent} (h : KeyL K T) {x : Nat} (v : List UInt8) (hx : (getE T x).isSome = true) : KeyL K (putE T x v) := by
  refine ⟨h.1, fun y => ?_⟩
  rw [getE_put]
  by_cases q : y = x
  · subst q
    rw [if_pos rfl]
    exact ⟨fun _ => (h.2 y).1 hx, fun _ => rfl⟩
  · rw [if_neg q]; exact h.2 y
theorem KeyL.add {K : List Nat} {T : List Ent} (h : KeyL K T) {x : Nat} (v : List UInt8) (hx : ¬ (getE T x).isSome = true) : KeyL (K ++ [x]) (putE T x v) := by
  have hn : x ∉ K := fun q => hx ((h.2 x).2 q)
  refine ⟨List.nodup_append.2 ⟨h.1, by simp, by rintro a ha b hb rfl; simp at hb; subst hb; exact hn ha⟩, fun y => ?_⟩
  rw [getE_put]
  by_cases q : y = x
  · subst q; simp
  · rw [if_neg q, h.2 y]; simp [q]

/-- Round about. -/
def rot (r n i : Nat) : Nat := if r + i < n then r + i else r + i - n
theorem rot_lt {r n i : Nat} (hr : r < n) (hi : i < n) : rot r n i < n := by unfold rot; split <;> omega
theorem rot_inj {r n i j : Nat} (hr : r < n) (hi : i < n) (hj : j < n) (h : rot r n i = rot r n j) : i = j := by
  unfold rot at h
  split at h <;> split at h <;> omega
theorem rot_onto {r n k : Nat} (hr : r < n) (hk : k < n) : ∃ i, i < n ∧ rot r n i = k := by
  by_cases q : r ≤ k
  · exact ⟨k - r, by omega, by unfold rot; split <;> omega⟩
  · exact ⟨k + n - r, by omega, by unfold rot; split <;> omega⟩
theorem rot_mod {a n i : Nat} (hn : 0 < n) (hi : i < n) (hb : n < 1000) : (IntKind.i64.wrap (Int.tmod (a : Int) (n : Int) + (i : Int))).tmod (n : Int) = ((rot (a % n) n i : Nat) : Int) := by
  have h1 : a % n < n := Nat.mod_lt _ hn
  rw [← Int.ofNat_tmod, wrapI64 (by omega)]
  rw [show ((a % n : Nat) : Int) + (i : Int) = ((a % n + i : Nat) : Int) by omega, ← Int.ofNat_tmod]
  congr 1
  unfold rot
  split
  · exact Nat.mod_eq_of_lt (by assumption)
  · rw [Nat.mod_eq_sub_mod (by omega)]
    exact Nat.mod_eq_of_lt (by omega)
/-- The keys that are there yet. -/
def RestK (K : List Nat) (r i : Nat) (T : List Ent) : Prop := ∀ x, (getE T x).isSome = true ↔ ∃ j, i ≤ j ∧ j < K.length ∧ K.getD (rot r K.length j) 0 = x
theorem RestK.start {K : List Nat} {T : List Ent} (h : KeyL K T) {a : Nat} : RestK K (a % K.length) 0 T := by
  intro x
  rw [h.2 x]
  constructor
  · intro hx
    obtain ⟨k, hk, rfl⟩ := List.mem_iff_getElem.1 hx
    obtain ⟨i, h1, h2⟩ := rot_onto (r := a % K.length) (n := K.length) (Nat.mod_lt _ (by omega)) hk
    exact ⟨i, Nat.zero_le _, h1, by rw [h2]; simp [List.getD, hk]⟩
  · rintro ⟨j, _, hj, rfl⟩
    exact getD_mem (rot_lt (Nat.mod_lt _ (by omega)) hj)
theorem RestK.step {K : List Nat} {T : List Ent} {r i : Nat} (hn : K.Nodup) (h : RestK K r i T) (hr : r < K.length) (hi : i < K.length) : RestK K r (i + 1) (delE T (K.getD (rot r K.length i) 0)) := by
  intro y
  rw [getE_del]
  by_cases q : y = K.getD (rot r K.length i) 0
  · rw [if_pos q]
    constructor
    · intro e; cases e
    · rintro ⟨j, h1, h2, h3⟩
      have e1 := rot_lt hr hi
      have e2 := rot_lt hr h2
      rw [q, List.getD, List.getD, List.getElem?_eq_getElem e1, List.getElem?_eq_getElem e2] at h3
      have := (List.getElem_inj hn).1 h3
      have := rot_inj hr h2 hi this
      omega
  · rw [if_neg q, h y]
    constructor
    · rintro ⟨j, h1, h2, h3⟩
      refine ⟨j, ?_, h2, h3⟩
      rcases Nat.lt_or_ge i j with c | c
      · exact c
      · obtain rfl : j = i := by omega
        exact absurd h3.symm q
    · rintro ⟨j, h1, h2, h3⟩
      exact ⟨j, by omega, h2, h3⟩
theorem RestK.none {K : List Nat} {T : List Ent} {r : Nat} (h : RestK K r K.length T) : T = [] := by
  cases T with
  | nil => rfl
  | cons e T =>
    have h1 : (getE (e :: T) e.1).isSome = true := by simp [getE]
    obtain ⟨j, h2, h3, _⟩ := (h e.1).1 h1
    omega
theorem Tr.empty {N : Nat} {S : Sh} {D : Dk} {root : Int} {m : Nat} (k : Tr N S D [] root [] m) : root = 0 ∧ S.left D = N - 2 := by
  have h1 := k.tree.few
  have h2 := k.fine.fresh_le
  have h3 : S.fresh.length = 0 := by simp at h1; rw [h1] at h2; simpa using h2
  have h4 := k.fine.h.u.count
  have h5 := k.fine.d.n
  refine ⟨?_, by unfold Sh.left; have h6 : countB S.used = 0 := h4; rw [h5, h6, h3]; omega⟩
  rcases k.tree with ⟨h, _⟩ | ⟨h, ps, o, p⟩
  · exact h
  · have := o.few
    simp at this

set_option maxHeartbeats 4000000 in
/-- What comes behind the first loop. -/
theorem empties_tail (b db xb sb rb a : Nat) (p pk : Option Addr) (ks : List Int) (K : List Nat) (cap ck : Nat) (o : Obj) (root : Int) (S : Sh) (D : Dk) (T : List Ent) (k : Tr 400 S D [] root T 50) (hK : KeyL K T) (hKl : K.length ≤ 50) (ha : a < 9223372036854775808) (w0 : World) (F0 : Nat → Prop) :
    G Tryz.prog 146 w0 F0 (nav [1, 1, 1, 1, 1, 1, 1, 1, 1] (bdy Tryz.f3)) (Post Tryz.prog Tryz.f3 w0 F0 (fun v H => v = .bool true ∧ H = [ins p ks.length (ks.map encZ') o]))
      [(8, .slice pk K.length ck), (6, .pointer (some ⟨b, 0, none⟩)), (5, .bool true), (1, .int .i64 (a : Nat))] [] [Wd b db xb sb rb root, Store sb db S, Disk db D, vec 38 1 pk K.length ck (uV K), ins p ks.length (ks.map encZ') o] := by
  obtain ⟨c, hc⟩ : ∃ c, c = nav [1, 1, 1, 1, 1, 1, 1, 1, 1] (bdy Tryz.f3) := ⟨_, rfl⟩
  rw [← hc]
  dsimp only [nav, bdy, Tryz.f3, Option.getD] at hc
  subst hc
  (repeat (first | refine g_seq (h := ?_) | refine g_region (h := ?_) | refine l_nil (h := ?_) | refine n_then (h := ?_) | refine l_pures1 (h := ?_) | refine g_block (h := ?_)))
  (refine g_loop (fun y : Nat × Int × Sh × Dk × List Ent => [(13, .int .i64 y.1), (8, .slice pk K.length ck), (6, .pointer (some ⟨b, 0, none⟩)), (5, .bool true), (1, .int .i64 (a : Nat))]) (fun y => [Wd b db xb sb rb y.2.1, Store sb db y.2.2.1, Disk db y.2.2.2.1, vec 38 1 pk K.length ck (uV K), ins p ks.length (ks.map encZ') o]) (fun y => Tr 400 y.2.2.1 y.2.2.2.1 [] y.2.1 y.2.2.2.2 50 ∧ RestK K (a % K.length) y.1 y.2.2.2.2 ∧ y.1 ≤ K.length) (fun y => K.length - y.1) ((0, root, S, D, T)) ?_ ?_ ?_ ?_; rotate_left; (repeat (first | refine ts_nil | (refine ts_cons rfl ?_ ?_; first | (with_reducible rfl) | rotate_left))); (first | (intro _ i; with_reducible refine i) | rotate_left); rotate_left; (try omega); rotate_right)
  · rintro ⟨i, root, S, D, T⟩ ⟨k, hr, hi⟩
    dsimp only at k hr hi ⊢
    by_cases hil : i < K.length
    · have hrl : a % K.length < K.length := Nat.mod_lt _ (by omega)
      have hrot := rot_mod (a := a) (n := K.length) (i := i) (by omega) hil (by omega)
      have hrt := rot_lt hrl hil
      obtain ⟨q, hq⟩ : ∃ q, q = rot (a % K.length) K.length i := ⟨_, rfl⟩
      rw [← hq] at hrot hrt
      have hib : 0 ≤ (IntKind.i64.wrap (Int.tmod (a : Int) (K.length : Int) + (i : Int))).tmod (K.length : Int) ∧ (IntKind.i64.wrap (Int.tmod (a : Int) (K.length : Int) + (i : Int))).tmod (K.length : Int) < K.length := by rw [hrot]; omega
      have hgk : (uV K)[0 + ((IntKind.i64.wrap (Int.tmod (a : Int) (K.length : Int) + (i : Int))).tmod (K.length : Int)).toNat * 1]? = some (.int .u64 (K.getD q 0 : Nat)) := by rw [hrot]; exact uGet hrt
      have hx : (getE T (K.getD q 0)).isSome = true := (hr _).2 ⟨i, Nat.le_refl _, hil, by rw [hq]⟩
      have hdel := k.del sb db (K.getD q 0) hx (by simp)
      have hKne : ((K.length : Nat) : Int) ≠ 0 := by omega
      refine g_ptr (m := K.length) (p := pk) (h := ?_); rintro gk rfl hck
      (repeat' (first | refine g_seq (h := ?_) | refine g_region (h := ?_) | refine l_nil (h := ?_) | refine n_then (h := ?_) | refine l_pures1 (h := ?_) | refine g_skip (h := ?_) | refine g_block (h := ?_) | (refine g_spT (h := ?_); intro h)))
      (refine g_draw [Wd b db xb sb rb root, vec 38 1 (some ⟨gk, 0, none⟩) K.length ck (uV K)] (h := a_pass2 (h := ?_)))
      (repeat' (first | refine g_seq (h := ?_) | refine g_region (h := ?_) | refine l_nil (h := ?_) | refine n_then (h := ?_) | refine l_pures1 (h := ?_) | (refine l_at 14 ?_; refine l_call_ (hdel) ?_; rintro _ _ _ ⟨r', S', D', rfl, rfl, k', _, _⟩ he; cases he) | refine l_guard_yes (h := ?_) | refine l_store (h := ?_) | refine l_indexAddr (h := ?_) | refine l_rem (h := ?_) | refine g_skip (h := ?_) | refine a_done (h := ?_) | refine a_load (h := a_pass2 (h := ?_)) | refine a_one (h := ?_) | refine n_any (h := a_pass2 (h := ?_)) | refine n_block (h := ?_) | refine g_cond_f (h := ?_) | refine l_load_vec (h := ?_)))
      (refine n_back ((i + 1, r', S', D', delE T (K.getD q 0))) ?_ ?_ ?_ ?_; rotate_left; rotate_left; (repeat (first | refine ts_nil | (refine ts_cons rfl ?_ ?_; first | (with_reducible rfl) | rotate_left))); (first | (intro _ i; with_reducible refine i) | rotate_left); (try omega); (try omega))
      · exact ⟨k', by rw [hq]; exact hr.step hK.1 hrl hil, hil⟩
      · dsimp only; omega
      · rw [wrapI64 (by omega)]; rfl
    · obtain rfl : i = K.length := by omega
      obtain rfl := hr.none
      obtain ⟨rfl, hleft⟩ := k.empty
      have hL := sLeft_does sb db S D
      rw [hleft] at hL
      (repeat' (first | refine g_seq (h := ?_) | refine g_region (h := ?_) | refine l_nil (h := ?_) | refine n_then (h := ?_) | refine l_pures1 (h := ?_) | (refine l_atc ?_; refine l_call (hL) ?_) | refine l_guard_yes (h := ?_) | refine l_load (h := ?_) | refine g_ret (h := ?_) | refine g_exit (h := ?_) | refine n_then_exit (h := ?_) | refine n_block_hit (h := ?_) | (refine g_spF (h := ?_); intro h)))
      refine r_retk [ins p ks.length (ks.map encZ') o] ?_
      exact ⟨rfl, rfl⟩
  · exact ⟨k, RestK.start hK, Nat.zero_le _⟩
  · rfl

set_option maxHeartbeats 4000000 in
theorem TreeEmpties_does (p : Option Addr) (ks : List Int) (cap : Nat) (o : Obj) (at' : Int) (hk : ∀ z ∈ ks, (Lit.int .i64 z).wf = true) (hl : ks.length ≤ 9223372036854775807) (h1 : -9223372036854775808 ≤ at' ∧ at' < 9223372036854775808) :
    Does Tryz.prog 3 [.slice p ks.length cap, .int .i64 at'] [ins p ks.length (ks.map encZ') o] (fun v H => v = .bool true ∧ H = [ins p ks.length (ks.map encZ') o]) := by
  obtain ⟨E1, f1, k0⟩ := tr_new (N := 400) (by omega)
  have hb := begins_does (i := 400) (n := 400) rfl (by omega) f1
  refine does_of Tryz.func3 Tryz.ntmps3 rfl rfl rfl (fun w0 F0 => ?_)
  (repeat' (first | refine g_seq (h := ?_) | refine g_region (h := ?_) | refine l_nil (h := ?_) | refine n_then (h := ?_) | refine l_pures1 (h := ?_) | (refine l_atc ?_; refine l_call (examples_does) ?_) | (refine l_atc ?_; refine l_call_ (hb) ?_; rintro _ _ _ ⟨b, db, xb, sb, rb, rfl, rfl⟩ he; cases he) | refine g_skip (h := ?_) | refine g_cond_f (h := ?_)))
  (refine l_makeMap_k (.u64) (Value.bool) (h := ?_); intro _)
  (repeat (first | refine g_seq (h := ?_) | refine g_region (h := ?_) | refine l_nil (h := ?_) | refine n_then (h := ?_) | refine l_pures1 (h := ?_) | refine g_block (h := ?_)))
  rename_i mb
  refine g_inv (fun i => vec_nil (38) (1) i) ?_
  refine g_inv (H' := [vec 38 1 none ([] : List Nat).length 0 (uV []), mpk .u64 mb Value.bool [], Wd b db xb sb rb 0, Store sb db headNew.over, Disk db E1, ins p ks.length (ks.map encZ') o]) (fun i => i) ?_
  (refine g_loop (fun y : Nat × (Int × Sh × Dk × List Ent) × List (Int × Bool) × Option Addr × Nat × List Nat => [(10, .int .i64 y.1), (9, .map (some mb)), (8, .slice y.2.2.2.1 y.2.2.2.2.2.length y.2.2.2.2.1), (6, .pointer (some ⟨b, 0, none⟩)), (5, .bool true), (0, .slice p ks.length cap), (1, .int .i64 at')]) (fun y => [mpk .u64 mb Value.bool y.2.2.1, Wd b db xb sb rb y.2.1.1, Store sb db y.2.1.2.1, Disk db y.2.1.2.2.1, vec 38 1 y.2.2.2.1 y.2.2.2.2.2.length y.2.2.2.2.1 (uV y.2.2.2.2.2), ins p ks.length (ks.map encZ') o]) (fun y => Tr 400 y.2.1.2.1 y.2.1.2.2.1 [] y.2.1.1 y.2.1.2.2.2 y.1 ∧ Met y.2.2.1 y.2.1.2.2.2 ∧ KeyL y.2.2.2.2.2 y.2.1.2.2.2 ∧ y.2.2.2.2.2.length ≤ y.1 ∧ y.1 ≤ ks.length ∧ y.1 ≤ 50) (fun y => ks.length - y.1) ((0, (0, headNew.over, E1, []), [], none, 0, [])) ?_ ?_ ?_ ?_; rotate_left; (repeat (first | refine ts_nil | (refine ts_cons rfl ?_ ?_; first | (with_reducible rfl) | rotate_left))); (first | (intro _ i; with_reducible refine i) | rotate_left); rotate_left; (try omega); rotate_right)
  · rintro ⟨j, ⟨root, S, D, T⟩, kv, pk, ck, K⟩ ⟨k, hm, hK, hKj, hj, hj50⟩
    dsimp only at k hm hK hKj hj hj50 ⊢
    by_cases hjl : j < ks.length ∧ j < 50
    · refine g_open (o := ins_opens (p := p) (m := ks.length) (by omega)) (h := ?_); (rintro ⟨gb, off, row, fr, T0⟩ ⟨rfl, rfl, v5, v6, v7⟩; dsimp only [List.cons_append, List.nil_append])
      have hgt : row[off + j * 1]? = some (.int .i64 (ks.getD j 0)) := ins_get v5 hjl.1 (by rw [List.getElem?_map, List.getD, List.getElem?_eq_getElem hjl.1]; rfl)
      have hw := wf_i64 (hk _ (getD_mem hjl.1 (z := 0)))
      have hkey := key_does (ks.getD j 0) hw
      have hval := value_does (j : Int) (by omega)
      have hput := k.put sb db (keyN (ks.getD j 0)) (valN j) (keyN_lt _) (valN_len _) (by simp; omega)
      have hmx := hm (keyN (ks.getD j 0))
      have hul : (uV K).length = K.length := by simp [uV]
      (repeat' (first | refine g_seq (h := ?_) | refine g_region (h := ?_) | refine l_nil (h := ?_) | refine n_then (h := ?_) | refine l_pures1 (h := ?_) | refine l_guard_yes (h := ?_) | refine g_skip (h := ?_) | refine g_block (h := ?_) | (refine l_spT (h := ?_); intro h) | (refine g_spT (h := ?_); intro h)))
      (refine g_draw [Wd b db xb sb rb root, pts gb (.cells row.toArray T0 fr)] (h := a_pass2 (h := ?_)))
      (repeat' (first | refine g_seq (h := ?_) | refine g_region (h := ?_) | refine l_nil (h := ?_) | refine n_then (h := ?_) | refine l_pures1 (h := ?_) | (refine l_atc ?_; refine l_call (hkey) ?_) | (refine l_atc ?_; refine l_call (hval) ?_) | (refine l_atc ?_; refine l_call_ (hput) ?_; rintro _ _ _ ⟨r', S', D', rfl, rfl, k', g', r2⟩ he; cases he) | refine l_store (h := ?_) | refine l_load_p (h := ?_) | refine l_indexAddr (h := ?_) | (refine l_buildSlice1 (h := ?_); intro _) | (refine l_append_new (h := ?_); intro _ _) | refine g_skip (h := ?_) | refine a_done (h := ?_) | refine a_load (h := a_pass2 (h := ?_)) | refine a_one (h := ?_) | refine n_any (h := a_pass2 (h := ?_)) | refine n_block (h := ?_) | refine g_cond_f (h := ?_) | refine l_lookup_k _ (h := ?_) | refine l_mapUpdate_k (h := ?_) | (refine g_sp (h1 := ?_) (h0 := ?_) <;> intro h)))
      · rename_i b1 p' cap'
        have hn : ¬ (getE T (keyN (ks.getD j 0))).isSome = true := by rw [← hmx, h]; simp
        have e0 : K.length + 1 = (K ++ [keyN (ks.getD j 0)]).length := by simp
        have e1 : uV K ++ [Value.int .u64 (keyN (ks.getD j 0) : Nat)] = uV (K ++ [keyN (ks.getD j 0)]) := by simp [uV]
        rw [e0]
        refine n_inv (H' := [vec 38 1 p' (K ++ [keyN (ks.getD j 0)]).length cap' (uV (K ++ [keyN (ks.getD j 0)])), mpk .u64 mb Value.bool (kvPut kv (keyN (ks.getD j 0) : Nat) true), Wd b db xb sb rb r', Store sb db S', Disk db D', pts gb (.cells row.toArray T0 fr)]) (fun i => by rw [← e1]; exact inv_keep parts_of i) ?_
        refine n_shut (ins_shuts v5 v6 v7) (h := ?_)
        (refine n_back ((j + 1, (r', S', D', putE T (keyN (ks.getD j 0)) (valN j)), kvPut kv (keyN (ks.getD j 0) : Nat) true, p', cap', K ++ [keyN (ks.getD j 0)])) ?_ ?_ ?_ ?_; rotate_left; rotate_left; (repeat (first | refine ts_nil | (refine ts_cons rfl ?_ ?_; first | (with_reducible rfl) | rotate_left))); (first | (intro _ i; with_reducible refine i) | rotate_left); (try omega); (try omega))
        · exact ⟨k', hm.put _ _, hK.add _ hn, by simp; omega, hjl.1, hjl.2⟩
        all_goals first
          | (dsimp only; omega)
          | (rw [wrapI64 (by omega)]; rfl)
          | (intro _ i; exact inv_keep parts_of i)
          | rfl
      · have hn : (getE T (keyN (ks.getD j 0))).isSome = true := by rw [← hmx, h]
        refine n_shut (ins_shuts v5 v6 v7) (h := ?_)
        (refine n_back ((j + 1, (r', S', D', putE T (keyN (ks.getD j 0)) (valN j)), kvPut kv (keyN (ks.getD j 0) : Nat) true, pk, ck, K)) ?_ ?_ ?_ ?_; rotate_left; rotate_left; (repeat (first | refine ts_nil | (refine ts_cons rfl ?_ ?_; first | (with_reducible rfl) | rotate_left))); (first | (intro _ i; with_reducible refine i) | rotate_left); (try omega); (try omega))
        · exact ⟨k', hm.put _ _, hK.same _ hn, by dsimp only; omega, hjl.1, hjl.2⟩
        all_goals first
          | (dsimp only; omega)
          | (rw [wrapI64 (by omega)]; rfl)
          | (intro _ i; exact inv_keep parts_of i)
          | rfl
    · have hend := fun a ha => empties_tail b db xb sb rb a p pk ks K cap ck o root S D T ⟨k.fine, k.tree, by have := k.len; omega⟩ hK (by omega) ha w0 F0
      by_cases hneg : at' < 0
      · have h2 := hend (-(at' + 1)).toNat (by omega)
        have e1 : (((-(at' + 1)).toNat : Nat) : Int) = IntKind.i64.wrap (0 - IntKind.i64.wrap (at' + 1)) := by rw [wrapI64 (n := at' + 1) (by omega), wrapI64 (by omega)]; omega
        rw [e1] at h2
        (repeat' (first | ((with_reducible show G _ _ _ _ (Code.seq (Code.seq (Code.region 21 _ _) _) _) _ _ _ _); exact g_bang (h2)) | refine g_seq (h := ?_) | refine g_region (h := ?_) | refine l_nil (h := ?_) | refine n_then (h := ?_) | refine l_pures1 (h := ?_) | refine l_guard_yes (h := ?_) | refine l_guard_no (h := ?_) | refine g_exit (h := ?_) | refine n_then_exit (h := ?_) | refine n_block_hit (h := ?_) | refine g_cond_f (h := ?_) | (refine l_sp (h1 := ?_) (h0 := ?_) <;> intro h) | (refine g_spT (h := ?_); intro h) | (refine g_spF (h := ?_); intro h)))
      · have h2 := hend at'.toNat (by omega)
        have e1 : ((at'.toNat : Nat) : Int) = at' := by omega
        rw [e1] at h2
        (repeat' (first | ((with_reducible show G _ _ _ _ (Code.seq (Code.seq (Code.region 21 _ _) _) _) _ _ _ _); exact g_bang (h2)) | refine g_seq (h := ?_) | refine g_region (h := ?_) | refine l_nil (h := ?_) | refine n_then (h := ?_) | refine l_pures1 (h := ?_) | refine l_guard_yes (h := ?_) | refine l_guard_no (h := ?_) | refine g_skip (h := ?_) | refine g_exit (h := ?_) | refine n_then_exit (h := ?_) | refine n_block_hit (h := ?_) | refine g_cond_f (h := ?_) | (refine l_sp (h1 := ?_) (h0 := ?_) <;> intro h) | (refine g_spF (h := ?_); intro h)))
  all_goals first
    | exact ⟨k0, fun y => rfl, ⟨List.nodup_nil, fun x => by simp [getE]⟩, Nat.le_refl _, Nat.zero_le _, Nat.zero_le _⟩
    | rfl
    | (intro _ i; exact inv_keep parts_of i)
end Go.Proofs.YtpbibhhjbigdhaaGreat
/- The framework, part 19: loops that hold loops over functions; their marks among the deferred calls. -/
set_option linter.unusedVariables false
set_option linter.unusedSimpArgs false
namespace Go.Proofs.YtpbibhhjbigdhaaGreat.SL

def marksK (ms : List Nat) (_ : Unit) : List SProp := ms.map fun D0 => pts D0 (.deferred (some []))
/-- The lists of deferred calls of the loops that are done. -/
def Marks (ms : List Nat) : SProp := hid (fun _ : Unit => True) (marksK ms)
section
variable {w0 w : World} {F0 : Nat → Prop} {H : List SProp} {ms : List Nat} {D0 : Nat}
theorem marks_nil (i : Inv w0 F0 H w) : Inv w0 F0 (Marks [] :: H) w := Inv.shuts (K := []) (A := Marks []) (show Shuts [] (Marks []) from fun _ _ s => ⟨(), trivial, s⟩) i
theorem marks_cons (i : Inv w0 F0 (Marks ms :: pts D0 (.deferred (some [])) :: H) w) : Inv w0 F0 (Marks (D0 :: ms) :: H) w := by
  obtain ⟨u, _, i⟩ := i.opens (hid_opens (p := fun _ : Unit => True) (K := marksK ms))
  have j : Inv w0 F0 (pts D0 (.deferred (some [])) :: (marksK ms u ++ H)) w := i.imp fun {h F} s => by
    obtain ⟨F1, F2, s1, ⟨G1, G2, a, s2, d2, u2⟩, d1, u1⟩ := sep_split s
    refine ⟨F, ⟨G1, fun x => F1 x ∨ G2 x, a, sep_append s1 s2 (fun x hx hg => d1 x hx ((u2 x).2 (.inr hg))), ?_, ?_⟩, fun _ h => h⟩
    · rintro x hg (hx | hx)
      · exact d1 x hx ((u2 x).2 (.inl hg))
      · exact d2 x hg hx
    · intro x
      rw [u1 x, u2 x]
      constructor
      · rintro (h | h | h)
        · exact .inr (.inl h)
        · exact .inl h
        · exact .inr (.inr h)
      · rintro (h | h | h)
        · exact .inr (.inl h)
        · exact .inl h
        · exact .inr (.inr h)
  exact Inv.shuts (K := marksK (D0 :: ms) ()) (hid_shuts () trivial) j
theorem marks_take (i : Inv w0 F0 (Marks (D0 :: ms) :: H) w) : Inv w0 F0 (pts D0 (.deferred (some [])) :: Marks ms :: H) w := by
  obtain ⟨u, _, i⟩ := i.opens (hid_opens (p := fun _ : Unit => True) (K := marksK (D0 :: ms)))
  have i : Inv w0 F0 (pts D0 (.deferred (some [])) :: (marksK ms u ++ H)) w := i
  exact i.imp fun {h F} s => by
    obtain ⟨F1, F2, a, s1, d, u1⟩ := s
    obtain ⟨G1, G2, s2, s3, d2, u2⟩ := sep_split s1
    exact ⟨F, ⟨F1, F2, a, ⟨G1, G2, ⟨u, trivial, s2⟩, s3, d2, u2⟩, d, u1⟩, fun _ h => h⟩
end

variable {P : Program} {E : Env} {n : Nat} {w0 : World} {F0 : Nat → Prop} {Q : Exit → Act → World → Prop} {tm : List (Nat × Value)} {D : List Deferred} {H H' : List SProp}
/-- A loop whose rounds may leave deferred calls. -/
theorem g_loop_d {α : Type} {c : Code} (tmx : α → List (Nat × Value)) (Dx : α → List Deferred) (Hx : α → List SProp) (I : α → Prop) (μ : α → Nat) (x0 : α) (h0 : I x0) (ht : tsub tm (tmx x0)) (hd : D = Dx x0) (hh : ∀ {w}, Inv w0 F0 H w → Inv w0 F0 (Hx x0) w)
    (round : ∀ x, I x → G P n w0 F0 c (Exit.then (fun a w => ∃ y, I y ∧ μ y < μ x ∧ St n w0 F0 (tmx y) (Dx y) (Hx y) a w) Q) (tmx x) (Dx x) (Hx x)) :
    G P n w0 F0 (.loop c) Q tm D H := by
  have key : ∀ (m : Nat) (x : α), μ x = m → I x → ∀ a w, St n w0 F0 (tmx x) (Dx x) (Hx x) a w → ∀ (b : Frame) (k : List Item) (cs : List Frame),
      ∃ e a' w', Q e a' w' ∧ Arrives P (lone (b.at a (.code c :: .inLoop c :: k)) cs w) b k cs e a' w' := by
    intro m
    induction m using Nat.strongRecOn with
    | _ m ih =>
      intro x hx hI a w s b k cs
      obtain ⟨e, a₁, w₁, hq, harr⟩ := round x hI a w s b (.inLoop c :: k) cs
      cases e with
      | normal =>
        obtain ⟨y, hIy, hlt, hs⟩ := hq
        obtain ⟨e₂, a₂, w₂, hq₂, harr₂⟩ := ih (μ y) (hx ▸ hlt) y rfl hIy a₁ w₁ hs b k cs
        exact ⟨e₂, a₂, w₂, hq₂, .of_steps (Steps.trans harr (.one step_inLoop)) harr₂⟩
      | exit id => exact ⟨_, a₁, w₁, hq, .pass (x := .inLoop c) rfl (fun _ _ => .inl (by simp)) harr⟩
      | goto l => exact ⟨_, a₁, w₁, hq, .pass (x := .inLoop c) rfl (fun _ _ => .inl (by simp)) harr⟩
      | ret => exact ⟨_, a₁, w₁, hq, .pass (x := .inLoop c) rfl (fun _ _ => .inl (by simp)) harr⟩
      | panic ch => exact ⟨_, a₁, w₁, hq, .pass (x := .inLoop c) rfl (fun _ _ => .inl (by simp)) harr⟩
      | outgrown => exact ⟨_, a₁, w₁, hq, .pass (x := .inLoop c) rfl (fun _ _ => .inl (by simp)) harr⟩
  refine .mk fun a w s => ?_
  intro b k cs
  obtain ⟨e, a', w', hq, harr⟩ := key _ x0 rfl h0 a w ⟨s.tm.sub ht, s.defers.trans hd, hh s.inv⟩ b k cs
  exact ⟨e, a', w', hq, .of_steps (.one step_loop) harr⟩
theorem n_back_d {α : Type} {tmx : α → List (Nat × Value)} {Dx : α → List Deferred} {Hx : α → List SProp} {I : α → Prop} {μ : α → Nat} {m : Nat} (y : α) (hI : I y) (hm : μ y < m) (ht : tsub tm (tmx y)) (hd : D = Dx y) (hh : ∀ {w}, Inv w0 F0 H w → Inv w0 F0 (Hx y) w) :
    N n w0 F0 .normal (Exit.then (fun a w => ∃ y, I y ∧ μ y < m ∧ St n w0 F0 (tmx y) (Dx y) (Hx y) a w) Q) tm D H :=
  .mk fun a w s => ⟨y, hI, hm, s.tm.sub ht, s.defers.trans hd, hh s.inv⟩

theorem r_retMs {fn : Func} {q : Value → List SProp → Prop} {rs : List ResultVar} {vs : List Value} {ms : List Nat} {R : List SProp} (K : List SProp) (hq : q (packV vs) K) (k : EnvOk P E := by refine inferInstance) (hr : fn.results = rs.toArray := by refine rfl) (ht : Take (Marks ms) H R := by with_reducible (repeat (first | refine Take.here | apply Take.there))) (hv : ResV E tm R rs vs := by repeat (first | refine ResV.nil | (apply ResV.tmp; refine rfl) | (apply ResV.cell; refine rfl; (with_reducible (repeat (first | refine Take.here | apply Take.there))); refine rfl))) (hp : Parts K R H' := by with_reducible (repeat (first | refine Parts.nil | (apply Parts.cons; repeat (first | refine Take.here | apply Take.there))))) :
    N n w0 F0 .ret (PostM P fn w0 F0 q) tm (ms.map mark) H := .mk fun a w s => by
  refine ⟨fun c e => (nomatch e), ?_⟩
  show LeavesInM _ _ _ _ _ _ a.defers _ _
  rw [s.defers]
  have i := s.inv.take ht
  have t := s.tm
  clear s ht
  induction ms generalizing w with
  | nil =>
    have i3 : Inv w0 F0 R w := i.imp fun {h F} s2 => by
      obtain ⟨G1, G2, _, s3, _, u3⟩ := s2
      exact ⟨G2, s3, fun b hb => (u3 b).2 (.inr hb)⟩
    exact ⟨_, results_run k hr t i3 hv, _, K, rfl, hq, (i3.parts hp).drop⟩
  | cons D0 ms ih =>
    have i := marks_take i
    have e := i.get
    have i2 : Inv w0 F0 (pts D0 (.deferred none) :: Marks ms :: R) (w.putObj D0 (.deferred none)) := i.set (World.putObj_heap_same (lt_of_some e)) (fun c hc => World.putObj_heap_other hc) World.putObj_size rfl rfl rfl
    have i3 : Inv w0 F0 (Marks ms :: R) (w.putObj D0 (.deferred none)) := i2.imp fun {h F} s2 => by
      obtain ⟨G1, G2, _, s3, _, u3⟩ := s2
      exact ⟨G2, s3, fun b hb => (u3 b).2 (.inr hb)⟩
    exact ⟨by simp, .inl ⟨D0, _, rfl, run_takeDeferred e, ih _ i3⟩⟩
/-- A guarded lookup in a map that is held, in a region whose order is free. -/
theorem a_lookupg_k {α : Type} {kk : IntKind} {ops : List Oper} {ty : TypeId} {pos : String} {after : Array Edge} {Hs Hs' : List SProp} {listed : Array Bool} {ll : List Bool} {i d j ts t kt et b sz by' : Nat} {want : Bool} {x y : Operand} {enc : α → Value} {kv : List (Int × α)} {u : Int} (z : α) {zv : Value} (k : EnvOk P E := by refine inferInstance) (hs : noSel ops = true := by refine rfl) (hi : nextR ops 0 listed = some i := by refine rfl)
    (ho : nth ops i = some ⟨some d, .lookup t x y false, ty, pos, after, some (j, want)⟩ := by refine rfl) (hd : Nat.blt d n = true := by refine rfl) (hst : slotOf ops j = some ts := by refine rfl) (htb : tget tm ts = some (.bool want) := by refine rfl) (hb : Nat.blt ts n = true := by refine rfl) (hx : ev tm x = some (.map (some b)) := by refine rfl) (hy : ev tm y = some (.int kk u) := by refine rfl)
    (ht : look E.ty t = some (.map kt et) := by refine rfl) (hk : look E.ty kt = some (.int kk) := by refine rfl) (hz : look E.inf et = some (zv, sz, by') := by refine rfl) (tk : Take (mpk kk b enc kv) Hs Hs' := by with_reducible (repeat (first | refine Take.here | apply Take.there))) (hze : zv = enc z := by refine rfl)
    (hf : freeL ops.toArray i ⟨some d, .lookup t x y false, ty, pos, after, some (j, want)⟩ listed ops 0 = true := by refine rfl) (hl : listed.getD i true = false := by refine rfl) (hr : rdyB after.toList listed = true := by refine rfl) (hn : copyB (listed.setIfInBounds i true).toList = some ll := by refine rfl) (hc : Calm Q := by with_reducible (repeat (first | assumption | refine calm_post | refine calm_postM | refine calm_round | apply calm_then | apply calm_block | apply calm_scope)))
    (h : A P n w0 F0 ops Hs ll.toArray Q ((d, enc ((kvGet kv u).getD z)) :: tm) D H) : A P n w0 F0 ops Hs listed Q tm D H := by
  subst hze
  refine a_yh (v := enc ((kvGet kv u).getD z)) hc hs ho hd hst htb hb hf hl hr (fun a w htm ⟨F, s⟩ => ?_) (by rw [copyB_arr hn]; exact h)
  obtain ⟨F1, F2, ⟨⟨es, clock, hw, he, _⟩, _⟩, _⟩ := tk.sep s
  simp only [execOp, ev_sound htm hx, ev_sound htm hy, Sem.run_bind, run_lookup_int_k k hw he ht hk hz, Result.andThen, Sem.run_pure, Bool.false_eq_true, if_false]
end Go.Proofs.YtpbibhhjbigdhaaGreat.SL
/- Package tree: the stack of pages. -/
set_option maxRecDepth 20000
set_option linter.unusedVariables false
set_option linter.unusedSimpArgs false
namespace Go.Proofs.YtpbibhhjbigdhaaGreat
open Go.Proofs.YtpbibhhjbigdhaaGreat.SL

def pgC (l : List (Int × Nat)) : List Value := l.flatMap fun s => [Value.int .i64 s.1, .int .i64 (s.2 : Nat)]
theorem pgC_len (l : List (Int × Nat)) : (pgC l).length = l.length * 2 := by
  induction l with
  | nil => rfl
  | cons s l ih => simp only [pgC, List.flatMap_cons, List.length_append, List.length_cons, List.length_nil] at *; omega
theorem pgC_snoc (l : List (Int × Nat)) (s : Int × Nat) : pgC (l ++ [s]) = pgC l ++ [Value.int .i64 s.1, .int .i64 (s.2 : Nat)] := by simp [pgC]
abbrev pgV (s : Int × Nat) : Value := .agg #[.int .i64 s.1, .int .i64 (s.2 : Nat)]
abbrev StpK (b : Nat) (l : List (Int × Nat)) (x : Option Addr × Nat) : List SProp := [cl b 111 [.slice x.1 l.length x.2], vec 114 2 x.1 l.length x.2 (pgC l)]
def Stp (b : Nat) (l : List (Int × Nat)) : SProp := hid (fun _ : Option Addr × Nat => True) (StpK b l)
theorem part_pg (l : List (Int × Nat)) (s : Int × Nat) : partV env 114 (pgC l ++ [Value.int .i64 s.1, .int .i64 (s.2 : Nat)]) (0 + ((l.length : Nat) : Int).toNat * 2) = some (pgV s) := by
  have e : 0 + ((l.length : Nat) : Int).toNat * 2 = (pgC l).length := by rw [pgC_len, Int.toNat_natCast, Nat.zero_add]
  have h : cutL (pgC l ++ [Value.int .i64 s.1, .int .i64 (s.2 : Nat)]) (pgC l).length 2 = some [Value.int .i64 s.1, .int .i64 (s.2 : Nat)] := by
    rw [cutL_of (by simp)]
    simp
  rw [e]
  show (match cutL (pgC l ++ [Value.int .i64 s.1, .int .i64 (s.2 : Nat)]) (pgC l).length 2 with
        | some r => some (Value.agg r.toArray)
        | none => none) = _
  rw [h]

set_option maxHeartbeats 1000000 in
theorem pushP_does (b : Nat) (l : List (Int × Nat)) (s : Int × Nat) (hl : l.length < 100000) : Does Tryz.prog 45 [.pointer (some ⟨b, 0, none⟩), pgV s] [Stp b l] (fun v H => v = .tuple #[] ∧ H = [Stp b (l ++ [s])]) := by
  have e0 : (l ++ [s]).length = l.length + 1 := by simp
  have e1 : pgC l ++ #[Value.int .i64 s.1, .int .i64 (s.2 : Nat)].toList = pgC (l ++ [s]) := (pgC_snoc l s).symm
  refine does_of Tryz.func45 Tryz.ntmps45 rfl rfl rfl (fun w0 F0 => ?_)
  refine g_open (A := Stp b l) (h := ?_); (rintro ⟨p, cap⟩ _; dsimp only [StpK, List.cons_append, List.nil_append])
  (repeat' (first | refine g_seq (h := ?_) | refine g_region (h := ?_) | refine l_nil (h := ?_) | refine n_then (h := ?_) | (refine l_box (h := ?_); intro _)))
  rename_i b1
  (refine g_draw [cl b1 114 _] (h := a_pass2 (h := ?_)))
  (repeat' (first | refine l_nil (h := ?_) | refine l_load (h := ?_) | refine l_store (h := ?_) | (refine l_buildSlice1 (h := ?_); intro _) | (refine l_append_new (h := ?_); intro _ _) | refine a_done (h := ?_) | refine a_load (h := a_pass2 (h := ?_)) | refine a_one (h := ?_) | refine n_any (h := a_pass2 (h := ?_)) | refine a_fork2 (h1 := ?_) (h2 := ?_) | refine a1_of (h := ?_)))
  all_goals rename_i b2 p' cap'
  all_goals
    rw [← e0, e1]
  all_goals
    (refine n_shut (A := Stp b (l ++ [s])) (K := StpK b (l ++ [s]) ((p', cap'))) (hid_shuts ((p', cap')) trivial) (h := ?_) (p := by dsimp only [StpK]; (try simp only [List.map_nil, List.length_nil, List.length_set, List.length_append, List.length_cons, List.length_singleton, List.map_append, List.map_cons, Nat.zero_add]); exact parts_of))
  all_goals
    refine r_endk [Stp b (l ++ [s])] ?_
  all_goals exact ⟨rfl, rfl⟩
set_option maxHeartbeats 1000000 in
theorem popPN_does (b : Nat) : Does Tryz.prog 46 [.pointer (some ⟨b, 0, none⟩)] [Stp b []] (fun v H => v = .tuple #[.agg #[.int .i64 0, .int .i64 0], .bool false] ∧ H = [Stp b []]) := by
  refine does_of Tryz.func46 Tryz.ntmps46 rfl rfl rfl (fun w0 F0 => ?_)
  refine g_open (A := Stp b []) (h := ?_); (rintro ⟨p, cap⟩ _; dsimp only [StpK, List.cons_append, List.nil_append])
  (repeat' (first | refine g_seq (h := ?_) | refine g_region (h := ?_) | refine l_nil (h := ?_) | refine n_then (h := ?_) | refine l_pures1 (h := ?_) | refine l_load (h := ?_) | refine l_store (h := ?_) | (refine l_alloc (h := ?_); intro _) | refine g_ret (h := ?_) | refine n_then_ret (h := ?_) | refine g_cond_t (h := ?_)))
  (refine n_shut (A := Stp b []) (K := StpK b [] ((p, cap))) (hid_shuts ((p, cap)) trivial) (h := ?_) (p := by dsimp only [StpK]; (try simp only [List.map_nil, List.length_nil, List.length_set, List.length_append, List.length_cons, List.length_singleton, List.map_append, List.map_cons, Nat.zero_add]); exact parts_of))
  refine r_retk [Stp b []] ?_
  exact ⟨rfl, rfl⟩
set_option maxHeartbeats 1000000 in
theorem popP_does (b : Nat) (l : List (Int × Nat)) (s : Int × Nat) (hl : l.length < 100000) : Does Tryz.prog 46 [.pointer (some ⟨b, 0, none⟩)] [Stp b (l ++ [s])] (fun v H => v = .tuple #[pgV s, .bool true] ∧ H = [Stp b l]) := by
  have e0 : (l ++ [s]).length = l.length + 1 := by simp
  have hp := part_pg l s
  refine does_of Tryz.func46 Tryz.ntmps46 rfl rfl rfl (fun w0 F0 => ?_)
  refine g_open (A := Stp b (l ++ [s])) (h := ?_); (rintro ⟨p, cap⟩ _; dsimp only [StpK, List.cons_append, List.nil_append])
  rw [e0, pgC_snoc]
  refine g_ptr (m := l.length + 1) (h := ?_); rintro g rfl hc
  have ew : IntKind.i64.wrap (((l.length + 1 : Nat) : Int) - 1) = (l.length : Int) := by rw [wrapI64 (by omega)]; omega
  (repeat' (first | refine g_seq (h := ?_) | refine g_region (h := ?_) | refine l_nil (h := ?_) | refine n_then (h := ?_) | refine l_pures1 (h := ?_) | refine l_load (h := ?_) | (refine l_alloc (h := ?_); intro _) | refine g_skip (h := ?_) | refine g_cond_f (h := ?_)))
  (refine g_draw [cl b 111 [.slice (some ⟨g, 0, none⟩) (l.length + 1) cap], vec 114 2 (some ⟨g, 0, none⟩) (l.length + 1) cap (pgC l ++ [Value.int .i64 s.1, .int .i64 (s.2 : Nat)])] (h := a_pass2 (h := ?_)))
  (repeat (first | refine l_nil (h := ?_) | refine l_indexAddr (h := ?_) | refine a_load (h := a_pass2 (h := ?_)) | refine a_one (h := ?_) | refine n_any (h := a_pass2 (h := ?_))))
  rw [ew]
  (repeat (first | refine g_seq (h := ?_) | refine l_nil (h := ?_) | refine n_then (h := ?_) | refine l_store (h := ?_) | refine a_done (h := ?_) | refine a_one (h := ?_) | refine n_any (h := a_pass2 (h := ?_)) | refine l_load_vec (h := ?_)))
  (refine g_draw [] (h := a_pass2 (h := ?_)))
  (repeat' (first | refine g_seq (h := ?_) | refine g_region (h := ?_) | refine l_nil (h := ?_) | refine n_then (h := ?_) | refine l_pures1 (h := ?_) | refine l_load (h := ?_) | refine l_store (h := ?_) | refine l_slice (h := ?_) | refine g_ret (h := ?_) | refine a_done (h := ?_) | refine a_one (h := ?_) | refine n_any (h := a_pass2 (h := ?_)) | refine a_fork2 (h1 := ?_) (h2 := ?_) | refine a1_of (h := ?_)))
  all_goals rw [ew]
  all_goals simp only [Int.toNat_natCast, Int.toNat_zero, Nat.zero_mul, Nat.add_zero, Nat.sub_zero]
  all_goals refine n_inv (fun i => vec_cut (pgC_len l) (i.take (Take.there (Take.there Take.here)))) ?_
  all_goals
    (refine n_shut (A := Stp b l) (K := StpK b l (((some ⟨g, 0, none⟩ : Option Addr), cap))) (hid_shuts (((some ⟨g, 0, none⟩ : Option Addr), cap)) trivial) (h := ?_) (p := by dsimp only [StpK]; (try simp only [List.map_nil, List.length_nil, List.length_set, List.length_append, List.length_cons, List.length_singleton, List.map_append, List.map_cons, Nat.zero_add]); exact parts_of))
  all_goals
    refine r_retk [Stp b l] ?_
  all_goals exact ⟨rfl, rfl⟩
end Go.Proofs.YtpbibhhjbigdhaaGreat
/- slices.Backward over a list of numbers. -/
set_option maxRecDepth 20000
set_option linter.unusedVariables false
set_option linter.unusedSimpArgs false
namespace Go.Proofs.YtpbibhhjbigdhaaGreat
open Go.Proofs.YtpbibhhjbigdhaaGreat.SL

theorem backward_does (p : Option Addr) (m cap : Nat) : Does Tryz.prog 48 [.slice p m cap] [] (fun v H => ∃ b1, v = .func (.func 82) #[] #[.pointer (some ⟨b1, 0, none⟩)] ∧ H = [cl b1 22 [.slice p m cap]]) := by
  refine does_of Tryz.func48 Tryz.ntmps48 rfl rfl rfl (fun w0 F0 => ?_)
  (repeat (first | refine g_seq (h := ?_) | refine g_region (h := ?_) | refine l_nil (h := ?_) | refine n_then (h := ?_) | refine l_pures1 (h := ?_) | (refine l_box (h := ?_); intro _) | refine g_ret (h := ?_)))
  rename_i b1
  refine r_retk [cl b1 22 [.slice p m cap]] ?_
  exact ⟨b1, rfl, rfl⟩

set_option maxHeartbeats 4000000 in
theorem backwardF_does (l b1 cap : Nat) (p : Option Addr) (ks : List Int) (C : Nat → SProp) (hk : ks.length < 100000)
    (hY : ∀ i, i < ks.length → SL.Yields Tryz.prog l [.int .i64 (i : Nat), .int .i64 (ks.getD i 0)] [C (i + 1)] (fun v H => v = .bool true ∧ H = [C i])) :
    Does Tryz.prog 82 [.func (.yield l) #[] #[], .pointer (some ⟨b1, 0, none⟩)] [C ks.length, cl b1 22 [.slice p ks.length cap], vec 3 1 p ks.length cap (ks.map encZ')]
      (fun v H => v = .tuple #[] ∧ H = [C 0, cl b1 22 [.slice p ks.length cap], vec 3 1 p ks.length cap (ks.map encZ')]) := by
  have ew : IntKind.i64.wrap ((ks.length : Int) - 1) = (ks.length : Int) - 1 := wrapI64 (by omega)
  refine does_of Tryz.func82 Tryz.ntmps82 rfl rfl rfl (fun w0 F0 => ?_)
  (repeat (first | refine g_seq (h := ?_) | refine g_region (h := ?_) | refine l_nil (h := ?_) | refine n_then (h := ?_) | refine l_pures1 (h := ?_) | refine l_load (h := ?_) | refine g_block (h := ?_)))
  rw [ew]
  (refine g_loop (fun i : Nat => [(3, .int .i64 ((i : Int) - 1)), (1, .pointer (some ⟨b1, 0, none⟩)), (0, .func (.yield l) #[] #[])]) (fun i => [C i, cl b1 22 [.slice p ks.length cap], vec 3 1 p ks.length cap (ks.map encZ')]) (fun i => i ≤ ks.length) (fun i => i) (ks.length) ?_ ?_ ?_ ?_; rotate_left; (repeat (first | refine ts_nil | (refine ts_cons rfl ?_ ?_; first | (with_reducible rfl) | rotate_left))); (first | (intro _ i; with_reducible refine i) | rotate_left); rotate_left; (try omega); rotate_right)
  · intro i hi
    cases i with
    | zero =>
      (repeat' (first | refine g_seq (h := ?_) | refine g_region (h := ?_) | refine l_nil (h := ?_) | refine n_then (h := ?_) | refine l_pures1 (h := ?_) | refine g_exit (h := ?_) | refine n_then_exit (h := ?_) | refine n_block_hit (h := ?_) | refine g_cond_f (h := ?_)))
      refine r_endk [C 0, cl b1 22 [.slice p ks.length cap], vec 3 1 p ks.length cap (ks.map encZ')] ?_
      exact ⟨rfl, rfl⟩
    | succ i =>
      have hil : i < ks.length := by omega
      have hgk := iGet (l := ks) (k := i) hil
      have e1 : (((i + 1 : Nat) : Int) - 1) = (i : Int) := by omega
      have ew2 : IntKind.i64.wrap ((i : Int) - 1) = (i : Int) - 1 := wrapI64 (by omega)
      have hYi := hY i hil
      rw [e1]
      refine g_ptr (m := ks.length) (h := ?_); rintro g rfl hc
      (repeat' (first | ((with_reducible show G _ _ _ _ (Code.region 3 _ _) _ _ _ _); refine g_region_w ?_) | (refine lw_i ?_; refine lw_yield (hYi) (h := ?_); rintro _ _ _ ⟨rfl, rfl⟩ he; cases he) | refine g_seq (h := ?_) | refine g_region (h := ?_) | refine l_nil (h := ?_) | refine n_then (h := ?_) | refine l_pures1 (h := ?_) | refine l_load (h := ?_) | refine l_indexAddr (h := ?_) | refine g_skip (h := ?_) | refine g_block (h := ?_) | refine n_block (h := ?_) | refine g_cond_t (h := ?_) | refine g_cond_f (h := ?_) | refine l_load_vec (h := ?_) | refine n_lw (h := ?_) | refine lw_nil (h := ?_) | refine lw_step (h := ?_)))
      rw [ew2]
      (refine n_back (i) ?_ ?_ ?_ ?_; rotate_left; rotate_left; (repeat (first | refine ts_nil | (refine ts_cons rfl ?_ ?_; first | (with_reducible rfl) | rotate_left))); (first | (intro _ i; with_reducible refine i) | rotate_left); (try omega); (try omega))
end Go.Proofs.YtpbibhhjbigdhaaGreat
