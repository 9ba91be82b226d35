/- Texts TlD, TlF, RowL, RowS, joined. -/
import Derived.SliceStrings
import Derived.ChangeSlices
import Derived.Carry
import Derived.Test.YtpbibhhjbigdhaaGreatK09
/- The laws' entries: two lists that are the same. -/
set_option maxRecDepth 20000
set_option linter.unusedVariables false
set_option linter.unusedSimpArgs false
namespace Go.Proofs.YtpbibhhjbigdhaaGreat
open Go.Proofs.YtpbibhhjbigdhaaGreat.SL

theorem entC_get0 : ∀ {l : List Ent} {j : Nat}, j < l.length → (entC l)[j * 2]? = some (.int .u64 ((l.getD j (0, [])).1 : Nat))
  | [], j, h => by simp at h
  | e :: l, 0, _ => rfl
  | e :: l, j + 1, h => by
    have ih := entC_get0 (l := l) (j := j) (by simpa using h)
    have : (j + 1) * 2 = j * 2 + 1 + 1 := by omega
    rw [this]
    exact ih
theorem entC_get1 : ∀ {l : List Ent} {j : Nat}, j < l.length → (entC l)[j * 2 + 1]? = some (.string (str (l.getD j (0, [])).2))
  | [], j, h => by simp at h
  | e :: l, 0, _ => rfl
  | e :: l, j + 1, h => by
    have ih := entC_get1 (l := l) (j := j) (by simpa using h)
    have : (j + 1) * 2 + 1 = j * 2 + 1 + 1 + 1 := by omega
    rw [this]
    exact ih

set_option maxHeartbeats 4000000 in
theorem entries_same (a : List Ent) (p q : Option Addr) (c1 c2 : Nat) (ha : a.length < 10000) : Does Tryz.prog 18 [.slice p a.length c1, .slice q a.length c2] [vec 53 2 p a.length c1 (entC a), vec 53 2 q a.length c2 (entC a)]
    (fun v H => v = .bool true ∧ H = [vec 53 2 p a.length c1 (entC a), vec 53 2 q a.length c2 (entC a)]) := by
  refine does_of Tryz.func18 Tryz.ntmps18 rfl rfl rfl (fun w0 F0 => ?_)
  (repeat' (first | refine g_seq (h := ?_) | refine g_region (h := ?_) | refine l_nil (h := ?_) | refine n_then (h := ?_) | refine l_pures1 (h := ?_) | refine g_skip (h := ?_) | refine g_block (h := ?_) | (refine g_spF (h := ?_); intro h)))
  (refine g_loop (fun j : Nat => [(5, .int .i64 j), (0, .slice p a.length c1), (1, .slice q a.length c2)]) (fun j => [vec 53 2 p a.length c1 (entC a), vec 53 2 q a.length c2 (entC a)]) (fun j => j ≤ a.length) (fun j => a.length - j) (0) ?_ ?_ ?_ ?_; rotate_left; (repeat (first | refine ts_nil | (refine ts_cons rfl ?_ ?_; first | (with_reducible rfl) | rotate_left))); (first | (intro _ i; with_reducible refine i) | rotate_left); rotate_left; (try omega); rotate_right)
  · intro j hj
    by_cases hjl : j < a.length
    · refine g_ptr (m := a.length) (p := p) (h := ?_); rintro g1 rfl hc1
      refine g_ptr (m := a.length) (p := q) (h := ?_); rintro g2 rfl hc2
      have hg0 : (entC a)[0 + ((j : Nat) : Int).toNat * 2 + 0]? = some (.int .u64 ((a.getD j (0, [])).1 : Nat)) := (by rw [Nat.zero_add, Nat.add_zero, Int.toNat_natCast]; exact entC_get0 hjl)
      have hg1 : (entC a)[0 + ((j : Nat) : Int).toNat * 2 + 1]? = some (.string (str (a.getD j (0, [])).2)) := (by rw [Nat.zero_add, Int.toNat_natCast]; exact entC_get1 hjl)
      (repeat' (first | refine g_seq (h := ?_) | refine g_region (h := ?_) | refine l_nil (h := ?_) | refine n_then (h := ?_) | refine l_pures1 (h := ?_) | refine g_skip (h := ?_) | refine g_block (h := ?_) | (refine g_spT (h := ?_); intro h)))
      (refine g_draw [vec 53 2 (some ⟨g1, 0, none⟩) a.length c1 (entC a), vec 53 2 (some ⟨g2, 0, none⟩) a.length c2 (entC a)] (h := a_pass2 (h := ?_)))
      (repeat' (first | refine g_region (h := ?_) | refine l_nil (h := ?_) | refine n_then (h := ?_) | refine l_pures1 (h := ?_) | refine l_guard_yes (h := ?_) | refine l_indexAddr (h := ?_) | refine g_skip (h := ?_) | refine a_done (h := ?_) | refine a_one (h := ?_) | refine n_any (h := a_pass2 (h := ?_)) | refine a_v (h := ?_) | refine a_vg (h := ?_) | refine n_block (h := ?_) | refine l_load_vec (h := ?_) | refine a_load_vec (h := a_pass2 (h := ?_)) | refine a_loadg_vec (h := a_pass2 (h := ?_)) | (refine a_spF (h := ?_); intro h) | (refine g_spF (h := ?_); intro h)))
      (refine n_back (j + 1) ?_ ?_ ?_ ?_; rotate_left; rotate_left; (repeat (first | refine ts_nil | (refine ts_cons rfl ?_ ?_; first | (with_reducible rfl) | rotate_left))); (first | (intro _ i; with_reducible refine i) | rotate_left); (try omega); (try omega))
      · rw [wrapI64 (by omega)] <;> rfl
    · (repeat' (first | refine g_seq (h := ?_) | refine g_region (h := ?_) | refine l_nil (h := ?_) | refine n_then (h := ?_) | refine l_pures1 (h := ?_) | refine g_ret (h := ?_) | refine g_exit (h := ?_) | refine n_then_exit (h := ?_) | refine n_block_hit (h := ?_) | (refine g_spF (h := ?_); intro h)))
      refine r_retk [vec 53 2 p a.length c1 (entC a), vec 53 2 q a.length c2 (entC a)] ?_
      exact ⟨rfl, rfl⟩
  all_goals first | rfl | exact Nat.zero_le _

theorem Tr.scan {N : Nat} {S : Sh} {D : Dk} {U : List Int} {root : Int} {T : List Ent} {m : Nat} (k : Tr N S D U root T m) (hm : m < 10000) (sb db x : Nat) (most : Int) (h : -9223372036854775808 ≤ most ∧ most < 9223372036854775808) :
    Does Tryz.prog 17 [.pointer (some ⟨sb, 0, none⟩), .int .i64 root, .int .u64 x, .int .i64 most] [Store sb db S, Disk db D]
      (fun v H => ∃ p cap, v = .tuple #[.slice p ((geE T x).take most.toNat).length cap, .int .i64 0] ∧ H = [vec 53 2 p ((geE T x).take most.toNat).length cap (entC ((geE T x).take most.toNat)), Store sb db S, Disk db D]) :=
  scan_tree sb db x N root most U T S D k.fine k.tree (by have := k.len; omega) h
theorem Tr.scanAll {N : Nat} {S : Sh} {D : Dk} {U : List Int} {root : Int} {T : List Ent} {m : Nat} (k : Tr N S D U root T m) (hm : m ≤ 1000) (sb db : Nat) :
    Does Tryz.prog 17 [.pointer (some ⟨sb, 0, none⟩), .int .i64 root, .int .u64 0, .int .i64 1000] [Store sb db S, Disk db D]
      (fun v H => ∃ p cap, v = .tuple #[.slice p T.length cap, .int .i64 0] ∧ H = [vec 53 2 p T.length cap (entC T), Store sb db S, Disk db D]) := by
  have h := k.scan (by omega) sb db 0 1000 (by omega)
  have e : (geE T 0).take (Int.toNat 1000) = T := by
    have h0 : geE T 0 = T := List.filter_eq_self.2 fun e he => by simp
    rw [h0]
    exact List.take_of_length_le (by have := k.len; simp; omega)
  rw [e] at h
  exact h

theorem entC_cut : ∀ {l : List Ent} {j : Nat}, j < l.length → ((entC l).drop (j * 2)).take 2 = [.int .u64 ((l.getD j (0, [])).1 : Nat), .string (str (l.getD j (0, [])).2)]
  | [], j, h => by simp at h
  | e :: l, 0, _ => rfl
  | e :: l, j + 1, h => by
    have ih := entC_cut (l := l) (j := j) (by simpa using h)
    have : (j + 1) * 2 = j * 2 + 1 + 1 := by omega
    rw [this]
    exact ih
theorem part_ent {l : List Ent} {j : Nat} (h : j < l.length) : partV env 53 (entC l) (0 + ((j : Nat) : Int).toNat * 2) = some (entV (l.getD j (0, []))) := by
  have e : 0 + ((j : Nat) : Int).toNat * 2 = j * 2 := by rw [Int.toNat_natCast, Nat.zero_add]
  have hc : cutL (entC l) (j * 2) 2 = some [.int .u64 ((l.getD j (0, [])).1 : Nat), .string (str (l.getD j (0, [])).2)] := by
    rw [cutL_of (by rw [entC_len]; omega), entC_cut h]
  rw [e]
  show (match cutL (entC l) (j * 2) 2 with
        | some r => some (Value.agg r.toArray)
        | none => none) = _
  rw [hc]
end Go.Proofs.YtpbibhhjbigdhaaGreat
/- TreeOrders. -/
set_option maxRecDepth 20000
set_option linter.unusedVariables false
set_option linter.unusedSimpArgs false
namespace Go.Proofs.YtpbibhhjbigdhaaGreat
open Go.Proofs.YtpbibhhjbigdhaaGreat.SL

theorem rise_ext : ∀ {a b : List Nat}, Rise a → Rise b → (∀ x, x ∈ a ↔ x ∈ b) → a = b
  | [], [], _, _, _ => rfl
  | [], y :: b, _, _, h => by have := (h y).2 (by simp); simp at this
  | x :: a, [], _, _, h => by have := (h x).1 (by simp); simp at this
  | x :: a, y :: b, ha, hb, h => by
    obtain ⟨a1, a2⟩ := List.pairwise_cons.1 ha
    obtain ⟨b1, b2⟩ := List.pairwise_cons.1 hb
    have hxy : x = y := by
      rcases List.mem_cons.1 ((h x).1 (by simp)) with q | q
      · exact q
      · rcases List.mem_cons.1 ((h y).2 (by simp)) with q2 | q2
        · exact q2.symm
        · have := a1 y q2; have := b1 x q; omega
    subst hxy
    congr 1
    refine rise_ext a2 b2 fun z => ?_
    constructor
    · intro hz
      rcases List.mem_cons.1 ((h z).1 (by simp [hz])) with q | q
      · have := a1 z hz; omega
      · exact q
    · intro hz
      rcases List.mem_cons.1 ((h z).2 (by simp [hz])) with q | q
      · have := b1 z hz; omega
      · exact q
theorem ord_keys {T : List Ent} (o : Ord T) : Rise (T.map (·.1)) := List.Pairwise.map _ (fun a b h => h) o
theorem mem_keys {T : List Ent} (o : Ord T) {x : Nat} : x ∈ T.map (·.1) ↔ (getE T x).isSome = true := by
  rw [List.mem_map]
  constructor
  · rintro ⟨⟨y, v⟩, h, rfl⟩
    rw [getE_of o h]; rfl
  · intro h
    obtain ⟨v, hv⟩ := Option.isSome_iff_exists.1 h
    exact ⟨(x, v), getE_mem hv, rfl⟩

/-- Which keys there are. -/
def Keyed (T : List Ent) (f : Nat → Nat) (j : Nat) : Prop := ∀ x, (getE T x).isSome = true ↔ ∃ i, i < j ∧ f i = x
theorem Keyed.put {T : List Ent} {f : Nat → Nat} {j : Nat} (h : Keyed T f j) (v : List UInt8) : Keyed (putE T (f j) v) f (j + 1) := by
  intro x
  rw [getE_put]
  constructor
  · intro q
    by_cases e : x = f j
    · exact ⟨j, by omega, e.symm⟩
    · rw [if_neg e] at q
      obtain ⟨i, h1, h2⟩ := (h x).1 q
      exact ⟨i, by omega, h2⟩
  · rintro ⟨i, h1, rfl⟩
    by_cases e : f i = f j
    · rw [if_pos e]; rfl
    · rw [if_neg e]
      have : i ≠ j := fun q => e (by rw [q])
      exact (h _).2 ⟨i, by omega, rfl⟩

set_option maxHeartbeats 4000000 in
/-- What comes behind the loop. -/
theorem orders_tail (b db xb sb rb b' db' xb' sb' rb' n : Nat) (p : Option Addr) (ks : List Int) (cap : Nat) (o : Obj) (root root' : Int) (S S' : Sh) (D D' : Dk) (T V : List Ent) (k : Tr 400 S D [] root T n) (k' : Tr 400 S' D' [] root' V n) (hn : n ≤ 40) (he : T.map (·.1) = V.map (·.1)) (w0 : World) (F0 : Nat → Prop) :
    G Tryz.prog 201 w0 F0 (nav [1, 1, 1, 1, 1, 1, 1, 1] (bdy Tryz.f6)) (Post Tryz.prog Tryz.f6 w0 F0 (fun v H => v = .bool true ∧ H = [ins p ks.length (ks.map encZ') o]))
      [(6, .pointer (some ⟨b', 0, none⟩)), (4, .pointer (some ⟨b, 0, none⟩)), (3, .bool true), (0, .slice p ks.length cap)] [] [Wd b db xb sb rb root, Store sb db S, Disk db D, Wd b' db' xb' sb' rb' root', Store sb' db' S', Disk db' D', ins p ks.length (ks.map encZ') o] := by
  obtain ⟨c, hc⟩ : ∃ c, c = nav [1, 1, 1, 1, 1, 1, 1, 1] (bdy Tryz.f6) := ⟨_, rfl⟩
  rw [← hc]
  dsimp only [nav, bdy, Tryz.f6, Option.getD] at hc
  subst hc
  have hT := k.len
  have hlen : T.length = V.length := by have := congrArg List.length he; simpa using this
  have h1 := k.scanAll (by omega) sb db
  have h2 := k'.scanAll (by omega) sb' db'
  rw [← hlen] at h2
  have ho := k.tree.ord
  (repeat refine g_seq (h := ?_))
  (refine g_draw [Wd b db xb sb rb root] (h := a_pass2 (h := ?_)))
  (repeat (first | refine g_seq (h := ?_) | refine l_nil (h := ?_) | refine n_then (h := ?_) | (refine l_at 17 ?_; refine l_call_ (h1) ?_; rintro _ _ _ ⟨pa, ca, rfl, rfl⟩ he; cases he) | refine a_done (h := ?_) | refine a_load (h := a_pass2 (h := ?_)) | refine a_one (h := ?_) | refine n_any (h := a_pass2 (h := ?_))))
  (refine g_draw [Wd b' db' xb' sb' rb' root'] (h := a_pass2 (h := ?_)))
  (repeat' (first | refine g_seq (h := ?_) | refine g_region (h := ?_) | refine l_nil (h := ?_) | refine n_then (h := ?_) | refine l_pures1 (h := ?_) | (refine l_at 17 ?_; refine l_call_ (h2) ?_; rintro _ _ _ ⟨pb, cb, rfl, rfl⟩ he; cases he) | refine g_skip (h := ?_) | refine g_block (h := ?_) | refine a_done (h := ?_) | refine a_load (h := a_pass2 (h := ?_)) | refine a_one (h := ?_) | refine n_any (h := a_pass2 (h := ?_)) | (refine g_spF (h := ?_); intro h)))
  (refine g_loop (fun i : Nat => [(18, .int .i64 i), (17, .int .i64 0), (16, .slice pb T.length cb), (15, .int .i64 0), (14, .slice pa T.length ca), (6, .pointer (some ⟨b', 0, none⟩)), (4, .pointer (some ⟨b, 0, none⟩)), (3, .bool true)]) (fun i => [vec 53 2 pa T.length ca (entC T), vec 53 2 pb T.length cb (entC V), Wd b db xb sb rb root, Store sb db S, Disk db D, ins p ks.length (ks.map encZ') o]) (fun i => i ≤ T.length) (fun i => T.length - i) (0) ?_ ?_ ?_ ?_; rotate_left; (repeat (first | refine ts_nil | (refine ts_cons rfl ?_ ?_; first | (with_reducible rfl) | rotate_left))); (first | (intro _ i; with_reducible refine i) | rotate_left); rotate_left; (try omega); rotate_right)
  · intro i hi
    by_cases hil : i < T.length
    · refine g_ptr (m := T.length) (p := pa) (h := ?_); rintro ga rfl hca
      refine g_ptr (m := T.length) (p := pb) (h := ?_); rintro gb rfl hcb
      have hkeq : (V.getD i (0, [])).1 = (T.getD i (0, [])).1 := by
        have := congrArg (fun l => l[i]?) he
        simp only [List.getElem?_map, List.getElem?_eq_getElem hil, List.getElem?_eq_getElem (show i < V.length by omega), Option.map_some, Option.some.injEq] at this
        simp [List.getD, hil, show i < V.length by omega, this]
      have hga : (entC T)[0 + ((i : Nat) : Int).toNat * 2 + 0]? = some (.int .u64 ((T.getD i (0, [])).1 : Nat)) := (by rw [Nat.zero_add, Nat.add_zero, Int.toNat_natCast]; exact entC_get0 hil)
      have hga1 : (entC T)[0 + ((i : Nat) : Int).toNat * 2 + 1]? = some (.string (str (T.getD i (0, [])).2)) := (by rw [Nat.zero_add, Int.toNat_natCast]; exact entC_get1 hil)
      have hgb : (entC V)[0 + ((i : Nat) : Int).toNat * 2 + 0]? = some (.int .u64 ((T.getD i (0, [])).1 : Nat)) := (by rw [Nat.zero_add, Nat.add_zero, Int.toNat_natCast, ← hkeq]; exact entC_get0 (by omega))
      have hget := k.get sb db (T.getD i (0, [])).1
      have hgt : getE T (T.getD i (0, [])).1 = some (T.getD i (0, [])).2 := getE_of ho (getD_mem hil)
      rw [hgt] at hget
      (repeat' (first | refine g_seq (h := ?_) | refine g_region (h := ?_) | refine l_nil (h := ?_) | refine n_then (h := ?_) | refine l_pures1 (h := ?_) | refine g_skip (h := ?_) | refine g_block (h := ?_) | (refine g_spT (h := ?_); intro h)))
      (refine g_draw [vec 53 2 (some ⟨ga, 0, none⟩) T.length ca (entC T), Wd b db xb sb rb root] (h := a_pass2 (h := ?_)))
      (repeat' (first | refine g_seq (h := ?_) | refine l_nil (h := ?_) | refine n_then (h := ?_) | (refine l_atc ?_; refine l_call (hget) ?_) | refine l_indexAddr (h := ?_) | refine a_done (h := ?_) | refine a_load (h := a_pass2 (h := ?_)) | refine a_one (h := ?_) | refine n_any (h := a_pass2 (h := ?_)) | refine l_load_vec (h := ?_)))
      (refine g_draw [vec 53 2 (some ⟨ga, 0, none⟩) T.length ca (entC T), vec 53 2 (some ⟨gb, 0, none⟩) T.length cb (entC V)] (h := a_pass2 (h := ?_)))
      (repeat' (first | refine g_seq (h := ?_) | refine g_region (h := ?_) | refine l_nil (h := ?_) | refine n_then (h := ?_) | refine l_pures1 (h := ?_) | refine l_guard_yes (h := ?_) | refine l_indexAddr (h := ?_) | refine g_skip (h := ?_) | refine g_ret (h := ?_) | refine n_then_ret (h := ?_) | refine n_block_ret (h := ?_) | refine a_done (h := ?_) | refine a_one (h := ?_) | refine n_any (h := a_pass2 (h := ?_)) | refine a_v (h := ?_) | refine a_vg (h := ?_) | refine n_block (h := ?_) | refine l_load_vec (h := ?_) | refine a_load_vec (h := a_pass2 (h := ?_)) | (refine l_spF (h := ?_); intro h) | (refine g_sp (h1 := ?_) (h0 := ?_) <;> intro h)))
      · exact absurd rfl h
      · (refine n_back (i + 1) ?_ ?_ ?_ ?_; rotate_left; rotate_left; (repeat (first | refine ts_nil | (refine ts_cons rfl ?_ ?_; first | (with_reducible rfl) | rotate_left))); (first | (intro _ i; with_reducible refine i) | rotate_left); (try omega); (try omega))
        · rw [wrapI64 (by omega)] <;> rfl
        · skip
          (intro _ i; exact inv_keep parts_of i)
    · (repeat' (first | refine g_seq (h := ?_) | refine g_region (h := ?_) | refine l_nil (h := ?_) | refine n_then (h := ?_) | refine l_pures1 (h := ?_) | refine l_guard_yes (h := ?_) | refine g_ret (h := ?_) | refine g_exit (h := ?_) | refine n_then_exit (h := ?_) | refine n_block_hit (h := ?_) | (refine g_spF (h := ?_); intro h)))
      refine r_retk [ins p ks.length (ks.map encZ') o] ?_
      exact ⟨rfl, rfl⟩
  all_goals first | rfl | exact Nat.zero_le _ | (intro _ i; exact inv_keep parts_of i)

set_option maxHeartbeats 4000000 in
theorem TreeOrders_does (p : Option Addr) (ks : List Int) (cap : Nat) (o : Obj) (hk : ∀ z ∈ ks, (Lit.int .i64 z).wf = true) (hl : ks.length ≤ 9223372036854775807) :
    Does Tryz.prog 6 [.slice p ks.length cap] [ins p ks.length (ks.map encZ') o] (fun v H => v = .bool true ∧ H = [ins p ks.length (ks.map encZ') o]) := by
  obtain ⟨E1, f1, k0⟩ := tr_new (N := 400) (by omega)
  have hb := begins_does (i := 400) (n := 400) rfl (by omega) f1
  obtain ⟨n, hn⟩ : ∃ n : Nat, n = min ks.length 40 := ⟨_, rfl⟩
  have hmin : (bif false then mxI (ks.length : Int) 40 else mnI (ks.length : Int) 40) = (n : Int) := by rw [cond_false, mnI_eq]; omega
  refine does_of Tryz.func6 Tryz.ntmps6 rfl rfl rfl (fun w0 F0 => ?_)
  (repeat' (first | refine g_seq (h := ?_) | refine g_region (h := ?_) | refine l_nil (h := ?_) | refine n_then (h := ?_) | refine l_pures1 (h := ?_) | (refine l_atc ?_; refine l_call (examples_does) ?_) | (refine l_atc ?_; refine l_call_ (hb) ?_; rintro _ _ _ ⟨b, db, xb, sb, rb, rfl, rfl⟩ he; cases he) | refine l_guard_yes (h := ?_) | refine g_skip (h := ?_) | refine g_block (h := ?_) | refine g_cond_f (h := ?_)))
  rename_i b1 db1 xb1 sb1 rb1
  rw [hmin]
  (refine g_loop (fun y : Nat × (Int × Sh × Dk × List Ent) × Int × Sh × Dk × List Ent => [(9, .int .i64 y.1), (8, .int .i64 n), (6, .pointer (some ⟨b, 0, none⟩)), (4, .pointer (some ⟨b1, 0, none⟩)), (3, .bool true), (0, .slice p ks.length cap)]) (fun y => [Wd b1 db1 xb1 sb1 rb1 y.2.1.1, Store sb1 db1 y.2.1.2.1, Disk db1 y.2.1.2.2.1, Wd b db xb sb rb y.2.2.1, Store sb db y.2.2.2.1, Disk db y.2.2.2.2.1, ins p ks.length (ks.map encZ') o]) (fun y => Tr 400 y.2.1.2.1 y.2.1.2.2.1 [] y.2.1.1 y.2.1.2.2.2 y.1 ∧ Tr 400 y.2.2.2.1 y.2.2.2.2.1 [] y.2.2.1 y.2.2.2.2.2 y.1 ∧ Keyed y.2.1.2.2.2 (fun i => keyN (ks.getD i 0)) y.1 ∧ Keyed y.2.2.2.2.2 (fun i => keyN (ks.getD (n - 1 - i) 0)) y.1 ∧ y.1 ≤ n) (fun y => n - y.1) ((0, (0, headNew.over, E1, []), 0, headNew.over, E1, [])) ?_ ?_ ?_ ?_; rotate_left; (repeat (first | refine ts_nil | (refine ts_cons rfl ?_ ?_; first | (with_reducible rfl) | rotate_left))); (first | (intro _ i; with_reducible refine i) | rotate_left); rotate_left; (try omega); rotate_right)
  · rintro ⟨j, ⟨r1, S1, D1, T⟩, r2, S2, D2, V⟩ ⟨k1, k2, e1, e2, hj⟩
    dsimp only at k1 k2 e1 e2 hj ⊢
    by_cases hjl : j < n
    · refine g_open (o := ins_opens (p := p) (m := ks.length) (by omega)) (h := ?_); (rintro ⟨gb, off, row, fr, T0⟩ ⟨rfl, rfl, v5, v6, v7⟩; dsimp only [List.cons_append, List.nil_append])
      have hjk : j < ks.length := by omega
      have hjk2 : n - 1 - j < ks.length := by omega
      have ew : IntKind.i64.wrap (IntKind.i64.wrap ((n : Int) - 1) - (j : Int)) = ((n - 1 - j : Nat) : Int) := by rw [wrapI64 (n := (n : Int) - 1) (by omega), wrapI64 (by omega)]; omega
      have hgt : row[off + j * 1]? = some (.int .i64 (ks.getD j 0)) := ins_get v5 hjk (by rw [List.getElem?_map, List.getD, List.getElem?_eq_getElem hjk]; rfl)
      have hib : 0 ≤ IntKind.i64.wrap (IntKind.i64.wrap ((n : Int) - 1) - (j : Int)) ∧ IntKind.i64.wrap (IntKind.i64.wrap ((n : Int) - 1) - (j : Int)) < ks.length := by rw [ew]; omega
      have hgt2 : row[off + (IntKind.i64.wrap (IntKind.i64.wrap ((n : Int) - 1) - (j : Int))).toNat * 1]? = some (.int .i64 (ks.getD (n - 1 - j) 0)) := by
        rw [ew, Int.toNat_natCast]
        exact ins_get v5 hjk2 (by rw [List.getElem?_map, List.getD, List.getElem?_eq_getElem hjk2]; rfl)
      have hw1 := wf_i64 (hk _ (getD_mem hjk (z := 0)))
      have hw2 := wf_i64 (hk _ (getD_mem hjk2 (z := 0)))
      have hkey1 := key_does (ks.getD j 0) hw1
      have hval1 := value_does (ks.getD j 0) hw1
      have hput1 := k1.put sb1 db1 (keyN (ks.getD j 0)) (valN (ks.getD j 0)) (keyN_lt _) (valN_len _) (by simp; omega)
      have hkey2 := key_does (ks.getD (n - 1 - j) 0) hw2
      have hval2 := value_does (ks.getD (n - 1 - j) 0) hw2
      have hput2 := k2.put sb db (keyN (ks.getD (n - 1 - j) 0)) (valN (ks.getD (n - 1 - j) 0)) (keyN_lt _) (valN_len _) (by simp; omega)
      (repeat' (first | refine g_seq (h := ?_) | refine g_region (h := ?_) | refine l_nil (h := ?_) | refine n_then (h := ?_) | refine l_pures1 (h := ?_) | refine g_skip (h := ?_) | refine g_block (h := ?_) | (refine g_spT (h := ?_); intro h)))
      (refine g_draw [Wd b1 db1 xb1 sb1 rb1 r1, pts gb (.cells row.toArray T0 fr)] (h := a_pass2 (h := ?_)))
      (repeat' (first | refine g_seq (h := ?_) | refine l_nil (h := ?_) | refine n_then (h := ?_) | (refine l_atc ?_; refine l_call (hkey1) ?_) | (refine l_atc ?_; refine l_call (hval1) ?_) | (refine l_atc ?_; refine l_call_ (hput1) ?_; rintro _ _ _ ⟨r1', S1', D1', rfl, rfl, k1', _, _⟩ he; cases he) | refine a_done (h := ?_) | refine a_load (h := a_pass2 (h := ?_)) | refine a_one (h := ?_) | refine n_any (h := a_pass2 (h := ?_)) | refine a_load_p (h := a_pass2 (h := ?_)) | refine a_v (h := ?_) | refine a_w (h := ?_)))
      (refine g_draw [Wd b db xb sb rb r2, pts gb (.cells row.toArray T0 fr)] (h := a_pass2 (h := ?_)))
      (repeat' (first | refine g_seq (h := ?_) | refine g_region (h := ?_) | refine l_nil (h := ?_) | refine n_then (h := ?_) | refine l_pures1 (h := ?_) | (refine l_atc ?_; refine l_call (hkey2) ?_) | (refine l_atc ?_; refine l_call (hval2) ?_) | (refine l_atc ?_; refine l_call_ (hput2) ?_; rintro _ _ _ ⟨r2', S2', D2', rfl, rfl, k2', _, _⟩ he; cases he) | refine l_guard_yes (h := ?_) | refine l_store (h := ?_) | refine g_skip (h := ?_) | refine a_done (h := ?_) | refine a_load (h := a_pass2 (h := ?_)) | refine a_one (h := ?_) | refine n_any (h := a_pass2 (h := ?_)) | refine a_load_p (h := a_pass2 (h := ?_)) | refine a_v (h := ?_) | refine n_block (h := ?_) | refine g_cond_f (h := ?_) | refine a_w (h := ?_)))
      refine n_shut (ins_shuts v5 v6 v7) (h := ?_)
      (refine n_back ((j + 1, (r1', S1', D1', putE T (keyN (ks.getD j 0)) (valN (ks.getD j 0))), r2', S2', D2', putE V (keyN (ks.getD (n - 1 - j) 0)) (valN (ks.getD (n - 1 - j) 0)))) ?_ ?_ ?_ ?_; rotate_left; rotate_left; (repeat (first | refine ts_nil | (refine ts_cons rfl ?_ ?_; first | (with_reducible rfl) | rotate_left))); (first | (intro _ i; with_reducible refine i) | rotate_left); (try omega); (try omega))
      · exact ⟨k1', k2', e1.put _, e2.put (f := fun i => keyN (ks.getD (n - 1 - i) 0)) _, hjl⟩
      · dsimp only; omega
      · rw [wrapI64 (by omega)] <;> rfl
      · skip
        (intro _ i; exact inv_keep parts_of i)
    · obtain rfl : j = n := by omega
      have he : T.map (·.1) = V.map (·.1) := rise_ext (ord_keys k1.tree.ord) (ord_keys k2.tree.ord) fun x => by
        rw [mem_keys k1.tree.ord, mem_keys k2.tree.ord, e1, e2]
        constructor
        · rintro ⟨i, h1, h2⟩
          exact ⟨j - 1 - i, by omega, by dsimp only; rw [show j - 1 - (j - 1 - i) = i by omega]; exact h2⟩
        · rintro ⟨i, h1, h2⟩
          exact ⟨j - 1 - i, by omega, h2⟩
      (repeat' (first | ((with_reducible show G _ _ _ _ (Code.seq (Code.region 18 _ _) _) _ _ _ _); exact g_bang (orders_tail b1 db1 xb1 sb1 rb1 b db xb sb rb j p ks cap o r1 r2 S1 S2 D1 D2 T V k1 k2 (by omega) he w0 F0)) | refine g_seq (h := ?_) | refine g_region (h := ?_) | refine l_nil (h := ?_) | refine n_then (h := ?_) | refine l_pures1 (h := ?_) | refine g_exit (h := ?_) | refine n_then_exit (h := ?_) | refine n_block_hit (h := ?_) | (refine g_spF (h := ?_); intro h)))
  · exact ⟨k0, k0, fun x => by simp [getE], fun x => by simp [getE], Nat.zero_le _⟩
  · rfl
  · skip
    (intro _ i; exact inv_keep parts_of i)
end Go.Proofs.YtpbibhhjbigdhaaGreat
/- The framework, part 11: laws that take slices: what a row asks of them. -/
set_option linter.unusedVariables false
set_option linter.unusedSimpArgs false
namespace Go.Proofs.YtpbibhhjbigdhaaGreat.SL
open Go.RowKit Go.WideElems

/-- Wherever A holds its blocks F are as in W. -/
def Keeps (A : SProp) (W : World) (F : Nat → Prop) : Prop := ∀ h' F', A.holds h' F' → ∀ b, F b → h'[b]? = W.heap[b]?
theorem row_ofA {P : Program} {f : FuncId} {args : List Value} {A : SProp} {W : World} {F : Nat → Prop} (d : Does P f args [A] (fun v H => v = .bool true ∧ H = [A])) (hx : Keeps A W F) (s : A.holds W.heap F) :
    Calls P f args.toArray W fun e W' => e = .returned (.bool true) ∧ Go.RowKit.Below W.heap.size W W' := by
  refine (d W F ⟨F, fun _ => False, s, fun _ h => h, fun _ _ h => h, fun b => ⟨.inl, fun o => o.elim id False.elim⟩⟩).mono ?_
  rintro e W' ⟨v, H', rfl, ⟨rfl, rfl⟩, i⟩
  obtain ⟨⟨G, ⟨F1, _, a, _⟩, _⟩, _⟩ := id i
  refine ⟨rfl, i.os, i.tape, i.output, i.size, fun k hk => ?_⟩
  by_cases q : F k
  · exact hx _ _ a k q
  · exact i.frame k hk q
theorem keeps_ins {p : Option Addr} {m : Nat} {xs : List Value} {o : Obj} {W : World} {F : Nat → Prop} (hm : 0 < m) (s : (ins p m xs o).holds W.heap F) : Keeps (ins p m xs o) W F := by
  rintro h' F' ⟨_, z'⟩ b hb
  obtain ⟨_, z⟩ := s
  rcases z with ⟨e, _⟩ | ⟨g, off, row, fr, T, q1, q2, _, h3, e, f⟩
  · omega
  · rcases z' with ⟨e', _⟩ | ⟨g', off', row', fr', T', q1', q2', _, _, e', f'⟩
    · omega
    · rw [q1] at q1'
      cases q1'
      rw [(f b).1 hb, e, e']

/-- Cells that are there are an input row. -/
theorem cells_ins {W : World} {a : Addr} {m : Nat} {xs : List Value} (hl : xs.length = m) (h : ∀ i, i < m → W.cell? (a.add i) = xs[i]?) : ∃ o F, (ins (some a) m xs o).holds W.heap F ∧ Keeps (ins (some a) m xs o) W F ∧ (m = 0 → ∀ x, ¬ F x) := by
  by_cases hm : m = 0
  · exact ⟨.map #[] 0, fun _ => False, ⟨hl, .inl ⟨hm, fun _ h => h⟩⟩, fun _ _ _ _ h => h.elim, fun _ _ h => h⟩
  · obtain ⟨b, off, spot⟩ := a
    have h0 := h 0 (by omega)
    have hspot : spot = none := by
      rw [List.getElem?_eq_getElem (by omega)] at h0
      simpa [Addr.add] using World.cell?_spot h0
    subst hspot
    have h1 : ∀ i, i < m → W.cell? ⟨b, off + i, none⟩ = xs[i]? := fun i hi => by rw [← Go.WideShapes.add_plain]; exact h i hi
    have h2 := h1 0 (by omega)
    rw [List.getElem?_eq_getElem (by omega)] at h2
    obtain ⟨c, T, fr, hb⟩ : ∃ c T fr, W.heap[b]? = some (.cells c T fr) := by
      unfold World.cell? at h2
      split at h2
      · rename_i hb; exact ⟨_, _, _, hb⟩
      · cases h2
    have h3 : ∀ i, i < m → c[off + i]? = xs[i]? := fun i hi => by rw [← h1 i hi, cell_at hb]
    have hlen : off + m ≤ c.toList.length := by
      have := h3 (m - 1) (by omega)
      rw [List.getElem?_eq_getElem (by omega)] at this
      have := (Array.getElem?_eq_some_iff.1 this).1
      simp; omega
    have hs : (ins (some ⟨b, off, none⟩) m xs (.cells c T fr)).holds W.heap (fun x => x = b) := by
     refine ⟨hl, .inr ⟨b, off, c.toList, fr, T, rfl, by simp, ?_, hlen, hb, fun _ => Iff.rfl⟩⟩
     apply List.ext_getElem?
     intro i
     by_cases hi : i < m
     · rw [List.getElem?_take_of_lt hi, List.getElem?_drop, Array.getElem?_toList, h3 i hi]
     · rw [List.getElem?_eq_none (by simp; omega), List.getElem?_eq_none (by omega)]
    exact ⟨_, _, hs, keeps_ins (by omega) hs, fun q => absurd q hm⟩
theorem nil_ins {W : World} : (ins none 0 [] (.map #[] 0)).holds W.heap (fun _ => False) ∧ Keeps (ins none 0 [] (.map #[] 0)) W (fun _ => False) := ⟨⟨rfl, .inl ⟨rfl, fun _ h => h⟩⟩, fun _ _ _ _ h => h.elim⟩

/-- Two input rows, in one block or in two: what holds them both, and each with what is left. -/
theorem ins_two {W : World} {p1 p2 : Option Addr} {m1 m2 : Nat} {xs ys : List Value} {o1 o2 : Obj} {F1 F2 : Nat → Prop} (s1 : (ins p1 m1 xs o1).holds W.heap F1) (k1 : Keeps (ins p1 m1 xs o1) W F1) (z1 : m1 = 0 → ∀ x, ¬ F1 x) (s2 : (ins p2 m2 ys o2).holds W.heap F2) (k2 : Keeps (ins p2 m2 ys o2) W F2) (z2 : m2 = 0 → ∀ x, ¬ F2 x) :
    ∃ (A R1 R2 : SProp) (F : Nat → Prop), A.holds W.heap F ∧ Keeps A W F ∧ Opens A (fun _ : Unit => True) (fun _ => [ins p1 m1 xs o1, R1]) ∧ Shuts [ins p1 m1 xs o1, R1] A ∧ Opens A (fun _ : Unit => True) (fun _ => [ins p2 m2 ys o2, R2]) ∧ Shuts [ins p2 m2 ys o2, R2] A := by
  by_cases hd : ∃ x, F1 x ∧ F2 x
  · obtain ⟨x, h1, h2⟩ := hd
    have key : ∀ {p p' : Option Addr} {m m' : Nat} {xs ys : List Value} {o o' : Obj} {G G' : Nat → Prop}, (ins p m xs o).holds W.heap G → (ins p' m' ys o').holds W.heap G' → G x → G' x → 0 < m → ∀ h F, (ins p m xs o).holds h F → (ins p' m' ys o').holds h F := by
      intro p p' m m' xs ys o o' G G' ⟨_, z⟩ ⟨l', z'⟩ hx hx' hm h F ⟨_, y⟩
      rcases z with ⟨_, f⟩ | ⟨g, off, row, fr, T, q1, q2, q3, q4, e, f⟩
      · exact absurd hx (f x)
      · rcases z' with ⟨_, f'⟩ | ⟨g', off', row', fr', T', q1', q2', q3', q4', e', f'⟩
        · exact absurd hx' (f' x)
        · obtain rfl := (f x).1 hx
          obtain rfl := (f' x).1 hx'
          rw [e] at e'
          cases e'
          rcases y with ⟨e0, _⟩ | ⟨g2, off2, row2, fr2, T2, y1, y2, y3, y4, y5, y6⟩
          · omega
          · rw [q1] at y1
            cases y1
            exact ⟨l', .inr ⟨_, off', row', fr', T', q1', q2', q3', q4', y5, y6⟩⟩
    have emp : ∀ {K : SProp} {h : Array Obj} {F : Nat → Prop}, K.holds h F ↔ sep [K, fact True] h F := by
      intro K h F
      refine ⟨fun a => ⟨F, fun _ => False, a, ⟨fun _ => False, fun _ => False, ⟨trivial, fun _ h => h⟩, fun _ h => h, fun _ _ h => h, fun b => ⟨.inl, fun o => o.elim id id⟩⟩, fun _ _ h => h, fun b => ⟨.inl, fun o => o.elim id False.elim⟩⟩, ?_⟩
      rintro ⟨G1, G2, a, ⟨G3, G4, ⟨_, e⟩, f, _, u2⟩, d, u⟩
      have : F = G1 := by
        funext b
        apply propext
        rw [u b, u2 b]
        exact ⟨fun o => o.elim id (fun o => o.elim (fun q => (e b q).elim) (fun q => (f b q).elim)), .inl⟩
      rw [this]; exact a
    have hm1 : 0 < m1 := Nat.pos_of_ne_zero fun q => z1 q x h1
    have hm2 : 0 < m2 := Nat.pos_of_ne_zero fun q => z2 q x h2
    exact ⟨ins p1 m1 xs o1, fact True, fact True, F1, s1, k1, fun h F a => ⟨(), trivial, emp.1 a⟩, fun h F a => emp.2 a,
      fun h F a => ⟨(), trivial, emp.1 (key s1 s2 h1 h2 hm1 h F a)⟩, fun h F a => key s2 s1 h2 h1 hm2 h F (emp.2 a)⟩
  · refine ⟨⟨fun h F => sep [ins p1 m1 xs o1, ins p2 m2 ys o2] h F, sep_loc, sep_bnd⟩, ins p2 m2 ys o2, ins p1 m1 xs o1, fun x => F1 x ∨ F2 x, ?_, ?_, fun h F a => ⟨(), trivial, a⟩, fun h F a => a, fun h F a => ⟨(), trivial, ?_⟩, fun h F a => ?_⟩
    · exact ⟨F1, F2, s1, ⟨F2, fun _ => False, s2, fun _ h => h, fun _ _ h => h, fun b => ⟨.inl, fun o => o.elim id False.elim⟩⟩, fun x a b => hd ⟨x, a, b⟩, fun _ => Iff.rfl⟩
    · rintro h' F' ⟨G1, G2, a, ⟨G3, G4, b, _⟩, _⟩ x hx
      exact hx.elim (k1 _ _ a x) (k2 _ _ b x)
    · exact (Parts.cons (Take.there Take.here) (Parts.cons Take.here Parts.nil)).sep a
    · exact (Parts.cons (Take.there Take.here) (Parts.cons Take.here Parts.nil)).sep a
end Go.Proofs.YtpbibhhjbigdhaaGreat.SL
/- Rows over slices of strings and of whole numbers. -/
set_option linter.unusedVariables false
set_option linter.unusedSimpArgs false
namespace Go.Proofs.YtpbibhhjbigdhaaGreat
open Go.Proofs.YtpbibhhjbigdhaaGreat.SL Go.ChangeShapes

section
variable {H : Type} {enc : TypeId × Value → H} {P : Program} {W : World}
theorem open_Ss {t e : TypeId} (ht : P.underlying t = some (.slice e)) (he : P.underlying e = some .string) (hc : P.cellsOf e = 1) {v : Value} (hv : ∃ a0 len cap, v = .slice a0 len cap) {d : DataW H} {ps : List MemPlace} (h : DataW.Trod enc P W 0 (fun _ => true) true t v d ps) :
    ∃ (a0 : Option Addr) (cap : Nat) (Tx : List (List UInt8)) (o : Obj) (F : Nat → Prop), v = .slice a0 Tx.length cap ∧ (ins a0 Tx.length (Tx.map encS) o).holds W.heap F ∧ Keeps (ins a0 Tx.length (Tx.map encS) o) W F ∧ (Tx.length = 0 → ∀ x, ¬ F x) ∧ (∀ l ∈ Tx, l.length ≤ 9223372036854775807) ∧ Tx.length ≤ 9223372036854775807 := by
  obtain ⟨a0, len, cap, rfl⟩ := hv
  obtain ⟨fuel, hf⟩ := h
  rcases open_strings ht he hc hf with ⟨hcs, _⟩ | ⟨a, len', cap', ss, hcs, _, hle, hmax, hlen, _, hcell, hw⟩
  · simp [Value.cells] at hcs
    obtain ⟨rfl, rfl, rfl⟩ := hcs
    exact ⟨none, 0, [], .map #[] 0, _, rfl, nil_ins.1, nil_ins.2, fun _ _ h => h, by simp, by simp⟩
  · simp [Value.cells] at hcs
    obtain ⟨rfl, rfl, rfl⟩ := hcs
    simp only [if_true] at hlen
    obtain ⟨Tx, hTx⟩ : ∃ Tx, Tx = (ss.take len).map fun s => s.data.toList := ⟨_, rfl⟩
    have hl : Tx.length = len := by rw [hTx, List.length_map, List.length_take]; omega
    have hx : Tx.map encS = (ss.take len).map fun s => Value.string s := by
      rw [hTx, List.map_map]
      apply List.map_congr_left
      rintro ⟨⟨s⟩⟩ _
      rfl
    have hm' : (Tx.map encS).length = Tx.length := by simp
    obtain ⟨o, F, s1, s2, s3⟩ := cells_ins (W := W) (a := a) hm' (fun i hi => by
      rw [hcell i (by omega), hx, List.getElem?_map, List.getElem?_take_of_lt (by omega), List.getD]
      rw [List.getElem?_eq_getElem (by omega)]; rfl)
    simp only [maxLen] at hmax
    refine ⟨some a, cap, Tx, o, F, by rw [hl], s1, s2, s3, ?_, by omega⟩
    intro l hl'
    rw [hTx] at hl'
    obtain ⟨s, hs, rfl⟩ := List.mem_map.1 hl'
    have := hw s (List.mem_of_mem_take hs)
    simp only [maxLen] at this
    rw [Array.length_toList]; exact this
theorem open_Zs {t e : TypeId} (ht : P.underlying t = some (.slice e)) (he : P.underlying e = some (.int .i64)) (hc : P.cellsOf e = 1) {v : Value} (hv : ∃ a0 len cap, v = .slice a0 len cap) {d : DataW H} {ps : List MemPlace} (h : DataW.Trod enc P W 0 (fun _ => true) true t v d ps) :
    ∃ (a0 : Option Addr) (cap : Nat) (zs : List Int) (o : Obj) (F : Nat → Prop), v = .slice a0 zs.length cap ∧ (ins a0 zs.length (zs.map encZ') o).holds W.heap F ∧ Keeps (ins a0 zs.length (zs.map encZ') o) W F ∧ (zs.length = 0 → ∀ x, ¬ F x) ∧ (∀ z ∈ zs, (Lit.int .i64 z).wf = true) ∧ zs.length ≤ 9223372036854775807 := by
  obtain ⟨a0, len, cap, rfl⟩ := hv
  obtain ⟨fuel, hf⟩ := h
  rcases open_ints ht he hc hf with ⟨hcs, _⟩ | ⟨a, len', cap', ss, hcs, _, hle, hmax, hlen, _, hcell, hw⟩
  · simp [Value.cells] at hcs
    obtain ⟨rfl, rfl, rfl⟩ := hcs
    exact ⟨none, 0, [], .map #[] 0, _, rfl, nil_ins.1, nil_ins.2, fun _ _ h => h, by simp, by simp⟩
  · simp [Value.cells] at hcs
    obtain ⟨rfl, rfl, rfl⟩ := hcs
    simp only [if_true] at hlen
    have hl : (ss.take len).length = len := by rw [List.length_take]; omega
    have hm' : ((ss.take len).map encZ').length = (ss.take len).length := by simp
    obtain ⟨o, F, s1, s2, s3⟩ := cells_ins (W := W) (a := a) hm' (fun i hi => by
      rw [hcell i (by omega), List.getElem?_map, List.getElem?_take_of_lt (by omega), List.getD, List.getElem?_eq_getElem (by omega)]; rfl)
    simp only [maxLen] at hmax
    exact ⟨some a, cap, ss.take len, o, F, by rw [hl], s1, s2, s3, fun z hz => hw z (List.mem_of_mem_take hz), by omega⟩
end
end Go.Proofs.YtpbibhhjbigdhaaGreat
