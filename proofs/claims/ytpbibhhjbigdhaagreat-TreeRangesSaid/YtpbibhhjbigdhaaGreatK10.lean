/- Texts TlD, TlE, RowL, RowS, joined. -/
import Derived.SliceStrings
import Derived.ChangeSlices
import Derived.Carry
import Derived.Test.YtpbibhhjbigdhaaGreatK09
/- The laws' entries: two lists that are the same. -/
set_option maxRecDepth 20000
set_option linter.unusedVariables false
set_option linter.unusedSimpArgs false
namespace Go.Proofs.YtpbibhhjbigdhaaGreat
open Go.Proofs.YtpbibhhjbigdhaaGreat.SL

theorem entC_get0 : ∀ {l : List Ent} {j : Nat}, j < l.length → (entC l)[j * 2]? = some (.int .u64 ((l.getD j (0, [])).1 : Nat))
  | [], j, h => by simp at h
  | e :: l, 0, _ => rfl
  | e :: l, j + 1, h => by
    have ih := entC_get0 (l := l) (j := j) (by simpa using h)
    have : (j + 1) * 2 = j * 2 + 1 + 1 := by omega
    rw [this]
    exact ih
theorem entC_get1 : ∀ {l : List Ent} {j : Nat}, j < l.length → (entC l)[j * 2 + 1]? = some (.string (str (l.getD j (0, [])).2))
  | [], j, h => by simp at h
  | e :: l, 0, _ => rfl
  | e :: l, j + 1, h => by
    have ih := entC_get1 (l := l) (j := j) (by simpa using h)
    have : (j + 1) * 2 + 1 = j * 2 + 1 + 1 + 1 := by omega
    rw [this]
    exact ih

set_option maxHeartbeats 4000000 in
theorem entries_same (a : List Ent) (p q : Option Addr) (c1 c2 : Nat) (ha : a.length < 10000) : Does Tryz.prog 18 [.slice p a.length c1, .slice q a.length c2] [vec 53 2 p a.length c1 (entC a), vec 53 2 q a.length c2 (entC a)]
    (fun v H => v = .bool true ∧ H = [vec 53 2 p a.length c1 (entC a), vec 53 2 q a.length c2 (entC a)]) := by
  refine does_of Tryz.func18 Tryz.ntmps18 rfl rfl rfl (fun w0 F0 => ?_)
  (repeat' (first | refine g_seq (h := ?_) | refine g_region (h := ?_) | refine l_nil (h := ?_) | refine n_then (h := ?_) | refine l_pures1 (h := ?_) | refine g_skip (h := ?_) | refine g_block (h := ?_) | (refine g_spF (h := ?_); intro h)))
  (refine g_loop (fun j : Nat => [(5, .int .i64 j), (0, .slice p a.length c1), (1, .slice q a.length c2)]) (fun j => [vec 53 2 p a.length c1 (entC a), vec 53 2 q a.length c2 (entC a)]) (fun j => j ≤ a.length) (fun j => a.length - j) (0) ?_ ?_ ?_ ?_; rotate_left; (repeat (first | refine ts_nil | (refine ts_cons rfl ?_ ?_; first | (with_reducible rfl) | rotate_left))); (first | (intro _ i; with_reducible refine i) | rotate_left); rotate_left; (try omega); rotate_right)
  · intro j hj
    by_cases hjl : j < a.length
    · refine g_ptr (m := a.length) (p := p) (h := ?_); rintro g1 rfl hc1
      refine g_ptr (m := a.length) (p := q) (h := ?_); rintro g2 rfl hc2
      have hg0 : (entC a)[0 + ((j : Nat) : Int).toNat * 2 + 0]? = some (.int .u64 ((a.getD j (0, [])).1 : Nat)) := (by rw [Nat.zero_add, Nat.add_zero, Int.toNat_natCast]; exact entC_get0 hjl)
      have hg1 : (entC a)[0 + ((j : Nat) : Int).toNat * 2 + 1]? = some (.string (str (a.getD j (0, [])).2)) := (by rw [Nat.zero_add, Int.toNat_natCast]; exact entC_get1 hjl)
      (repeat' (first | refine g_seq (h := ?_) | refine g_region (h := ?_) | refine l_nil (h := ?_) | refine n_then (h := ?_) | refine l_pures1 (h := ?_) | refine g_skip (h := ?_) | refine g_block (h := ?_) | (refine g_spT (h := ?_); intro h)))
      (refine g_draw [vec 53 2 (some ⟨g1, 0, none⟩) a.length c1 (entC a), vec 53 2 (some ⟨g2, 0, none⟩) a.length c2 (entC a)] (h := a_pass2 (h := ?_)))
      (repeat' (first | refine g_region (h := ?_) | refine l_nil (h := ?_) | refine n_then (h := ?_) | refine l_pures1 (h := ?_) | refine l_guard_yes (h := ?_) | refine l_indexAddr (h := ?_) | refine g_skip (h := ?_) | refine a_done (h := ?_) | refine a_one (h := ?_) | refine n_any (h := a_pass2 (h := ?_)) | refine a_v (h := ?_) | refine a_vg (h := ?_) | refine n_block (h := ?_) | refine l_load_vec (h := ?_) | refine a_load_vec (h := a_pass2 (h := ?_)) | refine a_loadg_vec (h := a_pass2 (h := ?_)) | (refine a_spF (h := ?_); intro h) | (refine g_spF (h := ?_); intro h)))
      (refine n_back (j + 1) ?_ ?_ ?_ ?_; rotate_left; rotate_left; (repeat (first | refine ts_nil | (refine ts_cons rfl ?_ ?_; first | (with_reducible rfl) | rotate_left))); (first | (intro _ i; with_reducible refine i) | rotate_left); (try omega); (try omega))
      · rw [wrapI64 (by omega)] <;> rfl
    · (repeat' (first | refine g_seq (h := ?_) | refine g_region (h := ?_) | refine l_nil (h := ?_) | refine n_then (h := ?_) | refine l_pures1 (h := ?_) | refine g_ret (h := ?_) | refine g_exit (h := ?_) | refine n_then_exit (h := ?_) | refine n_block_hit (h := ?_) | (refine g_spF (h := ?_); intro h)))
      refine r_retk [vec 53 2 p a.length c1 (entC a), vec 53 2 q a.length c2 (entC a)] ?_
      exact ⟨rfl, rfl⟩
  all_goals first | rfl | exact Nat.zero_le _

theorem Tr.scan {N : Nat} {S : Sh} {D : Dk} {U : List Int} {root : Int} {T : List Ent} {m : Nat} (k : Tr N S D U root T m) (hm : m < 10000) (sb db x : Nat) (most : Int) (h : -9223372036854775808 ≤ most ∧ most < 9223372036854775808) :
    Does Tryz.prog 17 [.pointer (some ⟨sb, 0, none⟩), .int .i64 root, .int .u64 x, .int .i64 most] [Store sb db S, Disk db D]
      (fun v H => ∃ p cap, v = .tuple #[.slice p ((geE T x).take most.toNat).length cap, .int .i64 0] ∧ H = [vec 53 2 p ((geE T x).take most.toNat).length cap (entC ((geE T x).take most.toNat)), Store sb db S, Disk db D]) :=
  scan_tree sb db x N root most U T S D k.fine k.tree (by have := k.len; omega) h
theorem Tr.scanAll {N : Nat} {S : Sh} {D : Dk} {U : List Int} {root : Int} {T : List Ent} {m : Nat} (k : Tr N S D U root T m) (hm : m ≤ 1000) (sb db : Nat) :
    Does Tryz.prog 17 [.pointer (some ⟨sb, 0, none⟩), .int .i64 root, .int .u64 0, .int .i64 1000] [Store sb db S, Disk db D]
      (fun v H => ∃ p cap, v = .tuple #[.slice p T.length cap, .int .i64 0] ∧ H = [vec 53 2 p T.length cap (entC T), Store sb db S, Disk db D]) := by
  have h := k.scan (by omega) sb db 0 1000 (by omega)
  have e : (geE T 0).take (Int.toNat 1000) = T := by
    have h0 : geE T 0 = T := List.filter_eq_self.2 fun e he => by simp
    rw [h0]
    exact List.take_of_length_le (by have := k.len; simp; omega)
  rw [e] at h
  exact h

theorem entC_cut : ∀ {l : List Ent} {j : Nat}, j < l.length → ((entC l).drop (j * 2)).take 2 = [.int .u64 ((l.getD j (0, [])).1 : Nat), .string (str (l.getD j (0, [])).2)]
  | [], j, h => by simp at h
  | e :: l, 0, _ => rfl
  | e :: l, j + 1, h => by
    have ih := entC_cut (l := l) (j := j) (by simpa using h)
    have : (j + 1) * 2 = j * 2 + 1 + 1 := by omega
    rw [this]
    exact ih
theorem part_ent {l : List Ent} {j : Nat} (h : j < l.length) : partV env 53 (entC l) (0 + ((j : Nat) : Int).toNat * 2) = some (entV (l.getD j (0, []))) := by
  have e : 0 + ((j : Nat) : Int).toNat * 2 = j * 2 := by rw [Int.toNat_natCast, Nat.zero_add]
  have hc : cutL (entC l) (j * 2) 2 = some [.int .u64 ((l.getD j (0, [])).1 : Nat), .string (str (l.getD j (0, [])).2)] := by
    rw [cutL_of (by rw [entC_len]; omega), entC_cut h]
  rw [e]
  show (match cutL (entC l) (j * 2) 2 with
        | some r => some (Value.agg r.toArray)
        | none => none) = _
  rw [hc]
end Go.Proofs.YtpbibhhjbigdhaaGreat
/- TreeRanges. -/
set_option maxRecDepth 20000
set_option linter.unusedVariables false
set_option linter.unusedSimpArgs false
namespace Go.Proofs.YtpbibhhjbigdhaaGreat
open Go.Proofs.YtpbibhhjbigdhaaGreat.SL

theorem geE_snoc (l : List Ent) (e : Ent) (x : Nat) : geE (l ++ [e]) x = geE l x ++ if x ≤ e.1 then [e] else [] := by
  rw [geE_append]
  congr 1
  simp only [geE, List.filter_cons, List.filter_nil]
  by_cases q : x ≤ e.1 <;> simp [q]
theorem take_snocD {l : List Ent} {j : Nat} (h : j < l.length) : l.take (j + 1) = l.take j ++ [l.getD j (0, [])] := by
  rw [List.take_succ_eq_append_getElem h]
  simp [List.getD, h]

set_option maxHeartbeats 4000000 in
/-- What comes behind the loop. -/
theorem ranges_tail (b db xb sb rb j : Nat) (p : Option Addr) (ks : List Int) (cap : Nat) (o : Obj) (from' most root : Int) (S : Sh) (D : Dk) (T : List Ent) (k : Tr 400 S D [] root T j) (hj : j ≤ 50) (h1 : -9223372036854775808 ≤ from' ∧ from' < 9223372036854775808) (h2 : -9223372036854775808 ≤ most ∧ most < 9223372036854775808) (w0 : World) (F0 : Nat → Prop) :
    G Tryz.prog 133 w0 F0 (nav [1, 1, 1, 1, 1, 1] (bdy Tryz.f5)) (Post Tryz.prog Tryz.f5 w0 F0 (fun v H => v = .bool true ∧ H = [ins p ks.length (ks.map encZ') o]))
      [(8, .pointer (some ⟨b, 0, none⟩)), (7, .bool true), (0, .slice p ks.length cap), (1, .int .i64 from'), (2, .int .i64 most)] [] [Wd b db xb sb rb root, Store sb db S, Disk db D, ins p ks.length (ks.map encZ') o] := by
  obtain ⟨c, hc⟩ : ∃ c, c = nav [1, 1, 1, 1, 1, 1] (bdy Tryz.f5) := ⟨_, rfl⟩
  rw [← hc]
  dsimp only [nav, bdy, Tryz.f5, Option.getD] at hc
  subst hc
  have hTl := k.len
  have hkey := key_does from' h1
  have hall := k.scanAll (by omega) sb db
  have hpart := k.scan (by omega) sb db (keyN from') most h2
  (repeat refine g_seq (h := ?_))
  (refine g_draw [Wd b db xb sb rb root] (h := a_pass2 (h := ?_)))
  (repeat (first | refine g_seq (h := ?_) | refine l_nil (h := ?_) | refine n_then (h := ?_) | (refine l_at 17 ?_; refine l_call_ (hall) ?_; rintro _ _ _ ⟨pa, ca, rfl, rfl⟩ he; cases he) | refine a_done (h := ?_) | refine a_load (h := a_pass2 (h := ?_)) | refine a_one (h := ?_) | refine n_any (h := a_pass2 (h := ?_))))
  (refine g_draw [Wd b db xb sb rb root] (h := a_pass2 (h := ?_)))
  (repeat (first | refine g_seq (h := ?_) | refine g_region (h := ?_) | refine l_nil (h := ?_) | refine n_then (h := ?_) | refine l_pures1 (h := ?_) | (refine l_atc ?_; refine l_call (hkey) ?_) | (refine l_at 17 ?_; refine l_call_ (hpart) ?_; rintro _ _ _ ⟨pp, cp, rfl, rfl⟩ he; cases he) | refine g_block (h := ?_) | refine a_done (h := ?_) | refine a_load (h := a_pass2 (h := ?_)) | refine a_one (h := ?_) | refine n_any (h := a_pass2 (h := ?_))))
  refine g_inv (fun i => vec_nil (53) (2) i) ?_
  obtain ⟨kx, hkx⟩ : ∃ kx, kx = keyN from' := ⟨_, rfl⟩
  rw [← hkx] at hkey ⊢
  refine g_inv (H' := [vec 53 2 none (geE (T.take 0) kx).length 0 (entC (geE (T.take 0) kx)), vec 53 2 pp ((geE T kx).take most.toNat).length cp (entC ((geE T kx).take most.toNat)), Store sb db S, Disk db D, vec 53 2 pa T.length ca (entC T), Wd b db xb sb rb root, ins p ks.length (ks.map encZ') o]) (fun i => i) ?_
  (refine g_loop (fun y : Nat × Option Addr × Nat => [(18, .int .i64 y.1), (17, .slice y.2.1 (geE (T.take y.1) kx).length y.2.2), (16, .int .i64 0), (15, .slice pp ((geE T kx).take most.toNat).length cp), (14, .int .i64 0), (13, .slice pa T.length ca), (7, .bool true), (1, .int .i64 from'), (2, .int .i64 most)]) (fun y => [vec 53 2 y.2.1 (geE (T.take y.1) kx).length y.2.2 (entC (geE (T.take y.1) kx)), vec 53 2 pp ((geE T kx).take most.toNat).length cp (entC ((geE T kx).take most.toNat)), vec 53 2 pa T.length ca (entC T), ins p ks.length (ks.map encZ') o]) (fun y => y.1 ≤ T.length ∧ (geE (T.take y.1) kx).length ≤ most.toNat) (fun y => T.length - y.1) ((0, none, 0)) ?_ ?_ ?_ ?_; rotate_left; (repeat (first | refine ts_nil | (refine ts_cons rfl ?_ ?_; first | (with_reducible rfl) | rotate_left))); (first | (intro _ i; with_reducible refine i) | rotate_left); rotate_left; (try omega); rotate_right)
  · rintro ⟨i, pw, cw⟩ ⟨hi, hw⟩
    dsimp only at hi hw ⊢
    have hwl : (geE (T.take i) kx).length ≤ i := Nat.le_trans (List.length_filter_le _ _) (by simp; omega)
    by_cases hil : i < T.length ∧ ((geE (T.take i) kx).length : Int) < most
    · obtain ⟨hil, hlm⟩ := hil
      refine g_ptr (m := T.length) (p := pa) (h := ?_); rintro ga rfl hca
      have hg0 : (entC T)[0 + ((i : Nat) : Int).toNat * 2 + 0]? = some (.int .u64 ((T.getD i (0, [])).1 : Nat)) := (by rw [Nat.zero_add, Nat.add_zero, Int.toNat_natCast]; exact entC_get0 hil)
      have hpt := part_ent hil
      have hsn : geE (T.take (i + 1)) kx = geE (T.take i) kx ++ if kx ≤ (T.getD i (0, [])).1 then [T.getD i (0, [])] else [] := by rw [take_snocD hil, geE_snoc]
      (repeat' (first | refine g_seq (h := ?_) | refine g_region (h := ?_) | refine l_nil (h := ?_) | refine n_then (h := ?_) | refine l_pures1 (h := ?_) | refine l_guard_yes (h := ?_) | refine g_skip (h := ?_) | refine g_block (h := ?_) | (refine l_spT (h := ?_); intro h) | (refine g_spT (h := ?_); intro h)))
      (refine g_draw [vec 53 2 (some ⟨ga, 0, none⟩) T.length ca (entC T)] (h := a_pass2 (h := ?_)))
      (repeat' (first | refine g_region (h := ?_) | refine l_nil (h := ?_) | refine n_then (h := ?_) | refine l_pures1 (h := ?_) | (refine l_atc ?_; refine l_call (hkey) ?_) | refine l_indexAddr (h := ?_) | (refine l_buildSlice1 (h := ?_); intro _) | (refine l_append_new (h := ?_); intro _ _) | refine g_skip (h := ?_) | refine a_done (h := ?_) | refine a_one (h := ?_) | refine n_any (h := a_pass2 (h := ?_)) | refine a_v (h := ?_) | refine n_block (h := ?_) | refine l_load_vec (h := ?_) | refine a_load_vec (h := a_pass2 (h := ?_)) | (refine g_sp (h1 := ?_) (h0 := ?_) <;> intro h)))
      · rename_i b1 p' cap'
        have hge : kx ≤ (T.getD i (0, [])).1 := by omega
        rw [if_pos hge] at hsn
        have e0 : (geE (T.take i) kx).length + 1 = (geE (T.take (i + 1)) kx).length := by rw [hsn]; simp
        have e1 : entC (geE (T.take i) kx) ++ #[Value.int .u64 ((T.getD i (0, [])).1 : Nat), .string (str (T.getD i (0, [])).2)].toList = entC (geE (T.take (i + 1)) kx) := by rw [hsn, entC_snoc]
        rw [e0, e1]
        (refine n_back ((i + 1, p', cap')) ?_ ?_ ?_ ?_; rotate_left; rotate_left; (repeat (first | refine ts_nil | (refine ts_cons rfl ?_ ?_; first | (with_reducible rfl) | rotate_left))); (first | (intro _ i; with_reducible refine i) | rotate_left); (try omega); (try omega))
        · exact ⟨hil, by dsimp only; omega⟩
        · dsimp only; omega
        · rw [wrapI64 (by omega)] <;> rfl
      · have hge : ¬ kx ≤ (T.getD i (0, [])).1 := by omega
        rw [if_neg hge, List.append_nil] at hsn
        (refine n_back ((i + 1, pw, cw)) ?_ ?_ ?_ ?_; rotate_left; rotate_left; (repeat (first | refine ts_nil | (refine ts_cons rfl ?_ ?_; first | (with_reducible rfl) | rotate_left))); (first | (intro _ i; with_reducible refine i) | rotate_left); (try omega); (try omega))
        · exact ⟨hil, by dsimp only; rw [hsn]; exact hw⟩
        · dsimp only; omega
        · rw [wrapI64 (by omega)] <;> rfl
        · dsimp only; rw [hsn]
        · dsimp only
          rw [hsn]
          (intro _ i; exact inv_keep parts_of i)
    · have hfin : geE (T.take i) kx = (geE T kx).take most.toNat := by
        have hsp : geE T kx = geE (T.take i) kx ++ geE (T.drop i) kx := by rw [← geE_append, List.take_append_drop]
        by_cases hi2 : i < T.length
        · have hl : (geE (T.take i) kx).length = most.toNat := by
            have : ¬ ((geE (T.take i) kx).length : Int) < most := fun q => hil ⟨hi2, q⟩
            omega
          rw [hsp, ← hl, List.take_left]
        · rw [hsp, List.drop_eq_nil_of_le (by omega)]
          simp only [geE, List.filter_nil, List.append_nil]
          exact (List.take_of_length_le hw).symm
      have hent := entries_same ((geE T kx).take most.toNat) pp pw cp cw (by rw [← hfin]; omega)
      rw [hfin] at hil hwl ⊢
      (repeat' (first | refine g_seq (h := ?_) | refine g_region (h := ?_) | refine l_nil (h := ?_) | refine n_then (h := ?_) | refine l_pures1 (h := ?_) | (refine l_atc ?_; refine l_call (hent) ?_) | refine l_guard_yes (h := ?_) | refine l_guard_no (h := ?_) | refine g_ret (h := ?_) | refine g_exit (h := ?_) | refine n_then_exit (h := ?_) | refine n_block_hit (h := ?_) | refine g_cond_f (h := ?_) | (refine l_sp (h1 := ?_) (h0 := ?_) <;> intro h) | (refine g_spF (h := ?_); intro h)))
      all_goals
        refine r_retk [ins p ks.length (ks.map encZ') o] ?_
      all_goals exact ⟨rfl, rfl⟩
  · exact ⟨Nat.zero_le _, by simp [geE]⟩
  · rfl
  · rfl
  · intro _ i
    exact inv_keep parts_of i

set_option maxHeartbeats 4000000 in
theorem TreeRanges_does (p : Option Addr) (ks : List Int) (cap : Nat) (o : Obj) (from' most : Int) (hk : ∀ z ∈ ks, (Lit.int .i64 z).wf = true) (hl : ks.length ≤ 9223372036854775807) (h1 : -9223372036854775808 ≤ from' ∧ from' < 9223372036854775808) (h2 : -9223372036854775808 ≤ most ∧ most < 9223372036854775808) :
    Does Tryz.prog 5 [.slice p ks.length cap, .int .i64 from', .int .i64 most] [ins p ks.length (ks.map encZ') o] (fun v H => v = .bool true ∧ H = [ins p ks.length (ks.map encZ') o]) := by
  obtain ⟨E1, f1, k0⟩ := tr_new (N := 400) (by omega)
  have hb := begins_does (i := 400) (n := 400) rfl (by omega) f1
  refine does_of Tryz.func5 Tryz.ntmps5 rfl rfl rfl (fun w0 F0 => ?_)
  (repeat' (first | refine g_seq (h := ?_) | refine g_region (h := ?_) | refine l_nil (h := ?_) | refine n_then (h := ?_) | refine l_pures1 (h := ?_) | (refine l_atc ?_; refine l_call (examples_does) ?_) | (refine l_atc ?_; refine l_call_ (hb) ?_; rintro _ _ _ ⟨b, db, xb, sb, rb, rfl, rfl⟩ he; cases he) | refine g_skip (h := ?_) | refine g_block (h := ?_) | refine g_cond_f (h := ?_)))
  (refine g_loop (fun y : Nat × Int × Sh × Dk × List Ent => [(10, .int .i64 y.1), (8, .pointer (some ⟨b, 0, none⟩)), (7, .bool true), (0, .slice p ks.length cap), (1, .int .i64 from'), (2, .int .i64 most)]) (fun y => [Wd b db xb sb rb y.2.1, Store sb db y.2.2.1, Disk db y.2.2.2.1, ins p ks.length (ks.map encZ') o]) (fun y => Tr 400 y.2.2.1 y.2.2.2.1 [] y.2.1 y.2.2.2.2 y.1 ∧ y.1 ≤ ks.length ∧ y.1 ≤ 50) (fun y => ks.length - y.1) ((0, 0, headNew.over, E1, [])) ?_ ?_ ?_ ?_; rotate_left; (repeat (first | refine ts_nil | (refine ts_cons rfl ?_ ?_; first | (with_reducible rfl) | rotate_left))); (first | (intro _ i; with_reducible refine i) | rotate_left); rotate_left; (try omega); rotate_right)
  · rintro ⟨j, root, S, D, T⟩ ⟨k, hj, hj20⟩
    dsimp only at k hj hj20 ⊢
    by_cases hjl : j < ks.length ∧ j < 50
    · refine g_open (o := ins_opens (p := p) (m := ks.length) (by omega)) (h := ?_); (rintro ⟨gb, off, row, fr, T0⟩ ⟨rfl, rfl, v5, v6, v7⟩; dsimp only [List.cons_append, List.nil_append])
      have hgt : row[off + j * 1]? = some (.int .i64 (ks.getD j 0)) := ins_get v5 hjl.1 (by rw [List.getElem?_map, List.getD, List.getElem?_eq_getElem hjl.1]; rfl)
      have hw := wf_i64 (hk _ (getD_mem hjl.1 (z := 0)))
      have hkey := key_does (ks.getD j 0) hw
      have hval := value_does (j : Int) (by omega)
      have hput := k.put sb db (keyN (ks.getD j 0)) (valN j) (keyN_lt _) (valN_len _) (by simp; omega)
      (repeat' (first | refine g_seq (h := ?_) | refine g_region (h := ?_) | refine l_nil (h := ?_) | refine n_then (h := ?_) | refine l_pures1 (h := ?_) | refine l_guard_yes (h := ?_) | refine g_skip (h := ?_) | refine g_block (h := ?_) | (refine l_spT (h := ?_); intro h) | (refine g_spT (h := ?_); intro h)))
      (refine g_draw [Wd b db xb sb rb root, pts gb (.cells row.toArray T0 fr)] (h := a_pass2 (h := ?_)))
      (repeat' (first | refine g_seq (h := ?_) | refine g_region (h := ?_) | refine l_nil (h := ?_) | refine n_then (h := ?_) | refine l_pures1 (h := ?_) | (refine l_atc ?_; refine l_call (hkey) ?_) | (refine l_atc ?_; refine l_call (hval) ?_) | (refine l_atc ?_; refine l_call_ (hput) ?_; rintro _ _ _ ⟨r', S', D', rfl, rfl, k', g', r2⟩ he; cases he) | refine l_store (h := ?_) | refine l_load_p (h := ?_) | refine l_indexAddr (h := ?_) | refine g_skip (h := ?_) | refine a_done (h := ?_) | refine a_load (h := a_pass2 (h := ?_)) | refine a_one (h := ?_) | refine n_any (h := a_pass2 (h := ?_)) | refine n_block (h := ?_) | refine g_cond_f (h := ?_)))
      refine n_shut (ins_shuts v5 v6 v7) (h := ?_)
      (refine n_back ((j + 1, r', S', D', putE T (keyN (ks.getD j 0)) (valN j))) ?_ ?_ ?_ ?_; rotate_left; rotate_left; (repeat (first | refine ts_nil | (refine ts_cons rfl ?_ ?_; first | (with_reducible rfl) | rotate_left))); (first | (intro _ i; with_reducible refine i) | rotate_left); (try omega); (try omega))
      · exact ⟨k', hjl.1, hjl.2⟩
      · dsimp only; omega
      · rw [wrapI64 (by omega)]; rfl
      · skip
        (intro _ i; exact inv_keep parts_of i)
    · (repeat' (first | ((with_reducible show G _ _ _ _ (Code.seq (Code.region 14 _ _) _) _ _ _ _); exact g_bang (ranges_tail b db xb sb rb j p ks cap o from' most root S D T k hj20 h1 h2 w0 F0)) | refine g_seq (h := ?_) | refine g_region (h := ?_) | refine l_nil (h := ?_) | refine n_then (h := ?_) | refine l_pures1 (h := ?_) | refine l_guard_yes (h := ?_) | refine l_guard_no (h := ?_) | refine g_exit (h := ?_) | refine n_then_exit (h := ?_) | refine n_block_hit (h := ?_) | refine g_cond_f (h := ?_) | (refine l_sp (h1 := ?_) (h0 := ?_) <;> intro h) | (refine g_spF (h := ?_); intro h)))
  · exact ⟨k0, Nat.zero_le _, Nat.zero_le _⟩
  · rfl
end Go.Proofs.YtpbibhhjbigdhaaGreat
/- The framework, part 11: laws that take slices: what a row asks of them. -/
set_option linter.unusedVariables false
set_option linter.unusedSimpArgs false
namespace Go.Proofs.YtpbibhhjbigdhaaGreat.SL
open Go.RowKit Go.WideElems

/-- Wherever A holds its blocks F are as in W. -/
def Keeps (A : SProp) (W : World) (F : Nat → Prop) : Prop := ∀ h' F', A.holds h' F' → ∀ b, F b → h'[b]? = W.heap[b]?
theorem row_ofA {P : Program} {f : FuncId} {args : List Value} {A : SProp} {W : World} {F : Nat → Prop} (d : Does P f args [A] (fun v H => v = .bool true ∧ H = [A])) (hx : Keeps A W F) (s : A.holds W.heap F) :
    Calls P f args.toArray W fun e W' => e = .returned (.bool true) ∧ Go.RowKit.Below W.heap.size W W' := by
  refine (d W F ⟨F, fun _ => False, s, fun _ h => h, fun _ _ h => h, fun b => ⟨.inl, fun o => o.elim id False.elim⟩⟩).mono ?_
  rintro e W' ⟨v, H', rfl, ⟨rfl, rfl⟩, i⟩
  obtain ⟨⟨G, ⟨F1, _, a, _⟩, _⟩, _⟩ := id i
  refine ⟨rfl, i.os, i.tape, i.output, i.size, fun k hk => ?_⟩
  by_cases q : F k
  · exact hx _ _ a k q
  · exact i.frame k hk q
theorem keeps_ins {p : Option Addr} {m : Nat} {xs : List Value} {o : Obj} {W : World} {F : Nat → Prop} (hm : 0 < m) (s : (ins p m xs o).holds W.heap F) : Keeps (ins p m xs o) W F := by
  rintro h' F' ⟨_, z'⟩ b hb
  obtain ⟨_, z⟩ := s
  rcases z with ⟨e, _⟩ | ⟨g, off, row, fr, T, q1, q2, _, h3, e, f⟩
  · omega
  · rcases z' with ⟨e', _⟩ | ⟨g', off', row', fr', T', q1', q2', _, _, e', f'⟩
    · omega
    · rw [q1] at q1'
      cases q1'
      rw [(f b).1 hb, e, e']

/-- Cells that are there are an input row. -/
theorem cells_ins {W : World} {a : Addr} {m : Nat} {xs : List Value} (hl : xs.length = m) (h : ∀ i, i < m → W.cell? (a.add i) = xs[i]?) : ∃ o F, (ins (some a) m xs o).holds W.heap F ∧ Keeps (ins (some a) m xs o) W F ∧ (m = 0 → ∀ x, ¬ F x) := by
  by_cases hm : m = 0
  · exact ⟨.map #[] 0, fun _ => False, ⟨hl, .inl ⟨hm, fun _ h => h⟩⟩, fun _ _ _ _ h => h.elim, fun _ _ h => h⟩
  · obtain ⟨b, off, spot⟩ := a
    have h0 := h 0 (by omega)
    have hspot : spot = none := by
      rw [List.getElem?_eq_getElem (by omega)] at h0
      simpa [Addr.add] using World.cell?_spot h0
    subst hspot
    have h1 : ∀ i, i < m → W.cell? ⟨b, off + i, none⟩ = xs[i]? := fun i hi => by rw [← Go.WideShapes.add_plain]; exact h i hi
    have h2 := h1 0 (by omega)
    rw [List.getElem?_eq_getElem (by omega)] at h2
    obtain ⟨c, T, fr, hb⟩ : ∃ c T fr, W.heap[b]? = some (.cells c T fr) := by
      unfold World.cell? at h2
      split at h2
      · rename_i hb; exact ⟨_, _, _, hb⟩
      · cases h2
    have h3 : ∀ i, i < m → c[off + i]? = xs[i]? := fun i hi => by rw [← h1 i hi, cell_at hb]
    have hlen : off + m ≤ c.toList.length := by
      have := h3 (m - 1) (by omega)
      rw [List.getElem?_eq_getElem (by omega)] at this
      have := (Array.getElem?_eq_some_iff.1 this).1
      simp; omega
    have hs : (ins (some ⟨b, off, none⟩) m xs (.cells c T fr)).holds W.heap (fun x => x = b) := by
     refine ⟨hl, .inr ⟨b, off, c.toList, fr, T, rfl, by simp, ?_, hlen, hb, fun _ => Iff.rfl⟩⟩
     apply List.ext_getElem?
     intro i
     by_cases hi : i < m
     · rw [List.getElem?_take_of_lt hi, List.getElem?_drop, Array.getElem?_toList, h3 i hi]
     · rw [List.getElem?_eq_none (by simp; omega), List.getElem?_eq_none (by omega)]
    exact ⟨_, _, hs, keeps_ins (by omega) hs, fun q => absurd q hm⟩
theorem nil_ins {W : World} : (ins none 0 [] (.map #[] 0)).holds W.heap (fun _ => False) ∧ Keeps (ins none 0 [] (.map #[] 0)) W (fun _ => False) := ⟨⟨rfl, .inl ⟨rfl, fun _ h => h⟩⟩, fun _ _ _ _ h => h.elim⟩

/-- Two input rows, in one block or in two: what holds them both, and each with what is left. -/
theorem ins_two {W : World} {p1 p2 : Option Addr} {m1 m2 : Nat} {xs ys : List Value} {o1 o2 : Obj} {F1 F2 : Nat → Prop} (s1 : (ins p1 m1 xs o1).holds W.heap F1) (k1 : Keeps (ins p1 m1 xs o1) W F1) (z1 : m1 = 0 → ∀ x, ¬ F1 x) (s2 : (ins p2 m2 ys o2).holds W.heap F2) (k2 : Keeps (ins p2 m2 ys o2) W F2) (z2 : m2 = 0 → ∀ x, ¬ F2 x) :
    ∃ (A R1 R2 : SProp) (F : Nat → Prop), A.holds W.heap F ∧ Keeps A W F ∧ Opens A (fun _ : Unit => True) (fun _ => [ins p1 m1 xs o1, R1]) ∧ Shuts [ins p1 m1 xs o1, R1] A ∧ Opens A (fun _ : Unit => True) (fun _ => [ins p2 m2 ys o2, R2]) ∧ Shuts [ins p2 m2 ys o2, R2] A := by
  by_cases hd : ∃ x, F1 x ∧ F2 x
  · obtain ⟨x, h1, h2⟩ := hd
    have key : ∀ {p p' : Option Addr} {m m' : Nat} {xs ys : List Value} {o o' : Obj} {G G' : Nat → Prop}, (ins p m xs o).holds W.heap G → (ins p' m' ys o').holds W.heap G' → G x → G' x → 0 < m → ∀ h F, (ins p m xs o).holds h F → (ins p' m' ys o').holds h F := by
      intro p p' m m' xs ys o o' G G' ⟨_, z⟩ ⟨l', z'⟩ hx hx' hm h F ⟨_, y⟩
      rcases z with ⟨_, f⟩ | ⟨g, off, row, fr, T, q1, q2, q3, q4, e, f⟩
      · exact absurd hx (f x)
      · rcases z' with ⟨_, f'⟩ | ⟨g', off', row', fr', T', q1', q2', q3', q4', e', f'⟩
        · exact absurd hx' (f' x)
        · obtain rfl := (f x).1 hx
          obtain rfl := (f' x).1 hx'
          rw [e] at e'
          cases e'
          rcases y with ⟨e0, _⟩ | ⟨g2, off2, row2, fr2, T2, y1, y2, y3, y4, y5, y6⟩
          · omega
          · rw [q1] at y1
            cases y1
            exact ⟨l', .inr ⟨_, off', row', fr', T', q1', q2', q3', q4', y5, y6⟩⟩
    have emp : ∀ {K : SProp} {h : Array Obj} {F : Nat → Prop}, K.holds h F ↔ sep [K, fact True] h F := by
      intro K h F
      refine ⟨fun a => ⟨F, fun _ => False, a, ⟨fun _ => False, fun _ => False, ⟨trivial, fun _ h => h⟩, fun _ h => h, fun _ _ h => h, fun b => ⟨.inl, fun o => o.elim id id⟩⟩, fun _ _ h => h, fun b => ⟨.inl, fun o => o.elim id False.elim⟩⟩, ?_⟩
      rintro ⟨G1, G2, a, ⟨G3, G4, ⟨_, e⟩, f, _, u2⟩, d, u⟩
      have : F = G1 := by
        funext b
        apply propext
        rw [u b, u2 b]
        exact ⟨fun o => o.elim id (fun o => o.elim (fun q => (e b q).elim) (fun q => (f b q).elim)), .inl⟩
      rw [this]; exact a
    have hm1 : 0 < m1 := Nat.pos_of_ne_zero fun q => z1 q x h1
    have hm2 : 0 < m2 := Nat.pos_of_ne_zero fun q => z2 q x h2
    exact ⟨ins p1 m1 xs o1, fact True, fact True, F1, s1, k1, fun h F a => ⟨(), trivial, emp.1 a⟩, fun h F a => emp.2 a,
      fun h F a => ⟨(), trivial, emp.1 (key s1 s2 h1 h2 hm1 h F a)⟩, fun h F a => key s2 s1 h2 h1 hm2 h F (emp.2 a)⟩
  · refine ⟨⟨fun h F => sep [ins p1 m1 xs o1, ins p2 m2 ys o2] h F, sep_loc, sep_bnd⟩, ins p2 m2 ys o2, ins p1 m1 xs o1, fun x => F1 x ∨ F2 x, ?_, ?_, fun h F a => ⟨(), trivial, a⟩, fun h F a => a, fun h F a => ⟨(), trivial, ?_⟩, fun h F a => ?_⟩
    · exact ⟨F1, F2, s1, ⟨F2, fun _ => False, s2, fun _ h => h, fun _ _ h => h, fun b => ⟨.inl, fun o => o.elim id False.elim⟩⟩, fun x a b => hd ⟨x, a, b⟩, fun _ => Iff.rfl⟩
    · rintro h' F' ⟨G1, G2, a, ⟨G3, G4, b, _⟩, _⟩ x hx
      exact hx.elim (k1 _ _ a x) (k2 _ _ b x)
    · exact (Parts.cons (Take.there Take.here) (Parts.cons Take.here Parts.nil)).sep a
    · exact (Parts.cons (Take.there Take.here) (Parts.cons Take.here Parts.nil)).sep a
end Go.Proofs.YtpbibhhjbigdhaaGreat.SL
/- Rows over slices of strings and of whole numbers. -/
set_option linter.unusedVariables false
set_option linter.unusedSimpArgs false
namespace Go.Proofs.YtpbibhhjbigdhaaGreat
open Go.Proofs.YtpbibhhjbigdhaaGreat.SL Go.ChangeShapes

section
variable {H : Type} {enc : TypeId × Value → H} {P : Program} {W : World}
theorem open_Ss {t e : TypeId} (ht : P.underlying t = some (.slice e)) (he : P.underlying e = some .string) (hc : P.cellsOf e = 1) {v : Value} (hv : ∃ a0 len cap, v = .slice a0 len cap) {d : DataW H} {ps : List MemPlace} (h : DataW.Trod enc P W 0 (fun _ => true) true t v d ps) :
    ∃ (a0 : Option Addr) (cap : Nat) (Tx : List (List UInt8)) (o : Obj) (F : Nat → Prop), v = .slice a0 Tx.length cap ∧ (ins a0 Tx.length (Tx.map encS) o).holds W.heap F ∧ Keeps (ins a0 Tx.length (Tx.map encS) o) W F ∧ (Tx.length = 0 → ∀ x, ¬ F x) ∧ (∀ l ∈ Tx, l.length ≤ 9223372036854775807) ∧ Tx.length ≤ 9223372036854775807 := by
  obtain ⟨a0, len, cap, rfl⟩ := hv
  obtain ⟨fuel, hf⟩ := h
  rcases open_strings ht he hc hf with ⟨hcs, _⟩ | ⟨a, len', cap', ss, hcs, _, hle, hmax, hlen, _, hcell, hw⟩
  · simp [Value.cells] at hcs
    obtain ⟨rfl, rfl, rfl⟩ := hcs
    exact ⟨none, 0, [], .map #[] 0, _, rfl, nil_ins.1, nil_ins.2, fun _ _ h => h, by simp, by simp⟩
  · simp [Value.cells] at hcs
    obtain ⟨rfl, rfl, rfl⟩ := hcs
    simp only [if_true] at hlen
    obtain ⟨Tx, hTx⟩ : ∃ Tx, Tx = (ss.take len).map fun s => s.data.toList := ⟨_, rfl⟩
    have hl : Tx.length = len := by rw [hTx, List.length_map, List.length_take]; omega
    have hx : Tx.map encS = (ss.take len).map fun s => Value.string s := by
      rw [hTx, List.map_map]
      apply List.map_congr_left
      rintro ⟨⟨s⟩⟩ _
      rfl
    have hm' : (Tx.map encS).length = Tx.length := by simp
    obtain ⟨o, F, s1, s2, s3⟩ := cells_ins (W := W) (a := a) hm' (fun i hi => by
      rw [hcell i (by omega), hx, List.getElem?_map, List.getElem?_take_of_lt (by omega), List.getD]
      rw [List.getElem?_eq_getElem (by omega)]; rfl)
    simp only [maxLen] at hmax
    refine ⟨some a, cap, Tx, o, F, by rw [hl], s1, s2, s3, ?_, by omega⟩
    intro l hl'
    rw [hTx] at hl'
    obtain ⟨s, hs, rfl⟩ := List.mem_map.1 hl'
    have := hw s (List.mem_of_mem_take hs)
    simp only [maxLen] at this
    rw [Array.length_toList]; exact this
theorem open_Zs {t e : TypeId} (ht : P.underlying t = some (.slice e)) (he : P.underlying e = some (.int .i64)) (hc : P.cellsOf e = 1) {v : Value} (hv : ∃ a0 len cap, v = .slice a0 len cap) {d : DataW H} {ps : List MemPlace} (h : DataW.Trod enc P W 0 (fun _ => true) true t v d ps) :
    ∃ (a0 : Option Addr) (cap : Nat) (zs : List Int) (o : Obj) (F : Nat → Prop), v = .slice a0 zs.length cap ∧ (ins a0 zs.length (zs.map encZ') o).holds W.heap F ∧ Keeps (ins a0 zs.length (zs.map encZ') o) W F ∧ (zs.length = 0 → ∀ x, ¬ F x) ∧ (∀ z ∈ zs, (Lit.int .i64 z).wf = true) ∧ zs.length ≤ 9223372036854775807 := by
  obtain ⟨a0, len, cap, rfl⟩ := hv
  obtain ⟨fuel, hf⟩ := h
  rcases open_ints ht he hc hf with ⟨hcs, _⟩ | ⟨a, len', cap', ss, hcs, _, hle, hmax, hlen, _, hcell, hw⟩
  · simp [Value.cells] at hcs
    obtain ⟨rfl, rfl, rfl⟩ := hcs
    exact ⟨none, 0, [], .map #[] 0, _, rfl, nil_ins.1, nil_ins.2, fun _ _ h => h, by simp, by simp⟩
  · simp [Value.cells] at hcs
    obtain ⟨rfl, rfl, rfl⟩ := hcs
    simp only [if_true] at hlen
    have hl : (ss.take len).length = len := by rw [List.length_take]; omega
    have hm' : ((ss.take len).map encZ').length = (ss.take len).length := by simp
    obtain ⟨o, F, s1, s2, s3⟩ := cells_ins (W := W) (a := a) hm' (fun i hi => by
      rw [hcell i (by omega), List.getElem?_map, List.getElem?_take_of_lt (by omega), List.getD, List.getElem?_eq_getElem (by omega)]; rfl)
    simp only [maxLen] at hmax
    exact ⟨some a, cap, ss.take len, o, F, by rw [hl], s1, s2, s3, fun z hz => hw z (List.mem_of_mem_take hz), by omega⟩
end
end Go.Proofs.YtpbibhhjbigdhaaGreat
