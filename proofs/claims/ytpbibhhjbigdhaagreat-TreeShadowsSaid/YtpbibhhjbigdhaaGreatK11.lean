/- Texts TrGe, TlH, TlI, TlK, RowL, RowS, joined. -/
import Derived.SliceStrings
import Derived.ChangeSlices
import Derived.Carry
import Derived.Test.YtpbibhhjbigdhaaGreatK10
/- Package tree: Pages, whole. -/
set_option maxRecDepth 20000
set_option linter.unusedVariables false
set_option linter.unusedSimpArgs false
namespace Go.Proofs.YtpbibhhjbigdhaaGreat
open Go.Proofs.YtpbibhhjbigdhaaGreat.SL

structure PgSt where
  L : List (Int × Nat)
  ab : Option (Int × Nat)
  b9 : Nat
  lo : List Int
  p8 : Option Addr
  c8 : Nat
  ms : List Nat
def pgL (ab : Option (Int × Nat)) : List (Int × Nat) := match ab with
  | some s => [s]
  | none => []
def pgA (ab : Option (Int × Nat)) : List Value := match ab with
  | some s => [.int .i64 s.1, .int .i64 (s.2 : Nat)]
  | none => [.int .i64 0, .int .i64 0]
def PgI (N : Nat) (D : Dk) (tot : Nat) (y : PgSt) : Prop := ∃ m, Cnt N D (y.L ++ pgL y.ab) m ∧ (y.ab = none → y.L = []) ∧ y.lo.length + m = tot
abbrev pgT (bw b7 : Nat) (y : PgSt) : List (Nat × Value) := [(10, .bool y.ab.isSome), (9, .pointer (some ⟨y.b9, 0, none⟩)), (8, .slice y.p8 y.lo.length y.c8), (7, .pointer (some ⟨b7, 0, none⟩)), (6, .pointer (some ⟨bw, 0, none⟩))]
abbrev pgH (bw b7 b' sb db : Nat) (S : Sh) (D : Dk) (y : PgSt) : List SProp := [cl y.b9 114 (pgA y.ab), cl b7 108 [.pointer (some ⟨b', 0, none⟩)], Stp b' y.L, vec 3 1 y.p8 y.lo.length y.c8 (y.lo.map encZ'), Wk bw sb (y.lo.length : Nat) 0, Store sb db S, Disk db D, Marks y.ms]

abbrev PgQ (tot sb db : Nat) (S : Sh) (D : Dk) (v : Value) (H : List SProp) : Prop := ∃ (p : Option Addr) (cap : Nat) (l : List Int), l.length = tot ∧ v = .tuple #[.slice p l.length cap, .int .i64 0] ∧ H = [vec 3 1 p l.length cap (l.map encZ'), Store sb db S, Disk db D]

set_option maxHeartbeats 8000000 in
theorem pages_loop (bw b7 b' sb db N tot : Nat) (S : Sh) (D : Dk) (U : List Int) (k : Fine N S D U) (ht : tot ≤ 639) (y0 : PgSt) (h0 : PgI N D tot y0) (w0 : World) (F0 : Nat → Prop) :
    G Tryz.prog 70 w0 F0 (nav [1, 1, 1, 1, 1, 1, 0, 1] (bdy Tryz.f19)) (Exit.then ((nav [1, 1, 1, 1, 1, 1, 1] (bdy Tryz.f19)).wp Tryz.prog (PostM Tryz.prog Tryz.f19 w0 F0 (PgQ tot sb db S D))) (PostM Tryz.prog Tryz.f19 w0 F0 (PgQ tot sb db S D)))
      (pgT bw b7 y0) (y0.ms.map SL.mark) (pgH bw b7 b' sb db S D y0) := by
  have hN := k.n
  obtain ⟨c, hc⟩ : ∃ c, c = nav [1, 1, 1, 1, 1, 1, 0, 1] (bdy Tryz.f19) := ⟨_, rfl⟩
  rw [← hc]
  dsimp only [nav, bdy, Tryz.f19, Option.getD] at hc
  subst hc
  refine g_block ?_
  refine g_loop_d (pgT bw b7) (fun y => y.ms.map SL.mark) (pgH bw b7 b' sb db S D) (PgI N D tot) (fun y => tot - y.lo.length) y0 h0 (by repeat (first | refine ts_nil | (refine ts_cons rfl ?_ ?_; (with_reducible rfl)))) rfl (fun i => i) ?_
  rintro ⟨L, ab, b9, lo, p8, c8, ms⟩ ⟨m, hc, hab, hm⟩
  dsimp only at hc hab hm
  cases ab with
  | none =>
    obtain rfl := hab rfl
    have hm0 : m = 0 := hc
    dsimp only [pgT, pgH, pgA, Option.isSome]
    (repeat (first | refine g_seq (h := ?_) | refine g_region (h := ?_) | refine l_nil (h := ?_) | refine n_then (h := ?_) | refine l_pures1 (h := ?_) | refine g_ret (h := ?_) | refine g_exit (h := ?_) | refine n_then_exit (h := ?_) | refine n_block_hit (h := ?_) | refine g_cond_f (h := ?_)))
    refine r_retMs [vec 3 1 p8 lo.length c8 (lo.map encZ'), Store sb db S, Disk db D] ?_
    exact ⟨p8, c8, lo, by omega, rfl, rfl⟩
  | some s =>
    obtain ⟨pg, dp⟩ := s
    obtain ⟨k0, c, hcL, ⟨h, es, ps, ⟨d, ps', a1, a2, a3, a4, a5⟩, rfl, hdp⟩, rfl⟩ := Cnt.last (l := L) (s := (pg, dp)) hc
    dsimp only at a1 a5 hdp
    subst a5
    simp only [List.length_cons] at hm
    have hLl := hcL.len
    have hcn := cnt_node hcL a4 hdp
    have hn := wNode_does bw sb db dp pg (lo.length : Nat) S D d a2 (by rw [k.read a1.1, a1.2]) (by omega) (by omega)
    have hfi := a2.fits.i
    dsimp only [pgT, pgH, pgA, Option.isSome]
    (repeat (first | refine g_seq (h := ?_) | refine g_region (h := ?_) | refine l_nil (h := ?_) | refine n_then (h := ?_) | refine l_pures1 (h := ?_) | (refine l_atc ?_; refine l_call_ (hn) ?_; rintro _ _ _ ⟨r, rfl, rfl⟩ he; cases he) | refine l_load (h := ?_) | refine l_store (h := ?_) | (refine l_alloc (h := ?_); intro _) | (refine l_buildSlice1 (h := ?_); intro _) | (refine l_append_new (h := ?_); intro _ _) | refine g_skip (h := ?_) | refine g_block (h := ?_) | refine g_cond_t (h := ?_) | refine g_cond_f (h := ?_)))
    rename_i b11 b12 p8' c8'
    have e0 : lo.length + 1 = (lo ++ [pg]).length := by simp
    have e1 : lo.map encZ' ++ [Value.int .i64 pg] = (lo ++ [pg]).map encZ' := by simp [encZ']
    have e2 : (lo.length : Int) + 1 = ((lo ++ [pg]).length : Nat) := by simp
    obtain ⟨p1, c1, p2, c2, p3, c3⟩ := r
    refine l_open (A := Nds d ⟨p1, c1, p2, c2, p3, c3⟩) (h := ?_); (rintro _ _; dsimp only [NdsK, List.cons_append, List.nil_append])
    (repeat (first | refine l_nil (h := ?_) | refine n_then (h := ?_) | (refine l_atc ?_; refine l_call_ (backward_does p3 d.kids.length c3) ?_; rintro _ _ _ ⟨bB, rfl, rfl⟩ he; cases he) | refine g_block (h := ?_)))
    refine g_inv (H' := [cl b7 108 [.pointer (some ⟨b', 0, none⟩)], cl b9 114 [.int .i64 pg, .int .i64 (dp : Nat)], Stp b' L, cl bB 22 [.slice p3 d.kids.length c3], vec 3 1 p3 d.kids.length c3 (d.kids.map encZ'), vec 3 1 p8' (lo ++ [pg]).length c8' ((lo ++ [pg]).map encZ'), Wk bw sb ((lo ++ [pg]).length : Nat) 0, Store sb db S, Disk db D, Marks ms]) (fun i => by rw [← e1, ← e2, ← e0]; exact inv_keep parts_of i) ?_
    refine g_rangeFunc (qn := fun K' => K' = [cl b7 108 [.pointer (some ⟨b', 0, none⟩)], cl b9 114 [.int .i64 pg, .int .i64 (dp : Nat)], Stp b' (kidS L d.kids (dp + 1) 0)]) (qx := fun _ _ => False) (K := [cl b7 108 [.pointer (some ⟨b', 0, none⟩)], cl b9 114 [.int .i64 pg, .int .i64 (dp : Nat)], Stp b' L, cl bB 22 [.slice p3 d.kids.length c3], vec 3 1 p3 d.kids.length c3 (d.kids.map encZ')]) ?_ ?_ ?_
    · intro l
      exact pages_hs b7 b9 b' bB c3 dp l p3 pg L d.kids _ _ _ (by omega) (by omega) rfl rfl (by rfl) (by rfl)
    · rintro D0 K' rfl
      dsimp only [List.cons_append, List.nil_append]
      refine n_inv (fun i => marks_cons (ms := ms) (D0 := D0) ((i.take (A := pts D0 (.deferred (some []))) (by with_reducible (repeat (first | refine Take.here | apply Take.there)))).take (A := Marks ms) (Take.there (by with_reducible (repeat (first | refine Take.here | apply Take.there)))))) ?_
      have hk0 : kidS L d.kids (dp + 1) 0 = L ++ (d.kids.map fun k => (k, dp + 1)).reverse := rfl
      rw [← hk0] at hcn
      have hkl := kidS_len (L := L) (ks := d.kids) (dp := dp + 1) (i := 0)
      obtain ⟨L2, hL2⟩ : ∃ L2, L2 = kidS L d.kids (dp + 1) 0 := ⟨_, rfl⟩
      rw [← hL2] at hcn hkl ⊢
      rcases List.eq_nil_or_concat L2 with rfl | ⟨L', s2, rfl⟩
      · have hp := popPN_does b'
        (repeat (first | refine g_seq (h := ?_) | refine g_region (h := ?_) | refine l_nil (h := ?_) | refine n_then (h := ?_) | refine l_pures1 (h := ?_) | (refine l_atc ?_; refine l_call (hp) ?_) | refine l_load (h := ?_) | refine l_store (h := ?_) | (refine l_alloc (h := ?_); intro _) | refine n_block (h := ?_)))
        rename_i b10
        refine n_back_d (⟨[], none, b10, lo ++ [pg], p8', c8', D0 :: ms⟩ : PgSt) ⟨k0 + ps'.length, hcn, fun _ => rfl, (by show (lo ++ [pg]).length + _ = tot; rw [List.length_append, List.length_singleton]; omega)⟩ (by show tot - (lo ++ [pg]).length < tot - lo.length; rw [List.length_append, List.length_singleton]; omega) ?_ rfl ?_
        · repeat (first | refine ts_nil | (refine ts_cons rfl ?_ ?_; first | (with_reducible rfl) | rotate_left))
          dsimp only
          rw [e0]
        · dsimp only
          (intro _ i; exact inv_keep parts_of i)
      · rw [List.concat_eq_append] at *
        obtain ⟨pg2, dp2⟩ := s2
        have hp := popP_does b' L' (pg2, dp2) (by simp at hkl; omega)
        (repeat (first | refine g_seq (h := ?_) | refine g_region (h := ?_) | refine l_nil (h := ?_) | refine n_then (h := ?_) | refine l_pures1 (h := ?_) | (refine l_atc ?_; refine l_call (hp) ?_) | refine l_load (h := ?_) | refine l_store (h := ?_) | (refine l_alloc (h := ?_); intro _) | refine n_block (h := ?_)))
        rename_i b10
        refine n_back_d (⟨L', some (pg2, dp2), b10, lo ++ [pg], p8', c8', D0 :: ms⟩ : PgSt) ⟨k0 + ps'.length, hcn, fun e => (by cases e), (by show (lo ++ [pg]).length + _ = tot; rw [List.length_append, List.length_singleton]; omega)⟩ (by show tot - (lo ++ [pg]).length < tot - lo.length; rw [List.length_append, List.length_singleton]; omega) ?_ rfl ?_
        · repeat (first | refine ts_nil | (refine ts_cons rfl ?_ ?_; first | (with_reducible rfl) | rotate_left))
          dsimp only
          rw [e0]
        · dsimp only
          (intro _ i; exact inv_keep parts_of i)
    · intro _ _ _ hf
      exact hf.elim

theorem pages_tree (sb db N : Nat) (root : Int) (U : List Int) (T : List Ent) (S : Sh) (D : Dk) (k : Fine N S D U) (ht : IsTree N S D U root T) :
    Does Tryz.prog 19 [.pointer (some ⟨sb, 0, none⟩), .int .i64 root] [Store sb db S, Disk db D] (PgQ (S.after U).length sb db S D) := by
  have hN := k.n
  rcases ht with ⟨rfl, _, h0⟩ | ⟨h, ps, o, hp⟩
  · rw [h0]
    refine does_of_m Tryz.func19 Tryz.ntmps19 rfl rfl rfl (fun w0 F0 => ?_)
    (repeat' (first | refine g_seq (h := ?_) | refine g_region (h := ?_) | refine l_nil (h := ?_) | refine n_then (h := ?_) | refine l_pures1 (h := ?_) | refine g_ret (h := ?_) | refine n_then_ret (h := ?_) | refine g_cond_t (h := ?_)))
    refine n_inv (fun i => vec_nil (3) (1) i) ?_
    refine r_retm [vec 3 1 none 0 0 [], Store sb db S, Disk db D] ?_
    exact ⟨none, 0, [], rfl, rfl, rfl⟩
  · have hlen := hp.length_eq
    have hh := o.high
    have o2 := o
    obtain ⟨d, ps1, g, hd, hne, hn, e⟩ := o
    dsimp only at e hn hh
    have hal := nodup_sub (A := S.after U) (B := (List.range' 2 (N - 2)).map (fun n : Nat => (n : Int))) k.afterNodup (by
      intro a ha
      have ha2 : 2 ≤ a ∧ a < N := by
        rcases (Sh.mem_after.1 ha).1 with h | h
        · have := k.h.b a h; omega
        · have := k.f.2 a h; omega
      exact List.mem_map.2 ⟨a.toNat, List.mem_range'_1.2 (by omega), by omega⟩)
    simp only [List.length_map, List.length_range'] at hal
    have h8 := high_le hh (by omega)
    have hroot : root ≠ 0 := by have := g.1; omega
    have hpush := fun b' => pushP_does b' [] (root, 1) (by simp)
    have hpop := fun b' => popP_does b' [] (root, 1) (by simp)
    rw [← hlen]
    refine does_of_m Tryz.func19 Tryz.ntmps19 rfl rfl rfl (fun w0 F0 => ?_)
    (repeat' (first | refine g_seq (h := ?_) | refine g_region (h := ?_) | refine l_nil (h := ?_) | refine n_then (h := ?_) | refine l_pures1 (h := ?_) | refine l_load (h := ?_) | refine l_store (h := ?_) | (refine l_box (h := ?_); intro _) | (refine l_alloc (h := ?_); intro _) | refine g_skip (h := ?_) | (refine g_spF (h := ?_); intro h)))
    rename_i bw b' b7
    refine l_inv (fun i => vec_nil (114) (2) i) ?_
    refine l_inv (H' := [vec 114 2 none 0 0 [], cl b7 108 [.pointer (some ⟨b', 0, none⟩)], cl b' 111 [.slice none 0 0], Wk bw sb 0 0, Store sb db S, Disk db D]) (fun i => i) ?_
    (refine l_shut (A := Stp b' []) (K := StpK b' [] (((none : Option Addr), 0))) (hid_shuts (((none : Option Addr), 0)) trivial) (h := ?_) (p := by dsimp only [StpK]; (try simp only [List.map_nil, List.length_nil, List.length_set, List.length_append, List.length_cons, List.length_singleton, List.map_append, List.map_cons, Nat.zero_add, (show pgC [] = [] from rfl)]); exact parts_of))
    have hpush : Does Tryz.prog 45 [.pointer (some ⟨b', 0, none⟩), .agg #[.int .i64 root, .int .i64 1]] [Stp b' []] (fun v H => v = .tuple #[] ∧ H = [Stp b' [(root, 1)]]) := pushP_does b' [] (root, 1) (by simp)
    have hpop : Does Tryz.prog 46 [.pointer (some ⟨b', 0, none⟩)] [Stp b' [(root, 1)]] (fun v H => v = .tuple #[.agg #[.int .i64 root, .int .i64 1], .bool true] ∧ H = [Stp b' []]) := popP_does b' [] (root, 1) (by simp)
    have hlp : ∀ b9, G Tryz.prog 70 w0 F0 (nav [1, 1, 1, 1, 1, 1, 0, 1] (bdy Tryz.f19)) (Exit.then ((nav [1, 1, 1, 1, 1, 1, 1] (bdy Tryz.f19)).wp Tryz.prog (PostM Tryz.prog Tryz.f19 w0 F0 (PgQ ps.length sb db S D))) (PostM Tryz.prog Tryz.f19 w0 F0 (PgQ ps.length sb db S D)))
        [(10, .bool true), (9, .pointer (some ⟨b9, 0, none⟩)), (8, .slice none 0 0), (7, .pointer (some ⟨b7, 0, none⟩)), (6, .pointer (some ⟨bw, 0, none⟩))] [] [cl b9 114 [.int .i64 root, .int .i64 1], cl b7 108 [.pointer (some ⟨b', 0, none⟩)], Stp b' [], vec 3 1 none 0 0 [], Wk bw sb 0 0, Store sb db S, Disk db D, Marks []] :=
      fun b9 => pages_loop bw b7 b' sb db N ps.length S D U k (by omega) ⟨[], some (root, 1), b9, [], none, 0, []⟩ ⟨ps.length, ⟨ps.length, 0, ⟨_, T, ps, o2, rfl, by dsimp only; omega⟩, rfl, rfl⟩, fun e => (by cases e), (by show 0 + ps.length = ps.length; omega)⟩ w0 F0
    refine l_inv (fun i => marks_nil i) ?_
    refine l_inv (fun i => vec_nil (3) (1) i) ?_
    (repeat' (first | ((with_reducible show G _ _ _ _ (Code.block 0 _) _ _ _ _); exact g_bang (hlp _)) | refine g_seq (h := ?_) | refine g_region (h := ?_) | refine l_nil (h := ?_) | refine n_then (h := ?_) | refine l_pures1 (h := ?_) | (refine l_atc ?_; refine l_call (hpush) ?_) | (refine l_atc ?_; refine l_call (hpop) ?_) | refine l_load (h := ?_) | refine l_store (h := ?_) | (refine l_alloc (h := ?_); intro _)))
end Go.Proofs.YtpbibhhjbigdhaaGreat
/- TreeMap: what is wanted. No code. -/
set_option maxRecDepth 20000
set_option linter.unusedVariables false
set_option linter.unusedSimpArgs false
namespace Go.Proofs.YtpbibhhjbigdhaaGreat
open Go.Proofs.YtpbibhhjbigdhaaGreat.SL

theorem kvPut_keys {α : Type} : ∀ {l : List (Int × α)} {i : Int} {x : α}, (kvPut l i x).map Prod.fst = if i ∈ l.map Prod.fst then l.map Prod.fst else l.map Prod.fst ++ [i]
  | [], i, x => by simp [kvPut]
  | (j, v) :: l, i, x => by
    have ih := kvPut_keys (l := l) (i := i) (x := x)
    by_cases q : j = i
    · subst q; simp [kvPut]
    · have q2 : ¬ i = j := fun e => q e.symm
      simp only [kvPut, q, if_false, List.map_cons, ih, List.mem_cons, q2, false_or]
      split <;> rfl
theorem kvDel_sub {α : Type} : ∀ {l : List (Int × α)} {i : Int}, (kvDel l i).Sublist l
  | [], i => .slnil
  | (j, v) :: l, i => by
    unfold kvDel
    split
    · exact List.sublist_cons_self _ _
    · exact kvDel_sub.cons_cons _
theorem kvGet_del {α : Type} : ∀ {l : List (Int × α)} {i j : Int}, (l.map Prod.fst).Nodup → kvGet (kvDel l i) j = if j = i then none else kvGet l j
  | [], i, j, _ => by simp [kvDel, kvGet]
  | (a, v) :: l, i, j, h => by
    obtain ⟨h1, h2⟩ := List.nodup_cons.1 h
    have ih := kvGet_del (l := l) (i := i) (j := j) h2
    by_cases q : a = i
    · subst q
      simp only [kvDel, if_true, kvGet]
      by_cases q2 : j = a
      · subst q2
        rw [if_pos rfl]; exact kvGet_none_iff.2 h1
      · rw [if_neg q2, if_neg (fun e => q2 e.symm)]
    · simp only [kvDel, q, if_false, kvGet, ih]
      by_cases q2 : a = j
      · subst q2; simp [q]
      · simp [q2]

/-- The map of what is wanted has just what the tree has. -/
structure Wants (kv : List (Int × List UInt8)) (T : List Ent) : Prop where
  nd : (kv.map Prod.fst).Nodup
  nn : ∀ i ∈ kv.map Prod.fst, 0 ≤ i
  eq : ∀ x : Nat, kvGet kv (x : Int) = getE T x
theorem Wants.nil : Wants [] [] := ⟨List.nodup_nil, by simp, fun _ => rfl⟩
theorem Wants.put {kv : List (Int × List UInt8)} {T : List Ent} (h : Wants kv T) (x : Nat) (v : List UInt8) : Wants (kvPut kv (x : Int) v) (putE T x v) := by
  refine ⟨?_, ?_, fun y => ?_⟩
  · rw [kvPut_keys]
    split
    · exact h.nd
    · rename_i q
      exact List.nodup_append.2 ⟨h.nd, by simp, by rintro a ha b hb rfl; simp at hb; subst hb; exact q ha⟩
  · intro i hi
    rw [kvPut_keys] at hi
    split at hi
    · exact h.nn i hi
    · rcases List.mem_append.1 hi with q | q
      · exact h.nn i q
      · simp at q; omega
  · rw [kvGet_put, getE_put]
    by_cases q : y = x
    · subst q; simp
    · rw [if_neg (by omega), if_neg q]; exact h.eq y
theorem Wants.del {kv : List (Int × List UInt8)} {T : List Ent} (h : Wants kv T) (x : Nat) : Wants (kvDel kv (x : Int)) (delE T x) := by
  have hs : ((kvDel kv (x : Int)).map Prod.fst).Sublist (kv.map Prod.fst) := kvDel_sub.map _
  refine ⟨hs.nodup h.nd, fun i hi => h.nn i (hs.mem hi), fun y => ?_⟩
  rw [kvGet_del h.nd, getE_del]
  by_cases q : y = x
  · subst q; simp
  · rw [if_neg (by omega), if_neg q]; exact h.eq y
theorem Wants.len {kv : List (Int × List UInt8)} {T : List Ent} (h : Wants kv T) (o : Ord T) : kv.length = T.length := by
  have hp : (kv.map Prod.fst).Perm (T.map fun e => (e.1 : Int)) := by
    refine (List.perm_ext_iff_of_nodup h.nd ?_).2 fun i => ?_
    · refine List.Pairwise.map _ (fun a b q => ?_) o
      have : a.1 < b.1 := q
      omega
    · constructor
      · intro hi
        have h0 := h.nn i hi
        have h1 := h.eq i.toNat
        rw [show ((i.toNat : Nat) : Int) = i by omega] at h1
        cases hg : getE T i.toNat with
        | none => rw [hg] at h1; exact absurd hi (kvGet_none_iff.1 h1)
        | some v => exact List.mem_map.2 ⟨(i.toNat, v), getE_mem hg, by dsimp only; omega⟩
      · intro hi
        obtain ⟨⟨x, v⟩, hm, rfl⟩ := List.mem_map.1 hi
        apply Decidable.byContradiction
        intro c
        have h1 := h.eq x
        rw [kvGet_none_iff.2 c, getE_of o hm] at h1
        cases h1
  simpa using hp.length_eq
end Go.Proofs.YtpbibhhjbigdhaaGreat
/- TreeMap. -/
set_option maxRecDepth 20000
set_option linter.unusedVariables false
set_option linter.unusedSimpArgs false
namespace Go.Proofs.YtpbibhhjbigdhaaGreat
open Go.Proofs.YtpbibhhjbigdhaaGreat.SL

theorem Tr.more {N : Nat} {S : Sh} {D : Dk} {U : List Int} {root : Int} {T : List Ent} {m : Nat} (k : Tr N S D U root T m) : Tr N S D U root T (m + 1) := ⟨k.fine, k.tree, by have := k.len; omega⟩
theorem half_range {x : Int} (h : -9223372036854775808 ≤ x ∧ x < 9223372036854775808) : -9223372036854775808 ≤ IntKind.i64.wrap (x.tdiv 2) ∧ IntKind.i64.wrap (x.tdiv 2) < 9223372036854775808 := by
  have h1 : (x.tdiv 2).natAbs ≤ x.natAbs := by rw [Int.natAbs_tdiv]; exact Nat.div_le_self _ _
  by_cases q : x = -9223372036854775808
  · subst q
    decide
  · rw [wrapI64 (by omega)]; omega

set_option maxHeartbeats 4000000 in
theorem map_main (p : Option Addr) (ks : List Int) (cap : Nat) (o : Obj) (look : Int) (hk : ∀ z ∈ ks, (Lit.int .i64 z).wf = true) (hl : ks.length ≤ 9223372036854775807) (h1 : -9223372036854775808 ≤ look ∧ look < 9223372036854775808)
    (htail : ∀ (b db xb sb rb mb j : Nat) (root : Int) (S : Sh) (D : Dk) (T : List Ent) (kv : List (Int × List UInt8)), Tr 400 S D [] root T j → j ≤ 120 → Wants kv T → ∀ (w0 : World) (F0 : Nat → Prop),
      G Tryz.prog 246 w0 F0 (nav [1, 1, 1, 1, 1, 1, 1] (bdy Tryz.f7)) (Post Tryz.prog Tryz.f7 w0 F0 (fun v H => v = .bool true ∧ H = [ins p ks.length (ks.map encZ') o]))
        [(8, .map (some mb)), (6, .pointer (some ⟨b, 0, none⟩)), (5, .bool true), (1, .int .i64 look)] [] [mpk .u64 mb encS kv, Wd b db xb sb rb root, Store sb db S, Disk db D, ins p ks.length (ks.map encZ') o]) :
    Does Tryz.prog 7 [.slice p ks.length cap, .int .i64 look] [ins p ks.length (ks.map encZ') o] (fun v H => v = .bool true ∧ H = [ins p ks.length (ks.map encZ') o]) := by
  obtain ⟨E1, f1, k0⟩ := tr_new (N := 400) (by omega)
  have hb := begins_does (i := 400) (n := 400) rfl (by omega) f1
  refine does_of Tryz.func7 Tryz.ntmps7 rfl rfl rfl (fun w0 F0 => ?_)
  (repeat' (first | refine g_seq (h := ?_) | refine g_region (h := ?_) | refine l_nil (h := ?_) | refine n_then (h := ?_) | refine l_pures1 (h := ?_) | (refine l_atc ?_; refine l_call (examples_does) ?_) | (refine l_atc ?_; refine l_call_ (hb) ?_; rintro _ _ _ ⟨b, db, xb, sb, rb, rfl, rfl⟩ he; cases he) | refine g_skip (h := ?_) | refine g_cond_f (h := ?_)))
  (refine l_makeMap_k (.u64) (encS) (h := ?_); intro _)
  (repeat (first | refine g_seq (h := ?_) | refine g_region (h := ?_) | refine l_nil (h := ?_) | refine n_then (h := ?_) | refine l_pures1 (h := ?_) | refine g_block (h := ?_)))
  rename_i mb
  (refine g_loop (fun y : Nat × Int × Sh × Dk × List Ent × List (Int × List UInt8) => [(9, .int .i64 y.1), (8, .map (some mb)), (6, .pointer (some ⟨b, 0, none⟩)), (5, .bool true), (0, .slice p ks.length cap), (1, .int .i64 look)]) (fun y => [mpk .u64 mb encS y.2.2.2.2.2, Wd b db xb sb rb y.2.1, Store sb db y.2.2.1, Disk db y.2.2.2.1, ins p ks.length (ks.map encZ') o]) (fun y => Tr 400 y.2.2.1 y.2.2.2.1 [] y.2.1 y.2.2.2.2.1 y.1 ∧ Wants y.2.2.2.2.2 y.2.2.2.2.1 ∧ y.1 ≤ ks.length ∧ y.1 ≤ 120) (fun y => ks.length - y.1) ((0, 0, headNew.over, E1, [], [])) ?_ ?_ ?_ ?_; rotate_left; (repeat (first | refine ts_nil | (refine ts_cons rfl ?_ ?_; first | (with_reducible rfl) | rotate_left))); (first | (intro _ i; with_reducible refine i) | rotate_left); rotate_left; (try omega); rotate_right)
  · rintro ⟨j, root, S, D, T, kv⟩ ⟨k, hm, hj, hj20⟩
    dsimp only at k hm hj hj20 ⊢
    by_cases hjl : j < ks.length ∧ j < 120
    · refine g_open (o := ins_opens (p := p) (m := ks.length) (by omega)) (h := ?_); (rintro ⟨gb, off, row, fr, T0⟩ ⟨rfl, rfl, v5, v6, v7⟩; dsimp only [List.cons_append, List.nil_append])
      have hgt : row[off + j * 1]? = some (.int .i64 (ks.getD j 0)) := ins_get v5 hjl.1 (by rw [List.getElem?_map, List.getD, List.getElem?_eq_getElem hjl.1]; rfl)
      have hw := wf_i64 (hk _ (getD_mem hjl.1 (z := 0)))
      have hkey := key_does (IntKind.i64.wrap ((ks.getD j 0).tdiv 2)) (half_range hw)
      have hval := value_does (ks.getD j 0) hw
      obtain ⟨x, hx⟩ : ∃ x, x = keyN (IntKind.i64.wrap ((ks.getD j 0).tdiv 2)) := ⟨_, rfl⟩
      have hxl : x < 18446744073709551616 := by rw [hx]; exact keyN_lt _
      rw [← hx] at hkey
      have hput := k.put sb db x (valN (ks.getD j 0)) hxl (valN_len _) (by simp; omega)
      have hmx := hm.eq x
      (repeat' (first | refine g_seq (h := ?_) | refine g_region (h := ?_) | refine l_nil (h := ?_) | refine n_then (h := ?_) | refine l_pures1 (h := ?_) | (refine l_atc ?_; refine l_call (hkey) ?_) | refine l_guard_yes (h := ?_) | refine l_load_p (h := ?_) | refine l_indexAddr (h := ?_) | refine g_skip (h := ?_) | refine g_block (h := ?_) | refine l_lookup_ok_k _ (h := ?_) | (refine l_spT (h := ?_); intro h) | (refine g_spT (h := ?_); intro h) | (refine g_sp (h1 := ?_) (h0 := ?_) <;> intro h)))
      · (refine g_draw [Wd b db xb sb rb root, pts gb (.cells row.toArray T0 fr)] (h := a_pass2 (h := ?_)))
        (repeat' (first | refine g_seq (h := ?_) | refine g_region (h := ?_) | refine l_nil (h := ?_) | refine n_then (h := ?_) | refine l_pures1 (h := ?_) | (refine l_atc ?_; refine l_call (hval) ?_) | (refine l_atc ?_; refine l_call_ (hput) ?_; rintro _ _ _ ⟨r', S', D', rfl, rfl, k', _, _⟩ he; cases he) | refine l_store (h := ?_) | refine l_load_p (h := ?_) | refine l_indexAddr (h := ?_) | refine g_skip (h := ?_) | refine g_exit (h := ?_) | refine n_then_exit (h := ?_) | refine n_block_hit (h := ?_) | refine a_done (h := ?_) | refine a_load (h := a_pass2 (h := ?_)) | refine a_one (h := ?_) | refine n_any (h := a_pass2 (h := ?_)) | refine g_cond_f (h := ?_) | refine l_mapUpdate_k (h := ?_)))
        refine n_shut (ins_shuts v5 v6 v7) (h := ?_)
        (refine n_back ((j + 1, r', S', D', putE T x (valN (ks.getD j 0)), kvPut kv (x : Int) (valN (ks.getD j 0)))) ?_ ?_ ?_ ?_; rotate_left; rotate_left; (repeat (first | refine ts_nil | (refine ts_cons rfl ?_ ?_; first | (with_reducible rfl) | rotate_left))); (first | (intro _ i; with_reducible refine i) | rotate_left); (try omega); (try omega))
        · exact ⟨k', hm.put _ _, hjl.1, hjl.2⟩
        all_goals first
          | (dsimp only; omega)
          | (rw [wrapI64 (by omega)]; rfl)
          | (intro _ i; exact inv_keep parts_of i)
          | rfl
      · rw [hmx]
        cases hgx : getE T x with
        | none =>
          have hdel := k.delNo sb db x hgx
          (refine g_draw [Wd b db xb sb rb root] (h := a_pass2 (h := ?_)))
          (repeat' (first | refine g_seq (h := ?_) | refine g_region (h := ?_) | refine l_nil (h := ?_) | refine n_then (h := ?_) | refine l_pures1 (h := ?_) | (refine l_at 14 ?_; refine l_call (hdel) ?_) | refine l_guard_yes (h := ?_) | refine l_store (h := ?_) | refine g_skip (h := ?_) | refine a_done (h := ?_) | refine a_load (h := a_pass2 (h := ?_)) | refine a_one (h := ?_) | refine n_any (h := a_pass2 (h := ?_)) | refine n_block (h := ?_) | refine g_cond_f (h := ?_) | refine l_delete0_k (h := ?_)))
          refine n_shut (ins_shuts v5 v6 v7) (h := ?_)
          have hw' : Wants (kvDel kv (x : Int)) T := by
            have := hm.del x
            have e : delE T x = T := List.filter_eq_self.2 (fun e he => by
              have hne : e.1 ≠ x := by
                intro q
                have := getE_of k.tree.ord (x := e.1) (v := e.2) he
                rw [q, hgx] at this
                cases this
              simpa using hne)
            rw [e] at this
            exact this
          (refine n_back ((j + 1, root, S, D, T, kvDel kv (x : Int))) ?_ ?_ ?_ ?_; rotate_left; rotate_left; (repeat (first | refine ts_nil | (refine ts_cons rfl ?_ ?_; first | (with_reducible rfl) | rotate_left))); (first | (intro _ i; with_reducible refine i) | rotate_left); (try omega); (try omega))
          · exact ⟨k.more, hw', hjl.1, hjl.2⟩
          all_goals first
            | (dsimp only; omega)
            | (rw [wrapI64 (by omega)]; rfl)
            | (intro _ i; exact inv_keep parts_of i)
            | rfl
        | some u =>
          have hdel := k.del sb db x (by rw [hgx]; rfl) (by simp; omega)
          (refine g_draw [Wd b db xb sb rb root] (h := a_pass2 (h := ?_)))
          (repeat' (first | refine g_seq (h := ?_) | refine g_region (h := ?_) | refine l_nil (h := ?_) | refine n_then (h := ?_) | refine l_pures1 (h := ?_) | (refine l_at 14 ?_; refine l_call_ (hdel) ?_; rintro _ _ _ ⟨r', S', D', rfl, rfl, k', _, _⟩ he; cases he) | refine l_guard_yes (h := ?_) | refine l_store (h := ?_) | refine g_skip (h := ?_) | refine a_done (h := ?_) | refine a_load (h := a_pass2 (h := ?_)) | refine a_one (h := ?_) | refine n_any (h := a_pass2 (h := ?_)) | refine n_block (h := ?_) | refine g_cond_f (h := ?_) | refine l_delete0_k (h := ?_)))
          refine n_shut (ins_shuts v5 v6 v7) (h := ?_)
          (refine n_back ((j + 1, r', S', D', delE T x, kvDel kv (x : Int))) ?_ ?_ ?_ ?_; rotate_left; rotate_left; (repeat (first | refine ts_nil | (refine ts_cons rfl ?_ ?_; first | (with_reducible rfl) | rotate_left))); (first | (intro _ i; with_reducible refine i) | rotate_left); (try omega); (try omega))
          · exact ⟨k'.more, hm.del _, hjl.1, hjl.2⟩
          all_goals first
            | (dsimp only; omega)
            | (rw [wrapI64 (by omega)]; rfl)
            | (intro _ i; exact inv_keep parts_of i)
            | rfl
    · (repeat' (first | ((with_reducible show G _ _ _ _ (Code.seq (Code.region 24 _ _) _) _ _ _ _); exact g_bang (htail b db xb sb rb mb j root S D T kv k hj20 hm w0 F0)) | refine g_seq (h := ?_) | refine g_region (h := ?_) | refine l_nil (h := ?_) | refine n_then (h := ?_) | refine l_pures1 (h := ?_) | refine l_guard_yes (h := ?_) | refine l_guard_no (h := ?_) | refine g_exit (h := ?_) | refine n_then_exit (h := ?_) | refine n_block_hit (h := ?_) | refine g_cond_f (h := ?_) | (refine l_sp (h1 := ?_) (h0 := ?_) <;> intro h) | (refine g_spF (h := ?_); intro h)))
  all_goals first
    | exact ⟨k0, Wants.nil, Nat.zero_le _, Nat.zero_le _⟩
    | rfl
    | (intro _ i; exact inv_keep parts_of i)
end Go.Proofs.YtpbibhhjbigdhaaGreat
/- TreeShadows. -/
set_option maxRecDepth 20000
set_option linter.unusedVariables false
set_option linter.unusedSimpArgs false
namespace Go.Proofs.YtpbibhhjbigdhaaGreat
open Go.Proofs.YtpbibhhjbigdhaaGreat.SL

theorem open2 {w0 w : World} {F0 : Nat → Prop} {A B C : SProp} {H : List SProp} (o : Opens A (fun _ : Unit => True) (fun _ => [B, C])) (i : Inv w0 F0 (A :: H) w) : Inv w0 F0 (B :: C :: H) w := by
  obtain ⟨_, _, i⟩ := Inv.opens o i
  exact i
theorem shut2 {w0 w : World} {F0 : Nat → Prop} {A B C : SProp} {H : List SProp} (o : Shuts [B, C] A) (i : Inv w0 F0 (B :: C :: H) w) : Inv w0 F0 (A :: H) w := Inv.shuts o i
theorem after_clean {S : Sh} {U : List Int} (h1 : S.fresh = []) (h2 : S.given = []) : S.after U = U := by simp [Sh.after, h1, h2]
theorem after_roll {S : Sh} {U : List Int} : S.roll.after U = U := after_clean rfl rfl
/-- A tree whose pages are as they were. -/
theorem IsTree.move {N : Nat} {S S' : Sh} {D D' : Dk} {U U' : List Int} {root : Int} {T : List Ent} (h : IsTree N S D U root T) (he : S'.after U' = S.after U) (hk : ∀ p ∈ S.after U, D'.pg p = D.pg p) : IsTree N S' D' U' root T := by
  rcases h with ⟨a, b, c⟩ | ⟨h, ps, o, hp⟩
  · exact .inl ⟨a, b, by rw [he]; exact c⟩
  · exact .inr ⟨h, ps, o.same (fun p q d g => g.keep (hk p (hp.mem_iff.1 q))), by rw [he]; exact hp⟩
/-- What is committed is a tree of just the pages that are used. -/
theorem Tr.commit {N : Nat} {S : Sh} {D : Dk} {U : List Int} {root : Int} {T : List Ent} {m : Nat} (k : Tr N S D U root T m) (hg : S.gen < 281474976710655) :
    ∃ S' E, S.commit D root = (0, S', E) ∧ Tr N S' E (S.after U) root T m ∧ S'.fresh = [] ∧ S'.given = [] ∧ S'.gen = S.gen + 1 ∧ S'.root = root := by
  have hr : root = 0 ∨ root ∈ S.after U := by
    rcases k.tree with ⟨a, _, _⟩ | ⟨h, ps, ⟨d, ps1, g, _, _, _, e⟩, hp⟩
    · exact .inl a
    · exact .inr (hp.mem_iff.1 (by dsimp only at e; rw [e]; simp))
  obtain ⟨S', E, c1, c2, c3, c4, c5, c6, c7⟩ := k.fine.commit' hr hg
  refine ⟨S', E, c1, ⟨c2, k.tree.move (after_clean c4 c5) fun p hp => c3 p ?_, k.len⟩, c4, c5, c6, c7⟩
  rcases (Sh.mem_after.1 hp).1 with h | h
  · have := k.fine.h.b p h; omega
  · have := k.fine.f.2 p h; omega
/-- Behind a Rollback there is what was committed. -/
theorem Tr.back {N : Nat} {S0 S : Sh} {D0 D : Dk} {U : List Int} {root : Int} {T : List Ent} {m : Nat} (k : Tr N S0 D0 U root T m) (he : S0.after U = U) (f : Fine N S D U) (s : Same U S0 D0 S D) : Tr N S.roll D U root T m :=
  ⟨f.roll, k.tree.move (by rw [he, after_roll]) (by rw [he]; exact s.2), k.len⟩
/-- What was committed is scanned, whatever was done behind. -/
theorem Tr.scanOld {N : Nat} {S0 S : Sh} {D0 D : Dk} {U : List Int} {root : Int} {T : List Ent} {m : Nat} (k : Tr N S0 D0 U root T m) (he : S0.after U = U) (f : Fine N S D U) (s : Same U S0 D0 S D) (hm : m ≤ 1000) (sb db : Nat) :
    Does Tryz.prog 17 [.pointer (some ⟨sb, 0, none⟩), .int .i64 root, .int .u64 0, .int .i64 1000] [Store sb db S, Disk db D]
      (fun v H => ∃ p cap, v = .tuple #[.slice p T.length cap, .int .i64 0] ∧ H = [vec 53 2 p T.length cap (entC T), Store sb db S, Disk db D]) := by
  have kb := k.back he f s
  have h := scan_old sb db 0 N root 1000 U T S D f (kb.tree.old kb.fine) (by have := k.len; omega) (by omega)
  have e : (geE T 0).take (Int.toNat 1000) = T := by
    have h0 : geE T 0 = T := List.filter_eq_self.2 fun e he => by simp
    rw [h0]
    exact List.take_of_length_le (by have := k.len; simp; omega)
  rw [e] at h
  exact h

set_option maxHeartbeats 4000000 in
/-- What comes behind the second loop. -/
theorem shadows_end (b db xb sb rb m : Nat) (pw pp : Option Addr) (cw cp : Nat) (pl : List Int) (A : SProp) (old root : Int) (S0 S : Sh) (D0 D : Dk) (U : List Int) (T : List Ent) (k0 : Tr 400 S0 D0 U old T m) (he : S0.after U = U) (hr : S0.root = old) (f : Fine 400 S D U) (s : Same U S0 D0 S D) (hm : m ≤ 1000) (hpl : pl.length = U.length) (w0 : World) (F0 : Nat → Prop) :
    G Tryz.prog 256 w0 F0 (nav [1, 1, 1, 1, 1, 1, 1, 1, 1, 1, 1] (bdy Tryz.f8)) (Post Tryz.prog Tryz.f8 w0 F0 (fun v H => v = .bool true ∧ H = [A]))
      [(15, .int .i64 old), (14, .int .i64 0), (13, .slice pp pl.length cp), (12, .int .i64 0), (11, .slice pw T.length cw), (6, .pointer (some ⟨b, 0, none⟩)), (5, .bool true)] [] [vec 53 2 pw T.length cw (entC T), vec 3 1 pp pl.length cp (pl.map encZ'), Wd b db xb sb rb root, Store sb db S, Disk db D, A] := by
  obtain ⟨c, hc⟩ : ∃ c, c = nav [1, 1, 1, 1, 1, 1, 1, 1, 1, 1, 1] (bdy Tryz.f8) := ⟨_, rfl⟩
  rw [← hc]
  dsimp only [nav, bdy, Tryz.f8, Option.getD] at hc
  subst hc
  have hTl := k0.len
  have kb := k0.back he f s
  have hs := k0.scanOld he f s hm sb db
  have hs2 := kb.scanAll hm sb db
  have hrb := sRollback_does sb db S
  have hrt : Does Tryz.prog 22 [.pointer (some ⟨sb, 0, none⟩)] [Store sb db S.roll] (fun v H => v = .int .i64 old ∧ H = [Store sb db S.roll]) := by
    have := sRoot_does sb db S.roll
    have e : S.roll.root = old := s.1.trans hr
    rw [e] at this
    exact this
  have hu := sUsed_does sb db S.roll D
  rw [f.roll.usedLen, ← hpl] at hu
  (repeat (first | refine g_seq (h := ?_) | refine g_region (h := ?_) | refine l_nil (h := ?_) | refine n_then (h := ?_) | refine l_pures1 (h := ?_) | (refine l_at 17 ?_; refine l_call_ (hs) ?_; rintro _ _ _ ⟨pn, cn, rfl, rfl⟩ he; cases he) | refine l_load (h := ?_)))
  have he1 := entries_same T pw pn cw cn (by omega)
  (repeat (first | refine g_seq (h := ?_) | refine g_region (h := ?_) | refine l_nil (h := ?_) | refine n_then (h := ?_) | refine l_pures1 (h := ?_) | (refine l_atc ?_; refine l_call (he1) ?_) | (refine l_atc ?_; refine l_call (hrb) ?_) | refine l_load (h := ?_)))
  (refine g_draw [Wd b db xb sb rb root] (h := a_pass2 (h := ?_)))
  (repeat (first | refine g_seq (h := ?_) | refine g_region (h := ?_) | refine l_nil (h := ?_) | refine n_then (h := ?_) | refine l_pures1 (h := ?_) | (refine l_atc ?_; refine l_call (hrt) ?_) | (refine l_at 17 ?_; refine l_call_ (hs2) ?_; rintro _ _ _ ⟨pa, ca, rfl, rfl⟩ he; cases he) | refine a_done (h := ?_) | refine a_load (h := a_pass2 (h := ?_)) | refine a_one (h := ?_) | refine n_any (h := a_pass2 (h := ?_))))
  have he2 := entries_same T pw pa cw ca (by omega)
  (repeat (first | refine g_seq (h := ?_) | refine g_region (h := ?_) | refine l_nil (h := ?_) | refine n_then (h := ?_) | refine l_pures1 (h := ?_) | (refine l_atc ?_; refine l_call (he2) ?_) | refine l_guard_yes (h := ?_) | refine l_load (h := ?_)))
  (repeat' (first | refine l_nil (h := ?_) | refine n_then (h := ?_) | refine l_pures1 (h := ?_) | (refine l_atc ?_; refine l_call (hrt) ?_) | (refine l_atc ?_; refine l_call_ (hu) ?_; rintro _ _ _ ⟨pu, cu, rfl, rfl⟩ he; cases he) | refine l_guard_yes (h := ?_) | refine l_load (h := ?_) | refine g_ret (h := ?_) | (refine l_spT (h := ?_); intro h)))
  refine r_retk [A] ?_
  exact ⟨by simp [packV], rfl⟩

theorem Tr.rootBd {S : Sh} {D : Dk} {U : List Int} {root : Int} {T : List Ent} {m : Nat} (k : Tr 400 S D U root T m) : -9223372036854775808 ≤ root ∧ root < 9223372036854775808 := by
  rcases k.tree with ⟨a, _, _⟩ | ⟨h, ps, ⟨d, ps1, g, _, _, _, e⟩, hp⟩
  · omega
  · have := g.1; omega

set_option maxHeartbeats 8000000 in
/-- What comes behind the first loop. -/
theorem shadows_tail (b db xb sb rb j0 : Nat) (A R2 : SProp) (p2 : Option Addr) (ks : List Int) (cap : Nat) (o : Obj) (root : Int) (S0 : Sh) (D0 : Dk) (T0 : List Ent) (k00 : Tr 400 S0 D0 [] root T0 j0) (hj0 : j0 ≤ 40) (hgen : S0.gen = headNew.over.gen) (hk : ∀ z ∈ ks, (Lit.int .i64 z).wf = true) (hl : ks.length ≤ 9223372036854775807)
    (op2 : Opens A (fun _ : Unit => True) (fun _ => [ins p2 ks.length (ks.map encZ') o, R2])) (sh2 : Shuts [ins p2 ks.length (ks.map encZ') o, R2] A) (w0 : World) (F0 : Nat → Prop) :
    G Tryz.prog 256 w0 F0 (nav [1, 1, 1, 1, 1, 1] (bdy Tryz.f8)) (Post Tryz.prog Tryz.f8 w0 F0 (fun v H => v = .bool true ∧ H = [A]))
      [(6, .pointer (some ⟨b, 0, none⟩)), (5, .bool true), (1, .slice p2 ks.length cap)] [] [Wd b db xb sb rb root, Store sb db S0, Disk db D0, A] := by
  obtain ⟨SC, E, c1, c2, c3, c4, c5, c6⟩ := k00.commit (by rw [hgen]; decide)
  obtain ⟨U, hU⟩ : ∃ U, U = S0.after [] := ⟨_, rfl⟩
  rw [← hU] at c2
  have he : SC.after U = U := after_clean c3 c4
  have hUl : U.length ≤ 80 := by
    have h1 := k00.tree.few
    have h2 := k00.len
    rw [hU]; omega
  have hcm := sCommit_does sb db S0 D0 root k00.rootBd
  rw [c1] at hcm
  dsimp only at hcm
  have hT0 := k00.len
  have hs := c2.scanAll (by omega) sb db
  have hpg := pages_tree sb db 400 root U T0 SC E c2.fine c2.tree
  rw [he] at hpg
  obtain ⟨c, hc⟩ : ∃ c, c = nav [1, 1, 1, 1, 1, 1] (bdy Tryz.f8) := ⟨_, rfl⟩
  rw [← hc]
  dsimp only [nav, bdy, Tryz.f8, Option.getD] at hc
  subst hc
  (repeat refine g_seq (h := ?_))
  (refine g_draw [Wd b db xb sb rb root] (h := a_pass2 (h := ?_)))
  (repeat (first | refine g_seq (h := ?_) | refine l_nil (h := ?_) | refine n_then (h := ?_) | (refine l_atc ?_; refine l_call (hcm) ?_) | refine g_skip (h := ?_) | refine a_done (h := ?_) | refine a_load (h := a_pass2 (h := ?_)) | refine a_one (h := ?_) | refine n_any (h := a_pass2 (h := ?_)) | refine g_cond_f (h := ?_)))
  (refine g_draw [Wd b db xb sb rb root] (h := a_pass2 (h := ?_)))
  (repeat (first | refine g_seq (h := ?_) | refine l_nil (h := ?_) | refine n_then (h := ?_) | (refine l_at 17 ?_; refine l_call_ (hs) ?_; rintro _ _ _ ⟨pw, cw, rfl, rfl⟩ he; cases he) | refine a_done (h := ?_) | refine a_load (h := a_pass2 (h := ?_)) | refine a_one (h := ?_) | refine n_any (h := a_pass2 (h := ?_))))
  (refine g_draw [Wd b db xb sb rb root] (h := a_pass2 (h := ?_)))
  (repeat (first | refine g_seq (h := ?_) | refine g_region (h := ?_) | refine l_nil (h := ?_) | refine n_then (h := ?_) | refine l_pures1 (h := ?_) | (refine l_at 19 ?_; refine l_call_ (hpg) ?_; rintro _ _ _ ⟨pp, cp, pl, hpl, rfl, rfl⟩ he; cases he) | refine l_load (h := ?_) | refine g_block (h := ?_) | refine a_done (h := ?_) | refine a_load (h := a_pass2 (h := ?_)) | refine a_one (h := ?_) | refine n_any (h := a_pass2 (h := ?_))))
  refine g_inv (fun i => open2 op2 (i.take (A := A) (by with_reducible (repeat (first | refine Take.here | apply Take.there))))) ?_
  (refine g_loop (fun y : Nat × Int × Sh × Dk × List Ent => [(16, .int .i64 y.1), (15, .int .i64 root), (14, .int .i64 0), (13, .slice pp pl.length cp), (12, .int .i64 0), (11, .slice pw T0.length cw), (6, .pointer (some ⟨b, 0, none⟩)), (5, .bool true), (1, .slice p2 ks.length cap)]) (fun y => [vec 53 2 pw T0.length cw (entC T0), vec 3 1 pp pl.length cp (pl.map encZ'), Wd b db xb sb rb y.2.1, Store sb db y.2.2.1, Disk db y.2.2.2.1, ins p2 ks.length (ks.map encZ') o, R2]) (fun y => Tr 400 y.2.2.1 y.2.2.2.1 U y.2.1 y.2.2.2.2 (40 + y.1) ∧ Same U SC E y.2.2.1 y.2.2.2.1 ∧ y.1 ≤ ks.length ∧ y.1 ≤ 60) (fun y => ks.length - y.1) ((0, root, SC, E, T0)) ?_ ?_ ?_ ?_; rotate_left; (repeat (first | refine ts_nil | (refine ts_cons rfl ?_ ?_; first | (with_reducible rfl) | rotate_left))); (first | (intro _ i; with_reducible refine i) | rotate_left); rotate_left; (try omega); rotate_right)
  · rintro ⟨j, r0, S, D, T⟩ ⟨k, hsm, hj, hj60⟩
    dsimp only at k hsm hj hj60 ⊢
    by_cases hjl : j < ks.length ∧ j < 60
    · refine g_open (o := ins_opens (p := p2) (m := ks.length) (by omega)) (h := ?_); (rintro ⟨gb, off, row, fr, T1⟩ ⟨rfl, rfl, v5, v6, v7⟩; dsimp only [List.cons_append, List.nil_append])
      have hgt : row[off + j * 1]? = some (.int .i64 (ks.getD j 0)) := ins_get v5 hjl.1 (by rw [List.getElem?_map, List.getD, List.getElem?_eq_getElem hjl.1]; rfl)
      have hw := wf_i64 (hk _ (getD_mem hjl.1 (z := 0)))
      have hkey := key_does (IntKind.i64.wrap ((ks.getD j 0).tdiv 2)) (half_range hw)
      have hval := value_does (ks.getD j 0) hw
      obtain ⟨x, hx⟩ : ∃ x, x = keyN (IntKind.i64.wrap ((ks.getD j 0).tdiv 2)) := ⟨_, rfl⟩
      have hxl : x < 18446744073709551616 := by rw [hx]; exact keyN_lt _
      rw [← hx] at hkey
      have hput := k.put sb db x (valN (ks.getD j 0)) hxl (valN_len _) (by omega)
      (repeat' (first | refine g_seq (h := ?_) | refine g_region (h := ?_) | refine l_nil (h := ?_) | refine n_then (h := ?_) | refine l_pures1 (h := ?_) | refine l_guard_yes (h := ?_) | refine l_load_p (h := ?_) | refine l_indexAddr (h := ?_) | refine g_skip (h := ?_) | refine g_block (h := ?_) | (refine l_spT (h := ?_); intro h) | (refine g_spT (h := ?_); intro h) | (refine g_sp (h1 := ?_) (h0 := ?_) <;> intro h)))
      · (refine g_draw [Wd b db xb sb rb r0, pts gb (.cells row.toArray T1 fr)] (h := a_pass2 (h := ?_)))
        (repeat' (first | refine g_seq (h := ?_) | refine g_region (h := ?_) | refine l_nil (h := ?_) | refine n_then (h := ?_) | refine l_pures1 (h := ?_) | (refine l_atc ?_; refine l_call (hkey) ?_) | (refine l_atc ?_; refine l_call (hval) ?_) | (refine l_atc ?_; refine l_call_ (hput) ?_; rintro _ _ _ ⟨r', S', D', rfl, rfl, k', _, hs'⟩ he; cases he) | refine l_store (h := ?_) | refine g_skip (h := ?_) | refine g_exit (h := ?_) | refine n_then_exit (h := ?_) | refine n_block_hit (h := ?_) | refine a_done (h := ?_) | refine a_load (h := a_pass2 (h := ?_)) | refine a_one (h := ?_) | refine n_any (h := a_pass2 (h := ?_)) | refine a_load_p (h := a_pass2 (h := ?_)) | refine a_v (h := ?_) | refine g_cond_f (h := ?_) | refine a_w (h := ?_)))
        refine n_shut (ins_shuts v5 v6 v7) (h := ?_)
        (refine n_back ((j + 1, r', S', D', putE T x (valN (ks.getD j 0)))) ?_ ?_ ?_ ?_; rotate_left; rotate_left; (repeat (first | refine ts_nil | (refine ts_cons rfl ?_ ?_; first | (with_reducible rfl) | rotate_left))); (first | (intro _ i; with_reducible refine i) | rotate_left); (try omega); (try omega))
        · exact ⟨k', hs'.trans hsm, hjl.1, hjl.2⟩
        all_goals first
          | (dsimp only; omega)
          | (rw [wrapI64 (by omega)]; rfl)
          | (intro _ i; exact inv_keep parts_of i)
          | rfl
      · cases hgx : getE T x with
        | none =>
          have hdel := k.delNo sb db x hgx
          (refine g_draw [Wd b db xb sb rb r0, pts gb (.cells row.toArray T1 fr)] (h := a_pass2 (h := ?_)))
          (repeat' (first | refine g_seq (h := ?_) | refine g_region (h := ?_) | refine l_nil (h := ?_) | refine n_then (h := ?_) | refine l_pures1 (h := ?_) | (refine l_atc ?_; refine l_call (hkey) ?_) | (refine l_at 14 ?_; refine l_call (hdel) ?_) | refine l_store (h := ?_) | refine l_load_p (h := ?_) | refine l_indexAddr (h := ?_) | refine g_skip (h := ?_) | refine a_done (h := ?_) | refine a_load (h := a_pass2 (h := ?_)) | refine a_one (h := ?_) | refine n_any (h := a_pass2 (h := ?_)) | refine n_block (h := ?_) | refine g_cond_f (h := ?_)))
          refine n_shut (ins_shuts v5 v6 v7) (h := ?_)
          (refine n_back ((j + 1, r0, S, D, T)) ?_ ?_ ?_ ?_; rotate_left; rotate_left; (repeat (first | refine ts_nil | (refine ts_cons rfl ?_ ?_; first | (with_reducible rfl) | rotate_left))); (first | (intro _ i; with_reducible refine i) | rotate_left); (try omega); (try omega))
          · exact ⟨k.more, hsm, hjl.1, hjl.2⟩
          all_goals first
            | (dsimp only; omega)
            | (rw [wrapI64 (by omega)]; rfl)
            | (intro _ i; exact inv_keep parts_of i)
            | rfl
        | some u =>
          have hdel := k.del sb db x (by rw [hgx]; rfl) (by omega)
          (refine g_draw [Wd b db xb sb rb r0, pts gb (.cells row.toArray T1 fr)] (h := a_pass2 (h := ?_)))
          (repeat' (first | refine g_seq (h := ?_) | refine g_region (h := ?_) | refine l_nil (h := ?_) | refine n_then (h := ?_) | refine l_pures1 (h := ?_) | (refine l_atc ?_; refine l_call (hkey) ?_) | (refine l_at 14 ?_; refine l_call_ (hdel) ?_; rintro _ _ _ ⟨r', S', D', rfl, rfl, k', _, hs'⟩ he; cases he) | refine l_store (h := ?_) | refine l_load_p (h := ?_) | refine l_indexAddr (h := ?_) | refine g_skip (h := ?_) | refine a_done (h := ?_) | refine a_load (h := a_pass2 (h := ?_)) | refine a_one (h := ?_) | refine n_any (h := a_pass2 (h := ?_)) | refine n_block (h := ?_) | refine g_cond_f (h := ?_)))
          refine n_shut (ins_shuts v5 v6 v7) (h := ?_)
          (refine n_back ((j + 1, r', S', D', delE T x)) ?_ ?_ ?_ ?_; rotate_left; rotate_left; (repeat (first | refine ts_nil | (refine ts_cons rfl ?_ ?_; first | (with_reducible rfl) | rotate_left))); (first | (intro _ i; with_reducible refine i) | rotate_left); (try omega); (try omega))
          · exact ⟨k'.more, hs'.trans hsm, hjl.1, hjl.2⟩
          all_goals first
            | (dsimp only; omega)
            | (rw [wrapI64 (by omega)]; rfl)
            | (intro _ i; exact inv_keep parts_of i)
            | rfl
    · refine g_inv (fun i => shut2 sh2 ((i.take (A := R2) (by with_reducible (repeat (first | refine Take.here | apply Take.there)))).take (A := ins p2 ks.length (ks.map encZ') o) (Take.there (by with_reducible (repeat (first | refine Take.here | apply Take.there)))))) ?_
      have hend := shadows_end b db xb sb rb j0 pw pp cw cp pl A root r0 SC S E D U T0 c2 he c6 k.fine hsm (by omega) hpl w0 F0
      (repeat' (first | ((with_reducible show G _ _ _ _ (Code.seq (Code.region 31 _ _) _) _ _ _ _); exact g_bang (hend)) | refine g_seq (h := ?_) | refine g_region (h := ?_) | refine l_nil (h := ?_) | refine n_then (h := ?_) | refine l_pures1 (h := ?_) | refine l_guard_yes (h := ?_) | refine l_guard_no (h := ?_) | refine g_exit (h := ?_) | refine n_then_exit (h := ?_) | refine n_block_hit (h := ?_) | refine g_cond_f (h := ?_) | (refine l_sp (h1 := ?_) (h0 := ?_) <;> intro h) | (refine g_spF (h := ?_); intro h)))
  all_goals first
    | exact ⟨⟨c2.fine, c2.tree, by dsimp only; omega⟩, .refl _ _ _, Nat.zero_le _, Nat.zero_le _⟩
    | rfl
    | (intro _ i; exact inv_keep parts_of i)

set_option maxHeartbeats 4000000 in
theorem TreeShadows_does (A R1 R2 : SProp) (p1 p2 : Option Addr) (ks zs : List Int) (cap1 cap2 : Nat) (o1 o2 : Obj) (hk : ∀ z ∈ ks, (Lit.int .i64 z).wf = true) (hz : ∀ z ∈ zs, (Lit.int .i64 z).wf = true) (hl : ks.length ≤ 9223372036854775807) (hlz : zs.length ≤ 9223372036854775807)
    (op1 : Opens A (fun _ : Unit => True) (fun _ => [ins p1 ks.length (ks.map encZ') o1, R1])) (sh1 : Shuts [ins p1 ks.length (ks.map encZ') o1, R1] A)
    (op2 : Opens A (fun _ : Unit => True) (fun _ => [ins p2 zs.length (zs.map encZ') o2, R2])) (sh2 : Shuts [ins p2 zs.length (zs.map encZ') o2, R2] A) :
    Does Tryz.prog 8 [.slice p1 ks.length cap1, .slice p2 zs.length cap2] [A] (fun v H => v = .bool true ∧ H = [A]) := by
  obtain ⟨E1, f1, k0⟩ := tr_new (N := 400) (by omega)
  have hb := begins_does (i := 400) (n := 400) rfl (by omega) f1
  refine does_of Tryz.func8 Tryz.ntmps8 rfl rfl rfl (fun w0 F0 => ?_)
  refine g_inv (fun i => open2 op1 i) ?_
  (repeat' (first | refine g_seq (h := ?_) | refine g_region (h := ?_) | refine l_nil (h := ?_) | refine n_then (h := ?_) | refine l_pures1 (h := ?_) | (refine l_atc ?_; refine l_call (examples_does) ?_) | (refine l_atc ?_; refine l_call_ (hb) ?_; rintro _ _ _ ⟨b, db, xb, sb, rb, rfl, rfl⟩ he; cases he) | refine g_skip (h := ?_) | refine g_block (h := ?_) | refine g_cond_f (h := ?_)))
  (refine g_loop (fun y : Nat × Int × Sh × Dk × List Ent => [(8, .int .i64 y.1), (6, .pointer (some ⟨b, 0, none⟩)), (5, .bool true), (0, .slice p1 ks.length cap1), (1, .slice p2 zs.length cap2)]) (fun y => [Wd b db xb sb rb y.2.1, Store sb db y.2.2.1, Disk db y.2.2.2.1, ins p1 ks.length (ks.map encZ') o1, R1]) (fun y => Tr 400 y.2.2.1 y.2.2.2.1 [] y.2.1 y.2.2.2.2 y.1 ∧ y.2.2.1.gen = headNew.over.gen ∧ y.1 ≤ ks.length ∧ y.1 ≤ 40) (fun y => ks.length - y.1) ((0, 0, headNew.over, E1, [])) ?_ ?_ ?_ ?_; rotate_left; (repeat (first | refine ts_nil | (refine ts_cons rfl ?_ ?_; first | (with_reducible rfl) | rotate_left))); (first | (intro _ i; with_reducible refine i) | rotate_left); rotate_left; (try omega); rotate_right)
  · rintro ⟨j, root, S, D, T⟩ ⟨k, hg, hj, hj20⟩
    dsimp only at k hg hj hj20 ⊢
    by_cases hjl : j < ks.length ∧ j < 40
    · refine g_open (o := ins_opens (p := p1) (m := ks.length) (by omega)) (h := ?_); (rintro ⟨gb, off, row, fr, T0⟩ ⟨rfl, rfl, v5, v6, v7⟩; dsimp only [List.cons_append, List.nil_append])
      have hgt : row[off + j * 1]? = some (.int .i64 (ks.getD j 0)) := ins_get v5 hjl.1 (by rw [List.getElem?_map, List.getD, List.getElem?_eq_getElem hjl.1]; rfl)
      have hw := wf_i64 (hk _ (getD_mem hjl.1 (z := 0)))
      have hkey := key_does (ks.getD j 0) hw
      have hval := value_does (j : Int) (by omega)
      have hput := k.put sb db (keyN (ks.getD j 0)) (valN j) (keyN_lt _) (valN_len _) (by simp; omega)
      (repeat' (first | refine g_seq (h := ?_) | refine g_region (h := ?_) | refine l_nil (h := ?_) | refine n_then (h := ?_) | refine l_pures1 (h := ?_) | refine l_guard_yes (h := ?_) | refine g_skip (h := ?_) | refine g_block (h := ?_) | (refine l_spT (h := ?_); intro h) | (refine g_spT (h := ?_); intro h)))
      (refine g_draw [Wd b db xb sb rb root, pts gb (.cells row.toArray T0 fr)] (h := a_pass2 (h := ?_)))
      (repeat' (first | refine g_seq (h := ?_) | refine g_region (h := ?_) | refine l_nil (h := ?_) | refine n_then (h := ?_) | refine l_pures1 (h := ?_) | (refine l_atc ?_; refine l_call (hkey) ?_) | (refine l_atc ?_; refine l_call (hval) ?_) | (refine l_atc ?_; refine l_call_ (hput) ?_; rintro _ _ _ ⟨r', S', D', rfl, rfl, k', g', r2⟩ he; cases he) | refine l_store (h := ?_) | refine l_load_p (h := ?_) | refine l_indexAddr (h := ?_) | refine g_skip (h := ?_) | refine a_done (h := ?_) | refine a_load (h := a_pass2 (h := ?_)) | refine a_one (h := ?_) | refine n_any (h := a_pass2 (h := ?_)) | refine n_block (h := ?_) | refine g_cond_f (h := ?_)))
      refine n_shut (ins_shuts v5 v6 v7) (h := ?_)
      (refine n_back ((j + 1, r', S', D', putE T (keyN (ks.getD j 0)) (valN j))) ?_ ?_ ?_ ?_; rotate_left; rotate_left; (repeat (first | refine ts_nil | (refine ts_cons rfl ?_ ?_; first | (with_reducible rfl) | rotate_left))); (first | (intro _ i; with_reducible refine i) | rotate_left); (try omega); (try omega))
      · exact ⟨k', g'.trans hg, hjl.1, hjl.2⟩
      all_goals first
        | (dsimp only; omega)
        | (rw [wrapI64 (by omega)]; rfl)
        | (intro _ i; exact inv_keep parts_of i)
        | rfl
    · refine g_inv (fun i => shut2 sh1 ((i.take (A := R1) (by with_reducible (repeat (first | refine Take.here | apply Take.there)))).take (A := ins p1 ks.length (ks.map encZ') o1) (Take.there (by with_reducible (repeat (first | refine Take.here | apply Take.there)))))) ?_
      have hend := shadows_tail b db xb sb rb j A R2 p2 zs cap2 o2 root S D T k hj20 hg hz hlz op2 sh2 w0 F0
      (repeat' (first | ((with_reducible show G _ _ _ _ (Code.seq (Code.seq (Code.region 14 _ _) _) _) _ _ _ _); exact g_bang (hend)) | refine g_seq (h := ?_) | refine g_region (h := ?_) | refine l_nil (h := ?_) | refine n_then (h := ?_) | refine l_pures1 (h := ?_) | refine l_guard_yes (h := ?_) | refine l_guard_no (h := ?_) | refine g_exit (h := ?_) | refine n_then_exit (h := ?_) | refine n_block_hit (h := ?_) | refine g_cond_f (h := ?_) | (refine l_sp (h1 := ?_) (h0 := ?_) <;> intro h) | (refine g_spF (h := ?_); intro h)))
  all_goals first
    | exact ⟨k0, rfl, Nat.zero_le _, Nat.zero_le _⟩
    | rfl
    | (intro _ i; exact inv_keep parts_of i)
end Go.Proofs.YtpbibhhjbigdhaaGreat
/- The framework, part 11: laws that take slices: what a row asks of them. -/
set_option linter.unusedVariables false
set_option linter.unusedSimpArgs false
namespace Go.Proofs.YtpbibhhjbigdhaaGreat.SL
open Go.RowKit Go.WideElems

/-- Wherever A holds its blocks F are as in W. -/
def Keeps (A : SProp) (W : World) (F : Nat → Prop) : Prop := ∀ h' F', A.holds h' F' → ∀ b, F b → h'[b]? = W.heap[b]?
theorem row_ofA {P : Program} {f : FuncId} {args : List Value} {A : SProp} {W : World} {F : Nat → Prop} (d : Does P f args [A] (fun v H => v = .bool true ∧ H = [A])) (hx : Keeps A W F) (s : A.holds W.heap F) :
    Calls P f args.toArray W fun e W' => e = .returned (.bool true) ∧ Go.RowKit.Below W.heap.size W W' := by
  refine (d W F ⟨F, fun _ => False, s, fun _ h => h, fun _ _ h => h, fun b => ⟨.inl, fun o => o.elim id False.elim⟩⟩).mono ?_
  rintro e W' ⟨v, H', rfl, ⟨rfl, rfl⟩, i⟩
  obtain ⟨⟨G, ⟨F1, _, a, _⟩, _⟩, _⟩ := id i
  refine ⟨rfl, i.os, i.tape, i.output, i.size, fun k hk => ?_⟩
  by_cases q : F k
  · exact hx _ _ a k q
  · exact i.frame k hk q
theorem keeps_ins {p : Option Addr} {m : Nat} {xs : List Value} {o : Obj} {W : World} {F : Nat → Prop} (hm : 0 < m) (s : (ins p m xs o).holds W.heap F) : Keeps (ins p m xs o) W F := by
  rintro h' F' ⟨_, z'⟩ b hb
  obtain ⟨_, z⟩ := s
  rcases z with ⟨e, _⟩ | ⟨g, off, row, fr, T, q1, q2, _, h3, e, f⟩
  · omega
  · rcases z' with ⟨e', _⟩ | ⟨g', off', row', fr', T', q1', q2', _, _, e', f'⟩
    · omega
    · rw [q1] at q1'
      cases q1'
      rw [(f b).1 hb, e, e']

/-- Cells that are there are an input row. -/
theorem cells_ins {W : World} {a : Addr} {m : Nat} {xs : List Value} (hl : xs.length = m) (h : ∀ i, i < m → W.cell? (a.add i) = xs[i]?) : ∃ o F, (ins (some a) m xs o).holds W.heap F ∧ Keeps (ins (some a) m xs o) W F ∧ (m = 0 → ∀ x, ¬ F x) := by
  by_cases hm : m = 0
  · exact ⟨.map #[] 0, fun _ => False, ⟨hl, .inl ⟨hm, fun _ h => h⟩⟩, fun _ _ _ _ h => h.elim, fun _ _ h => h⟩
  · obtain ⟨b, off, spot⟩ := a
    have h0 := h 0 (by omega)
    have hspot : spot = none := by
      rw [List.getElem?_eq_getElem (by omega)] at h0
      simpa [Addr.add] using World.cell?_spot h0
    subst hspot
    have h1 : ∀ i, i < m → W.cell? ⟨b, off + i, none⟩ = xs[i]? := fun i hi => by rw [← Go.WideShapes.add_plain]; exact h i hi
    have h2 := h1 0 (by omega)
    rw [List.getElem?_eq_getElem (by omega)] at h2
    obtain ⟨c, T, fr, hb⟩ : ∃ c T fr, W.heap[b]? = some (.cells c T fr) := by
      unfold World.cell? at h2
      split at h2
      · rename_i hb; exact ⟨_, _, _, hb⟩
      · cases h2
    have h3 : ∀ i, i < m → c[off + i]? = xs[i]? := fun i hi => by rw [← h1 i hi, cell_at hb]
    have hlen : off + m ≤ c.toList.length := by
      have := h3 (m - 1) (by omega)
      rw [List.getElem?_eq_getElem (by omega)] at this
      have := (Array.getElem?_eq_some_iff.1 this).1
      simp; omega
    have hs : (ins (some ⟨b, off, none⟩) m xs (.cells c T fr)).holds W.heap (fun x => x = b) := by
     refine ⟨hl, .inr ⟨b, off, c.toList, fr, T, rfl, by simp, ?_, hlen, hb, fun _ => Iff.rfl⟩⟩
     apply List.ext_getElem?
     intro i
     by_cases hi : i < m
     · rw [List.getElem?_take_of_lt hi, List.getElem?_drop, Array.getElem?_toList, h3 i hi]
     · rw [List.getElem?_eq_none (by simp; omega), List.getElem?_eq_none (by omega)]
    exact ⟨_, _, hs, keeps_ins (by omega) hs, fun q => absurd q hm⟩
theorem nil_ins {W : World} : (ins none 0 [] (.map #[] 0)).holds W.heap (fun _ => False) ∧ Keeps (ins none 0 [] (.map #[] 0)) W (fun _ => False) := ⟨⟨rfl, .inl ⟨rfl, fun _ h => h⟩⟩, fun _ _ _ _ h => h.elim⟩

/-- Two input rows, in one block or in two: what holds them both, and each with what is left. -/
theorem ins_two {W : World} {p1 p2 : Option Addr} {m1 m2 : Nat} {xs ys : List Value} {o1 o2 : Obj} {F1 F2 : Nat → Prop} (s1 : (ins p1 m1 xs o1).holds W.heap F1) (k1 : Keeps (ins p1 m1 xs o1) W F1) (z1 : m1 = 0 → ∀ x, ¬ F1 x) (s2 : (ins p2 m2 ys o2).holds W.heap F2) (k2 : Keeps (ins p2 m2 ys o2) W F2) (z2 : m2 = 0 → ∀ x, ¬ F2 x) :
    ∃ (A R1 R2 : SProp) (F : Nat → Prop), A.holds W.heap F ∧ Keeps A W F ∧ Opens A (fun _ : Unit => True) (fun _ => [ins p1 m1 xs o1, R1]) ∧ Shuts [ins p1 m1 xs o1, R1] A ∧ Opens A (fun _ : Unit => True) (fun _ => [ins p2 m2 ys o2, R2]) ∧ Shuts [ins p2 m2 ys o2, R2] A := by
  by_cases hd : ∃ x, F1 x ∧ F2 x
  · obtain ⟨x, h1, h2⟩ := hd
    have key : ∀ {p p' : Option Addr} {m m' : Nat} {xs ys : List Value} {o o' : Obj} {G G' : Nat → Prop}, (ins p m xs o).holds W.heap G → (ins p' m' ys o').holds W.heap G' → G x → G' x → 0 < m → ∀ h F, (ins p m xs o).holds h F → (ins p' m' ys o').holds h F := by
      intro p p' m m' xs ys o o' G G' ⟨_, z⟩ ⟨l', z'⟩ hx hx' hm h F ⟨_, y⟩
      rcases z with ⟨_, f⟩ | ⟨g, off, row, fr, T, q1, q2, q3, q4, e, f⟩
      · exact absurd hx (f x)
      · rcases z' with ⟨_, f'⟩ | ⟨g', off', row', fr', T', q1', q2', q3', q4', e', f'⟩
        · exact absurd hx' (f' x)
        · obtain rfl := (f x).1 hx
          obtain rfl := (f' x).1 hx'
          rw [e] at e'
          cases e'
          rcases y with ⟨e0, _⟩ | ⟨g2, off2, row2, fr2, T2, y1, y2, y3, y4, y5, y6⟩
          · omega
          · rw [q1] at y1
            cases y1
            exact ⟨l', .inr ⟨_, off', row', fr', T', q1', q2', q3', q4', y5, y6⟩⟩
    have emp : ∀ {K : SProp} {h : Array Obj} {F : Nat → Prop}, K.holds h F ↔ sep [K, fact True] h F := by
      intro K h F
      refine ⟨fun a => ⟨F, fun _ => False, a, ⟨fun _ => False, fun _ => False, ⟨trivial, fun _ h => h⟩, fun _ h => h, fun _ _ h => h, fun b => ⟨.inl, fun o => o.elim id id⟩⟩, fun _ _ h => h, fun b => ⟨.inl, fun o => o.elim id False.elim⟩⟩, ?_⟩
      rintro ⟨G1, G2, a, ⟨G3, G4, ⟨_, e⟩, f, _, u2⟩, d, u⟩
      have : F = G1 := by
        funext b
        apply propext
        rw [u b, u2 b]
        exact ⟨fun o => o.elim id (fun o => o.elim (fun q => (e b q).elim) (fun q => (f b q).elim)), .inl⟩
      rw [this]; exact a
    have hm1 : 0 < m1 := Nat.pos_of_ne_zero fun q => z1 q x h1
    have hm2 : 0 < m2 := Nat.pos_of_ne_zero fun q => z2 q x h2
    exact ⟨ins p1 m1 xs o1, fact True, fact True, F1, s1, k1, fun h F a => ⟨(), trivial, emp.1 a⟩, fun h F a => emp.2 a,
      fun h F a => ⟨(), trivial, emp.1 (key s1 s2 h1 h2 hm1 h F a)⟩, fun h F a => key s2 s1 h2 h1 hm2 h F (emp.2 a)⟩
  · refine ⟨⟨fun h F => sep [ins p1 m1 xs o1, ins p2 m2 ys o2] h F, sep_loc, sep_bnd⟩, ins p2 m2 ys o2, ins p1 m1 xs o1, fun x => F1 x ∨ F2 x, ?_, ?_, fun h F a => ⟨(), trivial, a⟩, fun h F a => a, fun h F a => ⟨(), trivial, ?_⟩, fun h F a => ?_⟩
    · exact ⟨F1, F2, s1, ⟨F2, fun _ => False, s2, fun _ h => h, fun _ _ h => h, fun b => ⟨.inl, fun o => o.elim id False.elim⟩⟩, fun x a b => hd ⟨x, a, b⟩, fun _ => Iff.rfl⟩
    · rintro h' F' ⟨G1, G2, a, ⟨G3, G4, b, _⟩, _⟩ x hx
      exact hx.elim (k1 _ _ a x) (k2 _ _ b x)
    · exact (Parts.cons (Take.there Take.here) (Parts.cons Take.here Parts.nil)).sep a
    · exact (Parts.cons (Take.there Take.here) (Parts.cons Take.here Parts.nil)).sep a
end Go.Proofs.YtpbibhhjbigdhaaGreat.SL
/- Rows over slices of strings and of whole numbers. -/
set_option linter.unusedVariables false
set_option linter.unusedSimpArgs false
namespace Go.Proofs.YtpbibhhjbigdhaaGreat
open Go.Proofs.YtpbibhhjbigdhaaGreat.SL Go.ChangeShapes

section
variable {H : Type} {enc : TypeId × Value → H} {P : Program} {W : World}
theorem open_Ss {t e : TypeId} (ht : P.underlying t = some (.slice e)) (he : P.underlying e = some .string) (hc : P.cellsOf e = 1) {v : Value} (hv : ∃ a0 len cap, v = .slice a0 len cap) {d : DataW H} {ps : List MemPlace} (h : DataW.Trod enc P W 0 (fun _ => true) true t v d ps) :
    ∃ (a0 : Option Addr) (cap : Nat) (Tx : List (List UInt8)) (o : Obj) (F : Nat → Prop), v = .slice a0 Tx.length cap ∧ (ins a0 Tx.length (Tx.map encS) o).holds W.heap F ∧ Keeps (ins a0 Tx.length (Tx.map encS) o) W F ∧ (Tx.length = 0 → ∀ x, ¬ F x) ∧ (∀ l ∈ Tx, l.length ≤ 9223372036854775807) ∧ Tx.length ≤ 9223372036854775807 := by
  obtain ⟨a0, len, cap, rfl⟩ := hv
  obtain ⟨fuel, hf⟩ := h
  rcases open_strings ht he hc hf with ⟨hcs, _⟩ | ⟨a, len', cap', ss, hcs, _, hle, hmax, hlen, _, hcell, hw⟩
  · simp [Value.cells] at hcs
    obtain ⟨rfl, rfl, rfl⟩ := hcs
    exact ⟨none, 0, [], .map #[] 0, _, rfl, nil_ins.1, nil_ins.2, fun _ _ h => h, by simp, by simp⟩
  · simp [Value.cells] at hcs
    obtain ⟨rfl, rfl, rfl⟩ := hcs
    simp only [if_true] at hlen
    obtain ⟨Tx, hTx⟩ : ∃ Tx, Tx = (ss.take len).map fun s => s.data.toList := ⟨_, rfl⟩
    have hl : Tx.length = len := by rw [hTx, List.length_map, List.length_take]; omega
    have hx : Tx.map encS = (ss.take len).map fun s => Value.string s := by
      rw [hTx, List.map_map]
      apply List.map_congr_left
      rintro ⟨⟨s⟩⟩ _
      rfl
    have hm' : (Tx.map encS).length = Tx.length := by simp
    obtain ⟨o, F, s1, s2, s3⟩ := cells_ins (W := W) (a := a) hm' (fun i hi => by
      rw [hcell i (by omega), hx, List.getElem?_map, List.getElem?_take_of_lt (by omega), List.getD]
      rw [List.getElem?_eq_getElem (by omega)]; rfl)
    simp only [maxLen] at hmax
    refine ⟨some a, cap, Tx, o, F, by rw [hl], s1, s2, s3, ?_, by omega⟩
    intro l hl'
    rw [hTx] at hl'
    obtain ⟨s, hs, rfl⟩ := List.mem_map.1 hl'
    have := hw s (List.mem_of_mem_take hs)
    simp only [maxLen] at this
    rw [Array.length_toList]; exact this
theorem open_Zs {t e : TypeId} (ht : P.underlying t = some (.slice e)) (he : P.underlying e = some (.int .i64)) (hc : P.cellsOf e = 1) {v : Value} (hv : ∃ a0 len cap, v = .slice a0 len cap) {d : DataW H} {ps : List MemPlace} (h : DataW.Trod enc P W 0 (fun _ => true) true t v d ps) :
    ∃ (a0 : Option Addr) (cap : Nat) (zs : List Int) (o : Obj) (F : Nat → Prop), v = .slice a0 zs.length cap ∧ (ins a0 zs.length (zs.map encZ') o).holds W.heap F ∧ Keeps (ins a0 zs.length (zs.map encZ') o) W F ∧ (zs.length = 0 → ∀ x, ¬ F x) ∧ (∀ z ∈ zs, (Lit.int .i64 z).wf = true) ∧ zs.length ≤ 9223372036854775807 := by
  obtain ⟨a0, len, cap, rfl⟩ := hv
  obtain ⟨fuel, hf⟩ := h
  rcases open_ints ht he hc hf with ⟨hcs, _⟩ | ⟨a, len', cap', ss, hcs, _, hle, hmax, hlen, _, hcell, hw⟩
  · simp [Value.cells] at hcs
    obtain ⟨rfl, rfl, rfl⟩ := hcs
    exact ⟨none, 0, [], .map #[] 0, _, rfl, nil_ins.1, nil_ins.2, fun _ _ h => h, by simp, by simp⟩
  · simp [Value.cells] at hcs
    obtain ⟨rfl, rfl, rfl⟩ := hcs
    simp only [if_true] at hlen
    have hl : (ss.take len).length = len := by rw [List.length_take]; omega
    have hm' : ((ss.take len).map encZ').length = (ss.take len).length := by simp
    obtain ⟨o, F, s1, s2, s3⟩ := cells_ins (W := W) (a := a) hm' (fun i hi => by
      rw [hcell i (by omega), List.getElem?_map, List.getElem?_take_of_lt (by omega), List.getD, List.getElem?_eq_getElem (by omega)]; rfl)
    simp only [maxLen] at hmax
    exact ⟨some a, cap, ss.take len, o, F, by rw [hl], s1, s2, s3, fun z hz => hw z (List.mem_of_mem_take hz), by omega⟩
end
end Go.Proofs.YtpbibhhjbigdhaaGreat
