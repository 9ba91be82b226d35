/- Texts ShadC, TrW, TrV, TrX, TrY, Pl, PlS, TrT, TrU, TrZ, TrPa, TrPb, TrPp, TrPc, TrPd, TrPe, joined. -/
import Derived.Test.YtpbibhhjbigdhaaGreatK07
/- Package shadow: Left, Format, Commit. -/
set_option linter.unusedVariables false
set_option linter.unusedSimpArgs false
namespace Go.Proofs.YtpbibhhjbigdhaaGreat
open Go.Proofs.YtpbibhhjbigdhaaGreat.SL

def Sh.left (S : Sh) (D : Dk) : Int := D.now.length - 2 - countB S.used - S.fresh.length
theorem tt_len (l : List Int) : (tt l).length = l.length := by simp [tt]
theorem sLeft_does (b db : Nat) (S : Sh) (D : Dk) : Does Tryz.prog 15 [.pointer (some ⟨b, 0, none⟩)] [Store b db S, Disk db D] (fun v H => v = .int .i64 (S.left D) ∧ H = [Store b db S, Disk db D]) := by
  refine does_swap (does_disk fun dok => does_swap ?_)
  have hD := dok.n
  refine does_of Tryz.func15 Tryz.ntmps15 rfl rfl rfl (fun w0 F0 => ?_)
  refine g_open (A := Store b db S) (h := ?_); (rintro ⟨bf, bg⟩ ok; dsimp only [StoreK, List.cons_append, List.nil_append])
  have hu := ok.u
  have hc := countB_le S.used
  have hf := nodup_room 640 _ ok.f.1 ok.f.2
  (repeat' (first | refine g_seq (h := ?_) | refine g_region (h := ?_) | refine l_nil (h := ?_) | refine n_then (h := ?_) | refine l_pures1 (h := ?_)))
  (refine g_draw [_] (h := a_pass2 (h := ?_)))
  (repeat' (first | refine l_nil (h := ?_) | refine n_then (h := ?_) | (refine l_at 41 ?_; refine l_call (sSizeS_does b db bf bg S D) ?_) | (refine l_at 42 ?_; refine l_call (Count_does S.used (by omega)) ?_) | refine l_len_map (h := ?_) | refine g_ret (h := ?_) | refine a_done (h := ?_) | refine a_load (h := a_pass2 (h := ?_)) | refine a_one (h := ?_) | refine n_any (h := a_pass2 (h := ?_))))
  rw [tt_len, wrapI64 (n := (D.now.length : Int) - 2) (by omega), wrapI64 (n := (D.now.length : Int) - 2 - (countB S.used : Int)) (by omega), wrapI64 (by omega)]
  (refine n_shut (A := Store b db S) (K := StoreK b db S ((bf, bg))) (hid_shuts ((bf, bg)) ok) (h := ?_) (p := by dsimp only [StoreK]; (try simp only [List.map_nil, List.length_nil, List.length_set, List.length_append, List.length_cons, List.length_singleton, List.map_append, List.map_cons, Nat.zero_add]); exact parts_of))
  refine r_retk [Store b db S, Disk db D] ?_
  exact ⟨rfl, rfl⟩

def headNew : Hd := ⟨1, 0, newB 640⟩
def format (D : Dk) : Option Hd × Int × Dk := if (headNew.lay D).1 ≠ 0 then (none, headNew.lay D) else (some headNew, 0, (headNew.lay D).2)
theorem newB_len : (newB 640).length = 80 := by rw [newB, List.length_replicate]; decide
theorem bNew640_does : Does Tryz.prog 58 [.int .i64 640] [] (fun v H => v = .string (str (newB 640)) ∧ H = []) := bNew_does 640 (by omega)
theorem headNew_ok : headNew.ok ∧ headNew.over.ok := by
  have := newB_len
  refine ⟨⟨⟨?_, ?_⟩, ⟨?_, ?_⟩, ?_⟩, ⟨⟨?_, ?_⟩, ⟨?_, ?_⟩, ?_, ⟨by simp [Hd.over], by simp [Hd.over]⟩, ⟨by simp [Hd.over], by simp [Hd.over]⟩⟩⟩
  all_goals first | (show (newB 640).length = 80; exact newB_len) | (show (newB 640).length ≤ _; omega) | (simp [headNew, Hd.over]; done)
theorem Format_does (db : Nat) (D : Dk) : Does Tryz.prog 25 [.pointer (some ⟨db, 0, none⟩)] [Disk db D]
    (fun v H => match (format D).1 with
      | none => v = .tuple #[.pointer none, .int .i64 (format D).2.1] ∧ H = [Disk db (format D).2.2]
      | some h => ∃ b, v = .tuple #[.pointer (some ⟨b, 0, none⟩), .int .i64 (format D).2.1] ∧ H = [Store b db h.over, Disk db (format D).2.2]) := by
  obtain ⟨ok1, ok2⟩ := headNew_ok
  have hl : Does Tryz.prog 55 [.agg #[.int .i64 1, .int .i64 0, .string (str (newB 640))], .pointer (some ⟨db, 0, none⟩)] [Disk db D] (fun v H => v = .int .i64 (headNew.lay D).1 ∧ H = [Disk db (headNew.lay D).2]) := lay_does headNew ok1 db D
  have ho : Does Tryz.prog 59 [.pointer (some ⟨db, 0, none⟩), .agg #[.int .i64 1, .int .i64 0, .string (str (newB 640))]] [] (fun v H => ∃ b, v = .pointer (some ⟨b, 0, none⟩) ∧ H = [Store b db headNew.over]) := over_does headNew ok2 db
  refine does_of Tryz.func25 Tryz.ntmps25 rfl rfl rfl (fun w0 F0 => ?_)
  (repeat' (first | refine g_seq (h := ?_) | refine g_region (h := ?_) | refine l_nil (h := ?_) | refine n_then (h := ?_) | refine l_pures1 (h := ?_) | (refine l_at 58 ?_; refine l_call (bNew640_does) ?_) | (refine l_at 55 ?_; refine l_call (hl) ?_) | (refine l_at 59 ?_; refine l_call_ (ho) ?_; rintro _ _ _ ⟨b', rfl, rfl⟩ he; cases he) | refine l_load (h := ?_) | refine l_store (h := ?_) | (refine l_alloc (h := ?_); intro _) | refine g_skip (h := ?_) | refine g_ret (h := ?_) | refine n_then_ret (h := ?_) | (refine g_sp (h1 := ?_) (h0 := ?_) <;> intro h)))
  · have e : format D = (none, headNew.lay D) := by simp [format, *]
    rw [e]
    refine r_retk [Disk db (headNew.lay D).2] ?_
    exact ⟨rfl, rfl⟩
  · have e : format D = (some headNew, 0, (headNew.lay D).2) := by simp [format, *]
    rw [e]
    refine r_retk [Store b' db headNew.over, Disk db (headNew.lay D).2] ?_
    exact ⟨b', rfl, rfl⟩

def setAll (u : List UInt8) (on : Bool) (l : List Int) : List UInt8 := l.foldl (fun u n => withB u n on) u
theorem setAll_len (on : Bool) : ∀ (l : List Int) (u : List UInt8), (setAll u on l).length = u.length
  | [], u => rfl
  | n :: l, u => by
    show (setAll (withB u n on) on l).length = _
    rw [setAll_len on l, withB_len]
theorem setAll_snoc (u : List UInt8) (on : Bool) (l : List Int) (n : Int) : setAll u on (l ++ [n]) = withB (setAll u on l) n on := by
  simp [setAll, List.foldl_append]
theorem setAll_take {u : List UInt8} {on : Bool} {l : List Int} {j : Nat} (h : j < l.length) : setAll u on (l.take (j + 1)) = withB (setAll u on (l.take j)) (l.getD j 0) on := by
  rw [List.take_succ_eq_append_getElem h, setAll_snoc, List.getD, List.getElem?_eq_getElem h]; rfl
def Sh.next (S : Sh) (root : Int) : Hd := ⟨S.gen + 1, root, setAll (setAll S.used true (rise S.fresh)) false (rise S.given)⟩
def Sh.commit (S : Sh) (D : Dk) (root : Int) : Int × Sh × Dk :=
  if S.down then (5, S, D) else
  if root ≠ 0 ∧ hasB (S.next root).used root = false then (1, S, D) else
  if (S.next root).gen > 281474976710655 then (6, S, D) else
  if D.sync.1 ≠ 0 then (D.sync.1, S.told D.sync.1, D.sync.2) else
  if ((S.next root).lay D.sync.2).1 ≠ 0 then (((S.next root).lay D.sync.2).1, S.told ((S.next root).lay D.sync.2).1, ((S.next root).lay D.sync.2).2) else
  (0, (S.next root).over, ((S.next root).lay D.sync.2).2)
set_option maxHeartbeats 2000000 in
theorem sCommit_does (b db : Nat) (S : Sh) (D : Dk) (root : Int) (hr : -9223372036854775808 ≤ root ∧ root < 9223372036854775808) : Does Tryz.prog 20 [.pointer (some ⟨b, 0, none⟩), .int .i64 root] [Store b db S, Disk db D]
    (fun v H => v = .int .i64 (S.commit D root).1 ∧ H = [Store b db (S.commit D root).2.1, Disk db (S.commit D root).2.2]) := by
  refine does_of Tryz.func20 Tryz.ntmps20 rfl rfl rfl (fun w0 F0 => ?_)
  refine g_open (A := Store b db S) (h := ?_); (rintro ⟨bf, bg⟩ ok; dsimp only [StoreK, List.cons_append, List.nil_append])
  (repeat' (first | refine g_seq (h := ?_) | refine g_region (h := ?_) | refine l_nil (h := ?_) | refine n_then (h := ?_) | refine l_pures1 (h := ?_) | refine l_load (h := ?_) | refine g_skip (h := ?_) | refine g_ret (h := ?_) | refine n_then_ret (h := ?_) | (refine g_sp (h1 := ?_) (h0 := ?_) <;> intro h)))
  · (refine n_shut (A := Store b db S) (K := StoreK b db S ((bf, bg))) (hid_shuts ((bf, bg)) ok) (h := ?_) (p := by dsimp only [StoreK]; (try simp only [List.map_nil, List.length_nil, List.length_set, List.length_append, List.length_cons, List.length_singleton, List.map_append, List.map_cons, Nat.zero_add]); exact parts_of))
    refine r_ret ?_
    exact ⟨by rw [Sh.commit, if_pos (by assumption)]; rfl, by rw [Sh.commit, if_pos (by assumption)]⟩
  · (refine g_draw [_] (h := a_pass2 (h := ?_)))
    have hgen := ok.g
    have hfb : ∀ i ∈ S.fresh, -9223372036854775808 ≤ i ∧ i < 9223372036854775808 := fun i hi => by have := ok.f.2 i hi; omega
    have hvb : ∀ i ∈ S.given, -9223372036854775808 ≤ i ∧ i < 9223372036854775808 := fun i hi => by have := ok.v.2 i hi; omega
    have hgen1 : IntKind.i64.wrap (S.gen + 1) = S.gen + 1 := wrapI64 (by omega)
    have hu := ok.u
    have hf := nodup_room 640 _ ok.f.1 ok.f.2
    have hv := nodup_room 640 _ ok.v.1 ok.v.2
    (repeat' (first | refine g_seq (h := ?_) | refine g_region (h := ?_) | refine l_nil (h := ?_) | refine n_then (h := ?_) | refine l_pures1 (h := ?_) | refine l_load (h := ?_) | refine l_store (h := ?_) | (refine l_alloc (h := ?_); intro _) | refine a_done (h := ?_) | refine a_load (h := a_pass2 (h := ?_)) | refine a_one (h := ?_) | refine n_any (h := a_pass2 (h := ?_))))
    rw [hgen1]
    rename_i bh
    (repeat' (first | refine l_nil (h := ?_) | refine n_then (h := ?_) | refine l_pures1 (h := ?_) | (refine l_at 50 ?_; refine l_call_ (Keys_does bf) ?_; rintro _ _ _ ⟨box, rfl, rfl⟩ he; cases he) | (refine l_at 49 ?_; refine l_call_ (Sorted_does box bf S.fresh hfb (by omega)) ?_; rintro _ _ _ ⟨p1, cap1, rfl, rfl⟩ he; cases he) | refine g_block (h := ?_)))
    obtain ⟨R, hR⟩ : ∃ R, rise S.fresh = R := ⟨_, rfl⟩
    have hRl : R.length = S.fresh.length := by rw [← hR]; exact (rise_perm _).length_eq
    have hRb : ∀ i ∈ R, 0 ≤ i ∧ i < (640 : Nat) := fun i hi => ok.f.2 i ((rise_perm S.fresh).mem_iff.1 (hR ▸ hi))
    rw [hR]
    (refine g_loop (fun j : Nat => [(36, .int .i64 j), (35, .int .i64 S.fresh.length), (34, .slice p1 S.fresh.length cap1), (5, .pointer (some ⟨bh, 0, none⟩)), (0, .pointer (some ⟨b, 0, none⟩)), (1, .int .i64 root)]) (fun j => [vec 3 1 p1 S.fresh.length cap1 (R.map encZ'), cl bh 99 [.int .i64 (S.gen + 1), .int .i64 root, .string (str (setAll S.used true (R.take j)))], cl b 102 [.pointer (some ⟨db, 0, none⟩), .int .i64 S.gen, .int .i64 S.root, .string (str S.used), .map (some bf), .map (some bg), .bool S.down], mp bf Value.bool (tt S.fresh), mp bg Value.bool (tt S.given), Disk db D]) (fun j => j ≤ S.fresh.length) (fun j => S.fresh.length - j) (0) ?_ ?_ ?_ ?_; rotate_left; (repeat (first | refine ts_nil | (refine ts_cons rfl ?_ ?_; first | (with_reducible rfl) | rotate_left))); (first | (intro _ i; with_reducible refine i) | rotate_left); rotate_left; (try omega); rotate_right)
    · intro j hj
      have hsl := setAll_len true (R.take j) S.used
      (repeat' (first | refine g_seq (h := ?_) | refine g_region (h := ?_) | refine l_nil (h := ?_) | refine n_then (h := ?_) | refine l_pures1 (h := ?_) | refine l_load (h := ?_) | refine g_skip (h := ?_) | refine g_block (h := ?_) | refine g_exit (h := ?_) | refine n_then_exit (h := ?_) | refine n_block_hit (h := ?_) | (refine g_sp (h1 := ?_) (h0 := ?_) <;> intro h)))
      · refine l_open (o := vec_opens (p := p1) (m := S.fresh.length) (by omega)) (h := ?_); (rintro ⟨g, r⟩ ⟨rfl, v1, v2, v3, v4⟩; dsimp only [List.cons_append, List.nil_append])
        have hlt : j < R.length := by omega
        have hg : (R.map encZ' ++ r)[0 + j * 1]? = some (.int .i64 (R.getD j 0)) := by rw [Nat.zero_add, Nat.mul_one]; exact encZ_get hlt
        have hm := getD_all (z := 0) hRb hlt
        (repeat' (first | refine g_region (h := ?_) | refine l_nil (h := ?_) | refine n_then (h := ?_) | refine l_pures1 (h := ?_) | (refine l_at 51 ?_; refine l_call (With_does (setAll S.used true (R.take j)) (R.getD j 0) true (by omega) (by omega)) ?_) | refine l_load (h := ?_) | refine l_store (h := ?_) | refine l_load_at (h := ?_) | refine l_indexAddr (h := ?_) | refine n_block (h := ?_)))
        rw [← setAll_take hlt]
        refine n_shut (vec_shuts v1 v2 v3 v4) (h := ?_)
        (refine n_back (j + 1) ?_ ?_ ?_ ?_; rotate_left; rotate_left; (repeat (first | refine ts_nil | (refine ts_cons rfl ?_ ?_; first | (with_reducible rfl) | rotate_left))); (first | (intro _ i; with_reducible refine i) | rotate_left); (try omega); (try omega))
        · rw [wrapI64 (by omega)]; rfl
        all_goals (intro _ i; exact inv_keep parts_of i)
      · obtain rfl : j = S.fresh.length := by omega
        rw [← hRl, List.take_length]
        obtain ⟨U, hU⟩ : ∃ U, setAll S.used true R = U := ⟨_, rfl⟩
        have hUl : U.length = 80 := by rw [← hU, setAll_len, hu]
        obtain ⟨V, hV⟩ : ∃ V, rise S.given = V := ⟨_, rfl⟩
        have hVl : V.length = S.given.length := by rw [← hV]; exact (rise_perm _).length_eq
        have hVb : ∀ i ∈ V, 0 ≤ i ∧ i < (640 : Nat) := fun i hi => ok.v.2 i ((rise_perm S.given).mem_iff.1 (hV ▸ hi))
        rw [hU]
        (repeat' (first | refine l_nil (h := ?_) | refine n_then (h := ?_) | refine l_pures1 (h := ?_) | (refine l_at 50 ?_; refine l_call_ (Keys_does bg) ?_; rintro _ _ _ ⟨box2, rfl, rfl⟩ he; cases he) | (refine l_at 49 ?_; refine l_call_ (Sorted_does box2 bg S.given hvb (by omega)) ?_; rintro _ _ _ ⟨p2, cap2, rfl, rfl⟩ he; cases he) | refine g_block (h := ?_)))
        rw [hV]
        (refine g_loop (fun j : Nat => [(53, .int .i64 j), (52, .int .i64 S.given.length), (51, .slice p2 S.given.length cap2), (5, .pointer (some ⟨bh, 0, none⟩)), (0, .pointer (some ⟨b, 0, none⟩)), (1, .int .i64 root)]) (fun j => [vec 3 1 p2 S.given.length cap2 (V.map encZ'), cl bh 99 [.int .i64 (S.gen + 1), .int .i64 root, .string (str (setAll U false (V.take j)))], cl b 102 [.pointer (some ⟨db, 0, none⟩), .int .i64 S.gen, .int .i64 S.root, .string (str S.used), .map (some bf), .map (some bg), .bool S.down], mp bf Value.bool (tt S.fresh), mp bg Value.bool (tt S.given), Disk db D]) (fun j => j ≤ S.given.length) (fun j => S.given.length - j) (0) ?_ ?_ ?_ ?_; rotate_left; (repeat (first | refine ts_nil | (refine ts_cons rfl ?_ ?_; first | (with_reducible rfl) | rotate_left))); (first | (intro _ i; with_reducible refine i) | rotate_left); rotate_left; (try omega); rotate_right)
        · intro j hj
          have hsl := setAll_len false (V.take j) U
          by_cases hjl : j < S.given.length
          · (repeat' (first | refine g_seq (h := ?_) | refine g_region (h := ?_) | refine l_nil (h := ?_) | refine n_then (h := ?_) | refine l_pures1 (h := ?_) | refine g_skip (h := ?_) | refine g_block (h := ?_) | (refine g_spT (h := ?_); intro h)))
            refine l_open (o := vec_opens (p := p2) (m := S.given.length) (by omega)) (h := ?_); (rintro ⟨g, r⟩ ⟨rfl, v1, v2, v3, v4⟩; dsimp only [List.cons_append, List.nil_append])
            have hlt : j < V.length := by omega
            have hg : (V.map encZ' ++ r)[0 + j * 1]? = some (.int .i64 (V.getD j 0)) := by rw [Nat.zero_add, Nat.mul_one]; exact encZ_get hlt
            have hm := getD_all (z := 0) hVb hlt
            (repeat' (first | refine g_region (h := ?_) | refine l_nil (h := ?_) | refine n_then (h := ?_) | refine l_pures1 (h := ?_) | (refine l_at 51 ?_; refine l_call (With_does (setAll U false (V.take j)) (V.getD j 0) false (by omega) (by omega)) ?_) | refine l_load (h := ?_) | refine l_store (h := ?_) | refine l_load_at (h := ?_) | refine l_indexAddr (h := ?_) | refine n_block (h := ?_)))
            rw [← setAll_take hlt]
            refine n_shut (vec_shuts v1 v2 v3 v4) (h := ?_)
            (refine n_back (j + 1) ?_ ?_ ?_ ?_; rotate_left; rotate_left; (repeat (first | refine ts_nil | (refine ts_cons rfl ?_ ?_; first | (with_reducible rfl) | rotate_left))); (first | (intro _ i; with_reducible refine i) | rotate_left); (try omega); (try omega))
            · rw [wrapI64 (by omega)]; rfl
            all_goals (intro _ i; exact inv_keep parts_of i)
          · obtain rfl : j = S.given.length := by omega
            rw [← hVl, List.take_length]
            have hn : S.next root = ⟨S.gen + 1, root, setAll U false V⟩ := by rw [Sh.next, hR, hU, hV]
            have hWl : (setAll U false V).length = 80 := by rw [setAll_len, hUl]
            obtain ⟨W, hW⟩ : ∃ W, setAll U false V = W := ⟨_, rfl⟩
            rw [hW] at hn hWl
            rw [hW]
            (repeat' (first | refine g_seq (h := ?_) | refine g_region (h := ?_) | refine l_nil (h := ?_) | refine n_then (h := ?_) | refine l_pures1 (h := ?_) | (refine l_at 52 ?_; refine l_call (Has_does W root (by omega) (by omega)) ?_) | (refine l_at 54 ?_; refine l_call (Sync_does db D) ?_) | (refine l_at 53 ?_; refine l_call (toldS_does b db bf bg S D.sync.1) ?_) | refine l_guard_yes (h := ?_) | refine l_guard_no (h := ?_) | refine l_load (h := ?_) | refine g_skip (h := ?_) | refine g_ret (h := ?_) | refine n_then_ret (h := ?_) | refine g_exit (h := ?_) | refine n_then_exit (h := ?_) | refine n_block_hit (h := ?_) | refine g_cond_f (h := ?_) | (refine l_sp (h1 := ?_) (h0 := ?_) <;> intro h) | (refine g_spF (h := ?_); intro h) | (refine g_sp (h1 := ?_) (h0 := ?_) <;> intro h)))
            · have e : S.commit D root = (1, S, D) := by simp [Sh.commit, hn, *]
              rw [e]
              (refine n_shut (A := Store b db S) (K := StoreK b db S ((bf, bg))) (hid_shuts ((bf, bg)) ok) (h := ?_) (p := by dsimp only [StoreK]; (try simp only [List.map_nil, List.length_nil, List.length_set, List.length_append, List.length_cons, List.length_singleton, List.map_append, List.map_cons, Nat.zero_add]); exact parts_of))
              refine r_retk [Store b db S, Disk db D] ?_
              exact ⟨rfl, rfl⟩
            · have hroot : ¬(root ≠ 0 ∧ hasB W root = false) := by rintro ⟨q1, q2⟩; first | exact q1 (by assumption) | (have q3 : hasB W root = true := (by assumption); rw [q3] at q2; cases q2)
              have e : S.commit D root = (6, S, D) := by rw [Sh.commit, if_neg (by simp [*]), hn, if_neg hroot, if_pos (by assumption)]
              rw [e]
              (refine n_shut (A := Store b db S) (K := StoreK b db S ((bf, bg))) (hid_shuts ((bf, bg)) ok) (h := ?_) (p := by dsimp only [StoreK]; (try simp only [List.map_nil, List.length_nil, List.length_set, List.length_append, List.length_cons, List.length_singleton, List.map_append, List.map_cons, Nat.zero_add]); exact parts_of))
              refine r_retk [Store b db S, Disk db D] ?_
              exact ⟨rfl, rfl⟩
            · have hle : ¬ S.gen + 1 > 281474976710655 := by assumption
              have hroot : ¬(root ≠ 0 ∧ hasB W root = false) := by rintro ⟨q1, q2⟩; first | exact q1 (by assumption) | (have q3 : hasB W root = true := (by assumption); rw [q3] at q2; cases q2)
              have e : S.commit D root = (D.sync.1, S.told D.sync.1, D.sync.2) := by rw [Sh.commit, if_neg (by simp [*]), hn, if_neg hroot, if_neg hle, if_pos (by assumption)]
              rw [e]
              (refine n_shut (A := Store b db (S.told D.sync.1)) (K := StoreK b db (S.told D.sync.1) ((bf, bg))) (hid_shuts ((bf, bg)) (Sh.told_ok ok)) (h := ?_) (p := by dsimp only [StoreK]; (try simp only [List.map_nil, List.length_nil, List.length_set, List.length_append, List.length_cons, List.length_singleton, List.map_append, List.map_cons, Nat.zero_add, Sh.told]); exact parts_of))
              refine r_retk [Store b db (S.told D.sync.1), Disk db D.sync.2] ?_
              exact ⟨rfl, rfl⟩
            · have hs0 : D.sync.1 = 0 := by assumption
              have hle : ¬ S.gen + 1 > 281474976710655 := by assumption
              have hroot : ¬(root ≠ 0 ∧ hasB W root = false) := by rintro ⟨q1, q2⟩; first | exact q1 (by assumption) | (have q3 : hasB W root = true := (by assumption); rw [q3] at q2; cases q2)
              have hdn : (S.told D.sync.1).down = S.down := by simp [Sh.told, hs0]
              have hr0 : 0 ≤ root ∧ root < 640 := by have := hasB_lt (b := W) (i := root) (by assumption); rw [hWl] at this; omega
              have hqo : Hd.ok ⟨S.gen + 1, root, W⟩ := ⟨⟨by dsimp only; omega, by dsimp only; omega⟩, ⟨by dsimp only; omega, by dsimp only; omega⟩, by dsimp only; omega⟩
              obtain ⟨L, hL⟩ : ∃ L, Hd.lay ⟨S.gen + 1, root, W⟩ D.sync.2 = L := ⟨_, rfl⟩
              have hlay := lay_does ⟨S.gen + 1, root, W⟩ hqo db D.sync.2
              rw [hL] at hlay
              dsimp only [Hd.v] at hlay
              rw [hdn]
              (refine g_draw [cl bh 99 [.int .i64 (S.gen + 1), .int .i64 root, .string (str W)]] (h := a_pass2 (h := ?_)))
              (repeat' (first | refine g_seq (h := ?_) | refine g_region (h := ?_) | refine l_nil (h := ?_) | refine n_then (h := ?_) | refine l_pures1 (h := ?_) | (refine l_at 55 ?_; refine l_call (hlay) ?_) | (refine l_at 53 ?_; refine l_call (toldS_does b db bf bg S L.1) ?_) | (refine l_at 21 ?_; refine l_call_ (roll0_does b (.pointer (some ⟨db, 0, none⟩)) (.int .i64 (S.gen + 1)) (.int .i64 root) (.string (str W)) (.map (some bf)) (.map (some bg)) (.bool (S.told L.1).down)) ?_; rintro _ _ _ ⟨b1, b2, rfl, rfl⟩ he; cases he) | refine l_load (h := ?_) | refine l_store (h := ?_) | refine g_skip (h := ?_) | refine g_ret (h := ?_) | refine n_then_ret (h := ?_) | refine a_done (h := ?_) | refine a_load (h := a_pass2 (h := ?_)) | refine a_one (h := ?_) | refine n_any (h := a_pass2 (h := ?_)) | (refine g_sp (h1 := ?_) (h0 := ?_) <;> intro h)))
              · have e : S.commit D root = (L.1, S.told L.1, L.2) := by rw [Sh.commit, if_neg (by simp [*]), hn, if_neg hroot, if_neg hle, if_neg (fun q => q hs0), hL, if_pos (by assumption)]
                rw [e]
                (refine n_shut (A := Store b db (S.told L.1)) (K := StoreK b db (S.told L.1) ((bf, bg))) (hid_shuts ((bf, bg)) (Sh.told_ok ok)) (h := ?_) (p := by dsimp only [StoreK]; (try simp only [List.map_nil, List.length_nil, List.length_set, List.length_append, List.length_cons, List.length_singleton, List.map_append, List.map_cons, Nat.zero_add, Sh.told]); exact parts_of))
                refine r_retk [Store b db (S.told L.1), Disk db L.2] ?_
                exact ⟨rfl, rfl⟩
              · have hl0 : L.1 = 0 := by assumption
                have e : S.commit D root = (0, Hd.over ⟨S.gen + 1, root, W⟩, L.2) := by rw [Sh.commit, if_neg (by simp [*]), hn, if_neg hroot, if_neg hle, if_neg (fun q => q hs0), hL, if_neg (fun q => q hl0)]
                have hdn2 : (S.told L.1).down = false := by simp [Sh.told, hl0, *]
                rw [e, hdn2]
                (refine n_shut (A := Store b db (Hd.over ⟨S.gen + 1, root, W⟩)) (K := StoreK b db (Hd.over ⟨S.gen + 1, root, W⟩) ((b1, b2))) (hid_shuts ((b1, b2)) ⟨hqo.g, hr0, hWl, ⟨by simp [Hd.over], by simp [Hd.over]⟩, ⟨by simp [Hd.over], by simp [Hd.over]⟩⟩) (h := ?_) (p := by dsimp only [StoreK]; (try simp only [List.map_nil, List.length_nil, List.length_set, List.length_append, List.length_cons, List.length_singleton, List.map_append, List.map_cons, Nat.zero_add, Hd.over, tt]); exact parts_of))
                refine r_retk [Store b db (Hd.over ⟨S.gen + 1, root, W⟩), Disk db L.2] ?_
                exact ⟨rfl, rfl⟩
            · have hroot : ¬(root ≠ 0 ∧ hasB W root = false) := by rintro ⟨q1, q2⟩; first | exact q1 (by assumption) | (have q3 : hasB W root = true := (by assumption); rw [q3] at q2; cases q2)
              have e : S.commit D root = (6, S, D) := by rw [Sh.commit, if_neg (by simp [*]), hn, if_neg hroot, if_pos (by assumption)]
              rw [e]
              (refine n_shut (A := Store b db S) (K := StoreK b db S ((bf, bg))) (hid_shuts ((bf, bg)) ok) (h := ?_) (p := by dsimp only [StoreK]; (try simp only [List.map_nil, List.length_nil, List.length_set, List.length_append, List.length_cons, List.length_singleton, List.map_append, List.map_cons, Nat.zero_add]); exact parts_of))
              refine r_retk [Store b db S, Disk db D] ?_
              exact ⟨rfl, rfl⟩
            · have hle : ¬ S.gen + 1 > 281474976710655 := by assumption
              have hroot : ¬(root ≠ 0 ∧ hasB W root = false) := by rintro ⟨q1, q2⟩; first | exact q1 (by assumption) | (have q3 : hasB W root = true := (by assumption); rw [q3] at q2; cases q2)
              have e : S.commit D root = (D.sync.1, S.told D.sync.1, D.sync.2) := by rw [Sh.commit, if_neg (by simp [*]), hn, if_neg hroot, if_neg hle, if_pos (by assumption)]
              rw [e]
              (refine n_shut (A := Store b db (S.told D.sync.1)) (K := StoreK b db (S.told D.sync.1) ((bf, bg))) (hid_shuts ((bf, bg)) (Sh.told_ok ok)) (h := ?_) (p := by dsimp only [StoreK]; (try simp only [List.map_nil, List.length_nil, List.length_set, List.length_append, List.length_cons, List.length_singleton, List.map_append, List.map_cons, Nat.zero_add, Sh.told]); exact parts_of))
              refine r_retk [Store b db (S.told D.sync.1), Disk db D.sync.2] ?_
              exact ⟨rfl, rfl⟩
            · have hs0 : D.sync.1 = 0 := by assumption
              have hle : ¬ S.gen + 1 > 281474976710655 := by assumption
              have hroot : ¬(root ≠ 0 ∧ hasB W root = false) := by rintro ⟨q1, q2⟩; first | exact q1 (by assumption) | (have q3 : hasB W root = true := (by assumption); rw [q3] at q2; cases q2)
              have hdn : (S.told D.sync.1).down = S.down := by simp [Sh.told, hs0]
              have hr0 : 0 ≤ root ∧ root < 640 := by omega
              have hqo : Hd.ok ⟨S.gen + 1, root, W⟩ := ⟨⟨by dsimp only; omega, by dsimp only; omega⟩, ⟨by dsimp only; omega, by dsimp only; omega⟩, by dsimp only; omega⟩
              obtain ⟨L, hL⟩ : ∃ L, Hd.lay ⟨S.gen + 1, root, W⟩ D.sync.2 = L := ⟨_, rfl⟩
              have hlay := lay_does ⟨S.gen + 1, root, W⟩ hqo db D.sync.2
              rw [hL] at hlay
              dsimp only [Hd.v] at hlay
              rw [hdn]
              (refine g_draw [cl bh 99 [.int .i64 (S.gen + 1), .int .i64 root, .string (str W)]] (h := a_pass2 (h := ?_)))
              (repeat' (first | refine g_seq (h := ?_) | refine g_region (h := ?_) | refine l_nil (h := ?_) | refine n_then (h := ?_) | refine l_pures1 (h := ?_) | (refine l_at 55 ?_; refine l_call (hlay) ?_) | (refine l_at 53 ?_; refine l_call (toldS_does b db bf bg S L.1) ?_) | (refine l_at 21 ?_; refine l_call_ (roll0_does b (.pointer (some ⟨db, 0, none⟩)) (.int .i64 (S.gen + 1)) (.int .i64 root) (.string (str W)) (.map (some bf)) (.map (some bg)) (.bool (S.told L.1).down)) ?_; rintro _ _ _ ⟨b1, b2, rfl, rfl⟩ he; cases he) | refine l_load (h := ?_) | refine l_store (h := ?_) | refine g_skip (h := ?_) | refine g_ret (h := ?_) | refine n_then_ret (h := ?_) | refine a_done (h := ?_) | refine a_load (h := a_pass2 (h := ?_)) | refine a_one (h := ?_) | refine n_any (h := a_pass2 (h := ?_)) | (refine g_sp (h1 := ?_) (h0 := ?_) <;> intro h)))
              · have e : S.commit D root = (L.1, S.told L.1, L.2) := by rw [Sh.commit, if_neg (by simp [*]), hn, if_neg hroot, if_neg hle, if_neg (fun q => q hs0), hL, if_pos (by assumption)]
                rw [e]
                (refine n_shut (A := Store b db (S.told L.1)) (K := StoreK b db (S.told L.1) ((bf, bg))) (hid_shuts ((bf, bg)) (Sh.told_ok ok)) (h := ?_) (p := by dsimp only [StoreK]; (try simp only [List.map_nil, List.length_nil, List.length_set, List.length_append, List.length_cons, List.length_singleton, List.map_append, List.map_cons, Nat.zero_add, Sh.told]); exact parts_of))
                refine r_retk [Store b db (S.told L.1), Disk db L.2] ?_
                exact ⟨rfl, rfl⟩
              · have hl0 : L.1 = 0 := by assumption
                have e : S.commit D root = (0, Hd.over ⟨S.gen + 1, root, W⟩, L.2) := by rw [Sh.commit, if_neg (by simp [*]), hn, if_neg hroot, if_neg hle, if_neg (fun q => q hs0), hL, if_neg (fun q => q hl0)]
                have hdn2 : (S.told L.1).down = false := by simp [Sh.told, hl0, *]
                rw [e, hdn2]
                (refine n_shut (A := Store b db (Hd.over ⟨S.gen + 1, root, W⟩)) (K := StoreK b db (Hd.over ⟨S.gen + 1, root, W⟩) ((b1, b2))) (hid_shuts ((b1, b2)) ⟨hqo.g, hr0, hWl, ⟨by simp [Hd.over], by simp [Hd.over]⟩, ⟨by simp [Hd.over], by simp [Hd.over]⟩⟩) (h := ?_) (p := by dsimp only [StoreK]; (try simp only [List.map_nil, List.length_nil, List.length_set, List.length_append, List.length_cons, List.length_singleton, List.map_append, List.map_cons, Nat.zero_add, Hd.over, tt]); exact parts_of))
                refine r_retk [Store b db (Hd.over ⟨S.gen + 1, root, W⟩), Disk db L.2] ?_
                exact ⟨rfl, rfl⟩
        · rfl
        · simp only [List.take_zero, setAll, List.foldl_nil]
          (intro _ i; exact inv_keep parts_of i)
    · rfl
    · simp only [List.take_zero, setAll, List.foldl_nil]
      (intro _ i; exact inv_keep parts_of i)
end Go.Proofs.YtpbibhhjbigdhaaGreat
/- Package tree: what a call under way does with nodes and pages. -/
set_option maxRecDepth 20000
set_option linter.unusedVariables false
set_option linter.unusedSimpArgs false
namespace Go.Proofs.YtpbibhhjbigdhaaGreat
open Go.Proofs.YtpbibhhjbigdhaaGreat.SL

/-- A call under way: its store, the nodes that were read, its error. -/
abbrev Wk (b sb : Nat) (read e : Int) : SProp := cl b 74 [.pointer (some ⟨sb, 0, none⟩), .int .i64 read, .int .i64 e]

theorem wFail0_does (b sb : Nat) (read : Int) : Does Tryz.prog 39 [.pointer (some ⟨b, 0, none⟩), .int .i64 0] [Wk b sb read 0] (fun v H => v = .bool false ∧ H = [Wk b sb read 0]) := by
  refine does_of Tryz.func39 Tryz.ntmps39 rfl rfl rfl (fun w0 F0 => ?_)
  (repeat' (first | refine g_seq (h := ?_) | refine g_region (h := ?_) | refine l_nil (h := ?_) | refine n_then (h := ?_) | refine l_pures1 (h := ?_) | refine l_load (h := ?_) | refine l_store (h := ?_) | refine g_ret (h := ?_) | refine g_cond_t (h := ?_)))
  refine r_ret ?_
  exact ⟨rfl, rfl⟩
theorem wFailE_does (b sb : Nat) (read e : Int) (he : e ≠ 0) : Does Tryz.prog 39 [.pointer (some ⟨b, 0, none⟩), .int .i64 e] [Wk b sb read 0] (fun v H => v = .bool true ∧ H = [Wk b sb read e]) := by
  refine does_of Tryz.func39 Tryz.ntmps39 rfl rfl rfl (fun w0 F0 => ?_)
  (repeat' (first | refine g_seq (h := ?_) | refine g_region (h := ?_) | refine l_nil (h := ?_) | refine n_then (h := ?_) | refine l_pures1 (h := ?_) | refine l_load (h := ?_) | refine l_store (h := ?_) | refine g_ret (h := ?_) | refine g_cond_t (h := ?_)))
  refine r_ret ?_
  exact ⟨by simp [he, packV], rfl⟩

set_option maxHeartbeats 1000000 in
theorem wNode_does (b sb db deep : Nat) (at' read : Int) (S : Sh) (D : Dk) (d : Nd) (hd : d.good) (hr : S.read D at' = ((2, d.text, 0), S)) (h1 : 0 ≤ read ∧ read < 640) (h2 : deep ≤ 10) :
    Does Tryz.prog 47 [.pointer (some ⟨b, 0, none⟩), .int .i64 at', .int .i64 deep] [Wk b sb read 0, Store sb db S, Disk db D]
      (fun v H => ∃ r, v = ndV d r ∧ H = [Nds d r, Wk b sb (read + 1) 0, Store sb db S, Disk db D]) := by
  have hR := sRead_does sb db S D at'
  rw [hr] at hR
  dsimp only at hR
  have hD := Decode_does d hd
  have hF := wFail0_does b sb (read + 1)
  have ew : IntKind.i64.wrap (read + 1) = read + 1 := wrapI64 (by omega)
  refine does_of Tryz.func47 Tryz.ntmps47 rfl rfl rfl (fun w0 F0 => ?_)
  (repeat (first | refine g_seq (h := ?_) | refine g_region (h := ?_) | refine l_nil (h := ?_) | refine n_then (h := ?_) | refine l_pures1 (h := ?_) | refine l_load (h := ?_) | refine l_store (h := ?_) | (refine l_alloc (h := ?_); intro _)))
  rw [ew]
  (repeat' (first | refine g_seq (h := ?_) | refine g_region (h := ?_) | refine l_nil (h := ?_) | refine n_then (h := ?_) | refine l_pures1 (h := ?_) | (refine l_atc ?_; refine l_call (hR) ?_) | (refine l_atc ?_; refine l_call (hF) ?_) | (refine l_atc ?_; refine l_call_ (hD) ?_; rintro _ _ _ ⟨r, rfl, rfl⟩ he; cases he) | refine l_guard_yes (h := ?_) | refine l_load (h := ?_) | refine l_store (h := ?_) | refine g_skip (h := ?_) | refine g_ret (h := ?_) | refine g_cond_f (h := ?_) | (refine g_spF (h := ?_); intro h)))
  refine r_retk [Nds d r, Wk b sb (read + 1) 0, Store sb db S, Disk db D] ?_
  exact ⟨r, rfl, rfl⟩

set_option maxHeartbeats 1000000 in
/-- A node is laid on a fresh page. -/
theorem wWrite_does (b sb db : Nat) (at' read : Int) (S S' : Sh) (D D' : Dk) (d : Nd) (r : Rw) (hd : d.good) (hw : S.write D at' 2 d.text = (0, S', D')) :
    Does Tryz.prog 66 [.pointer (some ⟨b, 0, none⟩), .int .i64 at', ndV d r] [Wk b sb read 0, Store sb db S, Disk db D, Nds d r]
      (fun v H => v = .int .i64 at' ∧ H = [Wk b sb read 0, Store sb db S', Disk db D', Nds d r]) := by
  have hlen := d.text_len hd.p
  have hsz := hd.size
  have hW := sWrite_does sb db S D at' 2 d.text (by omega)
  rw [hw] at hW
  dsimp only at hW
  have hE := Encode_does d r hd
  have hF := wFail0_does b sb read
  refine does_of Tryz.func66 Tryz.ntmps66 rfl rfl rfl (fun w0 F0 => ?_)
  (repeat' (first | refine g_seq (h := ?_) | refine g_region (h := ?_) | refine l_nil (h := ?_) | refine n_then (h := ?_) | refine l_pures1 (h := ?_) | (refine l_atc ?_; refine l_call (hE) ?_) | (refine l_atc ?_; refine l_call (hW) ?_) | (refine l_atc ?_; refine l_call (hF) ?_) | refine l_load (h := ?_) | (refine l_box (h := ?_); intro _) | refine g_ret (h := ?_) | refine g_cond_f (h := ?_)))
  refine r_retk [Wk b sb read 0, Store sb db S', Disk db D', Nds d r] ?_
  exact ⟨rfl, rfl⟩

set_option maxHeartbeats 1000000 in
/-- A node is laid on a page that is taken. -/
theorem wFresh_does (b sb db : Nat) (at' read : Int) (S S' S'' : Sh) (D D' : Dk) (d : Nd) (r : Rw) (hd : d.good) (ht : S.take D = ((at', 0), S')) (hw : S'.write D at' 2 d.text = (0, S'', D')) :
    Does Tryz.prog 29 [.pointer (some ⟨b, 0, none⟩), ndV d r] [Wk b sb read 0, Store sb db S, Disk db D, Nds d r]
      (fun v H => v = .int .i64 at' ∧ H = [Wk b sb read 0, Store sb db S'', Disk db D', Nds d r]) := by
  have hT := sTake_does sb db S D
  rw [ht] at hT
  dsimp only at hT
  have hW := wWrite_does b sb db at' read S' S'' D D' d r hd hw
  have hF := wFail0_does b sb read
  refine does_of Tryz.func29 Tryz.ntmps29 rfl rfl rfl (fun w0 F0 => ?_)
  (repeat' (first | refine g_seq (h := ?_) | refine g_region (h := ?_) | refine l_nil (h := ?_) | refine n_then (h := ?_) | refine l_pures1 (h := ?_) | (refine l_atc ?_; refine l_call (hT) ?_) | (refine l_atc ?_; refine l_call (hW) ?_) | (refine l_atc ?_; refine l_call (hF) ?_) | refine l_load (h := ?_) | (refine l_box (h := ?_); intro _) | refine g_skip (h := ?_) | refine g_ret (h := ?_) | refine g_cond_f (h := ?_)))
  refine r_retk [Wk b sb read 0, Store sb db S'', Disk db D', Nds d r] ?_
  exact ⟨rfl, rfl⟩

set_option maxHeartbeats 1000000 in
/-- There is no page left. -/
theorem wFull_does (b sb db : Nat) (read : Int) (S : Sh) (D : Dk) (d : Nd) (r : Rw) (ht : S.take D = ((0, 4), S)) :
    Does Tryz.prog 29 [.pointer (some ⟨b, 0, none⟩), ndV d r] [Wk b sb read 0, Store sb db S, Disk db D, Nds d r]
      (fun v H => v = .int .i64 0 ∧ H = [Wk b sb read 4, Store sb db S, Disk db D, Nds d r]) := by
  have hT := sTake_does sb db S D
  rw [ht] at hT
  dsimp only at hT
  have hF := wFailE_does b sb read 4 (by omega)
  refine does_of Tryz.func29 Tryz.ntmps29 rfl rfl rfl (fun w0 F0 => ?_)
  (repeat' (first | refine g_seq (h := ?_) | refine g_region (h := ?_) | refine l_nil (h := ?_) | refine n_then (h := ?_) | refine l_pures1 (h := ?_) | (refine l_atc ?_; refine l_call (hT) ?_) | (refine l_atc ?_; refine l_call (hF) ?_) | refine l_load (h := ?_) | (refine l_box (h := ?_); intro _) | refine g_ret (h := ?_) | refine n_then_ret (h := ?_) | refine g_cond_t (h := ?_)))
  refine r_retk [Wk b sb read 4, Store sb db S, Disk db D, Nds d r] ?_
  exact ⟨rfl, rfl⟩

set_option maxHeartbeats 1000000 in
/-- A node is laid anew: its page is fresh. -/
theorem wLayF_does (b sb db : Nat) (at' read : Int) (S S' : Sh) (D D' : Dk) (d : Nd) (r : Rw) (hd : d.good) (hf : at' ∈ S.fresh) (hw : S.write D at' 2 d.text = (0, S', D')) :
    Does Tryz.prog 35 [.pointer (some ⟨b, 0, none⟩), .int .i64 at', ndV d r] [Wk b sb read 0, Store sb db S, Disk db D, Nds d r]
      (fun v H => v = .int .i64 at' ∧ H = [Wk b sb read 0, Store sb db S', Disk db D', Nds d r]) := by
  have hT := sFresh_does sb db S at'
  rw [decide_eq_true hf] at hT
  have hW := wWrite_does b sb db at' read S S' D D' d r hd hw
  refine does_of Tryz.func35 Tryz.ntmps35 rfl rfl rfl (fun w0 F0 => ?_)
  (repeat' (first | refine g_seq (h := ?_) | refine g_region (h := ?_) | refine l_nil (h := ?_) | refine n_then (h := ?_) | refine l_pures1 (h := ?_) | (refine l_atc ?_; refine l_call (hT) ?_) | (refine l_atc ?_; refine l_call (hW) ?_) | refine l_load (h := ?_) | (refine l_box (h := ?_); intro _) | refine g_ret (h := ?_) | refine n_then_ret (h := ?_) | refine g_cond_t (h := ?_)))
  refine r_retk [Wk b sb read 0, Store sb db S', Disk db D', Nds d r] ?_
  exact ⟨rfl, rfl⟩

set_option maxHeartbeats 1000000 in
/-- A node is laid anew: its page counts, and is given; another one is taken, or there is none. -/
theorem wLayG_does (b sb db : Nat) (at' read x e : Int) (S S1 S2 : Sh) (D D2 : Dk) (d : Nd) (r : Rw) (ha : -9223372036854775808 ≤ at' ∧ at' < 9223372036854775808) (hf : at' ∉ S.fresh) (hg : S.give at' = (0, S1))
    (hw : Does Tryz.prog 29 [.pointer (some ⟨b, 0, none⟩), ndV d r] [Wk b sb read 0, Store sb db S1, Disk db D, Nds d r] (fun v H => v = .int .i64 x ∧ H = [Wk b sb read e, Store sb db S2, Disk db D2, Nds d r])) :
    Does Tryz.prog 35 [.pointer (some ⟨b, 0, none⟩), .int .i64 at', ndV d r] [Wk b sb read 0, Store sb db S, Disk db D, Nds d r]
      (fun v H => v = .int .i64 x ∧ H = [Wk b sb read e, Store sb db S2, Disk db D2, Nds d r]) := by
  have hT := sFresh_does sb db S at'
  rw [decide_eq_false hf] at hT
  have hG := sGive_does sb db S at' ha
  rw [hg] at hG
  dsimp only at hG
  have hF := wFail0_does b sb read
  refine does_of Tryz.func35 Tryz.ntmps35 rfl rfl rfl (fun w0 F0 => ?_)
  (repeat' (first | refine g_seq (h := ?_) | refine g_region (h := ?_) | refine l_nil (h := ?_) | refine n_then (h := ?_) | refine l_pures1 (h := ?_) | (refine l_atc ?_; refine l_call (hT) ?_) | (refine l_atc ?_; refine l_call (hG) ?_) | (refine l_atc ?_; refine l_call (hF) ?_) | (refine l_atc ?_; refine l_call (hw) ?_) | refine l_load (h := ?_) | (refine l_box (h := ?_); intro _) | refine g_skip (h := ?_) | refine g_ret (h := ?_) | refine g_cond_f (h := ?_)))
  refine r_retk [Wk b sb read e, Store sb db S2, Disk db D2, Nds d r] ?_
  exact ⟨rfl, rfl⟩
end Go.Proofs.YtpbibhhjbigdhaaGreat
/- Package tree: the stack of a way. -/
set_option maxRecDepth 20000
set_option linter.unusedVariables false
set_option linter.unusedSimpArgs false
namespace Go.Proofs.YtpbibhhjbigdhaaGreat
open Go.Proofs.YtpbibhhjbigdhaaGreat.SL

/-- The row of a slice that has been cut. -/
theorem vec_cut {e sz m k cap : Nat} {p : Option Addr} {xs ys : List Value} {w0 w : World} {F0 : Nat → Prop} {H : List SProp} (hx : xs.length = m * sz) (i : Inv w0 F0 (vec e sz p (m + k) cap (xs ++ ys) :: H) w) : Inv w0 F0 (vec e sz p m cap xs :: H) w := by
  refine i.imp fun {h F} s => ⟨F, ?_, fun _ h => h⟩
  obtain ⟨F1, F2, ⟨hl, o⟩, s', dj, un⟩ := s
  refine ⟨F1, F2, ⟨hx, ?_⟩, s', dj, un⟩
  rcases o with ⟨e1, e2, e3, e4⟩ | ⟨g, rest, h1, h2, h3, h4, h5⟩
  · exact .inl ⟨e1, by omega, e3, e4⟩
  · refine .inr ⟨g, ys ++ rest, h1, by omega, h3, by rw [← List.append_assoc]; exact h4, by rw [← List.append_assoc]; exact h5⟩

/-- A spot: a page, its node, and where the node's rows are, the place of a kid. -/
structure Sp where
  pg : Int
  d : Nd
  r : Rw
  i : Nat
abbrev Sp.v (s : Sp) : Value := .agg #[.int .i64 s.pg, .bool s.d.leaf, .slice s.r.p1 s.d.keys.length s.r.c1, .slice s.r.p2 s.d.vals.length s.r.c2, .slice s.r.p3 s.d.kids.length s.r.c3, .int .i64 s.i]
def Sp.c (s : Sp) : List Value := [.int .i64 s.pg, .bool s.d.leaf, .slice s.r.p1 s.d.keys.length s.r.c1, .slice s.r.p2 s.d.vals.length s.r.c2, .slice s.r.p3 s.d.kids.length s.r.c3, .int .i64 s.i]
def spC (l : List Sp) : List Value := l.flatMap Sp.c
theorem spC_len : ∀ l : List Sp, (spC l).length = l.length * 6
  | [] => rfl
  | s :: l => by
    have := spC_len l
    simp only [spC, List.flatMap_cons, List.length_append, List.length_cons] at *
    simp only [Sp.c, List.length_cons, List.length_nil]; omega
theorem spC_snoc (l : List Sp) (s : Sp) : spC (l ++ [s]) = spC l ++ s.c := by simp [spC]
abbrev StkK (b : Nat) (l : List Sp) (x : Option Addr × Nat) : List SProp := [cl b 94 [.slice x.1 l.length x.2], vec 83 6 x.1 l.length x.2 (spC l)]
def Stk (b : Nat) (l : List Sp) : SProp := hid (fun _ : Option Addr × Nat => True) (StkK b l)

theorem part_spot (l : List Sp) (s : Sp) : partV env 83 (spC l ++ s.c) (0 + ((l.length : Nat) : Int).toNat * 6) = some s.v := by
  have e : 0 + ((l.length : Nat) : Int).toNat * 6 = (spC l).length := by rw [spC_len, Int.toNat_natCast, Nat.zero_add]
  have h : cutL (spC l ++ s.c) (spC l).length 6 = some s.c := by
    rw [cutL_of (by simp [Sp.c])]
    simp [Sp.c]
  rw [e]
  show (match cutL (spC l ++ s.c) (spC l).length 6 with
        | some r => some (Value.agg r.toArray)
        | none => none) = _
  rw [h]
  rfl

set_option maxHeartbeats 1000000 in
theorem push_does (b : Nat) (l : List Sp) (s : Sp) (hl : l.length < 100) : Does Tryz.prog 67 [.pointer (some ⟨b, 0, none⟩), s.v] [Stk b l] (fun v H => v = .tuple #[] ∧ H = [Stk b (l ++ [s])]) := by
  have e0 : (l ++ [s]).length = l.length + 1 := by simp
  have e1 : spC l ++ #[Value.int .i64 s.pg, .bool s.d.leaf, .slice s.r.p1 s.d.keys.length s.r.c1, .slice s.r.p2 s.d.vals.length s.r.c2, .slice s.r.p3 s.d.kids.length s.r.c3, .int .i64 s.i].toList = spC (l ++ [s]) := (spC_snoc l s).symm
  refine does_of Tryz.func67 Tryz.ntmps67 rfl rfl rfl (fun w0 F0 => ?_)
  refine g_open (A := Stk b l) (h := ?_); (rintro ⟨p, cap⟩ _; dsimp only [StkK, List.cons_append, List.nil_append])
  (repeat' (first | refine g_seq (h := ?_) | refine g_region (h := ?_) | refine l_nil (h := ?_) | refine n_then (h := ?_) | (refine l_box (h := ?_); intro _)))
  rename_i b1
  (refine g_draw [cl b1 83 _] (h := a_pass2 (h := ?_)))
  (repeat' (first | refine l_nil (h := ?_) | refine l_load (h := ?_) | refine l_store (h := ?_) | (refine l_buildSlice1 (h := ?_); intro _) | (refine l_append_new (h := ?_); intro _ _) | refine a_done (h := ?_) | refine a_load (h := a_pass2 (h := ?_)) | refine a_one (h := ?_) | refine n_any (h := a_pass2 (h := ?_)) | refine a_fork2 (h1 := ?_) (h2 := ?_) | refine a1_of (h := ?_)))
  all_goals rename_i b2 p' cap'
  all_goals
    rw [← e0, e1]
  all_goals
    (refine n_shut (A := Stk b (l ++ [s])) (K := StkK b (l ++ [s]) ((p', cap'))) (hid_shuts ((p', cap')) trivial) (h := ?_) (p := by dsimp only [StkK]; (try simp only [List.map_nil, List.length_nil, List.length_set, List.length_append, List.length_cons, List.length_singleton, List.map_append, List.map_cons, Nat.zero_add]); exact parts_of))
  all_goals
    refine r_endk [Stk b (l ++ [s])] ?_
  all_goals exact ⟨rfl, rfl⟩

set_option maxHeartbeats 1000000 in
theorem popNone_does (b : Nat) : Does Tryz.prog 31 [.pointer (some ⟨b, 0, none⟩)] [Stk b []] (fun v H => v = .tuple #[.agg #[.int .i64 0, .bool false, .slice none 0 0, .slice none 0 0, .slice none 0 0, .int .i64 0], .bool false] ∧ H = [Stk b []]) := by
  refine does_of Tryz.func31 Tryz.ntmps31 rfl rfl rfl (fun w0 F0 => ?_)
  refine g_open (A := Stk b []) (h := ?_); (rintro ⟨p, cap⟩ _; dsimp only [StkK, List.cons_append, List.nil_append])
  (repeat' (first | refine g_seq (h := ?_) | refine g_region (h := ?_) | refine l_nil (h := ?_) | refine n_then (h := ?_) | refine l_pures1 (h := ?_) | refine l_load (h := ?_) | refine l_store (h := ?_) | (refine l_alloc (h := ?_); intro _) | refine g_ret (h := ?_) | refine n_then_ret (h := ?_) | refine g_cond_t (h := ?_)))
  (refine n_shut (A := Stk b []) (K := StkK b [] ((p, cap))) (hid_shuts ((p, cap)) trivial) (h := ?_) (p := by dsimp only [StkK]; (try simp only [List.map_nil, List.length_nil, List.length_set, List.length_append, List.length_cons, List.length_singleton, List.map_append, List.map_cons, Nat.zero_add]); exact parts_of))
  refine r_retk [Stk b []] ?_
  exact ⟨rfl, rfl⟩

set_option maxHeartbeats 1000000 in
theorem pop_does (b : Nat) (l : List Sp) (s : Sp) (hl : l.length < 100) : Does Tryz.prog 31 [.pointer (some ⟨b, 0, none⟩)] [Stk b (l ++ [s])] (fun v H => v = .tuple #[s.v, .bool true] ∧ H = [Stk b l]) := by
  have e0 : (l ++ [s]).length = l.length + 1 := by simp
  have hp := part_spot l s
  refine does_of Tryz.func31 Tryz.ntmps31 rfl rfl rfl (fun w0 F0 => ?_)
  refine g_open (A := Stk b (l ++ [s])) (h := ?_); (rintro ⟨p, cap⟩ _; dsimp only [StkK, List.cons_append, List.nil_append])
  rw [e0, spC_snoc]
  refine g_ptr (m := l.length + 1) (h := ?_); rintro g rfl hc
  have ew : IntKind.i64.wrap (((l.length + 1 : Nat) : Int) - 1) = (l.length : Int) := by rw [wrapI64 (by omega)]; omega
  (repeat' (first | refine g_seq (h := ?_) | refine g_region (h := ?_) | refine l_nil (h := ?_) | refine n_then (h := ?_) | refine l_pures1 (h := ?_) | refine l_load (h := ?_) | (refine l_alloc (h := ?_); intro _) | refine g_skip (h := ?_) | refine g_cond_f (h := ?_)))
  (refine g_draw [cl b 94 [.slice (some ⟨g, 0, none⟩) (l.length + 1) cap], vec 83 6 (some ⟨g, 0, none⟩) (l.length + 1) cap (spC l ++ s.c)] (h := a_pass2 (h := ?_)))
  (repeat (first | refine l_nil (h := ?_) | refine l_indexAddr (h := ?_) | refine a_load (h := a_pass2 (h := ?_)) | refine a_one (h := ?_) | refine n_any (h := a_pass2 (h := ?_))))
  rw [ew]
  (repeat (first | refine g_seq (h := ?_) | refine l_nil (h := ?_) | refine n_then (h := ?_) | refine l_store (h := ?_) | refine a_done (h := ?_) | refine a_one (h := ?_) | refine n_any (h := a_pass2 (h := ?_)) | refine l_load_vec (h := ?_)))
  (refine g_draw [] (h := a_pass2 (h := ?_)))
  (repeat' (first | refine g_seq (h := ?_) | refine g_region (h := ?_) | refine l_nil (h := ?_) | refine n_then (h := ?_) | refine l_pures1 (h := ?_) | refine l_load (h := ?_) | refine l_store (h := ?_) | refine l_slice (h := ?_) | refine g_ret (h := ?_) | refine a_done (h := ?_) | refine a_one (h := ?_) | refine n_any (h := a_pass2 (h := ?_)) | refine a_fork2 (h1 := ?_) (h2 := ?_) | refine a1_of (h := ?_)))
  all_goals rw [ew]
  all_goals simp only [Int.toNat_natCast, Int.toNat_zero, Nat.zero_mul, Nat.add_zero, Nat.sub_zero]
  all_goals refine n_inv (fun i => vec_cut (spC_len l) (i.take (Take.there (Take.there Take.here)))) ?_
  all_goals
    (refine n_shut (A := Stk b l) (K := StkK b l (((some ⟨g, 0, none⟩ : Option Addr), cap))) (hid_shuts (((some ⟨g, 0, none⟩ : Option Addr), cap)) trivial) (h := ?_) (p := by dsimp only [StkK]; (try simp only [List.map_nil, List.length_nil, List.length_set, List.length_append, List.length_cons, List.length_singleton, List.map_append, List.map_cons, Nat.zero_add]); exact parts_of))
  all_goals
    refine r_retk [Stk b l] ?_
  all_goals exact ⟨rfl, rfl⟩
end Go.Proofs.YtpbibhhjbigdhaaGreat
/- Package tree: the way down to a key. -/
set_option maxRecDepth 20000
set_option linter.unusedVariables false
set_option linter.unusedSimpArgs false
namespace Go.Proofs.YtpbibhhjbigdhaaGreat
open Go.Proofs.YtpbibhhjbigdhaaGreat.SL

abbrev Sp.spot (s : Sp) : Spot := ⟨s.pg, s.d, s.i⟩
/-- The rows of all nodes of a stack. -/
def ndlK (L : List Sp) (_ : Unit) : List SProp := L.map fun s => Nds s.d s.r
def NdL (L : List Sp) : SProp := hid (fun _ : Unit => True) (ndlK L)
theorem ndl_nil {w0 w : World} {F0 : Nat → Prop} {H : List SProp} (i : Inv w0 F0 H w) : Inv w0 F0 (NdL [] :: H) w := Inv.shuts (K := []) (A := NdL []) (show Shuts [] (NdL []) from fun _ _ s => ⟨(), trivial, s⟩) i
theorem spC_nil : spC [] = [] := rfl
theorem ndl_snoc {w0 w : World} {F0 : Nat → Prop} {H : List SProp} {L : List Sp} {s : Sp} (i : Inv w0 F0 (NdL L :: Nds s.d s.r :: H) w) : Inv w0 F0 (NdL (L ++ [s]) :: H) w := by
  obtain ⟨u, _, i⟩ := i.opens (hid_opens (p := fun _ : Unit => True) (K := ndlK L))
  have e : ndlK L () ++ Nds s.d s.r :: H = ndlK (L ++ [s]) () ++ H := by simp [ndlK]
  cases u
  rw [e] at i
  exact i.shuts (hid_shuts () trivial)
theorem ndl_last {w0 w : World} {F0 : Nat → Prop} {H : List SProp} {L : List Sp} {s : Sp} (i : Inv w0 F0 (NdL (L ++ [s]) :: H) w) : Inv w0 F0 (NdL L :: Nds s.d s.r :: H) w := by
  obtain ⟨u, _, i⟩ := i.opens (hid_opens (p := fun _ : Unit => True) (K := ndlK (L ++ [s])))
  have e : ndlK (L ++ [s]) () ++ H = ndlK L () ++ Nds s.d s.r :: H := by simp [ndlK]
  cases u
  rw [e] at i
  exact i.shuts (hid_shuts () trivial)

/-- The way from a page down to the leaf for a key. -/
def Goes (S : Sh) (D : Dk) (x : Nat) : Int → List Spot → Prop
  | _, [] => False
  | pg, s :: l => s.pg = pg ∧ S.read D pg = ((2, s.d.text, 0), S) ∧ s.d.good ∧ (s.d.leaf = true ∧ s.i = posN s.d.keys x ∧ l = [] ∨ s.d.leaf = false ∧ s.i = cntN s.d.keys x ∧ Goes S D x (s.d.kids.getD s.i 0) l)

set_option maxHeartbeats 2000000 in
theorem way_does (b sb db x : Nat) (root read : Int) (S : Sh) (D : Dk) (path : List Spot) (hg : Goes S D x root path) (hl : path.length ≤ 10) (h1 : 0 ≤ read ∧ read + path.length ≤ 640) :
    Does Tryz.prog 30 [.pointer (some ⟨b, 0, none⟩), .int .i64 root, .int .u64 x] [Wk b sb read 0, Store sb db S, Disk db D]
      (fun v H => ∃ b' L, L.map Sp.spot = path ∧ v = .pointer (some ⟨b', 0, none⟩) ∧ H = [Stk b' L, NdL L, Wk b sb (read + path.length) 0, Store sb db S, Disk db D]) := by
  refine does_of Tryz.func30 Tryz.ntmps30 rfl rfl rfl (fun w0 F0 => ?_)
  (repeat (first | refine g_seq (h := ?_) | refine g_region (h := ?_) | refine l_nil (h := ?_) | refine n_then (h := ?_) | refine l_pures1 (h := ?_) | (refine l_box (h := ?_); intro _) | refine g_block (h := ?_)))
  rename_i b'
  refine g_inv (fun i => vec_nil (83) (6) i) ?_
  refine g_inv (H' := [vec 83 6 none 0 0 [], cl b' 94 [.slice none 0 0], Wk b sb read 0, Store sb db S, Disk db D]) (fun i => i) ?_
  (refine g_shut (A := Stk b' []) (K := StkK b' [] (((none : Option Addr), 0))) (hid_shuts (((none : Option Addr), 0)) trivial) (h := ?_) (p := by dsimp only [StkK]; (try simp only [List.map_nil, List.length_nil, List.length_set, List.length_append, List.length_cons, List.length_singleton, List.map_append, List.map_cons, Nat.zero_add, spC_nil]); exact parts_of))
  refine g_inv (fun i => ndl_nil i) ?_
  (refine g_loop (fun y : List Sp × List Spot × Int => [(9, .int .i64 (y.1.length + 1 : Nat)), (8, .int .i64 y.2.2), (7, .pointer (some ⟨b', 0, none⟩)), (0, .pointer (some ⟨b, 0, none⟩)), (2, .int .u64 x)]) (fun y => [Stk b' y.1, NdL y.1, Wk b sb (read + y.1.length) 0, Store sb db S, Disk db D]) (fun y => Goes S D x y.2.2 y.2.1 ∧ y.1.map Sp.spot ++ y.2.1 = path) (fun y => y.2.1.length) (([], path, root)) ?_ ?_ ?_ ?_; rotate_left; (repeat (first | refine ts_nil | (refine ts_cons rfl ?_ ?_; first | (with_reducible rfl) | rotate_left))); (first | (intro _ i; with_reducible refine i) | rotate_left); rotate_left; (try omega); rotate_right)
  · rintro ⟨L, rest, pg⟩ ⟨hgo, hp⟩
    dsimp only at hgo hp ⊢
    cases rest with
    | nil => exact hgo.elim
    | cons s l =>
      obtain ⟨pg', d, i⟩ := s
      obtain ⟨e1, e2, e3, e4⟩ := hgo
      dsimp only at e1 e2 e3 e4
      subst e1
      have hlen : L.length + (l.length + 1) = path.length := by rw [← hp]; simp
      have hn := wNode_does b sb db (L.length + 1) pg' (read + L.length) S D d e3 e2 (by omega) (by omega)
      have hpush := fun r => push_does b' L ⟨pg', d, r, i⟩ (by omega)
      have hF := fun r => Find_does d r x e3.fits e3.p.rise
      rcases e4 with ⟨f1, f2, f3⟩ | ⟨f1, f2, f3⟩
      · simp only [f1, if_true, ← f2] at hF
        (repeat' (first | refine g_seq (h := ?_) | refine g_region (h := ?_) | refine l_nil (h := ?_) | refine n_then (h := ?_) | refine l_pures1 (h := ?_) | (refine l_atc ?_; refine l_call_ (hn) ?_; rintro _ _ _ ⟨r, rfl, rfl⟩ he; cases he) | (refine l_atc ?_; refine l_call (hF _) ?_) | (refine l_atc ?_; refine l_call (hpush _) ?_) | refine l_load (h := ?_) | refine l_store (h := ?_) | (refine l_alloc (h := ?_); intro _) | refine g_skip (h := ?_) | refine g_ret (h := ?_) | refine n_then_ret (h := ?_) | refine n_block_ret (h := ?_) | refine g_block (h := ?_) | refine g_cond_f (h := ?_) | (refine g_sp (h1 := ?_) (h0 := ?_) <;> intro h)))
        · subst f3
          have er : read + (path.length : Int) = read + L.length + 1 := by simp at hlen; omega
          refine n_inv (fun q => ndl_snoc (s := ⟨pg', d, r, i⟩) ((q.take (A := Nds d r) (by with_reducible (repeat (first | refine Take.here | apply Take.there)))).take (A := NdL L) (Take.there (by with_reducible (repeat (first | refine Take.here | apply Take.there)))))) ?_
          refine r_retk [Stk b' (L ++ [⟨pg', d, r, i⟩]), NdL (L ++ [⟨pg', d, r, i⟩]), Wk b sb (read + L.length + 1) 0, Store sb db S, Disk db D] ?_
          exact ⟨b', L ++ [⟨pg', d, r, i⟩], by rw [← hp]; simp, rfl, by rw [er]⟩
        · exact absurd (f1.symm.trans h) (by decide)
      · simp only [f1, Bool.false_eq_true, if_false, ← f2] at hF
        have hkl := e3.p.kids
        simp only [f1, Bool.false_eq_true, if_false] at hkl
        have hci := (cntN_spec (x := x) e3.p.rise).1
        rw [← f2] at hci
        have hfk := e3.fits.k
        (repeat' (first | refine g_seq (h := ?_) | refine g_region (h := ?_) | refine l_nil (h := ?_) | refine n_then (h := ?_) | refine l_pures1 (h := ?_) | (refine l_atc ?_; refine l_call_ (hn) ?_; rintro _ _ _ ⟨r, rfl, rfl⟩ he; cases he) | (refine l_atc ?_; refine l_call (hF _) ?_) | (refine l_atc ?_; refine l_call (hpush _) ?_) | refine l_load (h := ?_) | refine l_store (h := ?_) | (refine l_alloc (h := ?_); intro _) | refine g_skip (h := ?_) | refine g_ret (h := ?_) | refine n_then_ret (h := ?_) | refine n_block_ret (h := ?_) | refine g_block (h := ?_) | refine g_cond_f (h := ?_) | (refine g_sp (h1 := ?_) (h0 := ?_) <;> intro h)))
        · exact absurd (f1.symm.trans h) (by decide)
        · obtain ⟨p1, c1, p2, c2, p3, c3⟩ := r
          refine l_open (A := Nds d ⟨p1, c1, p2, c2, p3, c3⟩) (h := ?_); (rintro _ _; dsimp only [NdsK, List.cons_append, List.nil_append])
          refine l_ptr (m := d.kids.length) (h := ?_); rintro g rfl hc
          have hgk := iGet (l := d.kids) (k := i) (by omega)
          (repeat (first | refine g_region (h := ?_) | refine l_nil (h := ?_) | refine n_then (h := ?_) | refine l_pures1 (h := ?_) | refine l_indexAddr (h := ?_) | refine n_block (h := ?_) | refine l_load_vec (h := ?_)))
          (refine n_shut (A := Nds d ⟨p1, c1, p2, c2, some ⟨g, 0, none⟩, c3⟩) (K := NdsK d ⟨p1, c1, p2, c2, some ⟨g, 0, none⟩, c3⟩ (())) (hid_shuts (()) trivial) (h := ?_) (p := by dsimp only [NdsK]; (try simp only [List.map_nil, List.length_nil, List.length_set, List.length_append, List.length_cons, List.length_singleton, List.map_append, List.map_cons, Nat.zero_add]); exact parts_of))
          refine n_inv (fun q => ndl_snoc (s := ⟨pg', d, ⟨p1, c1, p2, c2, some ⟨g, 0, none⟩, c3⟩, i⟩) ((q.take (A := Nds d ⟨p1, c1, p2, c2, some ⟨g, 0, none⟩, c3⟩) (by with_reducible (repeat (first | refine Take.here | apply Take.there)))).take (A := NdL L) (Take.there (by with_reducible (repeat (first | refine Take.here | apply Take.there)))))) ?_
          (refine n_back ((L ++ [⟨pg', d, ⟨p1, c1, p2, c2, some ⟨g, 0, none⟩, c3⟩, i⟩], l, d.kids.getD i 0)) ?_ ?_ ?_ ?_; rotate_left; rotate_left; (repeat (first | refine ts_nil | (refine ts_cons rfl ?_ ?_; first | (with_reducible rfl) | rotate_left))); (first | (intro _ i; with_reducible refine i) | rotate_left); (try omega); (try omega))
          · exact ⟨f3, by rw [← hp]; simp⟩
          · exact Nat.lt_succ_self _
          · rw [wrapI64 (by omega), List.length_append]; rfl
          · dsimp only
            have er : read + ((L ++ [(⟨pg', d, ⟨p1, c1, p2, c2, some ⟨g, 0, none⟩, c3⟩, i⟩ : Sp)]).length : Int) = read + L.length + 1 := by rw [List.length_append, List.length_singleton]; omega
            rw [er]
            (intro _ i; exact inv_keep parts_of i)
  · exact ⟨hg, rfl⟩
  · rfl
  · dsimp only
    rw [show read + (([] : List Sp).length : Int) = read by simp]
    (intro _ i; exact inv_keep parts_of i)
end Go.Proofs.YtpbibhhjbigdhaaGreat
/- Package tree: Get. -/
set_option maxRecDepth 20000
set_option linter.unusedVariables false
set_option linter.unusedSimpArgs false
namespace Go.Proofs.YtpbibhhjbigdhaaGreat
open Go.Proofs.YtpbibhhjbigdhaaGreat.SL

theorem Goes.last {S : Sh} {D : Dk} {x : Nat} : ∀ {l : List Spot} {s : Spot} {pg : Int}, Goes S D x pg (l ++ [s]) → s.d.good ∧ s.d.leaf = true ∧ s.i = posN s.d.keys x
  | [], s, pg, ⟨_, _, h3, h4⟩ => by
    rcases h4 with ⟨a, b, _⟩ | ⟨_, _, c⟩
    · exact ⟨h3, a, b⟩
    · exact c.elim
  | t :: l, s, pg, ⟨_, _, _, h4⟩ => by
    rcases h4 with ⟨_, _, c⟩ | ⟨_, _, c⟩
    · simp at c
    · exact Goes.last c
theorem Goes.snoc {S : Sh} {D : Dk} {x : Nat} {pg : Int} {path : List Spot} (h : Goes S D x pg path) : ∃ l s, path = l ++ [s] := by
  rcases List.eq_nil_or_concat path with rfl | ⟨l, s, rfl⟩
  · exact h.elim
  · exact ⟨l, s, by simp⟩

set_option maxHeartbeats 2000000 in
theorem Get_does (sb db x : Nat) (root : Int) (S : Sh) (D : Dk) (l0 : List Spot) (s : Spot) (hg : Goes S D x root (l0 ++ [s])) (hl : l0.length + 1 ≤ 10) (hr : root ≠ 0) :
    Does Tryz.prog 16 [.pointer (some ⟨sb, 0, none⟩), .int .i64 root, .int .u64 x] [Store sb db S, Disk db D]
      (fun v H => v = (if x ∈ s.d.keys then .tuple #[.string (str (s.d.vals.getD s.i [])), .bool true, .int .i64 0] else .tuple #[.string (str []), .bool false, .int .i64 0]) ∧ H = [Store sb db S, Disk db D]) := by
  obtain ⟨hd, hlf, hi⟩ := hg.last
  have hw := fun b => way_does b sb db x root 0 S D (l0 ++ [s]) hg (by simp; omega) (by simp; omega)
  have hv := hd.p.vals
  simp only [hlf, if_true] at hv
  refine does_of Tryz.func16 Tryz.ntmps16 rfl rfl rfl (fun w0 F0 => ?_)
  (repeat' (first | refine g_seq (h := ?_) | refine g_region (h := ?_) | refine l_nil (h := ?_) | refine n_then (h := ?_) | refine l_pures1 (h := ?_) | (refine l_box (h := ?_); intro _) | refine g_skip (h := ?_) | (refine g_spF (h := ?_); intro h)))
  rename_i b
  refine l_inv (H' := [Wk b sb 0 0, Store sb db S, Disk db D]) (fun i => i) ?_
  (repeat' (refine l_atc ?_; refine l_call_ (hw b) ?_; rintro _ _ _ ⟨b', L, hL, rfl, rfl⟩ he; cases he))
  obtain ⟨L0, t, rfl⟩ : ∃ L0 t, L = L0 ++ [t] := by
    rcases List.eq_nil_or_concat L with rfl | ⟨l, s, rfl⟩
    · simp at hL
    · exact ⟨l, s, by simp⟩
  have hL2 : L0.map Sp.spot = l0 ∧ t.spot = s := by
    have := congrArg List.reverse hL
    simp at this
    exact ⟨this.2, this.1⟩
  obtain ⟨hL1, hts⟩ := hL2
  subst hts
  have hlen : L0.length = l0.length := by rw [← hL1]; simp
  have hpop := pop_does b' L0 t (by omega)
  refine l_inv (fun q => ndl_last (q.take (A := NdL (L0 ++ [t])) (by with_reducible (repeat (first | refine Take.here | apply Take.there))))) ?_
  have hF := Find_does t.d t.r x hd.fits hd.p.rise
  dsimp only [Sp.spot] at hlf hi hv
  simp only [hlf, if_true] at hF
  rw [← hi] at hF
  (repeat' (first | refine g_seq (h := ?_) | refine g_region (h := ?_) | refine l_nil (h := ?_) | refine n_then (h := ?_) | refine l_pures1 (h := ?_) | (refine l_atc ?_; refine l_call (hpop) ?_) | (refine l_atc ?_; refine l_call (hF) ?_) | refine l_load (h := ?_) | refine l_store (h := ?_) | (refine l_alloc (h := ?_); intro _) | refine g_skip (h := ?_) | refine g_ret (h := ?_) | refine g_cond_f (h := ?_) | (refine g_sp (h1 := ?_) (h0 := ?_) <;> intro h)))
  · have hm := (posN_mem hd.p.rise).1 h
    dsimp only [Sp.spot] at hm
    rw [← hi] at hm
    obtain ⟨tpg, td, ⟨p1, c1, p2, c2, p3, c3⟩, ti⟩ := t
    dsimp only at hv hm h
    refine l_open (A := Nds td ⟨p1, c1, p2, c2, p3, c3⟩) (h := ?_); (rintro _ _; dsimp only [NdsK, List.cons_append, List.nil_append])
    refine l_ptr (m := td.vals.length) (h := ?_); rintro g rfl hc
    have hgs := sGet (l := td.vals) (k := ti) (by omega)
    (repeat (first | refine l_nil (h := ?_) | refine n_then (h := ?_) | refine l_pures1 (h := ?_) | refine l_indexAddr (h := ?_) | refine g_ret (h := ?_) | refine n_then_ret (h := ?_) | refine l_load_vec (h := ?_)))
    refine r_retk [Store sb db S, Disk db D] ?_
    exact ⟨by rw [if_pos h]; rfl, rfl⟩
  · skip
    refine r_retk [Store sb db S, Disk db D] ?_
    exact ⟨by rw [if_neg h]; rfl, rfl⟩
end Go.Proofs.YtpbibhhjbigdhaaGreat
/- Plain facts on the models: sets of numbers, pages, disks. -/
set_option linter.unusedVariables false
set_option linter.unusedSimpArgs false
namespace Go.Proofs.YtpbibhhjbigdhaaGreat
open Go.Proofs.YtpbibhhjbigdhaaGreat.SL

/-! ### Sets -/
theorem hasB_snoc {l : List UInt8} {c : UInt8} {i : Nat} (h : i < 8 * l.length) : hasB (l ++ [c]) i = hasB l i := by
  simp only [hasB, Int.toNat_natCast]
  rw [List.getD, List.getElem?_append_left (by omega)]; rfl
theorem hasB_snoc2 {l : List UInt8} {c : UInt8} {m : Nat} (h : m < 8) : hasB (l ++ [c]) ((8 * l.length + m : Nat) : Int) = c.toNat.testBit m := by
  simp only [hasB, Int.toNat_natCast]
  rw [show (8 * l.length + m) / 8 = l.length by omega, show (8 * l.length + m) % 8 = m by omega, List.getD, List.getElem?_append_right (Nat.le_refl _)]
  simp
  intro _; omega
theorem countB_eq : ∀ (u : List UInt8), countB u = (usedN u (8 * u.length)).length := by
  refine snoc_ind rfl ?_
  intro l c ih
  rw [countB_snoc, ih]
  simp only [usedN, List.length_map]
  rw [← List.countP_eq_length_filter, ← List.countP_eq_length_filter, List.length_append, List.length_singleton, Nat.mul_add, List.range_add, List.countP_append, List.countP_map]
  congr 1
  · apply List.countP_congr
    intro i hi
    rw [hasB_snoc (List.mem_range.1 hi)]
  · rw [ones]
    apply List.countP_congr
    intro m hm
    have := hasB_snoc2 (l := l) (c := c) (List.mem_range.1 (by simpa using hm))
    simp only [Function.comp]
    rw [this]

theorem mem_usedN {u : List UInt8} {n : Nat} {i : Int} : i ∈ usedN u n ↔ hasB u i = true ∧ i < n := by
  simp only [usedN, List.mem_map, List.mem_filter, List.mem_range]
  constructor
  · rintro ⟨j, ⟨h1, h2⟩, rfl⟩
    exact ⟨h2, by omega⟩
  · rintro ⟨h1, h2⟩
    have := (hasB_lt h1).1
    exact ⟨i.toNat, ⟨by omega, by rw [Int.toNat_of_nonneg this]; exact h1⟩, Int.toNat_of_nonneg this⟩
theorem usedN_nodup (u : List UInt8) (n : Nat) : (usedN u n).Nodup := by
  exact List.Pairwise.map _ (fun a b (h : a ≠ b) q => h (by omega)) (List.Pairwise.filter _ List.nodup_range)

/-- A set's bytes have just these numbers. -/
structure Uses (u : List UInt8) (L : List Int) : Prop where
  len : u.length = 80
  nd : L.Nodup
  mem : ∀ i, hasB u i = true ↔ i ∈ L
theorem Uses.bd {u : List UInt8} {L : List Int} (h : Uses u L) {i : Int} (hi : i ∈ L) : 0 ≤ i ∧ i < 640 := by
  have := hasB_lt ((h.mem i).2 hi)
  rw [h.len] at this
  omega
theorem Uses.usedN {u : List UInt8} {L : List Int} (h : Uses u L) {n : Nat} (hn : ∀ i ∈ L, i < n) : (usedN u n).Perm L := by
  rw [List.perm_ext_iff_of_nodup (usedN_nodup _ _) h.nd]
  intro i
  rw [mem_usedN, h.mem]
  exact ⟨fun q => q.1, fun q => ⟨q, hn i q⟩⟩
theorem Uses.count {u : List UInt8} {L : List Int} (h : Uses u L) : countB u = L.length := by
  rw [countB_eq]
  exact (h.usedN (fun i hi => by have := h.bd hi; rw [h.len]; omega)).length_eq
theorem hasB_zeros (n : Nat) (i : Int) : hasB (List.replicate n 0) i = false := by
  simp only [hasB]
  have : (List.replicate n (0 : UInt8)).getD (i.toNat / 8) 0 = 0 := by
    rw [List.getD, List.getElem?_replicate]; split <;> rfl
  rw [this]; simp
theorem uses_new : Uses (newB 640) [] := ⟨newB_len, List.nodup_nil, fun i => by rw [newB, hasB_zeros]; simp⟩
theorem has_setAll {on : Bool} : ∀ {l : List Int} {u : List UInt8} {j : Int}, (∀ i ∈ l, 0 ≤ i ∧ i < 8 * (u.length : Int)) → hasB (setAll u on l) j = if j ∈ l then on else hasB u j
  | [], u, j, _ => by simp [setAll]
  | n :: l, u, j, h => by
    show hasB (setAll (withB u n on) on l) j = _
    have hn := h n (by simp)
    rw [has_setAll (fun i hi => by rw [withB_len]; exact h i (by simp [hi])), hasB_with hn.1 (by omega)]
    by_cases q : j ∈ l
    · simp [q]
    · by_cases e : j = n <;> simp [q, e]
theorem Uses.add {u : List UInt8} {L F : List Int} (h : Uses u L) (hF : F.Nodup) (hb : ∀ i ∈ F, 0 ≤ i ∧ i < 640) (hd : ∀ i ∈ F, i ∉ L) {l : List Int} (hl : l.Perm F) : Uses (setAll u true l) (L ++ F) := by
  refine ⟨by rw [setAll_len, h.len], List.nodup_append.2 ⟨h.nd, hF, fun x hx y hy q => hd y hy (q ▸ hx)⟩, fun i => ?_⟩
  rw [has_setAll (fun i hi => by have := hb i (hl.mem_iff.1 hi); rw [h.len]; omega)]
  simp only [hl.mem_iff, List.mem_append]
  by_cases q : i ∈ F <;> simp [q, h.mem i]
theorem Uses.del {u : List UInt8} {L G : List Int} (h : Uses u L) (hb : ∀ i ∈ G, 0 ≤ i ∧ i < 640) {l : List Int} (hl : l.Perm G) : Uses (setAll u false l) (L.filter fun i => !decide (i ∈ G)) := by
  refine ⟨by rw [setAll_len, h.len], h.nd.filter _, fun i => ?_⟩
  rw [has_setAll (fun i hi => by have := hb i (hl.mem_iff.1 hi); rw [h.len]; omega)]
  simp only [hl.mem_iff, List.mem_filter]
  by_cases q : i ∈ G <;> simp [q, h.mem i]

/-! ### Pages -/
theorem bodyP_len {k : Int} {t : List UInt8} (h : t.length ≤ 240) : (bodyP k t).length = 252 := by
  simp only [bodyP, List.length_cons, List.length_append, List.length_replicate]; omega
theorem sealP_len {k : Int} {t : List UInt8} (h : t.length ≤ 240) : (sealP k t).length = 256 := by
  simp only [sealP, List.length_append, bodyP_len h, putN_length]
theorem seal_of {k : Int} {t : List UInt8} (hk : 1 ≤ k ∧ k ≤ 15) (h : t.length ≤ 240) : pageSeal k t = (sealP k t, 0) := by
  rw [pageSeal, if_neg (by omega)]
theorem open_seal {k : Int} {t : List UInt8} (hk : 1 ≤ k ∧ k ≤ 15) (h : t.length ≤ 240) : pageOpen (sealP k t) = (k, t, 0) := by
  have hb := bodyP_len (k := k) h
  have e1 : (sealP k t).take 252 = bodyP k t := by rw [sealP, ← hb, List.take_left]
  have e2 : (sealP k t).drop 252 = putN (sumP (bodyP k t)) 4 := by rw [sealP, ← hb, List.drop_left]
  have e3 : getN (putN (sumP (bodyP k t)) 4) = sumP (bodyP k t) := getN_putN 4 _ (sumP_lt _)
  have e4 : (sealP k t).getD 1 0 = UInt8.ofNat t.length := rfl
  have e5 : (UInt8.ofNat t.length).toNat = t.length := by simp; omega
  have e6 : byteAt (sealP k t) 0 = k := by
    show (((UInt8.ofNat k.toNat).toNat : Nat) : Int) = k
    simp; omega
  have e7 : ((sealP k t).drop 2).take t.length = t := by
    show (t ++ List.replicate (250 - t.length) 0 ++ putN (sumP (bodyP k t)) 4).take t.length = t
    rw [List.append_assoc, List.take_left]
  rw [pageOpen, if_neg (by rw [sealP_len h]; omega), e1, e2, e3, if_neg (by omega), e4, e5, e6, Nat.min_eq_left (by omega), e7, seal_of hk h, if_pos rfl]
theorem open_zero : pageOpen zero256 = (0, [], 15) := by
  have h1 : sumP (zero256.take 252) = 16515073 := by decide +kernel
  have h2 : getN (zero256.drop 252) = 0 := by decide +kernel
  rw [pageOpen, if_neg (by rw [zero256_len]; omega), h1, h2, if_pos (by omega)]

/-! ### Disks that are up, with no fuse -/
structure Dk.lives (D : Dk) (N : Nat) : Prop where
  n : D.now.length = N
  up : D.gone = false
  fuse : D.fuse = -1
theorem Dk.lives.may {D : Dk} {N : Nat} (h : D.lives N) {n : Int} (hn : 0 ≤ n ∧ n < N) : D.may n = 0 := by
  rw [Dk.may, if_neg (by rw [h.up]; simp), if_neg (by rw [h.n]; omega)]
theorem Dk.lives.put {D : Dk} {N : Nat} (h : D.lives N) (n : Int) (s : List UInt8) : (D.put n s).lives N :=
  ⟨by simp [Dk.put, h.n], h.up, by show max (-1) (D.fuse - 1) = -1; rw [h.fuse]; rfl⟩
theorem Dk.lives.write {D : Dk} {N : Nat} (h : D.lives N) {n k : Int} {t : List UInt8} (hn : 0 ≤ n ∧ n < N) (hk : 1 ≤ k ∧ k ≤ 15) (ht : t.length ≤ 240) : pageWrite D n k t = (0, D.put n (sealP k t)) := by
  rw [pageWrite, seal_of hk ht, if_neg (by simp), Dk.write, if_neg (by rw [h.may hn]; simp), if_neg (by rw [sealP_len ht]; simp), if_neg (by rw [h.fuse]; omega)]
/-- What a page says. -/
def Dk.pg (D : Dk) (n : Int) : Int × List UInt8 × Int := pageOpen (D.now.getD n.toNat [])
theorem Dk.lives.read {D : Dk} {N : Nat} (h : D.lives N) {n : Int} (hn : 0 ≤ n ∧ n < N) : pageRead D n = D.pg n := by
  have : D.read n = (D.now.getD n.toNat [], 0) := by rw [Dk.read, if_pos (h.may hn)]
  rw [pageRead, this, if_neg (by simp)]; rfl
theorem Dk.put_now (D : Dk) (n : Int) (s : List UInt8) : (D.put n s).now = D.now.set n.toNat s := rfl
theorem getD_set {α : Type} {l : List α} {i j : Nat} {s z : α} (h : i < l.length) : (l.set i s).getD j z = if j = i then s else l.getD j z := by
  simp only [List.getD, List.getElem?_set]
  by_cases q : j = i
  · subst q; simp [h]
  · rw [if_neg (fun e => q e.symm), if_neg q]
theorem Dk.lives.pg_put {D : Dk} {N : Nat} (h : D.lives N) {n m : Int} {s : List UInt8} (hn : 0 ≤ n ∧ n < N) (hm : 0 ≤ m) : (D.put n s).pg m = if m = n then pageOpen s else D.pg m := by
  rw [Dk.pg, Dk.put_now, getD_set (by rw [h.n]; omega)]
  by_cases q : m = n
  · subst q; simp
  · rw [if_neg q, if_neg (by omega)]; rfl
theorem Dk.lives.sync {D : Dk} {N : Nat} (h : D.lives N) : D.sync.1 = 0 ∧ D.sync.2.lives N ∧ D.sync.2.now = D.now := by
  rw [Dk.sync, if_neg (by rw [h.up]; simp)]
  exact ⟨rfl, ⟨h.n, h.up, h.fuse⟩, rfl⟩
theorem Dk.pg_now {D E : Dk} (h : D.now = E.now) (n : Int) : D.pg n = E.pg n := by rw [Dk.pg, Dk.pg, h]
theorem Dk.new_lives (n : Nat) : (Dk.new n).lives n := ⟨List.length_replicate, rfl, rfl⟩
theorem Dk.new_pg {n : Nat} {i : Int} (h : 0 ≤ i ∧ i < n) : (Dk.new n).pg i = (0, [], 15) := by
  have : (Dk.new n).now.getD i.toNat [] = zero256 := by
    rw [List.getD, Dk.new, List.getElem?_replicate, if_pos (by omega)]; rfl
  rw [Dk.pg, this, open_zero]

/-! ### Heads -/
structure Hd.good (h : Hd) (N : Nat) (U : List Int) : Prop where
  g : 1 ≤ h.gen ∧ h.gen ≤ 281474976710655
  r : h.root = 0 ∨ h.root ∈ U
  u : Uses h.used U
  b : ∀ i ∈ U, 2 ≤ i ∧ i < N
theorem Hd.good.ok {h : Hd} {N : Nat} {U : List Int} (k : h.good N U) : h.ok := by
  refine ⟨⟨by have := k.g; omega, k.g.2⟩, ?_, by rw [k.u.len]; omega⟩
  rcases k.r with e | e
  · omega
  · have := k.u.bd e; omega
theorem Hd.good.nums {h : Hd} {N : Nat} {U : List Int} (k : h.good N U) : (numPut h.gen.toNat 6).1 = putN h.gen.toNat 6 ∧ (numPut h.root.toNat 2).1 = putN h.root.toNat 2 := by
  have h1 := k.ok.g
  have h2 := k.ok.r
  refine ⟨?_, ?_⟩
  · rw [numPut, if_neg (by omega), if_pos (by show _ < 281474976710656; omega)]; rfl
  · rw [numPut, if_neg (by omega), if_pos (by show _ < 65536; omega)]; rfl
theorem Hd.good.text_len {h : Hd} {N : Nat} {U : List Int} (k : h.good N U) : h.text.length = 88 := by
  have h1 := k.ok.g
  have h2 := k.ok.r
  obtain ⟨e1, e2⟩ := k.nums
  rw [Hd.text, e1, e2, List.length_append, List.length_append, putN_length, putN_length, k.u.len]
theorem Hd.good.of_text {h : Hd} {N : Nat} {U : List Int} (k : h.good N U) : headOf h.text = h := by
  have h1 := k.ok.g
  have h2 := k.ok.r
  obtain ⟨e1, e2⟩ := k.nums
  have et : h.text = putN h.gen.toNat 6 ++ (putN h.root.toNat 2 ++ h.used) := by rw [Hd.text, e1, e2, List.append_assoc]
  have d6 : h.text.drop 6 = putN h.root.toNat 2 ++ h.used := by rw [et, List.drop_left' (putN_length _ _)]
  rw [headOf, d6, show h.text.drop 8 = (h.text.drop 6).drop 2 by rw [List.drop_drop], d6, List.drop_left' (putN_length _ _), List.take_left' (putN_length _ _), et, List.take_left' (putN_length _ _),
    getN_putN 6 _ (by omega), getN_putN 2 _ (by omega), Int.toNat_of_nonneg h1.1, Int.toNat_of_nonneg h2.1]
theorem Hd.good.counts {h : Hd} {N : Nat} {U : List Int} (k : h.good N U) {n : Int} (hn : h.gen % 2 = n) : h.counts N n = true := by
  have h1 := k.g
  have hc : h.clear N 640 = true := by
    rw [Hd.clear, List.all_eq_true]
    intro i _
    cases q : hasB h.used i
    · simp
    · have := k.b _ ((k.u.mem i).1 q)
      simp; omega
  rw [Hd.counts, hc]
  have e : h.gen.tmod 2 = n := by rw [Int.tmod_eq_emod_of_nonneg (by omega)]; exact hn
  have e2 : decide (h.gen < 1) = false := by simp; omega
  rw [e, e2]
  rcases k.r with e | e
  · simp [e]
  · have := (k.u.mem _).2 e
    simp [this]
theorem readH_good {D : Dk} {N : Nat} {h : Hd} {U : List Int} (hl : D.lives N) (k : h.good N U) {n : Int} (hn : h.gen % 2 = n) (hN : 2 ≤ N) (e : D.pg n = (1, h.text, 0)) : readH D n = (h, true) := by
  rw [readH, hl.read (by omega), e, if_neg (by rw [k.text_len]; simp), k.of_text, hl.n, k.counts hn]
theorem readH_lt {D : Dk} {N : Nat} (hl : D.lives N) (hN : 2 ≤ N) {n : Int} (hn : 0 ≤ n ∧ n < 2) (h : (D.pg n).2.2 ≠ 0) : readH D n = (headNone, false) := by
  rw [readH, hl.read (by omega), if_pos (.inl h)]
theorem mount_of {D : Dk} {N : Nat} {h : Hd} (hl : D.lives N) (hg : 1 ≤ h.gen) (h1 : readH D (h.gen % 2) = (h, true)) (h2 : (readH D ((h.gen + 1) % 2)).2 = true → (readH D ((h.gen + 1) % 2)).1.gen < h.gen) : mount D = (some h, 0) := by
  have hb : mountBest D = h := by
    show mountStep D (mountStep D headNone 0) 1 = h
    rcases (by omega : h.gen % 2 = 0 ∧ (h.gen + 1) % 2 = 1 ∨ h.gen % 2 = 1 ∧ (h.gen + 1) % 2 = 0) with ⟨a, b⟩ | ⟨a, b⟩
    · rw [a] at h1; rw [b] at h2
      have s1 : mountStep D headNone 0 = h := by
        rw [mountStep, show ((0 : Nat) : Int) = 0 from rfl, h1, if_pos (by simp [headNone]; omega)]
      rw [s1, mountStep, show ((1 : Nat) : Int) = 1 from rfl]
      rw [if_neg]
      intro q
      simp only [Bool.and_eq_true, decide_eq_true_eq] at q
      have := h2 q.1
      omega
    · rw [a] at h1; rw [b] at h2
      have s1 : (mountStep D headNone 0).gen < h.gen := by
        rw [mountStep, show ((0 : Nat) : Int) = 0 from rfl]
        split
        · rename_i q
          simp only [Bool.and_eq_true] at q
          exact h2 q.1
        · simp [headNone]; omega
      rw [mountStep, show ((1 : Nat) : Int) = 1 from rfl, h1, if_pos (by simp; omega)]
  rw [mount, if_neg (by rw [hl.up]; simp), hb, if_neg (by omega)]
theorem lay_of {D : Dk} {N : Nat} {h : Hd} {U : List Int} (hl : D.lives N) (k : h.good N U) (hN : 2 ≤ N) : ∃ E, h.lay D = (0, E) ∧ E.lives N ∧ ∀ m, 0 ≤ m → E.pg m = if m = h.gen % 2 then (1, h.text, 0) else D.pg m := by
  have hg := k.g
  have e : h.gen.tmod 2 = h.gen % 2 := Int.tmod_eq_emod_of_nonneg (by omega)
  have hb : 0 ≤ h.gen % 2 ∧ h.gen % 2 < N := by omega
  have ht : h.text.length ≤ 240 := by rw [k.text_len]; omega
  have hw := hl.write hb (k := 1) (t := h.text) (by omega) ht
  have hp := hl.put (h.gen % 2) (sealP 1 h.text)
  obtain ⟨s1, s2, s3⟩ := hp.sync
  refine ⟨(D.put (h.gen % 2) (sealP 1 h.text)).sync.2, ?_, s2, fun m hm => ?_⟩
  · rw [Hd.lay, e, hw, if_neg (by simp)]
    exact Prod.ext s1 rfl
  · rw [Dk.pg_now s3, hl.pg_put hb hm, open_seal (by omega) ht]
end Go.Proofs.YtpbibhhjbigdhaaGreat
/- Plain facts on the models: a store on a disk that is up. -/
set_option linter.unusedVariables false
set_option linter.unusedSimpArgs false
namespace Go.Proofs.YtpbibhhjbigdhaaGreat
open Go.Proofs.YtpbibhhjbigdhaaGreat.SL

theorem readH_pg {D E : Dk} {N : Nat} (hd : D.lives N) (he : E.lives N) {n : Int} (hn : 0 ≤ n ∧ n < N) (h : D.pg n = E.pg n) : readH D n = readH E n := by
  rw [readH, readH, hd.read hn, he.read hn, h, hd.n, he.n]

def Sh.head (S : Sh) : Hd := ⟨S.gen, S.root, S.used⟩
structure Fine (N : Nat) (S : Sh) (D : Dk) (U : List Int) : Prop where
  n : 8 ≤ N ∧ N ≤ 640
  d : D.lives N
  up : S.down = false
  h : S.head.good N U
  on : D.pg (S.gen % 2) = (1, S.head.text, 0)
  other : (readH D ((S.gen + 1) % 2)).2 = true → (readH D ((S.gen + 1) % 2)).1.gen < S.gen
  f : S.fresh.Nodup ∧ ∀ i ∈ S.fresh, 2 ≤ i ∧ i < N ∧ i ∉ U
  v : S.given.Nodup ∧ ∀ i ∈ S.given, i ∈ U

section
variable {N : Nat} {S : Sh} {D : Dk} {U : List Int}

theorem Fine.mounts (k : Fine N S D U) : mount D = (some S.head, 0) :=
  mount_of k.d k.h.g.1 (readH_good k.d k.h rfl (by have := k.n; omega) k.on) k.other
theorem Fine.over (k : Fine N S D U) : Fine N S.head.over D U :=
  ⟨k.n, k.d, rfl, k.h, k.on, k.other, ⟨by simp [Hd.over], by simp [Hd.over]⟩, ⟨by simp [Hd.over], by simp [Hd.over]⟩⟩
theorem Fine.roll (k : Fine N S D U) : Fine N S.roll D U :=
  ⟨k.n, k.d, k.up, k.h, k.on, k.other, ⟨by simp [Sh.roll], by simp [Sh.roll]⟩, ⟨by simp [Sh.roll], by simp [Sh.roll]⟩⟩
theorem Fine.left (k : Fine N S D U) : S.left D = N - 2 - U.length - S.fresh.length := by
  rw [Sh.left, k.d.n]
  have : countB S.used = U.length := k.h.u.count
  rw [this]
theorem Fine.usedLen (k : Fine N S D U) : (usedN S.used D.now.length).length = U.length := by
  rw [k.d.n]
  have := k.h.u.usedN (n := N) (fun i hi => (k.h.b i hi).2)
  exact this.length_eq

theorem Fine.free (k : Fine N S D U) (j : Nat) : S.free j = true ↔ (j : Int) ∉ U ∧ (j : Int) ∉ S.fresh := by
  have h := k.h.u.mem j
  simp only [Sh.head] at h
  rw [Sh.free, Bool.and_eq_true, Bool.not_eq_true', Bool.not_eq_true', decide_eq_false_iff_not, ← h]
  simp
theorem Sh.find_of {S : Sh} {m : Nat} (hm : S.free m = true) : ∀ {k n : Nat}, n ≤ m → m < n + k → (∀ j, n ≤ j → j < m → ¬ S.free j = true) → S.find k n = some m
  | 0, n, h1, h2, _ => by omega
  | k + 1, n, h1, h2, h3 => by
    rw [Sh.find]
    by_cases q : n = m
    · subst q; rw [if_pos hm]
    · rw [if_neg (h3 n (Nat.le_refl _) (by omega)), Sh.find_of hm (by omega) (by omega) (fun j a b => h3 j (by omega) b)]
theorem Sh.find_none {S : Sh} : ∀ {k n : Nat}, (∀ j, n ≤ j → j < n + k → ¬ S.free j = true) → S.find k n = none
  | 0, n, _ => rfl
  | k + 1, n, h => by
    rw [Sh.find, if_neg (h n (Nat.le_refl _) (by omega)), Sh.find_none (fun j a b => h j (by omega) (by omega))]
theorem Fine.take (k : Fine N S D U) {m : Nat} (h1 : 2 ≤ m ∧ m < N) (h2 : (m : Int) ∉ U ∧ (m : Int) ∉ S.fresh) (h3 : ∀ j : Nat, 2 ≤ j → j < m → (j : Int) ∈ U ∨ (j : Int) ∈ S.fresh) :
    S.take D = (((m : Int), 0), { S with fresh := S.fresh ++ [(m : Int)] }) ∧ Fine N { S with fresh := S.fresh ++ [(m : Int)] } D U := by
  have hn := k.n
  refine ⟨?_, k.n, k.d, k.up, k.h, k.on, k.other, ⟨?_, ?_⟩, k.v⟩
  · rw [Sh.take, if_neg (by rw [k.up]; simp), k.d.n, Sh.find_of ((k.free m).2 h2) h1.1 (by omega) (fun j a b q => by
      have := (k.free j).1 q
      rcases h3 j a b with e | e
      · exact this.1 e
      · exact this.2 e)]
  · exact List.nodup_append.2 ⟨k.f.1, by simp, by intro x hx y hy; simp only [List.mem_singleton] at hy; subst hy; exact fun q => h2.2 (q ▸ hx)⟩
  · intro i hi
    rcases List.mem_append.1 hi with hi | hi
    · exact k.f.2 i hi
    · simp only [List.mem_singleton] at hi; subst hi; exact ⟨by omega, by omega, h2.1⟩
theorem Fine.takeNone (k : Fine N S D U) (h : ∀ j : Nat, 2 ≤ j → j < N → (j : Int) ∈ U ∨ (j : Int) ∈ S.fresh) : S.take D = ((0, 4), S) := by
  rw [Sh.take, if_neg (by rw [k.up]; simp), k.d.n, Sh.find_none (fun j a b q => by
    have hf := (k.free j).1 q
    have hn := k.n
    rcases h j a (by omega) with e | e
    · exact hf.1 e
    · exact hf.2 e)]

theorem Sh.told_eq {e : Int} (h : e ≠ 5) : S.told e = S := by
  have : (e == 5) = false := by simpa using h
  rw [Sh.told, this, Bool.or_false]
theorem Fine.put (k : Fine N S D U) {n : Int} (hn : n ∈ S.fresh) (s : List UInt8) : Fine N S (D.put n s) U := by
  have hf := k.f.2 n hn
  have hN := k.n
  have hg := k.h.g
  refine ⟨k.n, k.d.put n s, k.up, k.h, ?_, ?_, k.f, k.v⟩
  · rw [k.d.pg_put (by omega) (by omega), if_neg (by omega), k.on]
  · rw [← readH_pg k.d (k.d.put n s) (by omega) (by rw [k.d.pg_put (by omega) (by omega), if_neg (by omega)])]
    exact k.other
theorem Fine.write (k : Fine N S D U) {n kd : Int} {t : List UInt8} (hn : n ∈ S.fresh) (hk : 1 ≤ kd ∧ kd ≤ 15) (ht : t.length ≤ 240) :
    S.write D n kd t = (0, S, D.put n (sealP kd t)) ∧ Fine N S (D.put n (sealP kd t)) U ∧ ∀ m, 0 ≤ m → (D.put n (sealP kd t)).pg m = if m = n then (kd, t, 0) else D.pg m := by
  have hf := k.f.2 n hn
  refine ⟨?_, k.put hn _, fun m hm => ?_⟩
  · rw [Sh.write, if_neg (by rw [k.up]; simp), if_pos hn, k.d.write (by omega) hk ht, Sh.told_eq (by simp)]
  · rw [k.d.pg_put (by omega) hm, open_seal hk ht]
theorem Fine.writeNo (k : Fine N S D U) {n kd : Int} {t : List UInt8} (hn : n ∉ S.fresh) : S.write D n kd t = (6, S, D) := by
  rw [Sh.write, if_neg (by rw [k.up]; simp), if_neg hn]
theorem open_no5 (b : List UInt8) : (pageOpen b).2.2 ≠ 5 := by
  rw [pageOpen]
  split
  · simp
  · split
    · simp
    · split <;> simp
theorem Fine.read (k : Fine N S D U) {n : Int} (hn : 2 ≤ n ∧ n < N) : S.read D n = (D.pg n, S) := by
  rw [Sh.read, if_neg (by rw [k.up]; simp), if_neg (by rw [k.d.n]; omega), k.d.read (by omega), Sh.told_eq (e := (D.pg n).2.2) (open_no5 _)]
theorem Fine.giveFresh (k : Fine N S D U) {n : Int} (hn : n ∈ S.fresh) : S.give n = (0, { S with fresh := S.fresh.erase n }) ∧ Fine N { S with fresh := S.fresh.erase n } D U := by
  refine ⟨by rw [Sh.give, if_neg (by rw [k.up]; simp), if_pos hn], k.n, k.d, k.up, k.h, k.on, k.other, ⟨k.f.1.erase _, fun i hi => k.f.2 i (List.mem_of_mem_erase hi)⟩, k.v⟩
theorem Fine.giveUsed (k : Fine N S D U) {n : Int} (hn : n ∈ U) (hv : n ∉ S.given) : S.give n = (0, { S with given := S.given ++ [n] }) ∧ Fine N { S with given := S.given ++ [n] } D U := by
  have hf : n ∉ S.fresh := fun q => (k.f.2 n q).2.2 hn
  have hb : hasB S.used n = true := (k.h.u.mem n).2 hn
  refine ⟨by rw [Sh.give, if_neg (by rw [k.up]; simp), if_neg hf, if_pos (by rw [hb]; simpa using hv)], k.n, k.d, k.up, k.h, k.on, k.other, k.f, ⟨?_, ?_⟩⟩
  · exact List.nodup_append.2 ⟨k.v.1, by simp, by intro x hx y hy; simp only [List.mem_singleton] at hy; subst hy; exact fun q => hv (q ▸ hx)⟩
  · intro i hi
    rcases List.mem_append.1 hi with hi | hi
    · exact k.v.2 i hi
    · simp only [List.mem_singleton] at hi; subst hi; exact hn
theorem Fine.giveNo (k : Fine N S D U) {n : Int} (hf : n ∉ S.fresh) (h : n ∈ U → n ∈ S.given) : S.give n = (6, S) := by
  rw [Sh.give, if_neg (by rw [k.up]; simp), if_neg hf, if_neg]
  intro q
  simp only [Bool.and_eq_true, Bool.not_eq_true', decide_eq_false_iff_not] at q
  exact q.2 (h ((k.h.u.mem n).1 q.1))

/-- The pages that count behind a commit. -/
def Sh.after (S : Sh) (U : List Int) : List Int := (U ++ S.fresh).filter fun i => !decide (i ∈ S.given)
theorem Sh.mem_after {i : Int} : i ∈ S.after U ↔ (i ∈ U ∨ i ∈ S.fresh) ∧ i ∉ S.given := by
  simp only [Sh.after, List.mem_filter, List.mem_append, Bool.not_eq_true', decide_eq_false_iff_not]
theorem Fine.next (k : Fine N S D U) {root : Int} (hr : root = 0 ∨ root ∈ S.after U) (hg : S.gen < 281474976710655) : (S.next root).good N (S.after U) := by
  have hN := k.n
  have hgg := k.h.g
  have ha := k.h.u.add k.f.1 (fun i hi => by have := k.f.2 i hi; omega) (fun i hi => (k.f.2 i hi).2.2) (rise_perm S.fresh)
  have hd := ha.del (G := S.given) (fun i hi => k.h.u.bd (k.v.2 i hi)) (rise_perm S.given)
  refine ⟨⟨?_, ?_⟩, hr, hd, ?_⟩
  · show 1 ≤ S.gen + 1
    have : 1 ≤ S.gen := hgg.1
    omega
  · show S.gen + 1 ≤ _
    omega
  · intro i hi
    rcases (Sh.mem_after.1 hi).1 with e | e
    · exact k.h.b i e
    · have := k.f.2 i e; omega
theorem Fine.commit (k : Fine N S D U) {root : Int} (hr : root = 0 ∨ root ∈ S.after U) (hg : S.gen < 281474976710655) :
    ∃ E, S.commit D root = (0, (S.next root).over, E) ∧ Fine N (S.next root).over E (S.after U) ∧ ∀ m, 2 ≤ m → E.pg m = D.pg m := by
  have hN := k.n
  have q := k.next hr hg
  have hg1 : 1 ≤ S.gen := k.h.g.1
  obtain ⟨s1, s2, s3⟩ := k.d.sync
  obtain ⟨E, e1, e2, e3⟩ := lay_of s2 q (by omega)
  refine ⟨E, ?_, ⟨k.n, e2, rfl, q, ?_, ?_, ⟨by simp [Hd.over], by simp [Hd.over]⟩, ⟨by simp [Hd.over], by simp [Hd.over]⟩⟩, ?_⟩
  · rw [Sh.commit, if_neg (by rw [k.up]; simp), if_neg, if_neg, if_neg (by rw [s1]; simp), e1, if_neg (by simp)]
    · have := q.g.2; omega
    · rintro ⟨a, b⟩
      rcases hr with e | e
      · exact a e
      · rw [(q.u.mem root).2 e] at b; cases b
  · show E.pg ((S.gen + 1) % 2) = _
    rw [e3 _ (by omega), if_pos (by rfl)]; rfl
  · show (readH E ((S.gen + 1 + 1) % 2)).2 = true → (readH E ((S.gen + 1 + 1) % 2)).1.gen < S.gen + 1
    rw [show (S.gen + 1 + 1) % 2 = S.gen % 2 by omega]
    have e4 : E.pg (S.gen % 2) = (1, S.head.text, 0) := by
      rw [e3 _ (by omega), if_neg (by show ¬ S.gen % 2 = (S.gen + 1) % 2; omega), Dk.pg_now s3, k.on]
    have e5 : readH E (S.gen % 2) = (S.head, true) := readH_good e2 k.h rfl (by omega) e4
    rw [e5]
    intro _
    show S.gen < S.gen + 1
    omega
  · intro m hm
    rw [e3 _ (by omega), if_neg (by have := q.g; omega), Dk.pg_now s3]
end

/-! ### The same, the store behind it by its parts -/
section
variable {N : Nat} {S : Sh} {D : Dk} {U : List Int}
theorem Fine.take' (k : Fine N S D U) {m : Int} (h1 : 2 ≤ m ∧ m < N) (h2 : m ∉ U ∧ m ∉ S.fresh) (h3 : ∀ j : Int, 2 ≤ j → j < m → j ∈ U ∨ j ∈ S.fresh) :
    ∃ S', S.take D = ((m, 0), S') ∧ Fine N S' D U ∧ S'.fresh = S.fresh ++ [m] ∧ S'.given = S.given ∧ S'.gen = S.gen ∧ S'.root = S.root := by
  obtain ⟨n, rfl⟩ : ∃ n : Nat, m = n := ⟨m.toNat, by omega⟩
  obtain ⟨a, b⟩ := k.take (m := n) (by omega) h2 (fun j a b => h3 j (by omega) (by omega))
  exact ⟨_, a, b, rfl, rfl, rfl, rfl⟩
theorem Fine.takeNone' (k : Fine N S D U) (h : ∀ j : Int, 2 ≤ j → j < N → j ∈ U ∨ j ∈ S.fresh) : S.take D = ((0, 4), S) := k.takeNone (fun j a b => h j (by omega) (by omega))
theorem Fine.write' (k : Fine N S D U) {n kd : Int} {t : List UInt8} (hn : n ∈ S.fresh) (hk : 1 ≤ kd ∧ kd ≤ 15) (ht : t.length ≤ 240) :
    ∃ E, S.write D n kd t = (0, S, E) ∧ Fine N S E U ∧ ∀ m, 0 ≤ m → E.pg m = if m = n then (kd, t, 0) else D.pg m := ⟨_, k.write hn hk ht⟩
theorem Fine.giveFresh' (k : Fine N S D U) {n : Int} (hn : n ∈ S.fresh) : ∃ S', S.give n = (0, S') ∧ Fine N S' D U ∧ S'.fresh = S.fresh.erase n ∧ S'.given = S.given ∧ S'.gen = S.gen ∧ S'.root = S.root := by
  obtain ⟨a, b⟩ := k.giveFresh hn
  exact ⟨_, a, b, rfl, rfl, rfl, rfl⟩
theorem Fine.giveUsed' (k : Fine N S D U) {n : Int} (hn : n ∈ U) (hv : n ∉ S.given) : ∃ S', S.give n = (0, S') ∧ Fine N S' D U ∧ S'.fresh = S.fresh ∧ S'.given = S.given ++ [n] ∧ S'.gen = S.gen ∧ S'.root = S.root := by
  obtain ⟨a, b⟩ := k.giveUsed hn hv
  exact ⟨_, a, b, rfl, rfl, rfl, rfl⟩
theorem Fine.commit' (k : Fine N S D U) {root : Int} (hr : root = 0 ∨ root ∈ S.after U) (hg : S.gen < 281474976710655) :
    ∃ S' E, S.commit D root = (0, S', E) ∧ Fine N S' E (S.after U) ∧ (∀ m, 2 ≤ m → E.pg m = D.pg m) ∧ S'.fresh = [] ∧ S'.given = [] ∧ S'.gen = S.gen + 1 ∧ S'.root = root := by
  obtain ⟨E, a, b, c⟩ := k.commit hr hg
  exact ⟨_, E, a, b, c, rfl, rfl, rfl, rfl⟩
theorem Fine.mounts' (k : Fine N S D U) : ∃ q : Hd, mount D = (some q, 0) ∧ Fine N q.over D U ∧ q.over.fresh = [] ∧ q.over.given = [] ∧ q.over.gen = S.gen ∧ q.over.root = S.root := ⟨_, k.mounts, k.over, rfl, rfl, rfl, rfl⟩
end

theorem headNew_good {N : Nat} (hN : 8 ≤ N ∧ N ≤ 640) : headNew.good N [] :=
  ⟨⟨by decide, by decide⟩, .inl rfl, uses_new, by simp⟩
theorem format_of {N : Nat} {D : Dk} (hN : 8 ≤ N ∧ N ≤ 640) (d : D.lives N) (h : (D.pg 0).2.2 ≠ 0) : ∃ E, format D = (some headNew, 0, E) ∧ Fine N headNew.over E [] ∧ ∀ m, 2 ≤ m → E.pg m = D.pg m := by
  obtain ⟨E, e1, e2, e3⟩ := lay_of d (headNew_good hN) (by omega)
  refine ⟨E, by rw [format, e1, if_neg (by simp)], ⟨hN, e2, rfl, headNew_good hN, ?_, ?_, ⟨by simp [Hd.over], by simp [Hd.over]⟩, ⟨by simp [Hd.over], by simp [Hd.over]⟩⟩, ?_⟩
  · rw [e3 _ (by decide), if_pos (by rfl)]; rfl
  · show (readH E 0).2 = true → _
    rw [readH_lt e2 (by omega) (by omega) (by rw [e3 0 (by omega), if_neg (by decide)]; exact h)]
    intro q; cases q
  · intro m hm
    rw [e3 _ (by omega), if_neg (by show ¬ m = 1; omega)]
theorem mount_new {N : Nat} (hN : 8 ≤ N ∧ N ≤ 640) : mount (Dk.new N) = (none, 3) := by
  have h0 := readH_lt (Dk.new_lives N) (by omega) (n := 0) (by omega) (by rw [Dk.new_pg (by omega)]; simp)
  have h1 := readH_lt (Dk.new_lives N) (by omega) (n := 1) (by omega) (by rw [Dk.new_pg (by omega)]; simp)
  have hb : mountBest (Dk.new N) = headNone := by
    show mountStep _ (mountStep _ headNone 0) 1 = _
    rw [mountStep, show ((1 : Nat) : Int) = 1 from rfl, h1, if_neg (by simp), mountStep, show ((0 : Nat) : Int) = 0 from rfl, h0, if_neg (by simp)]
  rw [mount, if_neg (by simp [Dk.new]), hb, if_pos (by rfl)]
end Go.Proofs.YtpbibhhjbigdhaaGreat
/- Trees on a store's disk: the way that a walk goes is one of the tree. No code. -/
set_option maxRecDepth 20000
set_option linter.unusedVariables false
set_option linter.unusedSimpArgs false
namespace Go.Proofs.YtpbibhhjbigdhaaGreat
open Go.Proofs.YtpbibhhjbigdhaaGreat.SL

/-- A node lies on a page. -/
def Gd (N : Nat) (D : Dk) (p : Int) (d : Nd) : Prop := (2 ≤ p ∧ p < N) ∧ D.pg p = (2, d.text, 0)

theorem goes_way {N : Nat} {S : Sh} {D : Dk} {U : List Int} (k : Fine N S D U) {x : Nat} : ∀ {h : Nat} {d : Nd} {es : List Ent} {ps : List Int} {pg : Int}, NT (Gd N D) h d es ps → d.good → (d.leaf = false → d.keys ≠ []) → Gd N D pg d →
    ∀ {up : List Spot} {L0 R0 : List Ent} {ps0 : List Int}, Way (Gd N D) up h L0 R0 ps0 → FitsP up x → (∀ e ∈ es, FitsP up e.1) →
    ∃ (top : List Spot) (s : Spot) (L R : List Ent) (ps' : List Int), Goes S D x pg (top ++ [s]) ∧ top.length = h ∧ Way (Gd N D) (top.reverse ++ up) 0 L R ps' ∧ s.d.good ∧ s.d.leaf = true ∧ s.i = posN s.d.keys x ∧ Gd N D s.pg s.d ∧
      FitsP (top.reverse ++ up) x ∧ (∀ e ∈ s.d.ents, FitsP (top.reverse ++ up) e.1) ∧ L ++ (s.d.ents ++ R) = L0 ++ (es ++ R0) ∧ (s.pg :: ps').Perm ((pg :: ps) ++ ps0)
  | 0, d, es, ps, pg, n, hd, hne, hg, up, L0, R0, ps0, w, fx, fe => by
    obtain ⟨hl, hp, rfl, rfl⟩ := n
    exact ⟨[], ⟨pg, d, posN d.keys x⟩, L0, R0, ps0, ⟨rfl, by rw [k.read hg.1, hg.2], hd, .inl ⟨hl, rfl, rfl⟩⟩, rfl, w, hd, hl, rfl, hg, fx, fe, rfl, .refl _⟩
  | h + 1, d, es, ps, pg, n, hd, hne, hg, up, L0, R0, ps0, w, fx, fe => by
    have hl := n.1
    obtain ⟨c1, c2, c3⟩ := cntN_spec (x := x) hd.p.rise
    obtain ⟨kid, sl, s, sr, hk, hm, ⟨d', ps', g', hd', hne', n', hps⟩, hfit, e1, e2⟩ := descend n hd (hne hl) c1
    subst e1 e2
    have w' : Way (Gd N D) (⟨pg, d, cntN d.keys x⟩ :: up) h (L0 ++ Sub.all sl) (Sub.all sr ++ R0) (pg :: (Sub.pages sl ++ (Sub.pages sr ++ ps0))) :=
      ⟨L0, R0, ps0, sl, sr, w, hg, hm, fun y hy => fe y (by simp only [List.mem_append] at hy ⊢; exact hy.elim .inl fun q => .inr (.inr q)), rfl, rfl, rfl⟩
    obtain ⟨top, t, L, R, qs, r1, r2, r3, r4, r5, r6, r7, r8, r9, r10, r11⟩ := goes_way k n' hd' hne' g' w' ⟨⟨c2, c3⟩, fx⟩ (fun e he => ⟨hfit e he, fe e (by simp [he])⟩)
    have hkd : d.kids.getD (cntN d.keys x) 0 = kid := by rw [List.getD, hk]; rfl
    refine ⟨⟨pg, d, cntN d.keys x⟩ :: top, t, L, R, qs, ⟨rfl, by rw [k.read hg.1, hg.2], hd, .inr ⟨hl, rfl, by rw [hkd]; exact r1⟩⟩, by simp [r2], ?_, r4, r5, r6, r7, ?_, ?_, ?_, ?_⟩
    · simpa using r3
    · simpa using r8
    · simpa using r9
    · rw [r10]; simp
    · refine r11.trans ?_
      rw [hps]
      refine List.perm_iff_count.2 fun a => ?_
      simp only [List.count_append, List.count_cons, List.cons_append]
      omega
end Go.Proofs.YtpbibhhjbigdhaaGreat
/- Trees on a store's disk: what a page that is laid anew does to the pages that count. -/
set_option maxRecDepth 20000
set_option linter.unusedVariables false
set_option linter.unusedSimpArgs false
namespace Go.Proofs.YtpbibhhjbigdhaaGreat
open Go.Proofs.YtpbibhhjbigdhaaGreat.SL

theorem nodup_sub : ∀ {A B : List Int}, A.Nodup → (∀ a ∈ A, a ∈ B) → A.length ≤ B.length
  | [], _, _, _ => by simp
  | a :: A, B, h, k => by
    obtain ⟨h1, h2⟩ := List.nodup_cons.1 h
    have hm := k a (by simp)
    have := nodup_sub (B := B.erase a) h2 (fun x hx => (List.mem_erase_of_ne (by rintro rfl; exact h1 hx)).2 (k x (by simp [hx])))
    rw [List.length_erase_of_mem hm] at this
    have hb := List.length_pos_of_mem hm
    simp only [List.length_cons]; omega

section
variable {N : Nat} {S : Sh} {D : Dk} {U : List Int}
theorem Fine.nodup (k : Fine N S D U) : (U ++ S.fresh).Nodup := List.nodup_append.2 ⟨k.h.u.nd, k.f.1, fun a ha b hb e => (k.f.2 b hb).2.2 (e ▸ ha)⟩
theorem Fine.afterNodup (k : Fine N S D U) : (S.after U).Nodup := k.nodup.filter _
/-- There is a page, as long as not all are used. -/
theorem Fine.takeSome (k : Fine N S D U) (h : U.length + S.fresh.length + 2 < N) : ∃ m S', (2 ≤ m ∧ m < (N : Int)) ∧ m ∉ U ∧ m ∉ S.fresh ∧ S.take D = ((m, 0), S') ∧ Fine N S' D U ∧ S'.fresh = S.fresh ++ [m] ∧ S'.given = S.given ∧ S'.gen = S.gen ∧ S'.root = S.root := by
  cases hf : List.find? (fun j : Nat => decide (2 ≤ j) && !decide ((j : Int) ∈ U ++ S.fresh)) (List.range N) with
  | some m =>
    obtain ⟨h1, l1, l2, h2, h3⟩ := List.find?_eq_some_iff_append.1 hf
    simp only [Bool.and_eq_true, decide_eq_true_eq, Bool.not_eq_true', decide_eq_false_iff_not, List.mem_append, not_or] at h1
    have hmN : m < N := List.mem_range.1 (by rw [h2]; simp)
    have hall : ∀ j : Int, 2 ≤ j → j < (m : Int) → j ∈ U ∨ j ∈ S.fresh := by
      intro j j1 j2
      obtain ⟨n, rfl⟩ : ∃ n : Nat, j = n := ⟨j.toNat, by omega⟩
      have hn : n ∈ l1 := by
        have hlen : l1.length = m := by
          have h4 := congrArg (fun l => l[l1.length]?) h2
          simp only [List.getElem?_append_right (Nat.le_refl _), Nat.sub_self, List.getElem?_cons_zero] at h4
          obtain ⟨_, h5⟩ := List.getElem?_eq_some_iff.1 h4
          simpa using h5
        have h6 : (List.range N)[n]? = some n := by rw [List.getElem?_range (by omega)]
        rw [h2, List.getElem?_append_left (by omega)] at h6
        exact List.mem_of_getElem? h6
      have := h3 n hn
      simp only [Bool.not_and, Bool.not_not, Bool.or_eq_true, Bool.not_eq_true', decide_eq_false_iff_not, decide_eq_true_eq, List.mem_append] at this
      exact this.elim (fun q => absurd (by omega) q) id
    obtain ⟨S', a, b, c, d, e, f⟩ := k.take' (m := m) (by omega) h1.2 hall
    exact ⟨m, S', by omega, h1.2.1, h1.2.2, a, b, c, d, e, f⟩
  | none =>
    exfalso
    rw [List.find?_eq_none] at hf
    have hs := nodup_sub (A := (List.range' 2 (N - 2)).map (fun n : Nat => (n : Int))) (B := U ++ S.fresh) ?_ ?_
    · simp only [List.length_map, List.length_range', List.length_append] at hs; omega
    · exact List.Pairwise.map _ (fun a b h => by omega) (List.nodup_range' (step := 1))
    · intro a ha
      obtain ⟨n, hn, rfl⟩ := List.mem_map.1 ha
      have hn := List.mem_range'_1.1 hn
      have := hf n (List.mem_range.2 (by omega))
      simp only [Bool.and_eq_true, decide_eq_true_eq, Bool.not_eq_true', decide_eq_false_iff_not, not_and, Decidable.not_not] at this
      exact this hn.1
theorem Fine.takeFull (k : Fine N S D U) (h : U.length + S.fresh.length + 2 = N) : S.take D = ((0, 4), S) := by
  refine k.takeNone' fun j j1 j2 => ?_
  apply Decidable.byContradiction
  intro hj
  have hj : j ∉ U ++ S.fresh := fun q => hj (List.mem_append.1 q)
  have hs := nodup_sub (A := j :: (U ++ S.fresh)) (B := (List.range' 2 (N - 2)).map (fun n : Nat => (n : Int))) (List.nodup_cons.2 ⟨hj, k.nodup⟩) ?_
  · simp only [List.length_map, List.length_range', List.length_cons, List.length_append] at hs; omega
  · intro a ha
    have ha2 : 2 ≤ a ∧ a < N := by
      rcases List.mem_cons.1 ha with rfl | ha
      · omega
      · rcases List.mem_append.1 ha with ha | ha
        · have := k.h.b a ha; omega
        · have := k.f.2 a ha; omega
    exact List.mem_map.2 ⟨a.toNat, List.mem_range'_1.2 (by omega), by omega⟩
end

/-- The pages behind one that is given, or taken. -/
theorem perm_drop {A A' rest : List Int} {pg : Int} (hp : (pg :: rest).Perm A) (h1 : A.Nodup) (h2 : A'.Nodup) (hm : ∀ a, a ∈ A' ↔ a ∈ A ∧ a ≠ pg) : rest.Perm A' := by
  obtain ⟨h3, h4⟩ := List.nodup_cons.1 (hp.nodup_iff.2 h1)
  refine (List.perm_ext_iff_of_nodup h4 h2).2 fun a => ?_
  rw [hm, ← hp.mem_iff, List.mem_cons]
  constructor
  · intro h; exact ⟨.inr h, by rintro rfl; exact h3 h⟩
  · rintro ⟨rfl | h, n⟩
    · exact absurd rfl n
    · exact h
theorem perm_add {A A' rest : List Int} {m : Int} (hp : rest.Perm A) (h1 : A.Nodup) (h2 : A'.Nodup) (hn : m ∉ A) (hm : ∀ a, a ∈ A' ↔ a = m ∨ a ∈ A) : (m :: rest).Perm A' := by
  refine (List.perm_ext_iff_of_nodup (List.nodup_cons.2 ⟨fun q => hn (hp.mem_iff.1 q), hp.nodup_iff.2 h1⟩) h2).2 fun a => ?_
  rw [hm, List.mem_cons, hp.mem_iff]

theorem Nd.good.tl {d : Nd} (h : d.good) : d.text.length ≤ 240 := by rw [d.text_len h.p]; exact h.size

/-- A store whose root is as it was, on a disk where the pages that count are as they were. -/
def Same (U : List Int) (S0 : Sh) (D0 : Dk) (S : Sh) (D : Dk) : Prop := S.root = S0.root ∧ ∀ p ∈ U, D.pg p = D0.pg p
theorem Same.refl (U : List Int) (S : Sh) (D : Dk) : Same U S D S D := ⟨rfl, fun _ _ => rfl⟩
theorem Same.trans {U : List Int} {S0 S S' : Sh} {D0 D D' : Dk} (h1 : Same U S D S' D') (h2 : Same U S0 D0 S D) : Same U S0 D0 S' D' := ⟨h1.1.trans h2.1, fun p h => (h1.2 p h).trans (h2.2 p h)⟩

/-- A node is laid on a page that is taken. -/
theorem fresh_ok {N : Nat} {S : Sh} {D : Dk} {U rest : List Int} (k : Fine N S D U) (hp : rest.Perm (S.after U)) (room : U.length + S.fresh.length + 2 < N) {d : Nd} (hd : d.good) : ∃ (m : Int) (S' : Sh) (D' : Dk),
    (∀ b sb db read r, Does Tryz.prog 29 [.pointer (some ⟨b, 0, none⟩), ndV d r] [Wk b sb read 0, Store sb db S, Disk db D, Nds d r] (fun v H => v = .int .i64 m ∧ H = [Wk b sb read 0, Store sb db S', Disk db D', Nds d r])) ∧
    Fine N S' D' U ∧ Gd N D' m d ∧ (∀ p, 0 ≤ p → (p ∈ U ∨ p ∈ S.fresh) → D'.pg p = D.pg p) ∧ (m :: rest).Perm (S'.after U) ∧ S'.fresh.length = S.fresh.length + 1 ∧ S'.gen = S.gen ∧ Same U S D S' D' := by
  obtain ⟨m, S', a1, a2, a3, a4, a5, a6, a7, a8, a9⟩ := k.takeSome room
  have hm : m ∈ S'.fresh := by rw [a6]; simp
  obtain ⟨E, w1, w2, w3⟩ := a5.write' hm (kd := 2) (t := d.text) (by omega) hd.tl
  have hg : ∀ a ∈ S.given, a ∈ U := k.v.2
  refine ⟨m, S', E, fun b sb db read r => wFresh_does b sb db m read S S' S' D E d r hd a4 w1, w2, ⟨a1, by rw [w3 m (by omega), if_pos rfl]⟩, ?_, ?_, by rw [a6]; simp, a8, a9, ?_⟩
  · intro p hp0 hq
    rw [w3 p hp0, if_neg]
    rintro rfl
    exact hq.elim a2 a3
  · refine perm_add hp k.afterNodup w2.afterNodup (fun q => (Sh.mem_after.1 q).1.elim a2 a3) fun a => ?_
    rw [Sh.mem_after, Sh.mem_after, a6, a7]
    simp only [List.mem_append, List.mem_singleton]
    constructor
    · rintro ⟨h | h | h, h2⟩
      · exact .inr ⟨.inl h, h2⟩
      · exact .inr ⟨.inr h, h2⟩
      · exact .inl h
    · rintro (rfl | ⟨h, h2⟩)
      · exact ⟨.inr (.inr rfl), fun q => a2 (hg _ q)⟩
      · exact ⟨h.elim .inl fun q => .inr (.inl q), h2⟩
  · intro p hq
    rw [w3 p (by have := k.h.b p hq; omega), if_neg]
    rintro rfl
    exact a2 hq
/-- A node is laid anew. -/
theorem lay_ok {N : Nat} {S : Sh} {D : Dk} {U rest : List Int} {pg : Int} (k : Fine N S D U) (hp : (pg :: rest).Perm (S.after U)) (room : U.length + S.fresh.length + 2 < N) {d : Nd} (hd : d.good) : ∃ (m : Int) (S' : Sh) (D' : Dk),
    (∀ b sb db read r, Does Tryz.prog 35 [.pointer (some ⟨b, 0, none⟩), .int .i64 pg, ndV d r] [Wk b sb read 0, Store sb db S, Disk db D, Nds d r] (fun v H => v = .int .i64 m ∧ H = [Wk b sb read 0, Store sb db S', Disk db D', Nds d r])) ∧
    Fine N S' D' U ∧ Gd N D' m d ∧ (∀ p ∈ rest, D'.pg p = D.pg p) ∧ (∀ p ∈ U, D'.pg p = D.pg p) ∧ (m :: rest).Perm (S'.after U) ∧ S.fresh.length ≤ S'.fresh.length ∧ S'.fresh.length ≤ S.fresh.length + 1 ∧ S'.gen = S.gen ∧ Same U S D S' D' := by
  have hpa : pg ∈ S.after U := hp.mem_iff.1 (by simp)
  have hnd := List.nodup_cons.1 (hp.nodup_iff.2 k.afterNodup)
  have hU : ∀ p ∈ U, 2 ≤ p ∧ p < (N : Int) := k.h.b
  by_cases hf : pg ∈ S.fresh
  · obtain ⟨E, w1, w2, w3⟩ := k.write' hf (kd := 2) (t := d.text) (by omega) hd.tl
    have hb := k.f.2 pg hf
    refine ⟨pg, S, E, fun b sb db read r => wLayF_does b sb db pg read S S D E d r hd hf w1, w2, ⟨⟨hb.1, hb.2.1⟩, by rw [w3 pg (by omega), if_pos rfl]⟩, ?_, ?_, hp, Nat.le_refl _, by omega, rfl, rfl, ?_⟩
    · intro p hq
      have h2 := (Sh.mem_after.1 (hp.mem_iff.1 (List.mem_cons_of_mem _ hq))).1
      have h3 : 0 ≤ p := h2.elim (fun q => by have := hU p q; omega) (fun q => by have := k.f.2 p q; omega)
      rw [w3 p h3, if_neg]
      rintro rfl
      exact hnd.1 hq
    · intro p hq
      rw [w3 p (by have := hU p hq; omega), if_neg]
      rintro rfl
      exact hb.2.2 hq
    · intro p hq
      rw [w3 p (by have := hU p hq; omega), if_neg]
      rintro rfl
      exact hb.2.2 hq
  · obtain ⟨h1, h2⟩ := Sh.mem_after.1 hpa
    have h1 : pg ∈ U := h1.elim id fun q => absurd q hf
    obtain ⟨S1, g1, g2, g3, g4, g5, g6⟩ := k.giveUsed' h1 h2
    have hp1 : rest.Perm (S1.after U) := perm_drop hp k.afterNodup g2.afterNodup fun a => by
      rw [Sh.mem_after, Sh.mem_after, g3, g4]
      simp only [List.mem_append, List.mem_singleton, not_or, and_assoc]
    obtain ⟨m, S', D', q1, q2, q3, q4, q5, q6, q7, q8⟩ := fresh_ok g2 hp1 (by rw [g3]; exact room) hd
    have hb := hU pg h1
    have hN := k.n
    refine ⟨m, S', D', fun b sb db read r => wLayG_does b sb db pg read m 0 S S1 S' D D' d r (by omega) hf g1 (q1 b sb db read r), q2, q3, ?_, ?_, q5, by rw [q6, g3]; omega, by rw [q6, g3]; omega, by rw [q7, g5], q8.trans ⟨g6, fun _ _ => rfl⟩⟩
    · intro p hq
      have h2 := (Sh.mem_after.1 (hp.mem_iff.1 (List.mem_cons_of_mem _ hq))).1
      refine q4 p (h2.elim (fun q => by have := hU p q; omega) (fun q => by have := k.f.2 p q; omega)) (by rw [g3]; exact h2)
    · exact fun p hq => q4 p (by have := hU p hq; omega) (.inl hq)
end Go.Proofs.YtpbibhhjbigdhaaGreat
/- Package tree: Put. -/
set_option maxRecDepth 20000
set_option linter.unusedVariables false
set_option linter.unusedSimpArgs false
namespace Go.Proofs.YtpbibhhjbigdhaaGreat
open Go.Proofs.YtpbibhhjbigdhaaGreat.SL

theorem done_does (b sb : Nat) (root read : Int) : Does Tryz.prog 28 [.pointer (some ⟨b, 0, none⟩), .int .i64 root] [Wk b sb read 0] (fun v H => v = .tuple #[.int .i64 root, .int .i64 0] ∧ H = [Wk b sb read 0]) := by
  refine does_of Tryz.func28 Tryz.ntmps28 rfl rfl rfl (fun w0 F0 => ?_)
  (repeat' (first | refine g_seq (h := ?_) | refine g_region (h := ?_) | refine l_nil (h := ?_) | refine n_then (h := ?_) | refine l_pures1 (h := ?_) | refine l_load (h := ?_) | refine g_skip (h := ?_) | refine g_ret (h := ?_) | refine g_cond_f (h := ?_)))
  refine r_ret ?_
  exact ⟨rfl, rfl⟩
theorem doneE_does (b sb : Nat) (root read e : Int) (he : e ≠ 0) : Does Tryz.prog 28 [.pointer (some ⟨b, 0, none⟩), .int .i64 root] [Wk b sb read e] (fun v H => v = .tuple #[.int .i64 0, .int .i64 e] ∧ H = [Wk b sb read e]) := by
  refine does_of Tryz.func28 Tryz.ntmps28 rfl rfl rfl (fun w0 F0 => ?_)
  (repeat' (first | refine g_seq (h := ?_) | refine g_region (h := ?_) | refine l_nil (h := ?_) | refine n_then (h := ?_) | refine l_pures1 (h := ?_) | refine l_load (h := ?_) | (refine g_spT (h := ?_); intro h)))
  all_goals
    (refine g_draw [cl _ _ _] (h := a_pass2 (h := ?_)))
  all_goals
    (repeat' (first | refine n_then (h := ?_) | refine g_ret (h := ?_) | refine n_then_ret (h := ?_) | refine a_done (h := ?_) | refine a_load (h := a_pass2 (h := ?_))))
  all_goals
    refine r_ret ?_
  all_goals exact ⟨rfl, rfl⟩

theorem vec_one (g e : Nat) (v : Value) : Shuts [cl g e [v]] (vec e 1 (some ⟨g, 0, none⟩) 1 1 [v]) := vec_shuts (xs := [v]) (rest := []) (Nat.le_refl _) (by simp [maxLen]) rfl rfl

/-- A value that is too long is refused. -/
theorem putLong_does (sb x : Nat) (root : Int) (v : List UInt8) (h : 40 < v.length) (hv : v.length < 1000000) : Does Tryz.prog 11 [.pointer (some ⟨sb, 0, none⟩), .int .i64 root, .int .u64 x, .string (str v)] [] (fun u H => u = .tuple #[.int .i64 0, .int .i64 1] ∧ H = []) := by
  refine does_of Tryz.func11 Tryz.ntmps11 rfl rfl rfl (fun w0 F0 => ?_)
  (repeat' (first | refine g_seq (h := ?_) | refine g_region (h := ?_) | refine l_nil (h := ?_) | refine n_then (h := ?_) | refine l_pures1 (h := ?_) | refine g_ret (h := ?_) | refine n_then_ret (h := ?_) | (refine g_spT (h := ?_); intro h)))
  refine r_ret ?_
  exact ⟨rfl, rfl⟩

set_option maxHeartbeats 1000000 in
/-- The first key of a tree. -/
theorem put0_does (sb db x : Nat) (v : List UInt8) (S S' : Sh) (D D' : Dk) (m : Int) (hv : v.length ≤ 40)
    (hF : ∀ b r, Does Tryz.prog 29 [.pointer (some ⟨b, 0, none⟩), ndV ⟨true, [x], [v], []⟩ r] [Wk b sb 0 0, Store sb db S, Disk db D, Nds ⟨true, [x], [v], []⟩ r] (fun u H => u = .int .i64 m ∧ H = [Wk b sb 0 0, Store sb db S', Disk db D', Nds ⟨true, [x], [v], []⟩ r])) :
    Does Tryz.prog 11 [.pointer (some ⟨sb, 0, none⟩), .int .i64 0, .int .u64 x, .string (str v)] [Store sb db S, Disk db D] (fun u H => u = .tuple #[.int .i64 m, .int .i64 0] ∧ H = [Store sb db S', Disk db D']) := by
  refine does_of Tryz.func11 Tryz.ntmps11 rfl rfl rfl (fun w0 F0 => ?_)
  (repeat' (first | refine g_seq (h := ?_) | refine g_region (h := ?_) | refine l_nil (h := ?_) | refine n_then (h := ?_) | refine l_pures1 (h := ?_) | (refine l_box (h := ?_); intro _) | (refine l_buildSlice1 (h := ?_); intro _) | refine g_skip (h := ?_) | refine g_cond_t (h := ?_) | (refine g_spF (h := ?_); intro h)))
  rename_i b g1 g2
  refine l_inv (H' := [cl g2 9 [.string (str v)], cl g1 38 [.int .u64 x], Wk b sb 0 0, Store sb db S, Disk db D]) (fun i => i) ?_
  refine l_shut (vec_one g1 38 (.int .u64 x)) (h := ?_)
  refine l_shut (vec_one g2 9 (.string (str v))) (h := ?_)
  refine l_inv (fun i => vec_nil (3) (1) i) ?_
  refine l_inv (H' := [Nds ⟨true, [x], [v], []⟩ ⟨some ⟨g1, 0, none⟩, 1, some ⟨g2, 0, none⟩, 1, none, 0⟩, Wk b sb 0 0, Store sb db S, Disk db D]) (fun i => Inv.shuts (K := NdsK ⟨true, [x], [v], []⟩ ⟨some ⟨g1, 0, none⟩, 1, some ⟨g2, 0, none⟩, 1, none, 0⟩ ()) (A := Nds ⟨true, [x], [v], []⟩ ⟨some ⟨g1, 0, none⟩, 1, some ⟨g2, 0, none⟩, 1, none, 0⟩) (show Shuts (NdsK ⟨true, [x], [v], []⟩ ⟨some ⟨g1, 0, none⟩, 1, some ⟨g2, 0, none⟩, 1, none, 0⟩ ()) (Nds ⟨true, [x], [v], []⟩ ⟨some ⟨g1, 0, none⟩, 1, some ⟨g2, 0, none⟩, 1, none, 0⟩) from fun _ _ s => ⟨(), trivial, s⟩) (i.parts (K := NdsK ⟨true, [x], [v], []⟩ ⟨some ⟨g1, 0, none⟩, 1, some ⟨g2, 0, none⟩, 1, none, 0⟩ ()) (Parts.cons (Take.there (Take.there Take.here)) (Parts.cons (Take.there Take.here) (Parts.cons Take.here Parts.nil))))) ?_
  have hF' : Does Tryz.prog 29 [.pointer (some ⟨b, 0, none⟩), .agg #[.bool true, .slice (some ⟨g1, 0, none⟩) 1 1, .slice (some ⟨g2, 0, none⟩) 1 1, .slice none 0 0]] [Wk b sb 0 0, Store sb db S, Disk db D, Nds ⟨true, [x], [v], []⟩ ⟨some ⟨g1, 0, none⟩, 1, some ⟨g2, 0, none⟩, 1, none, 0⟩] (fun u H => u = .int .i64 m ∧ H = [Wk b sb 0 0, Store sb db S', Disk db D', Nds ⟨true, [x], [v], []⟩ ⟨some ⟨g1, 0, none⟩, 1, some ⟨g2, 0, none⟩, 1, none, 0⟩]) := hF b ⟨some ⟨g1, 0, none⟩, 1, some ⟨g2, 0, none⟩, 1, none, 0⟩
  (repeat' (first | refine l_nil (h := ?_) | refine n_then (h := ?_) | refine l_pures1 (h := ?_) | (refine l_atc ?_; refine l_call (hF') ?_) | (refine l_atc ?_; refine l_call (done_does b sb m 0) ?_) | refine g_ret (h := ?_) | refine n_then_ret (h := ?_)))
  refine r_retk [Store sb db S', Disk db D'] ?_
  exact ⟨rfl, rfl⟩
end Go.Proofs.YtpbibhhjbigdhaaGreat
/- Package tree: a round of Put. -/
set_option maxRecDepth 20000
set_option linter.unusedVariables false
set_option linter.unusedSimpArgs false
namespace Go.Proofs.YtpbibhhjbigdhaaGreat
open Go.Proofs.YtpbibhhjbigdhaaGreat.SL

abbrev putT (b sb b' b12 b14 x : Nat) : List (Nat × Value) := [(10, .pointer (some ⟨b, 0, none⟩)), (11, .pointer (some ⟨b', 0, none⟩)), (12, .pointer (some ⟨b12, 0, none⟩)), (14, .pointer (some ⟨b14, 0, none⟩)), (2, .int .u64 x), (0, .pointer (some ⟨sb, 0, none⟩))]

set_option maxHeartbeats 2000000 in
/-- No split, no node above. -/
theorem putTop (b sb db b' b12 b14 x : Nat) (read m : Int) (xs : Sp) (n : Nd) (rn : Rw) (S S' : Sh) (D D' : Dk) (hn : n.size ≤ 240) (hf : n.fits)
    (hL : ∀ b sb db read r, Does Tryz.prog 35 [.pointer (some ⟨b, 0, none⟩), .int .i64 xs.pg, ndV n r] [Wk b sb read 0, Store sb db S, Disk db D, Nds n r] (fun v H => v = .int .i64 m ∧ H = [Wk b sb read 0, Store sb db S', Disk db D', Nds n r]))
    (w0 : World) (F0 : Nat → Prop) (Q : Exit → Act → World → Prop) (hc : SL.Calm Q) (hq : N 147 w0 F0 .ret Q [(8, .int .i64 m), (9, .int .i64 0)] [] [Store sb db S', Disk db D']) :
    G Tryz.prog 147 w0 F0 (nav [1, 1, 1, 1, 1, 1, 1, 1, 2, 2, 2] (bdy Tryz.f11)) Q (putT b sb b' b12 b14 x) [] [cl b12 83 xs.c, cl b14 79 (ndA n rn).toList, Stk b' [], Nds n rn, Wk b sb read 0, Store sb db S, Disk db D] := by
  have hS := ndSize_does n rn hf
  have hp := popNone_does b'
  unfold Sp.c
  obtain ⟨c, hc⟩ : ∃ c, c = nav [1, 1, 1, 1, 1, 1, 1, 1, 2, 2, 2] (bdy Tryz.f11) := ⟨_, rfl⟩
  rw [← hc]
  dsimp only [nav, bdy, Tryz.f11, Option.getD] at hc
  subst hc
  (repeat' (first | refine g_seq (h := ?_) | refine g_region (h := ?_) | refine l_nil (h := ?_) | refine n_then (h := ?_) | refine l_pures1 (h := ?_) | (refine l_atc ?_; refine l_call (hS) ?_) | (refine l_atc ?_; refine l_call (hL b sb db read rn) ?_) | (refine l_atc ?_; refine l_call (hp) ?_) | refine l_guard_yes (h := ?_) | refine l_guard_no (h := ?_) | refine l_load (h := ?_) | refine l_store (h := ?_) | (refine l_alloc (h := ?_); intro _) | refine g_skip (h := ?_) | refine g_ret (h := ?_) | refine n_then_ret (h := ?_) | refine n_block_ret (h := ?_) | refine g_block (h := ?_) | refine g_cond_t (h := ?_) | refine g_cond_f (h := ?_) | (refine g_spF (h := ?_); intro h)))
  exact n_bang hq

set_option maxHeartbeats 2000000 in
/-- No split, a node above. -/
theorem putUp (A : SProp) (b sb db b' b12 b14 x : Nat) (read m : Int) (xs s : Sp) (L : List Sp) (n : Nd) (rn : Rw) (S S' : Sh) (D D' : Dk) (hn : n.size ≤ 240) (hf : n.fits) (hs : s.d.leaf = false) (hk : s.i < s.d.kids.length) (hlen : L.length < 100)
    (hL : ∀ b sb db read r, Does Tryz.prog 35 [.pointer (some ⟨b, 0, none⟩), .int .i64 xs.pg, ndV n r] [Wk b sb read 0, Store sb db S, Disk db D, Nds n r] (fun v H => v = .int .i64 m ∧ H = [Wk b sb read 0, Store sb db S', Disk db D', Nds n r]))
    (w0 : World) (F0 : Nat → Prop) (Q : Exit → Act → World → Prop) (hc : SL.Calm Q)
    (hq : ∀ r, N 147 w0 F0 .normal Q (putT b sb b' b12 b14 x) [] [cl b12 83 s.c, cl b14 79 (ndA { s.d with kids := s.d.kids.set s.i m } r).toList, Stk b' L, Nds { s.d with kids := s.d.kids.set s.i m } r, Wk b sb read 0, Store sb db S', Disk db D', A]) :
    G Tryz.prog 147 w0 F0 (nav [1, 1, 1, 1, 1, 1, 1, 1, 2, 2, 2] (bdy Tryz.f11)) Q (putT b sb b' b12 b14 x) [] [cl b12 83 xs.c, cl b14 79 (ndA n rn).toList, Stk b' (L ++ [s]), Nds s.d s.r, Nds n rn, Wk b sb read 0, Store sb db S, Disk db D, A] := by
  have hS := ndSize_does n rn hf
  have hp := pop_does b' L s hlen
  obtain ⟨tpg, td, ⟨p1, c1, p2, c2, p3, c3⟩, ti⟩ := s
  dsimp only [Sp.c] at hs hk hq
  unfold Sp.c
  obtain ⟨c, hc⟩ : ∃ c, c = nav [1, 1, 1, 1, 1, 1, 1, 1, 2, 2, 2] (bdy Tryz.f11) := ⟨_, rfl⟩
  rw [← hc]
  dsimp only [nav, bdy, Tryz.f11, Option.getD] at hc
  subst hc
  (repeat' (first | refine g_seq (h := ?_) | refine g_region (h := ?_) | refine l_nil (h := ?_) | refine n_then (h := ?_) | refine l_pures1 (h := ?_) | (refine l_atc ?_; refine l_call (hS) ?_) | (refine l_atc ?_; refine l_call (hL b sb db read rn) ?_) | (refine l_atc ?_; refine l_call (hp) ?_) | refine l_guard_no (h := ?_) | refine l_load (h := ?_) | refine l_store (h := ?_) | (refine l_alloc (h := ?_); intro _) | refine g_skip (h := ?_) | refine g_block (h := ?_) | refine n_block (h := ?_) | refine g_cond_f (h := ?_) | (refine g_spF (h := ?_); intro h)))
  rename_i b15 b17 b21
  dsimp only
  (refine g_draw [cl b21 83 _] (h := a_pass2 (h := ?_)))
  (repeat' (first | refine g_seq (h := ?_) | refine g_region (h := ?_) | refine l_nil (h := ?_) | refine n_then (h := ?_) | refine l_pures1 (h := ?_) | refine l_load (h := ?_) | refine l_store (h := ?_) | refine a_done (h := ?_) | refine a_load (h := a_pass2 (h := ?_)) | refine a_one (h := ?_) | refine n_any (h := a_pass2 (h := ?_))))
  refine l_open (A := Nds td ⟨p1, c1, p2, c2, p3, c3⟩) (h := ?_); (rintro _ _; dsimp only [NdsK, List.cons_append, List.nil_append])
  refine l_ptr (m := td.kids.length) (h := ?_); rintro g rfl hcp
  (repeat' (first | refine g_seq (h := ?_) | refine g_region (h := ?_) | refine l_nil (h := ?_) | refine n_then (h := ?_) | refine l_pures1 (h := ?_) | refine l_indexAddr (h := ?_) | refine g_skip (h := ?_) | refine g_cond_f (h := ?_) | refine l_store_vec (h := ?_)))
  have e1 : (td.kids.map encZ').set (0 + ((ti : Nat) : Int).toNat * 1) (.int .i64 m) = (td.kids.set ti m).map encZ' := by
    rw [Nat.zero_add, Nat.mul_one, Int.toNat_natCast, List.map_set]; rfl
  have e4 : cl b14 79 [.bool td.leaf, .slice p1 td.keys.length c1, .slice p2 td.vals.length c2, .slice (some ⟨g, 0, none⟩) td.kids.length c3] = cl b14 79 (ndA { td with kids := td.kids.set ti m } ⟨p1, c1, p2, c2, some ⟨g, 0, none⟩, c3⟩).toList := by
    simp only [ndA, List.length_set]
  rw [e1]
  (refine n_shut (A := Nds { td with kids := td.kids.set ti m } ⟨p1, c1, p2, c2, some ⟨g, 0, none⟩, c3⟩) (K := NdsK { td with kids := td.kids.set ti m } ⟨p1, c1, p2, c2, some ⟨g, 0, none⟩, c3⟩ (())) (hid_shuts (()) trivial) (h := ?_) (p := by dsimp only [NdsK]; (try simp only [List.map_nil, List.length_nil, List.length_set, List.length_append, List.length_cons, List.length_singleton, List.map_append, List.map_cons, Nat.zero_add]); exact parts_of))
  rw [e4]
  exact n_bang (hq ⟨p1, c1, p2, c2, some ⟨g, 0, none⟩, c3⟩)
end Go.Proofs.YtpbibhhjbigdhaaGreat
/- Package tree: a round of Put that splits. -/
set_option maxRecDepth 20000
set_option linter.unusedVariables false
set_option linter.unusedSimpArgs false
namespace Go.Proofs.YtpbibhhjbigdhaaGreat
open Go.Proofs.YtpbibhhjbigdhaaGreat.SL

set_option maxHeartbeats 2000000 in
/-- A split, a node above. -/
theorem putSplitUp (A : SProp) (b sb db b' b12 b14 x : Nat) (read m m2 : Int) (xs s : Sp) (L : List Sp) (n : Nd) (rn : Rw) (S S1 S' : Sh) (D D1 D' : Dk) (hn : 240 < n.size) (hz : n.size < 10000) (hp0 : n.plain) (hf : n.fits) (hm0 : 1 ≤ n.keys.length - 1 - n.up) (hsf : s.d.fits) (hsi : s.i ≤ s.d.keys.length) (hsv : s.d.vals = []) (hs : s.d.leaf = false) (hk : s.i < s.d.kids.length) (hlen : L.length < 100)
    (hL : ∀ b sb db read r, Does Tryz.prog 35 [.pointer (some ⟨b, 0, none⟩), .int .i64 xs.pg, ndV (n.front n.at') r] [Wk b sb read 0, Store sb db S, Disk db D, Nds (n.front n.at') r] (fun v H => v = .int .i64 m ∧ H = [Wk b sb read 0, Store sb db S1, Disk db D1, Nds (n.front n.at') r]))
    (hR : ∀ b sb db read r, Does Tryz.prog 29 [.pointer (some ⟨b, 0, none⟩), ndV (n.back n.at') r] [Wk b sb read 0, Store sb db S1, Disk db D1, Nds (n.back n.at') r] (fun v H => v = .int .i64 m2 ∧ H = [Wk b sb read 0, Store sb db S', Disk db D', Nds (n.back n.at') r]))
    (w0 : World) (F0 : Nat → Prop) (Q : Exit → Act → World → Prop) (hc : SL.Calm Q)
    (hq : ∀ r, N 147 w0 F0 .normal Q (putT b sb b' b12 b14 x) [] [cl b12 83 s.c, cl b14 79 (ndA (Nd.hang { s.d with kids := s.d.kids.set s.i m } s.i (n.keys.getD n.at' 0) m2) r).toList, Stk b' L, Nds (Nd.hang { s.d with kids := s.d.kids.set s.i m } s.i (n.keys.getD n.at' 0) m2) r, Wk b sb read 0, Store sb db S', Disk db D', A]) :
    G Tryz.prog 147 w0 F0 (nav [1, 1, 1, 1, 1, 1, 1, 1, 2, 2, 2] (bdy Tryz.f11)) Q (putT b sb b' b12 b14 x) [] [cl b12 83 xs.c, cl b14 79 (ndA n rn).toList, Stk b' (L ++ [s]), Nds s.d s.r, Nds n rn, Wk b sb read 0, Store sb db S, Disk db D, A] := by
  have hS := ndSize_does n rn hf
  have hp := pop_does b' L s hlen
  have hX := nSplit_does n rn hp0 hf hz hm0
  obtain ⟨tpg, td, ⟨p1, c1, p2, c2, p3, c3⟩, ti⟩ := s
  dsimp only [Sp.c] at hs hk hq hsf hsi hsv
  have hH := fun r => nHang_does { td with kids := td.kids.set ti m } r ti (n.keys.getD n.at' 0) m2 hs ⟨hsf.k, by simp only [List.length_set]; exact hsf.i, hsf.v, hsf.s⟩ hsi hsv
  unfold Sp.c
  obtain ⟨c, hc⟩ : ∃ c, c = nav [1, 1, 1, 1, 1, 1, 1, 1, 2, 2, 2] (bdy Tryz.f11) := ⟨_, rfl⟩
  rw [← hc]
  dsimp only [nav, bdy, Tryz.f11, Option.getD] at hc
  subst hc
  (repeat' (first | refine g_seq (h := ?_) | refine g_region (h := ?_) | refine l_nil (h := ?_) | refine n_then (h := ?_) | refine l_pures1 (h := ?_) | (refine l_atc ?_; refine l_call (hS) ?_) | (refine l_atc ?_; refine l_call_ (hX) ?_; rintro _ _ _ ⟨rf, rb, rfl, rfl⟩ he; cases he) | (refine l_atc ?_; refine l_call (hL b sb db read _) ?_) | (refine l_atc ?_; refine l_call (hR b sb db read _) ?_) | (refine l_atc ?_; refine l_call (hp) ?_) | refine l_guard_yes (h := ?_) | refine l_guard_no (h := ?_) | refine l_load (h := ?_) | refine l_store (h := ?_) | (refine l_alloc (h := ?_); intro _) | refine g_skip (h := ?_) | refine g_block (h := ?_) | refine n_block (h := ?_) | refine g_cond_t (h := ?_) | refine g_cond_f (h := ?_) | (refine g_spT (h := ?_); intro h)))
  rename_i b15 b17 b21
  dsimp only
  (refine g_draw [cl b21 83 _] (h := a_pass2 (h := ?_)))
  (repeat' (first | refine g_seq (h := ?_) | refine g_region (h := ?_) | refine l_nil (h := ?_) | refine n_then (h := ?_) | refine l_pures1 (h := ?_) | refine l_load (h := ?_) | refine l_store (h := ?_) | refine a_done (h := ?_) | refine a_load (h := a_pass2 (h := ?_)) | refine a_one (h := ?_) | refine n_any (h := a_pass2 (h := ?_))))
  refine l_open (A := Nds td ⟨p1, c1, p2, c2, p3, c3⟩) (h := ?_); (rintro _ _; dsimp only [NdsK, List.cons_append, List.nil_append])
  refine l_ptr (m := td.kids.length) (h := ?_); rintro g rfl hcp
  (repeat' (first | refine g_seq (h := ?_) | refine g_region (h := ?_) | refine l_nil (h := ?_) | refine n_then (h := ?_) | refine l_pures1 (h := ?_) | refine l_load (h := ?_) | refine l_indexAddr (h := ?_) | refine g_cond_t (h := ?_) | refine l_store_vec (h := ?_)))
  have e1 : (td.kids.map encZ').set (0 + ((ti : Nat) : Int).toNat * 1) (.int .i64 m) = (td.kids.set ti m).map encZ' := by
    rw [Nat.zero_add, Nat.mul_one, Int.toNat_natCast, List.map_set]; rfl
  rw [e1]
  (refine l_shut (A := Nds { td with kids := td.kids.set ti m } ⟨p1, c1, p2, c2, some ⟨g, 0, none⟩, c3⟩) (K := NdsK { td with kids := td.kids.set ti m } ⟨p1, c1, p2, c2, some ⟨g, 0, none⟩, c3⟩ (())) (hid_shuts (()) trivial) (h := ?_) (p := by dsimp only [NdsK]; (try simp only [List.map_nil, List.length_nil, List.length_set, List.length_append, List.length_cons, List.length_singleton, List.map_append, List.map_cons, Nat.zero_add]); exact parts_of))
  have hH' := hH ⟨p1, c1, p2, c2, some ⟨g, 0, none⟩, c3⟩
  simp only [ndV, ndA, List.length_set] at hH'
  (repeat' (first | refine l_nil (h := ?_) | (refine l_atc ?_; refine l_call_ (hH') ?_; rintro _ _ _ ⟨rh, rfl, rfl⟩ he; cases he) | refine l_store (h := ?_)))
  exact n_bang (hq rh)

theorem vec_two (g e : Nat) (v u : Value) : Shuts [cl g e [v, u]] (vec e 1 (some ⟨g, 0, none⟩) 2 2 [v, u]) := vec_shuts (xs := [v, u]) (rest := []) (Nat.le_refl _) (by simp [maxLen]) rfl rfl

set_option maxHeartbeats 2000000 in
/-- A split, no node above. -/
theorem putSplitTop (b sb db b' b12 b14 x : Nat) (read m m2 m3 : Int) (xs : Sp) (n : Nd) (rn : Rw) (S S1 S2 S' : Sh) (D D1 D2 D' : Dk) (hn : 240 < n.size) (hz : n.size < 10000) (hp0 : n.plain) (hf : n.fits) (hm0 : 1 ≤ n.keys.length - 1 - n.up)
    (hL : ∀ b sb db read r, Does Tryz.prog 35 [.pointer (some ⟨b, 0, none⟩), .int .i64 xs.pg, ndV (n.front n.at') r] [Wk b sb read 0, Store sb db S, Disk db D, Nds (n.front n.at') r] (fun v H => v = .int .i64 m ∧ H = [Wk b sb read 0, Store sb db S1, Disk db D1, Nds (n.front n.at') r]))
    (hR : ∀ b sb db read r, Does Tryz.prog 29 [.pointer (some ⟨b, 0, none⟩), ndV (n.back n.at') r] [Wk b sb read 0, Store sb db S1, Disk db D1, Nds (n.back n.at') r] (fun v H => v = .int .i64 m2 ∧ H = [Wk b sb read 0, Store sb db S2, Disk db D2, Nds (n.back n.at') r]))
    (hT : ∀ b sb db read r, Does Tryz.prog 29 [.pointer (some ⟨b, 0, none⟩), ndV ⟨false, [n.keys.getD n.at' 0], [], [m, m2]⟩ r] [Wk b sb read 0, Store sb db S2, Disk db D2, Nds ⟨false, [n.keys.getD n.at' 0], [], [m, m2]⟩ r] (fun v H => v = .int .i64 m3 ∧ H = [Wk b sb read 0, Store sb db S', Disk db D', Nds ⟨false, [n.keys.getD n.at' 0], [], [m, m2]⟩ r]))
    (w0 : World) (F0 : Nat → Prop) (Q : Exit → Act → World → Prop) (hc : SL.Calm Q) (hq : N 147 w0 F0 .ret Q [(8, .int .i64 m3), (9, .int .i64 0)] [] [Store sb db S', Disk db D']) :
    G Tryz.prog 147 w0 F0 (nav [1, 1, 1, 1, 1, 1, 1, 1, 2, 2, 2] (bdy Tryz.f11)) Q (putT b sb b' b12 b14 x) [] [cl b12 83 xs.c, cl b14 79 (ndA n rn).toList, Stk b' [], Nds n rn, Wk b sb read 0, Store sb db S, Disk db D] := by
  have hS := ndSize_does n rn hf
  have hX := nSplit_does n rn hp0 hf hz hm0
  have hp := popNone_does b'
  unfold Sp.c
  obtain ⟨c, hc⟩ : ∃ c, c = nav [1, 1, 1, 1, 1, 1, 1, 1, 2, 2, 2] (bdy Tryz.f11) := ⟨_, rfl⟩
  rw [← hc]
  dsimp only [nav, bdy, Tryz.f11, Option.getD] at hc
  subst hc
  (repeat' (first | refine g_seq (h := ?_) | refine g_region (h := ?_) | refine l_nil (h := ?_) | refine n_then (h := ?_) | refine l_pures1 (h := ?_) | (refine l_atc ?_; refine l_call (hS) ?_) | (refine l_atc ?_; refine l_call_ (hX) ?_; rintro _ _ _ ⟨rf, rb, rfl, rfl⟩ he; cases he) | (refine l_atc ?_; refine l_call (hL b sb db read _) ?_) | (refine l_atc ?_; refine l_call (hR b sb db read _) ?_) | (refine l_atc ?_; refine l_call (hp) ?_) | refine l_guard_yes (h := ?_) | refine l_load (h := ?_) | refine l_store (h := ?_) | (refine l_alloc (h := ?_); intro _) | (refine l_buildSlice1 (h := ?_); intro _) | refine g_skip (h := ?_) | refine g_block (h := ?_) | refine g_cond_t (h := ?_) | refine g_cond_f (h := ?_) | (refine l_buildSlice2 (h := ?_); intro _) | (refine g_spT (h := ?_); intro h)))
  rename_i g1 g2
  have hT' : Does Tryz.prog 29 [.pointer (some ⟨b, 0, none⟩), .agg #[.bool false, .slice (some ⟨g1, 0, none⟩) 1 1, .slice none 0 0, .slice (some ⟨g2, 0, none⟩) 2 2]] [Wk b sb read 0, Store sb db S2, Disk db D2, Nds ⟨false, [n.keys.getD n.at' 0], [], [m, m2]⟩ ⟨some ⟨g1, 0, none⟩, 1, none, 0, some ⟨g2, 0, none⟩, 2⟩] (fun v H => v = .int .i64 m3 ∧ H = [Wk b sb read 0, Store sb db S', Disk db D', Nds ⟨false, [n.keys.getD n.at' 0], [], [m, m2]⟩ ⟨some ⟨g1, 0, none⟩, 1, none, 0, some ⟨g2, 0, none⟩, 2⟩]) := hT b sb db read _
  refine l_shut (vec_one g1 38 (.int .u64 (n.keys.getD n.at' 0 : Nat))) (h := ?_)
  refine l_shut (vec_two g2 3 (.int .i64 m) (.int .i64 m2)) (h := ?_)
  refine l_inv (fun i => vec_nil (9) (1) i) ?_
  refine l_inv (fun i => Inv.shuts (K := NdsK ⟨false, [n.keys.getD n.at' 0], [], [m, m2]⟩ ⟨some ⟨g1, 0, none⟩, 1, none, 0, some ⟨g2, 0, none⟩, 2⟩ ()) (A := Nds ⟨false, [n.keys.getD n.at' 0], [], [m, m2]⟩ ⟨some ⟨g1, 0, none⟩, 1, none, 0, some ⟨g2, 0, none⟩, 2⟩) (show Shuts (NdsK ⟨false, [n.keys.getD n.at' 0], [], [m, m2]⟩ ⟨some ⟨g1, 0, none⟩, 1, none, 0, some ⟨g2, 0, none⟩, 2⟩ ()) (Nds ⟨false, [n.keys.getD n.at' 0], [], [m, m2]⟩ ⟨some ⟨g1, 0, none⟩, 1, none, 0, some ⟨g2, 0, none⟩, 2⟩) from fun _ _ s => ⟨(), trivial, s⟩) (i.parts (K := NdsK ⟨false, [n.keys.getD n.at' 0], [], [m, m2]⟩ ⟨some ⟨g1, 0, none⟩, 1, none, 0, some ⟨g2, 0, none⟩, 2⟩ ()) (Parts.cons (Take.there (Take.there Take.here)) (Parts.cons Take.here (Parts.cons Take.here Parts.nil))))) ?_
  (repeat' (first | refine l_nil (h := ?_) | refine n_then (h := ?_) | refine l_pures1 (h := ?_) | (refine l_atc ?_; refine l_call (hT') ?_) | (refine l_atc ?_; refine l_call (done_does b sb m3 read) ?_) | refine g_ret (h := ?_) | refine n_then_ret (h := ?_) | refine n_block_ret (h := ?_)))
  exact n_bang hq
end Go.Proofs.YtpbibhhjbigdhaaGreat
/- Put, plainly: what a round does to the tree. No code. -/
set_option maxRecDepth 20000
set_option linter.unusedVariables false
set_option linter.unusedSimpArgs false
namespace Go.Proofs.YtpbibhhjbigdhaaGreat
open Go.Proofs.YtpbibhhjbigdhaaGreat.SL

/-- A tree on a store: its root, what it has; its pages are all that count. -/
def IsTree (N : Nat) (S : Sh) (D : Dk) (U : List Int) (root : Int) (T : List Ent) : Prop :=
  root = 0 ∧ T = [] ∧ S.after U = [] ∨ ∃ h ps, OnP (Gd N D) h root ⟨T, ps⟩ ∧ ps.Perm (S.after U)
/-- A node in hand, that is to be laid on the page pg, and the way above it. -/
structure Hand (N : Nat) (U : List Int) (T : List Ent) (S : Sh) (D : Dk) (up : List Spot) (pg : Int) (n : Nd) (h : Nat) (Lf Rt es : List Ent) (ps qs : List Int) : Prop where
  fine : Fine N S D U
  way : Way (Gd N D) up h Lf Rt qs
  nt : NT (Gd N D) h n es ps
  pages : (pg :: (ps ++ qs)).Perm (S.after U)
  fit : ∀ e ∈ es, FitsP up e.1
  all : Lf ++ (es ++ Rt) = T
  some : n.keys ≠ []

theorem Gd.keep {N : Nat} {D D' : Dk} {p : Int} {d : Nd} (g : Gd N D p d) (h : D'.pg p = D.pg p) : Gd N D' p d := ⟨g.1, by rw [h]; exact g.2⟩

theorem Hand.up {N : Nat} {U : List Int} {T : List Ent} {S S' : Sh} {D D' : Dk} {s : Spot} {up : List Spot} {pg m : Int} {n : Nd} {h : Nat} {Lf Rt es : List Ent} {ps qs : List Int} (k : Hand N U T S D (s :: up) pg n h Lf Rt es ps qs) (hn : n.size ≤ 240)
    (f' : Fine N S' D' U) (gm : Gd N D' m n) (same : ∀ p ∈ ps ++ qs, D'.pg p = D.pg p) (hp : (m :: (ps ++ qs)).Perm (S'.after U)) :
    ∃ Lf' Rt' es' ps' qs', Hand N U T S' D' up s.pg { s.d with kids := s.d.kids.set s.i m } (h + 1) Lf' Rt' es' ps' qs' ∧ s.d.good ∧ s.d.leaf = false ∧ s.i ≤ s.d.keys.length := by
  obtain ⟨L', R', q0, sl, sr, w, g, mid, fs, rfl, rfl, rfl⟩ := k.way
  have hN := f'.n
  have o : OnP (Gd N D') h m ⟨es, m :: ps⟩ := ⟨n, ps, gm, ⟨k.nt.plain, fun _ => List.length_pos_iff.2 k.some, hn⟩, fun _ => k.some, k.nt.same (fun p hp d gd => gd.keep (same p (by simp [hp]))), rfl⟩
  have hnt := plug (g' := Gd N D') mid o (by have := gm.1; omega) (fun e he => (k.fit e he).1) (fun p hp d gd => gd.keep (same p (by simp only [List.mem_append, List.mem_cons] at hp ⊢; exact .inr (.inr (hp.elim .inl fun q => .inr (.inl q))))))
  refine ⟨L', R', _, _, q0, ⟨f', w.same (fun p hp d gd => gd.keep (same p (by simp [hp]))), hnt, ?_, ?_, ?_, mid.ne⟩, mid.good, mid.leaf, mid.ile⟩
  · refine List.Perm.trans ?_ hp
    refine List.perm_iff_count.2 fun a => ?_
    simp only [List.count_append, List.count_cons, List.cons_append]
    omega
  · intro e he
    simp only [List.mem_append] at he
    rcases he with he | he | he
    · exact fs e (by simp [he])
    · exact (k.fit e he).2
    · exact fs e (by simp [he])
  · rw [← k.all]; simp
theorem Hand.top {N : Nat} {U : List Int} {T : List Ent} {S S' : Sh} {D D' : Dk} {pg m : Int} {n : Nd} {h : Nat} {Lf Rt es : List Ent} {ps qs : List Int} (k : Hand N U T S D [] pg n h Lf Rt es ps qs) (hn : n.size ≤ 240)
    (f' : Fine N S' D' U) (gm : Gd N D' m n) (same : ∀ p ∈ ps ++ qs, D'.pg p = D.pg p) (hp : (m :: (ps ++ qs)).Perm (S'.after U)) : IsTree N S' D' U m T := by
  obtain ⟨rfl, rfl, rfl⟩ := k.way
  refine .inr ⟨h, m :: ps, ⟨n, ps, gm, ⟨k.nt.plain, fun _ => List.length_pos_iff.2 k.some, hn⟩, fun _ => k.some, ?_, rfl⟩, by simpa using hp⟩
  have := k.nt.same (g' := Gd N D') (fun p hp d gd => gd.keep (same p (by simp [hp])))
  have e := k.all
  simp only [List.nil_append, List.append_nil] at e
  rw [← e]
  exact this

theorem Hand.splitUp {N : Nat} {U : List Int} {T : List Ent} {S S' : Sh} {D D' : Dk} {s : Spot} {up : List Spot} {pg m m2 : Int} {n : Nd} {h : Nat} {Lf Rt es : List Ent} {ps qs : List Int} (k : Hand N U T S D (s :: up) pg n h Lf Rt es ps qs) (h1 : 240 < n.size) (h2 : n.size ≤ 340)
    (f' : Fine N S' D' U) (g1 : Gd N D' m (n.front n.at')) (g2 : Gd N D' m2 (n.back n.at')) (same : ∀ p ∈ ps ++ qs, D'.pg p = D.pg p) (hp : (m2 :: m :: (ps ++ qs)).Perm (S'.after U)) :
    ∃ Lf' Rt' es' ps' qs', Hand N U T S' D' up s.pg (Nd.hang { s.d with kids := s.d.kids.set s.i m } s.i (n.keys.getD n.at' 0) m2) (h + 1) Lf' Rt' es' ps' qs' := by
  obtain ⟨L', R', q0, sl, sr, w, g, mid, fs, rfl, rfl, rfl⟩ := k.way
  have hN := f'.n
  obtain ⟨a1, a2, a3, a4, a5⟩ := at_spec k.nt.plain h1 h2
  obtain ⟨e1, p1, e2, p2, md, hmd, n1, n2, rfl, rfl, lt1, ge2, k1, k2⟩ := split_nt k.nt a2 a3
  have hmd' : n.keys.getD n.at' 0 = md := by rw [List.getD, hmd]; rfl
  have hmm : md < 18446744073709551616 := k.nt.plain.key md (List.mem_of_getElem? hmd)
  rw [hmd']
  have o1 : OnP (Gd N D') h m ⟨e1, m :: p1⟩ := ⟨_, p1, g1, ⟨n1.plain, fun _ => List.length_pos_iff.2 k1, a4⟩, fun _ => k1, n1.same (fun p hp d gd => gd.keep (same p (by simp [hp]))), rfl⟩
  have o2 : OnP (Gd N D') h m2 ⟨e2, m2 :: p2⟩ := ⟨_, p2, g2, ⟨n2.plain, fun _ => List.length_pos_iff.2 k2, a5⟩, fun _ => k2, n2.same (fun p hp d gd => gd.keep (same p (by simp [hp]))), rfl⟩
  have hnt := plug2 (g' := Gd N D') mid o1 o2 (by have := g1.1; omega) (by have := g2.1; omega) hmm (fun e he => ⟨(k.fit e (by simp [he])).1, lt1 e he⟩) (fun e he => ⟨(k.fit e (by simp [he])).1, ge2 e he⟩) (fun p hp d gd => gd.keep (same p (by simp only [List.mem_append, List.mem_cons] at hp ⊢; exact .inr (.inr (hp.elim .inl fun q => .inr (.inl q))))))
  refine ⟨L', R', _, _, q0, ⟨f', w.same (fun p hp d gd => gd.keep (same p (by simp [hp]))), hnt, ?_, ?_, ?_, by simp [Nd.hang, laidL]⟩⟩
  · refine List.Perm.trans ?_ hp
    refine List.perm_iff_count.2 fun a => ?_
    simp only [List.count_append, List.count_cons, List.cons_append]
    omega
  · intro e he
    simp only [List.mem_append] at he
    rcases he with he | (he | he) | he
    · exact fs e (by simp [he])
    · exact (k.fit e (by simp [he])).2
    · exact (k.fit e (by simp [he])).2
    · exact fs e (by simp [he])
  · rw [← k.all]; simp

theorem Hand.splitTop {N : Nat} {U : List Int} {T : List Ent} {S S' : Sh} {D D' : Dk} {pg m m2 m3 : Int} {n : Nd} {h : Nat} {Lf Rt es : List Ent} {ps qs : List Int} (k : Hand N U T S D [] pg n h Lf Rt es ps qs) (h1 : 240 < n.size) (h2 : n.size ≤ 340)
    (f' : Fine N S' D' U) (g1 : Gd N D' m (n.front n.at')) (g2 : Gd N D' m2 (n.back n.at')) (g3 : Gd N D' m3 ⟨false, [n.keys.getD n.at' 0], [], [m, m2]⟩) (same : ∀ p ∈ ps ++ qs, D'.pg p = D.pg p) (hp : (m3 :: m2 :: m :: (ps ++ qs)).Perm (S'.after U)) :
    IsTree N S' D' U m3 T := by
  obtain ⟨rfl, rfl, rfl⟩ := k.way
  have hN := f'.n
  obtain ⟨a1, a2, a3, a4, a5⟩ := at_spec k.nt.plain h1 h2
  obtain ⟨e1, p1, e2, p2, md, hmd, n1, n2, rfl, rfl, lt1, ge2, k1, k2⟩ := split_nt k.nt a2 a3
  have hmd' : n.keys.getD n.at' 0 = md := by rw [List.getD, hmd]; rfl
  have hmm : md < 18446744073709551616 := k.nt.plain.key md (List.mem_of_getElem? hmd)
  rw [hmd'] at g3
  have o1 : OnP (Gd N D') h m ⟨e1, m :: p1⟩ := ⟨_, p1, g1, ⟨n1.plain, fun _ => List.length_pos_iff.2 k1, a4⟩, fun _ => k1, n1.same (fun p hp d gd => gd.keep (same p (by simp [hp]))), rfl⟩
  have o2 : OnP (Gd N D') h m2 ⟨e2, m2 :: p2⟩ := ⟨_, p2, g2, ⟨n2.plain, fun _ => List.length_pos_iff.2 k2, a5⟩, fun _ => k2, n2.same (fun p hp d gd => gd.keep (same p (by simp [hp]))), rfl⟩
  have b1 := g1.1
  have b2 := g2.1
  have hnt := nt_of (g := Gd N D') (h := h) (d := ⟨false, [md], [], [m, m2]⟩) (ss := [⟨e1, m :: p1⟩, ⟨e2, m2 :: p2⟩]) rfl rfl (all2_cons.2 ⟨_, _, rfl, o1, all2_cons.2 ⟨_, _, rfl, o2, trivial⟩⟩) ⟨lt1, fun y hy => ge2 y (by simpa [Sub.all] using hy), trivial⟩ (by simp; omega) (by simp; omega)
  have hes := k.all
  simp only [List.nil_append, List.append_nil] at hes
  refine .inr ⟨h + 1, m3 :: (m :: p1 ++ m2 :: p2), ⟨_, _, g3, ⟨hnt.plain, by simp, by simp [Nd.size]⟩, by simp, ?_, rfl⟩, ?_⟩
  · have : Sub.all [⟨e1, m :: p1⟩, ⟨e2, m2 :: p2⟩] = T := by rw [← hes]; simp [Sub.all]
    rw [this] at hnt
    simpa [Sub.pages] using hnt
  · refine List.Perm.trans ?_ hp
    refine List.perm_iff_count.2 fun a => ?_
    simp only [List.count_append, List.count_cons, List.cons_append, List.append_nil]
    omega
end Go.Proofs.YtpbibhhjbigdhaaGreat
/- Package tree: the loop of Put. -/
set_option maxRecDepth 20000
set_option linter.unusedVariables false
set_option linter.unusedSimpArgs false
namespace Go.Proofs.YtpbibhhjbigdhaaGreat
open Go.Proofs.YtpbibhhjbigdhaaGreat.SL

structure PutSt where
  L : List Sp
  xs : Sp
  n : Nd
  rn : Rw
  S : Sh
  D : Dk
/-- What holds at each round of Put; c: pages that may be taken yet. -/
def PutI (N : Nat) (U : List Int) (T : List Ent) (S0 : Sh) (D0 : Dk) (y : PutSt) : Prop :=
  ∃ h Lf Rt es ps qs, Hand N U T y.S y.D (y.L.map Sp.spot).reverse y.xs.pg y.n h Lf Rt es ps qs ∧ y.n.size ≤ 340 ∧ y.n.plain ∧ U.length + y.S.fresh.length + 2 * y.L.length + 5 < N ∧ y.L.length < 100 ∧ y.S.gen = S0.gen ∧ Same U S0 D0 y.S y.D

set_option maxHeartbeats 2000000 in
theorem put_loop (b sb db b' b12 b14 x N : Nat) (read : Int) (U : List Int) (T : List Ent) (S0 : Sh) (D0 : Dk) (y0 : PutSt) (h0 : PutI N U T S0 D0 y0) (w0 : World) (F0 : Nat → Prop) :
    G Tryz.prog 147 w0 F0 (nav [1, 1, 1, 1, 1, 1, 1, 1, 2] (bdy Tryz.f11)) (Exit.inBlock 0 (Post Tryz.prog Tryz.f11 w0 F0 (fun v H => ∃ m S' D', v = .tuple #[.int .i64 m, .int .i64 0] ∧ H = [Store sb db S', Disk db D'] ∧ IsTree N S' D' U m T ∧ Fine N S' D' U ∧ S'.gen = S0.gen ∧ Same U S0 D0 S' D')))
      (putT b sb b' b12 b14 x) [] [cl b12 83 y0.xs.c, cl b14 79 (ndA y0.n y0.rn).toList, Stk b' y0.L, NdL y0.L, Nds y0.n y0.rn, Wk b sb read 0, Store sb db y0.S, Disk db y0.D] := by
  obtain ⟨c, hc⟩ : ∃ c, c = nav [1, 1, 1, 1, 1, 1, 1, 1, 2] (bdy Tryz.f11) := ⟨_, rfl⟩
  rw [← hc]
  dsimp only [nav, bdy, Tryz.f11, Option.getD] at hc
  subst hc
  (refine g_loop (fun y : PutSt => putT b sb b' b12 b14 x) (fun y => [cl b12 83 y.xs.c, cl b14 79 (ndA y.n y.rn).toList, Stk b' y.L, NdL y.L, Nds y.n y.rn, Wk b sb read 0, Store sb db y.S, Disk db y.D]) (fun y => PutI N U T S0 D0 y) (fun y => y.L.length) (y0) ?_ ?_ ?_ ?_; rotate_left; (repeat (first | refine ts_nil | (refine ts_cons rfl ?_ ?_; first | (with_reducible rfl) | rotate_left))); (first | (intro _ i; with_reducible refine i) | rotate_left); rotate_left; (try omega); rotate_right)
  · rintro ⟨L, xs, n, rn, S, D⟩ ⟨h, Lf, Rt, es, ps, qs, k, hz, hpl, room, hL, hg, hr⟩
    dsimp only at k hz hpl room hL hg hr ⊢
    have hf := hpl.fits (by omega)
    refine g_block ?_
    by_cases hn : n.size ≤ 240
    · have hgood : n.good := ⟨hpl, fun _ => List.length_pos_iff.2 k.some, hn⟩
      obtain ⟨m, S', D', c1, c2, c3, c4, c5, c6, c7, c8, c9, c10⟩ := lay_ok k.fine k.pages (by omega) hgood
      rcases List.eq_nil_or_concat L with rfl | ⟨L', s, rfl⟩
      · refine g_bang (putTop b sb db b' b12 b14 x read m xs n rn S S' D D' hn hf c1 w0 F0 _ (by with_reducible (repeat (first | refine calm_post | apply calm_then | apply calm_block))) ?_)
        (repeat (first | refine n_then_ret (h := ?_) | refine n_block_ret (h := ?_)))
        refine r_ret ?_
        exact ⟨m, S', D', rfl, rfl, Hand.top k hn c2 c3 c4 c6, c2, c9.trans hg, c10.trans hr⟩
      · rw [List.concat_eq_append] at *
        rw [List.map_append, List.reverse_append] at k
        obtain ⟨Lf', Rt', es', ps', qs', k', v1, v2, v3⟩ := Hand.up k hn c2 c3 c4 c6
        refine g_inv (fun i => ndl_last (i.take (A := NdL (L' ++ [s])) (by with_reducible (repeat (first | refine Take.here | apply Take.there))))) ?_
        refine g_bang (putUp (NdL L') b sb db b' b12 b14 x read m xs s L' n rn S S' D D' hn hf v2 (by have v5 : s.d.kids.length = s.d.keys.length + 1 := kidsLen v1.p v2; have v4 : s.i ≤ s.d.keys.length := v3; omega) (by simp at hL; omega) c1 w0 F0 _ (by with_reducible (repeat (first | refine calm_post | apply calm_then | apply calm_block))) ?_)
        intro r
        (repeat refine n_block (h := ?_))
        (refine n_back ((⟨L', s, { s.d with kids := s.d.kids.set s.i m }, r, S', D'⟩ : PutSt)) ?_ ?_ ?_ ?_; rotate_left; rotate_left; (repeat (first | refine ts_nil | (refine ts_cons rfl ?_ ?_; first | (with_reducible rfl) | rotate_left))); (first | (intro _ i; with_reducible refine i) | rotate_left); (try omega); (try omega))
        · have hsz : Nd.size { s.d with kids := s.d.kids.set s.i m } = s.d.size := by simp only [Nd.size, List.length_set]
          have v6 : s.d.size ≤ 240 := v1.size
          simp only [List.length_append, List.length_singleton] at room hL
          exact ⟨h + 1, Lf', Rt', es', ps', qs', k', by show Nd.size _ ≤ 340; rw [hsz]; omega, k'.nt.plain, by show U.length + S'.fresh.length + 2 * L'.length + 5 < N; omega, by show L'.length < 100; omega, c9.trans hg, c10.trans hr⟩
        · show L'.length < (L' ++ [s]).length
          simp
        · skip
          (intro _ i; exact inv_keep parts_of i)
    · have hn : 240 < n.size := by omega
      obtain ⟨a1, a2, a3, a4, a5⟩ := at_spec hpl hn hz
      obtain ⟨e1, p1, e2, p2, md, hmd, n1, n2, _, _, _, _, q1, q2⟩ := split_nt k.nt a2 a3
      have gf : (n.front n.at').good := ⟨n1.plain, fun _ => List.length_pos_iff.2 q1, a4⟩
      have gb : (n.back n.at').good := ⟨n2.plain, fun _ => List.length_pos_iff.2 q2, a5⟩
      obtain ⟨m, S1, D1, c1, c2, c3, c4, c5, c6, c7, c8, c9, c10⟩ := lay_ok k.fine k.pages (by omega) gf
      obtain ⟨m2, S2, D2, f1, f2, f3, f4, f5, f6, f7, f8⟩ := fresh_ok c2 c6 (by omega) gb
      have old : ∀ p ∈ m :: (ps ++ qs), D2.pg p = D1.pg p := fun p hp => by
        have h1 := (Sh.mem_after.1 (c6.mem_iff.1 hp)).1
        exact f4 p (h1.elim (fun q => by have := c2.h.b p q; omega) (fun q => by have := c2.f.2 p q; omega)) h1
      have same : ∀ p ∈ ps ++ qs, D2.pg p = D.pg p := fun p hp => (old p (List.mem_cons_of_mem _ hp)).trans (c4 p hp)
      have g1 : Gd N D2 m (n.front n.at') := c3.keep (old m (by simp))
      rcases List.eq_nil_or_concat L with rfl | ⟨L', s, rfl⟩
      · have hN := c2.n
        have b1 := c3.1
        have b2 := f3.1
        have hmd' : n.keys.getD n.at' 0 = md := by rw [List.getD, hmd]; rfl
        have hmm : n.keys.getD n.at' 0 < 18446744073709551616 := by rw [hmd']; exact hpl.key md (List.mem_of_getElem? hmd)
        have gT : Nd.good ⟨false, [n.keys.getD n.at' 0], [], [m, m2]⟩ := ⟨⟨List.pairwise_singleton _ _, by intro k hk; simp only [List.mem_singleton] at hk; omega, by simp, by intro i hi; simp only [List.mem_cons, List.not_mem_nil, or_false] at hi; omega, rfl, rfl⟩, by simp, by simp [Nd.size]⟩
        obtain ⟨m3, S3, D3, t1, t2, t3, t4, t5, t6, t7, t8⟩ := fresh_ok f2 f5 (by omega) gT
        have old3 : ∀ p ∈ m2 :: m :: (ps ++ qs), D3.pg p = D2.pg p := fun p hp => by
          have h1 := (Sh.mem_after.1 (f5.mem_iff.1 hp)).1
          exact t4 p (h1.elim (fun q => by have := f2.h.b p q; omega) (fun q => by have := f2.f.2 p q; omega)) h1
        refine g_bang (putSplitTop b sb db b' b12 b14 x read m m2 m3 xs n rn S S1 S2 S3 D D1 D2 D3 hn (by omega) hpl hf a1 c1 f1 t1 w0 F0 _ (by with_reducible (repeat (first | refine calm_post | apply calm_then | apply calm_block))) ?_)
        (repeat (first | refine n_then_ret (h := ?_) | refine n_block_ret (h := ?_)))
        refine r_ret ?_
        exact ⟨m3, S3, D3, rfl, rfl, Hand.splitTop k hn hz t2 (g1.keep (old3 m (by simp))) (f3.keep (old3 m2 (by simp))) t3 (fun p hp => (old3 p (by simp only [List.mem_cons]; exact .inr (.inr hp))).trans (same p hp)) t5, t2, ((t7.trans f7).trans c9).trans hg, ((t8.trans f8).trans c10).trans hr⟩
      · rw [List.concat_eq_append] at *
        rw [List.map_append, List.reverse_append] at k
        obtain ⟨Lf', Rt', es', ps', qs', k'⟩ := Hand.splitUp k hn hz f2 g1 f3 same f5
        obtain ⟨_, _, _, _, _, _, v0, v1, _⟩ := k.way
        have v2 : s.d.leaf = false := v1.leaf
        have v3 : s.i ≤ s.d.keys.length := v1.ile
        have v4 : s.d.good := v1.good
        have v5 : s.d.kids.length = s.d.keys.length + 1 := kidsLen v4.p v2
        simp only [List.length_append, List.length_singleton] at room hL
        refine g_inv (fun i => ndl_last (i.take (A := NdL (L' ++ [s])) (by with_reducible (repeat (first | refine Take.here | apply Take.there))))) ?_
        refine g_bang (putSplitUp (NdL L') b sb db b' b12 b14 x read m m2 xs s L' n rn S S1 S2 D D1 D2 hn (by omega) hpl hf a1 v4.fits v3 (noVals v4.p v2) v2 (by omega) (by omega) c1 f1 w0 F0 _ (by with_reducible (repeat (first | refine calm_post | apply calm_then | apply calm_block))) ?_)
        intro r
        (repeat refine n_block (h := ?_))
        (refine n_back ((⟨L', s, Nd.hang { s.d with kids := s.d.kids.set s.i m } s.i (n.keys.getD n.at' 0) m2, r, S2, D2⟩ : PutSt)) ?_ ?_ ?_ ?_; rotate_left; rotate_left; (repeat (first | refine ts_nil | (refine ts_cons rfl ?_ ?_; first | (with_reducible rfl) | rotate_left))); (first | (intro _ i; with_reducible refine i) | rotate_left); (try omega); (try omega))
        · have hsz : Nd.size (Nd.hang { s.d with kids := s.d.kids.set s.i m } s.i (n.keys.getD n.at' 0) m2) ≤ 340 := by
            have v6 := v4.size
            simp only [Nd.size, v2, Bool.false_eq_true, if_false] at v6
            simp only [Nd.size, Nd.hang, laidL, Bool.false_eq_true, if_false, List.length_append, List.length_take, List.length_drop, List.length_singleton, List.length_set]
            omega
          exact ⟨h + 1, Lf', Rt', es', ps', qs', k', hsz, k'.nt.plain, by show U.length + S2.fresh.length + 2 * L'.length + 5 < N; omega, by show L'.length < 100; omega, (f7.trans c9).trans hg, (f8.trans c10).trans hr⟩
        · show L'.length < (L' ++ [s]).length
          simp
        · skip
          (intro _ i; exact inv_keep parts_of i)
end Go.Proofs.YtpbibhhjbigdhaaGreat
/- Package tree: Put of a tree that is there. -/
set_option maxRecDepth 20000
set_option linter.unusedVariables false
set_option linter.unusedSimpArgs false
namespace Go.Proofs.YtpbibhhjbigdhaaGreat
open Go.Proofs.YtpbibhhjbigdhaaGreat.SL

set_option maxHeartbeats 2000000 in
theorem put1_does (sb db x N : Nat) (v : List UInt8) (root : Int) (U : List Int) (T : List Ent) (S : Sh) (D : Dk) (l0 : List Spot) (s : Spot) (hg : Goes S D x root (l0 ++ [s])) (hl : l0.length + 1 ≤ 10) (hr : root ≠ 0) (hv : v.length ≤ 40)
    (hI : ∀ (L : List Sp) (t : Sp) r, L.map Sp.spot = l0 → t.spot = s → PutI N U T S D ⟨L, t, s.d.put x v, r, S, D⟩) :
    Does Tryz.prog 11 [.pointer (some ⟨sb, 0, none⟩), .int .i64 root, .int .u64 x, .string (str v)] [Store sb db S, Disk db D]
      (fun u H => ∃ m S' D', u = .tuple #[.int .i64 m, .int .i64 0] ∧ H = [Store sb db S', Disk db D'] ∧ IsTree N S' D' U m T ∧ Fine N S' D' U ∧ S'.gen = S.gen ∧ Same U S D S' D') := by
  obtain ⟨hd, hlf, hi⟩ := hg.last
  have hw := fun b => way_does b sb db x root 0 S D (l0 ++ [s]) hg (by simp; omega) (by simp; omega)
  refine does_of Tryz.func11 Tryz.ntmps11 rfl rfl rfl (fun w0 F0 => ?_)
  (repeat' (first | refine g_seq (h := ?_) | refine g_region (h := ?_) | refine l_nil (h := ?_) | refine n_then (h := ?_) | refine l_pures1 (h := ?_) | (refine l_box (h := ?_); intro _) | refine g_skip (h := ?_) | (refine g_spF (h := ?_); intro h)))
  rename_i b
  refine l_inv (H' := [Wk b sb 0 0, Store sb db S, Disk db D]) (fun i => i) ?_
  (repeat' (first | refine g_seq (h := ?_) | refine g_region (h := ?_) | refine l_nil (h := ?_) | refine n_then (h := ?_) | refine l_pures1 (h := ?_) | (refine l_atc ?_; refine l_call_ (hw b) ?_; rintro _ _ _ ⟨b', L, hL, rfl, rfl⟩ he; cases he) | refine l_load (h := ?_) | refine g_skip (h := ?_) | refine g_cond_f (h := ?_)))
  obtain ⟨L0, t, rfl⟩ : ∃ L0 t, L = L0 ++ [t] := by
    rcases List.eq_nil_or_concat L with rfl | ⟨l, s, rfl⟩
    · simp at hL
    · exact ⟨l, s, by simp⟩
  have hL2 : L0.map Sp.spot = l0 ∧ t.spot = s := by
    have := congrArg List.reverse hL
    simp at this
    exact ⟨this.2, this.1⟩
  obtain ⟨hL1, hts⟩ := hL2
  subst hts
  have hlen : L0.length = l0.length := by rw [← hL1]; simp
  have hpop := pop_does b' L0 t (by omega)
  refine l_inv (fun q => ndl_last (q.take (A := NdL (L0 ++ [t])) (by with_reducible (repeat (first | refine Take.here | apply Take.there))))) ?_
  dsimp only [Sp.spot] at hlf
  have hki : t.d.kids = [] := List.length_eq_zero_iff.1 (by have := hd.p.kids; rw [show (Sp.spot t).d.leaf = true from hlf] at this; simpa using this)
  have hP := nPut_does t.d t.r x v hlf hd.fits hd.p.rise hki
  have hlp := fun b12 b14 rp => put_loop b sb db b' b12 b14 x N (0 + ((l0 ++ [t.spot]).length : Int)) U T S D ⟨L0, t, t.d.put x v, rp, S, D⟩ (hI L0 t rp hL1 rfl) w0 F0
  dsimp only [Sp.c] at hlp
  (repeat (first | refine g_seq (h := ?_) | refine g_region (h := ?_) | refine l_nil (h := ?_) | refine n_then (h := ?_) | refine l_pures1 (h := ?_) | (refine l_atc ?_; refine l_call (hpop) ?_) | (refine l_atc ?_; refine l_call_ (hP) ?_; rintro _ _ _ ⟨rp, rfl, rfl⟩ he; cases he) | refine l_load (h := ?_) | refine l_store (h := ?_) | (refine l_alloc (h := ?_); intro _) | refine g_block (h := ?_)))
  exact g_bang (hlp _ _ _)
end Go.Proofs.YtpbibhhjbigdhaaGreat
/- Package tree: Put, whole. -/
set_option maxRecDepth 20000
set_option linter.unusedVariables false
set_option linter.unusedSimpArgs false
namespace Go.Proofs.YtpbibhhjbigdhaaGreat
open Go.Proofs.YtpbibhhjbigdhaaGreat.SL

theorem high_le {h n : Nat} (k : 2 ^ (h + 1) ≤ n) (hn : n ≤ 700) : h ≤ 8 := by
  apply Decidable.byContradiction
  intro c
  have : 2 ^ 10 ≤ 2 ^ (h + 1) := Nat.pow_le_pow_right (by omega) (by omega)
  omega
theorem Fine.afterLen {N : Nat} {S : Sh} {D : Dk} {U : List Int} (k : Fine N S D U) : (S.after U).length ≤ U.length + S.fresh.length := by
  have := List.length_filter_le (fun i => !decide (i ∈ S.given)) (U ++ S.fresh)
  rw [List.length_append] at this
  exact this
theorem put_tree (sb db x N : Nat) (v : List UInt8) (root : Int) (U : List Int) (T : List Ent) (S : Sh) (D : Dk) (k : Fine N S D U) (ht : IsTree N S D U root T) (hx : x < 18446744073709551616) (hv : v.length ≤ 40) (room : U.length + S.fresh.length + 25 < N) :
    Does Tryz.prog 11 [.pointer (some ⟨sb, 0, none⟩), .int .i64 root, .int .u64 x, .string (str v)] [Store sb db S, Disk db D]
      (fun u H => ∃ m S' D', u = .tuple #[.int .i64 m, .int .i64 0] ∧ H = [Store sb db S', Disk db D'] ∧ IsTree N S' D' U m (putE T x v) ∧ Fine N S' D' U ∧ S'.gen = S.gen ∧ Same U S D S' D') := by
  have hN := k.n
  have hal := k.afterLen
  rcases ht with ⟨rfl, rfl, h0⟩ | ⟨h, ps, o, hp⟩
  · have hd : Nd.good ⟨true, [x], [v], []⟩ := ⟨⟨List.pairwise_singleton _ _, by simpa using hx, by simpa using hv, by simp, rfl, rfl⟩, by simp, by simp [Nd.size, sumL]; omega⟩
    obtain ⟨m, S', D', c1, c2, c3, c4, c5, c6, c7, c8⟩ := fresh_ok k (rest := []) (by rw [h0]) (by omega) hd
    refine (put0_does sb db x v S S' D D' m hv (fun b r => c1 b sb db 0 r)).mono ?_
    rintro u H ⟨rfl, rfl⟩
    refine ⟨m, S', D', rfl, rfl, .inr ⟨0, [m], ⟨_, [], c3, hd, by simp, ⟨rfl, hd.p, rfl, rfl⟩, rfl⟩, c5⟩, c2, c7, c8⟩
  · have hh := o.high
    obtain ⟨d, ps1, g, hd, hne, hn, e⟩ := o
    subst e
    have hlen := hp.length_eq
    dsimp only at hh hn
    have h8 := high_le hh (by omega)
    obtain ⟨top, s, L, R, qs, r1, r2, r3, r4, r5, r6, r7, r8, r9, r10, r11⟩ := goes_way k (x := x) hn hd hne g (up := []) (L0 := []) (R0 := []) (ps0 := []) ⟨rfl, rfl, rfl⟩ trivial (fun _ _ => trivial)
    obtain ⟨lt1, lt2⟩ := r3.lt r8
    simp only [List.nil_append, List.append_nil] at r3 r8 r9 r10 r11
    obtain ⟨n1, n2, n3⟩ := put_nt (g := Gd N D) (d := s.d) (es := s.d.ents) (ps := []) ⟨r5, r4.p, rfl, rfl⟩ hx hv
    have hroot : root ≠ 0 := by have := g.1; omega
    refine put1_does sb db x N v root U (putE T x v) S D top s r1 (by omega) hroot hv fun L1 t r hL1 ht => ⟨0, L, R, putE s.d.ents x v, [], qs, ⟨k, ?_, n1, ?_, ?_, ?_, List.length_pos_iff.1 n3⟩, ?_, n1.plain, ?_, ?_, rfl, .refl _ _ _⟩
    · show Way _ (L1.map Sp.spot).reverse 0 L R qs
      rw [hL1]; exact r3
    · have e1 : t.pg = s.pg := congrArg Spot.pg ht
      show (t.pg :: qs).Perm (S.after U)
      rw [e1]; exact r11.trans hp
    · intro e he
      show FitsP (L1.map Sp.spot).reverse e.1
      rw [hL1]
      simp only [putE, List.mem_append, List.mem_cons, List.mem_filter] at he
      rcases he with ⟨he, _⟩ | rfl | ⟨he, _⟩
      · exact r9 e he
      · exact r8
      · exact r9 e he
    · rw [← r10, putE_mid lt1 lt2]
    · have := r4.size
      show (s.d.put x v).size ≤ 340
      omega
    all_goals
      have e2 : L1.length = top.length := by rw [← hL1]; simp
    · show U.length + S.fresh.length + 2 * L1.length + 5 < N
      omega
    · show L1.length < 100
      omega
end Go.Proofs.YtpbibhhjbigdhaaGreat
