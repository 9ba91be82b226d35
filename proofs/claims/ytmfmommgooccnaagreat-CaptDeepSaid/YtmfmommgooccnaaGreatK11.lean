/- Texts LbA, CaT, CaX, CpD, RowL, RowS, joined. -/
import Derived.SliceStrings
import Derived.ChangeSlices
import Derived.Carry
import Derived.Test.YtmfmommgooccnaaGreatK10
/- Package label: labels of letters alone. -/
set_option maxRecDepth 20000
set_option linter.unusedVariables false
set_option linter.unusedSimpArgs false
namespace Go.Proofs.YtmfmommgooccnaaGreat
open Go.Proofs.YtmfmommgooccnaaGreat.SL

def lett (c : UInt8) : Prop := (97 ≤ c.toNat ∧ c.toNat ≤ 122) ∨ (65 ≤ c.toNat ∧ c.toNat ≤ 90)
def lowB (c : UInt8) : UInt8 := if 65 ≤ c.toNat ∧ c.toNat ≤ 90 then UInt8.ofNat (c.toNat + 32) else c
theorem lowB_nat {c : UInt8} (h : 65 ≤ c.toNat ∧ c.toNat ≤ 90) : (lowB c).toNat = c.toNat + 32 := by
  unfold lowB
  rw [if_pos h]
  have : c.toNat + 32 < 256 := by omega
  simp [Nat.mod_eq_of_lt this]
theorem lowB_low {c : UInt8} (h : ¬ (65 ≤ c.toNat ∧ c.toNat ≤ 90)) : lowB c = c := if_neg h
theorem str_size (l : List UInt8) : (str l).size = l.length := by simp [str, ByteArray.size]
theorem str_dec {l : List UInt8} {i : Nat} (h : i < l.length) (hc : (l[i]).toNat < 128) : Utf8.decode (str l) i = ((l[i]).toNat, 1) := by
  have h2 : i < (str l).size := by rw [str_size]; exact h
  have e : (str l)[i]'h2 = l[i] := by simp [str]; rfl
  have := decode_ascii (str l) i h2 (by rw [e]; exact hc)
  rw [e] at this
  exact this
theorem lPlain_does (r : Nat) (h : (97 ≤ r ∧ r ≤ 122) ∨ (65 ≤ r ∧ r ≤ 90)) : Does Tryz.prog 166 [.int .i32 r] [] (fun v H => v = .bool true ∧ H = []) := by
  refine does_of Tryz.func166 Tryz.ntmps166 rfl rfl rfl (fun w0 F0 => ?_)
  (repeat' (first | refine g_seq (h := ?_) | refine g_region (h := ?_) | refine l_nil (h := ?_) | refine n_then (h := ?_) | refine l_pures1 (h := ?_) | refine l_guard_yes (h := ?_) | refine l_guard_no (h := ?_) | refine g_skip (h := ?_) | refine g_ret (h := ?_) | refine n_then_ret (h := ?_) | refine n_block_ret (h := ?_) | refine g_block (h := ?_) | refine g_cond_f (h := ?_) | (refine l_spT (h := ?_); intro h) | (refine l_sp (h1 := ?_) (h0 := ?_) <;> intro h) | (refine g_spT (h := ?_); intro h)))
  all_goals
    refine r_retk [] ?_
  all_goals exact ⟨rfl, rfl⟩
theorem runes_does (l : List UInt8) (hl : l.length ≤ 1000) (hc : ∀ c ∈ l, c.toNat < 128) : Does Tryz.prog 165 [.string (str l)] [] (fun v H => v = .int .i64 l.length ∧ H = []) := by
  have hsz := str_size l
  refine does_of Tryz.func165 Tryz.ntmps165 rfl rfl rfl (fun w0 F0 => ?_)
  (repeat' (first | refine g_seq (h := ?_) | refine g_region (h := ?_) | refine l_nil (h := ?_) | refine n_then (h := ?_) | refine l_pures1 (h := ?_) | refine g_block (h := ?_) | (refine l_range_str (h := ?_); intro _)))
  rename_i b
  (refine g_loop (fun i : Nat => [(3, .int .i64 i), (5, .pointer (some ⟨b, 0, none⟩))]) (fun i => [itr b (str l) i]) (fun i => i ≤ l.length) (fun i => l.length - i) (0) ?_ ?_ ?_ ?_; rotate_left; (repeat (first | refine ts_nil | (refine ts_cons rfl ?_ ?_; first | (with_reducible rfl) | rotate_left))); (first | (intro _ i; with_reducible refine i) | rotate_left); rotate_left; (try omega); rotate_right)
  · intro i hi
    by_cases hil : i < l.length
    · have hp : i < (str l).size := by omega
      have hdec := str_dec hil (hc _ (List.getElem_mem hil))
      (repeat' (first | refine g_seq (h := ?_) | refine g_region (h := ?_) | refine l_nil (h := ?_) | refine n_then (h := ?_) | refine l_pures1 (h := ?_) | refine g_skip (h := ?_) | refine g_block (h := ?_) | refine n_block (h := ?_) | refine g_cond_t (h := ?_) | refine l_next_str (h := ?_)))
      (refine n_back (i + 1) ?_ ?_ ?_ ?_; rotate_left; rotate_left; (repeat (first | refine ts_nil | (refine ts_cons rfl ?_ ?_; first | (with_reducible rfl) | rotate_left))); (first | (intro _ i; with_reducible refine i) | rotate_left); (try omega); (try omega))
      all_goals first
        | exact hil
        | omega
        | (rw [wrapI64 (by omega)]; rfl)
        | (intro _ i; exact inv_keep parts_of i)
        | rfl
    · obtain rfl : i = l.length := by omega
      have hp : ¬ l.length < (str l).size := by omega
      (repeat' (first | refine g_seq (h := ?_) | refine g_region (h := ?_) | refine l_nil (h := ?_) | refine n_then (h := ?_) | refine l_pures1 (h := ?_) | refine g_ret (h := ?_) | refine g_exit (h := ?_) | refine n_then_exit (h := ?_) | refine n_block_hit (h := ?_) | refine g_cond_f (h := ?_) | refine l_next_end (h := ?_)))
      refine r_retk [] ?_
      exact ⟨rfl, rfl⟩
  all_goals first
    | exact Nat.zero_le _
    | rfl
    | (intro _ i; exact inv_keep parts_of i)
theorem right2_does (l : List UInt8) (h1 : 1 ≤ l.length ∧ l.length ≤ 16) (hc : ∀ c ∈ l, lett c) : Does Tryz.prog 124 [.string (str l)] [] (fun v H => v = .bool true ∧ H = []) := by
  have hsz := str_size l
  have hru := runes_does l (by omega) (fun c h => by have := hc c h; unfold lett at this; omega)
  refine does_of Tryz.func124 Tryz.ntmps124 rfl rfl rfl (fun w0 F0 => ?_)
  (repeat' (first | refine g_seq (h := ?_) | refine g_region (h := ?_) | refine l_nil (h := ?_) | refine n_then (h := ?_) | refine l_pures1 (h := ?_) | (refine l_atc ?_; refine l_call (hru) ?_) | refine l_guard_yes (h := ?_) | refine l_guard_no (h := ?_) | refine g_skip (h := ?_) | refine g_ret (h := ?_) | refine n_then_ret (h := ?_) | refine g_block (h := ?_) | refine g_cond_t (h := ?_) | (refine l_range_str (h := ?_); intro _) | (refine l_spF (h := ?_); intro h) | (refine l_sp (h1 := ?_) (h0 := ?_) <;> intro h) | (refine g_spF (h := ?_); intro h)))
  · subst h; simp at h1
  rename_i b
  (refine g_loop (fun y : Nat × Nat => [(3, .int .i32 y.2), (19, .pointer (some ⟨b, 0, none⟩))]) (fun y => [itr b (str l) y.1]) (fun y => y.1 ≤ l.length ∧ (0 < y.1 → (97 ≤ y.2 ∧ y.2 ≤ 122) ∨ (65 ≤ y.2 ∧ y.2 ≤ 90))) (fun y => l.length - y.1) ((0, 46)) ?_ ?_ ?_ ?_; rotate_left; (repeat (first | refine ts_nil | (refine ts_cons rfl ?_ ?_; first | (with_reducible rfl) | rotate_left))); (first | (intro _ i; with_reducible refine i) | rotate_left); rotate_left; (try omega); rotate_right)
  · rintro ⟨i, w⟩ ⟨hi, hw⟩
    dsimp only at hi hw ⊢
    by_cases hil : i < l.length
    · have hp : i < (str l).size := by omega
      have hlt := hc _ (List.getElem_mem hil)
      obtain ⟨x, hx⟩ : ∃ x, x = l[i] := ⟨_, rfl⟩
      have hdec : Utf8.decode (str l) i = (x.toNat, 1) := by rw [hx]; exact str_dec hil (by have := hlt; unfold lett at this; omega)
      have hlt : lett x := by rw [hx]; exact hlt
      unfold lett at hlt
      have hpl := lPlain_does x.toNat hlt
      (repeat' (first | refine g_seq (h := ?_) | refine g_region (h := ?_) | refine l_nil (h := ?_) | refine n_then (h := ?_) | refine l_pures1 (h := ?_) | (refine l_atc ?_; refine l_call (hpl) ?_) | refine g_skip (h := ?_) | refine g_block (h := ?_) | refine n_block (h := ?_) | refine g_cond_t (h := ?_) | refine l_next_str (h := ?_)))
      (refine n_back ((i + 1, x.toNat)) ?_ ?_ ?_ ?_; rotate_left; rotate_left; (repeat (first | refine ts_nil | (refine ts_cons rfl ?_ ?_; first | (with_reducible rfl) | rotate_left))); (first | (intro _ i; with_reducible refine i) | rotate_left); (try omega); (try omega))
      all_goals first
        | exact ⟨hil, fun _ => hlt⟩
        | omega
        | (dsimp only; omega)
        | (intro _ i; exact inv_keep parts_of i)
        | rfl
    · obtain rfl : i = l.length := by omega
      have hp : ¬ l.length < (str l).size := by omega
      have hpl := lPlain_does w (hw (by omega))
      (repeat' (first | refine g_seq (h := ?_) | refine g_region (h := ?_) | refine l_nil (h := ?_) | refine n_then (h := ?_) | refine l_pures1 (h := ?_) | (refine l_atc ?_; refine l_call (hpl) ?_) | refine g_ret (h := ?_) | refine g_exit (h := ?_) | refine n_then_exit (h := ?_) | refine n_block_hit (h := ?_) | refine g_cond_f (h := ?_) | refine l_next_end (h := ?_)))
      refine r_retk [] ?_
      exact ⟨rfl, rfl⟩
  all_goals first
    | exact ⟨Nat.zero_le _, fun h => absurd h (by omega)⟩
    | rfl
    | (intro _ i; exact inv_keep parts_of i)
theorem appendRune_does (r cap : Nat) (p : Option Addr) (l : List UInt8) (c : UInt8) (hr : r = c.toNat) (h : r < 128) (hl : l.length < 1000000) : Does Tryz.prog 168 [.slice p l.length cap, .int .i32 r] [vec 5 1 p l.length cap (bsV l)] (fun v H => ∃ p' cap', v = .slice p' (l.length + 1) cap' ∧ H = [vec 5 1 p' (l.length + 1) cap' (bsV (l ++ [c]))]) := by
  have e1 : IntKind.u32.wrap (r : Int) = r := by simp [IntKind.wrap, IntKind.bits, IntKind.signed]; omega
  have e2 : IntKind.u8.wrap (r : Int) = (c.toNat : Int) := by subst hr; simp [IntKind.wrap, IntKind.bits, IntKind.signed]; omega
  refine does_of Tryz.func168 Tryz.ntmps168 rfl rfl rfl (fun w0 F0 => ?_)
  (repeat (first | refine g_seq (h := ?_) | refine g_region (h := ?_) | refine l_nil (h := ?_) | refine n_then (h := ?_) | refine l_pures1 (h := ?_)))
  rw [e1]
  (repeat' (first | refine g_seq (h := ?_) | refine g_region (h := ?_) | refine l_nil (h := ?_) | refine n_then (h := ?_) | refine l_pures1 (h := ?_) | (refine l_buildSlice1 (h := ?_); intro _) | (refine l_append_new (h := ?_); intro _ _) | refine g_ret (h := ?_) | refine n_then_ret (h := ?_) | (refine g_spT (h := ?_); intro h)))
  rename_i b1 p' cap'
  have e3 : bsV l ++ [Value.int .u8 (IntKind.u8.wrap (r : Int))] = bsV (l ++ [c]) := by rw [e2, bsV_append, bsV_one]
  rw [e3]
  refine r_retk [vec 5 1 p' (l.length + 1) cap' (bsV (l ++ [c]))] ?_
  exact ⟨p', cap', rfl, rfl⟩
theorem bWriteRune_does (b : Nat) (l : List UInt8) (c : UInt8) (r : Int) (hr : r = c.toNat) (h : c.toNat < 128) (hl : l.length < 1000000) : Does Tryz.prog 125 [.pointer (some ⟨b, 0, none⟩), .int .i32 r] [Bld b l] (fun v H => (∃ x, v = x) ∧ H = [Bld b (l ++ [c])]) := by
  subst hr
  refine does_of Tryz.func125 Tryz.ntmps125 rfl rfl rfl (fun w0 F0 => ?_)
  refine g_open (A := Bld b l) (h := ?_); (rintro ⟨q, p, cc⟩ hq; dsimp only [BldK, List.cons_append, List.nil_append])
  have ha := appendRune_does c.toNat cc p l c rfl h hl
  have hl1 : (l ++ [c]).length = l.length + 1 := by simp
  rw [← hl1] at ha
  rcases hq with h | h
  · dsimp only at h; subst h
    (repeat' (first | refine g_seq (h := ?_) | refine g_region (h := ?_) | refine l_nil (h := ?_) | refine n_then (h := ?_) | refine l_pures1 (h := ?_) | (refine l_at 167 ?_; refine l_call (copyCheck_none b (.slice p l.length cc)) ?_) | (refine l_atc ?_; refine l_call_ (ha) ?_; rintro _ _ _ ⟨p', cap', rfl, rfl⟩ he; cases he) | refine l_load (h := ?_) | refine l_store (h := ?_) | refine g_ret (h := ?_)))
    (refine n_shut (A := Bld b (l ++ [c])) (K := BldK b (l ++ [c]) (((some ⟨b, 0, none⟩ : Option Addr), p', cap'))) (hid_shuts (((some ⟨b, 0, none⟩ : Option Addr), p', cap')) (Or.inr rfl)) (h := ?_) (p := by dsimp only [BldK]; (try simp only [List.map_nil, List.length_nil, List.length_set, List.length_append, List.length_cons, List.length_singleton, List.map_append, List.map_cons, Nat.zero_add, bsV_append, bsV_one]); exact parts_of))
    refine r_retk [Bld b (l ++ [c])] ?_
    exact ⟨⟨_, rfl⟩, rfl⟩
  · dsimp only at h; subst h
    (repeat' (first | refine g_seq (h := ?_) | refine g_region (h := ?_) | refine l_nil (h := ?_) | refine n_then (h := ?_) | refine l_pures1 (h := ?_) | (refine l_at 167 ?_; refine l_call (copyCheck_some b (.slice p l.length cc)) ?_) | (refine l_atc ?_; refine l_call_ (ha) ?_; rintro _ _ _ ⟨p', cap', rfl, rfl⟩ he; cases he) | refine l_load (h := ?_) | refine l_store (h := ?_) | refine g_ret (h := ?_)))
    (refine n_shut (A := Bld b (l ++ [c])) (K := BldK b (l ++ [c]) (((some ⟨b, 0, none⟩ : Option Addr), p', cap'))) (hid_shuts (((some ⟨b, 0, none⟩ : Option Addr), p', cap')) (Or.inr rfl)) (h := ?_) (p := by dsimp only [BldK]; (try simp only [List.map_nil, List.length_nil, List.length_set, List.length_append, List.length_cons, List.length_singleton, List.map_append, List.map_cons, Nat.zero_add, bsV_append, bsV_one]); exact parts_of))
    refine r_retk [Bld b (l ++ [c])] ?_
    exact ⟨⟨_, rfl⟩, rfl⟩
def lowL (l : List UInt8) : List UInt8 := l.map lowB
theorem fold_letters (l : List UInt8) (h1 : 1 ≤ l.length ∧ l.length ≤ 16) (hc : ∀ c ∈ l, lett c) : FoldTo l (lowL l) := by
  unfold FoldTo
  have hsz := str_size l
  have hri := right2_does l h1 hc
  have hll : (lowL l).length = l.length := by simp [lowL]
  refine does_of Tryz.func72 Tryz.ntmps72 rfl rfl rfl (fun w0 F0 => ?_)
  (repeat' (first | refine g_seq (h := ?_) | refine g_region (h := ?_) | refine l_nil (h := ?_) | refine n_then (h := ?_) | refine l_pures1 (h := ?_) | (refine l_atc ?_; refine l_call (hri) ?_) | (refine l_alloc (h := ?_); intro _) | refine g_skip (h := ?_) | refine g_block (h := ?_) | refine g_cond_f (h := ?_) | (refine l_range_str (h := ?_); intro _)))
  rename_i b1 b
  refine g_inv (fun i => vec_nil (5) (1) i) ?_
  (refine g_shut (A := Bld b1 []) (K := BldK b1 [] (((none : Option Addr), (none : Option Addr), 0))) (hid_shuts (((none : Option Addr), (none : Option Addr), 0)) (Or.inl rfl)) (h := ?_) (p := by dsimp only [BldK]; (try simp only [List.map_nil, List.length_nil, List.length_set, List.length_append, List.length_cons, List.length_singleton, List.map_append, List.map_cons, Nat.zero_add, bsV]); exact parts_of))
  (refine g_loop (fun i : Nat => [(11, .pointer (some ⟨b, 0, none⟩)), (4, .pointer (some ⟨b1, 0, none⟩))]) (fun i => [itr b (str l) i, Bld b1 (lowL (l.take i))]) (fun i => i ≤ l.length) (fun i => l.length - i) (0) ?_ ?_ ?_ ?_; rotate_left; (repeat (first | refine ts_nil | (refine ts_cons rfl ?_ ?_; first | (with_reducible rfl) | rotate_left))); (first | (intro _ i; with_reducible refine i) | rotate_left); rotate_left; (try omega); rotate_right)
  · intro i hi
    by_cases hil : i < l.length
    · have hp : i < (str l).size := by omega
      have hlt := hc _ (List.getElem_mem hil)
      obtain ⟨x, hx⟩ : ∃ x, x = l[i] := ⟨_, rfl⟩
      have hdec : Utf8.decode (str l) i = (x.toNat, 1) := by rw [hx]; exact str_dec hil (by have := hlt; unfold lett at this; omega)
      have hlt : lett x := by rw [hx]; exact hlt
      unfold lett at hlt
      have hnx : lowL (l.take (i + 1)) = lowL (l.take i) ++ [lowB x] := by
        rw [List.take_succ_eq_append_getElem hil, hx]; unfold lowL; rw [List.map_append]; rfl
      have hlk : (lowL (l.take i)).length < 1000000 := by simp [lowL]; omega
      by_cases q : 65 ≤ x.toNat ∧ x.toNat ≤ 90
      · have hwr := bWriteRune_does b1 (lowL (l.take i)) (lowB x) (IntKind.i32.wrap ((x.toNat : Int) + 32)) (by rw [lowB_nat q]; simp [IntKind.wrap, IntKind.bits, IntKind.signed]; omega) (by rw [lowB_nat q]; omega) hlk
        rw [← hnx] at hwr
        (repeat' (first | refine g_seq (h := ?_) | refine g_region (h := ?_) | refine l_nil (h := ?_) | refine n_then (h := ?_) | refine l_pures1 (h := ?_) | (refine l_atc ?_; refine l_call_ (hwr) ?_; rintro _ _ _ ⟨⟨_, rfl⟩, rfl⟩ he; cases he) | refine l_guard_yes (h := ?_) | refine g_skip (h := ?_) | refine g_block (h := ?_) | refine n_block (h := ?_) | refine g_cond_t (h := ?_) | refine l_next_str (h := ?_) | (refine l_spT (h := ?_); intro h) | (refine g_spT (h := ?_); intro h)))
        (refine n_back (i + 1) ?_ ?_ ?_ ?_; rotate_left; rotate_left; (repeat (first | refine ts_nil | (refine ts_cons rfl ?_ ?_; first | (with_reducible rfl) | rotate_left))); (first | (intro _ i; with_reducible refine i) | rotate_left); (try omega); (try omega))
        all_goals first
          | exact hil
          | omega
          | (intro _ i; exact inv_keep parts_of i)
          | rfl
      · have hwr := bWriteRune_does b1 (lowL (l.take i)) (lowB x) (x.toNat : Int) (by rw [lowB_low q]) (by rw [lowB_low q]; omega) hlk
        rw [← hnx] at hwr
        (repeat' (first | refine g_seq (h := ?_) | refine g_region (h := ?_) | refine l_nil (h := ?_) | refine n_then (h := ?_) | refine l_pures1 (h := ?_) | (refine l_atc ?_; refine l_call_ (hwr) ?_; rintro _ _ _ ⟨⟨_, rfl⟩, rfl⟩ he; cases he) | refine l_guard_yes (h := ?_) | refine g_skip (h := ?_) | refine g_block (h := ?_) | refine n_block (h := ?_) | refine g_cond_t (h := ?_) | refine l_next_str (h := ?_) | (refine l_spT (h := ?_); intro h) | (refine g_spF (h := ?_); intro h)))
        (refine n_back (i + 1) ?_ ?_ ?_ ?_; rotate_left; rotate_left; (repeat (first | refine ts_nil | (refine ts_cons rfl ?_ ?_; first | (with_reducible rfl) | rotate_left))); (first | (intro _ i; with_reducible refine i) | rotate_left); (try omega); (try omega))
        all_goals first
          | exact hil
          | omega
          | (intro _ i; exact inv_keep parts_of i)
          | rfl
    · obtain rfl : i = l.length := by omega
      have hp : ¬ l.length < (str l).size := by omega
      have hstr := bString_does b1 (lowL l) (by omega)
      rw [List.take_length]
      (repeat' (first | refine g_seq (h := ?_) | refine g_region (h := ?_) | refine l_nil (h := ?_) | refine n_then (h := ?_) | refine l_pures1 (h := ?_) | (refine l_atc ?_; refine l_call (hstr) ?_) | refine g_ret (h := ?_) | refine g_exit (h := ?_) | refine n_then_exit (h := ?_) | refine n_block_hit (h := ?_) | refine g_cond_f (h := ?_) | refine l_next_end (h := ?_)))
      refine r_retk [] ?_
      exact ⟨rfl, rfl⟩
  all_goals first
    | exact Nat.zero_le _
    | rfl
    | (intro _ i; rw [show lowL (l.take 0) = [] from rfl]; exact inv_keep parts_of i)
end Go.Proofs.YtmfmommgooccnaaGreat
/- Package capt: for a transaction as a whole. -/
set_option maxRecDepth 20000
set_option linter.unusedVariables false
set_option linter.unusedSimpArgs false
namespace Go.Proofs.YtmfmommgooccnaaGreat
open Go.Proofs.YtmfmommgooccnaaGreat.SL

theorem ct_of {g : FuncId} {args : List Value} {P : TxP} {s s' : CS} {V : Value} (h : ∀ T, CtI P s T → Does Tryz.prog g args [Tx P T] (fun v H => ∃ T', v = V ∧ H = [Tx P T'] ∧ CtI P s' T')) : Does Tryz.prog g args [Ct P s] (fun v H => v = V ∧ H = [Ct P s']) := by
  refine does_opens (H := []) (p := CtI P s) (K := CtK P s) hid_opens fun T k => does_post (h T k) ?_
  rintro v H1 ⟨T', rfl, rfl, k'⟩ w0 F0 w i
  exact ⟨[Ct P s'], ⟨rfl, rfl⟩, Inv.shuts (K := CtK P s' T') (hid_shuts (p := CtI P s') (K := CtK P s') T' k') i⟩
theorem ct_same {g : FuncId} {args : List Value} {P : TxP} {s : CS} {V : Value} (h : ∀ T, CtI P s T → Does Tryz.prog g args [Tx P T] (fun v H => v = V ∧ H = [Tx P T])) : Does Tryz.prog g args [Ct P s] (fun v H => v = V ∧ H = [Ct P s]) :=
  ct_of fun T k => (h T k).mono fun v H ⟨h1, h2⟩ => ⟨T, h1, h2, k⟩

def cpOkB (n : Nat) (c : Cp) : Bool := decide (1 ≤ n ∧ n ≤ 16777215) && decide (c.parent ≤ 16777215) && decide (c.parent ≠ n) && decide (1 ≤ c.object ∧ c.object ≤ 16777215) && decide (1 ≤ c.owner ∧ c.owner ≤ 16777215) && decide (c.rights < 65536) && decide (c.badge < 4294967296) && decide (1 ≤ c.depth ∧ c.depth ≤ 8) && decide (c.expiry ≤ 268435455) && decide (c.cut ≤ 16777215) && decide (c.depth = 1 ↔ c.parent = 0)
theorem cpOk_of {n : Nat} {c : Cp} (h : cpOkB n c = true) : c.ok n := by
  simp only [cpOkB, Bool.and_eq_true, decide_eq_true_eq] at h
  obtain ⟨⟨⟨⟨⟨⟨⟨⟨⟨⟨h1, h2⟩, h3⟩, h4⟩, h5⟩, h6⟩, h7⟩, h8⟩, h9⟩, h10⟩, h11⟩ := h
  exact ⟨h1, h2, h3, h4, h5, h6, h7, h8, h9, h10, h11⟩

theorem cReg_does (P : TxP) (s : CS) (room : roomC P s) (nm f : List UInt8) (limit : Nat) (hfo : FoldTo nm f) (hff : FoldTo f f) (hfl : f.length ≤ 32) (hl : limit ≤ 1000) (hn : s.ow.length < 1000) (hno : ∀ n, isNm s f n = false) :
    Does Tryz.prog 34 [.pointer (some ⟨P.t, 0, none⟩), .string (str nm), .int .i64 limit] [Ct P s] (fun v H => v = .tuple #[.int .i64 (s.ow.length + 1 : Nat), .int .i64 0] ∧ H = [Ct P (s.addO ⟨f, limit, 0⟩)]) :=
  ct_of fun T k => (register_does P s T k room nm f limit hfo hff hfl hl hn hno).mono fun v H ⟨T', h1, h2, h3⟩ => ⟨T', h1, h2, h3, addO_ok k.ok ⟨by omega, hff, hfl, hl, by simp⟩ hn⟩
theorem hav_ok {o : Ow} {n : Nat} (h : o.ok n) (hq : o.hav < o.limit) : Ow.ok n ⟨o.name, o.limit, o.hav + 1⟩ := ⟨h.id, h.name, h.len, h.limit, by show o.hav + 1 ≤ o.limit; omega⟩
theorem mintOk {s : CS} {owner object mask badge expiry : Nat} {o : Ow} (ok : s.ok) (ho : s.owAt owner = some o) (hob : 1 ≤ object ∧ object ≤ 16777215) (hm : mask < 65536) (hb : badge < 4294967296) (he : expiry ≤ 268435455) (hn : s.cp.length < 1000) : Cp.ok (s.cp.length + 1) ⟨0, object, owner, mask, badge, 1, expiry, 0, false, true⟩ := by
  have h1 := owAt_lt ho
  have h2 := ok.size
  exact ⟨by omega, by simp, by simp, hob, by show 1 ≤ owner ∧ owner ≤ 16777215; omega, hm, hb, by simp, he, by simp, by simp⟩
theorem cMint_does (P : TxP) (s : CS) (room : roomC P s) (owner object mask badge expiry : Nat) (o : Ow) (ho : s.owAt owner = some o) (hob : 1 ≤ object ∧ object ≤ 16777215) (hm : mask < 65536) (hb : badge < 4294967296) (he : expiry ≤ 268435455) (hq : o.hav < o.limit) (hn : s.cp.length < 1000) :
    Does Tryz.prog 36 [.pointer (some ⟨P.t, 0, none⟩), .int .i64 owner, .int .i64 object, .int .i64 mask, .int .i64 badge, .int .i64 expiry] [Ct P s]
      (fun v H => v = .tuple #[.int .i64 (s.cp.length + 1 : Nat), .int .i64 0] ∧ H = [Ct P (s.add ⟨0, object, owner, mask, badge, 1, expiry, 0, false, true⟩ ⟨o.name, o.limit, o.hav + 1⟩)]) :=
  ct_of fun T k => by
    have hc := mintOk k.ok ho hob hm hb he hn
    exact (mint_does P s T k room owner object mask badge expiry o ho hob hm hb he hq hc).mono fun v H ⟨T', h1, h2, h3⟩ => ⟨T', h1, h2, h3, add_ok k.ok ho hc (hav_ok (k.ok.ow _ _ ho) hq) (fun h => absurd rfl h) hn⟩
theorem derOk {s : CS} {parent owner mask badge expiry : Nat} {p : Cp} {o : Ow} (ok : s.ok) (hp : s.capAt parent = some p) (ho : s.owAt owner = some o) (hm : mask < 65536) (hb : badge < 4294967296) (he : expiry ≤ 268435455) (hd : p.depth < 8) (hn : s.cp.length < 1000) : Cp.ok (s.cp.length + 1) ⟨parent, p.object, owner, mask, badge, p.depth + 1, expiry, 0, false, true⟩ := by
  have h1 := owAt_lt ho
  have h2 := ok.size
  have h3 := capAt_lt hp
  have h4 := ok.cp _ _ hp
  have h5 := h4.depth
  exact ⟨by omega, by show parent ≤ 16777215; omega, by show parent ≠ s.cp.length + 1; omega, h4.object, by show 1 ≤ owner ∧ owner ≤ 16777215; omega, hm, hb, by show 1 ≤ p.depth + 1 ∧ p.depth + 1 ≤ 8; omega, he, by simp, by show p.depth + 1 = 1 ↔ parent = 0; omega⟩
theorem cDer_does (P : TxP) (s : CS) (room : roomC P s) (parent owner mask badge expiry : Nat) (now : Int) (p : Cp) (o : Ow) (hp : s.capAt parent = some p) (hst : s.state parent now = 0) (ho : s.owAt owner = some o) (hm : mask < 65536) (hb : badge < 4294967296) (he : expiry ≤ 268435455) (hs : subB mask p.rights = true) (hd : p.depth < 8) (hq : o.hav < o.limit) (hn : s.cp.length < 1000) :
    Does Tryz.prog 38 [.pointer (some ⟨P.t, 0, none⟩), .int .i64 parent, .int .i64 owner, .int .i64 mask, .int .i64 badge, .int .i64 expiry, .int .i64 now] [Ct P s]
      (fun v H => v = .tuple #[.int .i64 (s.cp.length + 1 : Nat), .int .i64 0] ∧ H = [Ct P (s.add ⟨parent, p.object, owner, mask, badge, p.depth + 1, expiry, 0, false, true⟩ ⟨o.name, o.limit, o.hav + 1⟩)]) :=
  ct_of fun T k => by
    have hc := derOk k.ok hp ho hm hb he hd hn
    exact (derive_does P s T k room parent owner mask badge expiry now p o hp hst ho hm hb he hs hd hq hc).mono fun v H ⟨T', h1, h2, h3⟩ => ⟨T', h1, h2, h3, add_ok k.ok ho hc (hav_ok (k.ok.ow _ _ ho) hq) (fun _ => ⟨p, hp, rfl⟩) hn⟩
theorem cDerDeep_does (P : TxP) (s : CS) (parent owner mask badge expiry : Nat) (now : Int) (p : Cp) (o : Ow) (hp : s.capAt parent = some p) (hst : s.state parent now = 0) (ho : s.owAt owner = some o) (hm : mask < 65536) (hb : badge < 4294967296) (he : expiry ≤ 268435455) (hs : subB mask p.rights = true) (hd : ¬ p.depth < 8) :
    Does Tryz.prog 38 [.pointer (some ⟨P.t, 0, none⟩), .int .i64 parent, .int .i64 owner, .int .i64 mask, .int .i64 badge, .int .i64 expiry, .int .i64 now] [Ct P s] (fun v H => v = .tuple #[.int .i64 0, .int .i64 9] ∧ H = [Ct P s]) :=
  ct_same fun T k => deriveDeep_does P s T k parent owner mask badge expiry now p o hp hst ho hm hb he hs hd
theorem cDerNot_does (P : TxP) (s : CS) (parent owner mask badge expiry : Nat) (now : Int) (p : Cp) (o : Ow) (hp : s.capAt parent = some p) (hst : s.state parent now = 0) (ho : s.owAt owner = some o) (hm : mask < 65536) (hb : badge < 4294967296) (he : expiry ≤ 268435455) (hs : subB mask p.rights = false) :
    Does Tryz.prog 38 [.pointer (some ⟨P.t, 0, none⟩), .int .i64 parent, .int .i64 owner, .int .i64 mask, .int .i64 badge, .int .i64 expiry, .int .i64 now] [Ct P s] (fun v H => v = .tuple #[.int .i64 0, .int .i64 7] ∧ H = [Ct P s]) :=
  ct_same fun T k => deriveNot_does P s T k parent owner mask badge expiry now p o hp hst ho hm hb he hs
theorem cGet_does (P : TxP) (s : CS) (n : Nat) (c : Cp) (hc : s.capAt n = some c) : Does Tryz.prog 39 [.pointer (some ⟨P.t, 0, none⟩), .int .i64 n] [Ct P s] (fun v H => v = .tuple #[.agg (cpA n c), .int .i64 0] ∧ H = [Ct P s]) :=
  ct_same fun T k => getCapAt_does P s T n c k hc
theorem cEnds_does (P : TxP) (s : CS) (n : Nat) (c : Cp) (hc : s.capAt n = some c) : Does Tryz.prog 40 [.pointer (some ⟨P.t, 0, none⟩), .int .i64 n] [Ct P s] (fun v H => v = .tuple #[.int .i64 (endsL (s.up 9 n) : Nat), .int .i64 0] ∧ H = [Ct P s]) :=
  ct_same fun T k => ends_does P s T n c k hc
theorem cState_does (P : TxP) (s : CS) (n : Nat) (now : Int) (c : Cp) (hc : s.capAt n = some c) : Does Tryz.prog 49 [.pointer (some ⟨P.t, 0, none⟩), .int .i64 n, .int .i64 now] [Ct P s] (fun v H => v = .int .i64 (s.state n now) ∧ H = [Ct P s]) :=
  ct_same fun T k => state_does P s T n now c k hc

/-! Chains, as caps come -/
theorem up_fuel {s : CS} (ok : s.ok) : ∀ (f g n : Nat) (c : Cp), s.capAt n = some c → c.depth ≤ f → c.depth ≤ g → s.up f n = s.up g n
  | 0, _, n, c, h, hf, _ => by have := (ok.cp n c h).depth; omega
  | _ + 1, 0, n, c, h, _, hg => by have := (ok.cp n c h).depth; omega
  | f + 1, g + 1, n, c, h, hf, hg => by
    rw [up_some h, up_some h]
    by_cases q : c.parent = 0
    · rw [if_pos q, if_pos q]
    · rw [if_neg q, if_neg q]
      obtain ⟨p, hp, hd⟩ := ok.par n c h q
      rw [up_fuel ok f g c.parent p hp (by omega) (by omega)]
theorem up_step {s : CS} (ok : s.ok) {n : Nat} {c : Cp} (h : s.capAt n = some c) : s.up 9 n = (n, c) :: if c.parent = 0 then [] else s.up 9 c.parent := by
  rw [up_some h]
  by_cases q : c.parent = 0
  · rw [if_pos q, if_pos q]
  · rw [if_neg q, if_neg q]
    obtain ⟨p, hp, hd⟩ := ok.par n c h q
    have := (ok.cp n c h).depth
    rw [up_fuel ok 8 9 c.parent p hp (by omega) (by omega)]
theorem up_add {s : CS} (ok : s.ok) (c' : Cp) (o' : Ow) : ∀ (f n : Nat) (c : Cp), s.capAt n = some c → (s.add c' o').up f n = s.up f n
  | 0, n, c, h => rfl
  | f + 1, n, c, h => by
    have hl := capAt_lt h
    have h2 : (s.add c' o').capAt n = some c := by rw [add_cap, if_neg (by omega)]; exact h
    rw [up_some h, up_some h2]
    by_cases q : c.parent = 0
    · rw [if_pos q, if_pos q]
    · rw [if_neg q, if_neg q]
      obtain ⟨p, hp, hd⟩ := ok.par n c h q
      rw [up_add ok c' o' f c.parent p hp]
def lmin (a b : Nat) : Nat := if a = 0 then b else if b = 0 then a else min a b
theorem endF_lmin (a : Nat) (c : Cp) : endF a c = lmin c.expiry a := by
  unfold endF lmin
  split
  · rename_i q
    split
    · omega
    · split <;> omega
  · rename_i q
    split
    · rfl
    · split <;> omega
theorem lmin_assoc (a b c : Nat) : lmin a (lmin b c) = lmin (lmin a b) c := by
  unfold lmin
  repeat' split
  all_goals omega
theorem lmin_comm (a b : Nat) : lmin a b = lmin b a := by
  unfold lmin
  repeat' split
  all_goals omega
theorem ends_from : ∀ (l : List (Nat × Cp)) (a : Nat), l.foldl (fun a e => endF a e.2) a = lmin a (endsL l)
  | [], a => by simp [endsL, lmin]
  | e :: l, a => by
    unfold endsL
    rw [List.foldl_cons, List.foldl_cons, ends_from l, ends_from l, endF_lmin, endF_lmin, lmin_assoc, lmin_comm e.2.expiry a, lmin_assoc]
    congr 1
    unfold lmin
    repeat' split
    all_goals omega
theorem endsL_cons (e : Nat × Cp) (l : List (Nat × Cp)) : endsL (e :: l) = lmin e.2.expiry (endsL l) := by
  conv => lhs; unfold endsL
  rw [List.foldl_cons, ends_from, endF_lmin]
  congr 1
  unfold lmin
  repeat' split
  all_goals omega
/-- Nothing was revoked. -/
def CS.clean (s : CS) : Prop := ∀ n c, s.capAt n = some c → c.rev = false ∧ c.cut = 0
theorem bad_clean {s : CS} (ok : s.ok) (cl : s.clean) : ∀ (f n : Nat) (q : Option Nat), (∀ m, q = some m → 0 < m) → badF q (s.up f n) = false
  | 0, n, q, _ => rfl
  | f + 1, n, q, hq => by
    cases h : s.capAt n with
    | none => rw [up_none h]; rfl
    | some c =>
      rw [up_some h]
      obtain ⟨h1, h2⟩ := cl n c h
      have hn := capAt_lt h
      have h3 : q.any (fun m => decide (m ≤ c.cut)) = false := by
        cases q with
        | none => rfl
        | some m => have := hq m rfl; simp [h2]; omega
      show (c.rev || q.any (fun m => decide (m ≤ c.cut)) || badF (some n) _) = false
      rw [h1, h3, Bool.false_or, Bool.false_or]
      split
      · rfl
      · exact bad_clean ok cl f c.parent (some n) (fun m e => by cases e; omega)
theorem late0 (c : Cp) : late 0 c = false := by unfold late; simp; omega
theorem state0 {s : CS} (ok : s.ok) (cl : s.clean) {n : Nat} {c : Cp} (h : s.capAt n = some c) : s.state n 0 = 0 := by
  unfold CS.state
  rw [if_neg (by rw [h]; simp), bad_clean ok cl 9 n none (fun _ e => by cases e), if_neg (by simp), if_neg]
  simp [late0]
theorem add_clean {s : CS} (cl : s.clean) {c : Cp} {o' : Ow} (h1 : c.rev = false) (h2 : c.cut = 0) : (s.add c o').clean := fun n x h => by
  rw [add_cap] at h
  split at h
  · cases h; exact ⟨h1, h2⟩
  · exact cl n x h
end Go.Proofs.YtmfmommgooccnaaGreat
/- What the laws of chapter 15 begin with. -/
set_option maxRecDepth 20000
set_option linter.unusedVariables false
set_option linter.unusedSimpArgs false
namespace Go.Proofs.YtmfmommgooccnaaGreat
open Go.Proofs.YtmfmommgooccnaaGreat.SL

/-- No caps, and no principals. -/
def CS.z : CS := ⟨[], []⟩
theorem z_ok : CS.z.ok where
  ow := fun n o h => by unfold CS.owAt CS.z at h; split at h <;> simp at h
  cp := fun n c h => by unfold CS.capAt CS.z at h; split at h <;> simp at h
  par := fun n c h _ => by unfold CS.capAt CS.z at h; split at h <;> simp at h
  size := by simp [CS.z]
theorem ct_new (P : TxP) : CtI P CS.z [] := ⟨Rp.nil, z_ok⟩
theorem z_isNm (f : List UInt8) (n : Nat) : isNm CS.z f n = false := by
  unfold isNm CS.owAt CS.z
  split <;> simp
theorem made15_does : Does Tryz.prog 32 [] [] (fun v H => ∃ t db sb, v = .pointer (some ⟨t, 0, none⟩) ∧ H = [Ct (TxP.new t sb db 640) CS.z]) := by
  obtain ⟨E1, f1, k0⟩ := tr_new (N := 640) (by omega)
  refine does_of Tryz.func32 Tryz.ntmps32 rfl rfl rfl (fun w0 F0 => ?_)
  (repeat' (first | refine g_seq (h := ?_) | refine g_region (h := ?_) | refine l_nil (h := ?_) | refine n_then (h := ?_) | refine l_pures1 (h := ?_) | (refine l_at 53 ?_; refine l_call_ (new_is (i := 640) (n := 640) rfl (by omega)) ?_; rintro _ _ _ ⟨db, rfl, rfl⟩ he; cases he) | (refine l_at 54 ?_; refine l_call_ (format_is f1) ?_; rintro _ _ _ ⟨sb, rfl, rfl⟩ he; cases he) | refine l_guard_yes (h := ?_) | refine g_skip (h := ?_) | refine g_cond_f (h := ?_)))
  (refine l_shut (A := Sto (TxP.new 0 sb db 640)) (K := StoK (TxP.new 0 sb db 640) ((headNew.over, E1))) (hid_shuts ((headNew.over, E1)) (sto_new k0)) (h := ?_) (p := by dsimp only [StoK]; (try simp only [List.map_nil, List.length_nil, List.length_set, List.length_append, List.length_cons, List.length_singleton, List.map_append, List.map_cons, Nat.zero_add, TxP.new]); exact parts_of))
  have hb : Does Tryz.prog 25 [.pointer (some ⟨sb, 0, none⟩)] [Sto (TxP.new 0 sb db 640)] (fun v H => ∃ t, v = .pointer (some ⟨t, 0, none⟩) ∧ H = [Tx (TxP.new t sb db 640) []]) := begin_does (TxP.new 0 sb db 640)
  (repeat' (first | refine l_nil (h := ?_) | refine n_then (h := ?_) | refine l_pures1 (h := ?_) | (refine l_atc ?_; refine l_call_ (hb) ?_; rintro _ _ _ ⟨t, rfl, rfl⟩ he; cases he) | refine g_ret (h := ?_)))
  (refine n_shut (A := Ct (TxP.new t sb db 640) CS.z) (K := CtK (TxP.new t sb db 640) CS.z (([] : List Ent))) (hid_shuts (([] : List Ent)) (ct_new _)) (h := ?_) (p := by dsimp only [CtK]; (try simp only [List.map_nil, List.length_nil, List.length_set, List.length_append, List.length_cons, List.length_singleton, List.map_append, List.map_cons, Nat.zero_add]); exact parts_of))
  refine r_retk [Ct (TxP.new t sb db 640) CS.z] ?_
  exact ⟨t, db, sb, rfl, rfl⟩
theorem roomNew {t sb db : Nat} {s : CS} (h : s.ow.length + 3 * s.cp.length < 280) : roomC (TxP.new t sb db 640) s := by
  show 0 + 2 * (s.ow.length + 3 * s.cp.length) + 60 < 640
  omega
/-- Which of n things a number speaks of. -/
def pkN (c : Int) (n : Nat) : Nat := (if c < 0 then -(c + 1) else c).toNat % n
theorem pkN_lt (c : Int) {n : Nat} (h : 0 < n) : pkN c n < n := Nat.mod_lt _ h
theorem pick15_does (c : Int) (n : Nat) (hc : -9223372036854775808 ≤ c ∧ c < 9223372036854775808) (hn : 0 < n ∧ n < 1000000) : Does Tryz.prog 37 [.int .i64 c, .int .i64 n] [] (fun v H => v = .int .i64 (pkN c n : Nat) ∧ H = []) := by
  have key : ∀ x : Int, 0 ≤ x → x.tmod (n : Int) = ((x.toNat % n : Nat) : Int) := fun x hx => by
    obtain ⟨m, rfl⟩ := Int.eq_ofNat_of_zero_le hx
    rw [Int.tmod_eq_emod_of_nonneg hx, Int.toNat_natCast]; rfl
  have hlt := pkN_lt c hn.1
  by_cases q : c < 0
  · have e1 : IntKind.i64.wrap (c + 1) = c + 1 := wrapI64 (by omega)
    have e2 : IntKind.i64.wrap (-(IntKind.i64.wrap (c + 1))) = -(c + 1) := by rw [e1, wrapI64 (by omega)]
    have e3 : IntKind.i64.wrap (0 - (IntKind.i64.wrap (c + 1))) = -(c + 1) := by rw [e1, wrapI64 (by omega)]; omega
    have e4 : (pkN c n : Int) = (-(c + 1)).tmod n := by rw [key _ (by omega)]; unfold pkN; rw [if_pos q]
    refine does_of Tryz.func37 Tryz.ntmps37 rfl rfl rfl (fun w0 F0 => ?_)
    (repeat' (first | refine g_seq (h := ?_) | refine g_region (h := ?_) | refine l_nil (h := ?_) | refine n_then (h := ?_) | refine l_pures1 (h := ?_) | refine l_rem (h := ?_) | refine g_ret (h := ?_) | (refine g_spT (h := ?_); intro h)))
    refine r_retk [] ?_
    refine ⟨?_, rfl⟩
    show Value.int _ _ = _
    first | rw [e2, e4] | rw [e3, e4]
    try rw [wrapI64 (by omega)]
  · have e4 : (pkN c n : Int) = c.tmod n := by rw [key _ (by omega)]; unfold pkN; rw [if_neg q]
    refine does_of Tryz.func37 Tryz.ntmps37 rfl rfl rfl (fun w0 F0 => ?_)
    (repeat' (first | refine g_seq (h := ?_) | refine g_region (h := ?_) | refine l_nil (h := ?_) | refine n_then (h := ?_) | refine l_pures1 (h := ?_) | refine l_rem (h := ?_) | refine g_skip (h := ?_) | refine g_ret (h := ?_) | (refine g_spF (h := ?_); intro h)))
    refine r_retk [] ?_
    refine ⟨?_, rfl⟩
    show Value.int _ _ = _
    rw [e4]
    try rw [wrapI64 (by omega)]

/-! The examples -/
abbrev nmRoot : List UInt8 := [82, 111, 111, 116]
abbrev nmroot : List UInt8 := [114, 111, 111, 116]
theorem lett_all {l : List UInt8} (h : l.all (fun c => decide ((97 ≤ c.toNat ∧ c.toNat ≤ 122) ∨ (65 ≤ c.toNat ∧ c.toNat ≤ 90))) = true) : ∀ c ∈ l, lett c := fun c hc => by
  have := List.all_eq_true.1 h c hc
  simpa [lett] using this
theorem foldRoot : FoldTo nmRoot nmroot := by
  have := fold_letters nmRoot (by decide) (lett_all (by decide))
  rw [show lowL nmRoot = nmroot by decide] at this
  exact this
theorem foldroot : FoldTo nmroot nmroot := by
  have := fold_letters nmroot (by decide) (lett_all (by decide))
  rw [show lowL nmroot = nmroot by decide] at this
  exact this
theorem fold1 (c : UInt8) (h : 97 ≤ c.toNat ∧ c.toNat ≤ 122) : FoldTo [c] [c] := by
  have := fold_letters [c] (by simp) (fun x hx => by rw [List.mem_singleton.1 hx]; exact .inl h)
  rw [show lowL [c] = [c] by unfold lowL lowB; simp; omega] at this
  exact this
def exS1 : CS := ⟨[⟨nmroot, 9, 0⟩], []⟩
def exS2 : CS := ⟨[⟨nmroot, 9, 1⟩], [some ⟨0, 5, 1, 7, 0, 1, 0, 0, false, true⟩]⟩
def exS3 : CS := ⟨[⟨nmroot, 9, 2⟩], [some ⟨0, 5, 1, 7, 0, 1, 0, 0, false, true⟩, some ⟨1, 5, 1, 3, 1, 2, 10, 0, false, true⟩]⟩
set_option maxHeartbeats 4000000 in
theorem examples15_does : Does Tryz.prog 31 [] [] (fun v H => v = .bool true ∧ H = []) := by
  refine does_of Tryz.func31 Tryz.ntmps31 rfl rfl rfl (fun w0 F0 => ?_)
  (repeat (first | refine g_seq (h := ?_) | refine g_region (h := ?_) | refine l_nil (h := ?_) | refine n_then (h := ?_) | refine l_pures1 (h := ?_) | (refine l_atc ?_; refine l_call_ (made15_does) ?_; rintro _ _ _ ⟨t, db, sb, rfl, rfl⟩ he; cases he) | refine g_skip (h := ?_) | refine g_cond_f (h := ?_)))
  have h1 : Does Tryz.prog 34 [.pointer (some ⟨t, 0, none⟩), .string { data := #[82, 111, 111, 116] }, .int .i64 9] [Ct (TxP.new t sb db 640) CS.z] (fun v H => v = .tuple #[.int .i64 1, .int .i64 0] ∧ H = [Ct (TxP.new t sb db 640) exS1]) :=
    cReg_does (TxP.new t sb db 640) CS.z (roomNew (by simp [CS.z])) nmRoot nmroot 9 foldRoot foldroot (by decide) (by decide) (by simp [CS.z]) (z_isNm _)
  have h2 : Does Tryz.prog 36 [.pointer (some ⟨t, 0, none⟩), .int .i64 1, .int .i64 5, .int .i64 7, .int .i64 0, .int .i64 0] [Ct (TxP.new t sb db 640) exS1] (fun v H => v = .tuple #[.int .i64 1, .int .i64 0] ∧ H = [Ct (TxP.new t sb db 640) exS2]) :=
    cMint_does (TxP.new t sb db 640) exS1 (roomNew (by simp [exS1])) 1 5 7 0 0 ⟨nmroot, 9, 0⟩ rfl (by decide) (by decide) (by decide) (by decide) (by decide) (by simp [exS1])
  have h3 : Does Tryz.prog 38 [.pointer (some ⟨t, 0, none⟩), .int .i64 1, .int .i64 1, .int .i64 3, .int .i64 1, .int .i64 10, .int .i64 0] [Ct (TxP.new t sb db 640) exS2] (fun v H => v = .tuple #[.int .i64 2, .int .i64 0] ∧ H = [Ct (TxP.new t sb db 640) exS3]) :=
    cDer_does (TxP.new t sb db 640) exS2 (roomNew (by simp [exS2])) 1 1 3 1 10 0 ⟨0, 5, 1, 7, 0, 1, 0, 0, false, true⟩ ⟨nmroot, 9, 1⟩ rfl rfl rfl (by decide) (by decide) (by decide) (by decide) (by decide) (by decide) (by simp [exS2])
  have h4 : Does Tryz.prog 38 [.pointer (some ⟨t, 0, none⟩), .int .i64 1, .int .i64 1, .int .i64 8, .int .i64 1, .int .i64 10, .int .i64 0] [Ct (TxP.new t sb db 640) exS3] (fun v H => v = .tuple #[.int .i64 0, .int .i64 7] ∧ H = [Ct (TxP.new t sb db 640) exS3]) :=
    cDerNot_does (TxP.new t sb db 640) exS3 1 1 8 1 10 0 ⟨0, 5, 1, 7, 0, 1, 0, 0, false, true⟩ ⟨nmroot, 9, 2⟩ rfl rfl rfl (by decide) (by decide) (by decide) (by decide)
  have h5 : Does Tryz.prog 49 [.pointer (some ⟨t, 0, none⟩), .int .i64 2, .int .i64 10] [Ct (TxP.new t sb db 640) exS3] (fun v H => v = .int .i64 11 ∧ H = [Ct (TxP.new t sb db 640) exS3]) :=
    cState_does (TxP.new t sb db 640) exS3 2 10 ⟨1, 5, 1, 3, 1, 2, 10, 0, false, true⟩ rfl
  (repeat (first | refine g_seq (h := ?_) | refine g_region (h := ?_) | refine l_nil (h := ?_) | refine n_then (h := ?_) | refine l_pures1 (h := ?_) | (refine l_atc ?_; refine l_call (h1) ?_)))
  (repeat (first | refine g_seq (h := ?_) | refine g_region (h := ?_) | refine l_nil (h := ?_) | refine n_then (h := ?_) | refine l_pures1 (h := ?_) | (refine l_atc ?_; refine l_call (h2) ?_)))
  (repeat (first | refine g_seq (h := ?_) | refine g_region (h := ?_) | refine l_nil (h := ?_) | refine n_then (h := ?_) | refine l_pures1 (h := ?_) | (refine l_atc ?_; refine l_call (h3) ?_)))
  (repeat (first | refine g_seq (h := ?_) | refine g_region (h := ?_) | refine l_nil (h := ?_) | refine n_then (h := ?_) | refine l_pures1 (h := ?_) | (refine l_atc ?_; refine l_call (h4) ?_) | refine l_guard_yes (h := ?_)))
  (repeat' (first | refine l_nil (h := ?_) | refine n_then (h := ?_) | refine l_pures1 (h := ?_) | (refine l_atc ?_; refine l_call (h5) ?_) | refine l_guard_yes (h := ?_) | refine g_ret (h := ?_)))
  refine r_retk [] ?_
  exact ⟨rfl, rfl⟩

/-! The same, of a transaction that was just begun -/
section
variable (t sb db : Nat) (s : CS)
theorem nGet_does (n : Nat) (c : Cp) (hc : s.capAt n = some c) : Does Tryz.prog 39 [.pointer (some ⟨t, 0, none⟩), .int .i64 n] [Ct (TxP.new t sb db 640) s] (fun v H => v = .tuple #[.agg (cpA n c), .int .i64 0] ∧ H = [Ct (TxP.new t sb db 640) s]) := cGet_does (TxP.new t sb db 640) s n c hc
theorem nEnds_does (n : Nat) (c : Cp) (hc : s.capAt n = some c) : Does Tryz.prog 40 [.pointer (some ⟨t, 0, none⟩), .int .i64 n] [Ct (TxP.new t sb db 640) s] (fun v H => v = .tuple #[.int .i64 (endsL (s.up 9 n) : Nat), .int .i64 0] ∧ H = [Ct (TxP.new t sb db 640) s]) := cEnds_does (TxP.new t sb db 640) s n c hc
end
end Go.Proofs.YtmfmommgooccnaaGreat
/- CaptDeep. -/
set_option maxRecDepth 20000
set_option linter.unusedVariables false
set_option linter.unusedSimpArgs false
namespace Go.Proofs.YtmfmommgooccnaaGreat
open Go.Proofs.YtmfmommgooccnaaGreat.SL

structure DeepI (i : Nat) (s : CS) : Prop where
  ok : s.ok
  cl : s.clean
  ow : s.ow = [⟨[120], 50, s.cp.length⟩]
  len : s.cp.length = min i 7 + 1
  top : ∃ c, s.capAt s.cp.length = some c ∧ c.depth = s.cp.length ∧ c.rights = 15 ∧ c.object = 77
theorem deep_add {i : Nat} {s : CS} (h : DeepI i s) (hi : i < 7) {k : Nat} (hk : k < 61) {s' : CS} (hs : s' = s.add ⟨s.cp.length, 77, 1, 15, 0, s.cp.length + 1, k, 0, false, true⟩ ⟨[120], 50, s.cp.length + 1⟩) :
    DeepI (i + 1) s' ∧ s'.cp.length = s.cp.length + 1 ∧ s'.capAt (s.cp.length + 1) = some ⟨s.cp.length, 77, 1, 15, 0, s.cp.length + 1, k, 0, false, true⟩ ∧ endsL (s'.up 9 (s.cp.length + 1)) = lmin k (endsL (s.up 9 s.cp.length)) := by
  obtain ⟨c, h1, h2, h3, h4⟩ := h.top
  have hl := h.len
  have ho : s.owAt 1 = some ⟨[120], 50, s.cp.length⟩ := by unfold CS.owAt; rw [h.ow]; rfl
  have hc : Cp.ok (s.cp.length + 1) ⟨s.cp.length, 77, 1, 15, 0, s.cp.length + 1, k, 0, false, true⟩ := cpOk_of (by simp [cpOkB]; omega)
  have hok : s'.ok := by
    rw [hs]
    refine add_ok h.ok ho hc (hav_ok (h.ok.ow _ _ ho) (by show s.cp.length < 50; omega)) (fun _ => ⟨c, h1, by show s.cp.length + 1 = c.depth + 1; omega⟩) (by omega)
  have hcap : s'.capAt (s.cp.length + 1) = some ⟨s.cp.length, 77, 1, 15, 0, s.cp.length + 1, k, 0, false, true⟩ := by rw [hs, add_cap, if_pos rfl]
  have hcl : s'.cp.length = s.cp.length + 1 := by rw [hs]; simp [CS.add]
  refine ⟨⟨hok, by rw [hs]; exact add_clean h.cl rfl rfl, ?_, by omega, ?_⟩, hcl, hcap, ?_⟩
  · rw [hcl, hs]; simp [CS.add, h.ow]
  · rw [hcl]; exact ⟨_, hcap, rfl, rfl, rfl⟩
  · rw [up_step hok hcap, endsL_cons, if_neg (by show ¬ s.cp.length = 0; omega)]
    show lmin k (endsL (s'.up 9 s.cp.length)) = _
    rw [hs, up_add h.ok _ _ 9 _ c h1]
theorem lmin_is (k E : Nat) : (0 < k ∧ (E = 0 ∨ k < E) ∧ lmin k E = k) ∨ (¬ (0 < k ∧ (E = 0 ∨ k < E)) ∧ lmin k E = E) := by
  unfold lmin
  repeat' split
  all_goals omega
def dpS : CS := ⟨[⟨[120], 50, 1⟩], [some ⟨0, 77, 1, 15, 0, 1, 0, 0, false, true⟩]⟩
theorem deep0 : DeepI 0 dpS where
  ok := by
    have h := addO_ok z_ok (o := ⟨[120], 50, 0⟩) ⟨by decide, fold1 120 (by decide), by decide, by decide, by decide⟩ (by simp [CS.z])
    exact add_ok (s := CS.z.addO ⟨[120], 50, 0⟩) (c := ⟨0, 77, 1, 15, 0, 1, 0, 0, false, true⟩) (o := ⟨[120], 50, 0⟩) (o' := ⟨[120], 50, 1⟩) h rfl (cpOk_of (by decide)) ⟨by decide, fold1 120 (by decide), by decide, by decide, by decide⟩ (fun h => absurd rfl h) (by simp [CS.addO, CS.z])
  cl := fun n c h => by
    have := capAt_lt h
    have hn : n = 1 := by simp [dpS] at this; omega
    subst hn
    have : c = ⟨0, 77, 1, 15, 0, 1, 0, 0, false, true⟩ := (Option.some.inj h).symm
    rw [this]; exact ⟨rfl, rfl⟩
  ow := rfl
  len := rfl
  top := ⟨_, rfl, rfl, rfl, rfl⟩
set_option maxHeartbeats 8000000 in
theorem CaptDeep_does (p : Option Addr) (ks : List Int) (cap : Nat) (o : Obj) (hk : ∀ z ∈ ks, (Lit.int .i64 z).wf = true) (hl : ks.length ≤ 9223372036854775807) :
    Does Tryz.prog 7 [.slice p ks.length cap] [ins p ks.length (ks.map encZ') o] (fun v H => v = .bool true ∧ H = [ins p ks.length (ks.map encZ') o]) := by
  refine does_of Tryz.func7 Tryz.ntmps7 rfl rfl rfl (fun w0 F0 => ?_)
  (repeat (first | (refine g_i ?_; (first | (refine g_seq (h := ?_)) | (refine g_region (h := ?_)) | (refine g_skip (h := ?_)) | (refine g_ret (h := ?_)) | (refine g_block (h := ?_)) | (refine g_exit (h := ?_)) | (refine g_cond_t (h := ?_)) | (refine g_cond_f (h := ?_)) | (refine g_scope (h := ?_)) | (refine g_label (h := ?_)))) | (refine l_i ?_; (first | (refine l_nil (h := ?_)) | (refine l_pures1 (h := ?_)) | (refine l_atc ?_; refine l_call (examples15_does) ?_) | (refine l_atc ?_; refine l_call0 (examples15_does) ?_) | (refine l_atc ?_; refine l_call_ (made15_does) ?_; rintro _ _ _ ⟨t, db, sb, rfl, rfl⟩ he; cases he) | (refine l_atc ?_; refine l_call0_ (made15_does) ?_; rintro _ _ _ ⟨t, db, sb, rfl, rfl⟩ he; cases he) | (refine l_guard_yes (h := ?_)) | (refine l_guard_no (h := ?_)) | (refine l_guard_no0 (h := ?_)) | (refine l_guard_un (h := ?_)) | (refine l_guard_un0 (h := ?_)) | (refine l_load (h := ?_)) | (refine l_store (h := ?_)) | (refine l_box (h := ?_); intro _) | (refine l_alloc (h := ?_); intro _) | (refine l_index (h := ?_)) | (refine l_slice_str (h := ?_)) | (refine l_concat (h := ?_)) | (refine l_makeSlice (h := ?_); intro _) | (refine l_load_at (h := ?_)) | (refine l_store_at (h := ?_)) | (refine l_load_p (h := ?_)) | (refine l_indexAddr (h := ?_)) | (refine l_rem (h := ?_)) | (refine l_quo (h := ?_)) | (refine l_shr (h := ?_)) | (refine l_shl (h := ?_)) | (refine l_slice (h := ?_)) | (refine l_copy_in (h := ?_)) | (refine l_copy_row (h := ?_)) | (refine l_str_bs (h := ?_)) | (refine l_bytes_of (h := ?_); intro _ _ _) | (refine l_copy_str (h := ?_)) | (refine l_lookup _ (h := ?_)) | (refine l_lookup_ok _ (h := ?_)) | (refine l_mapUpdate (h := ?_)) | (refine l_delete0 (h := ?_)) | (refine l_len_map (h := ?_)) | (refine l_buildSlice1 (h := ?_); intro _) | (refine l_append_new (h := ?_); intro _ _) | (refine l_append (h := ?_); intro _ _) | (refine l_pure_none (h := ?_)) | (refine l_load_vec (h := ?_)) | (refine l_store_vec (h := ?_)) | (refine l_append_str (h := ?_); intro _ _) | (refine l_append_zeros (h := ?_); intro _ _ _) | (refine l_to_unsafe (h := ?_)) | (refine l_from_unsafe (h := ?_)) | (refine l_neq_same (h := ?_)) | (refine l_slice_any (h := ?_)) | (refine l_buildSlice2 (h := ?_); intro _) | (refine l_buildSlice3 (h := ?_); intro _) | (refine l_buildSlice4 (h := ?_); intro _) | (refine l_slice3n (h := ?_)) | (refine l_sliceData (h := ?_)) | (refine l_outer_same outer_same (h := ?_)) | (refine l_unsafeString (h := ?_)) | (refine l_range_str (h := ?_); intro _) | (refine l_next_str (h := ?_)) | (refine l_next_end (h := ?_)) | (refine l_assert (h := ?_)) | (refine l_eqStruct (h := ?_)) | (refine l_neStruct (h := ?_)) | (refine l_indexArr (h := ?_)) | (refine l_lookup_k _ (h := ?_)) | (refine l_lookup_ok_k _ (h := ?_)) | (refine l_mapUpdate_k (h := ?_)) | (refine l_delete0_k (h := ?_)) | (refine l_len_map_k (h := ?_)))) | (refine n_i ?_; (first | (refine n_then (h := ?_)) | (refine n_then_ret (h := ?_)) | (refine n_block_ret (h := ?_)) | (refine n_then_exit (h := ?_)) | (refine n_block_hit (h := ?_)) | (refine n_any (h := a_pass2 (h := ?_))) | (refine n_block_miss (h := ?_)) | (refine n_block (h := ?_)) | (refine n_scope (h := ?_)) | (refine n_scope_ret (h := ?_)) | (refine n_scope_exit (h := ?_)) | (refine n_lw (h := ?_)) | (refine nr_then (h := ?_)))) | (refine a_i ?_; (first | (refine a_done (h := ?_)) | (refine a_load (h := a_pass2 (h := ?_))) | (refine a_one (h := ?_)) | (refine a_load_at (h := a_pass2 (h := ?_))) | (refine a_load_p (h := a_pass2 (h := ?_))) | (refine a_loadg_p (h := a_pass2 (h := ?_))) | (refine a_loadg (h := a_pass2 (h := ?_))) | (refine a_v (h := ?_)) | (refine a_vg (h := ?_)) | (refine a_no (h := ?_)) | (refine a_un (h := ?_)) | (refine a_load_vec (h := a_pass2 (h := ?_))) | (refine a_loadg_vec (h := a_pass2 (h := ?_))) | (refine a_w (h := ?_)) | (refine a_lookupg_k _ (h := a_pass2 (h := ?_))) | (refine a_fork2 (h1 := ?_) (h2 := ?_)) | (refine a_fork3 (h1 := ?_) (h2 := ?_) (h3 := ?_)))) | (refine lw_i ?_; (first | (refine lw_nil (h := ?_)) | (refine lw_step (h := ?_)) | (refine lw_guard_yes (h := ?_)))) | (refine gr_i ?_; (first | (refine gr_seq (h := ?_)) | (refine gr_region (h := ?_)) | (refine gr_block (h := ?_)) | (refine gr_skip (h := ?_)) | (refine gr_exit (h := ?_)) | (refine gr_ret (h := ?_)) | (refine gr_label (h := ?_)) | (refine gr_cond_t (h := ?_)) | (refine gr_cond_f (h := ?_)))) | (refine a1_i ?_; (first | (refine a1_of (h := ?_))))))
  have h1 : Does Tryz.prog 34 [.pointer (some ⟨t, 0, none⟩), .string { data := #[120] }, .int .i64 50] [Ct (TxP.new t sb db 640) CS.z] (fun v H => v = .tuple #[.int .i64 1, .int .i64 0] ∧ H = [Ct (TxP.new t sb db 640) ⟨[⟨[120], 50, 0⟩], []⟩]) :=
    cReg_does (TxP.new t sb db 640) CS.z (roomNew (by simp [CS.z])) [120] [120] 50 (fold1 120 (by decide)) (fold1 120 (by decide)) (by decide) (by decide) (by simp [CS.z]) (z_isNm _)
  have h2 : Does Tryz.prog 36 [.pointer (some ⟨t, 0, none⟩), .int .i64 1, .int .i64 77, .int .i64 15, .int .i64 0, .int .i64 0] [Ct (TxP.new t sb db 640) ⟨[⟨[120], 50, 0⟩], []⟩] (fun v H => v = .tuple #[.int .i64 1, .int .i64 0] ∧ H = [Ct (TxP.new t sb db 640) dpS]) :=
    cMint_does (TxP.new t sb db 640) ⟨[⟨[120], 50, 0⟩], []⟩ (roomNew (by simp)) 1 77 15 0 0 ⟨[120], 50, 0⟩ rfl (by decide) (by decide) (by decide) (by decide) (by decide) (by simp)
  (repeat' (first | (refine g_i ?_; (first | (refine g_seq (h := ?_)) | (refine g_region (h := ?_)) | (refine g_skip (h := ?_)) | (refine g_ret (h := ?_)) | (refine g_block (h := ?_)) | (refine g_exit (h := ?_)) | (refine g_cond_t (h := ?_)) | (refine g_cond_f (h := ?_)) | (refine g_scope (h := ?_)) | (refine g_label (h := ?_)) | (refine g_spT (h := ?_); intro h) | (refine g_spF (h := ?_); intro h) | (refine g_sp (h1 := ?_) (h0 := ?_) <;> intro h))) | (refine l_i ?_; (first | (refine l_nil (h := ?_)) | (refine l_pures1 (h := ?_)) | (refine l_atc ?_; refine l_call (h1) ?_) | (refine l_atc ?_; refine l_call0 (h1) ?_) | (refine l_atc ?_; refine l_call (h2) ?_) | (refine l_atc ?_; refine l_call0 (h2) ?_) | (refine l_guard_yes (h := ?_)) | (refine l_guard_no (h := ?_)) | (refine l_guard_no0 (h := ?_)) | (refine l_guard_un (h := ?_)) | (refine l_guard_un0 (h := ?_)) | (refine l_load (h := ?_)) | (refine l_store (h := ?_)) | (refine l_box (h := ?_); intro _) | (refine l_alloc (h := ?_); intro _) | (refine l_index (h := ?_)) | (refine l_slice_str (h := ?_)) | (refine l_concat (h := ?_)) | (refine l_makeSlice (h := ?_); intro _) | (refine l_load_at (h := ?_)) | (refine l_store_at (h := ?_)) | (refine l_load_p (h := ?_)) | (refine l_indexAddr (h := ?_)) | (refine l_rem (h := ?_)) | (refine l_quo (h := ?_)) | (refine l_shr (h := ?_)) | (refine l_shl (h := ?_)) | (refine l_slice (h := ?_)) | (refine l_copy_in (h := ?_)) | (refine l_copy_row (h := ?_)) | (refine l_str_bs (h := ?_)) | (refine l_bytes_of (h := ?_); intro _ _ _) | (refine l_copy_str (h := ?_)) | (refine l_lookup _ (h := ?_)) | (refine l_lookup_ok _ (h := ?_)) | (refine l_mapUpdate (h := ?_)) | (refine l_delete0 (h := ?_)) | (refine l_len_map (h := ?_)) | (refine l_buildSlice1 (h := ?_); intro _) | (refine l_append_new (h := ?_); intro _ _) | (refine l_append (h := ?_); intro _ _) | (refine l_pure_none (h := ?_)) | (refine l_load_vec (h := ?_)) | (refine l_store_vec (h := ?_)) | (refine l_append_str (h := ?_); intro _ _) | (refine l_append_zeros (h := ?_); intro _ _ _) | (refine l_to_unsafe (h := ?_)) | (refine l_from_unsafe (h := ?_)) | (refine l_neq_same (h := ?_)) | (refine l_slice_any (h := ?_)) | (refine l_buildSlice2 (h := ?_); intro _) | (refine l_buildSlice3 (h := ?_); intro _) | (refine l_buildSlice4 (h := ?_); intro _) | (refine l_slice3n (h := ?_)) | (refine l_sliceData (h := ?_)) | (refine l_outer_same outer_same (h := ?_)) | (refine l_unsafeString (h := ?_)) | (refine l_range_str (h := ?_); intro _) | (refine l_next_str (h := ?_)) | (refine l_next_end (h := ?_)) | (refine l_assert (h := ?_)) | (refine l_eqStruct (h := ?_)) | (refine l_neStruct (h := ?_)) | (refine l_indexArr (h := ?_)) | (refine l_lookup_k _ (h := ?_)) | (refine l_lookup_ok_k _ (h := ?_)) | (refine l_mapUpdate_k (h := ?_)) | (refine l_delete0_k (h := ?_)) | (refine l_len_map_k (h := ?_)) | (refine l_spT (h := ?_); intro h) | (refine l_spF (h := ?_); intro h) | (refine l_sp (h1 := ?_) (h0 := ?_) <;> intro h))) | (refine n_i ?_; (first | (refine n_then (h := ?_)) | (refine n_then_ret (h := ?_)) | (refine n_block_ret (h := ?_)) | (refine n_then_exit (h := ?_)) | (refine n_block_hit (h := ?_)) | (refine n_any (h := a_pass2 (h := ?_))) | (refine n_block_miss (h := ?_)) | (refine n_block (h := ?_)) | (refine n_scope (h := ?_)) | (refine n_scope_ret (h := ?_)) | (refine n_scope_exit (h := ?_)) | (refine n_lw (h := ?_)) | (refine nr_then (h := ?_)))) | (refine a_i ?_; (first | (refine a_done (h := ?_)) | (refine a_load (h := a_pass2 (h := ?_))) | (refine a_one (h := ?_)) | (refine a_load_at (h := a_pass2 (h := ?_))) | (refine a_load_p (h := a_pass2 (h := ?_))) | (refine a_loadg_p (h := a_pass2 (h := ?_))) | (refine a_loadg (h := a_pass2 (h := ?_))) | (refine a_v (h := ?_)) | (refine a_vg (h := ?_)) | (refine a_no (h := ?_)) | (refine a_un (h := ?_)) | (refine a_load_vec (h := a_pass2 (h := ?_))) | (refine a_loadg_vec (h := a_pass2 (h := ?_))) | (refine a_w (h := ?_)) | (refine a_lookupg_k _ (h := a_pass2 (h := ?_))) | (refine a_spT (h := ?_); intro h) | (refine a_spF (h := ?_); intro h) | (refine a_sp (h1 := ?_) (h0 := ?_) <;> intro h) | (refine a_fork2 (h1 := ?_) (h2 := ?_)) | (refine a_fork3 (h1 := ?_) (h2 := ?_) (h3 := ?_)))) | (refine lw_i ?_; (first | (refine lw_nil (h := ?_)) | (refine lw_step (h := ?_)) | (refine lw_guard_yes (h := ?_)))) | (refine gr_i ?_; (first | (refine gr_seq (h := ?_)) | (refine gr_region (h := ?_)) | (refine gr_block (h := ?_)) | (refine gr_skip (h := ?_)) | (refine gr_exit (h := ?_)) | (refine gr_ret (h := ?_)) | (refine gr_label (h := ?_)) | (refine gr_cond_t (h := ?_)) | (refine gr_cond_f (h := ?_)) | (refine gr_spT (h := ?_); intro h) | (refine gr_spF (h := ?_); intro h) | (refine gr_sp (h1 := ?_) (h0 := ?_) <;> intro h))) | (refine a1_i ?_; (first | (refine a1_of (h := ?_))))))
  (refine g_loop (fun y : Nat × CS => [(10, .int .i64 y.1), (9, .int .i64 (endsL (y.2.up 9 y.2.cp.length) : Nat)), (8, .int .i64 0), (7, .int .i64 (y.2.cp.length : Nat)), (6, .int .i64 0), (4, .pointer (some ⟨t, 0, none⟩)), (3, .bool true), (0, .slice p ks.length cap)]) (fun y => [Ct (TxP.new t sb db 640) y.2, ins p ks.length (ks.map encZ') o]) (fun y => y.1 ≤ ks.length ∧ y.1 ≤ 12 ∧ DeepI y.1 y.2) (fun y => 12 - y.1) ((0, dpS)) ?_ ?_ ?_ ?_; rotate_left; (repeat (first | refine ts_nil | (refine ts_cons rfl ?_ ?_; first | (with_reducible rfl) | rotate_left))); (first | (intro _ i; with_reducible refine i) | rotate_left); rotate_left; (try omega); rotate_right)
  · rintro ⟨i, s⟩ ⟨hi, hi12, hI⟩
    dsimp only at hi hi12 hI ⊢
    obtain ⟨c, t1, t2, t3, t4⟩ := hI.top
    have hlen := hI.len
    have how : s.owAt 1 = some ⟨[120], 50, s.cp.length⟩ := by unfold CS.owAt; rw [hI.ow]; rfl
    obtain ⟨n, hn⟩ : ∃ n, n = s.cp.length := ⟨_, rfl⟩
    have hst := state0 hI.ok hI.cl t1
    by_cases hil : i < ks.length ∧ i < 12
    · (first | (refine g_i ?_; (refine g_open (o := ins_opens (p := p) (m := ks.length) (by omega)) (h := ?_))) | (refine l_i ?_; (refine l_open (o := ins_opens (p := p) (m := ks.length) (by omega)) (h := ?_))) | (refine n_i ?_; (refine n_open (o := ins_opens (p := p) (m := ks.length) (by omega)) (h := ?_)))); (rintro ⟨gb, off, row, fr, T0⟩ ⟨rfl, rfl, v5, v6, v7⟩; dsimp only [List.cons_append, List.nil_append])
      have hgt : row[off + i * 1]? = some (encZ' (ks.getD i 0)) := ins_get v5 hil.1 (by rw [List.getElem?_map, List.getD, List.getElem?_eq_getElem hil.1]; rfl)
      have hw := wf_i64 (hk _ (getD_mem hil.1 (z := 0)))
      obtain ⟨z, hz⟩ : ∃ z, z = ks.getD i 0 := ⟨_, rfl⟩
      rw [← hz] at hgt hw
      have hgt : row[off + i * 1]? = some (.int .i64 z) := hgt
      have hpk : Does Tryz.prog 37 [.int .i64 z, .int .i64 61] [] (fun v H => v = .int .i64 (pkN z 61 : Nat) ∧ H = []) := pick15_does z 61 hw (by omega)
      have hkl := pkN_lt z (n := 61) (by omega)
      obtain ⟨k, hkk⟩ : ∃ k, k = pkN z 61 := ⟨_, rfl⟩
      rw [← hkk] at hpk hkl
      (repeat' (first | (refine g_i ?_; (first | (refine g_seq (h := ?_)) | (refine g_region (h := ?_)) | (refine g_skip (h := ?_)) | (refine g_ret (h := ?_)) | (refine g_block (h := ?_)) | (refine g_exit (h := ?_)) | (refine g_cond_t (h := ?_)) | (refine g_cond_f (h := ?_)) | (refine g_scope (h := ?_)) | (refine g_label (h := ?_)) | (refine g_spT (h := ?_); intro h) | (refine g_spF (h := ?_); intro h) | (refine g_sp (h1 := ?_) (h0 := ?_) <;> intro h))) | (refine l_i ?_; (first | (refine l_nil (h := ?_)) | (refine l_pures1 (h := ?_)) | (refine l_atc ?_; refine l_call (hpk) ?_) | (refine l_atc ?_; refine l_call0 (hpk) ?_) | (refine l_guard_yes (h := ?_)) | (refine l_guard_no (h := ?_)) | (refine l_guard_no0 (h := ?_)) | (refine l_guard_un (h := ?_)) | (refine l_guard_un0 (h := ?_)) | (refine l_load (h := ?_)) | (refine l_store (h := ?_)) | (refine l_box (h := ?_); intro _) | (refine l_alloc (h := ?_); intro _) | (refine l_index (h := ?_)) | (refine l_slice_str (h := ?_)) | (refine l_concat (h := ?_)) | (refine l_makeSlice (h := ?_); intro _) | (refine l_load_at (h := ?_)) | (refine l_store_at (h := ?_)) | (refine l_load_p (h := ?_)) | (refine l_indexAddr (h := ?_)) | (refine l_rem (h := ?_)) | (refine l_quo (h := ?_)) | (refine l_shr (h := ?_)) | (refine l_shl (h := ?_)) | (refine l_slice (h := ?_)) | (refine l_copy_in (h := ?_)) | (refine l_copy_row (h := ?_)) | (refine l_str_bs (h := ?_)) | (refine l_bytes_of (h := ?_); intro _ _ _) | (refine l_copy_str (h := ?_)) | (refine l_lookup _ (h := ?_)) | (refine l_lookup_ok _ (h := ?_)) | (refine l_mapUpdate (h := ?_)) | (refine l_delete0 (h := ?_)) | (refine l_len_map (h := ?_)) | (refine l_buildSlice1 (h := ?_); intro _) | (refine l_append_new (h := ?_); intro _ _) | (refine l_append (h := ?_); intro _ _) | (refine l_pure_none (h := ?_)) | (refine l_load_vec (h := ?_)) | (refine l_store_vec (h := ?_)) | (refine l_append_str (h := ?_); intro _ _) | (refine l_append_zeros (h := ?_); intro _ _ _) | (refine l_to_unsafe (h := ?_)) | (refine l_from_unsafe (h := ?_)) | (refine l_neq_same (h := ?_)) | (refine l_slice_any (h := ?_)) | (refine l_buildSlice2 (h := ?_); intro _) | (refine l_buildSlice3 (h := ?_); intro _) | (refine l_buildSlice4 (h := ?_); intro _) | (refine l_slice3n (h := ?_)) | (refine l_sliceData (h := ?_)) | (refine l_outer_same outer_same (h := ?_)) | (refine l_unsafeString (h := ?_)) | (refine l_range_str (h := ?_); intro _) | (refine l_next_str (h := ?_)) | (refine l_next_end (h := ?_)) | (refine l_assert (h := ?_)) | (refine l_eqStruct (h := ?_)) | (refine l_neStruct (h := ?_)) | (refine l_indexArr (h := ?_)) | (refine l_lookup_k _ (h := ?_)) | (refine l_lookup_ok_k _ (h := ?_)) | (refine l_mapUpdate_k (h := ?_)) | (refine l_delete0_k (h := ?_)) | (refine l_len_map_k (h := ?_)) | (refine l_spT (h := ?_); intro h) | (refine l_spF (h := ?_); intro h) | (refine l_sp (h1 := ?_) (h0 := ?_) <;> intro h))) | (refine n_i ?_; (first | (refine n_then (h := ?_)) | (refine n_then_ret (h := ?_)) | (refine n_block_ret (h := ?_)) | (refine n_then_exit (h := ?_)) | (refine n_block_hit (h := ?_)) | (refine n_any (h := a_pass2 (h := ?_))) | (refine n_block_miss (h := ?_)) | (refine n_block (h := ?_)) | (refine n_scope (h := ?_)) | (refine n_scope_ret (h := ?_)) | (refine n_scope_exit (h := ?_)) | (refine n_lw (h := ?_)) | (refine nr_then (h := ?_)))) | (refine a_i ?_; (first | (refine a_done (h := ?_)) | (refine a_load (h := a_pass2 (h := ?_))) | (refine a_one (h := ?_)) | (refine a_load_at (h := a_pass2 (h := ?_))) | (refine a_load_p (h := a_pass2 (h := ?_))) | (refine a_loadg_p (h := a_pass2 (h := ?_))) | (refine a_loadg (h := a_pass2 (h := ?_))) | (refine a_v (h := ?_)) | (refine a_vg (h := ?_)) | (refine a_no (h := ?_)) | (refine a_un (h := ?_)) | (refine a_load_vec (h := a_pass2 (h := ?_))) | (refine a_loadg_vec (h := a_pass2 (h := ?_))) | (refine a_w (h := ?_)) | (refine a_lookupg_k _ (h := a_pass2 (h := ?_))) | (refine a_spT (h := ?_); intro h) | (refine a_spF (h := ?_); intro h) | (refine a_sp (h1 := ?_) (h0 := ?_) <;> intro h) | (refine a_fork2 (h1 := ?_) (h2 := ?_)) | (refine a_fork3 (h1 := ?_) (h2 := ?_) (h3 := ?_)))) | (refine lw_i ?_; (first | (refine lw_nil (h := ?_)) | (refine lw_step (h := ?_)) | (refine lw_guard_yes (h := ?_)))) | (refine gr_i ?_; (first | (refine gr_seq (h := ?_)) | (refine gr_region (h := ?_)) | (refine gr_block (h := ?_)) | (refine gr_skip (h := ?_)) | (refine gr_exit (h := ?_)) | (refine gr_ret (h := ?_)) | (refine gr_label (h := ?_)) | (refine gr_cond_t (h := ?_)) | (refine gr_cond_f (h := ?_)) | (refine gr_spT (h := ?_); intro h) | (refine gr_spF (h := ?_); intro h) | (refine gr_sp (h1 := ?_) (h0 := ?_) <;> intro h))) | (refine a1_i ?_; (first | (refine a1_of (h := ?_))))))
      (first | (refine g_i ?_; (refine g_shut (ins_shuts v5 v6 v7) (h := ?_))) | (refine l_i ?_; (refine l_shut (ins_shuts v5 v6 v7) (h := ?_))) | (refine n_i ?_; (refine n_shut (ins_shuts v5 v6 v7) (h := ?_))))
      by_cases hi7 : 7 ≤ i
      · have hD : Does Tryz.prog 38 [.pointer (some ⟨t, 0, none⟩), .int .i64 (s.cp.length : Nat), .int .i64 1, .int .i64 15, .int .i64 0, .int .i64 k, .int .i64 0] [Ct (TxP.new t sb db 640) s] (fun v H => v = .tuple #[.int .i64 0, .int .i64 9] ∧ H = [Ct (TxP.new t sb db 640) s]) :=
          cDerDeep_does (TxP.new t sb db 640) s s.cp.length 1 15 0 k 0 c ⟨[120], 50, s.cp.length⟩ t1 hst how (by omega) (by omega) (by omega) (by rw [t3]; decide) (by omega)
        (repeat' (first | (refine g_i ?_; (first | (refine g_seq (h := ?_)) | (refine g_region (h := ?_)) | (refine g_skip (h := ?_)) | (refine g_ret (h := ?_)) | (refine g_block (h := ?_)) | (refine g_exit (h := ?_)) | (refine g_cond_t (h := ?_)) | (refine g_cond_f (h := ?_)) | (refine g_scope (h := ?_)) | (refine g_label (h := ?_)) | (refine g_spT (h := ?_); intro h) | (refine g_spF (h := ?_); intro h) | (refine g_sp (h1 := ?_) (h0 := ?_) <;> intro h))) | (refine l_i ?_; (first | (refine l_nil (h := ?_)) | (refine l_pures1 (h := ?_)) | (refine l_atc ?_; refine l_call (hD) ?_) | (refine l_atc ?_; refine l_call0 (hD) ?_) | (refine l_guard_yes (h := ?_)) | (refine l_guard_no (h := ?_)) | (refine l_guard_no0 (h := ?_)) | (refine l_guard_un (h := ?_)) | (refine l_guard_un0 (h := ?_)) | (refine l_load (h := ?_)) | (refine l_store (h := ?_)) | (refine l_box (h := ?_); intro _) | (refine l_alloc (h := ?_); intro _) | (refine l_index (h := ?_)) | (refine l_slice_str (h := ?_)) | (refine l_concat (h := ?_)) | (refine l_makeSlice (h := ?_); intro _) | (refine l_load_at (h := ?_)) | (refine l_store_at (h := ?_)) | (refine l_load_p (h := ?_)) | (refine l_indexAddr (h := ?_)) | (refine l_rem (h := ?_)) | (refine l_quo (h := ?_)) | (refine l_shr (h := ?_)) | (refine l_shl (h := ?_)) | (refine l_slice (h := ?_)) | (refine l_copy_in (h := ?_)) | (refine l_copy_row (h := ?_)) | (refine l_str_bs (h := ?_)) | (refine l_bytes_of (h := ?_); intro _ _ _) | (refine l_copy_str (h := ?_)) | (refine l_lookup _ (h := ?_)) | (refine l_lookup_ok _ (h := ?_)) | (refine l_mapUpdate (h := ?_)) | (refine l_delete0 (h := ?_)) | (refine l_len_map (h := ?_)) | (refine l_buildSlice1 (h := ?_); intro _) | (refine l_append_new (h := ?_); intro _ _) | (refine l_append (h := ?_); intro _ _) | (refine l_pure_none (h := ?_)) | (refine l_load_vec (h := ?_)) | (refine l_store_vec (h := ?_)) | (refine l_append_str (h := ?_); intro _ _) | (refine l_append_zeros (h := ?_); intro _ _ _) | (refine l_to_unsafe (h := ?_)) | (refine l_from_unsafe (h := ?_)) | (refine l_neq_same (h := ?_)) | (refine l_slice_any (h := ?_)) | (refine l_buildSlice2 (h := ?_); intro _) | (refine l_buildSlice3 (h := ?_); intro _) | (refine l_buildSlice4 (h := ?_); intro _) | (refine l_slice3n (h := ?_)) | (refine l_sliceData (h := ?_)) | (refine l_outer_same outer_same (h := ?_)) | (refine l_unsafeString (h := ?_)) | (refine l_range_str (h := ?_); intro _) | (refine l_next_str (h := ?_)) | (refine l_next_end (h := ?_)) | (refine l_assert (h := ?_)) | (refine l_eqStruct (h := ?_)) | (refine l_neStruct (h := ?_)) | (refine l_indexArr (h := ?_)) | (refine l_lookup_k _ (h := ?_)) | (refine l_lookup_ok_k _ (h := ?_)) | (refine l_mapUpdate_k (h := ?_)) | (refine l_delete0_k (h := ?_)) | (refine l_len_map_k (h := ?_)) | (refine l_spT (h := ?_); intro h) | (refine l_spF (h := ?_); intro h) | (refine l_sp (h1 := ?_) (h0 := ?_) <;> intro h))) | (refine n_i ?_; (first | (refine n_then (h := ?_)) | (refine n_then_ret (h := ?_)) | (refine n_block_ret (h := ?_)) | (refine n_then_exit (h := ?_)) | (refine n_block_hit (h := ?_)) | (refine n_any (h := a_pass2 (h := ?_))) | (refine n_block_miss (h := ?_)) | (refine n_block (h := ?_)) | (refine n_scope (h := ?_)) | (refine n_scope_ret (h := ?_)) | (refine n_scope_exit (h := ?_)) | (refine n_lw (h := ?_)) | (refine nr_then (h := ?_)))) | (refine a_i ?_; (first | (refine a_done (h := ?_)) | (refine a_load (h := a_pass2 (h := ?_))) | (refine a_one (h := ?_)) | (refine a_load_at (h := a_pass2 (h := ?_))) | (refine a_load_p (h := a_pass2 (h := ?_))) | (refine a_loadg_p (h := a_pass2 (h := ?_))) | (refine a_loadg (h := a_pass2 (h := ?_))) | (refine a_v (h := ?_)) | (refine a_vg (h := ?_)) | (refine a_no (h := ?_)) | (refine a_un (h := ?_)) | (refine a_load_vec (h := a_pass2 (h := ?_))) | (refine a_loadg_vec (h := a_pass2 (h := ?_))) | (refine a_w (h := ?_)) | (refine a_lookupg_k _ (h := a_pass2 (h := ?_))) | (refine a_spT (h := ?_); intro h) | (refine a_spF (h := ?_); intro h) | (refine a_sp (h1 := ?_) (h0 := ?_) <;> intro h) | (refine a_fork2 (h1 := ?_) (h2 := ?_)) | (refine a_fork3 (h1 := ?_) (h2 := ?_) (h3 := ?_)))) | (refine lw_i ?_; (first | (refine lw_nil (h := ?_)) | (refine lw_step (h := ?_)) | (refine lw_guard_yes (h := ?_)))) | (refine gr_i ?_; (first | (refine gr_seq (h := ?_)) | (refine gr_region (h := ?_)) | (refine gr_block (h := ?_)) | (refine gr_skip (h := ?_)) | (refine gr_exit (h := ?_)) | (refine gr_ret (h := ?_)) | (refine gr_label (h := ?_)) | (refine gr_cond_t (h := ?_)) | (refine gr_cond_f (h := ?_)) | (refine gr_spT (h := ?_); intro h) | (refine gr_spF (h := ?_); intro h) | (refine gr_sp (h1 := ?_) (h0 := ?_) <;> intro h))) | (refine a1_i ?_; (first | (refine a1_of (h := ?_))))))
        (refine n_back ((i + 1, s)) ?_ ?_ ?_ ?_; rotate_left; rotate_left; (repeat (first | refine ts_nil | (refine ts_cons rfl ?_ ?_; first | (with_reducible rfl) | rotate_left))); (first | (intro _ i; with_reducible refine i) | rotate_left); (try omega); (try omega))
        all_goals first
          | exact ⟨hil.1, hil.2, hI.ok, hI.cl, hI.ow, by rw [hlen]; omega, hI.top⟩
          | (dsimp only; omega)
          | (rw [wrapI64 (by omega)]; rfl)
          | (intro _ i; exact inv_keep parts_of i)
          | rfl
      · obtain ⟨s', hs'⟩ : ∃ s', s' = s.add ⟨s.cp.length, 77, 1, 15, 0, s.cp.length + 1, k, 0, false, true⟩ ⟨[120], 50, s.cp.length + 1⟩ := ⟨_, rfl⟩
        obtain ⟨hI', hl', hcap', hend'⟩ := deep_add hI (by omega) hkl hs'
        have hD : Does Tryz.prog 38 [.pointer (some ⟨t, 0, none⟩), .int .i64 (s.cp.length : Nat), .int .i64 1, .int .i64 15, .int .i64 0, .int .i64 k, .int .i64 0] [Ct (TxP.new t sb db 640) s] (fun v H => v = .tuple #[.int .i64 (s.cp.length + 1 : Nat), .int .i64 0] ∧ H = [Ct (TxP.new t sb db 640) s']) := by
          have := cDer_does (TxP.new t sb db 640) s (roomNew (by rw [hI.ow]; simp; omega)) s.cp.length 1 15 0 k 0 c ⟨[120], 50, s.cp.length⟩ t1 hst how (by omega) (by omega) (by omega) (by rw [t3]; decide) (by omega) (by show s.cp.length < 50; omega) (by omega)
          rw [t2, t4, ← hs'] at this
          exact this
        have hG := nGet_does t sb db s' (s.cp.length + 1) _ hcap'
        have hE := nEnds_does t sb db s' (s.cp.length + 1) _ hcap'
        have hlm := lmin_is k (endsL (s.up 9 s.cp.length))
        rw [hend'] at hE
        obtain ⟨E, hEe⟩ : ∃ E, E = endsL (s.up 9 s.cp.length) := ⟨_, rfl⟩
        rw [← hEe] at hE hlm hend'
        rw [← hEe]
        obtain ⟨M, hM⟩ : ∃ M, M = lmin k E := ⟨_, rfl⟩
        rw [← hM] at hE hlm hend'
        obtain ⟨iz, hiz⟩ : ∃ x : Int, x = (i : Int) := ⟨_, rfl⟩
        rw [← hiz]
        have ew2 : IntKind.i64.wrap (iz + 2) = iz + 2 := wrapI64 (by omega)
        have hlen2 : s.cp.length = i + 1 := by omega
        clear h1 h2 hst how t1 t2 t3 t4 hlen hkk hpk hM hEe hz hw hgt hk hl hs' hcap'
        by_cases q1 : k = 0
        · have hMe : M = E := by omega
          clear hlm
          (repeat' (first | (refine g_i ?_; (first | (refine g_seq (h := ?_)) | (refine g_region (h := ?_)) | (refine g_skip (h := ?_)) | (refine g_ret (h := ?_)) | (refine g_block (h := ?_)) | (refine g_exit (h := ?_)) | (refine g_cond_t (h := ?_)) | (refine g_cond_f (h := ?_)) | (refine g_scope (h := ?_)) | (refine g_label (h := ?_)) | (refine g_spT (h := ?_); intro h) | (refine g_spF (h := ?_); intro h) | (refine g_sp (h1 := ?_) (h0 := ?_) <;> intro h))) | (refine l_i ?_; (first | (refine l_nil (h := ?_)) | (refine l_pures1 (h := ?_)) | (refine l_atc ?_; refine l_call (hD) ?_) | (refine l_atc ?_; refine l_call0 (hD) ?_) | (refine l_atc ?_; refine l_call (hG) ?_) | (refine l_atc ?_; refine l_call0 (hG) ?_) | (refine l_atc ?_; refine l_call (hE) ?_) | (refine l_atc ?_; refine l_call0 (hE) ?_) | (refine l_guard_yes (h := ?_)) | (refine l_guard_no (h := ?_)) | (refine l_guard_no0 (h := ?_)) | (refine l_guard_un (h := ?_)) | (refine l_guard_un0 (h := ?_)) | (refine l_load (h := ?_)) | (refine l_store (h := ?_)) | (refine l_box (h := ?_); intro _) | (refine l_alloc (h := ?_); intro _) | (refine l_index (h := ?_)) | (refine l_slice_str (h := ?_)) | (refine l_concat (h := ?_)) | (refine l_makeSlice (h := ?_); intro _) | (refine l_load_at (h := ?_)) | (refine l_store_at (h := ?_)) | (refine l_load_p (h := ?_)) | (refine l_indexAddr (h := ?_)) | (refine l_rem (h := ?_)) | (refine l_quo (h := ?_)) | (refine l_shr (h := ?_)) | (refine l_shl (h := ?_)) | (refine l_slice (h := ?_)) | (refine l_copy_in (h := ?_)) | (refine l_copy_row (h := ?_)) | (refine l_str_bs (h := ?_)) | (refine l_bytes_of (h := ?_); intro _ _ _) | (refine l_copy_str (h := ?_)) | (refine l_lookup _ (h := ?_)) | (refine l_lookup_ok _ (h := ?_)) | (refine l_mapUpdate (h := ?_)) | (refine l_delete0 (h := ?_)) | (refine l_len_map (h := ?_)) | (refine l_buildSlice1 (h := ?_); intro _) | (refine l_append_new (h := ?_); intro _ _) | (refine l_append (h := ?_); intro _ _) | (refine l_pure_none (h := ?_)) | (refine l_load_vec (h := ?_)) | (refine l_store_vec (h := ?_)) | (refine l_append_str (h := ?_); intro _ _) | (refine l_append_zeros (h := ?_); intro _ _ _) | (refine l_to_unsafe (h := ?_)) | (refine l_from_unsafe (h := ?_)) | (refine l_neq_same (h := ?_)) | (refine l_slice_any (h := ?_)) | (refine l_buildSlice2 (h := ?_); intro _) | (refine l_buildSlice3 (h := ?_); intro _) | (refine l_buildSlice4 (h := ?_); intro _) | (refine l_slice3n (h := ?_)) | (refine l_sliceData (h := ?_)) | (refine l_outer_same outer_same (h := ?_)) | (refine l_unsafeString (h := ?_)) | (refine l_range_str (h := ?_); intro _) | (refine l_next_str (h := ?_)) | (refine l_next_end (h := ?_)) | (refine l_assert (h := ?_)) | (refine l_eqStruct (h := ?_)) | (refine l_neStruct (h := ?_)) | (refine l_indexArr (h := ?_)) | (refine l_lookup_k _ (h := ?_)) | (refine l_lookup_ok_k _ (h := ?_)) | (refine l_mapUpdate_k (h := ?_)) | (refine l_delete0_k (h := ?_)) | (refine l_len_map_k (h := ?_)) | (refine l_spT (h := ?_); intro h) | (refine l_spF (h := ?_); intro h) | (refine l_sp (h1 := ?_) (h0 := ?_) <;> intro h))) | (refine n_i ?_; (first | (refine n_then (h := ?_)) | (refine n_then_ret (h := ?_)) | (refine n_block_ret (h := ?_)) | (refine n_then_exit (h := ?_)) | (refine n_block_hit (h := ?_)) | (refine n_any (h := a_pass2 (h := ?_))) | (refine n_block_miss (h := ?_)) | (refine n_block (h := ?_)) | (refine n_scope (h := ?_)) | (refine n_scope_ret (h := ?_)) | (refine n_scope_exit (h := ?_)) | (refine n_lw (h := ?_)) | (refine nr_then (h := ?_)))) | (refine a_i ?_; (first | (refine a_done (h := ?_)) | (refine a_load (h := a_pass2 (h := ?_))) | (refine a_one (h := ?_)) | (refine a_load_at (h := a_pass2 (h := ?_))) | (refine a_load_p (h := a_pass2 (h := ?_))) | (refine a_loadg_p (h := a_pass2 (h := ?_))) | (refine a_loadg (h := a_pass2 (h := ?_))) | (refine a_v (h := ?_)) | (refine a_vg (h := ?_)) | (refine a_no (h := ?_)) | (refine a_un (h := ?_)) | (refine a_load_vec (h := a_pass2 (h := ?_))) | (refine a_loadg_vec (h := a_pass2 (h := ?_))) | (refine a_w (h := ?_)) | (refine a_lookupg_k _ (h := a_pass2 (h := ?_))) | (refine a_spT (h := ?_); intro h) | (refine a_spF (h := ?_); intro h) | (refine a_sp (h1 := ?_) (h0 := ?_) <;> intro h) | (refine a_fork2 (h1 := ?_) (h2 := ?_)) | (refine a_fork3 (h1 := ?_) (h2 := ?_) (h3 := ?_)))) | (refine lw_i ?_; (first | (refine lw_nil (h := ?_)) | (refine lw_step (h := ?_)) | (refine lw_guard_yes (h := ?_)))) | (refine gr_i ?_; (first | (refine gr_seq (h := ?_)) | (refine gr_region (h := ?_)) | (refine gr_block (h := ?_)) | (refine gr_skip (h := ?_)) | (refine gr_exit (h := ?_)) | (refine gr_ret (h := ?_)) | (refine gr_label (h := ?_)) | (refine gr_cond_t (h := ?_)) | (refine gr_cond_f (h := ?_)) | (refine gr_spT (h := ?_); intro h) | (refine gr_spF (h := ?_); intro h) | (refine gr_sp (h1 := ?_) (h0 := ?_) <;> intro h))) | (refine a1_i ?_; (first | (refine a1_of (h := ?_))))))
          (refine n_back ((i + 1, s')) ?_ ?_ ?_ ?_; rotate_left; rotate_left; (repeat (first | refine ts_nil | (refine ts_cons rfl ?_ ?_; first | (with_reducible rfl) | rotate_left))); (first | (intro _ i; with_reducible refine i) | rotate_left); (try omega); (try omega))
          all_goals first
            | exact ⟨hil.1, hil.2, hI'⟩
            | omega
            | (dsimp only; omega)
            | (rw [wrapI64 (by omega)]; rfl)
            | (rw [wrapI64 (by omega), hiz]; rfl)
            | (dsimp only; rw [hl', hend', hMe]; done)
            | (dsimp only; rw [hl']; done)
            | (intro _ i; exact inv_keep parts_of i)
            | rfl
        · by_cases q2 : E = 0
          · have hMe : M = k := by omega
            clear hlm
            (repeat' (first | (refine g_i ?_; (first | (refine g_seq (h := ?_)) | (refine g_region (h := ?_)) | (refine g_skip (h := ?_)) | (refine g_ret (h := ?_)) | (refine g_block (h := ?_)) | (refine g_exit (h := ?_)) | (refine g_cond_t (h := ?_)) | (refine g_cond_f (h := ?_)) | (refine g_scope (h := ?_)) | (refine g_label (h := ?_)) | (refine g_spT (h := ?_); intro h) | (refine g_spF (h := ?_); intro h) | (refine g_sp (h1 := ?_) (h0 := ?_) <;> intro h))) | (refine l_i ?_; (first | (refine l_nil (h := ?_)) | (refine l_pures1 (h := ?_)) | (refine l_atc ?_; refine l_call (hD) ?_) | (refine l_atc ?_; refine l_call0 (hD) ?_) | (refine l_atc ?_; refine l_call (hG) ?_) | (refine l_atc ?_; refine l_call0 (hG) ?_) | (refine l_atc ?_; refine l_call (hE) ?_) | (refine l_atc ?_; refine l_call0 (hE) ?_) | (refine l_guard_yes (h := ?_)) | (refine l_guard_no (h := ?_)) | (refine l_guard_no0 (h := ?_)) | (refine l_guard_un (h := ?_)) | (refine l_guard_un0 (h := ?_)) | (refine l_load (h := ?_)) | (refine l_store (h := ?_)) | (refine l_box (h := ?_); intro _) | (refine l_alloc (h := ?_); intro _) | (refine l_index (h := ?_)) | (refine l_slice_str (h := ?_)) | (refine l_concat (h := ?_)) | (refine l_makeSlice (h := ?_); intro _) | (refine l_load_at (h := ?_)) | (refine l_store_at (h := ?_)) | (refine l_load_p (h := ?_)) | (refine l_indexAddr (h := ?_)) | (refine l_rem (h := ?_)) | (refine l_quo (h := ?_)) | (refine l_shr (h := ?_)) | (refine l_shl (h := ?_)) | (refine l_slice (h := ?_)) | (refine l_copy_in (h := ?_)) | (refine l_copy_row (h := ?_)) | (refine l_str_bs (h := ?_)) | (refine l_bytes_of (h := ?_); intro _ _ _) | (refine l_copy_str (h := ?_)) | (refine l_lookup _ (h := ?_)) | (refine l_lookup_ok _ (h := ?_)) | (refine l_mapUpdate (h := ?_)) | (refine l_delete0 (h := ?_)) | (refine l_len_map (h := ?_)) | (refine l_buildSlice1 (h := ?_); intro _) | (refine l_append_new (h := ?_); intro _ _) | (refine l_append (h := ?_); intro _ _) | (refine l_pure_none (h := ?_)) | (refine l_load_vec (h := ?_)) | (refine l_store_vec (h := ?_)) | (refine l_append_str (h := ?_); intro _ _) | (refine l_append_zeros (h := ?_); intro _ _ _) | (refine l_to_unsafe (h := ?_)) | (refine l_from_unsafe (h := ?_)) | (refine l_neq_same (h := ?_)) | (refine l_slice_any (h := ?_)) | (refine l_buildSlice2 (h := ?_); intro _) | (refine l_buildSlice3 (h := ?_); intro _) | (refine l_buildSlice4 (h := ?_); intro _) | (refine l_slice3n (h := ?_)) | (refine l_sliceData (h := ?_)) | (refine l_outer_same outer_same (h := ?_)) | (refine l_unsafeString (h := ?_)) | (refine l_range_str (h := ?_); intro _) | (refine l_next_str (h := ?_)) | (refine l_next_end (h := ?_)) | (refine l_assert (h := ?_)) | (refine l_eqStruct (h := ?_)) | (refine l_neStruct (h := ?_)) | (refine l_indexArr (h := ?_)) | (refine l_lookup_k _ (h := ?_)) | (refine l_lookup_ok_k _ (h := ?_)) | (refine l_mapUpdate_k (h := ?_)) | (refine l_delete0_k (h := ?_)) | (refine l_len_map_k (h := ?_)) | (refine l_spT (h := ?_); intro h) | (refine l_spF (h := ?_); intro h) | (refine l_sp (h1 := ?_) (h0 := ?_) <;> intro h))) | (refine n_i ?_; (first | (refine n_then (h := ?_)) | (refine n_then_ret (h := ?_)) | (refine n_block_ret (h := ?_)) | (refine n_then_exit (h := ?_)) | (refine n_block_hit (h := ?_)) | (refine n_any (h := a_pass2 (h := ?_))) | (refine n_block_miss (h := ?_)) | (refine n_block (h := ?_)) | (refine n_scope (h := ?_)) | (refine n_scope_ret (h := ?_)) | (refine n_scope_exit (h := ?_)) | (refine n_lw (h := ?_)) | (refine nr_then (h := ?_)))) | (refine a_i ?_; (first | (refine a_done (h := ?_)) | (refine a_load (h := a_pass2 (h := ?_))) | (refine a_one (h := ?_)) | (refine a_load_at (h := a_pass2 (h := ?_))) | (refine a_load_p (h := a_pass2 (h := ?_))) | (refine a_loadg_p (h := a_pass2 (h := ?_))) | (refine a_loadg (h := a_pass2 (h := ?_))) | (refine a_v (h := ?_)) | (refine a_vg (h := ?_)) | (refine a_no (h := ?_)) | (refine a_un (h := ?_)) | (refine a_load_vec (h := a_pass2 (h := ?_))) | (refine a_loadg_vec (h := a_pass2 (h := ?_))) | (refine a_w (h := ?_)) | (refine a_lookupg_k _ (h := a_pass2 (h := ?_))) | (refine a_spT (h := ?_); intro h) | (refine a_spF (h := ?_); intro h) | (refine a_sp (h1 := ?_) (h0 := ?_) <;> intro h) | (refine a_fork2 (h1 := ?_) (h2 := ?_)) | (refine a_fork3 (h1 := ?_) (h2 := ?_) (h3 := ?_)))) | (refine lw_i ?_; (first | (refine lw_nil (h := ?_)) | (refine lw_step (h := ?_)) | (refine lw_guard_yes (h := ?_)))) | (refine gr_i ?_; (first | (refine gr_seq (h := ?_)) | (refine gr_region (h := ?_)) | (refine gr_block (h := ?_)) | (refine gr_skip (h := ?_)) | (refine gr_exit (h := ?_)) | (refine gr_ret (h := ?_)) | (refine gr_label (h := ?_)) | (refine gr_cond_t (h := ?_)) | (refine gr_cond_f (h := ?_)) | (refine gr_spT (h := ?_); intro h) | (refine gr_spF (h := ?_); intro h) | (refine gr_sp (h1 := ?_) (h0 := ?_) <;> intro h))) | (refine a1_i ?_; (first | (refine a1_of (h := ?_))))))
            (refine n_back ((i + 1, s')) ?_ ?_ ?_ ?_; rotate_left; rotate_left; (repeat (first | refine ts_nil | (refine ts_cons rfl ?_ ?_; first | (with_reducible rfl) | rotate_left))); (first | (intro _ i; with_reducible refine i) | rotate_left); (try omega); (try omega))
            all_goals first
              | exact ⟨hil.1, hil.2, hI'⟩
              | omega
              | (dsimp only; omega)
              | (rw [wrapI64 (by omega)]; rfl)
              | (rw [wrapI64 (by omega), hiz]; rfl)
              | (dsimp only; rw [hl', hend', hMe]; done)
              | (dsimp only; rw [hl']; done)
              | (intro _ i; exact inv_keep parts_of i)
              | rfl
          · by_cases q3 : k < E
            · have hMe : M = k := by omega
              clear hlm
              (repeat' (first | (refine g_i ?_; (first | (refine g_seq (h := ?_)) | (refine g_region (h := ?_)) | (refine g_skip (h := ?_)) | (refine g_ret (h := ?_)) | (refine g_block (h := ?_)) | (refine g_exit (h := ?_)) | (refine g_cond_t (h := ?_)) | (refine g_cond_f (h := ?_)) | (refine g_scope (h := ?_)) | (refine g_label (h := ?_)) | (refine g_spT (h := ?_); intro h) | (refine g_spF (h := ?_); intro h) | (refine g_sp (h1 := ?_) (h0 := ?_) <;> intro h))) | (refine l_i ?_; (first | (refine l_nil (h := ?_)) | (refine l_pures1 (h := ?_)) | (refine l_atc ?_; refine l_call (hD) ?_) | (refine l_atc ?_; refine l_call0 (hD) ?_) | (refine l_atc ?_; refine l_call (hG) ?_) | (refine l_atc ?_; refine l_call0 (hG) ?_) | (refine l_atc ?_; refine l_call (hE) ?_) | (refine l_atc ?_; refine l_call0 (hE) ?_) | (refine l_guard_yes (h := ?_)) | (refine l_guard_no (h := ?_)) | (refine l_guard_no0 (h := ?_)) | (refine l_guard_un (h := ?_)) | (refine l_guard_un0 (h := ?_)) | (refine l_load (h := ?_)) | (refine l_store (h := ?_)) | (refine l_box (h := ?_); intro _) | (refine l_alloc (h := ?_); intro _) | (refine l_index (h := ?_)) | (refine l_slice_str (h := ?_)) | (refine l_concat (h := ?_)) | (refine l_makeSlice (h := ?_); intro _) | (refine l_load_at (h := ?_)) | (refine l_store_at (h := ?_)) | (refine l_load_p (h := ?_)) | (refine l_indexAddr (h := ?_)) | (refine l_rem (h := ?_)) | (refine l_quo (h := ?_)) | (refine l_shr (h := ?_)) | (refine l_shl (h := ?_)) | (refine l_slice (h := ?_)) | (refine l_copy_in (h := ?_)) | (refine l_copy_row (h := ?_)) | (refine l_str_bs (h := ?_)) | (refine l_bytes_of (h := ?_); intro _ _ _) | (refine l_copy_str (h := ?_)) | (refine l_lookup _ (h := ?_)) | (refine l_lookup_ok _ (h := ?_)) | (refine l_mapUpdate (h := ?_)) | (refine l_delete0 (h := ?_)) | (refine l_len_map (h := ?_)) | (refine l_buildSlice1 (h := ?_); intro _) | (refine l_append_new (h := ?_); intro _ _) | (refine l_append (h := ?_); intro _ _) | (refine l_pure_none (h := ?_)) | (refine l_load_vec (h := ?_)) | (refine l_store_vec (h := ?_)) | (refine l_append_str (h := ?_); intro _ _) | (refine l_append_zeros (h := ?_); intro _ _ _) | (refine l_to_unsafe (h := ?_)) | (refine l_from_unsafe (h := ?_)) | (refine l_neq_same (h := ?_)) | (refine l_slice_any (h := ?_)) | (refine l_buildSlice2 (h := ?_); intro _) | (refine l_buildSlice3 (h := ?_); intro _) | (refine l_buildSlice4 (h := ?_); intro _) | (refine l_slice3n (h := ?_)) | (refine l_sliceData (h := ?_)) | (refine l_outer_same outer_same (h := ?_)) | (refine l_unsafeString (h := ?_)) | (refine l_range_str (h := ?_); intro _) | (refine l_next_str (h := ?_)) | (refine l_next_end (h := ?_)) | (refine l_assert (h := ?_)) | (refine l_eqStruct (h := ?_)) | (refine l_neStruct (h := ?_)) | (refine l_indexArr (h := ?_)) | (refine l_lookup_k _ (h := ?_)) | (refine l_lookup_ok_k _ (h := ?_)) | (refine l_mapUpdate_k (h := ?_)) | (refine l_delete0_k (h := ?_)) | (refine l_len_map_k (h := ?_)) | (refine l_spT (h := ?_); intro h) | (refine l_spF (h := ?_); intro h) | (refine l_sp (h1 := ?_) (h0 := ?_) <;> intro h))) | (refine n_i ?_; (first | (refine n_then (h := ?_)) | (refine n_then_ret (h := ?_)) | (refine n_block_ret (h := ?_)) | (refine n_then_exit (h := ?_)) | (refine n_block_hit (h := ?_)) | (refine n_any (h := a_pass2 (h := ?_))) | (refine n_block_miss (h := ?_)) | (refine n_block (h := ?_)) | (refine n_scope (h := ?_)) | (refine n_scope_ret (h := ?_)) | (refine n_scope_exit (h := ?_)) | (refine n_lw (h := ?_)) | (refine nr_then (h := ?_)))) | (refine a_i ?_; (first | (refine a_done (h := ?_)) | (refine a_load (h := a_pass2 (h := ?_))) | (refine a_one (h := ?_)) | (refine a_load_at (h := a_pass2 (h := ?_))) | (refine a_load_p (h := a_pass2 (h := ?_))) | (refine a_loadg_p (h := a_pass2 (h := ?_))) | (refine a_loadg (h := a_pass2 (h := ?_))) | (refine a_v (h := ?_)) | (refine a_vg (h := ?_)) | (refine a_no (h := ?_)) | (refine a_un (h := ?_)) | (refine a_load_vec (h := a_pass2 (h := ?_))) | (refine a_loadg_vec (h := a_pass2 (h := ?_))) | (refine a_w (h := ?_)) | (refine a_lookupg_k _ (h := a_pass2 (h := ?_))) | (refine a_spT (h := ?_); intro h) | (refine a_spF (h := ?_); intro h) | (refine a_sp (h1 := ?_) (h0 := ?_) <;> intro h) | (refine a_fork2 (h1 := ?_) (h2 := ?_)) | (refine a_fork3 (h1 := ?_) (h2 := ?_) (h3 := ?_)))) | (refine lw_i ?_; (first | (refine lw_nil (h := ?_)) | (refine lw_step (h := ?_)) | (refine lw_guard_yes (h := ?_)))) | (refine gr_i ?_; (first | (refine gr_seq (h := ?_)) | (refine gr_region (h := ?_)) | (refine gr_block (h := ?_)) | (refine gr_skip (h := ?_)) | (refine gr_exit (h := ?_)) | (refine gr_ret (h := ?_)) | (refine gr_label (h := ?_)) | (refine gr_cond_t (h := ?_)) | (refine gr_cond_f (h := ?_)) | (refine gr_spT (h := ?_); intro h) | (refine gr_spF (h := ?_); intro h) | (refine gr_sp (h1 := ?_) (h0 := ?_) <;> intro h))) | (refine a1_i ?_; (first | (refine a1_of (h := ?_))))))
              (refine n_back ((i + 1, s')) ?_ ?_ ?_ ?_; rotate_left; rotate_left; (repeat (first | refine ts_nil | (refine ts_cons rfl ?_ ?_; first | (with_reducible rfl) | rotate_left))); (first | (intro _ i; with_reducible refine i) | rotate_left); (try omega); (try omega))
              all_goals first
                | exact ⟨hil.1, hil.2, hI'⟩
                | omega
                | (dsimp only; omega)
                | (rw [wrapI64 (by omega)]; rfl)
                | (rw [wrapI64 (by omega), hiz]; rfl)
                | (dsimp only; rw [hl', hend', hMe]; done)
                | (dsimp only; rw [hl']; done)
                | (intro _ i; exact inv_keep parts_of i)
                | rfl
            · have hMe : M = E := by omega
              clear hlm
              (repeat' (first | (refine g_i ?_; (first | (refine g_seq (h := ?_)) | (refine g_region (h := ?_)) | (refine g_skip (h := ?_)) | (refine g_ret (h := ?_)) | (refine g_block (h := ?_)) | (refine g_exit (h := ?_)) | (refine g_cond_t (h := ?_)) | (refine g_cond_f (h := ?_)) | (refine g_scope (h := ?_)) | (refine g_label (h := ?_)) | (refine g_spT (h := ?_); intro h) | (refine g_spF (h := ?_); intro h) | (refine g_sp (h1 := ?_) (h0 := ?_) <;> intro h))) | (refine l_i ?_; (first | (refine l_nil (h := ?_)) | (refine l_pures1 (h := ?_)) | (refine l_atc ?_; refine l_call (hD) ?_) | (refine l_atc ?_; refine l_call0 (hD) ?_) | (refine l_atc ?_; refine l_call (hG) ?_) | (refine l_atc ?_; refine l_call0 (hG) ?_) | (refine l_atc ?_; refine l_call (hE) ?_) | (refine l_atc ?_; refine l_call0 (hE) ?_) | (refine l_guard_yes (h := ?_)) | (refine l_guard_no (h := ?_)) | (refine l_guard_no0 (h := ?_)) | (refine l_guard_un (h := ?_)) | (refine l_guard_un0 (h := ?_)) | (refine l_load (h := ?_)) | (refine l_store (h := ?_)) | (refine l_box (h := ?_); intro _) | (refine l_alloc (h := ?_); intro _) | (refine l_index (h := ?_)) | (refine l_slice_str (h := ?_)) | (refine l_concat (h := ?_)) | (refine l_makeSlice (h := ?_); intro _) | (refine l_load_at (h := ?_)) | (refine l_store_at (h := ?_)) | (refine l_load_p (h := ?_)) | (refine l_indexAddr (h := ?_)) | (refine l_rem (h := ?_)) | (refine l_quo (h := ?_)) | (refine l_shr (h := ?_)) | (refine l_shl (h := ?_)) | (refine l_slice (h := ?_)) | (refine l_copy_in (h := ?_)) | (refine l_copy_row (h := ?_)) | (refine l_str_bs (h := ?_)) | (refine l_bytes_of (h := ?_); intro _ _ _) | (refine l_copy_str (h := ?_)) | (refine l_lookup _ (h := ?_)) | (refine l_lookup_ok _ (h := ?_)) | (refine l_mapUpdate (h := ?_)) | (refine l_delete0 (h := ?_)) | (refine l_len_map (h := ?_)) | (refine l_buildSlice1 (h := ?_); intro _) | (refine l_append_new (h := ?_); intro _ _) | (refine l_append (h := ?_); intro _ _) | (refine l_pure_none (h := ?_)) | (refine l_load_vec (h := ?_)) | (refine l_store_vec (h := ?_)) | (refine l_append_str (h := ?_); intro _ _) | (refine l_append_zeros (h := ?_); intro _ _ _) | (refine l_to_unsafe (h := ?_)) | (refine l_from_unsafe (h := ?_)) | (refine l_neq_same (h := ?_)) | (refine l_slice_any (h := ?_)) | (refine l_buildSlice2 (h := ?_); intro _) | (refine l_buildSlice3 (h := ?_); intro _) | (refine l_buildSlice4 (h := ?_); intro _) | (refine l_slice3n (h := ?_)) | (refine l_sliceData (h := ?_)) | (refine l_outer_same outer_same (h := ?_)) | (refine l_unsafeString (h := ?_)) | (refine l_range_str (h := ?_); intro _) | (refine l_next_str (h := ?_)) | (refine l_next_end (h := ?_)) | (refine l_assert (h := ?_)) | (refine l_eqStruct (h := ?_)) | (refine l_neStruct (h := ?_)) | (refine l_indexArr (h := ?_)) | (refine l_lookup_k _ (h := ?_)) | (refine l_lookup_ok_k _ (h := ?_)) | (refine l_mapUpdate_k (h := ?_)) | (refine l_delete0_k (h := ?_)) | (refine l_len_map_k (h := ?_)) | (refine l_spT (h := ?_); intro h) | (refine l_spF (h := ?_); intro h) | (refine l_sp (h1 := ?_) (h0 := ?_) <;> intro h))) | (refine n_i ?_; (first | (refine n_then (h := ?_)) | (refine n_then_ret (h := ?_)) | (refine n_block_ret (h := ?_)) | (refine n_then_exit (h := ?_)) | (refine n_block_hit (h := ?_)) | (refine n_any (h := a_pass2 (h := ?_))) | (refine n_block_miss (h := ?_)) | (refine n_block (h := ?_)) | (refine n_scope (h := ?_)) | (refine n_scope_ret (h := ?_)) | (refine n_scope_exit (h := ?_)) | (refine n_lw (h := ?_)) | (refine nr_then (h := ?_)))) | (refine a_i ?_; (first | (refine a_done (h := ?_)) | (refine a_load (h := a_pass2 (h := ?_))) | (refine a_one (h := ?_)) | (refine a_load_at (h := a_pass2 (h := ?_))) | (refine a_load_p (h := a_pass2 (h := ?_))) | (refine a_loadg_p (h := a_pass2 (h := ?_))) | (refine a_loadg (h := a_pass2 (h := ?_))) | (refine a_v (h := ?_)) | (refine a_vg (h := ?_)) | (refine a_no (h := ?_)) | (refine a_un (h := ?_)) | (refine a_load_vec (h := a_pass2 (h := ?_))) | (refine a_loadg_vec (h := a_pass2 (h := ?_))) | (refine a_w (h := ?_)) | (refine a_lookupg_k _ (h := a_pass2 (h := ?_))) | (refine a_spT (h := ?_); intro h) | (refine a_spF (h := ?_); intro h) | (refine a_sp (h1 := ?_) (h0 := ?_) <;> intro h) | (refine a_fork2 (h1 := ?_) (h2 := ?_)) | (refine a_fork3 (h1 := ?_) (h2 := ?_) (h3 := ?_)))) | (refine lw_i ?_; (first | (refine lw_nil (h := ?_)) | (refine lw_step (h := ?_)) | (refine lw_guard_yes (h := ?_)))) | (refine gr_i ?_; (first | (refine gr_seq (h := ?_)) | (refine gr_region (h := ?_)) | (refine gr_block (h := ?_)) | (refine gr_skip (h := ?_)) | (refine gr_exit (h := ?_)) | (refine gr_ret (h := ?_)) | (refine gr_label (h := ?_)) | (refine gr_cond_t (h := ?_)) | (refine gr_cond_f (h := ?_)) | (refine gr_spT (h := ?_); intro h) | (refine gr_spF (h := ?_); intro h) | (refine gr_sp (h1 := ?_) (h0 := ?_) <;> intro h))) | (refine a1_i ?_; (first | (refine a1_of (h := ?_))))))
              (refine n_back ((i + 1, s')) ?_ ?_ ?_ ?_; rotate_left; rotate_left; (repeat (first | refine ts_nil | (refine ts_cons rfl ?_ ?_; first | (with_reducible rfl) | rotate_left))); (first | (intro _ i; with_reducible refine i) | rotate_left); (try omega); (try omega))
              all_goals first
                | exact ⟨hil.1, hil.2, hI'⟩
                | omega
                | (dsimp only; omega)
                | (rw [wrapI64 (by omega)]; rfl)
                | (rw [wrapI64 (by omega), hiz]; rfl)
                | (dsimp only; rw [hl', hend', hMe]; done)
                | (dsimp only; rw [hl']; done)
                | (intro _ i; exact inv_keep parts_of i)
                | rfl
    · (repeat' (first | (refine g_i ?_; (first | (refine g_seq (h := ?_)) | (refine g_region (h := ?_)) | (refine g_skip (h := ?_)) | (refine g_ret (h := ?_)) | (refine g_block (h := ?_)) | (refine g_exit (h := ?_)) | (refine g_cond_t (h := ?_)) | (refine g_cond_f (h := ?_)) | (refine g_scope (h := ?_)) | (refine g_label (h := ?_)) | (refine g_spT (h := ?_); intro h) | (refine g_spF (h := ?_); intro h) | (refine g_sp (h1 := ?_) (h0 := ?_) <;> intro h))) | (refine l_i ?_; (first | (refine l_nil (h := ?_)) | (refine l_pures1 (h := ?_)) | (refine l_guard_yes (h := ?_)) | (refine l_guard_no (h := ?_)) | (refine l_guard_no0 (h := ?_)) | (refine l_guard_un (h := ?_)) | (refine l_guard_un0 (h := ?_)) | (refine l_load (h := ?_)) | (refine l_store (h := ?_)) | (refine l_box (h := ?_); intro _) | (refine l_alloc (h := ?_); intro _) | (refine l_index (h := ?_)) | (refine l_slice_str (h := ?_)) | (refine l_concat (h := ?_)) | (refine l_makeSlice (h := ?_); intro _) | (refine l_load_at (h := ?_)) | (refine l_store_at (h := ?_)) | (refine l_load_p (h := ?_)) | (refine l_indexAddr (h := ?_)) | (refine l_rem (h := ?_)) | (refine l_quo (h := ?_)) | (refine l_shr (h := ?_)) | (refine l_shl (h := ?_)) | (refine l_slice (h := ?_)) | (refine l_copy_in (h := ?_)) | (refine l_copy_row (h := ?_)) | (refine l_str_bs (h := ?_)) | (refine l_bytes_of (h := ?_); intro _ _ _) | (refine l_copy_str (h := ?_)) | (refine l_lookup _ (h := ?_)) | (refine l_lookup_ok _ (h := ?_)) | (refine l_mapUpdate (h := ?_)) | (refine l_delete0 (h := ?_)) | (refine l_len_map (h := ?_)) | (refine l_buildSlice1 (h := ?_); intro _) | (refine l_append_new (h := ?_); intro _ _) | (refine l_append (h := ?_); intro _ _) | (refine l_pure_none (h := ?_)) | (refine l_load_vec (h := ?_)) | (refine l_store_vec (h := ?_)) | (refine l_append_str (h := ?_); intro _ _) | (refine l_append_zeros (h := ?_); intro _ _ _) | (refine l_to_unsafe (h := ?_)) | (refine l_from_unsafe (h := ?_)) | (refine l_neq_same (h := ?_)) | (refine l_slice_any (h := ?_)) | (refine l_buildSlice2 (h := ?_); intro _) | (refine l_buildSlice3 (h := ?_); intro _) | (refine l_buildSlice4 (h := ?_); intro _) | (refine l_slice3n (h := ?_)) | (refine l_sliceData (h := ?_)) | (refine l_outer_same outer_same (h := ?_)) | (refine l_unsafeString (h := ?_)) | (refine l_range_str (h := ?_); intro _) | (refine l_next_str (h := ?_)) | (refine l_next_end (h := ?_)) | (refine l_assert (h := ?_)) | (refine l_eqStruct (h := ?_)) | (refine l_neStruct (h := ?_)) | (refine l_indexArr (h := ?_)) | (refine l_lookup_k _ (h := ?_)) | (refine l_lookup_ok_k _ (h := ?_)) | (refine l_mapUpdate_k (h := ?_)) | (refine l_delete0_k (h := ?_)) | (refine l_len_map_k (h := ?_)) | (refine l_spT (h := ?_); intro h) | (refine l_spF (h := ?_); intro h) | (refine l_sp (h1 := ?_) (h0 := ?_) <;> intro h))) | (refine n_i ?_; (first | (refine n_then (h := ?_)) | (refine n_then_ret (h := ?_)) | (refine n_block_ret (h := ?_)) | (refine n_then_exit (h := ?_)) | (refine n_block_hit (h := ?_)) | (refine n_any (h := a_pass2 (h := ?_))) | (refine n_block_miss (h := ?_)) | (refine n_block (h := ?_)) | (refine n_scope (h := ?_)) | (refine n_scope_ret (h := ?_)) | (refine n_scope_exit (h := ?_)) | (refine n_lw (h := ?_)) | (refine nr_then (h := ?_)))) | (refine a_i ?_; (first | (refine a_done (h := ?_)) | (refine a_load (h := a_pass2 (h := ?_))) | (refine a_one (h := ?_)) | (refine a_load_at (h := a_pass2 (h := ?_))) | (refine a_load_p (h := a_pass2 (h := ?_))) | (refine a_loadg_p (h := a_pass2 (h := ?_))) | (refine a_loadg (h := a_pass2 (h := ?_))) | (refine a_v (h := ?_)) | (refine a_vg (h := ?_)) | (refine a_no (h := ?_)) | (refine a_un (h := ?_)) | (refine a_load_vec (h := a_pass2 (h := ?_))) | (refine a_loadg_vec (h := a_pass2 (h := ?_))) | (refine a_w (h := ?_)) | (refine a_lookupg_k _ (h := a_pass2 (h := ?_))) | (refine a_spT (h := ?_); intro h) | (refine a_spF (h := ?_); intro h) | (refine a_sp (h1 := ?_) (h0 := ?_) <;> intro h) | (refine a_fork2 (h1 := ?_) (h2 := ?_)) | (refine a_fork3 (h1 := ?_) (h2 := ?_) (h3 := ?_)))) | (refine lw_i ?_; (first | (refine lw_nil (h := ?_)) | (refine lw_step (h := ?_)) | (refine lw_guard_yes (h := ?_)))) | (refine gr_i ?_; (first | (refine gr_seq (h := ?_)) | (refine gr_region (h := ?_)) | (refine gr_block (h := ?_)) | (refine gr_skip (h := ?_)) | (refine gr_exit (h := ?_)) | (refine gr_ret (h := ?_)) | (refine gr_label (h := ?_)) | (refine gr_cond_t (h := ?_)) | (refine gr_cond_f (h := ?_)) | (refine gr_spT (h := ?_); intro h) | (refine gr_spF (h := ?_); intro h) | (refine gr_sp (h1 := ?_) (h0 := ?_) <;> intro h))) | (refine a1_i ?_; (first | (refine a1_of (h := ?_))))))
      all_goals
        refine r_retk [ins p ks.length (ks.map encZ') o] ?_
      all_goals exact ⟨rfl, rfl⟩
  all_goals first
    | exact ⟨Nat.zero_le _, by omega, deep0⟩
    | rfl
    | (intro _ i; exact inv_keep parts_of i)
end Go.Proofs.YtmfmommgooccnaaGreat
/- The framework, part 11: laws that take slices: what a row asks of them. -/
set_option linter.unusedVariables false
set_option linter.unusedSimpArgs false
namespace Go.Proofs.YtmfmommgooccnaaGreat.SL
open Go.RowKit Go.WideElems

/-- Wherever A holds its blocks F are as in W. -/
def Keeps (A : SProp) (W : World) (F : Nat → Prop) : Prop := ∀ h' F', A.holds h' F' → ∀ b, F b → h'[b]? = W.heap[b]?
theorem row_ofA {P : Program} {f : FuncId} {args : List Value} {A : SProp} {W : World} {F : Nat → Prop} (d : Does P f args [A] (fun v H => v = .bool true ∧ H = [A])) (hx : Keeps A W F) (s : A.holds W.heap F) :
    Calls P f args.toArray W fun e W' => e = .returned (.bool true) ∧ Go.RowKit.Below W.heap.size W W' := by
  refine (d W F ⟨F, fun _ => False, s, fun _ h => h, fun _ _ h => h, fun b => ⟨.inl, fun o => o.elim id False.elim⟩⟩).mono ?_
  rintro e W' ⟨v, H', rfl, ⟨rfl, rfl⟩, i⟩
  obtain ⟨⟨G, ⟨F1, _, a, _⟩, _⟩, _⟩ := id i
  refine ⟨rfl, i.os, i.tape, i.output, i.size, fun k hk => ?_⟩
  by_cases q : F k
  · exact hx _ _ a k q
  · exact i.frame k hk q
theorem keeps_ins {p : Option Addr} {m : Nat} {xs : List Value} {o : Obj} {W : World} {F : Nat → Prop} (hm : 0 < m) (s : (ins p m xs o).holds W.heap F) : Keeps (ins p m xs o) W F := by
  rintro h' F' ⟨_, z'⟩ b hb
  obtain ⟨_, z⟩ := s
  rcases z with ⟨e, _⟩ | ⟨g, off, row, fr, T, q1, q2, _, h3, e, f⟩
  · omega
  · rcases z' with ⟨e', _⟩ | ⟨g', off', row', fr', T', q1', q2', _, _, e', f'⟩
    · omega
    · rw [q1] at q1'
      cases q1'
      rw [(f b).1 hb, e, e']

/-- Cells that are there are an input row. -/
theorem cells_ins {W : World} {a : Addr} {m : Nat} {xs : List Value} (hl : xs.length = m) (h : ∀ i, i < m → W.cell? (a.add i) = xs[i]?) : ∃ o F, (ins (some a) m xs o).holds W.heap F ∧ Keeps (ins (some a) m xs o) W F ∧ (m = 0 → ∀ x, ¬ F x) := by
  by_cases hm : m = 0
  · exact ⟨.map #[] 0, fun _ => False, ⟨hl, .inl ⟨hm, fun _ h => h⟩⟩, fun _ _ _ _ h => h.elim, fun _ _ h => h⟩
  · obtain ⟨b, off, spot⟩ := a
    have h0 := h 0 (by omega)
    have hspot : spot = none := by
      rw [List.getElem?_eq_getElem (by omega)] at h0
      simpa [Addr.add] using World.cell?_spot h0
    subst hspot
    have h1 : ∀ i, i < m → W.cell? ⟨b, off + i, none⟩ = xs[i]? := fun i hi => by rw [← Go.WideShapes.add_plain]; exact h i hi
    have h2 := h1 0 (by omega)
    rw [List.getElem?_eq_getElem (by omega)] at h2
    obtain ⟨c, T, fr, hb⟩ : ∃ c T fr, W.heap[b]? = some (.cells c T fr) := by
      unfold World.cell? at h2
      split at h2
      · rename_i hb; exact ⟨_, _, _, hb⟩
      · cases h2
    have h3 : ∀ i, i < m → c[off + i]? = xs[i]? := fun i hi => by rw [← h1 i hi, cell_at hb]
    have hlen : off + m ≤ c.toList.length := by
      have := h3 (m - 1) (by omega)
      rw [List.getElem?_eq_getElem (by omega)] at this
      have := (Array.getElem?_eq_some_iff.1 this).1
      simp; omega
    have hs : (ins (some ⟨b, off, none⟩) m xs (.cells c T fr)).holds W.heap (fun x => x = b) := by
     refine ⟨hl, .inr ⟨b, off, c.toList, fr, T, rfl, by simp, ?_, hlen, hb, fun _ => Iff.rfl⟩⟩
     apply List.ext_getElem?
     intro i
     by_cases hi : i < m
     · rw [List.getElem?_take_of_lt hi, List.getElem?_drop, Array.getElem?_toList, h3 i hi]
     · rw [List.getElem?_eq_none (by simp; omega), List.getElem?_eq_none (by omega)]
    exact ⟨_, _, hs, keeps_ins (by omega) hs, fun q => absurd q hm⟩
theorem nil_ins {W : World} : (ins none 0 [] (.map #[] 0)).holds W.heap (fun _ => False) ∧ Keeps (ins none 0 [] (.map #[] 0)) W (fun _ => False) := ⟨⟨rfl, .inl ⟨rfl, fun _ h => h⟩⟩, fun _ _ _ _ h => h.elim⟩

end Go.Proofs.YtmfmommgooccnaaGreat.SL
/- Rows over slices of strings and of whole numbers. -/
set_option linter.unusedVariables false
set_option linter.unusedSimpArgs false
namespace Go.Proofs.YtmfmommgooccnaaGreat
open Go.Proofs.YtmfmommgooccnaaGreat.SL Go.ChangeShapes

section
variable {H : Type} {enc : TypeId × Value → H} {P : Program} {W : World}
theorem open_Zs {t e : TypeId} (ht : P.underlying t = some (.slice e)) (he : P.underlying e = some (.int .i64)) (hc : P.cellsOf e = 1) {v : Value} (hv : ∃ a0 len cap, v = .slice a0 len cap) {d : DataW H} {ps : List MemPlace} (h : DataW.Trod enc P W 0 (fun _ => true) true t v d ps) :
    ∃ (a0 : Option Addr) (cap : Nat) (zs : List Int) (o : Obj) (F : Nat → Prop), v = .slice a0 zs.length cap ∧ (ins a0 zs.length (zs.map encZ') o).holds W.heap F ∧ Keeps (ins a0 zs.length (zs.map encZ') o) W F ∧ (zs.length = 0 → ∀ x, ¬ F x) ∧ (∀ z ∈ zs, (Lit.int .i64 z).wf = true) ∧ zs.length ≤ 9223372036854775807 := by
  obtain ⟨a0, len, cap, rfl⟩ := hv
  obtain ⟨fuel, hf⟩ := h
  rcases open_ints ht he hc hf with ⟨hcs, _⟩ | ⟨a, len', cap', ss, hcs, _, hle, hmax, hlen, _, hcell, hw⟩
  · simp [Value.cells] at hcs
    obtain ⟨rfl, rfl, rfl⟩ := hcs
    exact ⟨none, 0, [], .map #[] 0, _, rfl, nil_ins.1, nil_ins.2, fun _ _ h => h, by simp, by simp⟩
  · simp [Value.cells] at hcs
    obtain ⟨rfl, rfl, rfl⟩ := hcs
    simp only [if_true] at hlen
    have hl : (ss.take len).length = len := by rw [List.length_take]; omega
    have hm' : ((ss.take len).map encZ').length = (ss.take len).length := by simp
    obtain ⟨o, F, s1, s2, s3⟩ := cells_ins (W := W) (a := a) hm' (fun i hi => by
      rw [hcell i (by omega), List.getElem?_map, List.getElem?_take_of_lt (by omega), List.getD, List.getElem?_eq_getElem (by omega)]; rfl)
    simp only [maxLen] at hmax
    exact ⟨some a, cap, ss.take len, o, F, by rw [hl], s1, s2, s3, fun z hz => hw z (List.mem_of_mem_take hz), by omega⟩
end
end Go.Proofs.YtmfmommgooccnaaGreat
