/- Texts NdE, NdF, NdG, NdH, TrB, Page, Bits, BitsL, joined. -/
import Derived.Test.YtelfjhemnnbbpaaGreatK05
set_option linter.unusedVariables false
set_option linter.unusedSimpArgs false
set_option maxRecDepth 20000
namespace Go.Proofs.YtelfjhemnnbbpaaGreat
open Go.Proofs.YtelfjhemnnbbpaaGreat.SL
set_option maxHeartbeats 2000000 in
theorem plain_tail (d : Nd) (r : Rw) (b : Nat) (g1 : Rise d.keys) (f1 : d.keys.length < 10000) (f2 : d.kids.length < 10000) (f3 : d.vals.length < 10000) (g3 : ∀ v ∈ d.vals, v.length ≤ 40) (g4 : ∀ i ∈ d.kids, 2 ≤ i ∧ i < 640) (w0 : World) (F0 : Nat → Prop) :
  G Tryz.prog 65 w0 F0 (csq 4 (bdy Tryz.f161)) (Post Tryz.prog Tryz.f161 w0 F0 fun v H => v = .bool true ∧ H = [Nds d r])
   [(1, .pointer (some ⟨b, 0, none⟩))] [] [cl b 175 (ndA d r).toList, Nds d r] := by
 obtain ⟨c, hc⟩ : ∃ c, c = csq 4 (bdy Tryz.f161) := ⟨_, rfl⟩
 rw [← hc]
 dsimp only [csq, bdy, Tryz.f161, Option.getD] at hc
 subst hc
 obtain ⟨leaf, keys, vals, kids⟩ := d
 obtain ⟨p1, c1, p2, c2, p3, c3⟩ := r
 dsimp only at *
 refine g_open (A := Nds ⟨leaf, keys, vals, kids⟩ ⟨p1, c1, p2, c2, p3, c3⟩) (h:=?_); (rintro _ _; dsimp only [NdsK, List.cons_append, List.nil_append])
 (repeat' (first|refine g_seq (h:=?_)|refine g_region (h:=?_)|refine l_nil (h:=?_)|refine n_then (h:=?_)|refine l_pures1 (h:=?_)|refine l_load (h:=?_)|refine g_block (h:=?_)))
 (refine g_loop (fun k : Nat => [(33, .int .i64 k), (32, .int .i64 keys.length), (31, .slice p1 keys.length c1), (1, .pointer (some ⟨b, 0, none⟩))]) (fun _ => cl b 175 (ndA ⟨leaf, keys, vals, kids⟩ ⟨p1, c1, p2, c2, p3, c3⟩).toList :: NdsK ⟨leaf, keys, vals, kids⟩ ⟨p1, c1, p2, c2, p3, c3⟩ ()) (fun k => k ≤ keys.length) (fun k => keys.length - k) (0) ?_ ?_ ?_ ?_; rotate_left; (repeat (first | refine ts_nil | (refine ts_cons rfl ?_ ?_; first | (with_reducible rfl) | rotate_left))); (first | (intro _ i; with_reducible refine i) | rotate_left); rotate_left; (try omega); rotate_right)
 ·intro k hk
  dsimp only [NdsK]
  (repeat' (first|refine g_seq (h:=?_)|refine g_region (h:=?_)|refine l_nil (h:=?_)|refine n_then (h:=?_)|refine l_pures1 (h:=?_)|refine l_load (h:=?_)|refine g_skip (h:=?_)|refine g_block (h:=?_)|refine g_exit (h:=?_)|refine n_then_exit (h:=?_)|refine n_block_hit (h:=?_)|(refine g_sp (h1 := ?_) (h0 := ?_) <;> intro h)))
  ·have hlt : k < keys.length := by omega
   refine g_ptr (m := keys.length) (h:=?_); rintro g rfl hc
   rcases Nat.eq_zero_or_pos k with rfl | hk0
   ·(refine g_draw [cl _ _ _, vec _ _ _ _ _ _] (h := a_pass2 (h:=?_)))
    (repeat' (first|refine g_region (h:=?_)|refine l_nil (h:=?_)|refine n_then (h:=?_)|refine l_pures1 (h:=?_)|refine l_guard_no (h:=?_)|refine g_skip (h:=?_)|refine a_done (h:=?_)|refine a_one (h:=?_)|refine n_any (h := a_pass2 (h:=?_))|refine a_no (h:=?_)|refine n_block (h:=?_)|refine g_cond_f (h:=?_)))
    (refine n_back (1) ?_ ?_ ?_ ?_; rotate_left; rotate_left; (repeat (first | refine ts_nil | (refine ts_cons rfl ?_ ?_; first | (with_reducible rfl) | rotate_left))); (first | (intro _ i; with_reducible refine i) | rotate_left); (try omega); (try omega))
    rw [wrapI64 (by omega)]; rfl
   ·have ew : IntKind.i64.wrap ((k : Int) - 1) = ((k - 1 : Nat) : Int) := by rw [wrapI64 (by omega)]; omega
    have hg1 : (uV keys)[0 + (IntKind.i64.wrap ((k : Int) - 1)).toNat * 1]? = some (.int .u64 (keys.getD (k - 1) 0 : Nat)) := by rw [ew]; exact uGet (by omega)
    have hg2 := uGet hlt
    have hr : keys.getD (k - 1) 0 < keys.getD k 0 := g1.get (by omega) hlt
    (refine g_draw [cl _ _ _, vec 78 _ _ _ _ _] (h := a_pass2 (h:=?_)))
    (repeat' (first|refine g_region (h:=?_)|refine l_nil (h:=?_)|refine n_then (h:=?_)|refine l_pures1 (h:=?_)|refine l_guard_yes (h:=?_)|refine l_indexAddr (h:=?_)|refine g_skip (h:=?_)|refine a_done (h:=?_)|refine a_one (h:=?_)|refine n_any (h := a_pass2 (h:=?_))|refine a_loadg (h := a_pass2 (h:=?_))|refine a_vg (h:=?_)|refine n_block (h:=?_)|refine l_load_vec (h:=?_)|refine a_loadg_vec (h := a_pass2 (h:=?_))|(refine a_spT (h:=?_); intro h)|(refine g_spF (h:=?_); intro h)))
    (refine n_back (k + 1) ?_ ?_ ?_ ?_; rotate_left; rotate_left; (repeat (first | refine ts_nil | (refine ts_cons rfl ?_ ?_; first | (with_reducible rfl) | rotate_left))); (first | (intro _ i; with_reducible refine i) | rotate_left); (try omega); (try omega))
    rw [wrapI64 (by omega)]; rfl
  ·(repeat' (first|refine l_nil (h:=?_)|refine n_then (h:=?_)|refine l_pures1 (h:=?_)|(refine l_atc ?_; refine l_call (ContainsS_does vals p2 c2 (by omega) g3) ?_)|(refine l_atc ?_; refine l_call (ContainsI_does kids p3 c3 (by omega) g4) ?_)|refine l_guard_yes (h:=?_)|refine l_load (h:=?_)|refine g_ret (h:=?_)))
   (refine n_shut (A := Nds ⟨leaf, keys, vals, kids⟩ ⟨p1, c1, p2, c2, p3, c3⟩) (K := NdsK ⟨leaf, keys, vals, kids⟩ ⟨p1, c1, p2, c2, p3, c3⟩ (())) (hid_shuts (()) trivial) (h:=?_) (p := by dsimp only [NdsK]; (try simp only [List.map_nil, List.length_nil, List.length_set, List.length_append, List.length_cons, List.length_singleton, List.map_append, List.map_cons, Nat.zero_add]); exact parts_of))
   refine r_retk [Nds ⟨leaf, keys, vals, kids⟩ ⟨p1, c1, p2, c2, p3, c3⟩] ?_
   exact ⟨rfl, rfl⟩
 ·rfl
 ·(intro _ i; exact inv_keep parts_of i)
set_option maxHeartbeats 2000000 in
theorem plain_does (d : Nd) (r : Rw) (hd : d.plain) (hf : d.fits) : Does Tryz.prog 161 [ndV d r] [Nds d r] (fun v H => v = .bool true ∧ H = [Nds d r]) := by
 obtain ⟨g1, g2, g3, g4, g5, g6⟩ := hd
 obtain ⟨f1, f2, f3, f4⟩ := hf
 have tail := fun b => plain_tail d r b g1 f1 f2 f3 g3 g4
 obtain ⟨leaf, keys, vals, kids⟩ := d
 obtain ⟨p1, c1, p2, c2, p3, c3⟩ := r
 dsimp only at g1 g2 g3 g4 g5 g6 f1 f2 f3 f4
 cases leaf
 ·simp only [Bool.false_eq_true, if_false] at g5 g6
  have e1 : IntKind.i64.wrap ((keys.length : Int) + 1) = (kids.length : Int) := by rw [wrapI64 (by omega)]; omega
  have e2 : (vals.length : Int) = 0 := by omega
  refine does_of Tryz.func161 Tryz.ntmps161 rfl rfl rfl (fun w0 F0 => ?_)
  (repeat' (first|refine g_seq (h:=?_)|refine g_region (h:=?_)|refine l_nil (h:=?_)|refine n_then (h:=?_)|refine l_pures1 (h:=?_)|refine l_load (h:=?_)|(refine l_box (h:=?_); intro _)|refine g_cond_t (h:=?_)))
  (refine g_draw [cl _ _ _] (h := a_pass2 (h:=?_)))
  (repeat' (first|((with_reducible show G _ _ _ _ (Code.seq (Code.seq (Code.region 6 _ _) _) _) _ _ _ _); exact g_bang (tail _ w0 F0))|refine g_seq (h:=?_)|refine g_region (h:=?_)|refine l_nil (h:=?_)|refine n_then (h:=?_)|refine l_pures1 (h:=?_)|refine l_guard_yes (h:=?_)|refine l_load (h:=?_)|refine g_skip (h:=?_)|refine a_done (h:=?_)|refine a_load (h := a_pass2 (h:=?_))|(refine l_spF (h:=?_); intro h)|(refine g_spF (h:=?_); intro h)))
 ·simp only [if_true] at g5 g6
  have e1 : (vals.length : Int) = keys.length := by omega
  have e2 : (kids.length : Int) = 0 := by omega
  refine does_of Tryz.func161 Tryz.ntmps161 rfl rfl rfl (fun w0 F0 => ?_)
  (repeat' (first|((with_reducible show G _ _ _ _ (Code.seq (Code.seq (Code.region 6 _ _) _) _) _ _ _ _); exact g_bang (tail _ w0 F0))|refine g_seq (h:=?_)|refine g_region (h:=?_)|refine l_nil (h:=?_)|refine n_then (h:=?_)|refine l_pures1 (h:=?_)|refine l_guard_yes (h:=?_)|refine l_load (h:=?_)|(refine l_box (h:=?_); intro _)|refine g_skip (h:=?_)|refine g_cond_f (h:=?_)|(refine l_spF (h:=?_); intro h)|(refine g_spF (h:=?_); intro h)))
theorem Right_does (d : Nd) (r : Rw) (hd : d.good) : Does Tryz.prog 152 [ndV d r] [Nds d r] (fun v H => v = .bool true ∧ H = [Nds d r]) := by
 have hf := hd.fits
 have hs := hd.size
 have h1 := hd.some
 have hp := plain_does d r hd.p hf
 have hz := ndSize_does d r hf
 have hk := hf.k
 obtain ⟨leaf, keys, vals, kids⟩ := d
 dsimp only at h1 hk
 cases leaf
 ·refine does_of Tryz.func152 Tryz.ntmps152 rfl rfl rfl (fun w0 F0 => ?_)
  (repeat' (first|refine g_seq (h:=?_)|refine g_region (h:=?_)|refine l_nil (h:=?_)|refine n_then (h:=?_)|refine l_pures1 (h:=?_)|(refine l_atc ?_; refine l_call (hp) ?_)|(refine l_atc ?_; refine l_call (hz) ?_)|refine l_guard_yes (h:=?_)|refine l_guard_no (h:=?_)|refine l_load (h:=?_)|(refine l_box (h:=?_); intro _)|refine g_ret (h:=?_)))
  refine r_retk [Nds ⟨false, keys, vals, kids⟩ r] ?_
  exact ⟨by rw [decide_eq_true (by omega)]; rfl, rfl⟩
 ·have h2 := h1 rfl
  refine does_of Tryz.func152 Tryz.ntmps152 rfl rfl rfl (fun w0 F0 => ?_)
  (repeat' (first|refine g_seq (h:=?_)|refine g_region (h:=?_)|refine l_nil (h:=?_)|refine n_then (h:=?_)|refine l_pures1 (h:=?_)|(refine l_atc ?_; refine l_call (hp) ?_)|(refine l_atc ?_; refine l_call (hz) ?_)|refine l_guard_yes (h:=?_)|refine l_load (h:=?_)|(refine l_box (h:=?_); intro _)|refine g_ret (h:=?_)|(refine l_spT (h:=?_); intro h)))
  refine r_retk [Nds ⟨true, keys, vals, kids⟩ r] ?_
  exact ⟨by rw [decide_eq_true (by omega)]; rfl, rfl⟩
end Go.Proofs.YtelfjhemnnbbpaaGreat
set_option maxRecDepth 20000
namespace Go.Proofs.YtelfjhemnnbbpaaGreat
open Go.Proofs.YtelfjhemnnbbpaaGreat.SL
theorem numTake_put {n s : Nat} {r : List UInt8} (hs : 1 ≤ s ∧ s ≤ 8) (hn : n < 256 ^ s) : numTake (putN n s ++ r) s = (n, r, 0) := by
 have hl := putN_length s n
 rw [numTake, if_neg (by omega), if_neg (by rw [List.length_append, hl]; omega), Int.toNat_natCast, List.take_left' hl, List.drop_left' hl, getN_putN s n hn]
theorem rdNumber_does (rb n s : Nat) (r : List UInt8) (bad : Bool) (hs : 1 ≤ s ∧ s ≤ 8) (hn : n < 256 ^ s) (hr : r.length < 1000000) : Does Tryz.prog 150 [.pointer (some ⟨rb, 0, none⟩), .int .i64 s] [cl rb 249 [.string (str (putN n s ++ r)), .bool bad]]
  (fun v H => v = .int .u64 n ∧ H = [cl rb 249 [.string (str r), .bool bad]]) := by
 have hl := putN_length s n
 have ht := Take_does (putN n s ++ r) s (by omega) (by rw [List.length_append, hl]; omega)
 rw [numTake_put hs hn] at ht
 refine does_of Tryz.func150 Tryz.ntmps150 rfl rfl rfl (fun w0 F0 => ?_)
 cases bad
 ·(repeat' (first|refine g_seq (h:=?_)|refine g_region (h:=?_)|refine l_nil (h:=?_)|refine n_then (h:=?_)|refine l_pures1 (h:=?_)|(refine l_atc ?_; refine l_call (ht) ?_)|refine l_guard_yes (h:=?_)|refine l_load (h:=?_)|refine l_store (h:=?_)|refine g_ret (h:=?_)))
  refine r_ret ?_
  exact ⟨rfl, rfl⟩
 ·(repeat' (first|refine g_seq (h:=?_)|refine g_region (h:=?_)|refine l_nil (h:=?_)|refine n_then (h:=?_)|refine l_pures1 (h:=?_)|(refine l_atc ?_; refine l_call (ht) ?_)|refine l_guard_no (h:=?_)|refine l_load (h:=?_)|refine l_store (h:=?_)|refine g_ret (h:=?_)))
  refine r_ret ?_
  exact ⟨rfl, rfl⟩
theorem rdText_does (rb : Nat) (s r : List UInt8) (bad : Bool) (hs : s.length ≤ 255) (hr : r.length < 1000000) : Does Tryz.prog 151 [.pointer (some ⟨rb, 0, none⟩)] [cl rb 249 [.string (str (UInt8.ofNat s.length :: (s ++ r))), .bool bad]]
  (fun v H => v = .string (str s) ∧ H = [cl rb 249 [.string (str r), .bool bad]]) := by
 have ht := TakeText_does s r hs hr
 refine does_of Tryz.func151 Tryz.ntmps151 rfl rfl rfl (fun w0 F0 => ?_)
 cases bad
 ·(repeat' (first|refine g_seq (h:=?_)|refine g_region (h:=?_)|refine l_nil (h:=?_)|refine n_then (h:=?_)|refine l_pures1 (h:=?_)|(refine l_atc ?_; refine l_call (ht) ?_)|refine l_guard_yes (h:=?_)|refine l_load (h:=?_)|refine l_store (h:=?_)|refine g_ret (h:=?_)))
  refine r_ret ?_
  exact ⟨rfl, rfl⟩
 ·(repeat' (first|refine g_seq (h:=?_)|refine g_region (h:=?_)|refine l_nil (h:=?_)|refine n_then (h:=?_)|refine l_pures1 (h:=?_)|(refine l_atc ?_; refine l_call (ht) ?_)|refine l_guard_no (h:=?_)|refine l_load (h:=?_)|refine l_store (h:=?_)|refine g_ret (h:=?_)))
  refine r_ret ?_
  exact ⟨rfl, rfl⟩
theorem encNumber_does (b n s : Nat) (l : List UInt8) (hs : 1 ≤ s ∧ s ≤ 8) (hn : n < 256 ^ s) (hl : l.length < 100000) : Does Tryz.prog 155 [.int .u64 n, .int .i64 s, .pointer (some ⟨b, 0, none⟩)] [Bld b l] (fun v H => v = .tuple #[] ∧ H = [Bld b (l ++ putN n s)]) := by
 have h8 : (256 : Nat) ^ s ≤ 256 ^ 8 := Nat.pow_le_pow_right (by omega) hs.2
 have hp := Put_does n s (by omega) (by omega)
 have e : numPut n s = (putN n s, 0) := by rw [numPut, if_neg (by omega), Int.toNat_natCast, if_pos hn]
 rw [e] at hp
 have hw := bWriteString_does b l (putN n s) (by rw [putN_length]; omega)
 refine does_of Tryz.func155 Tryz.ntmps155 rfl rfl rfl (fun w0 F0 => ?_)
 (repeat' (first|refine g_seq (h:=?_)|refine g_region (h:=?_)|refine l_nil (h:=?_)|refine n_then (h:=?_)|refine l_pures1 (h:=?_)|(refine l_atc ?_; refine l_call (hp) ?_)|(refine l_atc ?_; refine l_call_ (hw) ?_; rintro _ _ _ ⟨_, rfl⟩ he; cases he)))
 refine r_end ?_
 exact ⟨rfl, rfl⟩
theorem encNum2 (b n : Nat) (l : List UInt8) (hn : n < 256 ^ 2) (hl : l.length < 100000) : Does Tryz.prog 155 [.int .u64 n, .int .i64 2, .pointer (some ⟨b, 0, none⟩)] [Bld b l] (fun v H => v = .tuple #[] ∧ H = [Bld b (l ++ putN n 2)]) := encNumber_does b n 2 l (by omega) hn hl
theorem encNum8 (b n : Nat) (l : List UInt8) (hn : n < 256 ^ 8) (hl : l.length < 100000) : Does Tryz.prog 155 [.int .u64 n, .int .i64 8, .pointer (some ⟨b, 0, none⟩)] [Bld b l] (fun v H => v = .tuple #[] ∧ H = [Bld b (l ++ putN n 8)]) := encNumber_does b n 8 l (by omega) hn hl
theorem rdNum1 (rb n : Nat) (r : List UInt8) (bad : Bool) (hn : n < 256 ^ 1) (hr : r.length < 1000000) : Does Tryz.prog 150 [.pointer (some ⟨rb, 0, none⟩), .int .i64 1] [cl rb 249 [.string (str (putN n 1 ++ r)), .bool bad]]
  (fun v H => v = .int .u64 n ∧ H = [cl rb 249 [.string (str r), .bool bad]]) := rdNumber_does rb n 1 r bad (by omega) hn hr
theorem rdNum2 (rb n : Nat) (r : List UInt8) (bad : Bool) (hn : n < 256 ^ 2) (hr : r.length < 1000000) : Does Tryz.prog 150 [.pointer (some ⟨rb, 0, none⟩), .int .i64 2] [cl rb 249 [.string (str (putN n 2 ++ r)), .bool bad]]
  (fun v H => v = .int .u64 n ∧ H = [cl rb 249 [.string (str r), .bool bad]]) := rdNumber_does rb n 2 r bad (by omega) hn hr
theorem rdNum8 (rb n : Nat) (r : List UInt8) (bad : Bool) (hn : n < 256 ^ 8) (hr : r.length < 1000000) : Does Tryz.prog 150 [.pointer (some ⟨rb, 0, none⟩), .int .i64 8] [cl rb 249 [.string (str (putN n 8 ++ r)), .bool bad]]
  (fun v H => v = .int .u64 n ∧ H = [cl rb 249 [.string (str r), .bool bad]]) := rdNumber_does rb n 8 r bad (by omega) hn hr
theorem kid_lt {i : Int} (h : 2 ≤ i ∧ i < 640) : i.toNat < 256 ^ 2 := by omega
theorem wrapKid {i : Int} (h : 2 ≤ i ∧ i < 640) : IntKind.u64.wrap i = ((i.toNat : Nat) : Int) := by rw [IntKind.wrap_u64]; omega
set_option maxHeartbeats 2000000 in
theorem Encode_does (d : Nd) (r : Rw) (hd : d.good) : Does Tryz.prog 144 [ndV d r] [Nds d r] (fun v H => v = .tuple #[.string (str d.text), .int .i64 0] ∧ H = [Nds d r]) := by
 have hf := hd.fits
 have hR := Right_does d r hd
 have hs := hd.size
 have htl := d.text_len hd.p
 have hpl : ∀ j, j ≤ d.keys.length → d.headT.length + (d.partT 0 j).length ≤ 240 := by
  intro j hj
  have h1 := Nd.partT_len hj (fun hl => valsLen hd.p hl)
  have h2 := Nd.partT_len (Nat.le_refl d.keys.length) (fun hl => valsLen hd.p hl)
  rw [Nd.text, List.length_append] at htl
  have h3 := sumL_take_le d.vals j
  have h4 : d.leaf = true → d.vals.take d.keys.length = d.vals := fun hl => by rw [← valsLen hd.p hl, List.take_length]
  cases hl : d.leaf
  ·simp only [hl, Bool.false_eq_true, if_false] at h1 h2; omega
  ·rw [h4 hl] at h2
   simp only [hl, if_true] at h1 h2; omega
 have htx : d.text = d.headT ++ d.partT 0 d.keys.length := rfl
 have hsn := d.partT_snoc
 have hpn : d.partT 0 0 = [] := rfl
 have hent : d.entT = fun i => putN (d.keys.getD i 0) 8 ++ if d.leaf then UInt8.ofNat (d.vals.getD i []).length :: d.vals.getD i [] else putN (d.kids.getD (i + 1) 0).toNat 2 := rfl
 have hhead : d.headT = if d.leaf then [1] else 2 :: putN (d.kids.getD 0 0).toNat 2 := rfl
 generalize d.headT = hd0 at *
 generalize d.text = tx at *
 obtain ⟨⟨g1, g2, g3, g4, g5, g6⟩, g7, g8⟩ := hd
 obtain ⟨f1, f2, f3, f4⟩ := hf
 generalize hpt : d.partT = pt at *
 generalize d.entT = en at *
 clear hpt
 obtain ⟨leaf, keys, vals, kids⟩ := d
 obtain ⟨p1, c1, p2, c2, p3, c3⟩ := r
 dsimp only at g1 g2 g3 g4 g5 g6 g7 f1 f2 f3 f4 hpl htx hsn hent hhead
 have hw1 : ∀ b, Does Tryz.prog 156 [.pointer (some ⟨b, 0, none⟩), .int .u8 1] [Bld b []] (fun v H => (∃ x, v = x) ∧ H = [Bld b ([] ++ [1])]) := fun b => bWriteByte_does b [] 1 (by simp)
 have hw2 : ∀ b, Does Tryz.prog 156 [.pointer (some ⟨b, 0, none⟩), .int .u8 2] [Bld b []] (fun v H => (∃ x, v = x) ∧ H = [Bld b ([] ++ [2])]) := fun b => bWriteByte_does b [] 2 (by simp)
 have hp0 : pt 0 0 = [] := hpn
 cases leaf
 ·simp only [Bool.false_eq_true, if_false] at g5 g6 hhead hent
  have hk0 : 2 ≤ kids.getD 0 0 ∧ kids.getD 0 0 < 640 := g4 _ (getD_mem (by omega))
  refine does_of Tryz.func144 Tryz.ntmps144 rfl rfl rfl (fun w0 F0 => ?_)
  (repeat' (first|refine g_seq (h:=?_)|refine g_region (h:=?_)|refine l_nil (h:=?_)|refine n_then (h:=?_)|refine l_pures1 (h:=?_)|(refine l_atc ?_; refine l_call (hR) ?_)|refine l_load (h:=?_)|(refine l_box (h:=?_); intro _)|(refine l_alloc (h:=?_); intro _)|refine g_skip (h:=?_)|refine g_cond_f (h:=?_)))
  rename_i b1 b2
  refine l_inv (fun i => vec_nil (5) (1) i) ?_
  (refine l_shut (A := Bld b2 []) (K := BldK b2 [] (((none : Option Addr), (none : Option Addr), 0))) (hid_shuts (((none : Option Addr), (none : Option Addr), 0)) (Or.inl rfl)) (h:=?_) (p := by dsimp only [BldK]; (try simp only [List.map_nil, List.length_nil, List.length_set, List.length_append, List.length_cons, List.length_singleton, List.map_append, List.map_cons, Nat.zero_add, bsV]); exact parts_of))
  refine l_open (A := Nds ⟨false, keys, vals, kids⟩ ⟨p1, c1, p2, c2, p3, c3⟩) (h:=?_); (rintro _ _; dsimp only [NdsK, List.cons_append, List.nil_append])
  refine l_ptr (m := kids.length) (h:=?_); rintro g rfl hc
  have hg0 : (kids.map encZ')[0 + Int.toNat 0 * 1]? = some (.int .i64 (kids.getD 0 0)) := iGet (k := 0) (by omega)
  (repeat' (first|refine g_region (h:=?_)|refine l_nil (h:=?_)|refine n_then (h:=?_)|refine l_pures1 (h:=?_)|(refine l_atc ?_; refine l_call_ (hw2 _) ?_; rintro _ _ _ ⟨_, rfl⟩ he; cases he)|refine l_load (h:=?_)|refine l_indexAddr (h:=?_)|refine l_load_vec (h:=?_)))
  rw [wrapKid hk0]
  (repeat' (first|refine g_seq (h:=?_)|refine g_region (h:=?_)|refine l_nil (h:=?_)|refine n_then (h:=?_)|refine l_pures1 (h:=?_)|(refine l_atc ?_; refine l_call (encNum2 b2 (kids.getD 0 0).toNat ([] ++ [2]) (kid_lt hk0) (by simp)) ?_)|refine l_load (h:=?_)|refine g_block (h:=?_)))
  rw [show [] ++ [2] ++ putN (kids.getD 0 0).toNat 2 = hd0 from by rw [hhead]; rfl]
  (refine g_loop (fun j : Nat => [(28, .int .i64 j), (27, .int .i64 keys.length), (26, .slice p1 keys.length c1), (1, .pointer (some ⟨b1, 0, none⟩)), (4, .pointer (some ⟨b2, 0, none⟩)), (5, .func (.func 155) #[] #[.pointer (some ⟨b2, 0, none⟩)])]) (fun j => Bld b2 (hd0 ++ pt 0 j) :: cl b1 175 [.bool false, .slice p1 keys.length c1, .slice p2 vals.length c2, .slice (some ⟨g, 0, none⟩) kids.length c3] :: NdsK ⟨false, keys, vals, kids⟩ ⟨p1, c1, p2, c2, some ⟨g, 0, none⟩, c3⟩ ()) (fun j => j ≤ keys.length) (fun j => keys.length - j) (0) ?_ ?_ ?_ ?_; rotate_left; (repeat (first | refine ts_nil | (refine ts_cons rfl ?_ ?_; first | (with_reducible rfl) | rotate_left))); (first | (intro _ i; with_reducible refine i) | rotate_left); rotate_left; (try omega); rotate_right)
  ·intro j hj
   dsimp only [NdsK]
   have hpj := hpl j hj
   (repeat' (first|refine g_seq (h:=?_)|refine g_region (h:=?_)|refine l_nil (h:=?_)|refine n_then (h:=?_)|refine l_pures1 (h:=?_)|refine g_skip (h:=?_)|refine g_block (h:=?_)|refine g_exit (h:=?_)|refine n_then_exit (h:=?_)|refine n_block_hit (h:=?_)|(refine g_sp (h1 := ?_) (h0 := ?_) <;> intro h)))
   ·have hlt : j < keys.length := by omega
    refine l_ptr (m := keys.length) (h:=?_); rintro g1' rfl hc1
    have hg := uGet hlt
    have hgk := iGet (l := kids) (k := j + 1) (by omega)
    have hk := g4 _ (getD_mem (l := kids) (i := j + 1) (z := 0) (by omega))
    have hkey := g2 _ (getD_mem (l := keys) (i := j) (z := 0) hlt)
    have ew : IntKind.i64.wrap ((j : Int) + 1) = ((j + 1 : Nat) : Int) := by rw [wrapI64 (by omega)]; rfl
    (repeat' (first|refine g_seq (h:=?_)|refine g_region (h:=?_)|refine l_nil (h:=?_)|refine n_then (h:=?_)|refine l_pures1 (h:=?_)|(refine l_atc ?_; refine l_call (encNum8 b2 (keys.getD j 0) (hd0 ++ pt 0 j) (by omega) (by rw [List.length_append]; omega)) ?_)|refine l_load (h:=?_)|refine l_indexAddr (h:=?_)|refine g_skip (h:=?_)|refine g_cond_f (h:=?_)|refine l_load_vec (h:=?_)))
    rw [ew]
    (repeat' (first|refine l_pures1 (h:=?_)|refine l_load_vec (h:=?_)))
    rw [wrapKid hk]
    (repeat' (first|refine g_region (h:=?_)|refine l_nil (h:=?_)|refine n_then (h:=?_)|refine l_pures1 (h:=?_)|(refine l_atc ?_; refine l_call (encNum2 b2 (kids.getD (j + 1) 0).toNat (hd0 ++ pt 0 j ++ putN (keys.getD j 0) 8) (kid_lt hk) (by rw [List.length_append, List.length_append, putN_length]; omega)) ?_)|refine n_block (h:=?_)))
    have e2 : hd0 ++ pt 0 j ++ putN (keys.getD j 0) 8 ++ putN (kids.getD (j + 1) 0).toNat 2 = hd0 ++ pt 0 (j + 1) := by rw [hsn, hent]; simp
    rw [e2]
    (refine n_back (j + 1) ?_ ?_ ?_ ?_; rotate_left; rotate_left; (repeat (first | refine ts_nil | (refine ts_cons rfl ?_ ?_; first | (with_reducible rfl) | rotate_left))); (first | (intro _ i; with_reducible refine i) | rotate_left); (try omega); (try omega))
    ·rw [ew]
    all_goals (intro _ i; exact inv_keep parts_of i)
   ·obtain rfl : j = keys.length := by omega
    (repeat' (first|refine l_nil (h:=?_)|refine n_then (h:=?_)|refine l_pures1 (h:=?_)|(refine l_atc ?_; refine l_call (bString_does b2 (hd0 ++ pt 0 keys.length) (by rw [hhead]; simp)) ?_)|refine g_ret (h:=?_)))
    (refine n_shut (A := Nds ⟨false, keys, vals, kids⟩ ⟨p1, c1, p2, c2, some ⟨g, 0, none⟩, c3⟩) (K := NdsK ⟨false, keys, vals, kids⟩ ⟨p1, c1, p2, c2, some ⟨g, 0, none⟩, c3⟩ (())) (hid_shuts (()) trivial) (h:=?_) (p := by dsimp only [NdsK]; (try simp only [List.map_nil, List.length_nil, List.length_set, List.length_append, List.length_cons, List.length_singleton, List.map_append, List.map_cons, Nat.zero_add]); exact parts_of))
    refine r_retk [Nds ⟨false, keys, vals, kids⟩ ⟨p1, c1, p2, c2, some ⟨g, 0, none⟩, c3⟩] ?_
    exact ⟨by rw [htx]; rfl, rfl⟩
  ·rfl
  ·rw [hp0, List.append_nil]
   (intro _ i; exact inv_keep parts_of i)
 ·simp only [if_true] at g5 g6 hhead hent
  refine does_of Tryz.func144 Tryz.ntmps144 rfl rfl rfl (fun w0 F0 => ?_)
  (repeat' (first|refine g_seq (h:=?_)|refine g_region (h:=?_)|refine l_nil (h:=?_)|refine n_then (h:=?_)|refine l_pures1 (h:=?_)|(refine l_atc ?_; refine l_call (hR) ?_)|refine l_load (h:=?_)|(refine l_box (h:=?_); intro _)|(refine l_alloc (h:=?_); intro _)|refine g_skip (h:=?_)|refine g_cond_t (h:=?_)|refine g_cond_f (h:=?_)))
  rename_i b1 b2
  refine l_inv (fun i => vec_nil (5) (1) i) ?_
  (refine l_shut (A := Bld b2 []) (K := BldK b2 [] (((none : Option Addr), (none : Option Addr), 0))) (hid_shuts (((none : Option Addr), (none : Option Addr), 0)) (Or.inl rfl)) (h:=?_) (p := by dsimp only [BldK]; (try simp only [List.map_nil, List.length_nil, List.length_set, List.length_append, List.length_cons, List.length_singleton, List.map_append, List.map_cons, Nat.zero_add, bsV]); exact parts_of))
  refine l_open (A := Nds ⟨true, keys, vals, kids⟩ ⟨p1, c1, p2, c2, p3, c3⟩) (h:=?_); (rintro _ _; dsimp only [NdsK, List.cons_append, List.nil_append])
  (repeat' (first|refine g_seq (h:=?_)|refine g_region (h:=?_)|refine l_nil (h:=?_)|refine n_then (h:=?_)|refine l_pures1 (h:=?_)|(refine l_atc ?_; refine l_call_ (hw1 _) ?_; rintro _ _ _ ⟨_, rfl⟩ he; cases he)|refine l_load (h:=?_)|refine g_block (h:=?_)))
  rw [show ([] : List UInt8) ++ [1] = hd0 from by rw [hhead]; rfl]
  (refine g_loop (fun j : Nat => [(28, .int .i64 j), (27, .int .i64 keys.length), (26, .slice p1 keys.length c1), (1, .pointer (some ⟨b1, 0, none⟩)), (4, .pointer (some ⟨b2, 0, none⟩)), (5, .func (.func 155) #[] #[.pointer (some ⟨b2, 0, none⟩)])]) (fun j => Bld b2 (hd0 ++ pt 0 j) :: cl b1 175 [.bool true, .slice p1 keys.length c1, .slice p2 vals.length c2, .slice p3 kids.length c3] :: NdsK ⟨true, keys, vals, kids⟩ ⟨p1, c1, p2, c2, p3, c3⟩ ()) (fun j => j ≤ keys.length) (fun j => keys.length - j) (0) ?_ ?_ ?_ ?_; rotate_left; (repeat (first | refine ts_nil | (refine ts_cons rfl ?_ ?_; first | (with_reducible rfl) | rotate_left))); (first | (intro _ i; with_reducible refine i) | rotate_left); rotate_left; (try omega); rotate_right)
  ·intro j hj
   dsimp only [NdsK]
   have hpj := hpl j hj
   (repeat' (first|refine g_seq (h:=?_)|refine g_region (h:=?_)|refine l_nil (h:=?_)|refine n_then (h:=?_)|refine l_pures1 (h:=?_)|refine g_skip (h:=?_)|refine g_block (h:=?_)|refine g_exit (h:=?_)|refine n_then_exit (h:=?_)|refine n_block_hit (h:=?_)|(refine g_sp (h1 := ?_) (h0 := ?_) <;> intro h)))
   ·have hlt : j < keys.length := by omega
    refine l_ptr (m := keys.length) (h:=?_); rintro g1' rfl hc1
    refine l_ptr (m := vals.length) (h:=?_); rintro g2' rfl hc2
    have hg := uGet hlt
    have hgv := sGet (l := vals) (k := j) (by omega)
    have hv := g3 _ (getD_mem (l := vals) (i := j) (z := []) (by omega))
    have hkey := g2 _ (getD_mem (l := keys) (i := j) (z := 0) hlt)
    have ew : IntKind.i64.wrap ((j : Int) + 1) = ((j + 1 : Nat) : Int) := by rw [wrapI64 (by omega)]; rfl
    (repeat' (first|refine g_seq (h:=?_)|refine g_region (h:=?_)|refine l_nil (h:=?_)|refine n_then (h:=?_)|refine l_pures1 (h:=?_)|(refine l_atc ?_; refine l_call (encNum8 b2 (keys.getD j 0) (hd0 ++ pt 0 j) (by omega) (by rw [List.length_append]; omega)) ?_)|(refine l_atc ?_; refine l_call (Text_does (vals.getD j []) (by omega)) ?_)|(refine l_atc ?_; refine l_call_ (bWriteString_does b2 (hd0 ++ pt 0 j ++ putN (keys.getD j 0) 8) (UInt8.ofNat (vals.getD j []).length :: vals.getD j []) (by rw [List.length_append, List.length_append, putN_length, List.length_cons]; omega)) ?_; rintro _ _ _ ⟨_, rfl⟩ he; cases he)|refine l_load (h:=?_)|refine l_indexAddr (h:=?_)|refine g_exit (h:=?_)|refine n_then_exit (h:=?_)|refine n_block_hit (h:=?_)|refine g_cond_t (h:=?_)|refine l_load_vec (h:=?_)))
    have e2 : hd0 ++ pt 0 j ++ putN (keys.getD j 0) 8 ++ UInt8.ofNat (vals.getD j []).length :: vals.getD j [] = hd0 ++ pt 0 (j + 1) := by rw [hsn, hent]; simp
    rw [e2]
    (refine n_back (j + 1) ?_ ?_ ?_ ?_; rotate_left; rotate_left; (repeat (first | refine ts_nil | (refine ts_cons rfl ?_ ?_; first | (with_reducible rfl) | rotate_left))); (first | (intro _ i; with_reducible refine i) | rotate_left); (try omega); (try omega))
    ·rw [ew]
    all_goals (intro _ i; exact inv_keep parts_of i)
   ·obtain rfl : j = keys.length := by omega
    (repeat' (first|refine l_nil (h:=?_)|refine n_then (h:=?_)|refine l_pures1 (h:=?_)|(refine l_atc ?_; refine l_call (bString_does b2 (hd0 ++ pt 0 keys.length) (by rw [hhead]; simp)) ?_)|refine g_ret (h:=?_)))
    (refine n_shut (A := Nds ⟨true, keys, vals, kids⟩ ⟨p1, c1, p2, c2, p3, c3⟩) (K := NdsK ⟨true, keys, vals, kids⟩ ⟨p1, c1, p2, c2, p3, c3⟩ (())) (hid_shuts (()) trivial) (h:=?_) (p := by dsimp only [NdsK]; (try simp only [List.map_nil, List.length_nil, List.length_set, List.length_append, List.length_cons, List.length_singleton, List.map_append, List.map_cons, Nat.zero_add]); exact parts_of))
    refine r_retk [Nds ⟨true, keys, vals, kids⟩ ⟨p1, c1, p2, c2, p3, c3⟩] ?_
    exact ⟨by rw [htx]; rfl, rfl⟩
  ·rfl
  ·rw [hp0, List.append_nil]
   (intro _ i; exact inv_keep parts_of i)
end Go.Proofs.YtelfjhemnnbbpaaGreat
set_option maxRecDepth 20000
namespace Go.Proofs.YtelfjhemnnbbpaaGreat
open Go.Proofs.YtelfjhemnnbbpaaGreat.SL
theorem uV_snoc {l : List Nat} {j : Nat} (h : j < l.length) : uV (l.take j) ++ [Value.int .u64 (l.getD j 0 : Nat)] = uV (l.take (j + 1)) := by
 rw [List.take_succ_eq_append_getElem h, uV, uV, List.map_append]; simp [List.getD, h]
theorem encS_snoc {l : List (List UInt8)} {j : Nat} (h : j < l.length) : (l.take j).map encS ++ [Value.string (str (l.getD j []))] = (l.take (j + 1)).map encS := by
 rw [List.take_succ_eq_append_getElem h, List.map_append]; simp [encS, List.getD, h]
theorem encZ_snoc {l : List Int} {j : Nat} (h : j < l.length) : (l.take j).map encZ' ++ [Value.int .i64 (l.getD j 0)] = (l.take (j + 1)).map encZ' := by
 rw [List.take_succ_eq_append_getElem h, List.map_append]; simp [encZ', List.getD, h]
theorem wrapKid2 {i : Int} (h : 2 ≤ i ∧ i < 640) : IntKind.i64.wrap ((i.toNat : Nat) : Int) = i := by rw [wrapI64 (by omega)]; omega
theorem put_ne (n s : Nat) (r : List UInt8) : ((putN n (s + 1) ++ r) == []) = false := by
 have : (putN n (s + 1) ++ r) ≠ [] := by
  intro q; have := congrArg List.length q; rw [List.length_append, putN_length] at this; simp at this
 simpa using this
set_option maxHeartbeats 4000000 in
theorem DecodeL_does (keys : List Nat) (vals : List (List UInt8)) (hd : Nd.good ⟨true, keys, vals, []⟩) : Does Tryz.prog 141 [.string (str (Nd.text ⟨true, keys, vals, []⟩))] [] (fun v H => ∃ r, v = .tuple #[ndV ⟨true, keys, vals, []⟩ r, .int .i64 0] ∧ H = [Nds ⟨true, keys, vals, []⟩ r]) := by
 have hf := hd.fits
 have hR := fun r => Right_does ⟨true, keys, vals, []⟩ r hd
 have hs := hd.size
 have htl := Nd.text_len hd.p
 have htx : Nd.text ⟨true, keys, vals, []⟩ = putN 1 1 ++ Nd.partT ⟨true, keys, vals, []⟩ 0 keys.length := rfl
 have hcons := Nd.partT_cons ⟨true, keys, vals, []⟩
 have hent : Nd.entT ⟨true, keys, vals, []⟩ = fun i => putN (keys.getD i 0) 8 ++ UInt8.ofNat (vals.getD i []).length :: vals.getD i [] := rfl
 have hvl := valsLen hd.p rfl
 have hpl : ∀ j, j ≤ keys.length → (Nd.partT ⟨true, keys, vals, []⟩ j (keys.length - j)).length ≤ 1000 := by
  intro j hj
  have h2 : Nd.partT ⟨true, keys, vals, []⟩ 0 keys.length = Nd.partT ⟨true, keys, vals, []⟩ 0 j ++ Nd.partT ⟨true, keys, vals, []⟩ j (keys.length - j) := by
   rw [Nd.partT, Nd.partT, Nd.partT, ← List.flatMap_append]
   congr 1
   have := List.range'_append_1 (s := 0) (m := j) (n := keys.length - j)
   rw [Nat.zero_add, show j + (keys.length - j) = keys.length by omega] at this
   exact this.symm
  rw [htx, List.length_append, h2, List.length_append] at htl
  omega
 obtain ⟨⟨g1, g2, g3, g4, g5, g6⟩, g7, g8⟩ := hd
 obtain ⟨f1, f2, f3, f4⟩ := hf
 dsimp only at g1 g2 g3 g4 g5 g6 g7 f1 f2 f3 f4 hvl
 generalize Nd.text ⟨true, keys, vals, []⟩ = tx at *
 generalize Nd.entT ⟨true, keys, vals, []⟩ = en at *
 have hpz : Nd.partT ⟨true, keys, vals, []⟩ keys.length 0 = [] := rfl
 generalize Nd.partT ⟨true, keys, vals, []⟩ = pt at *
 rw [htx]
 have hr1 : ∀ rb, Does Tryz.prog 150 [.pointer (some ⟨rb, 0, none⟩), .int .i64 1] [cl rb 249 [.string (str (putN 1 1 ++ pt 0 keys.length)), .bool false]]
  (fun v H => v = .int .u64 1 ∧ H = [cl rb 249 [.string (str (pt 0 keys.length)), .bool false]]) := fun rb => rdNum1 rb 1 _ false (by omega) (by have := hpl 0 (Nat.zero_le _); rw [Nat.sub_zero] at this; omega)
 refine does_of Tryz.func141 Tryz.ntmps141 rfl rfl rfl (fun w0 F0 => ?_)
 (repeat' (first|refine g_seq (h:=?_)|refine g_region (h:=?_)|refine l_nil (h:=?_)|refine n_then (h:=?_)|refine l_pures1 (h:=?_)|(refine l_atc ?_; refine l_call (hr1 _) ?_)|refine l_guard_yes (h:=?_)|refine l_guard_no (h:=?_)|refine l_load (h:=?_)|refine l_store (h:=?_)|(refine l_box (h:=?_); intro _)|(refine l_alloc (h:=?_); intro _)|refine g_skip (h:=?_)|refine g_block (h:=?_)|refine g_cond_f (h:=?_)))
 rename_i rs rb nb
 rw [show ((1 : Int) == 1) = true from rfl]
 refine g_inv (fun i => vec_nil (78) (1) i) ?_
 refine g_inv (fun i => vec_nil (9) (1) i) ?_
 refine g_inv (fun i => vec_nil (3) (1) i) ?_
 (refine g_loop (fun y : Nat × Rw => [(4, .pointer (some ⟨rb, 0, none⟩)), (6, .pointer (some ⟨nb, 0, none⟩)), (2, .pointer (some ⟨rs, 0, none⟩))]) (fun y => [cl nb 175 [.bool true, .slice y.2.p1 y.1 y.2.c1, .slice y.2.p2 y.1 y.2.c2, .slice none 0 0], cl rb 249 [.string (str (pt y.1 (keys.length - y.1))), .bool false], cl rs 175 [.bool false, .slice none 0 0, .slice none 0 0, .slice none 0 0], vec 78 1 y.2.p1 y.1 y.2.c1 (uV (keys.take y.1)), vec 9 1 y.2.p2 y.1 y.2.c2 ((vals.take y.1).map encS), vec 3 1 none 0 0 []]) (fun y => y.1 ≤ keys.length) (fun y => keys.length - y.1) ((0, Rw.mk none 0 none 0 none 0)) ?_ ?_ ?_ ?_; rotate_left; (repeat (first | refine ts_nil | (refine ts_cons rfl ?_ ?_; first | (with_reducible rfl) | rotate_left))); (first | (intro _ i; with_reducible refine i) | rotate_left); rotate_left; (try omega); rotate_right)
 ·rintro ⟨j, ⟨p1, c1, p2, c2, p3, c3⟩⟩ hj
  dsimp only at hj ⊢
  by_cases hlt : j < keys.length
  ·have hv := g3 _ (getD_mem (l := vals) (i := j) (z := []) (by omega))
   have hkey := g2 _ (getD_mem (l := keys) (i := j) (z := 0) hlt)
   have hp1 := hpl (j + 1) hlt
   have e1 : pt j (keys.length - j) = putN (keys.getD j 0) 8 ++ (UInt8.ofNat (vals.getD j []).length :: (vals.getD j [] ++ pt (j + 1) (keys.length - (j + 1)))) := by
    rw [show keys.length - j = (keys.length - (j + 1)) + 1 by omega, hcons, hent]; simp
   have e2 := put_ne (keys.getD j 0) 7 (UInt8.ofNat (vals.getD j []).length :: (vals.getD j [] ++ pt (j + 1) (keys.length - (j + 1))))
   have hl1 : (UInt8.ofNat (vals.getD j []).length :: (vals.getD j [] ++ pt (j + 1) (keys.length - (j + 1)))).length < 1000000 := by rw [List.length_cons, List.length_append]; omega
   rw [e1]
   (repeat (first|refine g_seq (h:=?_)|refine g_region (h:=?_)|refine l_nil (h:=?_)|refine n_then (h:=?_)|refine l_pures1 (h:=?_)|refine l_guard_yes (h:=?_)|refine l_load (h:=?_)|refine g_skip (h:=?_)|refine g_block (h:=?_)|refine g_cond_t (h:=?_)))
   rw [e2]
   (repeat' fail)
   (refine g_draw [] (h := a_pass2 (h:=?_)))
   (repeat' (first|refine g_seq (h:=?_)|refine g_region (h:=?_)|refine l_nil (h:=?_)|refine n_then (h:=?_)|refine l_pures1 (h:=?_)|(refine l_atc ?_; refine l_call (rdNum8 rb (keys.getD j 0) _ false (by omega) hl1) ?_)|refine l_load (h:=?_)|refine l_store (h:=?_)|(refine l_buildSlice1 (h:=?_); intro _)|(refine l_append_new (h:=?_); intro _ _)|refine a_done (h:=?_)|refine a_one (h:=?_)|refine n_any (h := a_pass2 (h:=?_))|refine g_cond_t (h:=?_)|refine a_fork2 (h1 := ?_) (h2 := ?_)|refine a1_of (h:=?_)))
   all_goals
    rename_i b1 pk ck
    rw [uV_snoc hlt]
   all_goals
    (refine g_draw [] (h := a_pass2 (h:=?_)))
   all_goals
    (repeat' (first|refine l_nil (h:=?_)|(refine l_atc ?_; refine l_call (rdText_does rb (vals.getD j []) (pt (j + 1) (keys.length - (j + 1))) false (by omega) (by omega)) ?_)|refine l_load (h:=?_)|refine l_store (h:=?_)|(refine l_buildSlice1 (h:=?_); intro _)|(refine l_append_new (h:=?_); intro _ _)|refine a_done (h:=?_)|refine a_one (h:=?_)|refine n_any (h := a_pass2 (h:=?_))|refine n_block (h:=?_)|refine a_fork2 (h1 := ?_) (h2 := ?_)|refine a1_of (h:=?_)))
   all_goals
    rename_i b2 pv cv
    rw [encS_snoc (by omega)]
   all_goals
    (refine n_back ((j + 1, Rw.mk pk ck pv cv p3 c3)) ?_ ?_ ?_ ?_; rotate_left; rotate_left; (repeat (first | refine ts_nil | (refine ts_cons rfl ?_ ?_; first | (with_reducible rfl) | rotate_left))); (first | (intro _ i; with_reducible refine i) | rotate_left); (try omega); (try omega))
   all_goals (intro _ i; exact inv_keep parts_of i)
  ·obtain rfl : j = keys.length := by omega
   rw [Nat.sub_self, hpz, List.take_length, show vals.take keys.length = vals by rw [← hvl, List.take_length]]
   have hvv : vec 9 1 p2 keys.length c2 (vals.map encS) = vec 9 1 p2 vals.length c2 (vals.map encS) := by rw [hvl]
   rw [hvv]
   (refine g_shut (A := Nds ⟨true, keys, vals, []⟩ ⟨p1, c1, p2, c2, none, 0⟩) (K := NdsK ⟨true, keys, vals, []⟩ ⟨p1, c1, p2, c2, none, 0⟩ (())) (hid_shuts (()) trivial) (h:=?_) (p := by dsimp only [NdsK]; (try simp only [List.map_nil, List.length_nil, List.length_set, List.length_append, List.length_cons, List.length_singleton, List.map_append, List.map_cons, Nat.zero_add]); exact parts_of))
   have hR2 : Does Tryz.prog 152 [.agg #[.bool true, .slice p1 keys.length c1, .slice p2 keys.length c2, .slice none 0 0]] [Nds ⟨true, keys, vals, []⟩ ⟨p1, c1, p2, c2, none, 0⟩] (fun v H => v = .bool true ∧ H = [Nds ⟨true, keys, vals, []⟩ ⟨p1, c1, p2, c2, none, 0⟩]) := by
    have := hR ⟨p1, c1, p2, c2, none, 0⟩
    simp only [ndV, ndA, hvl] at this
    exact this
   (repeat' (first|refine g_seq (h:=?_)|refine g_region (h:=?_)|refine l_nil (h:=?_)|refine n_then (h:=?_)|refine l_pures1 (h:=?_)|(refine l_atc ?_; refine l_call (hR2) ?_)|refine l_guard_yes (h:=?_)|refine l_guard_no (h:=?_)|refine l_load (h:=?_)|refine l_store (h:=?_)|refine g_skip (h:=?_)|refine g_ret (h:=?_)|refine g_exit (h:=?_)|refine n_then_exit (h:=?_)|refine n_block_hit (h:=?_)|refine g_cond_f (h:=?_)))
   refine r_retk [Nds ⟨true, keys, vals, []⟩ ⟨p1, c1, p2, c2, none, 0⟩] ?_
   exact ⟨⟨p1, c1, p2, c2, none, 0⟩, by simp only [ndV, ndA, hvl]; rfl, rfl⟩
 ·simp only [Nat.sub_zero, List.take_zero, List.map_nil, uV]
  (intro _ i; exact inv_keep parts_of i)
theorem decB_body (rb nb rs : Nat) (kid : Int) (rest : List UInt8) (j : Nat) (ks : List Int) (keys : List Nat) (pk : Option Addr) (ck : Nat) (p3 : Option Addr) (c3 : Nat) (hk : 2 ≤ kid ∧ kid < 640) (hr : rest.length < 1000000) (hj : j < 1000) (w0 : World) (F0 : Nat → Prop) (Q : Exit → Act → World → Prop) (hc : SL.Calm Q)
  (h : ∀ p' c', N 86 w0 F0 .normal Q [(4, .pointer (some ⟨rb, 0, none⟩)), (6, .pointer (some ⟨nb, 0, none⟩)), (2, .pointer (some ⟨rs, 0, none⟩))] [] [cl nb 175 [.bool false, .slice pk (j + 1) ck, .slice none 0 0, .slice p' (j + 1 + 1) c'], cl rb 249 [.string (str rest), .bool false], vec 3 1 p' (j + 1 + 1) c' (ks.map encZ' ++ [.int .i64 kid]), cl rs 175 [.bool false, .slice none 0 0, .slice none 0 0, .slice none 0 0], vec 78 1 pk (j + 1) ck (uV keys), vec 9 1 none 0 0 []]) :
  G Tryz.prog 86 w0 F0 (nav [1, 1, 1, 1, 1, 1, 0, 2, 2, 1, 2, 1, 1, 1] (bdy Tryz.f141)) Q [(4, .pointer (some ⟨rb, 0, none⟩)), (6, .pointer (some ⟨nb, 0, none⟩)), (2, .pointer (some ⟨rs, 0, none⟩))] [] [cl nb 175 [.bool false, .slice pk (j + 1) ck, .slice none 0 0, .slice p3 (j + 1) c3], cl rb 249 [.string (str (putN kid.toNat 2 ++ rest)), .bool false], vec 3 1 p3 (j + 1) c3 (ks.map encZ'), cl rs 175 [.bool false, .slice none 0 0, .slice none 0 0, .slice none 0 0], vec 78 1 pk (j + 1) ck (uV keys), vec 9 1 none 0 0 []] := by
 obtain ⟨c, hc⟩ : ∃ c, c = nav [1, 1, 1, 1, 1, 1, 0, 2, 2, 1, 2, 1, 1, 1] (bdy Tryz.f141) := ⟨_, rfl⟩
 rw [← hc]
 dsimp only [nav, bdy, Tryz.f141, Option.getD] at hc
 subst hc
 (refine g_draw [] (h := a_pass2 (h:=?_)))
 (repeat' (first|refine l_nil (h:=?_)|(refine l_atc ?_; refine l_call (rdNum2 rb kid.toNat rest false (kid_lt hk) hr) ?_)|refine l_load (h:=?_)|refine l_store (h:=?_)|(refine l_buildSlice1 (h:=?_); intro _)|(refine l_append_new (h:=?_); intro _ _)|refine a_done (h:=?_)|refine a_one (h:=?_)|refine n_any (h := a_pass2 (h:=?_))|refine a_fork2 (h1 := ?_) (h2 := ?_)|refine a1_of (h:=?_)))
 all_goals
  rw [wrapKid2 hk]
  exact n_bang (h _ _)
theorem decB_end (rb nb rs : Nat) (keys : List Nat) (kids : List Int) (hd : Nd.good ⟨false, keys, [], kids⟩) (hl : kids.length = keys.length + 1) (pk : Option Addr) (ck : Nat) (p3 : Option Addr) (c3 : Nat) (w0 : World) (F0 : Nat → Prop) :
  G Tryz.prog 86 w0 F0 (nav [1, 1, 1, 1, 1, 1, 1] (bdy Tryz.f141)) (Post Tryz.prog Tryz.f141 w0 F0 (fun v H => ∃ r, v = .tuple #[ndV ⟨false, keys, [], kids⟩ r, .int .i64 0] ∧ H = [Nds ⟨false, keys, [], kids⟩ r]))
   [(4, .pointer (some ⟨rb, 0, none⟩)), (6, .pointer (some ⟨nb, 0, none⟩)), (2, .pointer (some ⟨rs, 0, none⟩))] [] [cl nb 175 [.bool false, .slice pk keys.length ck, .slice none 0 0, .slice p3 kids.length c3], cl rb 249 [.string (str []), .bool false], vec 3 1 p3 kids.length c3 (kids.map encZ'), cl rs 175 [.bool false, .slice none 0 0, .slice none 0 0, .slice none 0 0], vec 78 1 pk keys.length ck (uV keys), vec 9 1 none 0 0 []] := by
 have hR : Does Tryz.prog 152 [.agg #[.bool false, .slice pk keys.length ck, .slice none 0 0, .slice p3 kids.length c3]] [Nds ⟨false, keys, [], kids⟩ ⟨pk, ck, none, 0, p3, c3⟩] (fun v H => v = .bool true ∧ H = [Nds ⟨false, keys, [], kids⟩ ⟨pk, ck, none, 0, p3, c3⟩]) := Right_does ⟨false, keys, [], kids⟩ ⟨pk, ck, none, 0, p3, c3⟩ hd
 obtain ⟨c, hc⟩ : ∃ c, c = nav [1, 1, 1, 1, 1, 1, 1] (bdy Tryz.f141) := ⟨_, rfl⟩
 rw [← hc]
 dsimp only [nav, bdy, Tryz.f141, Option.getD] at hc
 subst hc
 (refine g_shut (A := Nds ⟨false, keys, [], kids⟩ ⟨pk, ck, none, 0, p3, c3⟩) (K := NdsK ⟨false, keys, [], kids⟩ ⟨pk, ck, none, 0, p3, c3⟩ (())) (hid_shuts (()) trivial) (h:=?_) (p := by dsimp only [NdsK]; (try simp only [List.map_nil, List.length_nil, List.length_set, List.length_append, List.length_cons, List.length_singleton, List.map_append, List.map_cons, Nat.zero_add]); exact parts_of))
 (repeat' (first|refine g_seq (h:=?_)|refine g_region (h:=?_)|refine l_nil (h:=?_)|refine n_then (h:=?_)|refine l_pures1 (h:=?_)|(refine l_atc ?_; refine l_call (hR) ?_)|refine l_guard_yes (h:=?_)|refine l_load (h:=?_)|refine l_store (h:=?_)|refine g_skip (h:=?_)|refine g_ret (h:=?_)|refine g_cond_f (h:=?_)))
 refine r_retk [Nds ⟨false, keys, [], kids⟩ ⟨pk, ck, none, 0, p3, c3⟩] ?_
 exact ⟨⟨pk, ck, none, 0, p3, c3⟩, rfl, rfl⟩
theorem decB_loop (rb nb rs : Nat) (keys : List Nat) (kids : List Int) (hd : Nd.good ⟨false, keys, [], kids⟩) (hl : kids.length = keys.length + 1) (p3 : Option Addr) (c3 : Nat) (w0 : World) (F0 : Nat → Prop) :
  G Tryz.prog 86 w0 F0 (nav [1, 1, 1, 1, 1, 1] (bdy Tryz.f141)) (Post Tryz.prog Tryz.f141 w0 F0 (fun v H => ∃ r, v = .tuple #[ndV ⟨false, keys, [], kids⟩ r, .int .i64 0] ∧ H = [Nds ⟨false, keys, [], kids⟩ r]))
   [(4, .pointer (some ⟨rb, 0, none⟩)), (6, .pointer (some ⟨nb, 0, none⟩)), (2, .pointer (some ⟨rs, 0, none⟩))] [] [cl nb 175 [.bool false, .slice none 0 0, .slice none 0 0, .slice p3 1 c3], cl rb 249 [.string (str (Nd.partT ⟨false, keys, [], kids⟩ 0 keys.length)), .bool false], vec 3 1 p3 1 c3 ((kids.take 1).map encZ'), cl rs 175 [.bool false, .slice none 0 0, .slice none 0 0, .slice none 0 0], vec 78 1 none 0 0 [], vec 9 1 none 0 0 []] := by
 have hend := fun pk ck p3 c3 => decB_end rb nb rs keys kids hd hl pk ck p3 c3 w0 F0
 have hbody := decB_body rb nb rs
 have hs := hd.size
 have hcons := Nd.partT_cons ⟨false, keys, [], kids⟩
 have hent : Nd.entT ⟨false, keys, [], kids⟩ = fun i => putN (keys.getD i 0) 8 ++ putN (kids.getD (i + 1) 0).toNat 2 := rfl
 have g2 := hd.p.key
 have g4 := hd.p.kid
 dsimp only [Nd.size] at g2 g4 hs
 simp only [Bool.false_eq_true, if_false] at hs
 have hpl : ∀ m j, j + m = keys.length → (Nd.partT ⟨false, keys, [], kids⟩ j m).length = 10 * m := by
  intro m
  induction m with
  | zero => intro j _; rfl
  | succ m ih => intro j hj; rw [hcons, List.length_append, ih (j + 1) (by omega), hent]; simp only [List.length_append, putN_length]; omega
 have hpz : Nd.partT ⟨false, keys, [], kids⟩ keys.length 0 = [] := rfl
 generalize Nd.partT ⟨false, keys, [], kids⟩ = pt at *
 generalize Nd.entT ⟨false, keys, [], kids⟩ = en at *
 obtain ⟨cc, hcc⟩ : ∃ cc, cc = nav [1, 1, 1, 1, 1, 1, 1] (bdy Tryz.f141) := ⟨_, rfl⟩
 obtain ⟨c, hc⟩ : ∃ c, c = nav [1, 1, 1, 1, 1, 1] (bdy Tryz.f141) := ⟨_, rfl⟩
 rw [← hc]
 dsimp only [nav, bdy, Tryz.f141, Option.getD] at hc
 subst hc
 refine g_seq (h := g_block (h:=?_))
 (refine g_loop (fun y : Nat × Option Addr × Nat × Option Addr × Nat => [(4, .pointer (some ⟨rb, 0, none⟩)), (6, .pointer (some ⟨nb, 0, none⟩)), (2, .pointer (some ⟨rs, 0, none⟩))]) (fun y => [cl nb 175 [.bool false, .slice y.2.1 y.1 y.2.2.1, .slice none 0 0, .slice y.2.2.2.1 (y.1 + 1) y.2.2.2.2], cl rb 249 [.string (str (pt y.1 (keys.length - y.1))), .bool false], vec 3 1 y.2.2.2.1 (y.1 + 1) y.2.2.2.2 ((kids.take (y.1 + 1)).map encZ'), cl rs 175 [.bool false, .slice none 0 0, .slice none 0 0, .slice none 0 0], vec 78 1 y.2.1 y.1 y.2.2.1 (uV (keys.take y.1)), vec 9 1 none 0 0 []]) (fun y => y.1 ≤ keys.length) (fun y => keys.length - y.1) ((0, (none : Option Addr), 0, p3, c3)) ?_ ?_ ?_ ?_; rotate_left; (repeat (first | refine ts_nil | (refine ts_cons rfl ?_ ?_; first | (with_reducible rfl) | rotate_left))); (first | (intro _ i; with_reducible refine i) | rotate_left); rotate_left; (try omega); rotate_right)
 ·rintro ⟨j, pk, ck, pi, ci⟩ hj
  dsimp only at hj ⊢
  by_cases hlt : j < keys.length
  ·have hkey := g2 _ (getD_mem (l := keys) (i := j) (z := 0) hlt)
   have hkid := g4 _ (getD_mem (l := kids) (i := j + 1) (z := 0) (by omega))
   have hp1 := hpl (keys.length - (j + 1)) (j + 1) (by omega)
   have e1 : pt j (keys.length - j) = putN (keys.getD j 0) 8 ++ (putN (kids.getD (j + 1) 0).toNat 2 ++ pt (j + 1) (keys.length - (j + 1))) := by
    rw [show keys.length - j = (keys.length - (j + 1)) + 1 by omega, hcons, hent]; simp
   have e2 := put_ne (keys.getD j 0) 7 (putN (kids.getD (j + 1) 0).toNat 2 ++ pt (j + 1) (keys.length - (j + 1)))
   have hl1 : (putN (kids.getD (j + 1) 0).toNat 2 ++ pt (j + 1) (keys.length - (j + 1))).length < 1000000 := by rw [List.length_append, putN_length]; omega
   rw [e1]
   (repeat (first|refine g_seq (h:=?_)|refine g_region (h:=?_)|refine l_nil (h:=?_)|refine n_then (h:=?_)|refine l_pures1 (h:=?_)|refine l_guard_yes (h:=?_)|refine l_load (h:=?_)|refine g_skip (h:=?_)|refine g_block (h:=?_)|refine g_cond_t (h:=?_)))
   rw [e2]
   (repeat' fail)
   (refine g_draw [] (h := a_pass2 (h:=?_)))
   (repeat' (first|refine g_seq (h:=?_)|refine g_region (h:=?_)|refine l_nil (h:=?_)|refine n_then (h:=?_)|refine l_pures1 (h:=?_)|(refine l_atc ?_; refine l_call (rdNum8 rb (keys.getD j 0) _ false (by omega) hl1) ?_)|refine l_load (h:=?_)|refine l_store (h:=?_)|(refine l_buildSlice1 (h:=?_); intro _)|(refine l_append_new (h:=?_); intro _ _)|refine a_done (h:=?_)|refine a_one (h:=?_)|refine n_any (h := a_pass2 (h:=?_))|refine g_cond_f (h:=?_)|refine a_fork2 (h1 := ?_) (h2 := ?_)|refine a1_of (h:=?_)))
   all_goals
    rename_i b1 pk' ck'
    rw [uV_snoc hlt]
    refine g_bang (hbody (kids.getD (j + 1) 0) (pt (j + 1) (keys.length - (j + 1))) j (kids.take (j + 1)) (keys.take (j + 1)) pk' ck' pi ci hkid (by omega) (by omega) w0 F0 _ (by with_reducible (repeat (first | refine calm_post | apply calm_then | apply calm_block))) (fun p' c' => ?_))
    rw [encZ_snoc (by omega)]
    (repeat' refine n_block (h:=?_))
    (refine n_back ((j + 1, pk', ck', p', c')) ?_ ?_ ?_ ?_; rotate_left; rotate_left; (repeat (first | refine ts_nil | (refine ts_cons rfl ?_ ?_; first | (with_reducible rfl) | rotate_left))); (first | (intro _ i; with_reducible refine i) | rotate_left); (try omega); (try omega))
    all_goals (intro _ i; exact inv_keep parts_of i)
  ·obtain rfl : j = keys.length := by omega
   rw [Nat.sub_self, hpz, List.take_length, show kids.take (keys.length + 1) = kids by rw [← hl, List.take_length], ← hl]
   (repeat' (first|((with_reducible show G _ _ _ _ (Code.seq (Code.seq (Code.region 13 _ _) _) _) _ _ _ _); exact g_bang (hend _ _ _ _))|refine g_seq (h:=?_)|refine g_region (h:=?_)|refine l_nil (h:=?_)|refine n_then (h:=?_)|refine l_pures1 (h:=?_)|refine l_guard_no (h:=?_)|refine l_load (h:=?_)|refine g_exit (h:=?_)|refine n_then_exit (h:=?_)|refine n_block_hit (h:=?_)|refine g_cond_f (h:=?_)))
 ·intro w i
  simp only [Nat.sub_zero, Nat.zero_add, List.take_zero, uV, List.map_nil]
  exact inv_keep parts_of i
theorem decB_first (rb nb rs : Nat) (keys : List Nat) (kids : List Int) (hd : Nd.good ⟨false, keys, [], kids⟩) (hl : kids.length = keys.length + 1) (w0 : World) (F0 : Nat → Prop) (Q : Exit → Act → World → Prop) (hc : SL.Calm Q)
  (h : ∀ p' c', N 86 w0 F0 .normal Q [(4, .pointer (some ⟨rb, 0, none⟩)), (6, .pointer (some ⟨nb, 0, none⟩)), (2, .pointer (some ⟨rs, 0, none⟩))] [] [cl nb 175 [.bool false, .slice none 0 0, .slice none 0 0, .slice p' 1 c'], cl rb 249 [.string (str (Nd.partT ⟨false, keys, [], kids⟩ 0 keys.length)), .bool false], vec 3 1 p' 1 c' ((kids.take 1).map encZ'), cl rs 175 [.bool false, .slice none 0 0, .slice none 0 0, .slice none 0 0], vec 78 1 none 0 0 [], vec 9 1 none 0 0 []]) :
  G Tryz.prog 86 w0 F0 (nav [1, 1, 1, 1, 1, 0, 1, 0] (bdy Tryz.f141)) Q [(4, .pointer (some ⟨rb, 0, none⟩)), (6, .pointer (some ⟨nb, 0, none⟩)), (2, .pointer (some ⟨rs, 0, none⟩))] [] [cl nb 175 [.bool false, .slice none 0 0, .slice none 0 0, .slice none 0 0], cl rb 249 [.string (str (putN (kids.getD 0 0).toNat 2 ++ Nd.partT ⟨false, keys, [], kids⟩ 0 keys.length)), .bool false], cl rs 175 [.bool false, .slice none 0 0, .slice none 0 0, .slice none 0 0], vec 78 1 none 0 0 [], vec 9 1 none 0 0 [], vec 3 1 none 0 0 []] := by
 have hk := hd.p.kid _ (getD_mem (l := kids) (i := 0) (z := 0) (by omega))
 have hs := hd.size
 have hpl := Nd.partT_len (d := ⟨false, keys, [], kids⟩) (Nat.le_refl _) (fun q => by cases q)
 simp only [Bool.false_eq_true, if_false] at hpl
 simp only [Nd.size, Bool.false_eq_true, if_false] at hs
 (try dsimp only at hpl hk hs)
 generalize Nd.partT ⟨false, keys, [], kids⟩ 0 keys.length = rest at *
 obtain ⟨c, hc⟩ : ∃ c, c = nav [1, 1, 1, 1, 1, 0, 1, 0] (bdy Tryz.f141) := ⟨_, rfl⟩
 rw [← hc]
 dsimp only [nav, bdy, Tryz.f141, Option.getD] at hc
 subst hc
 (refine g_draw [] (h := a_pass2 (h:=?_)))
 (repeat' (first|refine l_nil (h:=?_)|(refine l_atc ?_; refine l_call (rdNum2 rb (kids.getD 0 0).toNat rest false (kid_lt hk) (by omega)) ?_)|refine l_load (h:=?_)|refine l_store (h:=?_)|(refine l_buildSlice1 (h:=?_); intro _)|(refine l_append_new (h:=?_); intro _ _)|refine a_done (h:=?_)|refine a_one (h:=?_)|refine n_any (h := a_pass2 (h:=?_))|refine a_fork2 (h1 := ?_) (h2 := ?_)|refine a1_of (h:=?_)))
 all_goals
  rw [wrapKid2 hk]
  have e : ([] : List Value) ++ [Value.int .i64 (kids.getD 0 0)] = (kids.take 1).map encZ' := encZ_snoc (j := 0) (by omega)
  rw [e]
  exact n_bang (h _ _)
theorem DecodeB_does (keys : List Nat) (kids : List Int) (hd : Nd.good ⟨false, keys, [], kids⟩) : Does Tryz.prog 141 [.string (str (Nd.text ⟨false, keys, [], kids⟩))] [] (fun v H => ∃ r, v = .tuple #[ndV ⟨false, keys, [], kids⟩ r, .int .i64 0] ∧ H = [Nds ⟨false, keys, [], kids⟩ r]) := by
 have hl := kidsLen hd.p rfl
 have hfirst := fun rb nb rs => decB_first rb nb rs keys kids hd hl
 have hloop := fun rb nb rs => decB_loop rb nb rs keys kids hd hl
 have hs := hd.size
 have hpl := Nd.partT_len (d := ⟨false, keys, [], kids⟩) (Nat.le_refl _) (fun q => by cases q)
 simp only [Bool.false_eq_true, if_false] at hpl
 simp only [Nd.size, Bool.false_eq_true, if_false] at hs
 (try dsimp only at hpl hs)
 have htx : Nd.text ⟨false, keys, [], kids⟩ = putN 2 1 ++ (putN (kids.getD 0 0).toNat 2 ++ Nd.partT ⟨false, keys, [], kids⟩ 0 keys.length) := rfl
 rw [htx]
 have hlen : (putN (kids.getD 0 0).toNat 2 ++ Nd.partT ⟨false, keys, [], kids⟩ 0 keys.length).length < 1000000 := by rw [List.length_append, putN_length]; omega
 generalize Nd.partT ⟨false, keys, [], kids⟩ 0 keys.length = rest at *
 have hr1 : ∀ rb, Does Tryz.prog 150 [.pointer (some ⟨rb, 0, none⟩), .int .i64 1] [cl rb 249 [.string (str (putN 2 1 ++ (putN (kids.getD 0 0).toNat 2 ++ rest))), .bool false]]
  (fun v H => v = .int .u64 2 ∧ H = [cl rb 249 [.string (str (putN (kids.getD 0 0).toNat 2 ++ rest)), .bool false]]) := fun rb => rdNum1 rb 2 _ false (by omega) hlen
 refine does_of Tryz.func141 Tryz.ntmps141 rfl rfl rfl (fun w0 F0 => ?_)
 (repeat' (first|refine g_seq (h:=?_)|refine g_region (h:=?_)|refine l_nil (h:=?_)|refine n_then (h:=?_)|refine l_pures1 (h:=?_)|(refine l_atc ?_; refine l_call (hr1 _) ?_)|refine l_guard_yes (h:=?_)|refine l_load (h:=?_)|refine l_store (h:=?_)|(refine l_box (h:=?_); intro _)|(refine l_alloc (h:=?_); intro _)|refine g_skip (h:=?_)|refine g_cond_t (h:=?_)|refine g_cond_f (h:=?_)))
 rename_i rs rb nb
 rw [show ((2 : Int) == 1) = false from rfl]
 refine g_inv (fun i => vec_nil (3) (1) i) ?_
 refine g_inv (fun i => vec_nil (9) (1) i) ?_
 refine g_inv (fun i => vec_nil (78) (1) i) ?_
 refine g_bang (hfirst rb nb rs w0 F0 _ (by with_reducible (repeat (first | refine calm_post | apply calm_then | apply calm_block))) (fun p' c' => ?_))
 refine n_then (h:=?_)
 exact hloop rb nb rs p' c' w0 F0
theorem Decode_does (d : Nd) (hd : d.good) : Does Tryz.prog 141 [.string (str d.text)] [] (fun v H => ∃ r, v = .tuple #[ndV d r, .int .i64 0] ∧ H = [Nds d r]) := by
 obtain ⟨leaf, keys, vals, kids⟩ := d
 cases leaf
 ·obtain rfl : vals = [] := noVals hd.p rfl
  exact DecodeB_does keys kids hd
 ·obtain rfl : kids = [] := by have := hd.p.kids; simpa using this
  exact DecodeL_does keys vals hd
end Go.Proofs.YtelfjhemnnbbpaaGreat
set_option maxRecDepth 20000
namespace Go.Proofs.YtelfjhemnnbbpaaGreat
open Go.Proofs.YtelfjhemnnbbpaaGreat.SL
theorem laidU1 (l : List Nat) (p : Option Addr) (c at' gone mb mc : Nat) (x : Nat) (aa ga : Int) (ha : aa = at') (hg : ga = gone) (hm : l.length < 100000) (h1 : at' < 100000) (h2 : gone < 100000) :
  Does Tryz.prog 125 [.slice p l.length c, .int .i64 aa, .int .i64 ga, .slice (some ⟨mb, 0, none⟩) 1 mc] [vec 78 1 p l.length c (uV l), cl mb 78 [.int .u64 (x : Nat)]]
   (fun v H => ∃ p' c', v = .slice p' (laidL l at' gone [x]).length c' ∧ H = [vec 78 1 p' (laidL l at' gone [x]).length c' (uV ((laidL l at' gone [x]))), vec 78 1 p l.length c (uV l)]) := by
 subst ha hg
 have e : laidL (uV l) at' gone [.int .u64 (x : Nat)] = uV ((laidL l at' gone [x])) := (laidL_map _ l at' gone [x]).symm
 have := laidU_one (uV l) p l.length c at' gone mb mc (.int .u64 (x : Nat)) (by simp [uV, Value.oneCell']) rfl hm h1 h2
 rw [e] at this
 simp only [uV_len] at this
 exact this
theorem laidU0 (l : List Nat) (p : Option Addr) (c at' gone : Nat) (aa ga : Int) (ha : aa = at') (hg : ga = gone) (hm : l.length < 100000) (h1 : at' < 100000) (h2 : gone < 100000) :
  Does Tryz.prog 125 [.slice p l.length c, .int .i64 aa, .int .i64 ga, .slice none 0 0] [vec 78 1 p l.length c (uV l)]
   (fun v H => ∃ p' c', v = .slice p' (laidL l at' gone []).length c' ∧ H = [vec 78 1 p' (laidL l at' gone []).length c' (uV (laidL l at' gone [])), vec 78 1 p l.length c (uV l)]) := by
 subst ha hg
 have e : laidL (uV l) at' gone [] = uV (laidL l at' gone []) := (laidL_map _ l at' gone []).symm
 have := laidU_none (uV l) p l.length c at' gone (by simp [uV, Value.oneCell']) hm h1 h2
 rw [e] at this
 simp only [uV_len] at this
 exact this
theorem laidS1 (l : List (List UInt8)) (p : Option Addr) (c at' gone mb mc : Nat) (x : List UInt8) (aa ga : Int) (ha : aa = at') (hg : ga = gone) (hm : l.length < 100000) (h1 : at' < 100000) (h2 : gone < 100000) :
  Does Tryz.prog 126 [.slice p l.length c, .int .i64 aa, .int .i64 ga, .slice (some ⟨mb, 0, none⟩) 1 mc] [vec 9 1 p l.length c (l.map encS), cl mb 9 [.string (str x)]]
   (fun v H => ∃ p' c', v = .slice p' (laidL l at' gone [x]).length c' ∧ H = [vec 9 1 p' (laidL l at' gone [x]).length c' (((laidL l at' gone [x])).map encS), vec 9 1 p l.length c (l.map encS)]) := by
 subst ha hg
 have e : laidL (l.map encS) at' gone [.string (str x)] = ((laidL l at' gone [x])).map encS := (laidL_map _ l at' gone [x]).symm
 have := laidS_one (l.map encS) p l.length c at' gone mb mc (.string (str x)) (by simp [encS, Value.oneCell']) rfl hm h1 h2
 rw [e] at this
 simp only [List.length_map] at this
 exact this
theorem laidS0 (l : List (List UInt8)) (p : Option Addr) (c at' gone : Nat) (aa ga : Int) (ha : aa = at') (hg : ga = gone) (hm : l.length < 100000) (h1 : at' < 100000) (h2 : gone < 100000) :
  Does Tryz.prog 126 [.slice p l.length c, .int .i64 aa, .int .i64 ga, .slice none 0 0] [vec 9 1 p l.length c (l.map encS)]
   (fun v H => ∃ p' c', v = .slice p' (laidL l at' gone []).length c' ∧ H = [vec 9 1 p' (laidL l at' gone []).length c' ((laidL l at' gone []).map encS), vec 9 1 p l.length c (l.map encS)]) := by
 subst ha hg
 have e : laidL (l.map encS) at' gone [] = (laidL l at' gone []).map encS := (laidL_map _ l at' gone []).symm
 have := laidS_none (l.map encS) p l.length c at' gone (by simp [encS, Value.oneCell']) hm h1 h2
 rw [e] at this
 simp only [List.length_map] at this
 exact this
theorem laidI1 (l : List Int) (p : Option Addr) (c at' gone mb mc : Nat) (x : Int) (aa ga : Int) (ha : aa = at') (hg : ga = gone) (hm : l.length < 100000) (h1 : at' < 100000) (h2 : gone < 100000) :
  Does Tryz.prog 134 [.slice p l.length c, .int .i64 aa, .int .i64 ga, .slice (some ⟨mb, 0, none⟩) 1 mc] [vec 3 1 p l.length c (l.map encZ'), cl mb 3 [.int .i64 x]]
   (fun v H => ∃ p' c', v = .slice p' (laidL l at' gone [x]).length c' ∧ H = [vec 3 1 p' (laidL l at' gone [x]).length c' (((laidL l at' gone [x])).map encZ'), vec 3 1 p l.length c (l.map encZ')]) := by
 subst ha hg
 have e : laidL (l.map encZ') at' gone [.int .i64 x] = ((laidL l at' gone [x])).map encZ' := (laidL_map _ l at' gone [x]).symm
 have := laidI_one (l.map encZ') p l.length c at' gone mb mc (.int .i64 x) (by simp [encZ', Value.oneCell']) rfl hm h1 h2
 rw [e] at this
 simp only [List.length_map] at this
 exact this
theorem laidI0 (l : List Int) (p : Option Addr) (c at' gone : Nat) (aa ga : Int) (ha : aa = at') (hg : ga = gone) (hm : l.length < 100000) (h1 : at' < 100000) (h2 : gone < 100000) :
  Does Tryz.prog 134 [.slice p l.length c, .int .i64 aa, .int .i64 ga, .slice none 0 0] [vec 3 1 p l.length c (l.map encZ')]
   (fun v H => ∃ p' c', v = .slice p' (laidL l at' gone []).length c' ∧ H = [vec 3 1 p' (laidL l at' gone []).length c' ((laidL l at' gone []).map encZ'), vec 3 1 p l.length c (l.map encZ')]) := by
 subst ha hg
 have e : laidL (l.map encZ') at' gone [] = (laidL l at' gone []).map encZ' := (laidL_map _ l at' gone []).symm
 have := laidI_none (l.map encZ') p l.length c at' gone (by simp [encZ', Value.oneCell']) hm h1 h2
 rw [e] at this
 simp only [List.length_map] at this
 exact this
set_option maxHeartbeats 1000000 in
theorem nPut_does (d : Nd) (r : Rw) (x : Nat) (v : List UInt8) (hl : d.leaf = true) (hf : d.fits) (hs : Rise d.keys) (hk : d.kids = []) : Does Tryz.prog 107 [ndV d r, .int .u64 x, .string (str v)] [Nds d r]
  (fun u H => ∃ r', u = ndV (d.put x v) r' ∧ H = [Nds (d.put x v) r', Nds d r]) := by
 obtain ⟨leaf, keys, vals, kids⟩ := d
 obtain ⟨p1, c1, p2, c2, p3, c3⟩ := r
 obtain ⟨f1, f2, f3, f4⟩ := hf
 dsimp only at f1 f2 f3 f4 hl hs hk
 subst hl hk
 have hp := posN_le keys x
 have hpl := place_does keys x p1 c1 (by omega) hs
 refine does_of Tryz.func107 Tryz.ntmps107 rfl rfl rfl (fun w0 F0 => ?_)
 refine g_open (A := Nds ⟨true, keys, vals, []⟩ ⟨p1, c1, p2, c2, p3, c3⟩) (h:=?_); (rintro _ _; dsimp only [NdsK, List.cons_append, List.nil_append])
 (repeat' (first|refine g_seq (h:=?_)|refine g_region (h:=?_)|refine l_nil (h:=?_)|refine n_then (h:=?_)|refine l_pures1 (h:=?_)|(refine l_atc ?_; refine l_call (hpl) ?_)|refine l_load (h:=?_)|(refine l_box (h:=?_); intro _)|(refine l_alloc (h:=?_); intro _)|refine g_skip (h:=?_)|refine g_cond_f (h:=?_)|(refine g_sp (h1 := ?_) (h0 := ?_) <;> intro h)))
 ·rename_i b1 b2
  (refine g_draw [cl b1 175 (ndA ⟨true, keys, vals, []⟩ ⟨p1, c1, p2, c2, p3, c3⟩).toList] (h := a_pass2 (h:=?_)))
  (repeat' (first|refine l_nil (h:=?_)|refine n_then (h:=?_)|(refine l_atc ?_; refine l_call_ (laidU1 keys p1 c1 (posN keys x) 1 _ _ x _ 1 rfl rfl (by omega) (by omega) (by omega)) ?_; rintro _ _ _ ⟨q1, d1, rfl, rfl⟩ he; cases he)|(refine l_atc ?_; refine l_call_ (laidS1 vals p2 c2 (posN keys x) 1 _ _ v _ 1 rfl rfl (by omega) (by omega) (by omega)) ?_; rintro _ _ _ ⟨q2, d2, rfl, rfl⟩ he; cases he)|refine l_store (h:=?_)|(refine l_buildSlice1 (h:=?_); intro _)|refine g_ret (h:=?_)|refine a_done (h:=?_)|refine a_load (h := a_pass2 (h:=?_))|refine a_one (h:=?_)|refine n_any (h := a_pass2 (h:=?_))|refine a_fork2 (h1 := ?_) (h2 := ?_)|refine a1_of (h:=?_)))
  all_goals
   refine n_inv (fun i => vec_nil (3) (1) i) ?_
  all_goals
   (refine n_shut (A := Nds ⟨true, laidL keys (posN keys x) 1 [x], laidL vals (posN keys x) 1 [v], []⟩ ⟨q1, d1, q2, d2, none, 0⟩) (K := NdsK ⟨true, laidL keys (posN keys x) 1 [x], laidL vals (posN keys x) 1 [v], []⟩ ⟨q1, d1, q2, d2, none, 0⟩ (())) (hid_shuts (()) trivial) (h:=?_) (p := by dsimp only [NdsK]; (try simp only [List.map_nil, List.length_nil, List.length_set, List.length_append, List.length_cons, List.length_singleton, List.map_append, List.map_cons, Nat.zero_add]); exact parts_of))
  all_goals
   (refine n_shut (A := Nds ⟨true, keys, vals, []⟩ ⟨p1, c1, p2, c2, p3, c3⟩) (K := NdsK ⟨true, keys, vals, []⟩ ⟨p1, c1, p2, c2, p3, c3⟩ (())) (hid_shuts (()) trivial) (h:=?_) (p := by dsimp only [NdsK]; (try simp only [List.map_nil, List.length_nil, List.length_set, List.length_append, List.length_cons, List.length_singleton, List.map_append, List.map_cons, Nat.zero_add]); exact parts_of))
  all_goals
   refine r_retk [Nds ⟨true, laidL keys (posN keys x) 1 [x], laidL vals (posN keys x) 1 [v], []⟩ ⟨q1, d1, q2, d2, none, 0⟩, Nds ⟨true, keys, vals, []⟩ ⟨p1, c1, p2, c2, p3, c3⟩] ?_
  all_goals
   exact ⟨⟨q1, d1, q2, d2, none, 0⟩, by simp only [Nd.put, if_pos h]; rfl, by simp only [Nd.put, if_pos h]⟩
 ·rename_i b1 b2
  (refine g_draw [cl b1 175 (ndA ⟨true, keys, vals, []⟩ ⟨p1, c1, p2, c2, p3, c3⟩).toList] (h := a_pass2 (h:=?_)))
  (repeat' (first|refine l_nil (h:=?_)|refine n_then (h:=?_)|(refine l_atc ?_; refine l_call_ (laidU1 keys p1 c1 (posN keys x) 0 _ _ x _ 0 rfl rfl (by omega) (by omega) (by omega)) ?_; rintro _ _ _ ⟨q1, d1, rfl, rfl⟩ he; cases he)|(refine l_atc ?_; refine l_call_ (laidS1 vals p2 c2 (posN keys x) 0 _ _ v _ 0 rfl rfl (by omega) (by omega) (by omega)) ?_; rintro _ _ _ ⟨q2, d2, rfl, rfl⟩ he; cases he)|refine l_store (h:=?_)|(refine l_buildSlice1 (h:=?_); intro _)|refine g_ret (h:=?_)|refine a_done (h:=?_)|refine a_load (h := a_pass2 (h:=?_))|refine a_one (h:=?_)|refine n_any (h := a_pass2 (h:=?_))|refine a_fork2 (h1 := ?_) (h2 := ?_)|refine a1_of (h:=?_)))
  all_goals
   refine n_inv (fun i => vec_nil (3) (1) i) ?_
  all_goals
   (refine n_shut (A := Nds ⟨true, laidL keys (posN keys x) 0 [x], laidL vals (posN keys x) 0 [v], []⟩ ⟨q1, d1, q2, d2, none, 0⟩) (K := NdsK ⟨true, laidL keys (posN keys x) 0 [x], laidL vals (posN keys x) 0 [v], []⟩ ⟨q1, d1, q2, d2, none, 0⟩ (())) (hid_shuts (()) trivial) (h:=?_) (p := by dsimp only [NdsK]; (try simp only [List.map_nil, List.length_nil, List.length_set, List.length_append, List.length_cons, List.length_singleton, List.map_append, List.map_cons, Nat.zero_add]); exact parts_of))
  all_goals
   (refine n_shut (A := Nds ⟨true, keys, vals, []⟩ ⟨p1, c1, p2, c2, p3, c3⟩) (K := NdsK ⟨true, keys, vals, []⟩ ⟨p1, c1, p2, c2, p3, c3⟩ (())) (hid_shuts (()) trivial) (h:=?_) (p := by dsimp only [NdsK]; (try simp only [List.map_nil, List.length_nil, List.length_set, List.length_append, List.length_cons, List.length_singleton, List.map_append, List.map_cons, Nat.zero_add]); exact parts_of))
  all_goals
   refine r_retk [Nds ⟨true, laidL keys (posN keys x) 0 [x], laidL vals (posN keys x) 0 [v], []⟩ ⟨q1, d1, q2, d2, none, 0⟩, Nds ⟨true, keys, vals, []⟩ ⟨p1, c1, p2, c2, p3, c3⟩] ?_
  all_goals
   exact ⟨⟨q1, d1, q2, d2, none, 0⟩, by simp only [Nd.put, if_neg h]; rfl, by simp only [Nd.put, if_neg h]⟩
set_option maxHeartbeats 1000000 in
theorem nWithout_does (d : Nd) (r : Rw) (i : Nat) (hl : d.leaf = true) (hf : d.fits) (hi : i < d.keys.length) (hk : d.kids = []) : Does Tryz.prog 99 [ndV d r, .int .i64 i] [Nds d r]
  (fun u H => ∃ r', u = ndV (d.without i) r' ∧ H = [Nds (d.without i) r', Nds d r]) := by
 obtain ⟨leaf, keys, vals, kids⟩ := d
 obtain ⟨p1, c1, p2, c2, p3, c3⟩ := r
 obtain ⟨f1, f2, f3, f4⟩ := hf
 dsimp only at f1 f2 f3 f4 hl hi hk
 subst hl hk
 refine does_of Tryz.func99 Tryz.ntmps99 rfl rfl rfl (fun w0 F0 => ?_)
 refine g_open (A := Nds ⟨true, keys, vals, []⟩ ⟨p1, c1, p2, c2, p3, c3⟩) (h:=?_); (rintro _ _; dsimp only [NdsK, List.cons_append, List.nil_append])
 (repeat' (first|refine g_seq (h:=?_)|refine g_region (h:=?_)|refine l_nil (h:=?_)|refine n_then (h:=?_)|refine l_pures1 (h:=?_)|refine l_guard_yes (h:=?_)|refine l_load (h:=?_)|(refine l_box (h:=?_); intro _)|(refine l_alloc (h:=?_); intro _)|refine g_skip (h:=?_)|(refine g_spF (h:=?_); intro h)))
 rename_i b1 b2
 (refine g_draw [cl b1 175 (ndA ⟨true, keys, vals, []⟩ ⟨p1, c1, p2, c2, p3, c3⟩).toList] (h := a_pass2 (h:=?_)))
 (repeat' (first|refine l_nil (h:=?_)|refine n_then (h:=?_)|(refine l_atc ?_; refine l_call_ (laidU0 keys p1 c1 i 1 _ 1 rfl rfl (by omega) (by omega) (by omega)) ?_; rintro _ _ _ ⟨q1, d1, rfl, rfl⟩ he; cases he)|(refine l_atc ?_; refine l_call_ (laidS0 vals p2 c2 i 1 _ 1 rfl rfl (by omega) (by omega) (by omega)) ?_; rintro _ _ _ ⟨q2, d2, rfl, rfl⟩ he; cases he)|refine l_store (h:=?_)|refine g_ret (h:=?_)|refine a_done (h:=?_)|refine a_load (h := a_pass2 (h:=?_))|refine a_one (h:=?_)|refine n_any (h := a_pass2 (h:=?_))))
 all_goals
  refine n_inv (fun i => vec_nil (3) (1) i) ?_
 all_goals
  (refine n_shut (A := Nds ⟨true, laidL keys i 1 [], laidL vals i 1 [], []⟩ ⟨q1, d1, q2, d2, none, 0⟩) (K := NdsK ⟨true, laidL keys i 1 [], laidL vals i 1 [], []⟩ ⟨q1, d1, q2, d2, none, 0⟩ (())) (hid_shuts (()) trivial) (h:=?_) (p := by dsimp only [NdsK]; (try simp only [List.map_nil, List.length_nil, List.length_set, List.length_append, List.length_cons, List.length_singleton, List.map_append, List.map_cons, Nat.zero_add]); exact parts_of))
 all_goals
  (refine n_shut (A := Nds ⟨true, keys, vals, []⟩ ⟨p1, c1, p2, c2, p3, c3⟩) (K := NdsK ⟨true, keys, vals, []⟩ ⟨p1, c1, p2, c2, p3, c3⟩ (())) (hid_shuts (()) trivial) (h:=?_) (p := by dsimp only [NdsK]; (try simp only [List.map_nil, List.length_nil, List.length_set, List.length_append, List.length_cons, List.length_singleton, List.map_append, List.map_cons, Nat.zero_add]); exact parts_of))
 all_goals
  refine r_retk [Nds ⟨true, laidL keys i 1 [], laidL vals i 1 [], []⟩ ⟨q1, d1, q2, d2, none, 0⟩, Nds ⟨true, keys, vals, []⟩ ⟨p1, c1, p2, c2, p3, c3⟩] ?_
 all_goals
  exact ⟨⟨q1, d1, q2, d2, none, 0⟩, rfl, rfl⟩
set_option maxHeartbeats 1000000 in
theorem nHang_does (d : Nd) (r : Rw) (i x : Nat) (k : Int) (hl : d.leaf = false) (hf : d.fits) (hi : i ≤ d.keys.length) (hk : d.vals = []) : Does Tryz.prog 109 [ndV d r, .int .i64 i, .int .u64 x, .int .i64 k] [Nds d r]
  (fun u H => ∃ r', u = ndV (d.hang i x k) r' ∧ H = [Nds (d.hang i x k) r', Nds d r]) := by
 obtain ⟨leaf, keys, vals, kids⟩ := d
 obtain ⟨p1, c1, p2, c2, p3, c3⟩ := r
 obtain ⟨f1, f2, f3, f4⟩ := hf
 dsimp only at f1 f2 f3 f4 hl hi hk
 subst hl hk
 have ew : IntKind.i64.wrap ((i : Int) + 1) = ((i + 1 : Nat) : Int) := by rw [wrapI64 (by omega)]; rfl
 refine does_of Tryz.func109 Tryz.ntmps109 rfl rfl rfl (fun w0 F0 => ?_)
 refine g_open (A := Nds ⟨false, keys, [], kids⟩ ⟨p1, c1, p2, c2, p3, c3⟩) (h:=?_); (rintro _ _; dsimp only [NdsK, List.cons_append, List.nil_append])
 (repeat' (first|refine g_seq (h:=?_)|refine g_region (h:=?_)|refine l_nil (h:=?_)|refine n_then (h:=?_)|refine l_pures1 (h:=?_)|refine l_guard_yes (h:=?_)|refine l_load (h:=?_)|(refine l_box (h:=?_); intro _)|(refine l_alloc (h:=?_); intro _)|refine g_skip (h:=?_)|(refine g_spF (h:=?_); intro h)))
 rename_i b1 b2
 (refine g_draw [cl b1 175 (ndA ⟨false, keys, [], kids⟩ ⟨p1, c1, p2, c2, p3, c3⟩).toList] (h := a_pass2 (h:=?_)))
 (repeat' (first|refine l_nil (h:=?_)|refine n_then (h:=?_)|(refine l_atc ?_; refine l_call_ (laidU1 keys p1 c1 i 0 _ _ x _ 0 rfl rfl (by omega) (by omega) (by omega)) ?_; rintro _ _ _ ⟨q1, d1, rfl, rfl⟩ he; cases he)|(refine l_atc ?_; refine l_call_ (laidI1 kids p3 c3 (i + 1) 0 _ _ k _ 0 ew rfl (by omega) (by omega) (by omega)) ?_; rintro _ _ _ ⟨q2, d2, rfl, rfl⟩ he; cases he)|refine l_store (h:=?_)|(refine l_buildSlice1 (h:=?_); intro _)|refine g_ret (h:=?_)|refine a_done (h:=?_)|refine a_load (h := a_pass2 (h:=?_))|refine a_one (h:=?_)|refine n_any (h := a_pass2 (h:=?_))|refine a_fork2 (h1 := ?_) (h2 := ?_)|refine a1_of (h:=?_)))
 all_goals
  refine n_inv (fun i => vec_nil (9) (1) i) ?_
 all_goals
  (refine n_shut (A := Nds ⟨false, laidL keys i 0 [x], [], laidL kids (i + 1) 0 [k]⟩ ⟨q1, d1, none, 0, q2, d2⟩) (K := NdsK ⟨false, laidL keys i 0 [x], [], laidL kids (i + 1) 0 [k]⟩ ⟨q1, d1, none, 0, q2, d2⟩ (())) (hid_shuts (()) trivial) (h:=?_) (p := by dsimp only [NdsK]; (try simp only [List.map_nil, List.length_nil, List.length_set, List.length_append, List.length_cons, List.length_singleton, List.map_append, List.map_cons, Nat.zero_add]); exact parts_of))
 all_goals
  (refine n_shut (A := Nds ⟨false, keys, [], kids⟩ ⟨p1, c1, p2, c2, p3, c3⟩) (K := NdsK ⟨false, keys, [], kids⟩ ⟨p1, c1, p2, c2, p3, c3⟩ (())) (hid_shuts (()) trivial) (h:=?_) (p := by dsimp only [NdsK]; (try simp only [List.map_nil, List.length_nil, List.length_set, List.length_append, List.length_cons, List.length_singleton, List.map_append, List.map_cons, Nat.zero_add]); exact parts_of))
 all_goals
  refine r_retk [Nds ⟨false, laidL keys i 0 [x], [], laidL kids (i + 1) 0 [k]⟩ ⟨q1, d1, none, 0, q2, d2⟩, Nds ⟨false, keys, [], kids⟩ ⟨p1, c1, p2, c2, p3, c3⟩] ?_
 all_goals
  exact ⟨⟨q1, d1, none, 0, q2, d2⟩, rfl, rfl⟩
set_option maxHeartbeats 1000000 in
theorem nUnhang_does (d : Nd) (r : Rw) (i : Nat) (hl : d.leaf = false) (hf : d.fits) (hi : i < d.keys.length) (hk : d.vals = []) : Does Tryz.prog 130 [ndV d r, .int .i64 i] [Nds d r]
  (fun u H => ∃ r', u = ndV (d.unhang i) r' ∧ H = [Nds (d.unhang i) r', Nds d r]) := by
 obtain ⟨leaf, keys, vals, kids⟩ := d
 obtain ⟨p1, c1, p2, c2, p3, c3⟩ := r
 obtain ⟨f1, f2, f3, f4⟩ := hf
 dsimp only at f1 f2 f3 f4 hl hi hk
 subst hl hk
 have ew : IntKind.i64.wrap ((i : Int) + 1) = ((i + 1 : Nat) : Int) := by rw [wrapI64 (by omega)]; rfl
 refine does_of Tryz.func130 Tryz.ntmps130 rfl rfl rfl (fun w0 F0 => ?_)
 refine g_open (A := Nds ⟨false, keys, [], kids⟩ ⟨p1, c1, p2, c2, p3, c3⟩) (h:=?_); (rintro _ _; dsimp only [NdsK, List.cons_append, List.nil_append])
 (repeat' (first|refine g_seq (h:=?_)|refine g_region (h:=?_)|refine l_nil (h:=?_)|refine n_then (h:=?_)|refine l_pures1 (h:=?_)|refine l_guard_yes (h:=?_)|refine l_load (h:=?_)|(refine l_box (h:=?_); intro _)|(refine l_alloc (h:=?_); intro _)|refine g_skip (h:=?_)|(refine g_spF (h:=?_); intro h)))
 rename_i b1 b2
 (refine g_draw [cl b1 175 (ndA ⟨false, keys, [], kids⟩ ⟨p1, c1, p2, c2, p3, c3⟩).toList] (h := a_pass2 (h:=?_)))
 (repeat' (first|refine l_nil (h:=?_)|refine n_then (h:=?_)|(refine l_atc ?_; refine l_call_ (laidU0 keys p1 c1 i 1 _ 1 rfl rfl (by omega) (by omega) (by omega)) ?_; rintro _ _ _ ⟨q1, d1, rfl, rfl⟩ he; cases he)|(refine l_atc ?_; refine l_call_ (laidI0 kids p3 c3 (i + 1) 1 _ 1 ew rfl (by omega) (by omega) (by omega)) ?_; rintro _ _ _ ⟨q2, d2, rfl, rfl⟩ he; cases he)|refine l_store (h:=?_)|refine g_ret (h:=?_)|refine a_done (h:=?_)|refine a_load (h := a_pass2 (h:=?_))|refine a_one (h:=?_)|refine n_any (h := a_pass2 (h:=?_))))
 all_goals
  refine n_inv (fun i => vec_nil (9) (1) i) ?_
 all_goals
  (refine n_shut (A := Nds ⟨false, laidL keys i 1 [], [], laidL kids (i + 1) 1 []⟩ ⟨q1, d1, none, 0, q2, d2⟩) (K := NdsK ⟨false, laidL keys i 1 [], [], laidL kids (i + 1) 1 []⟩ ⟨q1, d1, none, 0, q2, d2⟩ (())) (hid_shuts (()) trivial) (h:=?_) (p := by dsimp only [NdsK]; (try simp only [List.map_nil, List.length_nil, List.length_set, List.length_append, List.length_cons, List.length_singleton, List.map_append, List.map_cons, Nat.zero_add]); exact parts_of))
 all_goals
  (refine n_shut (A := Nds ⟨false, keys, [], kids⟩ ⟨p1, c1, p2, c2, p3, c3⟩) (K := NdsK ⟨false, keys, [], kids⟩ ⟨p1, c1, p2, c2, p3, c3⟩ (())) (hid_shuts (()) trivial) (h:=?_) (p := by dsimp only [NdsK]; (try simp only [List.map_nil, List.length_nil, List.length_set, List.length_append, List.length_cons, List.length_singleton, List.map_append, List.map_cons, Nat.zero_add]); exact parts_of))
 all_goals
  refine r_retk [Nds ⟨false, laidL keys i 1 [], [], laidL kids (i + 1) 1 []⟩ ⟨q1, d1, none, 0, q2, d2⟩, Nds ⟨false, keys, [], kids⟩ ⟨p1, c1, p2, c2, p3, c3⟩] ?_
 all_goals
  exact ⟨⟨q1, d1, none, 0, q2, d2⟩, rfl, rfl⟩
theorem laidL_take {α : Type} (l : List α) (k n : Nat) (h : l.length ≤ k + n) : laidL l k n [] = l.take k := by
 rw [laidL, List.drop_of_length_le h]; simp
theorem laidL_drop {α : Type} (l : List α) (n : Nat) : laidL l 0 n [] = l.drop n := by simp [laidL]
set_option maxHeartbeats 1000000 in
theorem frontL_does (d : Nd) (r : Rw) (nb k : Nat) (hl : d.leaf = true) (hf : d.fits) (hv : d.vals.length = d.keys.length) (hi : k < 10000) (hk : d.kids = []) : Does Tryz.prog 133 [.int .i64 k, .pointer (some ⟨nb, 0, none⟩)] [cl nb 175 (ndA d r).toList, Nds d r]
  (fun u H => ∃ r', u = ndV (d.front k) r' ∧ H = [Nds (d.front k) r', cl nb 175 (ndA d r).toList, Nds d r]) := by
 obtain ⟨leaf, keys, vals, kids⟩ := d
 obtain ⟨p1, c1, p2, c2, p3, c3⟩ := r
 obtain ⟨f1, f2, f3, f4⟩ := hf
 dsimp only at f1 f2 f3 f4 hl hi hk hv
 subst hl hk
 have el1 : laidL keys k keys.length [] = keys.take k := laidL_take _ _ _ (by omega)
 have el2 : laidL vals k keys.length [] = vals.take k := laidL_take _ _ _ (by omega)
 have lu := laidU0 keys p1 c1 k keys.length _ _ rfl rfl (by omega) (by omega) (by omega)
 have ls := laidS0 vals p2 c2 k keys.length _ _ rfl rfl (by omega) (by omega) (by omega)
 rw [el1] at lu
 rw [el2] at ls
 refine does_of Tryz.func133 Tryz.ntmps133 rfl rfl rfl (fun w0 F0 => ?_)
 refine g_open (A := Nds ⟨true, keys, vals, []⟩ ⟨p1, c1, p2, c2, p3, c3⟩) (h:=?_); (rintro _ _; dsimp only [NdsK, List.cons_append, List.nil_append])
 (repeat' (first|refine g_seq (h:=?_)|refine g_region (h:=?_)|refine l_nil (h:=?_)|refine n_then (h:=?_)|refine l_pures1 (h:=?_)|refine l_load (h:=?_)|(refine l_alloc (h:=?_); intro _)|refine g_cond_t (h:=?_)))
 (refine g_draw [cl nb 175 (ndA ⟨true, keys, vals, []⟩ ⟨p1, c1, p2, c2, p3, c3⟩).toList] (h := a_pass2 (h:=?_)))
 (repeat' (first|refine l_nil (h:=?_)|refine n_then (h:=?_)|(refine l_atc ?_; refine l_call_ (lu) ?_; rintro _ _ _ ⟨q1, d1, rfl, rfl⟩ he; cases he)|(refine l_atc ?_; refine l_call_ (ls) ?_; rintro _ _ _ ⟨q2, d2, rfl, rfl⟩ he; cases he)|refine l_store (h:=?_)|refine g_ret (h:=?_)|refine n_then_ret (h:=?_)|refine a_done (h:=?_)|refine a_load (h := a_pass2 (h:=?_))|refine a_one (h:=?_)|refine n_any (h := a_pass2 (h:=?_))))
 all_goals
  refine n_inv (fun i => vec_nil (3) (1) i) ?_
 all_goals
  (refine n_shut (A := Nds ⟨true, keys.take k, vals.take k, []⟩ ⟨q1, d1, q2, d2, none, 0⟩) (K := NdsK ⟨true, keys.take k, vals.take k, []⟩ ⟨q1, d1, q2, d2, none, 0⟩ (())) (hid_shuts (()) trivial) (h:=?_) (p := by dsimp only [NdsK]; (try simp only [List.map_nil, List.length_nil, List.length_set, List.length_append, List.length_cons, List.length_singleton, List.map_append, List.map_cons, Nat.zero_add]); exact parts_of))
 all_goals
  (refine n_shut (A := Nds ⟨true, keys, vals, []⟩ ⟨p1, c1, p2, c2, p3, c3⟩) (K := NdsK ⟨true, keys, vals, []⟩ ⟨p1, c1, p2, c2, p3, c3⟩ (())) (hid_shuts (()) trivial) (h:=?_) (p := by dsimp only [NdsK]; (try simp only [List.map_nil, List.length_nil, List.length_set, List.length_append, List.length_cons, List.length_singleton, List.map_append, List.map_cons, Nat.zero_add]); exact parts_of))
 all_goals
  refine r_retk [Nds ⟨true, keys.take k, vals.take k, []⟩ ⟨q1, d1, q2, d2, none, 0⟩, cl nb 175 [.bool true, .slice p1 keys.length c1, .slice p2 vals.length c2, .slice p3 0 c3], Nds ⟨true, keys, vals, []⟩ ⟨p1, c1, p2, c2, p3, c3⟩] ?_
 all_goals
  exact ⟨⟨q1, d1, q2, d2, none, 0⟩, rfl, rfl⟩
set_option maxHeartbeats 1000000 in
theorem frontB_does (d : Nd) (r : Rw) (nb k : Nat) (hl : d.leaf = false) (hf : d.fits) (hi : k < 10000) (hk : d.vals = []) : Does Tryz.prog 133 [.int .i64 k, .pointer (some ⟨nb, 0, none⟩)] [cl nb 175 (ndA d r).toList, Nds d r]
  (fun u H => ∃ r', u = ndV (d.front k) r' ∧ H = [Nds (d.front k) r', cl nb 175 (ndA d r).toList, Nds d r]) := by
 obtain ⟨leaf, keys, vals, kids⟩ := d
 obtain ⟨p1, c1, p2, c2, p3, c3⟩ := r
 obtain ⟨f1, f2, f3, f4⟩ := hf
 dsimp only at f1 f2 f3 f4 hl hi hk
 subst hl hk
 have ew : IntKind.i64.wrap ((k : Int) + 1) = ((k + 1 : Nat) : Int) := by rw [wrapI64 (by omega)]; rfl
 have el1 : laidL keys k keys.length [] = keys.take k := laidL_take _ _ _ (by omega)
 have el2 : laidL kids (k + 1) kids.length [] = kids.take (k + 1) := laidL_take _ _ _ (by omega)
 have lu := laidU0 keys p1 c1 k keys.length _ _ rfl rfl (by omega) (by omega) (by omega)
 have ls := laidI0 kids p3 c3 (k + 1) kids.length _ _ ew rfl (by omega) (by omega) (by omega)
 rw [el1] at lu
 rw [el2] at ls
 refine does_of Tryz.func133 Tryz.ntmps133 rfl rfl rfl (fun w0 F0 => ?_)
 refine g_open (A := Nds ⟨false, keys, [], kids⟩ ⟨p1, c1, p2, c2, p3, c3⟩) (h:=?_); (rintro _ _; dsimp only [NdsK, List.cons_append, List.nil_append])
 (repeat' (first|refine g_seq (h:=?_)|refine g_region (h:=?_)|refine l_nil (h:=?_)|refine n_then (h:=?_)|refine l_pures1 (h:=?_)|refine l_load (h:=?_)|(refine l_alloc (h:=?_); intro _)|refine g_skip (h:=?_)|refine g_cond_f (h:=?_)))
 (refine g_draw [cl nb 175 (ndA ⟨false, keys, [], kids⟩ ⟨p1, c1, p2, c2, p3, c3⟩).toList] (h := a_pass2 (h:=?_)))
 (repeat' (first|refine l_nil (h:=?_)|refine n_then (h:=?_)|(refine l_atc ?_; refine l_call_ (lu) ?_; rintro _ _ _ ⟨q1, d1, rfl, rfl⟩ he; cases he)|(refine l_atc ?_; refine l_call_ (ls) ?_; rintro _ _ _ ⟨q2, d2, rfl, rfl⟩ he; cases he)|refine l_store (h:=?_)|refine g_ret (h:=?_)|refine a_done (h:=?_)|refine a_load (h := a_pass2 (h:=?_))|refine a_one (h:=?_)|refine n_any (h := a_pass2 (h:=?_))))
 all_goals
  refine n_inv (fun i => vec_nil (9) (1) i) ?_
 all_goals
  (refine n_shut (A := Nds ⟨false, keys.take k, [], kids.take (k + 1)⟩ ⟨q1, d1, none, 0, q2, d2⟩) (K := NdsK ⟨false, keys.take k, [], kids.take (k + 1)⟩ ⟨q1, d1, none, 0, q2, d2⟩ (())) (hid_shuts (()) trivial) (h:=?_) (p := by dsimp only [NdsK]; (try simp only [List.map_nil, List.length_nil, List.length_set, List.length_append, List.length_cons, List.length_singleton, List.map_append, List.map_cons, Nat.zero_add]); exact parts_of))
 all_goals
  (refine n_shut (A := Nds ⟨false, keys, [], kids⟩ ⟨p1, c1, p2, c2, p3, c3⟩) (K := NdsK ⟨false, keys, [], kids⟩ ⟨p1, c1, p2, c2, p3, c3⟩ (())) (hid_shuts (()) trivial) (h:=?_) (p := by dsimp only [NdsK]; (try simp only [List.map_nil, List.length_nil, List.length_set, List.length_append, List.length_cons, List.length_singleton, List.map_append, List.map_cons, Nat.zero_add]); exact parts_of))
 all_goals
  refine r_retk [Nds ⟨false, keys.take k, [], kids.take (k + 1)⟩ ⟨q1, d1, none, 0, q2, d2⟩, cl nb 175 [.bool false, .slice p1 keys.length c1, .slice p2 0 c2, .slice p3 kids.length c3], Nds ⟨false, keys, [], kids⟩ ⟨p1, c1, p2, c2, p3, c3⟩] ?_
 all_goals
  exact ⟨⟨q1, d1, none, 0, q2, d2⟩, rfl, rfl⟩
theorem front_does (d : Nd) (r : Rw) (nb k : Nat) (hp : d.plain) (hf : d.fits) (hi : k < 10000) : Does Tryz.prog 133 [.int .i64 k, .pointer (some ⟨nb, 0, none⟩)] [cl nb 175 (ndA d r).toList, Nds d r]
  (fun u H => ∃ r', u = ndV (d.front k) r' ∧ H = [Nds (d.front k) r', cl nb 175 (ndA d r).toList, Nds d r]) := by
 have hv := hp.vals
 have hk := hp.kids
 cases hl : d.leaf
 ·rw [hl] at hv; exact frontB_does d r nb k hl hf hi (List.length_eq_zero_iff.1 (by simpa using hv))
 ·rw [hl] at hv hk; exact frontL_does d r nb k hl hf (by simpa using hv) hi (List.length_eq_zero_iff.1 (by simpa using hk))
theorem Nd.cut_step {d : Nd} {m k : Nat} (h : (d.front k).size < d.size / 2) : d.cut (m + 1) k = d.cut m (k + 1) := by rw [Nd.cut, if_pos h]
theorem Nd.cut_stop {d : Nd} {m k : Nat} (h : ¬ (d.front k).size < d.size / 2) : d.cut m k = k := by
 cases m with
 | zero => rfl
 | succ m => rw [Nd.cut, if_neg h]
theorem Nd.front_size {d : Nd} (hp : d.plain) (k : Nat) : (d.front k).size ≤ d.size := by
 have h1 : (d.keys.take k).length ≤ d.keys.length := by rw [List.length_take]; omega
 have h2 : (d.kids.take (k + 1)).length ≤ d.kids.length := by rw [List.length_take]; omega
 have h3 := sumL_take_le d.vals k
 cases hl : d.leaf <;> simp only [Nd.size, Nd.front, hl, if_true, Bool.false_eq_true, if_false] <;> omega
theorem Nd.front_fits {d : Nd} (hf : d.fits) (k : Nat) : (d.front k).fits := by
 have h1 : (d.keys.take k).length ≤ d.keys.length := by rw [List.length_take]; omega
 have h2 : (d.kids.take (k + 1)).length ≤ d.kids.length := by rw [List.length_take]; omega
 have h3 := sumL_take_le d.vals k
 have h4 : (d.vals.take k).length ≤ d.vals.length := by rw [List.length_take]; omega
 obtain ⟨f1, f2, f3, f4⟩ := hf
 cases hl : d.leaf <;> constructor <;> simp only [Nd.front, hl, if_true, Bool.false_eq_true, if_false, List.length_nil, sumL_nil] <;> omega
theorem frontR_does (d : Nd) (r : Rw) (nb k : Nat) (hp : d.plain) (hf : d.fits) (hi : k < 10000) : Does Tryz.prog 133 [.int .i64 k, .pointer (some ⟨nb, 0, none⟩)] (cl nb 175 (ndA d r).toList :: NdsK d r ())
  (fun u H => ∃ r', u = ndV (d.front k) r' ∧ H = NdsK d r () ++ [Nds (d.front k) r', cl nb 175 (ndA d r).toList]) := by
 intro w F s
 obtain ⟨F1, F2, a, s', dj, un⟩ := s
 refine (front_does d r nb k hp hf hi w F ⟨F1, F2, a, ⟨F2, fun _ => False, ⟨(), trivial, s'⟩, fun _ h => h, fun _ _ h => h, fun b => ⟨.inl, fun o => o.elim id False.elim⟩⟩, dj, un⟩).mono ?_
 rintro e w' ⟨v, H', he, ⟨r', hu, rfl⟩, i⟩
 obtain ⟨_, _, i'⟩ := (i.take (Take.there (Take.there Take.here))).opens (hid_opens (p := fun _ : Unit => True) (K := NdsK d r))
 exact ⟨v, _, he, ⟨r', hu, rfl⟩, i'⟩
set_option maxHeartbeats 1000000 in
theorem splitB_tail (d : Nd) (r : Rw) (k b1 b2 b3 : Nat) (hl : d.leaf = false) (hp : d.plain) (hf : d.fits) (he : k = d.at') (hk : 1 ≤ k ∧ k + 1 < d.keys.length) (w0 : World) (F0 : Nat → Prop) :
  G Tryz.prog 70 w0 F0 (nav [1, 1, 1, 1, 1, 1, 1, 1] (bdy Tryz.f108)) (Post Tryz.prog Tryz.f108 w0 F0 (fun u H => ∃ r1 r2, u = .tuple #[ndV (d.front d.at') r1, .int .u64 (d.keys.getD d.at' 0 : Nat), ndV (d.back d.at') r2, .bool true] ∧ H = [Nds (d.front d.at') r1, Nds (d.back d.at') r2, Nds d r])) [(9, .int .i64 k), (8, .func (.func 133) #[] #[.pointer (some ⟨b1, 0, none⟩)]), (6, .int .i64 1), (1, .pointer (some ⟨b1, 0, none⟩)), (2, .pointer (some ⟨b2, 0, none⟩)), (4, .pointer (some ⟨b3, 0, none⟩))] [] [cl b1 175 #[.bool false, .slice r.p1 d.keys.length r.c1, .slice r.p2 d.vals.length r.c2, .slice r.p3 d.kids.length r.c3].toList, Nds d r, cl b2 175 [.bool false, .slice none 0 0, .slice none 0 0, .slice none 0 0], cl b3 175 [.bool false, .slice none 0 0, .slice none 0 0, .slice none 0 0]] := by
 rw [← he]
 clear he
 have hu : d.up = 1 := by simp [Nd.up, hl]
 obtain ⟨p1, c1, p2, c2, p3, c3⟩ := r
 dsimp only
 have hkl := hf.k
 have hv := hp.vals
 have hki := hp.kids
 simp only [hl, if_true, Bool.false_eq_true, if_false] at hv hki
 have hb : d.back k = ⟨false, d.keys.drop (k + 1), [], d.kids.drop (k + 1)⟩ := by simp [Nd.back, hl, hu]
 have hfr := frontR_does d ⟨p1, c1, p2, c2, p3, c3⟩ b1 k hp hf (by omega)
 simp only [ndA, hl, NdsK, List.cons_append, List.nil_append] at hfr
 have ew1 : IntKind.i64.wrap ((k : Int) + 1) = ((k + 1 : Nat) : Int) := by rw [wrapI64 (by omega)]; omega
 have ew2 : IntKind.i64.wrap ((k : Int) + 1) = ((k + 1 : Nat) : Int) := by rw [wrapI64 (by omega)]; rfl
 have lu := laidU0 d.keys p1 c1 0 (k + 1) 0 _ rfl ew1 (by omega) (by omega) (by omega)
 rw [laidL_drop] at lu
 have l2 := laidI0 d.kids p3 c3 0 (k + 1) 0 _ rfl ew2 (by omega) (by omega) (by omega)
 rw [laidL_drop] at l2
 have hg := uGet (l := d.keys) (k := k) (by omega)
 obtain ⟨c, hc⟩ : ∃ c, c = nav [1, 1, 1, 1, 1, 1, 1, 1] (bdy Tryz.f108) := ⟨_, rfl⟩
 rw [← hc]
 dsimp only [nav, bdy, Tryz.f108, Option.getD] at hc
 subst hc
 refine g_open (A := Nds d ⟨p1, c1, p2, c2, p3, c3⟩) (h:=?_); (rintro _ _; dsimp only [NdsK, List.cons_append, List.nil_append])
 (repeat refine g_seq (h:=?_))
 (refine g_draw [cl b1 175 #[.bool false, .slice p1 d.keys.length c1, .slice p2 d.vals.length c2, .slice p3 d.kids.length c3].toList] (h := a_pass2 (h:=?_)))
 (repeat' (first|refine g_seq (h:=?_)|refine g_region (h:=?_)|refine l_nil (h:=?_)|refine n_then (h:=?_)|refine l_pures1 (h:=?_)|(refine l_atc ?_; refine l_call_ (lu) ?_; rintro _ _ _ ⟨q1, e1, rfl, rfl⟩ he; cases he)|(refine l_atc ?_; refine l_call_ (l2) ?_; rintro _ _ _ ⟨q2, e2, rfl, rfl⟩ he; cases he)|refine l_load (h:=?_)|refine l_store (h:=?_)|refine a_done (h:=?_)|refine a_load (h := a_pass2 (h:=?_))|refine a_one (h:=?_)|refine n_any (h := a_pass2 (h:=?_))|refine g_cond_f (h:=?_)))
 refine g_ptr (m := d.keys.length) (h:=?_); rintro g rfl hc1
 (refine g_draw [cl b1 175 [.bool false, .slice (some ⟨g, 0, none⟩) d.keys.length c1, .slice p2 d.vals.length c2, .slice p3 d.kids.length c3], vec 78 1 (some ⟨g, 0, none⟩) d.keys.length c1 (uV d.keys)] (h := a_pass2 (h:=?_)))
 (repeat' (first|refine l_nil (h:=?_)|refine n_then (h:=?_)|(refine l_atc ?_; refine l_call_ (hfr) ?_; rintro _ _ _ ⟨r1, rfl, rfl⟩ he; cases he)|refine l_load (h:=?_)|refine l_store (h:=?_)|refine l_indexAddr (h:=?_)|refine g_ret (h:=?_)|refine a_done (h:=?_)|refine a_load (h := a_pass2 (h:=?_))|refine a_one (h:=?_)|refine n_any (h := a_pass2 (h:=?_))|refine a_v (h:=?_)|refine a_load_vec (h := a_pass2 (h:=?_))|refine a_fork2 (h1 := ?_) (h2 := ?_)|refine a_fork3 (h1 := ?_) (h2 := ?_) (h3 := ?_)|refine a1_of (h:=?_)))
 all_goals
  refine n_inv (fun i => vec_nil (9) (1) i) ?_
 all_goals
  (refine n_shut (A := Nds ⟨false, d.keys.drop (k + 1), [], d.kids.drop (k + 1)⟩ ⟨q1, e1, none, 0, q2, e2⟩) (K := NdsK ⟨false, d.keys.drop (k + 1), [], d.kids.drop (k + 1)⟩ ⟨q1, e1, none, 0, q2, e2⟩ (())) (hid_shuts (()) trivial) (h:=?_) (p := by dsimp only [NdsK]; (try simp only [List.map_nil, List.length_nil, List.length_set, List.length_append, List.length_cons, List.length_singleton, List.map_append, List.map_cons, Nat.zero_add]); exact parts_of))
 all_goals
  (refine n_shut (A := Nds d ⟨some ⟨g, 0, none⟩, c1, p2, c2, p3, c3⟩) (K := NdsK d ⟨some ⟨g, 0, none⟩, c1, p2, c2, p3, c3⟩ (())) (hid_shuts (()) trivial) (h:=?_) (p := by dsimp only [NdsK]; (try simp only [List.map_nil, List.length_nil, List.length_set, List.length_append, List.length_cons, List.length_singleton, List.map_append, List.map_cons, Nat.zero_add]); exact parts_of))
 all_goals
  refine r_retk [Nds (d.front k) r1, Nds ⟨false, d.keys.drop (k + 1), [], d.kids.drop (k + 1)⟩ ⟨q1, e1, none, 0, q2, e2⟩, Nds d ⟨some ⟨g, 0, none⟩, c1, p2, c2, p3, c3⟩] ?_
 all_goals
  refine ⟨r1, ⟨q1, e1, none, 0, q2, e2⟩, ?_, ?_⟩ <;> rw [hb]
  rfl
set_option maxHeartbeats 1000000 in
theorem splitB_does (d : Nd) (r : Rw) (hl : d.leaf = false) (hp : d.plain) (hf : d.fits) (hz : d.size < 10000) (hm : 1 ≤ d.keys.length - 1 - 1) : Does Tryz.prog 108 [.agg #[.bool false, .slice r.p1 d.keys.length r.c1, .slice r.p2 d.vals.length r.c2, .slice r.p3 d.kids.length r.c3]] [Nds d r]
  (fun u H => ∃ r1 r2, u = .tuple #[ndV (d.front d.at') r1, .int .u64 (d.keys.getD d.at' 0 : Nat), ndV (d.back d.at') r2, .bool true] ∧ H = [Nds (d.front d.at') r1, Nds (d.back d.at') r2, Nds d r]) := by
 have hfr := fun (b : Nat) k (hk : k < 10000) => front_does d r b k hp hf hk
 have hsz := ndSize_does d r hf
 have hsf := fun k r' => ndSize_does (d.front k) r' (Nd.front_fits hf k)
 have hfs := fun k => Nd.front_size hp k
 have hcs := fun m k => Nd.cut_step (d := d) (m := m) (k := k)
 have hcq := fun m k => Nd.cut_stop (d := d) (m := m) (k := k)
 have hu : d.up = 1 := by simp [Nd.up, hl]
 have hat : d.cut (d.keys.length - 1 - 1 - 1) 1 = d.at' := by rw [Nd.at', hu]
 have htl := fun k b1 b2 b3 => splitB_tail d r k b1 b2 b3 hl hp hf
 have hkl := hf.k
 simp only [ndV, ndA, hl] at hfr hsz
 have e4 : IntKind.i64.wrap (Int.tdiv (d.size : Int) 2) = ((d.size / 2 : Nat) : Int) := by rw [show Int.tdiv (d.size : Int) 2 = ((d.size / 2 : Nat) : Int) from rfl, wrapI64 (by omega)]
 have ew0 : IntKind.i64.wrap ((d.keys.length : Int) - 1) = ((d.keys.length - 1 : Nat) : Int) := by rw [wrapI64 (by omega)]; omega
 have ew1 : IntKind.i64.wrap (IntKind.i64.wrap ((d.keys.length : Int) - 1) - 1) = ((d.keys.length - 1 - 1 : Nat) : Int) := by rw [ew0, wrapI64 (by omega)]; omega
 refine does_of Tryz.func108 Tryz.ntmps108 rfl rfl rfl (fun w0 F0 => ?_)
 (repeat' (first|refine g_seq (h:=?_)|refine g_region (h:=?_)|refine l_nil (h:=?_)|refine n_then (h:=?_)|refine l_pures1 (h:=?_)|refine l_load (h:=?_)|(refine l_box (h:=?_); intro _)|(refine l_alloc (h:=?_); intro _)|refine g_skip (h:=?_)|refine g_block (h:=?_)|refine g_cond_t (h:=?_)|(refine g_spF (h:=?_); intro h)))
 rw [ew1]
 rename_i b1 b2 b3
 (refine g_loop (fun k : Nat => [(9, .int .i64 k), (7, .int .i64 ((d.keys.length - 1 - 1) : Nat)), (8, .func (.func 133) #[] #[.pointer (some ⟨b1, 0, none⟩)]), (6, .int .i64 1), (1, .pointer (some ⟨b1, 0, none⟩)), (2, .pointer (some ⟨b2, 0, none⟩)), (4, .pointer (some ⟨b3, 0, none⟩))]) (fun _ => [cl b1 175 #[.bool false, .slice r.p1 d.keys.length r.c1, .slice r.p2 d.vals.length r.c2, .slice r.p3 d.kids.length r.c3].toList, Nds d r, cl b2 175 [.bool false, .slice none 0 0, .slice none 0 0, .slice none 0 0], cl b3 175 [.bool false, .slice none 0 0, .slice none 0 0, .slice none 0 0]]) (fun k => (1 ≤ k ∧ k ≤ (d.keys.length - 1 - 1)) ∧ d.cut ((d.keys.length - 1 - 1) - k) k = d.at') (fun k => d.keys.length - k) (1) ?_ ?_ ?_ ?_; rotate_left; (repeat (first | refine ts_nil | (refine ts_cons rfl ?_ ?_; first | (with_reducible rfl) | rotate_left))); (first | (intro _ i; with_reducible refine i) | rotate_left); rotate_left; (try omega); rotate_right)
 ·intro k hk
  dsimp only at hk ⊢
  obtain ⟨hk, hkc⟩ := hk
  have hfk := hfs k
  have ew2 : IntKind.i64.wrap ((k : Int) + 1) = ((k + 1 : Nat) : Int) := by rw [wrapI64 (by omega)]; rfl
  have hk0 : d.keys.length - 1 - 1 - k = 0 → k = d.at' := fun e => by rw [e] at hkc; exact hkc
  have hk1 : ¬ (d.front k).size < d.size / 2 → k = d.at' := fun e => (hcq _ _ e).symm.trans hkc
  have hk2 : k < d.keys.length - 1 - 1 → (d.front k).size < d.size / 2 → d.cut (d.keys.length - 1 - 1 - (k + 1)) (k + 1) = d.at' := fun e1 e2 => by
   rw [← hcs _ _ e2, show d.keys.length - 1 - 1 - (k + 1) + 1 = d.keys.length - 1 - 1 - k by omega]; exact hkc
  (repeat refine g_seq (h:=?_))
  (refine g_draw [cl b1 175 #[.bool false, .slice r.p1 d.keys.length r.c1, .slice r.p2 d.vals.length r.c2, .slice r.p3 d.kids.length r.c3].toList] (h := a_pass2 (h:=?_)))
  (repeat' (first|((with_reducible show G _ _ _ _ (Code.seq (Code.region 11 _ _) _) _ _ _ _); exact g_bang (htl k b1 b2 b3 (by first|exact hk0 (by omega)|exact hk1 (by omega)) (by omega) _ _))|refine g_region (h:=?_)|refine l_nil (h:=?_)|refine n_then (h:=?_)|refine l_pures1 (h:=?_)|(refine l_atc ?_; refine l_call_ (hfr b1 k (by omega)) ?_; rintro _ _ _ ⟨r', rfl, rfl⟩ he; cases he)|(refine l_atc ?_; refine l_call (hsf k _) ?_)|(refine l_atc ?_; refine l_call (hsz) ?_)|refine l_guard_yes (h:=?_)|refine l_guard_no (h:=?_)|refine l_load (h:=?_)|refine g_skip (h:=?_)|refine g_block (h:=?_)|refine g_exit (h:=?_)|refine n_then_exit (h:=?_)|refine n_block_hit (h:=?_)|refine a_done (h:=?_)|refine a_one (h:=?_)|refine n_any (h := a_pass2 (h:=?_))|refine a_vg (h:=?_)|refine a_no (h:=?_)|refine n_block (h:=?_)|refine g_cond_f (h:=?_)|(refine a_sp (h1 := ?_) (h0 := ?_) <;> intro h)|(refine g_sp (h1 := ?_) (h0 := ?_) <;> intro h)|refine a_fork2 (h1 := ?_) (h2 := ?_)|refine a1_of (h:=?_)))
  all_goals
   (refine n_back (k + 1) ?_ ?_ ?_ ?_; rotate_left; rotate_left; (repeat (first | refine ts_nil | (refine ts_cons rfl ?_ ?_; first | (with_reducible rfl) | rotate_left))); (first | (intro _ i; with_reducible refine i) | rotate_left); (try omega); (try omega))
  all_goals (try rw [ew2])
  all_goals
   (intro _ i; exact inv_keep parts_of i)
 ·rfl
 ·(intro _ i; exact inv_keep parts_of i)
set_option maxHeartbeats 1000000 in
theorem splitL_tail (d : Nd) (r : Rw) (k b1 b2 b3 : Nat) (hl : d.leaf = true) (hp : d.plain) (hf : d.fits) (he : k = d.at') (hk : 1 ≤ k ∧ k + 0 < d.keys.length) (w0 : World) (F0 : Nat → Prop) :
  G Tryz.prog 70 w0 F0 (nav [1, 1, 1, 1, 1, 1, 1, 1] (bdy Tryz.f108)) (Post Tryz.prog Tryz.f108 w0 F0 (fun u H => ∃ r1 r2, u = .tuple #[ndV (d.front d.at') r1, .int .u64 (d.keys.getD d.at' 0 : Nat), ndV (d.back d.at') r2, .bool true] ∧ H = [Nds (d.front d.at') r1, Nds (d.back d.at') r2, Nds d r])) [(9, .int .i64 k), (8, .func (.func 133) #[] #[.pointer (some ⟨b1, 0, none⟩)]), (6, .int .i64 0), (1, .pointer (some ⟨b1, 0, none⟩)), (2, .pointer (some ⟨b2, 0, none⟩)), (4, .pointer (some ⟨b3, 0, none⟩))] [] [cl b1 175 #[.bool true, .slice r.p1 d.keys.length r.c1, .slice r.p2 d.vals.length r.c2, .slice r.p3 d.kids.length r.c3].toList, Nds d r, cl b2 175 [.bool false, .slice none 0 0, .slice none 0 0, .slice none 0 0], cl b3 175 [.bool false, .slice none 0 0, .slice none 0 0, .slice none 0 0]] := by
 rw [← he]
 clear he
 have hu : d.up = 0 := by simp [Nd.up, hl]
 obtain ⟨p1, c1, p2, c2, p3, c3⟩ := r
 dsimp only
 have hkl := hf.k
 have hv := hp.vals
 have hki := hp.kids
 simp only [hl, if_true, Bool.false_eq_true, if_false] at hv hki
 have hb : d.back k = ⟨true, d.keys.drop (k + 0), d.vals.drop k, []⟩ := by simp [Nd.back, hl, hu]
 have hfr := frontR_does d ⟨p1, c1, p2, c2, p3, c3⟩ b1 k hp hf (by omega)
 simp only [ndA, hl, NdsK, List.cons_append, List.nil_append] at hfr
 have ew1 : IntKind.i64.wrap ((k : Int) + 0) = ((k + 0 : Nat) : Int) := by rw [wrapI64 (by omega)]; omega
 have ew2 : IntKind.i64.wrap ((k : Int) + 1) = ((k + 1 : Nat) : Int) := by rw [wrapI64 (by omega)]; rfl
 have lu := laidU0 d.keys p1 c1 0 (k + 0) 0 _ rfl ew1 (by omega) (by omega) (by omega)
 rw [laidL_drop] at lu
 have l2 := laidS0 d.vals p2 c2 0 k 0 _ rfl rfl (by omega) (by omega) (by omega)
 rw [laidL_drop] at l2
 have hg := uGet (l := d.keys) (k := k) (by omega)
 obtain ⟨c, hc⟩ : ∃ c, c = nav [1, 1, 1, 1, 1, 1, 1, 1] (bdy Tryz.f108) := ⟨_, rfl⟩
 rw [← hc]
 dsimp only [nav, bdy, Tryz.f108, Option.getD] at hc
 subst hc
 refine g_open (A := Nds d ⟨p1, c1, p2, c2, p3, c3⟩) (h:=?_); (rintro _ _; dsimp only [NdsK, List.cons_append, List.nil_append])
 (repeat refine g_seq (h:=?_))
 (refine g_draw [cl b1 175 #[.bool true, .slice p1 d.keys.length c1, .slice p2 d.vals.length c2, .slice p3 d.kids.length c3].toList] (h := a_pass2 (h:=?_)))
 (repeat' (first|refine g_seq (h:=?_)|refine g_region (h:=?_)|refine l_nil (h:=?_)|refine n_then (h:=?_)|refine l_pures1 (h:=?_)|(refine l_atc ?_; refine l_call_ (lu) ?_; rintro _ _ _ ⟨q1, e1, rfl, rfl⟩ he; cases he)|(refine l_atc ?_; refine l_call_ (l2) ?_; rintro _ _ _ ⟨q2, e2, rfl, rfl⟩ he; cases he)|refine l_load (h:=?_)|refine l_store (h:=?_)|refine a_done (h:=?_)|refine a_load (h := a_pass2 (h:=?_))|refine a_one (h:=?_)|refine n_any (h := a_pass2 (h:=?_))|refine g_cond_t (h:=?_)))
 refine g_ptr (m := d.keys.length) (h:=?_); rintro g rfl hc1
 (refine g_draw [cl b1 175 [.bool true, .slice (some ⟨g, 0, none⟩) d.keys.length c1, .slice p2 d.vals.length c2, .slice p3 d.kids.length c3], vec 78 1 (some ⟨g, 0, none⟩) d.keys.length c1 (uV d.keys)] (h := a_pass2 (h:=?_)))
 (repeat' (first|refine l_nil (h:=?_)|refine n_then (h:=?_)|(refine l_atc ?_; refine l_call_ (hfr) ?_; rintro _ _ _ ⟨r1, rfl, rfl⟩ he; cases he)|refine l_load (h:=?_)|refine l_store (h:=?_)|refine l_indexAddr (h:=?_)|refine g_ret (h:=?_)|refine a_done (h:=?_)|refine a_load (h := a_pass2 (h:=?_))|refine a_one (h:=?_)|refine n_any (h := a_pass2 (h:=?_))|refine a_v (h:=?_)|refine a_load_vec (h := a_pass2 (h:=?_))|refine a_fork2 (h1 := ?_) (h2 := ?_)|refine a_fork3 (h1 := ?_) (h2 := ?_) (h3 := ?_)|refine a1_of (h:=?_)))
 all_goals
  refine n_inv (fun i => vec_nil (3) (1) i) ?_
 all_goals
  (refine n_shut (A := Nds ⟨true, d.keys.drop (k + 0), d.vals.drop k, []⟩ ⟨q1, e1, q2, e2, none, 0⟩) (K := NdsK ⟨true, d.keys.drop (k + 0), d.vals.drop k, []⟩ ⟨q1, e1, q2, e2, none, 0⟩ (())) (hid_shuts (()) trivial) (h:=?_) (p := by dsimp only [NdsK]; (try simp only [List.map_nil, List.length_nil, List.length_set, List.length_append, List.length_cons, List.length_singleton, List.map_append, List.map_cons, Nat.zero_add]); exact parts_of))
 all_goals
  (refine n_shut (A := Nds d ⟨some ⟨g, 0, none⟩, c1, p2, c2, p3, c3⟩) (K := NdsK d ⟨some ⟨g, 0, none⟩, c1, p2, c2, p3, c3⟩ (())) (hid_shuts (()) trivial) (h:=?_) (p := by dsimp only [NdsK]; (try simp only [List.map_nil, List.length_nil, List.length_set, List.length_append, List.length_cons, List.length_singleton, List.map_append, List.map_cons, Nat.zero_add]); exact parts_of))
 all_goals
  refine r_retk [Nds (d.front k) r1, Nds ⟨true, d.keys.drop (k + 0), d.vals.drop k, []⟩ ⟨q1, e1, q2, e2, none, 0⟩, Nds d ⟨some ⟨g, 0, none⟩, c1, p2, c2, p3, c3⟩] ?_
 all_goals
  refine ⟨r1, ⟨q1, e1, q2, e2, none, 0⟩, ?_, ?_⟩ <;> rw [hb]
  rfl
set_option maxHeartbeats 1000000 in
theorem splitL_does (d : Nd) (r : Rw) (hl : d.leaf = true) (hp : d.plain) (hf : d.fits) (hz : d.size < 10000) (hm : 1 ≤ d.keys.length - 1 - 0) : Does Tryz.prog 108 [.agg #[.bool true, .slice r.p1 d.keys.length r.c1, .slice r.p2 d.vals.length r.c2, .slice r.p3 d.kids.length r.c3]] [Nds d r]
  (fun u H => ∃ r1 r2, u = .tuple #[ndV (d.front d.at') r1, .int .u64 (d.keys.getD d.at' 0 : Nat), ndV (d.back d.at') r2, .bool true] ∧ H = [Nds (d.front d.at') r1, Nds (d.back d.at') r2, Nds d r]) := by
 have hfr := fun (b : Nat) k (hk : k < 10000) => front_does d r b k hp hf hk
 have hsz := ndSize_does d r hf
 have hsf := fun k r' => ndSize_does (d.front k) r' (Nd.front_fits hf k)
 have hfs := fun k => Nd.front_size hp k
 have hcs := fun m k => Nd.cut_step (d := d) (m := m) (k := k)
 have hcq := fun m k => Nd.cut_stop (d := d) (m := m) (k := k)
 have hu : d.up = 0 := by simp [Nd.up, hl]
 have hat : d.cut (d.keys.length - 1 - 0 - 1) 1 = d.at' := by rw [Nd.at', hu]
 have htl := fun k b1 b2 b3 => splitL_tail d r k b1 b2 b3 hl hp hf
 have hkl := hf.k
 simp only [ndV, ndA, hl] at hfr hsz
 have e4 : IntKind.i64.wrap (Int.tdiv (d.size : Int) 2) = ((d.size / 2 : Nat) : Int) := by rw [show Int.tdiv (d.size : Int) 2 = ((d.size / 2 : Nat) : Int) from rfl, wrapI64 (by omega)]
 have ew0 : IntKind.i64.wrap ((d.keys.length : Int) - 1) = ((d.keys.length - 1 : Nat) : Int) := by rw [wrapI64 (by omega)]; omega
 have ew1 : IntKind.i64.wrap (IntKind.i64.wrap ((d.keys.length : Int) - 1) - 0) = ((d.keys.length - 1 - 0 : Nat) : Int) := by rw [ew0, wrapI64 (by omega)]; omega
 refine does_of Tryz.func108 Tryz.ntmps108 rfl rfl rfl (fun w0 F0 => ?_)
 (repeat' (first|refine g_seq (h:=?_)|refine g_region (h:=?_)|refine l_nil (h:=?_)|refine n_then (h:=?_)|refine l_pures1 (h:=?_)|refine l_load (h:=?_)|(refine l_box (h:=?_); intro _)|(refine l_alloc (h:=?_); intro _)|refine g_skip (h:=?_)|refine g_block (h:=?_)|refine g_cond_f (h:=?_)|(refine g_spF (h:=?_); intro h)))
 rw [ew1]
 rename_i b1 b2 b3
 (refine g_loop (fun k : Nat => [(9, .int .i64 k), (7, .int .i64 ((d.keys.length - 1 - 0) : Nat)), (8, .func (.func 133) #[] #[.pointer (some ⟨b1, 0, none⟩)]), (6, .int .i64 0), (1, .pointer (some ⟨b1, 0, none⟩)), (2, .pointer (some ⟨b2, 0, none⟩)), (4, .pointer (some ⟨b3, 0, none⟩))]) (fun _ => [cl b1 175 #[.bool true, .slice r.p1 d.keys.length r.c1, .slice r.p2 d.vals.length r.c2, .slice r.p3 d.kids.length r.c3].toList, Nds d r, cl b2 175 [.bool false, .slice none 0 0, .slice none 0 0, .slice none 0 0], cl b3 175 [.bool false, .slice none 0 0, .slice none 0 0, .slice none 0 0]]) (fun k => (1 ≤ k ∧ k ≤ (d.keys.length - 1 - 0)) ∧ d.cut ((d.keys.length - 1 - 0) - k) k = d.at') (fun k => d.keys.length - k) (1) ?_ ?_ ?_ ?_; rotate_left; (repeat (first | refine ts_nil | (refine ts_cons rfl ?_ ?_; first | (with_reducible rfl) | rotate_left))); (first | (intro _ i; with_reducible refine i) | rotate_left); rotate_left; (try omega); rotate_right)
 ·intro k hk
  dsimp only at hk ⊢
  obtain ⟨hk, hkc⟩ := hk
  have hfk := hfs k
  have ew2 : IntKind.i64.wrap ((k : Int) + 1) = ((k + 1 : Nat) : Int) := by rw [wrapI64 (by omega)]; rfl
  have hk0 : d.keys.length - 1 - 0 - k = 0 → k = d.at' := fun e => by rw [e] at hkc; exact hkc
  have hk1 : ¬ (d.front k).size < d.size / 2 → k = d.at' := fun e => (hcq _ _ e).symm.trans hkc
  have hk2 : k < d.keys.length - 1 - 0 → (d.front k).size < d.size / 2 → d.cut (d.keys.length - 1 - 0 - (k + 1)) (k + 1) = d.at' := fun e1 e2 => by
   rw [← hcs _ _ e2, show d.keys.length - 1 - 0 - (k + 1) + 1 = d.keys.length - 1 - 0 - k by omega]; exact hkc
  (repeat refine g_seq (h:=?_))
  (refine g_draw [cl b1 175 #[.bool true, .slice r.p1 d.keys.length r.c1, .slice r.p2 d.vals.length r.c2, .slice r.p3 d.kids.length r.c3].toList] (h := a_pass2 (h:=?_)))
  (repeat' (first|((with_reducible show G _ _ _ _ (Code.seq (Code.region 11 _ _) _) _ _ _ _); exact g_bang (htl k b1 b2 b3 (by first|exact hk0 (by omega)|exact hk1 (by omega)) (by omega) _ _))|refine g_region (h:=?_)|refine l_nil (h:=?_)|refine n_then (h:=?_)|refine l_pures1 (h:=?_)|(refine l_atc ?_; refine l_call_ (hfr b1 k (by omega)) ?_; rintro _ _ _ ⟨r', rfl, rfl⟩ he; cases he)|(refine l_atc ?_; refine l_call (hsf k _) ?_)|(refine l_atc ?_; refine l_call (hsz) ?_)|refine l_guard_yes (h:=?_)|refine l_guard_no (h:=?_)|refine l_load (h:=?_)|refine g_skip (h:=?_)|refine g_block (h:=?_)|refine g_exit (h:=?_)|refine n_then_exit (h:=?_)|refine n_block_hit (h:=?_)|refine a_done (h:=?_)|refine a_one (h:=?_)|refine n_any (h := a_pass2 (h:=?_))|refine a_vg (h:=?_)|refine a_no (h:=?_)|refine n_block (h:=?_)|refine g_cond_f (h:=?_)|(refine a_sp (h1 := ?_) (h0 := ?_) <;> intro h)|(refine g_sp (h1 := ?_) (h0 := ?_) <;> intro h)|refine a_fork2 (h1 := ?_) (h2 := ?_)|refine a1_of (h:=?_)))
  all_goals
   (refine n_back (k + 1) ?_ ?_ ?_ ?_; rotate_left; rotate_left; (repeat (first | refine ts_nil | (refine ts_cons rfl ?_ ?_; first | (with_reducible rfl) | rotate_left))); (first | (intro _ i; with_reducible refine i) | rotate_left); (try omega); (try omega))
  all_goals (try rw [ew2])
  all_goals
   (intro _ i; exact inv_keep parts_of i)
 ·rfl
 ·(intro _ i; exact inv_keep parts_of i)
end Go.Proofs.YtelfjhemnnbbpaaGreat
set_option maxRecDepth 20000
namespace Go.Proofs.YtelfjhemnnbbpaaGreat
open Go.Proofs.YtelfjhemnnbbpaaGreat.SL
theorem nSplit_does (d : Nd) (r : Rw) (hp : d.plain) (hf : d.fits) (hz : d.size < 10000) (hm : 1 ≤ d.keys.length - 1 - d.up) : Does Tryz.prog 108 [ndV d r] [Nds d r]
  (fun u H => ∃ r1 r2, u = .tuple #[ndV (d.front d.at') r1, .int .u64 (d.keys.getD d.at' 0 : Nat), ndV (d.back d.at') r2, .bool true] ∧ H = [Nds (d.front d.at') r1, Nds (d.back d.at') r2, Nds d r]) := by
 cases hl : d.leaf
 ·have hu : d.up = 1 := by simp [Nd.up, hl]
  rw [hu] at hm
  have := splitB_does d r hl hp hf hz hm
  simpa only [ndV, ndA, hl] using this
 ·have hu : d.up = 0 := by simp [Nd.up, hl]
  rw [hu] at hm
  have := splitL_does d r hl hp hf hz hm
  simpa only [ndV, ndA, hl] using this
theorem catU2 (x y : List Nat) (p q : Option Addr) (c d sb cc : Nat) (hx : x.length < 100000) (hy : y.length < 100000) :
  Does Tryz.prog 142 [.slice (some ⟨sb, 0, none⟩) 2 cc] [cl sb 173 [.slice p x.length c, .slice q y.length d], vec 78 1 p x.length c (uV (x)), vec 78 1 q y.length d (uV (y))]
   (fun v H => ∃ p' c', v = .slice p' (x ++ y).length c' ∧ H = [vec 78 1 p' (x ++ y).length c' (uV ((x ++ y))), cl sb 173 [.slice p x.length c, .slice q y.length d], vec 78 1 p x.length c (uV (x)), vec 78 1 q y.length d (uV (y))]) := by
 have ec : cat [(.slice p x.length c, uV (x)), (.slice q y.length d, uV (y))] 2 = uV ((x ++ y)) := by simp [cat, uV]
 have hl : (cat [(.slice p x.length c, uV (x)), (.slice q y.length d, uV (y))] 2).length = (x ++ y).length := by rw [ec, uV_len]
 have := ConcatU_does [(.slice p x.length c, uV (x)), (.slice q y.length d, uV (y))] [vec 78 1 p x.length c (uV (x)), vec 78 1 q y.length d (uV (y))] sb cc ?_ ?_ ?_ (by simp)
 ·simp only [List.length_cons, List.length_nil, Nat.zero_add, Nat.reduceAdd, hl] at this
  rw [ec] at this
  exact this
 ·intro s hs
  simp only [List.mem_cons, List.not_mem_nil, or_false] at hs
  rcases hs with rfl | rfl
  ·exact src_vec Take.here (by simp [uV_len])
  
  ·exact src_vec (Take.there Take.here) (by simp [uV_len])
 ·intro s hs
  simp only [List.mem_cons, List.not_mem_nil, or_false] at hs
  rcases hs with rfl | rfl <;> simp [uV, Value.oneCell']
 ·show (cat _ 2).length < _
  rw [hl]; simp only [List.length_append, List.length_cons, List.length_nil]; omega
theorem catU3 (x y : List Nat) (z : Nat) (p q : Option Addr) (c d sb cc mb mc : Nat) (hx : x.length < 100000) (hy : y.length < 100000) :
  Does Tryz.prog 142 [.slice (some ⟨sb, 0, none⟩) 3 cc] [cl sb 173 [.slice p x.length c, .slice (some ⟨mb, 0, none⟩) 1 mc, .slice q y.length d], vec 78 1 p x.length c (uV (x)), vec 78 1 q y.length d (uV (y)), cl mb 78 [.int .u64 (z : Nat)]]
   (fun v H => ∃ p' c', v = .slice p' (x ++ [z] ++ y).length c' ∧ H = [vec 78 1 p' (x ++ [z] ++ y).length c' (uV ((x ++ [z] ++ y))), cl sb 173 [.slice p x.length c, .slice (some ⟨mb, 0, none⟩) 1 mc, .slice q y.length d], vec 78 1 p x.length c (uV (x)), vec 78 1 q y.length d (uV (y)), cl mb 78 [.int .u64 (z : Nat)]]) := by
 have ec : cat [(.slice p x.length c, uV (x)), (.slice (some ⟨mb, 0, none⟩) 1 mc, [.int .u64 (z : Nat)]), (.slice q y.length d, uV (y))] 3 = uV ((x ++ [z] ++ y)) := by simp [cat, uV]
 have hl : (cat [(.slice p x.length c, uV (x)), (.slice (some ⟨mb, 0, none⟩) 1 mc, [.int .u64 (z : Nat)]), (.slice q y.length d, uV (y))] 3).length = (x ++ [z] ++ y).length := by rw [ec, uV_len]
 have := ConcatU_does [(.slice p x.length c, uV (x)), (.slice (some ⟨mb, 0, none⟩) 1 mc, [.int .u64 (z : Nat)]), (.slice q y.length d, uV (y))] [vec 78 1 p x.length c (uV (x)), vec 78 1 q y.length d (uV (y)), cl mb 78 [.int .u64 (z : Nat)]] sb cc ?_ ?_ ?_ (by simp)
 ·simp only [List.length_cons, List.length_nil, Nat.zero_add, Nat.reduceAdd, hl] at this
  rw [ec] at this
  exact this
 ·intro s hs
  simp only [List.mem_cons, List.not_mem_nil, or_false] at hs
  rcases hs with rfl | rfl | rfl
  ·exact src_vec Take.here (by simp [uV_len])
  ·exact src_cl (Take.there (Take.there Take.here)) rfl
  ·exact src_vec (Take.there Take.here) (by simp [uV_len])
 ·intro s hs
  simp only [List.mem_cons, List.not_mem_nil, or_false] at hs
  rcases hs with rfl | rfl | rfl <;> simp [uV, Value.oneCell']
 ·show (cat _ 3).length < _
  rw [hl]; simp only [List.length_append, List.length_cons, List.length_nil]; omega
theorem catS2 (x y : List (List UInt8)) (p q : Option Addr) (c d sb cc : Nat) (hx : x.length < 100000) (hy : y.length < 100000) :
  Does Tryz.prog 143 [.slice (some ⟨sb, 0, none⟩) 2 cc] [cl sb 22 [.slice p x.length c, .slice q y.length d], vec 9 1 p x.length c ((x).map encS), vec 9 1 q y.length d ((y).map encS)]
   (fun v H => ∃ p' c', v = .slice p' (x ++ y).length c' ∧ H = [vec 9 1 p' (x ++ y).length c' (((x ++ y)).map encS), cl sb 22 [.slice p x.length c, .slice q y.length d], vec 9 1 p x.length c ((x).map encS), vec 9 1 q y.length d ((y).map encS)]) := by
 have ec : cat [(.slice p x.length c, (x).map encS), (.slice q y.length d, (y).map encS)] 2 = ((x ++ y)).map encS := by simp [cat, encS]
 have hl : (cat [(.slice p x.length c, (x).map encS), (.slice q y.length d, (y).map encS)] 2).length = (x ++ y).length := by rw [ec, List.length_map]
 have := ConcatS_does [(.slice p x.length c, (x).map encS), (.slice q y.length d, (y).map encS)] [vec 9 1 p x.length c ((x).map encS), vec 9 1 q y.length d ((y).map encS)] sb cc ?_ ?_ ?_ (by simp)
 ·simp only [List.length_cons, List.length_nil, Nat.zero_add, Nat.reduceAdd, hl] at this
  rw [ec] at this
  exact this
 ·intro s hs
  simp only [List.mem_cons, List.not_mem_nil, or_false] at hs
  rcases hs with rfl | rfl
  ·exact src_vec Take.here (by simp [List.length_map])
  
  ·exact src_vec (Take.there Take.here) (by simp [List.length_map])
 ·intro s hs
  simp only [List.mem_cons, List.not_mem_nil, or_false] at hs
  rcases hs with rfl | rfl <;> simp [encS, Value.oneCell']
 ·show (cat _ 2).length < _
  rw [hl]; simp only [List.length_append, List.length_cons, List.length_nil]; omega
theorem catI2 (x y : List Int) (p q : Option Addr) (c d sb cc : Nat) (hx : x.length < 100000) (hy : y.length < 100000) :
  Does Tryz.prog 146 [.slice (some ⟨sb, 0, none⟩) 2 cc] [cl sb 44 [.slice p x.length c, .slice q y.length d], vec 3 1 p x.length c ((x).map encZ'), vec 3 1 q y.length d ((y).map encZ')]
   (fun v H => ∃ p' c', v = .slice p' (x ++ y).length c' ∧ H = [vec 3 1 p' (x ++ y).length c' (((x ++ y)).map encZ'), cl sb 44 [.slice p x.length c, .slice q y.length d], vec 3 1 p x.length c ((x).map encZ'), vec 3 1 q y.length d ((y).map encZ')]) := by
 have ec : cat [(.slice p x.length c, (x).map encZ'), (.slice q y.length d, (y).map encZ')] 2 = ((x ++ y)).map encZ' := by simp [cat, encZ']
 have hl : (cat [(.slice p x.length c, (x).map encZ'), (.slice q y.length d, (y).map encZ')] 2).length = (x ++ y).length := by rw [ec, List.length_map]
 have := ConcatI_does [(.slice p x.length c, (x).map encZ'), (.slice q y.length d, (y).map encZ')] [vec 3 1 p x.length c ((x).map encZ'), vec 3 1 q y.length d ((y).map encZ')] sb cc ?_ ?_ ?_ (by simp)
 ·simp only [List.length_cons, List.length_nil, Nat.zero_add, Nat.reduceAdd, hl] at this
  rw [ec] at this
  exact this
 ·intro s hs
  simp only [List.mem_cons, List.not_mem_nil, or_false] at hs
  rcases hs with rfl | rfl
  ·exact src_vec Take.here (by simp [List.length_map])
  
  ·exact src_vec (Take.there Take.here) (by simp [List.length_map])
 ·intro s hs
  simp only [List.mem_cons, List.not_mem_nil, or_false] at hs
  rcases hs with rfl | rfl <;> simp [encZ', Value.oneCell']
 ·show (cat _ 2).length < _
  rw [hl]; simp only [List.length_append, List.length_cons, List.length_nil]; omega
set_option maxHeartbeats 1000000 in
theorem tBoth_tail (lf : Bool) (ka kb : List Nat) (va vb : List (List UInt8)) (ia ib : List Int) (mid : Nat) (p1 q1 p2 q2 p3 q3 : Option Addr) (c1 d1 c2 d2 c3 d3 : Nat) (b1 b2 b3 b4 : Nat) (s1 s2 : Option Addr) (t1 t2 : Nat) (f1 : ka.length < 10000) (g1 : kb.length < 10000) (w0 : World) (F0 : Nat → Prop) :
  G Tryz.prog 42 w0 F0 (nav [1, 1] (bdy Tryz.f129)) (Post Tryz.prog Tryz.f129 w0 F0 (fun u H => ∃ r', u = ndV (Nd.both ⟨lf, ka, va, ia⟩ mid ⟨lf, kb, vb, ib⟩) r' ∧ H = [Nds (Nd.both ⟨lf, ka, va, ia⟩ mid ⟨lf, kb, vb, ib⟩) r', Nds ⟨lf, ka, va, ia⟩ ⟨p1, c1, p2, c2, p3, c3⟩, Nds ⟨lf, kb, vb, ib⟩ ⟨q1, d1, q2, d2, q3, d3⟩]))
   [(3, .pointer (some ⟨b1, 0, none⟩)), (5, .pointer (some ⟨b2, 0, none⟩)), (1, .int .u64 mid), (6, .pointer (some ⟨b3, 0, none⟩)), (7, .pointer (some ⟨b4, 0, none⟩))] []
   [cl b4 175 [.bool lf, .slice none 0 0, .slice s1 (va ++ vb).length t1, .slice s2 (ia ++ ib).length t2], cl b3 175 #[.bool false, .slice none 0 0, .slice none 0 0, .slice none 0 0].toList, cl b1 175 (ndA ⟨lf, ka, va, ia⟩ ⟨p1, c1, p2, c2, p3, c3⟩).toList, cl b2 175 (ndA ⟨lf, kb, vb, ib⟩ ⟨q1, d1, q2, d2, q3, d3⟩).toList, vec 78 1 p1 ka.length c1 (uV ka), vec 9 1 p2 va.length c2 (va.map encS), vec 3 1 p3 ia.length c3 (ia.map encZ'), vec 78 1 q1 kb.length d1 (uV kb), vec 9 1 q2 vb.length d2 (vb.map encS), vec 3 1 q3 ib.length d3 (ib.map encZ'), vec 9 1 s1 (va ++ vb).length t1 ((va ++ vb).map encS), vec 3 1 s2 (ia ++ ib).length t2 ((ia ++ ib).map encZ')] := by
 have h2 := fun sb cc => catU2 ka kb p1 q1 c1 d1 sb cc (by omega) (by omega)
 have h3 := fun sb cc mb mc => catU3 ka kb mid p1 q1 c1 d1 sb cc mb mc (by omega) (by omega)
 obtain ⟨c, hc⟩ : ∃ c, c = nav [1, 1] (bdy Tryz.f129) := ⟨_, rfl⟩
 rw [← hc]
 dsimp only [nav, bdy, Tryz.f129, Option.getD] at hc
 subst hc
 cases lf
 ·(repeat' (first|refine g_seq (h:=?_)|refine g_region (h:=?_)|refine l_nil (h:=?_)|refine n_then (h:=?_)|refine l_pures1 (h:=?_)|(refine l_atc ?_; refine l_call_ (h3 _ _ _ _) ?_; rintro _ _ _ ⟨s3, t3, rfl, rfl⟩ he; cases he)|refine l_load (h:=?_)|refine l_store (h:=?_)|(refine l_buildSlice1 (h:=?_); intro _)|refine g_ret (h:=?_)|refine g_cond_f (h:=?_)|(refine l_buildSlice3 (h:=?_); intro _)))
  (refine n_shut (A := Nds ⟨false, (ka ++ [mid] ++ kb), va ++ vb, ia ++ ib⟩ ⟨s3, t3, s1, t1, s2, t2⟩) (K := NdsK ⟨false, (ka ++ [mid] ++ kb), va ++ vb, ia ++ ib⟩ ⟨s3, t3, s1, t1, s2, t2⟩ (())) (hid_shuts (()) trivial) (h:=?_) (p := by dsimp only [NdsK]; (try simp only [List.map_nil, List.length_nil, List.length_set, List.length_append, List.length_cons, List.length_singleton, List.map_append, List.map_cons, Nat.zero_add]); exact parts_of))
  (refine n_shut (A := Nds ⟨false, ka, va, ia⟩ ⟨p1, c1, p2, c2, p3, c3⟩) (K := NdsK ⟨false, ka, va, ia⟩ ⟨p1, c1, p2, c2, p3, c3⟩ (())) (hid_shuts (()) trivial) (h:=?_) (p := by dsimp only [NdsK]; (try simp only [List.map_nil, List.length_nil, List.length_set, List.length_append, List.length_cons, List.length_singleton, List.map_append, List.map_cons, Nat.zero_add]); exact parts_of))
  (refine n_shut (A := Nds ⟨false, kb, vb, ib⟩ ⟨q1, d1, q2, d2, q3, d3⟩) (K := NdsK ⟨false, kb, vb, ib⟩ ⟨q1, d1, q2, d2, q3, d3⟩ (())) (hid_shuts (()) trivial) (h:=?_) (p := by dsimp only [NdsK]; (try simp only [List.map_nil, List.length_nil, List.length_set, List.length_append, List.length_cons, List.length_singleton, List.map_append, List.map_cons, Nat.zero_add]); exact parts_of))
  refine r_retk [Nds ⟨false, (ka ++ [mid] ++ kb), va ++ vb, ia ++ ib⟩ ⟨s3, t3, s1, t1, s2, t2⟩, Nds ⟨false, ka, va, ia⟩ ⟨p1, c1, p2, c2, p3, c3⟩, Nds ⟨false, kb, vb, ib⟩ ⟨q1, d1, q2, d2, q3, d3⟩] ?_
  exact ⟨⟨s3, t3, s1, t1, s2, t2⟩, by simp only [ndV, ndA, Nd.both, List.length_append, List.length_cons, List.length_nil, Nat.zero_add, if_true, Bool.false_eq_true, if_false]; rfl, rfl⟩
 ·(repeat' (first|refine g_seq (h:=?_)|refine g_region (h:=?_)|refine l_nil (h:=?_)|refine n_then (h:=?_)|refine l_pures1 (h:=?_)|(refine l_atc ?_; refine l_call_ (h2 _ _) ?_; rintro _ _ _ ⟨s3, t3, rfl, rfl⟩ he; cases he)|refine l_load (h:=?_)|refine l_store (h:=?_)|refine g_ret (h:=?_)|refine g_cond_t (h:=?_)|(refine l_buildSlice2 (h:=?_); intro _)))
  (refine n_shut (A := Nds ⟨true, (ka ++ kb), va ++ vb, ia ++ ib⟩ ⟨s3, t3, s1, t1, s2, t2⟩) (K := NdsK ⟨true, (ka ++ kb), va ++ vb, ia ++ ib⟩ ⟨s3, t3, s1, t1, s2, t2⟩ (())) (hid_shuts (()) trivial) (h:=?_) (p := by dsimp only [NdsK]; (try simp only [List.map_nil, List.length_nil, List.length_set, List.length_append, List.length_cons, List.length_singleton, List.map_append, List.map_cons, Nat.zero_add]); exact parts_of))
  (refine n_shut (A := Nds ⟨true, ka, va, ia⟩ ⟨p1, c1, p2, c2, p3, c3⟩) (K := NdsK ⟨true, ka, va, ia⟩ ⟨p1, c1, p2, c2, p3, c3⟩ (())) (hid_shuts (()) trivial) (h:=?_) (p := by dsimp only [NdsK]; (try simp only [List.map_nil, List.length_nil, List.length_set, List.length_append, List.length_cons, List.length_singleton, List.map_append, List.map_cons, Nat.zero_add]); exact parts_of))
  (refine n_shut (A := Nds ⟨true, kb, vb, ib⟩ ⟨q1, d1, q2, d2, q3, d3⟩) (K := NdsK ⟨true, kb, vb, ib⟩ ⟨q1, d1, q2, d2, q3, d3⟩ (())) (hid_shuts (()) trivial) (h:=?_) (p := by dsimp only [NdsK]; (try simp only [List.map_nil, List.length_nil, List.length_set, List.length_append, List.length_cons, List.length_singleton, List.map_append, List.map_cons, Nat.zero_add]); exact parts_of))
  refine r_retk [Nds ⟨true, (ka ++ kb), va ++ vb, ia ++ ib⟩ ⟨s3, t3, s1, t1, s2, t2⟩, Nds ⟨true, ka, va, ia⟩ ⟨p1, c1, p2, c2, p3, c3⟩, Nds ⟨true, kb, vb, ib⟩ ⟨q1, d1, q2, d2, q3, d3⟩] ?_
  exact ⟨⟨s3, t3, s1, t1, s2, t2⟩, by simp only [ndV, ndA, Nd.both, List.length_append, List.length_cons, List.length_nil, Nat.zero_add, if_true, Bool.false_eq_true, if_false]; rfl, rfl⟩
set_option maxHeartbeats 1000000 in
theorem tBoth_does (a b : Nd) (ra rb : Rw) (mid : Nat) (fa : a.fits) (fb : b.fits) (hb : b.leaf = a.leaf) : Does Tryz.prog 129 [ndV a ra, .int .u64 mid, ndV b rb] [Nds a ra, Nds b rb]
  (fun u H => ∃ r', u = ndV (a.both mid b) r' ∧ H = [Nds (a.both mid b) r', Nds a ra, Nds b rb]) := by
 obtain ⟨lf, ka, va, ia⟩ := a
 obtain ⟨lf', kb, vb, ib⟩ := b
 dsimp only at hb
 subst hb
 rename Bool => lf
 obtain ⟨p1, c1, p2, c2, p3, c3⟩ := ra
 obtain ⟨q1, d1, q2, d2, q3, d3⟩ := rb
 obtain ⟨f1, f2, f3, f4⟩ := fa
 obtain ⟨g1, g2, g3, g4⟩ := fb
 dsimp only at f1 f2 f3 f4 g1 g2 g3 g4
 have hs := fun sb cc => catS2 va vb p2 q2 c2 d2 sb cc (by omega) (by omega)
 have hi := fun sb cc => catI2 ia ib p3 q3 c3 d3 sb cc (by omega) (by omega)
 have ht := fun b1 b2 b3 b4 s1 s2 t1 t2 => tBoth_tail lf ka kb va vb ia ib mid p1 q1 p2 q2 p3 q3 c1 d1 c2 d2 c3 d3 b1 b2 b3 b4 s1 s2 t1 t2 f1 g1
 refine does_of Tryz.func129 Tryz.ntmps129 rfl rfl rfl (fun w0 F0 => ?_)
 refine g_open (A := Nds ⟨lf, ka, va, ia⟩ ⟨p1, c1, p2, c2, p3, c3⟩) (h:=?_); (rintro _ _; dsimp only [NdsK, List.cons_append, List.nil_append])
 refine g_open (A := Nds ⟨lf, kb, vb, ib⟩ ⟨q1, d1, q2, d2, q3, d3⟩) (h:=?_); (rintro _ _; dsimp only [NdsK, List.cons_append, List.nil_append])
 (repeat (first|refine g_seq (h:=?_)|refine g_region (h:=?_)|refine l_nil (h:=?_)|refine n_then (h:=?_)|(refine l_box (h:=?_); intro _)|(refine l_alloc (h:=?_); intro _)))
 rename_i b1 b2 b3
 (refine g_draw [cl b1 175 (ndA ⟨lf, ka, va, ia⟩ ⟨p1, c1, p2, c2, p3, c3⟩).toList, cl b2 175 (ndA ⟨lf, kb, vb, ib⟩ ⟨q1, d1, q2, d2, q3, d3⟩).toList] (h := a_pass2 (h:=?_)))
 (repeat' (first|((with_reducible show G _ _ _ _ (Code.seq (Code.seq (Code.region 2 _ _) _) _) _ _ _ _); exact g_bang (ht _ _ _ _ _ _ _ _ _ _))|refine l_nil (h:=?_)|refine n_then (h:=?_)|(refine l_atc ?_; refine l_call_ (hs _ _) ?_; rintro _ _ _ ⟨s1, t1, rfl, rfl⟩ he; cases he)|(refine l_atc ?_; refine l_call_ (hi _ _) ?_; rintro _ _ _ ⟨s2, t2, rfl, rfl⟩ he; cases he)|refine l_store (h:=?_)|(refine l_alloc (h:=?_); intro _)|refine a_done (h:=?_)|refine a_load (h := a_pass2 (h:=?_))|refine a_one (h:=?_)|refine n_any (h := a_pass2 (h:=?_))|(refine l_buildSlice2 (h:=?_); intro _)|refine a_fork2 (h1 := ?_) (h2 := ?_)|refine a_fork3 (h1 := ?_) (h2 := ?_) (h3 := ?_)|refine a1_of (h:=?_)))
end Go.Proofs.YtelfjhemnnbbpaaGreat
namespace Go.Proofs.YtelfjhemnnbbpaaGreat
open Go.Proofs.YtelfjhemnnbbpaaGreat.SL
def sumAB : List UInt8 → Nat × Nat → Nat × Nat
 | [], p => p
 | c :: l, (a, b) => sumAB l ((a + c.toNat) % 65521, (b + (a + c.toNat) % 65521) % 65521)
theorem sumAB_snoc (c : UInt8) : ∀ (l : List UInt8) (p : Nat × Nat), sumAB (l ++ [c]) p = (((sumAB l p).1 + c.toNat) % 65521, ((sumAB l p).2 + ((sumAB l p).1 + c.toNat) % 65521) % 65521)
 | [], (a, b) => rfl
 | d :: l, (a, b) => by rw [List.cons_append, sumAB, sumAB_snoc c l]; rfl
theorem sumAB_lt : ∀ (l : List UInt8) (p : Nat × Nat), p.1 < 65521 ∧ p.2 < 65521 → (sumAB l p).1 < 65521 ∧ (sumAB l p).2 < 65521
 | [], p, h => h
 | c :: l, (a, b), h => sumAB_lt l _ ⟨Nat.mod_lt _ (by decide), Nat.mod_lt _ (by decide)⟩
def sumP (l : List UInt8) : Nat := (sumAB l (1, 0)).2 * 65536 + (sumAB l (1, 0)).1
theorem sumP_lt (l : List UInt8) : sumP l < 4294967296 := by
 have := sumAB_lt l (1, 0) (by decide)
 unfold sumP; omega
theorem sum_step {A c : Nat} (hA : A < 65521) (hc : c < 65521) : (IntKind.u32.wrap ((A : Int) + (c : Int))).tmod 65521 = ((A + c) % 65521 : Nat) := by
 rw [wrapU32 (by omega), Int.tmod_eq_emod_of_nonneg (by omega)]
 omega
theorem Sum_does (l : List UInt8) (hl : l.length < 9223372036854775808) : Does Tryz.prog 136 [.string (str l)] [] (fun v H => v = .int .u32 (sumP l) ∧ H = []) := by
 refine does_of Tryz.func136 Tryz.ntmps136 rfl rfl rfl (fun w0 F0 => ?_)
 (repeat (first|refine g_seq (h:=?_)|refine g_region (h:=?_)|refine l_nil (h:=?_)|refine n_then (h:=?_)|refine l_pures1 (h:=?_)|refine g_block (h:=?_)))
 (refine g_loop (fun k : Nat => [(8, .int .i64 k), (7, .int .i64 l.length), (6, .string (str l)), (4, .int .u32 (sumAB (l.take k) (1, 0)).2), (3, .int .u32 (sumAB (l.take k) (1, 0)).1), (0, .string (str l))]) (fun _ => []) (fun k => k ≤ l.length) (fun k => l.length - k) (0) ?_ ?_ ?_ ?_; rotate_left; (repeat (first | refine ts_nil | (refine ts_cons rfl ?_ ?_; first | (with_reducible rfl) | rotate_left))); (first | (intro _ i; with_reducible refine i) | rotate_left); rotate_left; (try omega); rotate_right)
 ·intro k hk
  have hlt := sumAB_lt (l.take k) (1, 0) (by decide)
  (repeat' (first|refine g_seq (h:=?_)|refine g_region (h:=?_)|refine l_nil (h:=?_)|refine n_then (h:=?_)|refine l_pures1 (h:=?_)|refine l_index (h:=?_)|refine l_shl (h:=?_)|refine g_skip (h:=?_)|refine g_ret (h:=?_)|refine g_block (h:=?_)|refine g_exit (h:=?_)|refine n_then_exit (h:=?_)|refine n_block_hit (h:=?_)|refine n_block (h:=?_)|(refine g_sp (h1 := ?_) (h0 := ?_) <;> intro h)))
  ·have hby := byteAt_bd l k
   have hkl : k < l.length := by omega
   have hc : IntKind.u32.wrap (byteAt l k) = ((l.getD k 0).toNat : Int) := by rw [wrapU32 (by omega)]; simp [byteAt]
   have ht : sumAB (l.take (k + 1)) (1, 0) = (((sumAB (l.take k) (1, 0)).1 + (l.getD k 0).toNat) % 65521, ((sumAB (l.take k) (1, 0)).2 + ((sumAB (l.take k) (1, 0)).1 + (l.getD k 0).toNat) % 65521) % 65521) := by
    rw [List.take_succ_eq_append_getElem hkl, sumAB_snoc, List.getD, List.getElem?_eq_getElem hkl]; rfl
   have h256 := (l.getD k 0).toNat_lt
   (refine n_back (k + 1) ?_ ?_ ?_ ?_; rotate_left; rotate_left; (repeat (first | refine ts_nil | (refine ts_cons rfl ?_ ?_; first | (with_reducible rfl) | rotate_left))); (first | (intro _ i; with_reducible refine i) | rotate_left); (try omega); (try omega))
   ·rw [wrapI64 (by omega)]; rfl
   ·rw [hc, sum_step hlt.1 (by omega), sum_step hlt.2 (Nat.mod_lt _ (by decide)), ht]
   ·rw [hc, sum_step hlt.1 (by omega), ht]
  ·refine r_ret ?_
   have e : l.take k = l := List.take_of_length_le (by omega)
   have e16 : (2 : Int) ^ min (Int.toNat 16) IntKind.u32.bits = 65536 := by decide
   have hlt' := sumAB_lt l (1, 0) (by decide)
   rw [e, e16]
   refine ⟨?_, rfl⟩
   rw [wrapU32 (n := ((sumAB l (1, 0)).2 : Int) * 65536) (by omega), wrapU32 (by omega)]
   simp [packV, sumP]
 all_goals rfl
theorem shr8 {n k : Nat} (h : k < 4) : (n : Int).fdiv (2 ^ min (IntKind.i64.wrap (8 * (k : Int))).toNat IntKind.u32.bits) = ((n / 256 ^ k : Nat) : Int) := by
 rw [wrapI64 (by omega), Int.fdiv_eq_ediv_of_nonneg _ (by exact Int.le_of_lt (Int.pow_pos (by decide)))]
 have : k = 0 ∨ k = 1 ∨ k = 2 ∨ k = 3 := by omega
 rcases this with rfl | rfl | rfl | rfl <;> simp [IntKind.bits]
theorem tail_set {body : List UInt8} {n k : Nat} (hb : body.length = 252) (h : k < 4) : (body ++ (List.replicate (4 - k) 0 ++ putN n k)).set (0 + (IntKind.i64.wrap (255 - (k : Int))).toNat * 1) (UInt8.ofNat (n / 256 ^ k)) = body ++ (List.replicate (4 - (k + 1)) 0 ++ putN n (k + 1)) := by
 rw [wrapI64 (by omega), show 0 + (255 - (k : Int)).toNat * 1 = 252 + (3 - k) by omega, List.set_append_right _ _ (by omega), hb, show 252 + (3 - k) - 252 = 3 - k by omega]
 rw [show 4 - k = (3 - k) + 1 by omega, List.replicate_succ', List.append_assoc, List.set_append_right _ _ (by simp), List.length_replicate, Nat.sub_self, List.singleton_append, List.set_cons_zero, putN_cons, show 4 - (k + 1) = 3 - k by omega]
def bodyP (kind : Int) (t : List UInt8) : List UInt8 := UInt8.ofNat kind.toNat :: UInt8.ofNat t.length :: (t ++ List.replicate (250 - t.length) 0)
def sealP (kind : Int) (t : List UInt8) : List UInt8 := bodyP kind t ++ putN (sumP (bodyP kind t)) 4
def pageSeal (kind : Int) (t : List UInt8) : List UInt8 × Int := if kind < 1 ∨ kind > 15 ∨ t.length > 240 then ([], 1) else (sealP kind t, 0)
set_option maxHeartbeats 1000000 in
theorem Seal_does (kind : Int) (t : List UInt8) (ht : t.length < 9223372036854775808) : Does Tryz.prog 114 [.int .i64 kind, .string (str t)] []
  (fun v H => v = .tuple #[.string (str (pageSeal kind t).1), .int .i64 (pageSeal kind t).2] ∧ H = []) := by
 refine does_of Tryz.func114 Tryz.ntmps114 rfl rfl rfl (fun w0 F0 => ?_)
 (repeat' (first|refine g_seq (h:=?_)|refine g_region (h:=?_)|refine l_nil (h:=?_)|refine n_then (h:=?_)|refine l_pures1 (h:=?_)|refine l_guard_yes (h:=?_)|refine l_guard_no (h:=?_)|refine l_store (h:=?_)|(refine l_makeSlice (h:=?_); intro _)|refine l_indexAddr (h:=?_)|refine l_slice (h:=?_)|refine g_skip (h:=?_)|refine g_ret (h:=?_)|refine n_then_ret (h:=?_)|refine g_cond_t (h:=?_)|(refine l_sp (h1 := ?_) (h0 := ?_) <;> intro h)|(refine g_sp (h1 := ?_) (h0 := ?_) <;> intro h)))
 ·refine r_ret ?_
  exact ⟨by rw [pageSeal, if_pos (by omega)]; rfl, rfl⟩
 ·refine r_ret ?_
  exact ⟨by rw [pageSeal, if_pos (by omega)]; rfl, rfl⟩
 ·refine r_ret ?_
  exact ⟨by rw [pageSeal, if_pos (by omega)]; rfl, rfl⟩
 ·rename_i b
  have hk : IntKind.u8.wrap kind = ((UInt8.ofNat kind.toNat).toNat : Int) := by rw [wrapU8 (by omega)]; simp; omega
  have hl : IntKind.u8.wrap (t.length : Int) = ((UInt8.ofNat t.length).toNat : Int) := by rw [wrapU8 (by omega)]; simp; omega
  have e0 : (Value.int IntKind.u8 (IntKind.u8.wrap kind) :: Value.int IntKind.u8 (IntKind.u8.wrap t.length) :: List.replicate 254 (Value.int IntKind.u8 0)) = bsV (UInt8.ofNat kind.toNat :: UInt8.ofNat t.length :: List.replicate 254 0) := by
   rw [hk, hl]; unfold bsV; rw [List.map_cons, List.map_cons, List.map_replicate]; rfl
  rw [e0]
  (repeat (first|refine g_seq (h:=?_)|refine g_region (h:=?_)|refine l_nil (h:=?_)|refine n_then (h:=?_)|refine l_pures1 (h:=?_)|refine l_slice (h:=?_)|refine l_copy_str (h:=?_)))
  have e1 : (List.take (0 + Int.toNat 2 * 1) (UInt8.ofNat kind.toNat :: UInt8.ofNat t.length :: List.replicate 254 0) ++ List.take (min t.length (((Int.toNat 256 : Nat) : Int).toNat - Int.toNat 2)) t ++ List.drop (0 + Int.toNat 2 * 1 + min t.length (((Int.toNat 256 : Nat) : Int).toNat - Int.toNat 2)) (UInt8.ofNat kind.toNat :: UInt8.ofNat t.length :: List.replicate 254 0)) = bodyP kind t ++ List.replicate 4 0 := by
   have e2 : min t.length (((Int.toNat 256 : Nat) : Int).toNat - Int.toNat 2) = t.length := by omega
   rw [e2]
   have e3 : 0 + Int.toNat 2 * 1 = 2 := by decide
   rw [e3, List.take_length, Nat.add_comm 2, List.drop_succ_cons, List.drop_succ_cons, List.drop_replicate]
   unfold bodyP
   have e4 : 254 - t.length = (250 - t.length) + 4 := by omega
   rw [e4, ← List.replicate_append_replicate, List.take_succ_cons, List.take_succ_cons, List.take_zero]
   simp only [List.cons_append, List.nil_append, List.append_assoc]
  rw [e1]
  have hbl : (bodyP kind t).length = 252 := by unfold bodyP; simp; omega
  (repeat refine l_str_bs (h:=?_))
  have e5 : List.take (Int.toNat 252 - Int.toNat 0) (List.drop (0 + Int.toNat 0 * 1) (bodyP kind t ++ List.replicate 4 0)) = bodyP kind t := by
   rw [show 0 + Int.toNat 0 * 1 = 0 by decide, List.drop_zero, show Int.toNat 252 - Int.toNat 0 = 252 by decide, ← hbl, List.take_left]
  rw [e5]
  have hlt := sumP_lt (bodyP kind t)
  (repeat (first|refine g_seq (h:=?_)|refine g_region (h:=?_)|refine l_nil (h:=?_)|refine n_then (h:=?_)|refine l_pures1 (h:=?_)|(refine l_at 136 ?_; refine l_call (Sum_does (bodyP kind t) (by omega)) ?_)|refine g_block (h:=?_)))
  obtain ⟨n, hn⟩ : ∃ n, sumP (bodyP kind t) = n := ⟨_, rfl⟩
  rw [hn] at hlt
  rw [hn]
  (refine g_loop (fun k : Nat => [(38, .int .i64 k), (7, .int .u32 n), (6, .slice (some ⟨b, 0, none⟩) 256 256)]) (fun k => [cl b 5 (bsV (bodyP kind t ++ (List.replicate (4 - k) 0 ++ putN n k)))]) (fun k => k ≤ 4) (fun k => 4 - k) (0) ?_ ?_ ?_ ?_; rotate_left; (repeat (first | refine ts_nil | (refine ts_cons rfl ?_ ?_; first | (with_reducible rfl) | rotate_left))); (first | (intro _ i; with_reducible refine i) | rotate_left); rotate_left; (try omega); rotate_right)
  ·intro k hk4
   have e6 : IntKind.i64.wrap (255 - (k : Int)) = 255 - k := wrapI64 (by omega)
   have e7 : IntKind.i64.wrap (8 * (k : Int)) = 8 * k := wrapI64 (by omega)
   (repeat' (first|refine g_seq (h:=?_)|refine g_region (h:=?_)|refine l_nil (h:=?_)|refine n_then (h:=?_)|refine l_pures1 (h:=?_)|refine l_store_at (h:=?_)|refine l_indexAddr (h:=?_)|refine l_shr (h:=?_)|refine l_str_bs (h:=?_)|refine g_skip (h:=?_)|refine g_ret (h:=?_)|refine g_block (h:=?_)|refine g_exit (h:=?_)|refine n_then_exit (h:=?_)|refine n_block_hit (h:=?_)|refine n_block (h:=?_)|(refine g_sp (h1 := ?_) (h0 := ?_) <;> intro h)))
   ·(refine n_back (k + 1) ?_ ?_ ?_ ?_; rotate_left; rotate_left; (repeat (first | refine ts_nil | (refine ts_cons rfl ?_ ?_; first | (with_reducible rfl) | rotate_left))); (first | (intro _ i; with_reducible refine i) | rotate_left); (try omega); (try omega))
    ·rw [wrapI64 (by omega)]; rfl
    ·have hk4' : k < 4 := by omega
     have ec : UInt8.ofNat (IntKind.u8.wrap ((n / 256 ^ k : Nat) : Int)).toNat = UInt8.ofNat (n / 256 ^ k) := by
      obtain ⟨q, hq⟩ : ∃ q, n / 256 ^ k = q := ⟨_, rfl⟩
      rw [IntKind.wrap_u8, hq]; apply UInt8.toNat.inj; rw [show ((q : Int) % 256).toNat = q % 256 by omega]; simp
     rw [shr8 hk4', bsV_set (by rw [IntKind.wrap_u8]; omega), ec, tail_set hbl hk4']
     intro _ i; exact i
   ·obtain rfl : k = 4 := by omega
    refine r_retk [] ?_
    have e8 : List.take 256 (List.drop 0 (bodyP kind t ++ (List.replicate (4 - 4) 0 ++ putN n 4))) = sealP kind t := by
     rw [List.drop_zero, List.take_of_length_le (by simp [hbl, putN_length]), sealP, hn]; rfl
    rw [e8, pageSeal, if_neg (by omega)]
    exact ⟨rfl, rfl⟩
  all_goals first | rfl | (intro _ i; rw [show List.replicate (4 - 0) (0 : UInt8) ++ putN n 0 = List.replicate 4 0 by simp [putN]]; exact i)
theorem or8 {a c : Nat} (ha : a < 16777216) (hc : c < 256) : bits BinOp.or IntKind.u32 (IntKind.u32.wrap ((a : Int) * 2 ^ min (Int.toNat 8) IntKind.u32.bits)) (IntKind.u32.wrap (c : Int)) = ((a * 256 + c : Nat) : Int) := by
 rw [p8', wrapU32 (n := (a : Int) * 256) (by omega), wrapU32 (n := (c : Int)) (by omega)]
 have e : ((a : Int) * 256) = ((2 ^ 8 * a : Nat) : Int) := by omega
 rw [e, bits_or (by simp [IntKind.bits]; omega) (by simp [IntKind.bits]; omega), ← Nat.two_pow_add_eq_or_of_lt (i := 8) (by omega), wrapU32 (by omega)]
 omega
def pageOpen (b : List UInt8) : Int × List UInt8 × Int :=
 if b.length ≠ 256 then (0, [], 2) else if sumP (b.take 252) ≠ getN (b.drop 252) then (0, [], 15)
 else if pageSeal (byteAt b 0) ((b.drop 2).take (min (b.getD 1 0).toNat 250)) = (b, 0) then (byteAt b 0, (b.drop 2).take (min (b.getD 1 0).toNat 250), 0) else (0, [], 2)
def openV (r : Int × List UInt8 × Int) : Value := .tuple #[.int .i64 r.1, .string (str r.2.1), .int .i64 r.2.2]
set_option maxHeartbeats 1000000 in
theorem Open_does (b : List UInt8) (hb : b.length < 9223372036854775808) : Does Tryz.prog 160 [.string (str b)] [] (fun v H => v = openV (pageOpen b) ∧ H = []) := by
 refine does_of Tryz.func160 Tryz.ntmps160 rfl rfl rfl (fun w0 F0 => ?_)
 (repeat' (first|refine g_seq (h:=?_)|refine g_region (h:=?_)|refine l_nil (h:=?_)|refine n_then (h:=?_)|refine l_pures1 (h:=?_)|refine g_skip (h:=?_)|refine g_ret (h:=?_)|refine n_then_ret (h:=?_)|refine g_block (h:=?_)|(refine g_sp (h1 := ?_) (h0 := ?_) <;> intro h)))
 ·refine r_ret ?_
  exact ⟨by rw [pageOpen, if_pos (by omega)]; rfl, rfl⟩
 ·(refine g_loop (fun k : Nat => [(13, .int .i64 k), (5, .int .u32 (getN ((b.drop 252).take k))), (4, .int .i64 0), (3, .string { data := #[] }), (2, .int .i64 0), (0, .string (str b))]) (fun k => []) (fun k => k ≤ 4) (fun k => 4 - k) (0) ?_ ?_ ?_ ?_; rotate_left; (repeat (first | refine ts_nil | (refine ts_cons rfl ?_ ?_; first | (with_reducible rfl) | rotate_left))); (first | (intro _ i; with_reducible refine i) | rotate_left); rotate_left; (try omega); rotate_right)
  ·intro k hk4
   have e6 : IntKind.i64.wrap (252 + (k : Int)) = 252 + k := wrapI64 (by omega)
   have hd : (b.drop 252).length = 4 := by simp; omega
   (repeat' (first|refine g_seq (h:=?_)|refine g_region (h:=?_)|refine l_nil (h:=?_)|refine n_then (h:=?_)|refine l_pures1 (h:=?_)|refine l_index (h:=?_)|refine l_slice_str (h:=?_)|refine l_shl (h:=?_)|refine g_skip (h:=?_)|refine g_block (h:=?_)|refine g_exit (h:=?_)|refine n_then_exit (h:=?_)|refine n_block_hit (h:=?_)|refine n_block (h:=?_)|(refine g_sp (h1 := ?_) (h0 := ?_) <;> intro h)))
   ·(refine n_back (k + 1) ?_ ?_ ?_ ?_; rotate_left; rotate_left; (repeat (first | refine ts_nil | (refine ts_cons rfl ?_ ?_; first | (with_reducible rfl) | rotate_left))); (first | (intro _ i; with_reducible refine i) | rotate_left); (try omega); (try omega))
    ·rw [wrapI64 (by omega)]; rfl
    ·have hg := getN_lt ((b.drop 252).take k)
     have hp : 256 ^ ((b.drop 252).take k).length ≤ 256 ^ 3 := Nat.pow_le_pow_right (by decide) (by simp; omega)
     have h3 : getN ((b.drop 252).take k) < 16777216 := Nat.lt_of_lt_of_le hg hp
     have hby : byteAt b (IntKind.i64.wrap (252 + (k : Int))) = (((b.drop 252).getD k 0).toNat : Int) := by
      rw [e6]
      unfold byteAt
      rw [show (252 + (k : Int)).toNat = 252 + k by omega]
      simp [List.getD]
     rw [hby, or8 h3 (UInt8.toNat_lt _), getN_take (by omega)]
   ·have hcut : cutB b (Int.toNat 0) (Int.toNat 252) = b.take 252 := by
     show (b.drop 0).take (252 - 0) = _
     rw [List.drop_zero]
    have hN : (b.drop 252).take k = b.drop 252 := List.take_of_length_le (by omega)
    rw [hcut, hN]
    (repeat' (first|refine g_seq (h:=?_)|refine g_region (h:=?_)|refine l_nil (h:=?_)|refine n_then (h:=?_)|refine l_pures1 (h:=?_)|(refine l_at 136 ?_; refine l_call (Sum_does (b.take 252) (by simp; omega)) ?_)|refine l_index (h:=?_)|refine g_skip (h:=?_)|refine g_ret (h:=?_)|refine n_then_ret (h:=?_)|(refine g_sp (h1 := ?_) (h0 := ?_) <;> intro h)))
    ·refine r_ret ?_
     exact ⟨by rw [pageOpen, if_neg (by omega), if_pos (by omega)]; rfl, rfl⟩
    ·obtain ⟨sz, hsz⟩ : ∃ sz, min (b.getD 1 0).toNat 250 = sz := ⟨_, rfl⟩
     have hby1 := byteAt_bd b 1
     have hb1 : byteAt b 1 = ((b.getD 1 0).toNat : Int) := rfl
     have hb0 := byteAt_bd b 0
     have e7 : IntKind.i64.wrap (2 + (bif false then mxI (IntKind.i64.wrap (byteAt b 1)) 250 else mnI (IntKind.i64.wrap (byteAt b 1)) 250)) = ((2 + sz : Nat) : Int) := by
      rw [cond_false, mnI_eq, wrapI64 (n := byteAt b 1) (by omega), wrapI64 (by omega)]
      omega
     have e8 : IntKind.i64.wrap (byteAt b 0) = byteAt b 0 := wrapI64 (by omega)
     have hcut2 : cutB b (Int.toNat 2) (((2 + sz : Nat) : Int).toNat) = (b.drop 2).take sz := by
      show (b.drop 2).take (((2 + sz : Nat) : Int).toNat - 2) = _
      rw [show ((2 + sz : Nat) : Int).toNat - 2 = sz by omega]
     rw [e7]
     (repeat (first|refine g_seq (h:=?_)|refine g_region (h:=?_)|refine l_nil (h:=?_)|refine n_then (h:=?_)|refine l_pures1 (h:=?_)|refine l_index (h:=?_)|refine l_slice_str (h:=?_)))
     rw [hcut2, e8]
     (repeat' (first|refine g_seq (h:=?_)|refine g_region (h:=?_)|refine l_nil (h:=?_)|refine n_then (h:=?_)|refine l_pures1 (h:=?_)|(refine l_at 114 ?_; refine l_call (Seal_does (byteAt b 0) ((b.drop 2).take sz) (by simp; omega)) ?_)|refine l_guard_yes (h:=?_)|refine l_guard_no (h:=?_)|refine l_index (h:=?_)|refine g_skip (h:=?_)|refine g_ret (h:=?_)|refine n_then_ret (h:=?_)|refine g_cond_t (h:=?_)|(refine l_sp (h1 := ?_) (h0 := ?_) <;> intro h)|(refine g_sp (h1 := ?_) (h0 := ?_) <;> intro h)))
     ·refine r_ret ?_
      exact ⟨by rw [pageOpen, if_neg (by omega), if_neg (by omega), hsz, if_neg (fun q => absurd (congrArg Prod.snd q) (by assumption))]; rfl, rfl⟩
     ·refine r_ret ?_
      exact ⟨by rw [pageOpen, if_neg (by omega), if_neg (by omega), hsz, if_neg (fun q => absurd (congrArg Prod.fst q) (by assumption))]; rfl, rfl⟩
     ·refine r_ret ?_
      rename_i hp2 hp1
      have hp : pageSeal (byteAt b 0) ((b.drop 2).take sz) = (b, 0) := Prod.ext (by assumption) (by assumption)
      exact ⟨by rw [e8, pageOpen, if_neg (by omega), if_neg (by omega), hsz, if_pos hp]; rfl, rfl⟩
  all_goals rfl
def pageWrite (D : Dk) (n kind : Int) (t : List UInt8) : Int × Dk := if (pageSeal kind t).2 ≠ 0 then ((pageSeal kind t).2, D) else D.write n (pageSeal kind t).1
theorem pWrite_does (b : Nat) (D : Dk) (n kind : Int) (t : List UInt8) (ht : t.length < 9223372036854775808) : Does Tryz.prog 85 [.pointer (some ⟨b, 0, none⟩), .int .i64 n, .int .i64 kind, .string (str t)] [Disk b D]
  (fun v H => v = .int .i64 (pageWrite D n kind t).1 ∧ H = [Disk b (pageWrite D n kind t).2]) := by
 refine does_of Tryz.func85 Tryz.ntmps85 rfl rfl rfl (fun w0 F0 => ?_)
 (repeat' (first|refine g_seq (h:=?_)|refine g_region (h:=?_)|refine l_nil (h:=?_)|refine n_then (h:=?_)|refine l_pures1 (h:=?_)|(refine l_at 114 ?_; refine l_call (Seal_does kind t ht) ?_)|(refine l_at 115 ?_; refine l_call (Write_does b D n (pageSeal kind t).1) ?_)|refine g_skip (h:=?_)|refine g_ret (h:=?_)|refine n_then_ret (h:=?_)|(refine g_sp (h1 := ?_) (h0 := ?_) <;> intro h)))
 ·refine r_ret ?_
  exact ⟨by rw [pageWrite, if_pos (by assumption)]; rfl, by rw [pageWrite, if_pos (by assumption)]⟩
 ·refine r_ret ?_
  exact ⟨by rw [pageWrite, if_neg (by omega)]; rfl, by rw [pageWrite, if_neg (by omega)]⟩
def pageRead (D : Dk) (n : Int) : Int × List UInt8 × Int := if (D.read n).2 ≠ 0 then (0, [], (D.read n).2) else pageOpen (D.read n).1
theorem pRead_does (b : Nat) (D : Dk) (n : Int) (hl : (D.read n).1.length < 9223372036854775808) : Does Tryz.prog 148 [.pointer (some ⟨b, 0, none⟩), .int .i64 n] [Disk b D]
  (fun v H => v = openV (pageRead D n) ∧ H = [Disk b D]) := by
 refine does_of Tryz.func148 Tryz.ntmps148 rfl rfl rfl (fun w0 F0 => ?_)
 (repeat' (first|refine g_seq (h:=?_)|refine g_region (h:=?_)|refine l_nil (h:=?_)|refine n_then (h:=?_)|refine l_pures1 (h:=?_)|(refine l_at 159 ?_; refine l_call (Read_does b D n) ?_)|(refine l_at 160 ?_; refine l_call (Open_does (D.read n).1 hl) ?_)|refine g_skip (h:=?_)|refine g_ret (h:=?_)|refine n_then_ret (h:=?_)|(refine g_sp (h1 := ?_) (h0 := ?_) <;> intro h)))
 ·refine r_ret ?_
  exact ⟨by rw [pageRead, if_pos (by assumption)]; rfl, rfl⟩
 ·refine r_ret ?_
  exact ⟨by rw [pageRead, if_neg (by omega)]; rfl, rfl⟩
end Go.Proofs.YtelfjhemnnbbpaaGreat
namespace Go.Proofs.YtelfjhemnnbbpaaGreat
open Go.Proofs.YtelfjhemnnbbpaaGreat.SL
def hasB (b : List UInt8) (i : Int) : Bool := decide (0 ≤ i) && (b.getD (i.toNat / 8) 0).toNat.testBit (i.toNat % 8)
theorem bit_of {c m : Nat} (hc : c < 256) (hm : m < 8) : (bits BinOp.and IntKind.u8 (c : Int) (IntKind.u8.wrap (1 * 2 ^ min ((m : Int)).toNat IntKind.u8.bits)) != 0) = c.testBit m := by
 have h2 : 2 ^ m ≤ 2 ^ 7 := Nat.pow_le_pow_right (by decide) (by omega)
 have h3 : 2 ^ m ≤ 128 := h2
 have e : IntKind.u8.wrap (1 * 2 ^ min ((m : Int)).toNat IntKind.u8.bits) = ((2 ^ m : Nat) : Int) := by
  rw [Int.toNat_natCast, show min m IntKind.u8.bits = m by simp [IntKind.bits]; omega, Int.one_mul]
  have : (2 : Int) ^ m = ((2 ^ m : Nat) : Int) := by simp
  rw [this, wrapU8 ⟨Int.natCast_nonneg _, by omega⟩]
 have hle : c &&& 2 ^ m ≤ c := Nat.and_le_left
 rw [e, bits_and (by simpa [IntKind.bits] using hc) (by simp only [IntKind.bits]; omega), wrapU8 (by omega)]
 cases hb : c.testBit m with
 | false =>
  have : c &&& 2 ^ m = 0 := by
   apply Nat.eq_of_testBit_eq
   intro j
   rw [Nat.testBit_and, Nat.testBit_two_pow]
   by_cases hj : m = j
   ·subst hj; simp [hb]
   ·simp [hj]
  rw [this]; rfl
 | true =>
  have : c &&& 2 ^ m ≠ 0 := fun h => by
   have := congrArg (fun q => q.testBit m) h
   simp [hb] at this
  simp only [bne_iff_ne, ne_eq]
  omega
set_option maxHeartbeats 1000000 in
theorem Has_does (b : List UInt8) (i : Int) (hi : i < 9223372036854775808) (hb : b.length < 9223372036854775808) : Does Tryz.prog 131 [.string (str b), .int .i64 i] [] (fun v H => v = .bool (hasB b i) ∧ H = []) := by
 refine does_of Tryz.func131 Tryz.ntmps131 rfl rfl rfl (fun w0 F0 => ?_)
 have e1 : 0 ≤ i → IntKind.i64.wrap (i.tdiv 8) = ((i.toNat / 8 : Nat) : Int) := fun h => by rw [Int.tdiv_eq_ediv_of_nonneg h, wrapI64 (by omega)]; omega
 have e2 : 0 ≤ i → i.tmod 8 = ((i.toNat % 8 : Nat) : Int) := fun h => by rw [Int.tmod_eq_emod_of_nonneg h]; omega
 (repeat' (first|refine g_seq (h:=?_)|refine g_region (h:=?_)|refine l_nil (h:=?_)|refine n_then (h:=?_)|refine l_pures1 (h:=?_)))
 (refine g_draw [] (h := a_pass2 (h:=?_)))
 rcases (show i < 0 ∨ 0 ≤ i by omega) with hneg | hpos
 ·(repeat' (first|refine l_nil (h:=?_)|refine n_then (h:=?_)|refine l_guard_no (h:=?_)|refine g_ret (h:=?_)|refine a_done (h:=?_)|refine a_one (h:=?_)|refine n_any (h := a_pass2 (h:=?_))|refine a_no (h:=?_)|(refine a_spF (h:=?_); intro h)))
  refine r_ret ?_
  exact ⟨by rw [hasB, decide_eq_false (by omega)]; rfl, rfl⟩
 ·have e1 := e1 hpos
  have e2 := e2 hpos
  (repeat' (first|refine l_nil (h:=?_)|refine n_then (h:=?_)|refine l_pures1 (h:=?_)|refine l_guard_yes (h:=?_)|refine l_guard_no (h:=?_)|refine l_shl (h:=?_)|refine g_ret (h:=?_)|refine a_done (h:=?_)|refine a_one (h:=?_)|refine n_any (h := a_pass2 (h:=?_))|refine a_vg (h:=?_)|refine a_no (h:=?_)|(refine a_spT (h:=?_); intro h)|(refine a_sp (h1 := ?_) (h0 := ?_) <;> intro h)))
  ·refine r_ret ?_
   refine ⟨?_, rfl⟩
   rw [e1, e2, hasB, decide_eq_true hpos, Bool.true_and]
   have hb : byteAt b ((i.toNat / 8 : Nat) : Int) = (((b.getD (i.toNat / 8) 0).toNat : Nat) : Int) := by unfold byteAt; rw [Int.toNat_natCast]
   rw [hb, bit_of (UInt8.toNat_lt _) (Nat.mod_lt _ (by decide))]
   rfl
  ·refine r_ret ?_
   refine ⟨?_, rfl⟩
   have hge : b.length ≤ i.toNat / 8 := by omega
   rw [hasB, List.getD, List.getElem?_eq_none hge]
   simp [packV]
theorem bit_turn {c m : Nat} (hc : c < 256) (hm : m < 8) : bits BinOp.xor IntKind.u8 (c : Int) (IntKind.u8.wrap (1 * 2 ^ min ((m : Int)).toNat IntKind.u8.bits)) = ((c ^^^ 2 ^ m : Nat) : Int) ∧ c ^^^ 2 ^ m < 256 := by
 have h2 : 2 ^ m ≤ 2 ^ 7 := Nat.pow_le_pow_right (by decide) (by omega)
 have h3 : 2 ^ m ≤ 128 := h2
 have e : IntKind.u8.wrap (1 * 2 ^ min ((m : Int)).toNat IntKind.u8.bits) = ((2 ^ m : Nat) : Int) := by
  rw [Int.toNat_natCast, show min m IntKind.u8.bits = m by simp [IntKind.bits]; omega, Int.one_mul]
  have : (2 : Int) ^ m = ((2 ^ m : Nat) : Int) := by simp
  rw [this, wrapU8 ⟨Int.natCast_nonneg _, by omega⟩]
 have hx : c ^^^ 2 ^ m < 256 := Nat.xor_lt_two_pow (n := 8) (by omega) (by omega)
 refine ⟨?_, hx⟩
 rw [e, bits_xor (by simpa [IntKind.bits] using hc) (by simp only [IntKind.bits]; omega), wrapU8 (by omega)]
def withB (b : List UInt8) (i : Int) (on : Bool) : List UInt8 :=
 if i < 0 ∨ i.toNat / 8 ≥ b.length ∨ hasB b i = on then b else b.set (i.toNat / 8) (UInt8.ofNat ((b.getD (i.toNat / 8) 0).toNat ^^^ 2 ^ (i.toNat % 8)))
end Go.Proofs.YtelfjhemnnbbpaaGreat
namespace Go.Proofs.YtelfjhemnnbbpaaGreat
open Go.Proofs.YtelfjhemnnbbpaaGreat.SL
theorem withB_len (b : List UInt8) (i : Int) (on : Bool) : (withB b i on).length = b.length := by
 unfold withB; split <;> simp
theorem hasB_with {b : List UInt8} {i : Int} {on : Bool} (h0 : 0 ≤ i) (h1 : i.toNat / 8 < b.length) (j : Int) : hasB (withB b i on) j = if j = i then on else hasB b j := by
 unfold withB
 by_cases hh : hasB b i = on
 ·rw [if_pos (.inr (.inr hh))]
  by_cases hj : j = i
  ·subst hj; rw [if_pos rfl, hh]
  ·rw [if_neg hj]
 ·rw [if_neg (by simp only [not_or]; exact ⟨by omega, by omega, hh⟩)]
  have hx : (b.getD (i.toNat / 8) 0).toNat ^^^ 2 ^ (i.toNat % 8) < 256 := (bit_turn (UInt8.toNat_lt _) (Nat.mod_lt _ (by decide))).2
  have hof : (UInt8.ofNat ((b.getD (i.toNat / 8) 0).toNat ^^^ 2 ^ (i.toNat % 8))).toNat = (b.getD (i.toNat / 8) 0).toNat ^^^ 2 ^ (i.toNat % 8) := by
   simp only [UInt8.toNat_ofNat', Nat.reducePow]; exact Nat.mod_eq_of_lt hx
  by_cases hj0 : 0 ≤ j
  ·by_cases hb : j.toNat / 8 = i.toNat / 8
   ·have hg : (b.set (i.toNat / 8) (UInt8.ofNat ((b.getD (i.toNat / 8) 0).toNat ^^^ 2 ^ (i.toNat % 8)))).getD (j.toNat / 8) 0 = UInt8.ofNat ((b.getD (i.toNat / 8) 0).toNat ^^^ 2 ^ (i.toNat % 8)) := by
     rw [hb, List.getD, List.getElem?_set_self h1]; rfl
    unfold hasB
    rw [hg, hof, Nat.testBit_xor, Nat.testBit_two_pow, hb]
    unfold hasB at hh
    by_cases hj : j = i
    ·subst hj
     rw [if_pos rfl]
     simp only [decide_true, decide_eq_true hj0, Bool.true_and] at hh ⊢
     cases hc : (b.getD (j.toNat / 8) 0).toNat.testBit (j.toNat % 8) <;> cases on <;> simp_all
    ·rw [if_neg hj]
     have : ¬ i.toNat % 8 = j.toNat % 8 := by omega
     simp [this]
   ·have hg : (b.set (i.toNat / 8) (UInt8.ofNat ((b.getD (i.toNat / 8) 0).toNat ^^^ 2 ^ (i.toNat % 8)))).getD (j.toNat / 8) 0 = b.getD (j.toNat / 8) 0 := by
     rw [List.getD, List.getElem?_set_ne (fun q => hb q.symm)]; rfl
    unfold hasB
    rw [hg, if_neg (fun q => hb (by rw [q]))]
  ·unfold hasB
   rw [if_neg (by omega), decide_eq_false hj0]
   simp
end Go.Proofs.YtelfjhemnnbbpaaGreat
