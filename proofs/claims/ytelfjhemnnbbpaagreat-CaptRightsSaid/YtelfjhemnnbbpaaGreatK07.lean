/- Texts Shad, ShadW, ShadH, ShadM, LayQ, LayS, Sorted, LayR, Rep, Count, DiskN, ShadC, TrW, TrV, TrX, TrY, Pl, PlS, TrT, TrU, TrZ, TrPa, TrPb, TrPp, joined. -/
import Derived.Shelf.Strings.Repeat
import Derived.Shelf.SlIterI.Nil
import Derived.Shelf.SortM.Plain
import Derived.Shelf.SortM.SortNone
import Derived.Ground.NamesProg
import Derived.Ground.GgzProg
import Derived.Ground.SlgmProg
import Derived.Test.YtelfjhemnnbbpaaGreatProg
import Derived.KernelRfl
import Derived.Test.YtelfjhemnnbbpaaGreatK06
set_option linter.unusedVariables false
set_option linter.unusedSimpArgs false
namespace Go.Proofs.YtelfjhemnnbbpaaGreat
open Go.Proofs.YtelfjhemnnbbpaaGreat.SL
theorem read_len {D : Dk} {n : Int} (ok : D.ok) : (D.read n).1.length ≤ 256 := by
 rw [Dk.read]
 by_cases h : D.may n = 0
 ·rw [if_pos h]
  obtain ⟨_, h2, h3⟩ := Dk.may_0 h
  exact Nat.le_of_eq (getD_all (p := fun x : List UInt8 => x.length = 256) ok.s.1 (by omega))
 ·rw [if_neg h]; simp
theorem pRead2_does (b : Nat) (D : Dk) (n : Int) : Does Tryz.prog 148 [.pointer (some ⟨b, 0, none⟩), .int .i64 n] [Disk b D]
  (fun v H => v = .tuple #[.int .i64 (pageRead D n).1, .string (str (pageRead D n).2.1), .int .i64 (pageRead D n).2.2] ∧ H = [Disk b D]) :=
 does_disk fun ok => pRead_does b D n (by have := read_len (n := n) ok; omega)
def tt (l : List Int) : List (Int × Bool) := l.map fun i => (i, true)
theorem tt_get : ∀ {l : List Int} {n : Int}, (kvGet (tt l) n).getD false = decide (n ∈ l)
 | [], n => by simp [tt, kvGet]
 | i :: l, n => by
  have := tt_get (l := l) (n := n)
  simp only [tt, List.map_cons, kvGet] at this ⊢
  by_cases q : i = n
  ·subst q; simp
  ·rw [if_neg q, this]; simp [show ¬ n = i from fun e => q e.symm]
theorem tt_put : ∀ {l : List Int} {n : Int}, n ∉ l → kvPut (tt l) n true = tt (l ++ [n])
 | [], n, _ => rfl
 | i :: l, n, h => by
  simp only [List.mem_cons, not_or] at h
  have := tt_put (l := l) (n := n) h.2
  simp only [tt, List.map_cons, List.cons_append, kvPut] at this ⊢
  rw [if_neg (fun e => h.1 e.symm), this]
theorem tt_del : ∀ {l : List Int} {n : Int}, kvDel (tt l) n = tt (l.erase n)
 | [], n => rfl
 | i :: l, n => by
  have := tt_del (l := l) (n := n)
  simp only [tt, List.map_cons, kvDel, List.erase_cons] at this ⊢
  by_cases q : i = n
  ·subst q; simp
  ·rw [if_neg q, if_neg (by simpa using q), this]; rfl
theorem does_swap {f : FuncId} {args : List Value} {A B : SProp} {q : Value → List SProp → Prop} (h : Does Tryz.prog f args [A, B] q) : Does Tryz.prog f args [B, A] q := fun w F s => by
 obtain ⟨F1, F2, a, ⟨F3, F4, b, e, d2, u2⟩, d1, u1⟩ := s
 exact h w F ⟨F3, F1, b, ⟨F1, F4, a, e, fun x h1 h2 => e x h2, fun x => ⟨.inl, fun o => o.elim id (fun q => (e x q).elim)⟩⟩, fun x h1 h2 => d1 x h2 ((u2 x).2 (.inl h1)), fun x => by rw [u1 x, u2 x]; exact ⟨fun o => o.elim .inr (fun o => o.elim .inl (fun q => (e x q).elim)), fun o => o.elim (fun q => .inr (.inl q)) .inl⟩⟩
structure Sh where
 gen : Int
 root : Int
 used : List UInt8
 fresh : List Int
 given : List Int
 down : Bool
structure Sh.ok (S : Sh) : Prop where
 g : 0 ≤ S.gen ∧ S.gen ≤ 281474976710655
 r : 0 ≤ S.root ∧ S.root < 640
 u : S.used.length = 80
 f : S.fresh.Nodup ∧ ∀ i ∈ S.fresh, 0 ≤ i ∧ i < (640 : Nat)
 v : S.given.Nodup ∧ ∀ i ∈ S.given, 0 ≤ i ∧ i < (640 : Nat)
def StoreK (b db : Nat) (S : Sh) (x : Nat × Nat) : List SProp :=
 [cl b 161 [.pointer (some ⟨db, 0, none⟩), .int .i64 S.gen, .int .i64 S.root, .string (str S.used), .map (some x.1), .map (some x.2), .bool S.down], mp x.1 Value.bool (tt S.fresh), mp x.2 Value.bool (tt S.given)]
def StoreP (S : Sh) (_ : Nat × Nat) : Prop := S.ok
def Store (b db : Nat) (S : Sh) : SProp := hid (StoreP S) (StoreK b db S)
theorem sRoot_does (b db : Nat) (S : Sh) : Does Tryz.prog 56 [.pointer (some ⟨b, 0, none⟩)] [Store b db S] (fun v H => v = .int .i64 S.root ∧ H = [Store b db S]) := by
 refine does_of Tryz.func56 Tryz.ntmps56 rfl rfl rfl (fun w0 F0 => ?_)
 refine g_open (A := Store b db S) (h:=?_); (rintro ⟨bf, bg⟩ ok; dsimp only [StoreK, List.cons_append, List.nil_append])
 (repeat (first|refine g_seq (h:=?_)|refine g_region (h:=?_)|refine l_nil (h:=?_)|refine n_then (h:=?_)|refine l_pures1 (h:=?_)|refine l_load (h:=?_)|refine g_ret (h:=?_)))
 (refine n_shut (A := Store b db S) (K := StoreK b db S ((bf, bg))) (hid_shuts ((bf, bg)) ok) (h:=?_) (p := by dsimp only [StoreK]; (try simp only [List.map_nil, List.length_nil, List.length_set, List.length_append, List.length_cons, List.length_singleton, List.map_append, List.map_cons, Nat.zero_add]); exact parts_of))
 refine r_ret ?_
 exact ⟨rfl, rfl⟩
theorem sFresh_does (b db : Nat) (S : Sh) (n : Int) : Does Tryz.prog 127 [.pointer (some ⟨b, 0, none⟩), .int .i64 n] [Store b db S] (fun v H => v = .bool (decide (n ∈ S.fresh)) ∧ H = [Store b db S]) := by
 refine does_of Tryz.func127 Tryz.ntmps127 rfl rfl rfl (fun w0 F0 => ?_)
 refine g_open (A := Store b db S) (h:=?_); (rintro ⟨bf, bg⟩ ok; dsimp only [StoreK, List.cons_append, List.nil_append])
 (repeat (first|refine g_seq (h:=?_)|refine g_region (h:=?_)|refine l_nil (h:=?_)|refine n_then (h:=?_)|refine l_pures1 (h:=?_)|refine l_load (h:=?_)|refine l_lookup _ (h:=?_)|refine g_ret (h:=?_)))
 (refine n_shut (A := Store b db S) (K := StoreK b db S ((bf, bg))) (hid_shuts ((bf, bg)) ok) (h:=?_) (p := by dsimp only [StoreK]; (try simp only [List.map_nil, List.length_nil, List.length_set, List.length_append, List.length_cons, List.length_singleton, List.map_append, List.map_cons, Nat.zero_add]); exact parts_of))
 refine r_ret ?_
 exact ⟨by rw [tt_get]; rfl, rfl⟩
theorem sSize_does (b db : Nat) (c1 c2 c3 c4 c5 c6 : Value) (D : Dk) : Does Tryz.prog 147 [.pointer (some ⟨b, 0, none⟩)] [cl b 161 [.pointer (some ⟨db, 0, none⟩), c1, c2, c3, c4, c5, c6], Disk db D] (fun v H => v = .int .i64 D.now.length ∧ H = [cl b 161 [.pointer (some ⟨db, 0, none⟩), c1, c2, c3, c4, c5, c6], Disk db D]) := by
 refine does_of Tryz.func147 Tryz.ntmps147 rfl rfl rfl (fun w0 F0 => ?_)
 (repeat (first|refine g_seq (h:=?_)|refine g_region (h:=?_)|refine l_nil (h:=?_)|refine n_then (h:=?_)|refine l_pures1 (h:=?_)|(refine l_at 158 ?_; refine l_call (Size_does db D) ?_)|refine l_load (h:=?_)|refine g_ret (h:=?_)))
 refine r_retk [cl b 161 [.pointer (some ⟨db, 0, none⟩), c1, c2, c3, c4, c5, c6], Disk db D] ?_
 exact ⟨rfl, rfl⟩
theorem sSizeS_does (b db bf bg : Nat) (S : Sh) (D : Dk) : Does Tryz.prog 147 [.pointer (some ⟨b, 0, none⟩)] [cl b 161 [.pointer (some ⟨db, 0, none⟩), .int .i64 S.gen, .int .i64 S.root, .string (str S.used), .map (some bf), .map (some bg), .bool S.down], Disk db D] (fun v H => v = .int .i64 D.now.length ∧ H = [cl b 161 [.pointer (some ⟨db, 0, none⟩), .int .i64 S.gen, .int .i64 S.root, .string (str S.used), .map (some bf), .map (some bg), .bool S.down], Disk db D]) := sSize_does b db _ _ _ _ _ _ D
theorem told_does (b : Nat) (c0 c1 c2 c3 c4 c5 : Value) (d : Bool) (e : Int) : Does Tryz.prog 149 [.pointer (some ⟨b, 0, none⟩), .int .i64 e] [cl b 161 [c0, c1, c2, c3, c4, c5, .bool d]] (fun v H => v = .int .i64 e ∧ H = [cl b 161 [c0, c1, c2, c3, c4, c5, .bool (d || e == 5)]]) := by
 refine does_of Tryz.func149 Tryz.ntmps149 rfl rfl rfl (fun w0 F0 => ?_)
 (repeat' (first|refine g_seq (h:=?_)|refine g_region (h:=?_)|refine l_nil (h:=?_)|refine n_then (h:=?_)|refine l_pures1 (h:=?_)|refine l_guard_yes (h:=?_)|refine l_guard_no (h:=?_)|refine l_load (h:=?_)|refine l_store (h:=?_)|refine g_ret (h:=?_)|(refine l_sp (h1 := ?_) (h0 := ?_) <;> intro h)))
 all_goals
  refine r_ret ?_
 ·subst h; exact ⟨rfl, rfl⟩
 ·subst h; exact ⟨rfl, rfl⟩
def Sh.roll (S : Sh) : Sh := { S with fresh := [], given := [] }
theorem sRollback_does (b db : Nat) (S : Sh) : Does Tryz.prog 55 [.pointer (some ⟨b, 0, none⟩)] [Store b db S] (fun v H => v = .tuple #[] ∧ H = [Store b db S.roll]) := by
 refine does_of Tryz.func55 Tryz.ntmps55 rfl rfl rfl (fun w0 F0 => ?_)
 refine g_open (A := Store b db S) (h:=?_); (rintro ⟨bf, bg⟩ ok; dsimp only [StoreK, List.cons_append, List.nil_append])
 (repeat (first|refine g_region (h:=?_)|refine l_pures1 (h:=?_)))
 (refine l_makeMap (Value.bool) (h:=?_); intro _)
 (refine l_makeMap (Value.bool) (h:=?_); intro _)
 (repeat (first|refine l_nil (h:=?_)|refine l_pures1 (h:=?_)|refine l_store (h:=?_)))
 rename_i b1 b2
 (refine n_shut (A := Store b db S.roll) (K := StoreK b db S.roll ((b1, b2))) (hid_shuts ((b1, b2)) ⟨ok.g, ok.r, ok.u, ⟨by simp [Sh.roll], by simp [Sh.roll]⟩, ⟨by simp [Sh.roll], by simp [Sh.roll]⟩⟩) (h:=?_) (p := by dsimp only [StoreK]; (try simp only [List.map_nil, List.length_nil, List.length_set, List.length_append, List.length_cons, List.length_singleton, List.map_append, List.map_cons, Nat.zero_add, Sh.roll, tt]); exact parts_of))
 refine r_endk [Store b db S.roll] ?_
 exact ⟨rfl, rfl⟩
def Sh.free (S : Sh) (i : Nat) : Bool := !hasB S.used i && !decide ((i : Int) ∈ S.fresh)
def Sh.find (S : Sh) : Nat → Nat → Option Nat
 | 0, _ => none
 | k + 1, n => if S.free n then some n else S.find k (n + 1)
def Sh.take (S : Sh) (D : Dk) : (Int × Int) × Sh :=
 if S.down then ((0, 5), S) else match S.find (D.now.length - 2) 2 with
  | some n => ((n, 0), { S with fresh := S.fresh ++ [(n : Int)] })
  | none => ((0, 4), S)
theorem Sh.take_ok {S : Sh} {n : Nat} (ok : S.ok) (h : S.free n = true) (hn : n < 640) : Sh.ok { S with fresh := S.fresh ++ [(n : Int)] } := by
 refine ⟨ok.g, ok.r, ok.u, ⟨?_, ?_⟩, ok.v⟩
 ·have hm : ¬ ((n : Int) ∈ S.fresh) := by
   intro q; simp [Sh.free, q] at h
  exact List.nodup_append.2 ⟨ok.f.1, by simp, by intro x hx y hy; simp only [List.mem_singleton] at hy; subst hy; exact fun q => hm (q ▸ hx)⟩
 ·intro i hi
  rcases List.mem_append.1 hi with hi | hi
  ·exact ok.f.2 i hi
  ·simp only [List.mem_singleton] at hi; subst hi; omega
theorem sTake_does (b db : Nat) (S : Sh) (D : Dk) : Does Tryz.prog 132 [.pointer (some ⟨b, 0, none⟩)] [Store b db S, Disk db D] (fun v H => v = .tuple #[.int .i64 (S.take D).1.1, .int .i64 (S.take D).1.2] ∧ H = [Store b db (S.take D).2, Disk db D]) := by
 refine does_swap (does_disk fun dok => does_swap ?_)
 have hD := dok.n
 refine does_of Tryz.func132 Tryz.ntmps132 rfl rfl rfl (fun w0 F0 => ?_)
 refine g_open (A := Store b db S) (h:=?_); (rintro ⟨bf, bg⟩ ok; dsimp only [StoreK, List.cons_append, List.nil_append])
 have hu := ok.u
 (repeat' (first|refine g_seq (h:=?_)|refine g_region (h:=?_)|refine l_nil (h:=?_)|refine n_then (h:=?_)|refine l_pures1 (h:=?_)|refine l_load (h:=?_)|refine g_skip (h:=?_)|refine g_ret (h:=?_)|refine n_then_ret (h:=?_)|refine g_block (h:=?_)|(refine g_sp (h1 := ?_) (h0 := ?_) <;> intro h)))
 ·(refine n_shut (A := Store b db S) (K := StoreK b db S ((bf, bg))) (hid_shuts ((bf, bg)) ok) (h:=?_) (p := by dsimp only [StoreK]; (try simp only [List.map_nil, List.length_nil, List.length_set, List.length_append, List.length_cons, List.length_singleton, List.map_append, List.map_cons, Nat.zero_add]); exact parts_of))
  refine r_ret ?_
  exact ⟨by rw [Sh.take, if_pos (by assumption)]; rfl, by rw [Sh.take, if_pos (by assumption)]⟩
 ·(refine g_loop (fun j : Nat => [(4, .int .i64 j), (0, .pointer (some ⟨b, 0, none⟩))]) (fun j => [Disk db D, cl b 161 [.pointer (some ⟨db, 0, none⟩), .int .i64 S.gen, .int .i64 S.root, .string (str S.used), .map (some bf), .map (some bg), .bool S.down], mp bf Value.bool (tt S.fresh), mp bg Value.bool (tt S.given)]) (fun j => 2 ≤ j ∧ (j = 2 ∨ j ≤ D.now.length) ∧ S.find (D.now.length - 2) 2 = S.find (D.now.length - j) j) (fun j => D.now.length - j) (2) ?_ ?_ ?_ ?_; rotate_left; (repeat (first | refine ts_nil | (refine ts_cons rfl ?_ ?_; first | (with_reducible rfl) | rotate_left))); (first | (intro _ i; with_reducible refine i) | rotate_left); rotate_left; (try omega); rotate_right)
  ·intro j ⟨hj1, hj2, hj3⟩
   (repeat' (first|refine g_seq (h:=?_)|refine g_region (h:=?_)|refine l_nil (h:=?_)|refine n_then (h:=?_)|refine l_pures1 (h:=?_)|(refine l_at 147 ?_; refine l_call (sSizeS_does b db bf bg S D) ?_)|(refine l_at 131 ?_; refine l_call (Has_does S.used j (by omega) (by omega)) ?_)|refine l_guard_yes (h:=?_)|refine l_guard_no (h:=?_)|refine l_load (h:=?_)|refine l_lookup _ (h:=?_)|refine l_mapUpdate (h:=?_)|refine g_skip (h:=?_)|refine g_ret (h:=?_)|refine n_then_ret (h:=?_)|refine n_block_ret (h:=?_)|refine g_block (h:=?_)|refine g_exit (h:=?_)|refine n_then_exit (h:=?_)|refine n_block_hit (h:=?_)|refine n_block (h:=?_)|refine g_cond_f (h:=?_)|(refine l_sp (h1 := ?_) (h0 := ?_) <;> intro h)|(refine g_sp (h1 := ?_) (h0 := ?_) <;> intro h)))
   ·rename_i hs hl hb
    have hf := h
    have hfree : S.free j = true := by
     rw [Sh.free, hb, ← tt_get, hf]; rfl
    have hnm : ¬ ((j : Int) ∈ S.fresh) := by
     rw [tt_get] at hf; simpa using hf
    have ht : S.take D = (((j : Int), 0), { S with fresh := S.fresh ++ [(j : Int)] }) := by
     rw [Sh.take, if_neg (by simp [hs]), hj3, show D.now.length - j = (D.now.length - (j + 1)) + 1 by omega, Sh.find, if_pos hfree]
    rw [tt_put hnm, ht]
    (refine n_shut (A := Store b db { S with fresh := S.fresh ++ [(j : Int)] }) (K := StoreK b db { S with fresh := S.fresh ++ [(j : Int)] } ((bf, bg))) (hid_shuts ((bf, bg)) (Sh.take_ok ok hfree (by omega))) (h:=?_) (p := by dsimp only [StoreK]; (try simp only [List.map_nil, List.length_nil, List.length_set, List.length_append, List.length_cons, List.length_singleton, List.map_append, List.map_cons, Nat.zero_add]); exact parts_of))
    refine r_retk [Store b db { S with fresh := S.fresh ++ [(j : Int)] }, Disk db D] ?_
    exact ⟨rfl, rfl⟩
   ·rename_i hs hl hb
    (refine n_back (j + 1) ?_ ?_ ?_ ?_; rotate_left; rotate_left; (repeat (first | refine ts_nil | (refine ts_cons rfl ?_ ?_; first | (with_reducible rfl) | rotate_left))); (first | (intro _ i; with_reducible refine i) | rotate_left); (try omega); (try omega))
    ·refine ⟨by omega, by omega, ?_⟩
     rw [hj3, show D.now.length - j = (D.now.length - (j + 1)) + 1 by omega, Sh.find, if_neg]
     rw [tt_get] at h
     simp only [Sh.free, h]; simp
    ·omega
    ·rw [wrapI64 (by omega)]; rfl
    ·(intro _ i; exact inv_keep parts_of i)
   ·(refine n_back (j + 1) ?_ ?_ ?_ ?_; rotate_left; rotate_left; (repeat (first | refine ts_nil | (refine ts_cons rfl ?_ ?_; first | (with_reducible rfl) | rotate_left))); (first | (intro _ i; with_reducible refine i) | rotate_left); (try omega); (try omega))
    ·refine ⟨by omega, by omega, ?_⟩
     rw [hj3, show D.now.length - j = (D.now.length - (j + 1)) + 1 by omega, Sh.find, if_neg]
     simp only [Sh.free, h]; simp
    ·omega
    ·rw [wrapI64 (by omega)]; rfl
    ·(intro _ i; exact inv_keep parts_of i)
   ·rename_i hs
    have ht : S.take D = ((0, 4), S) := by
     rw [Sh.take, if_neg (by simp [hs]), hj3, show D.now.length - j = 0 by omega]; rfl
    rw [ht]
    (refine n_shut (A := Store b db S) (K := StoreK b db S ((bf, bg))) (hid_shuts ((bf, bg)) ok) (h:=?_) (p := by dsimp only [StoreK]; (try simp only [List.map_nil, List.length_nil, List.length_set, List.length_append, List.length_cons, List.length_singleton, List.map_append, List.map_cons, Nat.zero_add]); exact parts_of))
    refine r_ret ?_
    exact ⟨rfl, rfl⟩
  ·exact ⟨by omega, by omega, rfl⟩
  ·rfl
  ·(intro _ i; exact inv_keep parts_of i)
end Go.Proofs.YtelfjhemnnbbpaaGreat
namespace Go.Proofs.YtelfjhemnnbbpaaGreat
open Go.Proofs.YtelfjhemnnbbpaaGreat.SL
theorem hasB_lt {b : List UInt8} {i : Int} (h : hasB b i = true) : 0 ≤ i ∧ i < 8 * b.length := by
 simp only [hasB, Bool.and_eq_true, decide_eq_true_eq] at h
 obtain ⟨h1, h2⟩ := h
 refine ⟨h1, ?_⟩
 by_cases q : i.toNat / 8 < b.length
 ·omega
 ·rw [List.getD, List.getElem?_eq_none (by omega)] at h2; simp at h2
def Sh.give (S : Sh) (n : Int) : Int × Sh :=
 if S.down then (5, S) else if n ∈ S.fresh then (0, { S with fresh := S.fresh.erase n }) else if hasB S.used n && !decide (n ∈ S.given) then (0, { S with given := S.given ++ [n] }) else (6, S)
theorem Sh.give1_ok {S : Sh} {n : Int} (ok : S.ok) : Sh.ok { S with fresh := S.fresh.erase n } :=
 ⟨ok.g, ok.r, ok.u, ⟨ok.f.1.erase _, fun i hi => ok.f.2 i (List.mem_of_mem_erase hi)⟩, ok.v⟩
theorem Sh.give2_ok {S : Sh} {n : Int} (ok : S.ok) (h : hasB S.used n = true) (hn : n ∉ S.given) : Sh.ok { S with given := S.given ++ [n] } := by
 refine ⟨ok.g, ok.r, ok.u, ok.f, ⟨?_, ?_⟩⟩
 ·exact List.nodup_append.2 ⟨ok.v.1, by simp, by intro x hx y hy; simp only [List.mem_singleton] at hy; subst hy; exact fun q => hn (q ▸ hx)⟩
 ·intro i hi
  rcases List.mem_append.1 hi with hi | hi
  ·exact ok.v.2 i hi
  ·simp only [List.mem_singleton] at hi; subst hi
   have := hasB_lt h
   rw [ok.u] at this
   omega
theorem sGive_does (b db : Nat) (S : Sh) (n : Int) (hn : -9223372036854775808 ≤ n ∧ n < 9223372036854775808) : Does Tryz.prog 104 [.pointer (some ⟨b, 0, none⟩), .int .i64 n] [Store b db S] (fun v H => v = .int .i64 (S.give n).1 ∧ H = [Store b db (S.give n).2]) := by
 refine does_of Tryz.func104 Tryz.ntmps104 rfl rfl rfl (fun w0 F0 => ?_)
 refine g_open (A := Store b db S) (h:=?_); (rintro ⟨bf, bg⟩ ok; dsimp only [StoreK, List.cons_append, List.nil_append])
 have hu := ok.u
 (repeat' (first|refine g_seq (h:=?_)|refine g_region (h:=?_)|refine l_nil (h:=?_)|refine n_then (h:=?_)|refine l_pures1 (h:=?_)|(refine l_at 131 ?_; refine l_call (Has_does S.used n (by omega) (by omega)) ?_)|refine l_guard_yes (h:=?_)|refine l_guard_no (h:=?_)|refine l_load (h:=?_)|refine l_lookup _ (h:=?_)|refine l_mapUpdate (h:=?_)|refine l_delete0 (h:=?_)|refine g_ret (h:=?_)|refine n_then_ret (h:=?_)|refine n_block_ret (h:=?_)|refine g_block (h:=?_)|refine n_block (h:=?_)|refine g_cond_f (h:=?_)|(refine l_sp (h1 := ?_) (h0 := ?_) <;> intro h)|(refine g_sp (h1 := ?_) (h0 := ?_) <;> intro h)))
 all_goals try simp only [tt_get, decide_eq_true_eq, decide_eq_false_iff_not] at *
 ·(refine n_shut (A := Store b db S) (K := StoreK b db S ((bf, bg))) (hid_shuts ((bf, bg)) ok) (h:=?_) (p := by dsimp only [StoreK]; (try simp only [List.map_nil, List.length_nil, List.length_set, List.length_append, List.length_cons, List.length_singleton, List.map_append, List.map_cons, Nat.zero_add]); exact parts_of))
  refine r_ret ?_
  exact ⟨by rw [Sh.give, if_pos (by assumption)]; rfl, by rw [Sh.give, if_pos (by assumption)]⟩
 ·have e : S.give n = (0, { S with fresh := S.fresh.erase n }) := by simp [Sh.give, *]
  rw [tt_del, e]
  (refine n_shut (A := Store b db { S with fresh := S.fresh.erase n }) (K := StoreK b db { S with fresh := S.fresh.erase n } ((bf, bg))) (hid_shuts ((bf, bg)) (Sh.give1_ok ok)) (h:=?_) (p := by dsimp only [StoreK]; (try simp only [List.map_nil, List.length_nil, List.length_set, List.length_append, List.length_cons, List.length_singleton, List.map_append, List.map_cons, Nat.zero_add]); exact parts_of))
  refine r_ret ?_
  exact ⟨rfl, rfl⟩
 ·have e : S.give n = (0, { S with given := S.given ++ [n] }) := by simp [Sh.give, *]
  rw [tt_put (by assumption), e]
  (refine n_shut (A := Store b db { S with given := S.given ++ [n] }) (K := StoreK b db { S with given := S.given ++ [n] } ((bf, bg))) (hid_shuts ((bf, bg)) (Sh.give2_ok ok (by assumption) (by assumption))) (h:=?_) (p := by dsimp only [StoreK]; (try simp only [List.map_nil, List.length_nil, List.length_set, List.length_append, List.length_cons, List.length_singleton, List.map_append, List.map_cons, Nat.zero_add]); exact parts_of))
  refine r_ret ?_
  exact ⟨rfl, rfl⟩
 ·have e : S.give n = (6, S) := by simp [Sh.give, *]
  rw [e]
  (refine n_shut (A := Store b db S) (K := StoreK b db S ((bf, bg))) (hid_shuts ((bf, bg)) ok) (h:=?_) (p := by dsimp only [StoreK]; (try simp only [List.map_nil, List.length_nil, List.length_set, List.length_append, List.length_cons, List.length_singleton, List.map_append, List.map_cons, Nat.zero_add]); exact parts_of))
  refine r_ret ?_
  exact ⟨rfl, rfl⟩
 ·have e : S.give n = (6, S) := by simp [Sh.give, *]
  rw [e]
  (refine n_shut (A := Store b db S) (K := StoreK b db S ((bf, bg))) (hid_shuts ((bf, bg)) ok) (h:=?_) (p := by dsimp only [StoreK]; (try simp only [List.map_nil, List.length_nil, List.length_set, List.length_append, List.length_cons, List.length_singleton, List.map_append, List.map_cons, Nat.zero_add]); exact parts_of))
  refine r_ret ?_
  exact ⟨rfl, rfl⟩
def Sh.told (S : Sh) (e : Int) : Sh := { S with down := S.down || e == 5 }
theorem Sh.told_ok {S : Sh} {e : Int} (ok : S.ok) : (S.told e).ok := ⟨ok.g, ok.r, ok.u, ok.f, ok.v⟩
theorem toldS_does (b db bf bg : Nat) (S : Sh) (e : Int) : Does Tryz.prog 149 [.pointer (some ⟨b, 0, none⟩), .int .i64 e] [cl b 161 [.pointer (some ⟨db, 0, none⟩), .int .i64 S.gen, .int .i64 S.root, .string (str S.used), .map (some bf), .map (some bg), .bool S.down]]
  (fun v H => v = .int .i64 e ∧ H = [cl b 161 [.pointer (some ⟨db, 0, none⟩), .int .i64 S.gen, .int .i64 S.root, .string (str S.used), .map (some bf), .map (some bg), .bool (S.told e).down]]) := told_does b _ _ _ _ _ _ S.down e
def Sh.write (S : Sh) (D : Dk) (n kind : Int) (t : List UInt8) : Int × Sh × Dk :=
 if S.down then (5, S, D) else if n ∈ S.fresh then ((pageWrite D n kind t).1, S.told (pageWrite D n kind t).1, (pageWrite D n kind t).2) else (6, S, D)
theorem sWrite_does (b db : Nat) (S : Sh) (D : Dk) (n kind : Int) (t : List UInt8) (ht : t.length < 9223372036854775808) : Does Tryz.prog 145 [.pointer (some ⟨b, 0, none⟩), .int .i64 n, .int .i64 kind, .string (str t)] [Store b db S, Disk db D]
  (fun v H => v = .int .i64 (S.write D n kind t).1 ∧ H = [Store b db (S.write D n kind t).2.1, Disk db (S.write D n kind t).2.2]) := by
 refine does_of Tryz.func145 Tryz.ntmps145 rfl rfl rfl (fun w0 F0 => ?_)
 refine g_open (A := Store b db S) (h:=?_); (rintro ⟨bf, bg⟩ ok; dsimp only [StoreK, List.cons_append, List.nil_append])
 (repeat' (first|refine g_seq (h:=?_)|refine g_region (h:=?_)|refine l_nil (h:=?_)|refine n_then (h:=?_)|refine l_pures1 (h:=?_)|(refine l_at 85 ?_; refine l_call (pWrite_does db D n kind t ht) ?_)|(refine l_at 149 ?_; refine l_call (toldS_does b db bf bg S (pageWrite D n kind t).1) ?_)|refine l_load (h:=?_)|refine l_lookup _ (h:=?_)|refine g_skip (h:=?_)|refine g_ret (h:=?_)|refine n_then_ret (h:=?_)|refine n_block_ret (h:=?_)|refine g_block (h:=?_)|refine n_block (h:=?_)|(refine g_sp (h1 := ?_) (h0 := ?_) <;> intro h)))
 all_goals try simp only [tt_get, decide_eq_true_eq, decide_eq_false_iff_not] at *
 ·(refine n_shut (A := Store b db S) (K := StoreK b db S ((bf, bg))) (hid_shuts ((bf, bg)) ok) (h:=?_) (p := by dsimp only [StoreK]; (try simp only [List.map_nil, List.length_nil, List.length_set, List.length_append, List.length_cons, List.length_singleton, List.map_append, List.map_cons, Nat.zero_add]); exact parts_of))
  refine r_ret ?_
  exact ⟨by rw [Sh.write, if_pos (by assumption)]; rfl, by rw [Sh.write, if_pos (by assumption)]⟩
 ·have e : S.write D n kind t = (6, S, D) := by simp [Sh.write, *]
  rw [e]
  (refine n_shut (A := Store b db S) (K := StoreK b db S ((bf, bg))) (hid_shuts ((bf, bg)) ok) (h:=?_) (p := by dsimp only [StoreK]; (try simp only [List.map_nil, List.length_nil, List.length_set, List.length_append, List.length_cons, List.length_singleton, List.map_append, List.map_cons, Nat.zero_add]); exact parts_of))
  refine r_ret ?_
  exact ⟨rfl, rfl⟩
 ·have e : S.write D n kind t = ((pageWrite D n kind t).1, S.told (pageWrite D n kind t).1, (pageWrite D n kind t).2) := by simp [Sh.write, *]
  rw [e]
  (refine n_shut (A := Store b db (S.told (pageWrite D n kind t).1)) (K := StoreK b db (S.told (pageWrite D n kind t).1) ((bf, bg))) (hid_shuts ((bf, bg)) (Sh.told_ok ok)) (h:=?_) (p := by dsimp only [StoreK]; (try simp only [List.map_nil, List.length_nil, List.length_set, List.length_append, List.length_cons, List.length_singleton, List.map_append, List.map_cons, Nat.zero_add, Sh.told]); exact parts_of))
  refine r_retk [Store b db (S.told (pageWrite D n kind t).1), Disk db (pageWrite D n kind t).2] ?_
  exact ⟨rfl, rfl⟩
def Sh.read (S : Sh) (D : Dk) (n : Int) : (Int × List UInt8 × Int) × Sh :=
 if S.down then ((0, [], 5), S) else if n < 2 ∨ n ≥ D.now.length then ((0, [], 1), S) else (pageRead D n, S.told (pageRead D n).2.2)
theorem sRead_does (b db : Nat) (S : Sh) (D : Dk) (n : Int) : Does Tryz.prog 140 [.pointer (some ⟨b, 0, none⟩), .int .i64 n] [Store b db S, Disk db D]
  (fun v H => v = .tuple #[.int .i64 (S.read D n).1.1, .string (str (S.read D n).1.2.1), .int .i64 (S.read D n).1.2.2] ∧ H = [Store b db (S.read D n).2, Disk db D]) := by
 refine does_of Tryz.func140 Tryz.ntmps140 rfl rfl rfl (fun w0 F0 => ?_)
 refine g_open (A := Store b db S) (h:=?_); (rintro ⟨bf, bg⟩ ok; dsimp only [StoreK, List.cons_append, List.nil_append])
 (repeat' (first|refine g_seq (h:=?_)|refine g_region (h:=?_)|refine l_nil (h:=?_)|refine n_then (h:=?_)|refine l_pures1 (h:=?_)|(refine l_at 147 ?_; refine l_call (sSizeS_does b db bf bg S D) ?_)|(refine l_at 148 ?_; refine l_call (pRead2_does db D n) ?_)|(refine l_at 149 ?_; refine l_call (toldS_does b db bf bg S (pageRead D n).2.2) ?_)|refine l_guard_yes (h:=?_)|refine l_guard_no (h:=?_)|refine l_load (h:=?_)|refine g_skip (h:=?_)|refine g_ret (h:=?_)|refine n_then_ret (h:=?_)|refine n_block_ret (h:=?_)|refine g_block (h:=?_)|refine n_block (h:=?_)|refine g_cond_t (h:=?_)|(refine l_sp (h1 := ?_) (h0 := ?_) <;> intro h)|(refine g_sp (h1 := ?_) (h0 := ?_) <;> intro h)))
 ·(refine n_shut (A := Store b db S) (K := StoreK b db S ((bf, bg))) (hid_shuts ((bf, bg)) ok) (h:=?_) (p := by dsimp only [StoreK]; (try simp only [List.map_nil, List.length_nil, List.length_set, List.length_append, List.length_cons, List.length_singleton, List.map_append, List.map_cons, Nat.zero_add]); exact parts_of))
  refine r_ret ?_
  exact ⟨by rw [Sh.read, if_pos (by assumption)]; rfl, by rw [Sh.read, if_pos (by assumption)]⟩
 ·have e : S.read D n = ((0, [], 1), S) := by simp [Sh.read, *]
  rw [e]
  (refine n_shut (A := Store b db S) (K := StoreK b db S ((bf, bg))) (hid_shuts ((bf, bg)) ok) (h:=?_) (p := by dsimp only [StoreK]; (try simp only [List.map_nil, List.length_nil, List.length_set, List.length_append, List.length_cons, List.length_singleton, List.map_append, List.map_cons, Nat.zero_add]); exact parts_of))
  refine r_ret ?_
  exact ⟨rfl, rfl⟩
 ·have e : S.read D n = ((0, [], 1), S) := by simp [Sh.read, *]
  rw [e]
  (refine n_shut (A := Store b db S) (K := StoreK b db S ((bf, bg))) (hid_shuts ((bf, bg)) ok) (h:=?_) (p := by dsimp only [StoreK]; (try simp only [List.map_nil, List.length_nil, List.length_set, List.length_append, List.length_cons, List.length_singleton, List.map_append, List.map_cons, Nat.zero_add]); exact parts_of))
  refine r_retk [Store b db S, Disk db D] ?_
  exact ⟨rfl, rfl⟩
 ·have e : S.read D n = (pageRead D n, S.told (pageRead D n).2.2) := by simp [Sh.read, *]
  rw [e]
  (refine n_shut (A := Store b db (S.told (pageRead D n).2.2)) (K := StoreK b db (S.told (pageRead D n).2.2) ((bf, bg))) (hid_shuts ((bf, bg)) (Sh.told_ok ok)) (h:=?_) (p := by dsimp only [StoreK]; (try simp only [List.map_nil, List.length_nil, List.length_set, List.length_append, List.length_cons, List.length_singleton, List.map_append, List.map_cons, Nat.zero_add, Sh.told]); exact parts_of))
  refine r_retk [Store b db (S.told (pageRead D n).2.2), Disk db D] ?_
  exact ⟨rfl, rfl⟩
def usedN (u : List UInt8) (n : Nat) : List Int := ((List.range n).filter fun i : Nat => hasB u (i : Int)).map fun i : Nat => (i : Int)
end Go.Proofs.YtelfjhemnnbbpaaGreat
namespace Go.Proofs.YtelfjhemnnbbpaaGreat
open Go.Proofs.YtelfjhemnnbbpaaGreat.SL
structure Hd where
 gen : Int
 root : Int
 used : List UInt8
def Hd.v (h : Hd) : Value := .agg #[.int .i64 h.gen, .int .i64 h.root, .string (str h.used)]
structure Hd.ok (h : Hd) : Prop where
 g : 0 ≤ h.gen ∧ h.gen ≤ 281474976710655
 r : 0 ≤ h.root ∧ h.root < 65536
 u : h.used.length ≤ 1000
def Hd.text (h : Hd) : List UInt8 := (numPut h.gen.toNat 6).1 ++ (numPut h.root.toNat 2).1 ++ h.used
theorem numPut_len (n : Nat) (size : Int) : (numPut n size).1.length ≤ size.toNat := by
 rw [numPut]
 split
 ·simp
 ·split
  ·rw [putN_length]; exact Nat.le_refl _
  ·simp
theorem wrapU64n {n : Int} (h : 0 ≤ n ∧ n ≤ 281474976710655) : IntKind.u64.wrap n = (n.toNat : Int) := by
 rw [wrapU64 (by omega)]; omega
theorem Put2_does (n : Nat) (size : Int) (hn : n < 18446744073709551616) (hs : -9223372036854775808 ≤ size ∧ size < 9223372036854775808) :
  Does Tryz.prog 65 [.int .u64 n, .int .i64 size] [] (fun v H => v = .tuple #[.string (str (numPut n size).1), .int .i64 (numPut n size).2] ∧ H = []) := Put_does n size hn hs
theorem text_does (h : Hd) (ok : h.ok) : Does Tryz.prog 86 [h.v] [] (fun v H => v = .string (str h.text) ∧ H = []) := by
 have hg := ok.g
 have hr := ok.r
 have hu := ok.u
 have e1 := wrapU64n (n := h.gen) hg
 have e2 := wrapU64n (n := h.root) (by omega)
 refine does_of Tryz.func86 Tryz.ntmps86 rfl rfl rfl (fun w0 F0 => ?_)
 (repeat' (first|refine g_seq (h:=?_)|refine g_region (h:=?_)|refine l_nil (h:=?_)|refine n_then (h:=?_)|refine l_pures1 (h:=?_)|refine l_load (h:=?_)|(refine l_box (h:=?_); intro _)))
 rw [e1]
 (repeat' (first|refine g_seq (h:=?_)|refine g_region (h:=?_)|refine l_nil (h:=?_)|refine n_then (h:=?_)|refine l_pures1 (h:=?_)|(refine l_at 65 ?_; refine l_call (Put2_does h.gen.toNat 6 (by omega) (by omega)) ?_)|refine l_load (h:=?_)))
 rw [e2]
 have l1 := numPut_len h.gen.toNat 6
 have l2 := numPut_len h.root.toNat 2
 (repeat' (first|refine g_seq (h:=?_)|refine g_region (h:=?_)|refine l_nil (h:=?_)|refine n_then (h:=?_)|refine l_pures1 (h:=?_)|(refine l_at 65 ?_; refine l_call (Put2_does h.root.toNat 2 (by omega) (by omega)) ?_)|refine l_load (h:=?_)|refine l_concat (h:=?_)|refine g_ret (h:=?_)))
 refine r_retk [] ?_
 exact ⟨rfl, rfl⟩
theorem text2_does (h : Hd) (ok : h.ok) : Does Tryz.prog 86 [.agg #[.int .i64 h.gen, .int .i64 h.root, .string (str h.used)]] [] (fun v H => v = .string (str h.text) ∧ H = []) := text_does h ok
def Hd.lay (h : Hd) (D : Dk) : Int × Dk :=
 if (pageWrite D (h.gen.tmod 2) 1 h.text).1 ≠ 0 then pageWrite D (h.gen.tmod 2) 1 h.text else (pageWrite D (h.gen.tmod 2) 1 h.text).2.sync
theorem Hd.text_len {h : Hd} (ok : h.ok) : h.text.length < 9223372036854775808 := by
 have l1 := numPut_len h.gen.toNat 6
 have l2 := numPut_len h.root.toNat 2
 have := ok.u
 simp only [Hd.text, List.length_append]
 omega
theorem lay_does (q : Hd) (ok : q.ok) (db : Nat) (D : Dk) : Does Tryz.prog 53 [q.v, .pointer (some ⟨db, 0, none⟩)] [Disk db D] (fun v H => v = .int .i64 (q.lay D).1 ∧ H = [Disk db (q.lay D).2]) := by
 have ht := Hd.text_len ok
 refine does_of Tryz.func53 Tryz.ntmps53 rfl rfl rfl (fun w0 F0 => ?_)
 (repeat' (first|refine g_seq (h:=?_)|refine g_region (h:=?_)|refine l_nil (h:=?_)|refine n_then (h:=?_)|refine l_pures1 (h:=?_)|(refine l_box (h:=?_); intro _)))
 (refine g_draw [_] (h := a_pass2 (h:=?_)))
 (repeat' (first|refine g_seq (h:=?_)|refine g_region (h:=?_)|refine l_nil (h:=?_)|refine n_then (h:=?_)|refine l_pures1 (h:=?_)|(refine l_at 86 ?_; refine l_call (text2_does q ok) ?_)|(refine l_at 85 ?_; refine l_call (pWrite_does db D (q.gen.tmod 2) 1 q.text ht) ?_)|(refine l_at 87 ?_; refine l_call (Sync_does db (pageWrite D (q.gen.tmod 2) 1 q.text).2) ?_)|refine g_skip (h:=?_)|refine g_ret (h:=?_)|refine n_then_ret (h:=?_)|refine a_done (h:=?_)|refine a_load (h := a_pass2 (h:=?_))|refine a_one (h:=?_)|refine n_any (h := a_pass2 (h:=?_))|(refine g_sp (h1 := ?_) (h0 := ?_) <;> intro h)))
 ·have e : q.lay D = pageWrite D (q.gen.tmod 2) 1 q.text := by simp [Hd.lay, *]
  rw [e]
  refine r_retk [Disk db (pageWrite D (q.gen.tmod 2) 1 q.text).2] ?_
  exact ⟨rfl, rfl⟩
 ·have e : q.lay D = (pageWrite D (q.gen.tmod 2) 1 q.text).2.sync := by simp [Hd.lay, *]
  rw [e]
  refine r_retk [Disk db (pageWrite D (q.gen.tmod 2) 1 q.text).2.sync.2] ?_
  exact ⟨rfl, rfl⟩
def Hd.clear (h : Hd) (size : Int) (k : Nat) : Bool := (List.range k).all fun i : Nat => !((decide (i < 2) || decide ((i : Int) ≥ size)) && hasB h.used i)
def Hd.counts (h : Hd) (size n : Int) : Bool :=
 !(decide (h.gen < 1) || h.gen.tmod 2 != n || (h.root != 0 && !hasB h.used h.root)) && h.clear size 640
end Go.Proofs.YtelfjhemnnbbpaaGreat
namespace Go.Proofs.YtelfjhemnnbbpaaGreat
open Go.Proofs.YtelfjhemnnbbpaaGreat.SL
def headOf (s : List UInt8) : Hd := ⟨getN (s.take 6), getN ((s.drop 6).take 2), s.drop 8⟩
def headNone : Hd := ⟨0, 0, []⟩
def readH (D : Dk) (n : Int) : Hd × Bool :=
 if (pageRead D n).2.2 ≠ 0 ∨ (pageRead D n).1 ≠ 1 ∨ (pageRead D n).2.1.length ≠ 88 then (headNone, false)
 else (headOf (pageRead D n).2.1, (headOf (pageRead D n).2.1).counts D.now.length n)
theorem take_of {b : List UInt8} {k : Nat} (h : k ≤ b.length) (hk : 1 ≤ k ∧ k ≤ 8) : numTake b k = (getN (b.take k), b.drop k, 0) := by
 rw [numTake, if_neg (by omega), if_neg (by omega)]; rfl
theorem roll0_does (b : Nat) (c0 c1 c2 c3 c4 c5 c6 : Value) : Does Tryz.prog 55 [.pointer (some ⟨b, 0, none⟩)] [cl b 161 [c0, c1, c2, c3, c4, c5, c6]]
  (fun v H => ∃ b1 b2, v = .tuple #[] ∧ H = [cl b 161 [c0, c1, c2, c3, .map (some b1), .map (some b2), c6], mp b1 Value.bool [], mp b2 Value.bool []]) := by
 refine does_of Tryz.func55 Tryz.ntmps55 rfl rfl rfl (fun w0 F0 => ?_)
 (repeat (first|refine g_region (h:=?_)|refine l_pures1 (h:=?_)))
 (refine l_makeMap (Value.bool) (h:=?_); intro _)
 (refine l_makeMap (Value.bool) (h:=?_); intro _)
 (repeat (first|refine l_nil (h:=?_)|refine l_pures1 (h:=?_)|refine l_store (h:=?_)))
 rename_i b1 b2
 refine r_endk [cl b 161 [c0, c1, c2, c3, .map (some b1), .map (some b2), c6], mp b1 Value.bool [], mp b2 Value.bool []] ?_
 exact ⟨b1, b2, rfl, rfl⟩
def Hd.over (h : Hd) : Sh := ⟨h.gen, h.root, h.used, [], [], false⟩
theorem over_does (q : Hd) (ok : q.over.ok) (db : Nat) : Does Tryz.prog 54 [.pointer (some ⟨db, 0, none⟩), .agg #[.int .i64 q.gen, .int .i64 q.root, .string (str q.used)]] [] (fun v H => ∃ b, v = .pointer (some ⟨b, 0, none⟩) ∧ H = [Store b db q.over]) := by
 refine does_of Tryz.func54 Tryz.ntmps54 rfl rfl rfl (fun w0 F0 => ?_)
 (repeat (first|refine g_seq (h:=?_)|refine g_region (h:=?_)|refine l_nil (h:=?_)|refine n_then (h:=?_)|refine l_pures1 (h:=?_)|refine l_load (h:=?_)|(refine l_box (h:=?_); intro _)))
 rename_i b0 b
 (repeat (first|refine g_seq (h:=?_)|refine g_region (h:=?_)|refine l_nil (h:=?_)|refine n_then (h:=?_)|refine l_pures1 (h:=?_)|(refine l_at 55 ?_; refine l_call_ (roll0_does b (.pointer (some ⟨db, 0, none⟩)) (.int .i64 q.gen) (.int .i64 q.root) (.string (str q.used)) (.map none) (.map none) (.bool false)) ?_; rintro _ _ _ ⟨b1, b2, rfl, rfl⟩ he; cases he)|refine g_ret (h:=?_)))
 (refine n_shut (A := Store b db q.over) (K := StoreK b db q.over ((b1, b2))) (hid_shuts ((b1, b2)) ok) (h:=?_) (p := by dsimp only [StoreK]; (try simp only [List.map_nil, List.length_nil, List.length_set, List.length_append, List.length_cons, List.length_singleton, List.map_append, List.map_cons, Nat.zero_add, Hd.over, tt]); exact parts_of))
 refine r_retk [Store b db q.over] ?_
 exact ⟨b, rfl, rfl⟩
end Go.Proofs.YtelfjhemnnbbpaaGreat
namespace Go.Proofs
open Go.Shelf
def Tryz.layRepeat_ren : Go.Shelf.Ren := ⟨fun | 105 => 50 | 212 => 80 | 99 => 81 | 165 => 82 | 166 => 83 | 170 => 84 | 169 => 59 | 263 => 110 | 264 => 111 | 206 => 112 | 240 => 90 | 241 => 113 | 276 => 116 | 277 => 135 | n => n, fun | 9 => 9 | 3 => 3 | 4 => 4 | 20 => 20 | 0 => 0 | 46 => 152 | 109 => 153 | 5 => 5 | 72 => 112 | 76 => 115 | 51 => 168 | 146 => 201 | 53 => 78 | 148 => 203 | 70 => 110 | 37 => 89 | 75 => 114 | 127 => 165 | 164 => 207 | 80 => 117 | n => n, fun | n => n⟩
theorem Tryz.layRepeat : Go.Proofs.Lays.n105 Tryz.prog Tryz.layRepeat_ren := {
 mixed := by kernel_rfl
 f99 := Tryz.func81.trans (congrArg some (by kernel_rfl))
 f105 := Tryz.func50.trans (congrArg some (by kernel_rfl))
 f165 := Tryz.func82.trans (congrArg some (by kernel_rfl))
 f166 := Tryz.func83.trans (congrArg some (by kernel_rfl))
 f169 := Tryz.func59.trans (congrArg some (by kernel_rfl))
 f170 := Tryz.func84.trans (congrArg some (by kernel_rfl))
 f206 := Tryz.func112.trans (congrArg some (by kernel_rfl))
 f212 := Tryz.func80.trans (congrArg some (by kernel_rfl))
 f240 := Tryz.func90.trans (congrArg some (by kernel_rfl))
 f241 := Tryz.func113.trans (congrArg some (by kernel_rfl))
 f263 := Tryz.func110.trans (congrArg some (by kernel_rfl))
 f264 := Tryz.func111.trans (congrArg some (by kernel_rfl))
 f276 := Tryz.func116.trans (congrArg some (by kernel_rfl))
 f277 := Tryz.func135.trans (congrArg some (by kernel_rfl))
 t0 := Tryz.underlying0
 a0 := Tryz.isAgg0
 z0 := Tryz.sizeOf0
 v0 := Tryz.zeroValue0
 t3 := Tryz.underlying3
 a3 := Tryz.isAgg3
 z3 := Tryz.sizeOf3
 v3 := Tryz.zeroValue3
 t4 := Tryz.underlying4
 a4 := Tryz.isAgg4
 z4 := Tryz.sizeOf4
 v4 := Tryz.zeroValue4
 t5 := Tryz.underlying5
 a5 := Tryz.isAgg5
 z5 := Tryz.sizeOf5
 v5 := Tryz.zeroValue5
 t9 := Tryz.underlying9
 a9 := Tryz.isAgg9
 z9 := Tryz.sizeOf9
 v9 := Tryz.zeroValue9
 t20 := Tryz.underlying20
 a20 := Tryz.isAgg20
 z20 := Tryz.sizeOf20
 v20 := Tryz.zeroValue20
 t37 := Tryz.underlying89
 a37 := Tryz.isAgg89
 z37 := Tryz.sizeOf89
 v37 := Tryz.zeroValue89
 t46 := Tryz.underlying152
 a46 := Tryz.isAgg152
 z46 := Tryz.sizeOf152
 v46 := Tryz.zeroValue152
 t51 := Tryz.underlying168
 a51 := Tryz.isAgg168
 z51 := Tryz.sizeOf168
 v51 := Tryz.zeroValue168
 t53 := Tryz.underlying78
 a53 := Tryz.isAgg78
 z53 := Tryz.sizeOf78
 v53 := Tryz.zeroValue78
 t70 := Tryz.underlying110
 a70 := Tryz.isAgg110
 z70 := Tryz.sizeOf110
 v70 := Tryz.zeroValue110
 t72 := Tryz.underlying112
 a72 := Tryz.isAgg112
 z72 := Tryz.sizeOf112
 v72 := Tryz.zeroValue112
 t75 := Tryz.underlying114
 a75 := Tryz.isAgg114
 z75 := Tryz.sizeOf114
 v75 := Tryz.zeroValue114
 t76 := Tryz.underlying115
 a76 := Tryz.isAgg115
 z76 := Tryz.sizeOf115
 v76 := Tryz.zeroValue115
 t109 := Tryz.underlying153
 a109 := Tryz.isAgg153
 z109 := Tryz.sizeOf153
 v109 := Tryz.zeroValue153
 t127 := Tryz.underlying165
 a127 := Tryz.isAgg165
 z127 := Tryz.sizeOf165
 v127 := Tryz.zeroValue165
 t146 := Tryz.underlying201
 a146 := Tryz.isAgg201
 z146 := Tryz.sizeOf201
 v146 := Tryz.zeroValue201
 t148 := Tryz.underlying203
 a148 := Tryz.isAgg203
 z148 := Tryz.sizeOf203
 v148 := Tryz.zeroValue203
 t164 := Tryz.underlying207
 a164 := Tryz.isAgg207
 z164 := Tryz.sizeOf207
 v164 := Tryz.zeroValue207 }
end Go.Proofs
namespace Go.Proofs
open Go.Shelf Go.RowKit Go.Maps Go.Sort
end Go.Proofs
namespace Go.Proofs.YtelfjhemnnbbpaaGreat
open Go.Proofs.YtelfjhemnnbbpaaGreat.SL
def rise (l : List Int) : List Int := l.mergeSort fun x y => decide (x ≤ y)
theorem rise_perm (l : List Int) : (rise l).Perm l := List.mergeSort_perm _ _
end Go.Proofs.YtelfjhemnnbbpaaGreat
namespace Go.Proofs
open Go.Shelf Go.RowKit
theorem Tryz.repeatX : Builder.Extra Tryz.prog Tryz.layRepeat_ren := {
 sizeBuilder := by kernel_rfl
 liesBuilder := by kernel_rfl
 t5 := Tryz.layRepeat.t5
 a5 := Tryz.layRepeat.a5
 z5 := Tryz.layRepeat.z5
 v5 := Tryz.layRepeat.v5
 infoByte := by kernel_rfl
 cellsByte := by kernel_rfl
 sizeByte := by kernel_rfl
 neB5 := by decide }
theorem Tryz.repeat_calls (s : ByteArray) (c : Nat) (w : World) (hc : c ≤ 9223372036854775807) (hlen : s.size * c ≤ 140737488355328) :
  Calls Tryz.prog 50 #[.string s, .int .i64 c] w fun e w' => e = .returned (.string ⟨(Lib.repeatL s.data.toList c).toArray⟩) ∧ Below w.heap.size w w' :=
 Any.strings_Repeat Tryz.layRepeat Tryz.repeatX s c w hc hlen
theorem Tryz.mul_calls (x y : Nat) (hx : x < 18446744073709551616) (hy : y < 18446744073709551616) (w : World) :
  Calls Tryz.prog 80 #[.int .u64 x, .int .u64 y] w fun e w' => e = .returned (.tuple #[.int .u64 ((x * y / 18446744073709551616 : Nat) : Int), .int .u64 ((x * y % 18446744073709551616 : Nat) : Int)]) ∧ w' = w :=
 Any.bits_Mul { Tryz.layRepeat with } x y hx hy w
end Go.Proofs
namespace Go.Proofs.YtelfjhemnnbbpaaGreat
open Go.Proofs.YtelfjhemnnbbpaaGreat.SL
theorem Repeat_does (c : Nat) (hc : c ≤ 140737488355328) : Does Tryz.prog 50 [.string { data := #[0] }, .int .i64 c] [] (fun v H => v = .string (str (List.replicate c 0)) ∧ H = []) := by
 refine does_below (v := .string (str (List.replicate c 0))) fun w => (Tryz.repeat_calls (str [0]) c w (by omega) ?_).mono fun e w' h => ⟨?_, h.2⟩
 ·show 1 * c ≤ _
  omega
 ·rw [h.1]
  have e : ∀ c, Lib.repeatL [0] c = List.replicate c 0 := fun c => by
   induction c with
   | zero => rfl
   | succ c ih => rw [Lib.repeatL, ih]; rfl
  show Ending.returned (Value.string ⟨(Lib.repeatL [0] c).toArray⟩) = _
  rw [e]
  rfl
def newB (n : Int) : List UInt8 := List.replicate ((min (max n 0) 100000 + 7) / 8).toNat 0
theorem bNew_does (n : Int) (hn : -9223372036854775808 ≤ n ∧ n < 9223372036854775808) : Does Tryz.prog 52 [.int .i64 n] [] (fun v H => v = .string (str (newB n)) ∧ H = []) := by
 refine does_of Tryz.func52 Tryz.ntmps52 rfl rfl rfl (fun w0 F0 => ?_)
 (repeat (first|refine g_seq (h:=?_)|refine g_region (h:=?_)|refine l_nil (h:=?_)|refine n_then (h:=?_)|refine l_pures1 (h:=?_)))
 (simp only [cond_true, cond_false, mxI_eq, mnI_eq])
 obtain ⟨m, hm⟩ : ∃ m, min (max n 0) 100000 = m := ⟨_, rfl⟩
 have hb : 0 ≤ m ∧ m ≤ 100000 := by omega
 rw [hm]
 have e : IntKind.i64.wrap ((IntKind.i64.wrap (IntKind.i64.wrap (m + 8) - 1)).tdiv 8) = (((m + 7) / 8).toNat : Int) := by
  rw [wrapI64 (n := m + 8) (by omega), wrapI64 (n := m + 8 - 1) (by omega), Int.tdiv_eq_ediv_of_nonneg (by omega), wrapI64 (by omega)]
  omega
 rw [e]
 (repeat' (first|refine l_nil (h:=?_)|refine n_then (h:=?_)|refine l_pures1 (h:=?_)|(refine l_at 50 ?_; refine l_call (Repeat_does ((m + 7) / 8).toNat (by omega)) ?_)|refine g_ret (h:=?_)))
 refine r_ret ?_
 exact ⟨by rw [newB, hm]; rfl, rfl⟩
end Go.Proofs.YtelfjhemnnbbpaaGreat
namespace Go.Proofs.YtelfjhemnnbbpaaGreat
open Go.Proofs.YtelfjhemnnbbpaaGreat.SL
def ones (c : Nat) : Nat := (List.range 8).countP fun m => c.testBit m
def countB : List UInt8 → Nat
 | [] => 0
 | c :: l => ones c.toNat + countB l
theorem countB_snoc (c : UInt8) : ∀ l, countB (l ++ [c]) = countB l + ones c.toNat
 | [] => by simp [countB]
 | d :: l => by rw [List.cons_append, countB, countB_snoc c l, countB]; omega
end Go.Proofs.YtelfjhemnnbbpaaGreat
set_option maxRecDepth 20000
namespace Go.Proofs.YtelfjhemnnbbpaaGreat
open Go.Proofs.YtelfjhemnnbbpaaGreat.SL
theorem Mul_does (x y : Nat) (hx : x < 18446744073709551616) (hy : y < 18446744073709551616) : Does Tryz.prog 80 [.int .u64 x, .int .u64 y] [] (fun v H => v = .tuple #[.int .u64 ((x * y / 18446744073709551616 : Nat) : Int), .int .u64 ((x * y % 18446744073709551616 : Nat) : Int)] ∧ H = []) :=
 does_below fun w => (Tryz.mul_calls x y hx hy w).mono fun e w' h => ⟨h.1, h.2 ▸ Go.RowKit.Below.refl _ _⟩
theorem Mul1_does (c : Nat) (hc : c ≤ 640) : Does Tryz.prog 80 [.int .u64 ((1 : Nat) : Int), .int .u64 c] [] (fun v H => v = .tuple #[.int .u64 0, .int .u64 c] ∧ H = []) := by
 have := Mul_does 1 c (by omega) (by omega)
 rw [Nat.one_mul, Nat.div_eq_of_lt (by omega), Nat.mod_eq_of_lt (by omega)] at this
 exact this
theorem sRepeat_does (b c : Nat) (s : List UInt8) (hc : 8 ≤ c ∧ c ≤ 640) : Does Tryz.prog 51 [.slice (some ⟨b, 0, none⟩) 1 1, .int .i64 c] [cl b 9 [encS s]]
  (fun v H => ∃ b', v = .slice (some ⟨b', 0, none⟩) c c ∧ H = [cl b' 9 (List.replicate c (encS s))]) := by
 refine does_of Tryz.func51 Tryz.ntmps51 rfl rfl rfl (fun w0 F0 => ?_)
 have e1 : IntKind.u64.wrap (c : Int) = c := wrapU64 (by omega)
 have e0 : IntKind.u64.wrap ((1 : Nat) : Int) = ((1 : Nat) : Int) := wrapU64 (by omega)
 have e2 : IntKind.i64.wrap (c : Int) = c := wrapI64 (by omega)
 (repeat' (first|refine g_seq (h:=?_)|refine g_region (h:=?_)|refine l_nil (h:=?_)|refine n_then (h:=?_)|refine l_pures1 (h:=?_)|refine g_skip (h:=?_)|refine g_cond_f (h:=?_)))
 rw [e1, e0]
 (repeat' (first|refine g_seq (h:=?_)|refine g_region (h:=?_)|refine l_nil (h:=?_)|refine n_then (h:=?_)|refine l_pures1 (h:=?_)|(refine l_at 80 ?_; refine l_call (Mul1_does c hc.2) ?_)|refine l_guard_yes (h:=?_)|(refine l_makeSlice (h:=?_); intro _)|refine g_skip (h:=?_)|(refine g_spF (h:=?_); intro h)))
 rw [e2, Int.toNat_natCast]
 rename_i b'
 have hone : ∀ u ∈ [encS s], u.oneCell' = true := by intro u hu; simp at hu; subst hu; rfl
 have er : List.take 0 (List.replicate c (Value.string { data := #[] })) ++ List.take (min 1 c) (List.drop 0 [encS s]) ++ List.drop (0 + min 1 c) (List.replicate c (Value.string { data := #[] })) = List.replicate 1 (encS s) ++ List.replicate (c - 1) (encS []) := by
  rw [show min 1 c = 1 by omega]; simp [encS]; first | done | exact .inr rfl
 refine l_copy_row env_ok rfl rfl rfl rfl rfl Take.here Take.here hone (by simp only [List.length_replicate, List.length_cons, List.length_nil]; omega) ?_
 rw [er, show min 1 c = 1 by omega]
 (repeat (first|refine g_seq (h:=?_)|refine l_nil (h:=?_)|refine n_then (h:=?_)|refine l_pures1 (h:=?_)|refine g_block (h:=?_)))
 (refine g_loop (fun j : Nat => [(8, .int .i64 j), (7, .slice (some ⟨b', 0, none⟩) c c)]) (fun j => [cl b' 9 (List.replicate j (encS s) ++ List.replicate (c - j) (encS []))]) (fun j => 1 ≤ j ∧ j ≤ c) (fun j => c - j) (1) ?_ ?_ ?_ ?_; rotate_left; (repeat (first | refine ts_nil | (refine ts_cons rfl ?_ ?_; first | (with_reducible rfl) | rotate_left))); (first | (intro _ i; with_reducible refine i) | rotate_left); rotate_left; (try omega); rotate_right)
 ·intro j hj
  (repeat' (first|refine g_seq (h:=?_)|refine g_region (h:=?_)|refine l_nil (h:=?_)|refine n_then (h:=?_)|refine l_pures1 (h:=?_)|refine g_skip (h:=?_)|refine g_ret (h:=?_)|refine g_block (h:=?_)|refine g_exit (h:=?_)|refine n_then_exit (h:=?_)|refine n_block_hit (h:=?_)|(refine g_sp (h1 := ?_) (h0 := ?_) <;> intro h)))
  ·(refine g_draw [] (h := a_pass2 (h:=?_)))
   (repeat' (first|refine l_nil (h:=?_)|refine l_slice (h:=?_)|refine a_one (h:=?_)|refine n_any (h := a_pass2 (h:=?_))|refine a_v (h:=?_)))
   have hall : ∀ u ∈ List.replicate j (encS s) ++ List.replicate (c - j) (encS []), u.oneCell' = true := by
    intro u hu
    rcases List.mem_append.1 hu with hu | hu <;> (rw [List.eq_of_mem_replicate hu]; rfl)
   have hlen : (List.replicate j (encS s) ++ List.replicate (c - j) (encS [])).length = c := by simp; omega
   refine l_copy_in env_ok rfl rfl rfl rfl rfl Take.here hall (by rw [hlen]; omega) ?_
   obtain ⟨q, hq⟩ : ∃ q, min ((j : Int).toNat - Int.toNat 0) ((c : Int).toNat - (j : Int).toNat) = q := ⟨_, rfl⟩
   have hq1 : 1 ≤ q ∧ q ≤ j ∧ j + q ≤ c := by omega
   rw [hq]
   have er2 : List.take (0 + (j : Int).toNat * 1) (List.replicate j (encS s) ++ List.replicate (c - j) (encS [])) ++ List.take q (List.drop (0 + Int.toNat 0 * 1) (List.replicate j (encS s) ++ List.replicate (c - j) (encS []))) ++ List.drop (0 + (j : Int).toNat * 1 + q) (List.replicate j (encS s) ++ List.replicate (c - j) (encS [])) = List.replicate (j + q) (encS s) ++ List.replicate (c - (j + q)) (encS []) := by
    rw [show 0 + (j : Int).toNat * 1 = j by omega, show 0 + Int.toNat 0 * 1 = 0 by decide, List.drop_zero, List.take_append_of_le_length (by rw [List.length_replicate]; omega), List.take_append_of_le_length (by rw [List.length_replicate]; omega), List.take_replicate, List.take_replicate, Nat.min_self, show min q j = q by omega, List.drop_append]
    simp only [List.length_replicate, List.drop_replicate]
    rw [show j - (j + q) = 0 by omega, List.replicate_zero, List.nil_append, show j + q - j = q by omega, List.replicate_append_replicate, show c - j - q = c - (j + q) by omega]
   rw [er2]
   (repeat' (first|refine l_nil (h:=?_)|refine a_done (h:=?_)|refine n_any (h := a_pass2 (h:=?_))|refine n_block (h:=?_)))
   (refine n_back (j + q) ?_ ?_ ?_ ?_; rotate_left; rotate_left; (repeat (first | refine ts_nil | (refine ts_cons rfl ?_ ?_; first | (with_reducible rfl) | rotate_left))); (first | (intro _ i; with_reducible refine i) | rotate_left); (try omega); (try omega))
   rw [wrapI64 (by omega)]; rfl
  ·obtain rfl : j = c := by omega
   rw [Nat.sub_self, List.replicate_zero, List.append_nil]
   refine r_retk [cl b' 9 (List.replicate j (encS s))] ?_
   exact ⟨b', rfl, rfl⟩
 intro _ i
 exact inv_keep (Parts.cons Take.here Parts.nil) i
theorem sRepeat2_does (b c : Nat) (s : List UInt8) (hc : 8 ≤ c ∧ c ≤ 640) : Does Tryz.prog 51 [.slice (some ⟨b, 0, none⟩) 1 1, .int .i64 c] [cl b 9 [.string (str s)]]
  (fun v H => ∃ b', v = .slice (some ⟨b', 0, none⟩) c c ∧ H = [cl b' 9 (List.replicate c (encS s))]) := sRepeat_does b c s hc
def zero256 : List UInt8 := List.replicate 256 0
theorem zero256_len : zero256.length = 256 := by rw [zero256, List.length_replicate]
def Dk.new (n : Nat) : Dk := { now := List.replicate n zero256, was := [], order := [], fuse := -1, gone := false }
theorem Dk.new_ok (n : Nat) (hn : 8 ≤ n ∧ n ≤ 640) : (Dk.new n).ok := by
 refine ⟨by simp [Dk.new]; omega, by simp [Dk.new], by simp [Dk.new], ?_, by simp [Dk.new]⟩
 intro x hx
 rw [List.eq_of_mem_replicate (show x ∈ List.replicate n zero256 from hx), zero256_len]
theorem Rep256_does : Does Tryz.prog 50 [.string { data := #[0] }, .int .i64 256] [] (fun v H => v = .string (str zero256) ∧ H = []) := Repeat_does 256 (by omega)
theorem New_does (n : Nat) (hn : 8 ≤ n ∧ n ≤ 640) : Does Tryz.prog 26 [.int .i64 n] [] (fun v H => ∃ b, v = .tuple #[.pointer (some ⟨b, 0, none⟩), .int .i64 0] ∧ H = [Disk b (Dk.new n)]) := by
 refine does_of Tryz.func26 Tryz.ntmps26 rfl rfl rfl (fun w0 F0 => ?_)
 (repeat' (first|refine g_seq (h:=?_)|refine g_region (h:=?_)|refine l_nil (h:=?_)|refine n_then (h:=?_)|refine l_pures1 (h:=?_)|(refine l_at 50 ?_; refine l_call (Rep256_does) ?_)|(refine l_at 51 ?_; refine l_call_ (sRepeat2_does _ n zero256 hn) ?_; rintro _ _ _ ⟨b', rfl, rfl⟩ he; cases he)|refine l_guard_yes (h:=?_)|(refine l_buildSlice1 (h:=?_); intro _)|refine g_skip (h:=?_)|(refine l_spF (h:=?_); intro h)|(refine g_spF (h:=?_); intro h)))
 (refine l_makeMap (encS) (h:=?_); intro _)
 (repeat (first|refine l_nil (h:=?_)|refine n_then (h:=?_)|refine l_pures1 (h:=?_)|(refine l_box (h:=?_); intro _)|refine g_ret (h:=?_)))
 rename_i bm b
 refine n_inv (fun i => vec_nil (3) (1) i) ?_
 (refine n_shut (A := Disk b (Dk.new n)) (K := DiskK b (Dk.new n) ((b', n, bm, ((none, 0) : Option Addr × Nat), []))) (hid_shuts ((b', n, bm, ((none, 0) : Option Addr × Nat), [])) ⟨Dk.new_ok n hn, by simp [Dk.new], by dsimp only; omega⟩) (h:=?_) (p := by dsimp only [DiskK]; (try simp only [List.map_nil, List.length_nil, List.length_set, List.length_append, List.length_cons, List.length_singleton, List.map_append, List.map_cons, Nat.zero_add, Dk.new, List.map_replicate, List.length_replicate, List.append_nil]); exact parts_of))
 refine r_retk [Disk b (Dk.new n)] ?_
 exact ⟨b, rfl, rfl⟩
end Go.Proofs.YtelfjhemnnbbpaaGreat
namespace Go.Proofs.YtelfjhemnnbbpaaGreat
open Go.Proofs.YtelfjhemnnbbpaaGreat.SL
def Sh.left (S : Sh) (D : Dk) : Int := D.now.length - 2 - countB S.used - S.fresh.length
def headNew : Hd := ⟨1, 0, newB 640⟩
def format (D : Dk) : Option Hd × Int × Dk := if (headNew.lay D).1 ≠ 0 then (none, headNew.lay D) else (some headNew, 0, (headNew.lay D).2)
theorem newB_len : (newB 640).length = 80 := by rw [newB, List.length_replicate]; decide
theorem bNew640_does : Does Tryz.prog 52 [.int .i64 640] [] (fun v H => v = .string (str (newB 640)) ∧ H = []) := bNew_does 640 (by omega)
theorem headNew_ok : headNew.ok ∧ headNew.over.ok := by
 have := newB_len
 refine ⟨⟨⟨?_, ?_⟩, ⟨?_, ?_⟩, ?_⟩, ⟨⟨?_, ?_⟩, ⟨?_, ?_⟩, ?_, ⟨by simp [Hd.over], by simp [Hd.over]⟩, ⟨by simp [Hd.over], by simp [Hd.over]⟩⟩⟩
 all_goals first | (show (newB 640).length = 80; exact newB_len) | (show (newB 640).length ≤ _; omega) | (simp [headNew, Hd.over]; done)
theorem Format_does (db : Nat) (D : Dk) : Does Tryz.prog 27 [.pointer (some ⟨db, 0, none⟩)] [Disk db D]
  (fun v H => match (format D).1 with
   | none => v = .tuple #[.pointer none, .int .i64 (format D).2.1] ∧ H = [Disk db (format D).2.2]
   | some h => ∃ b, v = .tuple #[.pointer (some ⟨b, 0, none⟩), .int .i64 (format D).2.1] ∧ H = [Store b db h.over, Disk db (format D).2.2]) := by
 obtain ⟨ok1, ok2⟩ := headNew_ok
 have hl : Does Tryz.prog 53 [.agg #[.int .i64 1, .int .i64 0, .string (str (newB 640))], .pointer (some ⟨db, 0, none⟩)] [Disk db D] (fun v H => v = .int .i64 (headNew.lay D).1 ∧ H = [Disk db (headNew.lay D).2]) := lay_does headNew ok1 db D
 have ho : Does Tryz.prog 54 [.pointer (some ⟨db, 0, none⟩), .agg #[.int .i64 1, .int .i64 0, .string (str (newB 640))]] [] (fun v H => ∃ b, v = .pointer (some ⟨b, 0, none⟩) ∧ H = [Store b db headNew.over]) := over_does headNew ok2 db
 refine does_of Tryz.func27 Tryz.ntmps27 rfl rfl rfl (fun w0 F0 => ?_)
 (repeat' (first|refine g_seq (h:=?_)|refine g_region (h:=?_)|refine l_nil (h:=?_)|refine n_then (h:=?_)|refine l_pures1 (h:=?_)|(refine l_at 52 ?_; refine l_call (bNew640_does) ?_)|(refine l_at 53 ?_; refine l_call (hl) ?_)|(refine l_at 54 ?_; refine l_call_ (ho) ?_; rintro _ _ _ ⟨b', rfl, rfl⟩ he; cases he)|refine l_load (h:=?_)|refine l_store (h:=?_)|(refine l_alloc (h:=?_); intro _)|refine g_skip (h:=?_)|refine g_ret (h:=?_)|refine n_then_ret (h:=?_)|(refine g_sp (h1 := ?_) (h0 := ?_) <;> intro h)))
 ·have e : format D = (none, headNew.lay D) := by simp [format, *]
  rw [e]
  refine r_retk [Disk db (headNew.lay D).2] ?_
  exact ⟨rfl, rfl⟩
 ·have e : format D = (some headNew, 0, (headNew.lay D).2) := by simp [format, *]
  rw [e]
  refine r_retk [Store b' db headNew.over, Disk db (headNew.lay D).2] ?_
  exact ⟨b', rfl, rfl⟩
def setAll (u : List UInt8) (on : Bool) (l : List Int) : List UInt8 := l.foldl (fun u n => withB u n on) u
theorem setAll_len (on : Bool) : ∀ (l : List Int) (u : List UInt8), (setAll u on l).length = u.length
 | [], u => rfl
 | n :: l, u => by
  show (setAll (withB u n on) on l).length = _
  rw [setAll_len on l, withB_len]
def Sh.next (S : Sh) (root : Int) : Hd := ⟨S.gen + 1, root, setAll (setAll S.used true (rise S.fresh)) false (rise S.given)⟩
end Go.Proofs.YtelfjhemnnbbpaaGreat
set_option maxRecDepth 20000
namespace Go.Proofs.YtelfjhemnnbbpaaGreat
open Go.Proofs.YtelfjhemnnbbpaaGreat.SL
abbrev Wk (b sb : Nat) (read e : Int) : SProp := cl b 172 [.pointer (some ⟨sb, 0, none⟩), .int .i64 read, .int .i64 e]
theorem wFail0_does (b sb : Nat) (read : Int) : Does Tryz.prog 103 [.pointer (some ⟨b, 0, none⟩), .int .i64 0] [Wk b sb read 0] (fun v H => v = .bool false ∧ H = [Wk b sb read 0]) := by
 refine does_of Tryz.func103 Tryz.ntmps103 rfl rfl rfl (fun w0 F0 => ?_)
 (repeat' (first|refine g_seq (h:=?_)|refine g_region (h:=?_)|refine l_nil (h:=?_)|refine n_then (h:=?_)|refine l_pures1 (h:=?_)|refine l_load (h:=?_)|refine l_store (h:=?_)|refine g_ret (h:=?_)|refine g_cond_t (h:=?_)))
 refine r_ret ?_
 exact ⟨rfl, rfl⟩
set_option maxHeartbeats 1000000 in
theorem wNode_does (b sb db deep : Nat) (at' read : Int) (S : Sh) (D : Dk) (d : Nd) (hd : d.good) (hr : S.read D at' = ((2, d.text, 0), S)) (h1 : 0 ≤ read ∧ read < 640) (h2 : deep ≤ 10) :
  Does Tryz.prog 122 [.pointer (some ⟨b, 0, none⟩), .int .i64 at', .int .i64 deep] [Wk b sb read 0, Store sb db S, Disk db D]
   (fun v H => ∃ r, v = ndV d r ∧ H = [Nds d r, Wk b sb (read + 1) 0, Store sb db S, Disk db D]) := by
 have hR := sRead_does sb db S D at'
 rw [hr] at hR
 dsimp only at hR
 have hD := Decode_does d hd
 have hF := wFail0_does b sb (read + 1)
 have ew : IntKind.i64.wrap (read + 1) = read + 1 := wrapI64 (by omega)
 refine does_of Tryz.func122 Tryz.ntmps122 rfl rfl rfl (fun w0 F0 => ?_)
 (repeat (first|refine g_seq (h:=?_)|refine g_region (h:=?_)|refine l_nil (h:=?_)|refine n_then (h:=?_)|refine l_pures1 (h:=?_)|refine l_load (h:=?_)|refine l_store (h:=?_)|(refine l_alloc (h:=?_); intro _)))
 rw [ew]
 (repeat' (first|refine g_seq (h:=?_)|refine g_region (h:=?_)|refine l_nil (h:=?_)|refine n_then (h:=?_)|refine l_pures1 (h:=?_)|(refine l_atc ?_; refine l_call (hR) ?_)|(refine l_atc ?_; refine l_call (hF) ?_)|(refine l_atc ?_; refine l_call_ (hD) ?_; rintro _ _ _ ⟨r, rfl, rfl⟩ he; cases he)|refine l_guard_yes (h:=?_)|refine l_load (h:=?_)|refine l_store (h:=?_)|refine g_skip (h:=?_)|refine g_ret (h:=?_)|refine g_cond_f (h:=?_)|(refine g_spF (h:=?_); intro h)))
 refine r_retk [Nds d r, Wk b sb (read + 1) 0, Store sb db S, Disk db D] ?_
 exact ⟨r, rfl, rfl⟩
set_option maxHeartbeats 1000000 in
theorem wWrite_does (b sb db : Nat) (at' read : Int) (S S' : Sh) (D D' : Dk) (d : Nd) (r : Rw) (hd : d.good) (hw : S.write D at' 2 d.text = (0, S', D')) :
  Does Tryz.prog 128 [.pointer (some ⟨b, 0, none⟩), .int .i64 at', ndV d r] [Wk b sb read 0, Store sb db S, Disk db D, Nds d r]
   (fun v H => v = .int .i64 at' ∧ H = [Wk b sb read 0, Store sb db S', Disk db D', Nds d r]) := by
 have hlen := d.text_len hd.p
 have hsz := hd.size
 have hW := sWrite_does sb db S D at' 2 d.text (by omega)
 rw [hw] at hW
 dsimp only at hW
 have hE := Encode_does d r hd
 have hF := wFail0_does b sb read
 refine does_of Tryz.func128 Tryz.ntmps128 rfl rfl rfl (fun w0 F0 => ?_)
 (repeat' (first|refine g_seq (h:=?_)|refine g_region (h:=?_)|refine l_nil (h:=?_)|refine n_then (h:=?_)|refine l_pures1 (h:=?_)|(refine l_atc ?_; refine l_call (hE) ?_)|(refine l_atc ?_; refine l_call (hW) ?_)|(refine l_atc ?_; refine l_call (hF) ?_)|refine l_load (h:=?_)|(refine l_box (h:=?_); intro _)|refine g_ret (h:=?_)|refine g_cond_f (h:=?_)))
 refine r_retk [Wk b sb read 0, Store sb db S', Disk db D', Nds d r] ?_
 exact ⟨rfl, rfl⟩
set_option maxHeartbeats 1000000 in
theorem wFresh_does (b sb db : Nat) (at' read : Int) (S S' S'' : Sh) (D D' : Dk) (d : Nd) (r : Rw) (hd : d.good) (ht : S.take D = ((at', 0), S')) (hw : S'.write D at' 2 d.text = (0, S'', D')) :
  Does Tryz.prog 106 [.pointer (some ⟨b, 0, none⟩), ndV d r] [Wk b sb read 0, Store sb db S, Disk db D, Nds d r]
   (fun v H => v = .int .i64 at' ∧ H = [Wk b sb read 0, Store sb db S'', Disk db D', Nds d r]) := by
 have hT := sTake_does sb db S D
 rw [ht] at hT
 dsimp only at hT
 have hW := wWrite_does b sb db at' read S' S'' D D' d r hd hw
 have hF := wFail0_does b sb read
 refine does_of Tryz.func106 Tryz.ntmps106 rfl rfl rfl (fun w0 F0 => ?_)
 (repeat' (first|refine g_seq (h:=?_)|refine g_region (h:=?_)|refine l_nil (h:=?_)|refine n_then (h:=?_)|refine l_pures1 (h:=?_)|(refine l_atc ?_; refine l_call (hT) ?_)|(refine l_atc ?_; refine l_call (hW) ?_)|(refine l_atc ?_; refine l_call (hF) ?_)|refine l_load (h:=?_)|(refine l_box (h:=?_); intro _)|refine g_skip (h:=?_)|refine g_ret (h:=?_)|refine g_cond_f (h:=?_)))
 refine r_retk [Wk b sb read 0, Store sb db S'', Disk db D', Nds d r] ?_
 exact ⟨rfl, rfl⟩
set_option maxHeartbeats 1000000 in
theorem wLayF_does (b sb db : Nat) (at' read : Int) (S S' : Sh) (D D' : Dk) (d : Nd) (r : Rw) (hd : d.good) (hf : at' ∈ S.fresh) (hw : S.write D at' 2 d.text = (0, S', D')) :
  Does Tryz.prog 101 [.pointer (some ⟨b, 0, none⟩), .int .i64 at', ndV d r] [Wk b sb read 0, Store sb db S, Disk db D, Nds d r]
   (fun v H => v = .int .i64 at' ∧ H = [Wk b sb read 0, Store sb db S', Disk db D', Nds d r]) := by
 have hT := sFresh_does sb db S at'
 rw [decide_eq_true hf] at hT
 have hW := wWrite_does b sb db at' read S S' D D' d r hd hw
 refine does_of Tryz.func101 Tryz.ntmps101 rfl rfl rfl (fun w0 F0 => ?_)
 (repeat' (first|refine g_seq (h:=?_)|refine g_region (h:=?_)|refine l_nil (h:=?_)|refine n_then (h:=?_)|refine l_pures1 (h:=?_)|(refine l_atc ?_; refine l_call (hT) ?_)|(refine l_atc ?_; refine l_call (hW) ?_)|refine l_load (h:=?_)|(refine l_box (h:=?_); intro _)|refine g_ret (h:=?_)|refine n_then_ret (h:=?_)|refine g_cond_t (h:=?_)))
 refine r_retk [Wk b sb read 0, Store sb db S', Disk db D', Nds d r] ?_
 exact ⟨rfl, rfl⟩
set_option maxHeartbeats 1000000 in
theorem wLayG_does (b sb db : Nat) (at' read x e : Int) (S S1 S2 : Sh) (D D2 : Dk) (d : Nd) (r : Rw) (ha : -9223372036854775808 ≤ at' ∧ at' < 9223372036854775808) (hf : at' ∉ S.fresh) (hg : S.give at' = (0, S1))
  (hw : Does Tryz.prog 106 [.pointer (some ⟨b, 0, none⟩), ndV d r] [Wk b sb read 0, Store sb db S1, Disk db D, Nds d r] (fun v H => v = .int .i64 x ∧ H = [Wk b sb read e, Store sb db S2, Disk db D2, Nds d r])) :
  Does Tryz.prog 101 [.pointer (some ⟨b, 0, none⟩), .int .i64 at', ndV d r] [Wk b sb read 0, Store sb db S, Disk db D, Nds d r]
   (fun v H => v = .int .i64 x ∧ H = [Wk b sb read e, Store sb db S2, Disk db D2, Nds d r]) := by
 have hT := sFresh_does sb db S at'
 rw [decide_eq_false hf] at hT
 have hG := sGive_does sb db S at' ha
 rw [hg] at hG
 dsimp only at hG
 have hF := wFail0_does b sb read
 refine does_of Tryz.func101 Tryz.ntmps101 rfl rfl rfl (fun w0 F0 => ?_)
 (repeat' (first|refine g_seq (h:=?_)|refine g_region (h:=?_)|refine l_nil (h:=?_)|refine n_then (h:=?_)|refine l_pures1 (h:=?_)|(refine l_atc ?_; refine l_call (hT) ?_)|(refine l_atc ?_; refine l_call (hG) ?_)|(refine l_atc ?_; refine l_call (hF) ?_)|(refine l_atc ?_; refine l_call (hw) ?_)|refine l_load (h:=?_)|(refine l_box (h:=?_); intro _)|refine g_skip (h:=?_)|refine g_ret (h:=?_)|refine g_cond_f (h:=?_)))
 refine r_retk [Wk b sb read e, Store sb db S2, Disk db D2, Nds d r] ?_
 exact ⟨rfl, rfl⟩
end Go.Proofs.YtelfjhemnnbbpaaGreat
set_option maxRecDepth 20000
namespace Go.Proofs.YtelfjhemnnbbpaaGreat
open Go.Proofs.YtelfjhemnnbbpaaGreat.SL
theorem vec_cut {e sz m k cap : Nat} {p : Option Addr} {xs ys : List Value} {w0 w : World} {F0 : Nat → Prop} {H : List SProp} (hx : xs.length = m * sz) (i : Inv w0 F0 (vec e sz p (m + k) cap (xs ++ ys) :: H) w) : Inv w0 F0 (vec e sz p m cap xs :: H) w := by
 refine i.imp fun {h F} s => ⟨F, ?_, fun _ h => h⟩
 obtain ⟨F1, F2, ⟨hl, o⟩, s', dj, un⟩ := s
 refine ⟨F1, F2, ⟨hx, ?_⟩, s', dj, un⟩
 rcases o with ⟨e1, e2, e3, e4⟩ | ⟨g, rest, h1, h2, h3, h4, h5⟩
 ·exact .inl ⟨e1, by omega, e3, e4⟩
 ·refine .inr ⟨g, ys ++ rest, h1, by omega, h3, by rw [← List.append_assoc]; exact h4, by rw [← List.append_assoc]; exact h5⟩
structure Sp where
 pg : Int
 d : Nd
 r : Rw
 i : Nat
abbrev Sp.v (s : Sp) : Value := .agg #[.int .i64 s.pg, .bool s.d.leaf, .slice s.r.p1 s.d.keys.length s.r.c1, .slice s.r.p2 s.d.vals.length s.r.c2, .slice s.r.p3 s.d.kids.length s.r.c3, .int .i64 s.i]
def Sp.c (s : Sp) : List Value := [.int .i64 s.pg, .bool s.d.leaf, .slice s.r.p1 s.d.keys.length s.r.c1, .slice s.r.p2 s.d.vals.length s.r.c2, .slice s.r.p3 s.d.kids.length s.r.c3, .int .i64 s.i]
def spC (l : List Sp) : List Value := l.flatMap Sp.c
theorem spC_len : ∀ l : List Sp, (spC l).length = l.length * 6
 | [] => rfl
 | s :: l => by
  have := spC_len l
  simp only [spC, List.flatMap_cons, List.length_append, List.length_cons] at *
  simp only [Sp.c, List.length_cons, List.length_nil]; omega
theorem spC_snoc (l : List Sp) (s : Sp) : spC (l ++ [s]) = spC l ++ s.c := by simp [spC]
abbrev StkK (b : Nat) (l : List Sp) (x : Option Addr × Nat) : List SProp := [cl b 190 [.slice x.1 l.length x.2], vec 177 6 x.1 l.length x.2 (spC l)]
def Stk (b : Nat) (l : List Sp) : SProp := hid (fun _ : Option Addr × Nat => True) (StkK b l)
theorem part_spot (l : List Sp) (s : Sp) : partV env 177 (spC l ++ s.c) (0 + ((l.length : Nat) : Int).toNat * 6) = some s.v := by
 have e : 0 + ((l.length : Nat) : Int).toNat * 6 = (spC l).length := by rw [spC_len, Int.toNat_natCast, Nat.zero_add]
 have h : cutL (spC l ++ s.c) (spC l).length 6 = some s.c := by
  rw [cutL_of (by simp [Sp.c])]
  simp [Sp.c]
 rw [e]
 show (match cutL (spC l ++ s.c) (spC l).length 6 with
    | some r => some (Value.agg r.toArray)
    | none => none) = _
 rw [h]
 rfl
set_option maxHeartbeats 1000000 in
theorem push_does (b : Nat) (l : List Sp) (s : Sp) (hl : l.length < 100) : Does Tryz.prog 123 [.pointer (some ⟨b, 0, none⟩), s.v] [Stk b l] (fun v H => v = .tuple #[] ∧ H = [Stk b (l ++ [s])]) := by
 have e0 : (l ++ [s]).length = l.length + 1 := by simp
 have e1 : spC l ++ #[Value.int .i64 s.pg, .bool s.d.leaf, .slice s.r.p1 s.d.keys.length s.r.c1, .slice s.r.p2 s.d.vals.length s.r.c2, .slice s.r.p3 s.d.kids.length s.r.c3, .int .i64 s.i].toList = spC (l ++ [s]) := (spC_snoc l s).symm
 refine does_of Tryz.func123 Tryz.ntmps123 rfl rfl rfl (fun w0 F0 => ?_)
 refine g_open (A := Stk b l) (h:=?_); (rintro ⟨p, cap⟩ _; dsimp only [StkK, List.cons_append, List.nil_append])
 (repeat' (first|refine g_seq (h:=?_)|refine g_region (h:=?_)|refine l_nil (h:=?_)|refine n_then (h:=?_)|(refine l_box (h:=?_); intro _)))
 rename_i b1
 (refine g_draw [cl b1 177 _] (h := a_pass2 (h:=?_)))
 (repeat' (first|refine l_nil (h:=?_)|refine l_load (h:=?_)|refine l_store (h:=?_)|(refine l_buildSlice1 (h:=?_); intro _)|(refine l_append_new (h:=?_); intro _ _)|refine a_done (h:=?_)|refine a_load (h := a_pass2 (h:=?_))|refine a_one (h:=?_)|refine n_any (h := a_pass2 (h:=?_))|refine a_fork2 (h1 := ?_) (h2 := ?_)|refine a1_of (h:=?_)))
 all_goals rename_i b2 p' cap'
 all_goals
  rw [← e0, e1]
 all_goals
  (refine n_shut (A := Stk b (l ++ [s])) (K := StkK b (l ++ [s]) ((p', cap'))) (hid_shuts ((p', cap')) trivial) (h:=?_) (p := by dsimp only [StkK]; (try simp only [List.map_nil, List.length_nil, List.length_set, List.length_append, List.length_cons, List.length_singleton, List.map_append, List.map_cons, Nat.zero_add]); exact parts_of))
 all_goals
  refine r_endk [Stk b (l ++ [s])] ?_
 all_goals exact ⟨rfl, rfl⟩
set_option maxHeartbeats 1000000 in
theorem popNone_does (b : Nat) : Does Tryz.prog 96 [.pointer (some ⟨b, 0, none⟩)] [Stk b []] (fun v H => v = .tuple #[.agg #[.int .i64 0, .bool false, .slice none 0 0, .slice none 0 0, .slice none 0 0, .int .i64 0], .bool false] ∧ H = [Stk b []]) := by
 refine does_of Tryz.func96 Tryz.ntmps96 rfl rfl rfl (fun w0 F0 => ?_)
 refine g_open (A := Stk b []) (h:=?_); (rintro ⟨p, cap⟩ _; dsimp only [StkK, List.cons_append, List.nil_append])
 (repeat' (first|refine g_seq (h:=?_)|refine g_region (h:=?_)|refine l_nil (h:=?_)|refine n_then (h:=?_)|refine l_pures1 (h:=?_)|refine l_load (h:=?_)|refine l_store (h:=?_)|(refine l_alloc (h:=?_); intro _)|refine g_ret (h:=?_)|refine n_then_ret (h:=?_)|refine g_cond_t (h:=?_)))
 (refine n_shut (A := Stk b []) (K := StkK b [] ((p, cap))) (hid_shuts ((p, cap)) trivial) (h:=?_) (p := by dsimp only [StkK]; (try simp only [List.map_nil, List.length_nil, List.length_set, List.length_append, List.length_cons, List.length_singleton, List.map_append, List.map_cons, Nat.zero_add]); exact parts_of))
 refine r_retk [Stk b []] ?_
 exact ⟨rfl, rfl⟩
set_option maxHeartbeats 1000000 in
theorem pop_does (b : Nat) (l : List Sp) (s : Sp) (hl : l.length < 100) : Does Tryz.prog 96 [.pointer (some ⟨b, 0, none⟩)] [Stk b (l ++ [s])] (fun v H => v = .tuple #[s.v, .bool true] ∧ H = [Stk b l]) := by
 have e0 : (l ++ [s]).length = l.length + 1 := by simp
 have hp := part_spot l s
 refine does_of Tryz.func96 Tryz.ntmps96 rfl rfl rfl (fun w0 F0 => ?_)
 refine g_open (A := Stk b (l ++ [s])) (h:=?_); (rintro ⟨p, cap⟩ _; dsimp only [StkK, List.cons_append, List.nil_append])
 rw [e0, spC_snoc]
 refine g_ptr (m := l.length + 1) (h:=?_); rintro g rfl hc
 have ew : IntKind.i64.wrap (((l.length + 1 : Nat) : Int) - 1) = (l.length : Int) := by rw [wrapI64 (by omega)]; omega
 (repeat' (first|refine g_seq (h:=?_)|refine g_region (h:=?_)|refine l_nil (h:=?_)|refine n_then (h:=?_)|refine l_pures1 (h:=?_)|refine l_load (h:=?_)|(refine l_alloc (h:=?_); intro _)|refine g_skip (h:=?_)|refine g_cond_f (h:=?_)))
 (refine g_draw [cl b 190 [.slice (some ⟨g, 0, none⟩) (l.length + 1) cap], vec 177 6 (some ⟨g, 0, none⟩) (l.length + 1) cap (spC l ++ s.c)] (h := a_pass2 (h:=?_)))
 (repeat (first|refine l_nil (h:=?_)|refine l_indexAddr (h:=?_)|refine a_load (h := a_pass2 (h:=?_))|refine a_one (h:=?_)|refine n_any (h := a_pass2 (h:=?_))))
 rw [ew]
 (repeat (first|refine g_seq (h:=?_)|refine l_nil (h:=?_)|refine n_then (h:=?_)|refine l_store (h:=?_)|refine a_done (h:=?_)|refine a_one (h:=?_)|refine n_any (h := a_pass2 (h:=?_))|refine l_load_vec (h:=?_)))
 (refine g_draw [] (h := a_pass2 (h:=?_)))
 (repeat' (first|refine g_seq (h:=?_)|refine g_region (h:=?_)|refine l_nil (h:=?_)|refine n_then (h:=?_)|refine l_pures1 (h:=?_)|refine l_load (h:=?_)|refine l_store (h:=?_)|refine l_slice (h:=?_)|refine g_ret (h:=?_)|refine a_done (h:=?_)|refine a_one (h:=?_)|refine n_any (h := a_pass2 (h:=?_))|refine a_fork2 (h1 := ?_) (h2 := ?_)|refine a1_of (h:=?_)))
 all_goals rw [ew]
 all_goals simp only [Int.toNat_natCast, Int.toNat_zero, Nat.zero_mul, Nat.add_zero, Nat.sub_zero]
 all_goals refine n_inv (fun i => vec_cut (spC_len l) (i.take (Take.there (Take.there Take.here)))) ?_
 all_goals
  (refine n_shut (A := Stk b l) (K := StkK b l (((some ⟨g, 0, none⟩ : Option Addr), cap))) (hid_shuts (((some ⟨g, 0, none⟩ : Option Addr), cap)) trivial) (h:=?_) (p := by dsimp only [StkK]; (try simp only [List.map_nil, List.length_nil, List.length_set, List.length_append, List.length_cons, List.length_singleton, List.map_append, List.map_cons, Nat.zero_add]); exact parts_of))
 all_goals
  refine r_retk [Stk b l] ?_
 all_goals exact ⟨rfl, rfl⟩
end Go.Proofs.YtelfjhemnnbbpaaGreat
set_option maxRecDepth 20000
namespace Go.Proofs.YtelfjhemnnbbpaaGreat
open Go.Proofs.YtelfjhemnnbbpaaGreat.SL
abbrev Sp.spot (s : Sp) : Spot := ⟨s.pg, s.d, s.i⟩
def ndlK (L : List Sp) (_ : Unit) : List SProp := L.map fun s => Nds s.d s.r
def NdL (L : List Sp) : SProp := hid (fun _ : Unit => True) (ndlK L)
theorem ndl_nil {w0 w : World} {F0 : Nat → Prop} {H : List SProp} (i : Inv w0 F0 H w) : Inv w0 F0 (NdL [] :: H) w := Inv.shuts (K := []) (A := NdL []) (show Shuts [] (NdL []) from fun _ _ s => ⟨(), trivial, s⟩) i
theorem spC_nil : spC [] = [] := rfl
theorem ndl_snoc {w0 w : World} {F0 : Nat → Prop} {H : List SProp} {L : List Sp} {s : Sp} (i : Inv w0 F0 (NdL L :: Nds s.d s.r :: H) w) : Inv w0 F0 (NdL (L ++ [s]) :: H) w := by
 obtain ⟨u, _, i⟩ := i.opens (hid_opens (p := fun _ : Unit => True) (K := ndlK L))
 have e : ndlK L () ++ Nds s.d s.r :: H = ndlK (L ++ [s]) () ++ H := by simp [ndlK]
 cases u
 rw [e] at i
 exact i.shuts (hid_shuts () trivial)
theorem ndl_last {w0 w : World} {F0 : Nat → Prop} {H : List SProp} {L : List Sp} {s : Sp} (i : Inv w0 F0 (NdL (L ++ [s]) :: H) w) : Inv w0 F0 (NdL L :: Nds s.d s.r :: H) w := by
 obtain ⟨u, _, i⟩ := i.opens (hid_opens (p := fun _ : Unit => True) (K := ndlK (L ++ [s])))
 have e : ndlK (L ++ [s]) () ++ H = ndlK L () ++ Nds s.d s.r :: H := by simp [ndlK]
 cases u
 rw [e] at i
 exact i.shuts (hid_shuts () trivial)
def Goes (S : Sh) (D : Dk) (x : Nat) : Int → List Spot → Prop
 | _, [] => False
 | pg, s :: l => s.pg = pg ∧ S.read D pg = ((2, s.d.text, 0), S) ∧ s.d.good ∧ (s.d.leaf = true ∧ s.i = posN s.d.keys x ∧ l = [] ∨ s.d.leaf = false ∧ s.i = cntN s.d.keys x ∧ Goes S D x (s.d.kids.getD s.i 0) l)
set_option maxHeartbeats 2000000 in
theorem way_does (b sb db x : Nat) (root read : Int) (S : Sh) (D : Dk) (path : List Spot) (hg : Goes S D x root path) (hl : path.length ≤ 10) (h1 : 0 ≤ read ∧ read + path.length ≤ 640) :
  Does Tryz.prog 95 [.pointer (some ⟨b, 0, none⟩), .int .i64 root, .int .u64 x] [Wk b sb read 0, Store sb db S, Disk db D]
   (fun v H => ∃ b' L, L.map Sp.spot = path ∧ v = .pointer (some ⟨b', 0, none⟩) ∧ H = [Stk b' L, NdL L, Wk b sb (read + path.length) 0, Store sb db S, Disk db D]) := by
 refine does_of Tryz.func95 Tryz.ntmps95 rfl rfl rfl (fun w0 F0 => ?_)
 (repeat (first|refine g_seq (h:=?_)|refine g_region (h:=?_)|refine l_nil (h:=?_)|refine n_then (h:=?_)|refine l_pures1 (h:=?_)|(refine l_box (h:=?_); intro _)|refine g_block (h:=?_)))
 rename_i b'
 refine g_inv (fun i => vec_nil (177) (6) i) ?_
 refine g_inv (H' := [vec 177 6 none 0 0 [], cl b' 190 [.slice none 0 0], Wk b sb read 0, Store sb db S, Disk db D]) (fun i => i) ?_
 (refine g_shut (A := Stk b' []) (K := StkK b' [] (((none : Option Addr), 0))) (hid_shuts (((none : Option Addr), 0)) trivial) (h:=?_) (p := by dsimp only [StkK]; (try simp only [List.map_nil, List.length_nil, List.length_set, List.length_append, List.length_cons, List.length_singleton, List.map_append, List.map_cons, Nat.zero_add, spC_nil]); exact parts_of))
 refine g_inv (fun i => ndl_nil i) ?_
 (refine g_loop (fun y : List Sp × List Spot × Int => [(9, .int .i64 (y.1.length + 1 : Nat)), (8, .int .i64 y.2.2), (7, .pointer (some ⟨b', 0, none⟩)), (0, .pointer (some ⟨b, 0, none⟩)), (2, .int .u64 x)]) (fun y => [Stk b' y.1, NdL y.1, Wk b sb (read + y.1.length) 0, Store sb db S, Disk db D]) (fun y => Goes S D x y.2.2 y.2.1 ∧ y.1.map Sp.spot ++ y.2.1 = path) (fun y => y.2.1.length) (([], path, root)) ?_ ?_ ?_ ?_; rotate_left; (repeat (first | refine ts_nil | (refine ts_cons rfl ?_ ?_; first | (with_reducible rfl) | rotate_left))); (first | (intro _ i; with_reducible refine i) | rotate_left); rotate_left; (try omega); rotate_right)
 ·rintro ⟨L, rest, pg⟩ ⟨hgo, hp⟩
  dsimp only at hgo hp ⊢
  cases rest with
  | nil => exact hgo.elim
  | cons s l =>
   obtain ⟨pg', d, i⟩ := s
   obtain ⟨e1, e2, e3, e4⟩ := hgo
   dsimp only at e1 e2 e3 e4
   subst e1
   have hlen : L.length + (l.length + 1) = path.length := by rw [← hp]; simp
   have hn := wNode_does b sb db (L.length + 1) pg' (read + L.length) S D d e3 e2 (by omega) (by omega)
   have hpush := fun r => push_does b' L ⟨pg', d, r, i⟩ (by omega)
   have hF := fun r => Find_does d r x e3.fits e3.p.rise
   rcases e4 with ⟨f1, f2, f3⟩ | ⟨f1, f2, f3⟩
   ·simp only [f1, if_true, ← f2] at hF
    (repeat' (first|refine g_seq (h:=?_)|refine g_region (h:=?_)|refine l_nil (h:=?_)|refine n_then (h:=?_)|refine l_pures1 (h:=?_)|(refine l_atc ?_; refine l_call_ (hn) ?_; rintro _ _ _ ⟨r, rfl, rfl⟩ he; cases he)|(refine l_atc ?_; refine l_call (hF _) ?_)|(refine l_atc ?_; refine l_call (hpush _) ?_)|refine l_load (h:=?_)|refine l_store (h:=?_)|(refine l_alloc (h:=?_); intro _)|refine g_skip (h:=?_)|refine g_ret (h:=?_)|refine n_then_ret (h:=?_)|refine n_block_ret (h:=?_)|refine g_block (h:=?_)|refine g_cond_f (h:=?_)|(refine g_sp (h1 := ?_) (h0 := ?_) <;> intro h)))
    ·subst f3
     have er : read + (path.length : Int) = read + L.length + 1 := by simp at hlen; omega
     refine n_inv (fun q => ndl_snoc (s := ⟨pg', d, r, i⟩) ((q.take (A := Nds d r) (by with_reducible (repeat (first | refine Take.here | apply Take.there)))).take (A := NdL L) (Take.there (by with_reducible (repeat (first | refine Take.here | apply Take.there)))))) ?_
     refine r_retk [Stk b' (L ++ [⟨pg', d, r, i⟩]), NdL (L ++ [⟨pg', d, r, i⟩]), Wk b sb (read + L.length + 1) 0, Store sb db S, Disk db D] ?_
     exact ⟨b', L ++ [⟨pg', d, r, i⟩], by rw [← hp]; simp, rfl, by rw [er]⟩
    ·exact absurd (f1.symm.trans h) (by decide)
   ·simp only [f1, Bool.false_eq_true, if_false, ← f2] at hF
    have hkl := e3.p.kids
    simp only [f1, Bool.false_eq_true, if_false] at hkl
    have hci := (cntN_spec (x := x) e3.p.rise).1
    rw [← f2] at hci
    have hfk := e3.fits.k
    (repeat' (first|refine g_seq (h:=?_)|refine g_region (h:=?_)|refine l_nil (h:=?_)|refine n_then (h:=?_)|refine l_pures1 (h:=?_)|(refine l_atc ?_; refine l_call_ (hn) ?_; rintro _ _ _ ⟨r, rfl, rfl⟩ he; cases he)|(refine l_atc ?_; refine l_call (hF _) ?_)|(refine l_atc ?_; refine l_call (hpush _) ?_)|refine l_load (h:=?_)|refine l_store (h:=?_)|(refine l_alloc (h:=?_); intro _)|refine g_skip (h:=?_)|refine g_ret (h:=?_)|refine n_then_ret (h:=?_)|refine n_block_ret (h:=?_)|refine g_block (h:=?_)|refine g_cond_f (h:=?_)|(refine g_sp (h1 := ?_) (h0 := ?_) <;> intro h)))
    ·exact absurd (f1.symm.trans h) (by decide)
    ·obtain ⟨p1, c1, p2, c2, p3, c3⟩ := r
     refine l_open (A := Nds d ⟨p1, c1, p2, c2, p3, c3⟩) (h:=?_); (rintro _ _; dsimp only [NdsK, List.cons_append, List.nil_append])
     refine l_ptr (m := d.kids.length) (h:=?_); rintro g rfl hc
     have hgk := iGet (l := d.kids) (k := i) (by omega)
     (repeat (first|refine g_region (h:=?_)|refine l_nil (h:=?_)|refine n_then (h:=?_)|refine l_pures1 (h:=?_)|refine l_indexAddr (h:=?_)|refine n_block (h:=?_)|refine l_load_vec (h:=?_)))
     (refine n_shut (A := Nds d ⟨p1, c1, p2, c2, some ⟨g, 0, none⟩, c3⟩) (K := NdsK d ⟨p1, c1, p2, c2, some ⟨g, 0, none⟩, c3⟩ (())) (hid_shuts (()) trivial) (h:=?_) (p := by dsimp only [NdsK]; (try simp only [List.map_nil, List.length_nil, List.length_set, List.length_append, List.length_cons, List.length_singleton, List.map_append, List.map_cons, Nat.zero_add]); exact parts_of))
     refine n_inv (fun q => ndl_snoc (s := ⟨pg', d, ⟨p1, c1, p2, c2, some ⟨g, 0, none⟩, c3⟩, i⟩) ((q.take (A := Nds d ⟨p1, c1, p2, c2, some ⟨g, 0, none⟩, c3⟩) (by with_reducible (repeat (first | refine Take.here | apply Take.there)))).take (A := NdL L) (Take.there (by with_reducible (repeat (first | refine Take.here | apply Take.there)))))) ?_
     (refine n_back ((L ++ [⟨pg', d, ⟨p1, c1, p2, c2, some ⟨g, 0, none⟩, c3⟩, i⟩], l, d.kids.getD i 0)) ?_ ?_ ?_ ?_; rotate_left; rotate_left; (repeat (first | refine ts_nil | (refine ts_cons rfl ?_ ?_; first | (with_reducible rfl) | rotate_left))); (first | (intro _ i; with_reducible refine i) | rotate_left); (try omega); (try omega))
     ·exact ⟨f3, by rw [← hp]; simp⟩
     ·exact Nat.lt_succ_self _
     ·rw [wrapI64 (by omega), List.length_append]; rfl
     ·dsimp only
      have er : read + ((L ++ [(⟨pg', d, ⟨p1, c1, p2, c2, some ⟨g, 0, none⟩, c3⟩, i⟩ : Sp)]).length : Int) = read + L.length + 1 := by rw [List.length_append, List.length_singleton]; omega
      rw [er]
      (intro _ i; exact inv_keep parts_of i)
 ·exact ⟨hg, rfl⟩
 ·rfl
 ·dsimp only
  rw [show read + (([] : List Sp).length : Int) = read by simp]
  (intro _ i; exact inv_keep parts_of i)
end Go.Proofs.YtelfjhemnnbbpaaGreat
set_option maxRecDepth 20000
namespace Go.Proofs.YtelfjhemnnbbpaaGreat
open Go.Proofs.YtelfjhemnnbbpaaGreat.SL
theorem Goes.last {S : Sh} {D : Dk} {x : Nat} : ∀ {l : List Spot} {s : Spot} {pg : Int}, Goes S D x pg (l ++ [s]) → s.d.good ∧ s.d.leaf = true ∧ s.i = posN s.d.keys x
 | [], s, pg, ⟨_, _, h3, h4⟩ => by
  rcases h4 with ⟨a, b, _⟩ | ⟨_, _, c⟩
  ·exact ⟨h3, a, b⟩
  ·exact c.elim
 | t :: l, s, pg, ⟨_, _, _, h4⟩ => by
  rcases h4 with ⟨_, _, c⟩ | ⟨_, _, c⟩
  ·simp at c
  ·exact Goes.last c
set_option maxHeartbeats 2000000 in
theorem Get_does (sb db x : Nat) (root : Int) (S : Sh) (D : Dk) (l0 : List Spot) (s : Spot) (hg : Goes S D x root (l0 ++ [s])) (hl : l0.length + 1 ≤ 10) (hr : root ≠ 0) :
  Does Tryz.prog 69 [.pointer (some ⟨sb, 0, none⟩), .int .i64 root, .int .u64 x] [Store sb db S, Disk db D]
   (fun v H => v = (if x ∈ s.d.keys then .tuple #[.string (str (s.d.vals.getD s.i [])), .bool true, .int .i64 0] else .tuple #[.string (str []), .bool false, .int .i64 0]) ∧ H = [Store sb db S, Disk db D]) := by
 obtain ⟨hd, hlf, hi⟩ := hg.last
 have hw := fun b => way_does b sb db x root 0 S D (l0 ++ [s]) hg (by simp; omega) (by simp; omega)
 have hv := hd.p.vals
 simp only [hlf, if_true] at hv
 refine does_of Tryz.func69 Tryz.ntmps69 rfl rfl rfl (fun w0 F0 => ?_)
 (repeat' (first|refine g_seq (h:=?_)|refine g_region (h:=?_)|refine l_nil (h:=?_)|refine n_then (h:=?_)|refine l_pures1 (h:=?_)|(refine l_box (h:=?_); intro _)|refine g_skip (h:=?_)|(refine g_spF (h:=?_); intro h)))
 rename_i b
 refine l_inv (H' := [Wk b sb 0 0, Store sb db S, Disk db D]) (fun i => i) ?_
 (repeat' (refine l_atc ?_; refine l_call_ (hw b) ?_; rintro _ _ _ ⟨b', L, hL, rfl, rfl⟩ he; cases he))
 obtain ⟨L0, t, rfl⟩ : ∃ L0 t, L = L0 ++ [t] := by
  rcases List.eq_nil_or_concat L with rfl | ⟨l, s, rfl⟩
  ·simp at hL
  ·exact ⟨l, s, by simp⟩
 have hL2 : L0.map Sp.spot = l0 ∧ t.spot = s := by
  have := congrArg List.reverse hL
  simp at this
  exact ⟨this.2, this.1⟩
 obtain ⟨hL1, hts⟩ := hL2
 subst hts
 have hlen : L0.length = l0.length := by rw [← hL1]; simp
 have hpop := pop_does b' L0 t (by omega)
 refine l_inv (fun q => ndl_last (q.take (A := NdL (L0 ++ [t])) (by with_reducible (repeat (first | refine Take.here | apply Take.there))))) ?_
 have hF := Find_does t.d t.r x hd.fits hd.p.rise
 dsimp only [Sp.spot] at hlf hi hv
 simp only [hlf, if_true] at hF
 rw [← hi] at hF
 (repeat' (first|refine g_seq (h:=?_)|refine g_region (h:=?_)|refine l_nil (h:=?_)|refine n_then (h:=?_)|refine l_pures1 (h:=?_)|(refine l_atc ?_; refine l_call (hpop) ?_)|(refine l_atc ?_; refine l_call (hF) ?_)|refine l_load (h:=?_)|refine l_store (h:=?_)|(refine l_alloc (h:=?_); intro _)|refine g_skip (h:=?_)|refine g_ret (h:=?_)|refine g_cond_f (h:=?_)|(refine g_sp (h1 := ?_) (h0 := ?_) <;> intro h)))
 ·have hm := (posN_mem hd.p.rise).1 h
  dsimp only [Sp.spot] at hm
  rw [← hi] at hm
  obtain ⟨tpg, td, ⟨p1, c1, p2, c2, p3, c3⟩, ti⟩ := t
  dsimp only at hv hm h
  refine l_open (A := Nds td ⟨p1, c1, p2, c2, p3, c3⟩) (h:=?_); (rintro _ _; dsimp only [NdsK, List.cons_append, List.nil_append])
  refine l_ptr (m := td.vals.length) (h:=?_); rintro g rfl hc
  have hgs := sGet (l := td.vals) (k := ti) (by omega)
  (repeat (first|refine l_nil (h:=?_)|refine n_then (h:=?_)|refine l_pures1 (h:=?_)|refine l_indexAddr (h:=?_)|refine g_ret (h:=?_)|refine n_then_ret (h:=?_)|refine l_load_vec (h:=?_)))
  refine r_retk [Store sb db S, Disk db D] ?_
  exact ⟨by rw [if_pos h]; rfl, rfl⟩
 ·skip
  refine r_retk [Store sb db S, Disk db D] ?_
  exact ⟨by rw [if_neg h]; rfl, rfl⟩
end Go.Proofs.YtelfjhemnnbbpaaGreat
namespace Go.Proofs.YtelfjhemnnbbpaaGreat
open Go.Proofs.YtelfjhemnnbbpaaGreat.SL
theorem hasB_snoc {l : List UInt8} {c : UInt8} {i : Nat} (h : i < 8 * l.length) : hasB (l ++ [c]) i = hasB l i := by
 simp only [hasB, Int.toNat_natCast]
 rw [List.getD, List.getElem?_append_left (by omega)]; rfl
theorem hasB_snoc2 {l : List UInt8} {c : UInt8} {m : Nat} (h : m < 8) : hasB (l ++ [c]) ((8 * l.length + m : Nat) : Int) = c.toNat.testBit m := by
 simp only [hasB, Int.toNat_natCast]
 rw [show (8 * l.length + m) / 8 = l.length by omega, show (8 * l.length + m) % 8 = m by omega, List.getD, List.getElem?_append_right (Nat.le_refl _)]
 simp
 intro _; omega
theorem countB_eq : ∀ (u : List UInt8), countB u = (usedN u (8 * u.length)).length := by
 refine snoc_ind rfl ?_
 intro l c ih
 rw [countB_snoc, ih]
 simp only [usedN, List.length_map]
 rw [← List.countP_eq_length_filter, ← List.countP_eq_length_filter, List.length_append, List.length_singleton, Nat.mul_add, List.range_add, List.countP_append, List.countP_map]
 congr 1
 ·apply List.countP_congr
  intro i hi
  rw [hasB_snoc (List.mem_range.1 hi)]
 ·rw [ones]
  apply List.countP_congr
  intro m hm
  have := hasB_snoc2 (l := l) (c := c) (List.mem_range.1 (by simpa using hm))
  simp only [Function.comp]
  rw [this]
theorem mem_usedN {u : List UInt8} {n : Nat} {i : Int} : i ∈ usedN u n ↔ hasB u i = true ∧ i < n := by
 simp only [usedN, List.mem_map, List.mem_filter, List.mem_range]
 constructor
 ·rintro ⟨j, ⟨h1, h2⟩, rfl⟩
  exact ⟨h2, by omega⟩
 ·rintro ⟨h1, h2⟩
  have := (hasB_lt h1).1
  exact ⟨i.toNat, ⟨by omega, by rw [Int.toNat_of_nonneg this]; exact h1⟩, Int.toNat_of_nonneg this⟩
theorem usedN_nodup (u : List UInt8) (n : Nat) : (usedN u n).Nodup := by
 exact List.Pairwise.map _ (fun a b (h : a ≠ b) q => h (by omega)) (List.Pairwise.filter _ List.nodup_range)
structure Uses (u : List UInt8) (L : List Int) : Prop where
 len : u.length = 80
 nd : L.Nodup
 mem : ∀ i, hasB u i = true ↔ i ∈ L
theorem Uses.bd {u : List UInt8} {L : List Int} (h : Uses u L) {i : Int} (hi : i ∈ L) : 0 ≤ i ∧ i < 640 := by
 have := hasB_lt ((h.mem i).2 hi)
 rw [h.len] at this
 omega
theorem Uses.usedN {u : List UInt8} {L : List Int} (h : Uses u L) {n : Nat} (hn : ∀ i ∈ L, i < n) : (usedN u n).Perm L := by
 rw [List.perm_ext_iff_of_nodup (usedN_nodup _ _) h.nd]
 intro i
 rw [mem_usedN, h.mem]
 exact ⟨fun q => q.1, fun q => ⟨q, hn i q⟩⟩
theorem Uses.count {u : List UInt8} {L : List Int} (h : Uses u L) : countB u = L.length := by
 rw [countB_eq]
 exact (h.usedN (fun i hi => by have := h.bd hi; rw [h.len]; omega)).length_eq
theorem hasB_zeros (n : Nat) (i : Int) : hasB (List.replicate n 0) i = false := by
 simp only [hasB]
 have : (List.replicate n (0 : UInt8)).getD (i.toNat / 8) 0 = 0 := by
  rw [List.getD, List.getElem?_replicate]; split <;> rfl
 rw [this]; simp
theorem uses_new : Uses (newB 640) [] := ⟨newB_len, List.nodup_nil, fun i => by rw [newB, hasB_zeros]; simp⟩
theorem has_setAll {on : Bool} : ∀ {l : List Int} {u : List UInt8} {j : Int}, (∀ i ∈ l, 0 ≤ i ∧ i < 8 * (u.length : Int)) → hasB (setAll u on l) j = if j ∈ l then on else hasB u j
 | [], u, j, _ => by simp [setAll]
 | n :: l, u, j, h => by
  show hasB (setAll (withB u n on) on l) j = _
  have hn := h n (by simp)
  rw [has_setAll (fun i hi => by rw [withB_len]; exact h i (by simp [hi])), hasB_with hn.1 (by omega)]
  by_cases q : j ∈ l
  ·simp [q]
  ·by_cases e : j = n <;> simp [q, e]
theorem Uses.add {u : List UInt8} {L F : List Int} (h : Uses u L) (hF : F.Nodup) (hb : ∀ i ∈ F, 0 ≤ i ∧ i < 640) (hd : ∀ i ∈ F, i ∉ L) {l : List Int} (hl : l.Perm F) : Uses (setAll u true l) (L ++ F) := by
 refine ⟨by rw [setAll_len, h.len], List.nodup_append.2 ⟨h.nd, hF, fun x hx y hy q => hd y hy (q ▸ hx)⟩, fun i => ?_⟩
 rw [has_setAll (fun i hi => by have := hb i (hl.mem_iff.1 hi); rw [h.len]; omega)]
 simp only [hl.mem_iff, List.mem_append]
 by_cases q : i ∈ F <;> simp [q, h.mem i]
theorem Uses.del {u : List UInt8} {L G : List Int} (h : Uses u L) (hb : ∀ i ∈ G, 0 ≤ i ∧ i < 640) {l : List Int} (hl : l.Perm G) : Uses (setAll u false l) (L.filter fun i => !decide (i ∈ G)) := by
 refine ⟨by rw [setAll_len, h.len], h.nd.filter _, fun i => ?_⟩
 rw [has_setAll (fun i hi => by have := hb i (hl.mem_iff.1 hi); rw [h.len]; omega)]
 simp only [hl.mem_iff, List.mem_filter]
 by_cases q : i ∈ G <;> simp [q, h.mem i]
theorem bodyP_len {k : Int} {t : List UInt8} (h : t.length ≤ 240) : (bodyP k t).length = 252 := by
 simp only [bodyP, List.length_cons, List.length_append, List.length_replicate]; omega
theorem sealP_len {k : Int} {t : List UInt8} (h : t.length ≤ 240) : (sealP k t).length = 256 := by
 simp only [sealP, List.length_append, bodyP_len h, putN_length]
theorem seal_of {k : Int} {t : List UInt8} (hk : 1 ≤ k ∧ k ≤ 15) (h : t.length ≤ 240) : pageSeal k t = (sealP k t, 0) := by
 rw [pageSeal, if_neg (by omega)]
theorem open_seal {k : Int} {t : List UInt8} (hk : 1 ≤ k ∧ k ≤ 15) (h : t.length ≤ 240) : pageOpen (sealP k t) = (k, t, 0) := by
 have hb := bodyP_len (k := k) h
 have e1 : (sealP k t).take 252 = bodyP k t := by rw [sealP, ← hb, List.take_left]
 have e2 : (sealP k t).drop 252 = putN (sumP (bodyP k t)) 4 := by rw [sealP, ← hb, List.drop_left]
 have e3 : getN (putN (sumP (bodyP k t)) 4) = sumP (bodyP k t) := getN_putN 4 _ (sumP_lt _)
 have e4 : (sealP k t).getD 1 0 = UInt8.ofNat t.length := rfl
 have e5 : (UInt8.ofNat t.length).toNat = t.length := by simp; omega
 have e6 : byteAt (sealP k t) 0 = k := by
  show (((UInt8.ofNat k.toNat).toNat : Nat) : Int) = k
  simp; omega
 have e7 : ((sealP k t).drop 2).take t.length = t := by
  show (t ++ List.replicate (250 - t.length) 0 ++ putN (sumP (bodyP k t)) 4).take t.length = t
  rw [List.append_assoc, List.take_left]
 rw [pageOpen, if_neg (by rw [sealP_len h]; omega), e1, e2, e3, if_neg (by omega), e4, e5, e6, Nat.min_eq_left (by omega), e7, seal_of hk h, if_pos rfl]
theorem open_zero : pageOpen zero256 = (0, [], 15) := by
 have h1 : sumP (zero256.take 252) = 16515073 := by decide +kernel
 have h2 : getN (zero256.drop 252) = 0 := by decide +kernel
 rw [pageOpen, if_neg (by rw [zero256_len]; omega), h1, h2, if_pos (by omega)]
structure Dk.lives (D : Dk) (N : Nat) : Prop where
 n : D.now.length = N
 up : D.gone = false
 fuse : D.fuse = -1
theorem Dk.lives.may {D : Dk} {N : Nat} (h : D.lives N) {n : Int} (hn : 0 ≤ n ∧ n < N) : D.may n = 0 := by
 rw [Dk.may, if_neg (by rw [h.up]; simp), if_neg (by rw [h.n]; omega)]
theorem Dk.lives.put {D : Dk} {N : Nat} (h : D.lives N) (n : Int) (s : List UInt8) : (D.put n s).lives N :=
 ⟨by simp [Dk.put, h.n], h.up, by show max (-1) (D.fuse - 1) = -1; rw [h.fuse]; rfl⟩
theorem Dk.lives.write {D : Dk} {N : Nat} (h : D.lives N) {n k : Int} {t : List UInt8} (hn : 0 ≤ n ∧ n < N) (hk : 1 ≤ k ∧ k ≤ 15) (ht : t.length ≤ 240) : pageWrite D n k t = (0, D.put n (sealP k t)) := by
 rw [pageWrite, seal_of hk ht, if_neg (by simp), Dk.write, if_neg (by rw [h.may hn]; simp), if_neg (by rw [sealP_len ht]; simp), if_neg (by rw [h.fuse]; omega)]
def Dk.pg (D : Dk) (n : Int) : Int × List UInt8 × Int := pageOpen (D.now.getD n.toNat [])
theorem Dk.lives.read {D : Dk} {N : Nat} (h : D.lives N) {n : Int} (hn : 0 ≤ n ∧ n < N) : pageRead D n = D.pg n := by
 have : D.read n = (D.now.getD n.toNat [], 0) := by rw [Dk.read, if_pos (h.may hn)]
 rw [pageRead, this, if_neg (by simp)]; rfl
theorem Dk.put_now (D : Dk) (n : Int) (s : List UInt8) : (D.put n s).now = D.now.set n.toNat s := rfl
theorem getD_set {α : Type} {l : List α} {i j : Nat} {s z : α} (h : i < l.length) : (l.set i s).getD j z = if j = i then s else l.getD j z := by
 simp only [List.getD, List.getElem?_set]
 by_cases q : j = i
 ·subst q; simp [h]
 ·rw [if_neg (fun e => q e.symm), if_neg q]
theorem Dk.lives.pg_put {D : Dk} {N : Nat} (h : D.lives N) {n m : Int} {s : List UInt8} (hn : 0 ≤ n ∧ n < N) (hm : 0 ≤ m) : (D.put n s).pg m = if m = n then pageOpen s else D.pg m := by
 rw [Dk.pg, Dk.put_now, getD_set (by rw [h.n]; omega)]
 by_cases q : m = n
 ·subst q; simp
 ·rw [if_neg q, if_neg (by omega)]; rfl
theorem Dk.lives.sync {D : Dk} {N : Nat} (h : D.lives N) : D.sync.1 = 0 ∧ D.sync.2.lives N ∧ D.sync.2.now = D.now := by
 rw [Dk.sync, if_neg (by rw [h.up]; simp)]
 exact ⟨rfl, ⟨h.n, h.up, h.fuse⟩, rfl⟩
theorem Dk.pg_now {D E : Dk} (h : D.now = E.now) (n : Int) : D.pg n = E.pg n := by rw [Dk.pg, Dk.pg, h]
theorem Dk.new_lives (n : Nat) : (Dk.new n).lives n := ⟨List.length_replicate, rfl, rfl⟩
theorem Dk.new_pg {n : Nat} {i : Int} (h : 0 ≤ i ∧ i < n) : (Dk.new n).pg i = (0, [], 15) := by
 have : (Dk.new n).now.getD i.toNat [] = zero256 := by
  rw [List.getD, Dk.new, List.getElem?_replicate, if_pos (by omega)]; rfl
 rw [Dk.pg, this, open_zero]
structure Hd.good (h : Hd) (N : Nat) (U : List Int) : Prop where
 g : 1 ≤ h.gen ∧ h.gen ≤ 281474976710655
 r : h.root = 0 ∨ h.root ∈ U
 u : Uses h.used U
 b : ∀ i ∈ U, 2 ≤ i ∧ i < N
theorem Hd.good.ok {h : Hd} {N : Nat} {U : List Int} (k : h.good N U) : h.ok := by
 refine ⟨⟨by have := k.g; omega, k.g.2⟩, ?_, by rw [k.u.len]; omega⟩
 rcases k.r with e | e
 ·omega
 ·have := k.u.bd e; omega
theorem Hd.good.nums {h : Hd} {N : Nat} {U : List Int} (k : h.good N U) : (numPut h.gen.toNat 6).1 = putN h.gen.toNat 6 ∧ (numPut h.root.toNat 2).1 = putN h.root.toNat 2 := by
 have h1 := k.ok.g
 have h2 := k.ok.r
 refine ⟨?_, ?_⟩
 ·rw [numPut, if_neg (by omega), if_pos (by show _ < 281474976710656; omega)]; rfl
 ·rw [numPut, if_neg (by omega), if_pos (by show _ < 65536; omega)]; rfl
theorem Hd.good.text_len {h : Hd} {N : Nat} {U : List Int} (k : h.good N U) : h.text.length = 88 := by
 have h1 := k.ok.g
 have h2 := k.ok.r
 obtain ⟨e1, e2⟩ := k.nums
 rw [Hd.text, e1, e2, List.length_append, List.length_append, putN_length, putN_length, k.u.len]
theorem Hd.good.counts {h : Hd} {N : Nat} {U : List Int} (k : h.good N U) {n : Int} (hn : h.gen % 2 = n) : h.counts N n = true := by
 have h1 := k.g
 have hc : h.clear N 640 = true := by
  rw [Hd.clear, List.all_eq_true]
  intro i _
  cases q : hasB h.used i
  ·simp
  ·have := k.b _ ((k.u.mem i).1 q)
   simp; omega
 rw [Hd.counts, hc]
 have e : h.gen.tmod 2 = n := by rw [Int.tmod_eq_emod_of_nonneg (by omega)]; exact hn
 have e2 : decide (h.gen < 1) = false := by simp; omega
 rw [e, e2]
 rcases k.r with e | e
 ·simp [e]
 ·have := (k.u.mem _).2 e
  simp [this]
theorem readH_lt {D : Dk} {N : Nat} (hl : D.lives N) (hN : 2 ≤ N) {n : Int} (hn : 0 ≤ n ∧ n < 2) (h : (D.pg n).2.2 ≠ 0) : readH D n = (headNone, false) := by
 rw [readH, hl.read (by omega), if_pos (.inl h)]
theorem lay_of {D : Dk} {N : Nat} {h : Hd} {U : List Int} (hl : D.lives N) (k : h.good N U) (hN : 2 ≤ N) : ∃ E, h.lay D = (0, E) ∧ E.lives N ∧ ∀ m, 0 ≤ m → E.pg m = if m = h.gen % 2 then (1, h.text, 0) else D.pg m := by
 have hg := k.g
 have e : h.gen.tmod 2 = h.gen % 2 := Int.tmod_eq_emod_of_nonneg (by omega)
 have hb : 0 ≤ h.gen % 2 ∧ h.gen % 2 < N := by omega
 have ht : h.text.length ≤ 240 := by rw [k.text_len]; omega
 have hw := hl.write hb (k := 1) (t := h.text) (by omega) ht
 have hp := hl.put (h.gen % 2) (sealP 1 h.text)
 obtain ⟨s1, s2, s3⟩ := hp.sync
 refine ⟨(D.put (h.gen % 2) (sealP 1 h.text)).sync.2, ?_, s2, fun m hm => ?_⟩
 ·rw [Hd.lay, e, hw, if_neg (by simp)]
  exact Prod.ext s1 rfl
 ·rw [Dk.pg_now s3, hl.pg_put hb hm, open_seal (by omega) ht]
end Go.Proofs.YtelfjhemnnbbpaaGreat
namespace Go.Proofs.YtelfjhemnnbbpaaGreat
open Go.Proofs.YtelfjhemnnbbpaaGreat.SL
theorem readH_pg {D E : Dk} {N : Nat} (hd : D.lives N) (he : E.lives N) {n : Int} (hn : 0 ≤ n ∧ n < N) (h : D.pg n = E.pg n) : readH D n = readH E n := by
 rw [readH, readH, hd.read hn, he.read hn, h, hd.n, he.n]
def Sh.head (S : Sh) : Hd := ⟨S.gen, S.root, S.used⟩
structure Fine (N : Nat) (S : Sh) (D : Dk) (U : List Int) : Prop where
 n : 8 ≤ N ∧ N ≤ 640
 d : D.lives N
 up : S.down = false
 h : S.head.good N U
 on : D.pg (S.gen % 2) = (1, S.head.text, 0)
 other : (readH D ((S.gen + 1) % 2)).2 = true → (readH D ((S.gen + 1) % 2)).1.gen < S.gen
 f : S.fresh.Nodup ∧ ∀ i ∈ S.fresh, 2 ≤ i ∧ i < N ∧ i ∉ U
 v : S.given.Nodup ∧ ∀ i ∈ S.given, i ∈ U
section
variable {N : Nat} {S : Sh} {D : Dk} {U : List Int}
theorem Fine.over (k : Fine N S D U) : Fine N S.head.over D U :=
 ⟨k.n, k.d, rfl, k.h, k.on, k.other, ⟨by simp [Hd.over], by simp [Hd.over]⟩, ⟨by simp [Hd.over], by simp [Hd.over]⟩⟩
theorem Fine.roll (k : Fine N S D U) : Fine N S.roll D U :=
 ⟨k.n, k.d, k.up, k.h, k.on, k.other, ⟨by simp [Sh.roll], by simp [Sh.roll]⟩, ⟨by simp [Sh.roll], by simp [Sh.roll]⟩⟩
theorem Fine.left (k : Fine N S D U) : S.left D = N - 2 - U.length - S.fresh.length := by
 rw [Sh.left, k.d.n]
 have : countB S.used = U.length := k.h.u.count
 rw [this]
theorem Fine.free (k : Fine N S D U) (j : Nat) : S.free j = true ↔ (j : Int) ∉ U ∧ (j : Int) ∉ S.fresh := by
 have h := k.h.u.mem j
 simp only [Sh.head] at h
 rw [Sh.free, Bool.and_eq_true, Bool.not_eq_true', Bool.not_eq_true', decide_eq_false_iff_not, ← h]
 simp
theorem Sh.find_of {S : Sh} {m : Nat} (hm : S.free m = true) : ∀ {k n : Nat}, n ≤ m → m < n + k → (∀ j, n ≤ j → j < m → ¬ S.free j = true) → S.find k n = some m
 | 0, n, h1, h2, _ => by omega
 | k + 1, n, h1, h2, h3 => by
  rw [Sh.find]
  by_cases q : n = m
  ·subst q; rw [if_pos hm]
  ·rw [if_neg (h3 n (Nat.le_refl _) (by omega)), Sh.find_of hm (by omega) (by omega) (fun j a b => h3 j (by omega) b)]
theorem Fine.take (k : Fine N S D U) {m : Nat} (h1 : 2 ≤ m ∧ m < N) (h2 : (m : Int) ∉ U ∧ (m : Int) ∉ S.fresh) (h3 : ∀ j : Nat, 2 ≤ j → j < m → (j : Int) ∈ U ∨ (j : Int) ∈ S.fresh) :
  S.take D = (((m : Int), 0), { S with fresh := S.fresh ++ [(m : Int)] }) ∧ Fine N { S with fresh := S.fresh ++ [(m : Int)] } D U := by
 have hn := k.n
 refine ⟨?_, k.n, k.d, k.up, k.h, k.on, k.other, ⟨?_, ?_⟩, k.v⟩
 ·rw [Sh.take, if_neg (by rw [k.up]; simp), k.d.n, Sh.find_of ((k.free m).2 h2) h1.1 (by omega) (fun j a b q => by
   have := (k.free j).1 q
   rcases h3 j a b with e | e
   ·exact this.1 e
   ·exact this.2 e)]
 ·exact List.nodup_append.2 ⟨k.f.1, by simp, by intro x hx y hy; simp only [List.mem_singleton] at hy; subst hy; exact fun q => h2.2 (q ▸ hx)⟩
 ·intro i hi
  rcases List.mem_append.1 hi with hi | hi
  ·exact k.f.2 i hi
  ·simp only [List.mem_singleton] at hi; subst hi; exact ⟨by omega, by omega, h2.1⟩
theorem Sh.told_eq {e : Int} (h : e ≠ 5) : S.told e = S := by
 have : (e == 5) = false := by simpa using h
 rw [Sh.told, this, Bool.or_false]
theorem Fine.put (k : Fine N S D U) {n : Int} (hn : n ∈ S.fresh) (s : List UInt8) : Fine N S (D.put n s) U := by
 have hf := k.f.2 n hn
 have hN := k.n
 have hg := k.h.g
 refine ⟨k.n, k.d.put n s, k.up, k.h, ?_, ?_, k.f, k.v⟩
 ·rw [k.d.pg_put (by omega) (by omega), if_neg (by omega), k.on]
 ·rw [← readH_pg k.d (k.d.put n s) (by omega) (by rw [k.d.pg_put (by omega) (by omega), if_neg (by omega)])]
  exact k.other
theorem Fine.write (k : Fine N S D U) {n kd : Int} {t : List UInt8} (hn : n ∈ S.fresh) (hk : 1 ≤ kd ∧ kd ≤ 15) (ht : t.length ≤ 240) :
  S.write D n kd t = (0, S, D.put n (sealP kd t)) ∧ Fine N S (D.put n (sealP kd t)) U ∧ ∀ m, 0 ≤ m → (D.put n (sealP kd t)).pg m = if m = n then (kd, t, 0) else D.pg m := by
 have hf := k.f.2 n hn
 refine ⟨?_, k.put hn _, fun m hm => ?_⟩
 ·rw [Sh.write, if_neg (by rw [k.up]; simp), if_pos hn, k.d.write (by omega) hk ht, Sh.told_eq (by simp)]
 ·rw [k.d.pg_put (by omega) hm, open_seal hk ht]
theorem open_no5 (b : List UInt8) : (pageOpen b).2.2 ≠ 5 := by
 rw [pageOpen]
 split
 ·simp
 ·split
  ·simp
  ·split <;> simp
theorem Fine.read (k : Fine N S D U) {n : Int} (hn : 2 ≤ n ∧ n < N) : S.read D n = (D.pg n, S) := by
 rw [Sh.read, if_neg (by rw [k.up]; simp), if_neg (by rw [k.d.n]; omega), k.d.read (by omega), Sh.told_eq (e := (D.pg n).2.2) (open_no5 _)]
theorem Fine.giveFresh (k : Fine N S D U) {n : Int} (hn : n ∈ S.fresh) : S.give n = (0, { S with fresh := S.fresh.erase n }) ∧ Fine N { S with fresh := S.fresh.erase n } D U := by
 refine ⟨by rw [Sh.give, if_neg (by rw [k.up]; simp), if_pos hn], k.n, k.d, k.up, k.h, k.on, k.other, ⟨k.f.1.erase _, fun i hi => k.f.2 i (List.mem_of_mem_erase hi)⟩, k.v⟩
theorem Fine.giveUsed (k : Fine N S D U) {n : Int} (hn : n ∈ U) (hv : n ∉ S.given) : S.give n = (0, { S with given := S.given ++ [n] }) ∧ Fine N { S with given := S.given ++ [n] } D U := by
 have hf : n ∉ S.fresh := fun q => (k.f.2 n q).2.2 hn
 have hb : hasB S.used n = true := (k.h.u.mem n).2 hn
 refine ⟨by rw [Sh.give, if_neg (by rw [k.up]; simp), if_neg hf, if_pos (by rw [hb]; simpa using hv)], k.n, k.d, k.up, k.h, k.on, k.other, k.f, ⟨?_, ?_⟩⟩
 ·exact List.nodup_append.2 ⟨k.v.1, by simp, by intro x hx y hy; simp only [List.mem_singleton] at hy; subst hy; exact fun q => hv (q ▸ hx)⟩
 ·intro i hi
  rcases List.mem_append.1 hi with hi | hi
  ·exact k.v.2 i hi
  ·simp only [List.mem_singleton] at hi; subst hi; exact hn
def Sh.after (S : Sh) (U : List Int) : List Int := (U ++ S.fresh).filter fun i => !decide (i ∈ S.given)
theorem Sh.mem_after {i : Int} : i ∈ S.after U ↔ (i ∈ U ∨ i ∈ S.fresh) ∧ i ∉ S.given := by
 simp only [Sh.after, List.mem_filter, List.mem_append, Bool.not_eq_true', decide_eq_false_iff_not]
theorem Fine.next (k : Fine N S D U) {root : Int} (hr : root = 0 ∨ root ∈ S.after U) (hg : S.gen < 281474976710655) : (S.next root).good N (S.after U) := by
 have hN := k.n
 have hgg := k.h.g
 have ha := k.h.u.add k.f.1 (fun i hi => by have := k.f.2 i hi; omega) (fun i hi => (k.f.2 i hi).2.2) (rise_perm S.fresh)
 have hd := ha.del (G := S.given) (fun i hi => k.h.u.bd (k.v.2 i hi)) (rise_perm S.given)
 refine ⟨⟨?_, ?_⟩, hr, hd, ?_⟩
 ·show 1 ≤ S.gen + 1
  have : 1 ≤ S.gen := hgg.1
  omega
 ·show S.gen + 1 ≤ _
  omega
 ·intro i hi
  rcases (Sh.mem_after.1 hi).1 with e | e
  ·exact k.h.b i e
  ·have := k.f.2 i e; omega
end
section
variable {N : Nat} {S : Sh} {D : Dk} {U : List Int}
theorem Fine.take' (k : Fine N S D U) {m : Int} (h1 : 2 ≤ m ∧ m < N) (h2 : m ∉ U ∧ m ∉ S.fresh) (h3 : ∀ j : Int, 2 ≤ j → j < m → j ∈ U ∨ j ∈ S.fresh) :
  ∃ S', S.take D = ((m, 0), S') ∧ Fine N S' D U ∧ S'.fresh = S.fresh ++ [m] ∧ S'.given = S.given ∧ S'.gen = S.gen ∧ S'.root = S.root := by
 obtain ⟨n, rfl⟩ : ∃ n : Nat, m = n := ⟨m.toNat, by omega⟩
 obtain ⟨a, b⟩ := k.take (m := n) (by omega) h2 (fun j a b => h3 j (by omega) (by omega))
 exact ⟨_, a, b, rfl, rfl, rfl, rfl⟩
theorem Fine.write' (k : Fine N S D U) {n kd : Int} {t : List UInt8} (hn : n ∈ S.fresh) (hk : 1 ≤ kd ∧ kd ≤ 15) (ht : t.length ≤ 240) :
  ∃ E, S.write D n kd t = (0, S, E) ∧ Fine N S E U ∧ ∀ m, 0 ≤ m → E.pg m = if m = n then (kd, t, 0) else D.pg m := ⟨_, k.write hn hk ht⟩
theorem Fine.giveFresh' (k : Fine N S D U) {n : Int} (hn : n ∈ S.fresh) : ∃ S', S.give n = (0, S') ∧ Fine N S' D U ∧ S'.fresh = S.fresh.erase n ∧ S'.given = S.given ∧ S'.gen = S.gen ∧ S'.root = S.root := by
 obtain ⟨a, b⟩ := k.giveFresh hn
 exact ⟨_, a, b, rfl, rfl, rfl, rfl⟩
theorem Fine.giveUsed' (k : Fine N S D U) {n : Int} (hn : n ∈ U) (hv : n ∉ S.given) : ∃ S', S.give n = (0, S') ∧ Fine N S' D U ∧ S'.fresh = S.fresh ∧ S'.given = S.given ++ [n] ∧ S'.gen = S.gen ∧ S'.root = S.root := by
 obtain ⟨a, b⟩ := k.giveUsed hn hv
 exact ⟨_, a, b, rfl, rfl, rfl, rfl⟩
end
theorem headNew_good {N : Nat} (hN : 8 ≤ N ∧ N ≤ 640) : headNew.good N [] :=
 ⟨⟨by decide, by decide⟩, .inl rfl, uses_new, by simp⟩
theorem format_of {N : Nat} {D : Dk} (hN : 8 ≤ N ∧ N ≤ 640) (d : D.lives N) (h : (D.pg 0).2.2 ≠ 0) : ∃ E, format D = (some headNew, 0, E) ∧ Fine N headNew.over E [] ∧ ∀ m, 2 ≤ m → E.pg m = D.pg m := by
 obtain ⟨E, e1, e2, e3⟩ := lay_of d (headNew_good hN) (by omega)
 refine ⟨E, by rw [format, e1, if_neg (by simp)], ⟨hN, e2, rfl, headNew_good hN, ?_, ?_, ⟨by simp [Hd.over], by simp [Hd.over]⟩, ⟨by simp [Hd.over], by simp [Hd.over]⟩⟩, ?_⟩
 ·rw [e3 _ (by decide), if_pos (by rfl)]; rfl
 ·show (readH E 0).2 = true → _
  rw [readH_lt e2 (by omega) (by omega) (by rw [e3 0 (by omega), if_neg (by decide)]; exact h)]
  intro q; cases q
 ·intro m hm
  rw [e3 _ (by omega), if_neg (by show ¬ m = 1; omega)]
end Go.Proofs.YtelfjhemnnbbpaaGreat
set_option maxRecDepth 20000
namespace Go.Proofs.YtelfjhemnnbbpaaGreat
open Go.Proofs.YtelfjhemnnbbpaaGreat.SL
def Gd (N : Nat) (D : Dk) (p : Int) (d : Nd) : Prop := (2 ≤ p ∧ p < N) ∧ D.pg p = (2, d.text, 0)
theorem goes_way {N : Nat} {S : Sh} {D : Dk} {U : List Int} (k : Fine N S D U) {x : Nat} : ∀ {h : Nat} {d : Nd} {es : List Ent} {ps : List Int} {pg : Int}, NT (Gd N D) h d es ps → d.good → (d.leaf = false → d.keys ≠ []) → Gd N D pg d →
  ∀ {up : List Spot} {L0 R0 : List Ent} {ps0 : List Int}, Way (Gd N D) up h L0 R0 ps0 → FitsP up x → (∀ e ∈ es, FitsP up e.1) →
  ∃ (top : List Spot) (s : Spot) (L R : List Ent) (ps' : List Int), Goes S D x pg (top ++ [s]) ∧ top.length = h ∧ Way (Gd N D) (top.reverse ++ up) 0 L R ps' ∧ s.d.good ∧ s.d.leaf = true ∧ s.i = posN s.d.keys x ∧ Gd N D s.pg s.d ∧
   FitsP (top.reverse ++ up) x ∧ (∀ e ∈ s.d.ents, FitsP (top.reverse ++ up) e.1) ∧ L ++ (s.d.ents ++ R) = L0 ++ (es ++ R0) ∧ (s.pg :: ps').Perm ((pg :: ps) ++ ps0)
 | 0, d, es, ps, pg, n, hd, hne, hg, up, L0, R0, ps0, w, fx, fe => by
  obtain ⟨hl, hp, rfl, rfl⟩ := n
  exact ⟨[], ⟨pg, d, posN d.keys x⟩, L0, R0, ps0, ⟨rfl, by rw [k.read hg.1, hg.2], hd, .inl ⟨hl, rfl, rfl⟩⟩, rfl, w, hd, hl, rfl, hg, fx, fe, rfl, .refl _⟩
 | h + 1, d, es, ps, pg, n, hd, hne, hg, up, L0, R0, ps0, w, fx, fe => by
  have hl := n.1
  obtain ⟨c1, c2, c3⟩ := cntN_spec (x := x) hd.p.rise
  obtain ⟨kid, sl, s, sr, hk, hm, ⟨d', ps', g', hd', hne', n', hps⟩, hfit, e1, e2⟩ := descend n hd (hne hl) c1
  subst e1 e2
  have w' : Way (Gd N D) (⟨pg, d, cntN d.keys x⟩ :: up) h (L0 ++ Sub.all sl) (Sub.all sr ++ R0) (pg :: (Sub.pages sl ++ (Sub.pages sr ++ ps0))) :=
   ⟨L0, R0, ps0, sl, sr, w, hg, hm, fun y hy => fe y (by simp only [List.mem_append] at hy ⊢; exact hy.elim .inl fun q => .inr (.inr q)), rfl, rfl, rfl⟩
  obtain ⟨top, t, L, R, qs, r1, r2, r3, r4, r5, r6, r7, r8, r9, r10, r11⟩ := goes_way k n' hd' hne' g' w' ⟨⟨c2, c3⟩, fx⟩ (fun e he => ⟨hfit e he, fe e (by simp [he])⟩)
  have hkd : d.kids.getD (cntN d.keys x) 0 = kid := by rw [List.getD, hk]; rfl
  refine ⟨⟨pg, d, cntN d.keys x⟩ :: top, t, L, R, qs, ⟨rfl, by rw [k.read hg.1, hg.2], hd, .inr ⟨hl, rfl, by rw [hkd]; exact r1⟩⟩, by simp [r2], ?_, r4, r5, r6, r7, ?_, ?_, ?_, ?_⟩
  ·simpa using r3
  ·simpa using r8
  ·simpa using r9
  ·rw [r10]; simp
  ·refine r11.trans ?_
   rw [hps]
   refine List.perm_iff_count.2 fun a => ?_
   simp only [List.count_append, List.count_cons, List.cons_append]
   omega
end Go.Proofs.YtelfjhemnnbbpaaGreat
set_option maxRecDepth 20000
namespace Go.Proofs.YtelfjhemnnbbpaaGreat
open Go.Proofs.YtelfjhemnnbbpaaGreat.SL
theorem nodup_sub : ∀ {A B : List Int}, A.Nodup → (∀ a ∈ A, a ∈ B) → A.length ≤ B.length
 | [], _, _, _ => by simp
 | a :: A, B, h, k => by
  obtain ⟨h1, h2⟩ := List.nodup_cons.1 h
  have hm := k a (by simp)
  have := nodup_sub (B := B.erase a) h2 (fun x hx => (List.mem_erase_of_ne (by rintro rfl; exact h1 hx)).2 (k x (by simp [hx])))
  rw [List.length_erase_of_mem hm] at this
  have hb := List.length_pos_of_mem hm
  simp only [List.length_cons]; omega
section
variable {N : Nat} {S : Sh} {D : Dk} {U : List Int}
theorem Fine.nodup (k : Fine N S D U) : (U ++ S.fresh).Nodup := List.nodup_append.2 ⟨k.h.u.nd, k.f.1, fun a ha b hb e => (k.f.2 b hb).2.2 (e ▸ ha)⟩
theorem Fine.afterNodup (k : Fine N S D U) : (S.after U).Nodup := k.nodup.filter _
theorem Fine.takeSome (k : Fine N S D U) (h : U.length + S.fresh.length + 2 < N) : ∃ m S', (2 ≤ m ∧ m < (N : Int)) ∧ m ∉ U ∧ m ∉ S.fresh ∧ S.take D = ((m, 0), S') ∧ Fine N S' D U ∧ S'.fresh = S.fresh ++ [m] ∧ S'.given = S.given ∧ S'.gen = S.gen ∧ S'.root = S.root := by
 cases hf : List.find? (fun j : Nat => decide (2 ≤ j) && !decide ((j : Int) ∈ U ++ S.fresh)) (List.range N) with
 | some m =>
  obtain ⟨h1, l1, l2, h2, h3⟩ := List.find?_eq_some_iff_append.1 hf
  simp only [Bool.and_eq_true, decide_eq_true_eq, Bool.not_eq_true', decide_eq_false_iff_not, List.mem_append, not_or] at h1
  have hmN : m < N := List.mem_range.1 (by rw [h2]; simp)
  have hall : ∀ j : Int, 2 ≤ j → j < (m : Int) → j ∈ U ∨ j ∈ S.fresh := by
   intro j j1 j2
   obtain ⟨n, rfl⟩ : ∃ n : Nat, j = n := ⟨j.toNat, by omega⟩
   have hn : n ∈ l1 := by
    have hlen : l1.length = m := by
     have h4 := congrArg (fun l => l[l1.length]?) h2
     simp only [List.getElem?_append_right (Nat.le_refl _), Nat.sub_self, List.getElem?_cons_zero] at h4
     obtain ⟨_, h5⟩ := List.getElem?_eq_some_iff.1 h4
     simpa using h5
    have h6 : (List.range N)[n]? = some n := by rw [List.getElem?_range (by omega)]
    rw [h2, List.getElem?_append_left (by omega)] at h6
    exact List.mem_of_getElem? h6
   have := h3 n hn
   simp only [Bool.not_and, Bool.not_not, Bool.or_eq_true, Bool.not_eq_true', decide_eq_false_iff_not, decide_eq_true_eq, List.mem_append] at this
   exact this.elim (fun q => absurd (by omega) q) id
  obtain ⟨S', a, b, c, d, e, f⟩ := k.take' (m := m) (by omega) h1.2 hall
  exact ⟨m, S', by omega, h1.2.1, h1.2.2, a, b, c, d, e, f⟩
 | none =>
  exfalso
  rw [List.find?_eq_none] at hf
  have hs := nodup_sub (A := (List.range' 2 (N - 2)).map (fun n : Nat => (n : Int))) (B := U ++ S.fresh) ?_ ?_
  ·simp only [List.length_map, List.length_range', List.length_append] at hs; omega
  ·exact List.Pairwise.map _ (fun a b h => by omega) (List.nodup_range' (step := 1))
  ·intro a ha
   obtain ⟨n, hn, rfl⟩ := List.mem_map.1 ha
   have hn := List.mem_range'_1.1 hn
   have := hf n (List.mem_range.2 (by omega))
   simp only [Bool.and_eq_true, decide_eq_true_eq, Bool.not_eq_true', decide_eq_false_iff_not, not_and, Decidable.not_not] at this
   exact this hn.1
end
theorem perm_drop {A A' rest : List Int} {pg : Int} (hp : (pg :: rest).Perm A) (h1 : A.Nodup) (h2 : A'.Nodup) (hm : ∀ a, a ∈ A' ↔ a ∈ A ∧ a ≠ pg) : rest.Perm A' := by
 obtain ⟨h3, h4⟩ := List.nodup_cons.1 (hp.nodup_iff.2 h1)
 refine (List.perm_ext_iff_of_nodup h4 h2).2 fun a => ?_
 rw [hm, ← hp.mem_iff, List.mem_cons]
 constructor
 ·intro h; exact ⟨.inr h, by rintro rfl; exact h3 h⟩
 ·rintro ⟨rfl | h, n⟩
  ·exact absurd rfl n
  ·exact h
theorem perm_add {A A' rest : List Int} {m : Int} (hp : rest.Perm A) (h1 : A.Nodup) (h2 : A'.Nodup) (hn : m ∉ A) (hm : ∀ a, a ∈ A' ↔ a = m ∨ a ∈ A) : (m :: rest).Perm A' := by
 refine (List.perm_ext_iff_of_nodup (List.nodup_cons.2 ⟨fun q => hn (hp.mem_iff.1 q), hp.nodup_iff.2 h1⟩) h2).2 fun a => ?_
 rw [hm, List.mem_cons, hp.mem_iff]
theorem Nd.good.tl {d : Nd} (h : d.good) : d.text.length ≤ 240 := by rw [d.text_len h.p]; exact h.size
def Same (U : List Int) (S0 : Sh) (D0 : Dk) (S : Sh) (D : Dk) : Prop := S.root = S0.root ∧ ∀ p ∈ U, D.pg p = D0.pg p
theorem Same.refl (U : List Int) (S : Sh) (D : Dk) : Same U S D S D := ⟨rfl, fun _ _ => rfl⟩
theorem Same.trans {U : List Int} {S0 S S' : Sh} {D0 D D' : Dk} (h1 : Same U S D S' D') (h2 : Same U S0 D0 S D) : Same U S0 D0 S' D' := ⟨h1.1.trans h2.1, fun p h => (h1.2 p h).trans (h2.2 p h)⟩
theorem fresh_ok {N : Nat} {S : Sh} {D : Dk} {U rest : List Int} (k : Fine N S D U) (hp : rest.Perm (S.after U)) (room : U.length + S.fresh.length + 2 < N) {d : Nd} (hd : d.good) : ∃ (m : Int) (S' : Sh) (D' : Dk),
  (∀ b sb db read r, Does Tryz.prog 106 [.pointer (some ⟨b, 0, none⟩), ndV d r] [Wk b sb read 0, Store sb db S, Disk db D, Nds d r] (fun v H => v = .int .i64 m ∧ H = [Wk b sb read 0, Store sb db S', Disk db D', Nds d r])) ∧
  Fine N S' D' U ∧ Gd N D' m d ∧ (∀ p, 0 ≤ p → (p ∈ U ∨ p ∈ S.fresh) → D'.pg p = D.pg p) ∧ (m :: rest).Perm (S'.after U) ∧ S'.fresh.length = S.fresh.length + 1 ∧ S'.gen = S.gen ∧ Same U S D S' D' := by
 obtain ⟨m, S', a1, a2, a3, a4, a5, a6, a7, a8, a9⟩ := k.takeSome room
 have hm : m ∈ S'.fresh := by rw [a6]; simp
 obtain ⟨E, w1, w2, w3⟩ := a5.write' hm (kd := 2) (t := d.text) (by omega) hd.tl
 have hg : ∀ a ∈ S.given, a ∈ U := k.v.2
 refine ⟨m, S', E, fun b sb db read r => wFresh_does b sb db m read S S' S' D E d r hd a4 w1, w2, ⟨a1, by rw [w3 m (by omega), if_pos rfl]⟩, ?_, ?_, by rw [a6]; simp, a8, a9, ?_⟩
 ·intro p hp0 hq
  rw [w3 p hp0, if_neg]
  rintro rfl
  exact hq.elim a2 a3
 ·refine perm_add hp k.afterNodup w2.afterNodup (fun q => (Sh.mem_after.1 q).1.elim a2 a3) fun a => ?_
  rw [Sh.mem_after, Sh.mem_after, a6, a7]
  simp only [List.mem_append, List.mem_singleton]
  constructor
  ·rintro ⟨h | h | h, h2⟩
   ·exact .inr ⟨.inl h, h2⟩
   ·exact .inr ⟨.inr h, h2⟩
   ·exact .inl h
  ·rintro (rfl | ⟨h, h2⟩)
   ·exact ⟨.inr (.inr rfl), fun q => a2 (hg _ q)⟩
   ·exact ⟨h.elim .inl fun q => .inr (.inl q), h2⟩
 ·intro p hq
  rw [w3 p (by have := k.h.b p hq; omega), if_neg]
  rintro rfl
  exact a2 hq
theorem lay_ok {N : Nat} {S : Sh} {D : Dk} {U rest : List Int} {pg : Int} (k : Fine N S D U) (hp : (pg :: rest).Perm (S.after U)) (room : U.length + S.fresh.length + 2 < N) {d : Nd} (hd : d.good) : ∃ (m : Int) (S' : Sh) (D' : Dk),
  (∀ b sb db read r, Does Tryz.prog 101 [.pointer (some ⟨b, 0, none⟩), .int .i64 pg, ndV d r] [Wk b sb read 0, Store sb db S, Disk db D, Nds d r] (fun v H => v = .int .i64 m ∧ H = [Wk b sb read 0, Store sb db S', Disk db D', Nds d r])) ∧
  Fine N S' D' U ∧ Gd N D' m d ∧ (∀ p ∈ rest, D'.pg p = D.pg p) ∧ (∀ p ∈ U, D'.pg p = D.pg p) ∧ (m :: rest).Perm (S'.after U) ∧ S.fresh.length ≤ S'.fresh.length ∧ S'.fresh.length ≤ S.fresh.length + 1 ∧ S'.gen = S.gen ∧ Same U S D S' D' := by
 have hpa : pg ∈ S.after U := hp.mem_iff.1 (by simp)
 have hnd := List.nodup_cons.1 (hp.nodup_iff.2 k.afterNodup)
 have hU : ∀ p ∈ U, 2 ≤ p ∧ p < (N : Int) := k.h.b
 by_cases hf : pg ∈ S.fresh
 ·obtain ⟨E, w1, w2, w3⟩ := k.write' hf (kd := 2) (t := d.text) (by omega) hd.tl
  have hb := k.f.2 pg hf
  refine ⟨pg, S, E, fun b sb db read r => wLayF_does b sb db pg read S S D E d r hd hf w1, w2, ⟨⟨hb.1, hb.2.1⟩, by rw [w3 pg (by omega), if_pos rfl]⟩, ?_, ?_, hp, Nat.le_refl _, by omega, rfl, rfl, ?_⟩
  ·intro p hq
   have h2 := (Sh.mem_after.1 (hp.mem_iff.1 (List.mem_cons_of_mem _ hq))).1
   have h3 : 0 ≤ p := h2.elim (fun q => by have := hU p q; omega) (fun q => by have := k.f.2 p q; omega)
   rw [w3 p h3, if_neg]
   rintro rfl
   exact hnd.1 hq
  ·intro p hq
   rw [w3 p (by have := hU p hq; omega), if_neg]
   rintro rfl
   exact hb.2.2 hq
  ·intro p hq
   rw [w3 p (by have := hU p hq; omega), if_neg]
   rintro rfl
   exact hb.2.2 hq
 ·obtain ⟨h1, h2⟩ := Sh.mem_after.1 hpa
  have h1 : pg ∈ U := h1.elim id fun q => absurd q hf
  obtain ⟨S1, g1, g2, g3, g4, g5, g6⟩ := k.giveUsed' h1 h2
  have hp1 : rest.Perm (S1.after U) := perm_drop hp k.afterNodup g2.afterNodup fun a => by
   rw [Sh.mem_after, Sh.mem_after, g3, g4]
   simp only [List.mem_append, List.mem_singleton, not_or, and_assoc]
  obtain ⟨m, S', D', q1, q2, q3, q4, q5, q6, q7, q8⟩ := fresh_ok g2 hp1 (by rw [g3]; exact room) hd
  have hb := hU pg h1
  have hN := k.n
  refine ⟨m, S', D', fun b sb db read r => wLayG_does b sb db pg read m 0 S S1 S' D D' d r (by omega) hf g1 (q1 b sb db read r), q2, q3, ?_, ?_, q5, by rw [q6, g3]; omega, by rw [q6, g3]; omega, by rw [q7, g5], q8.trans ⟨g6, fun _ _ => rfl⟩⟩
  ·intro p hq
   have h2 := (Sh.mem_after.1 (hp.mem_iff.1 (List.mem_cons_of_mem _ hq))).1
   refine q4 p (h2.elim (fun q => by have := hU p q; omega) (fun q => by have := k.f.2 p q; omega)) (by rw [g3]; exact h2)
  ·exact fun p hq => q4 p (by have := hU p hq; omega) (.inl hq)
end Go.Proofs.YtelfjhemnnbbpaaGreat
set_option maxRecDepth 20000
namespace Go.Proofs.YtelfjhemnnbbpaaGreat
open Go.Proofs.YtelfjhemnnbbpaaGreat.SL
theorem done_does (b sb : Nat) (root read : Int) : Does Tryz.prog 105 [.pointer (some ⟨b, 0, none⟩), .int .i64 root] [Wk b sb read 0] (fun v H => v = .tuple #[.int .i64 root, .int .i64 0] ∧ H = [Wk b sb read 0]) := by
 refine does_of Tryz.func105 Tryz.ntmps105 rfl rfl rfl (fun w0 F0 => ?_)
 (repeat' (first|refine g_seq (h:=?_)|refine g_region (h:=?_)|refine l_nil (h:=?_)|refine n_then (h:=?_)|refine l_pures1 (h:=?_)|refine l_load (h:=?_)|refine g_skip (h:=?_)|refine g_ret (h:=?_)|refine g_cond_f (h:=?_)))
 refine r_ret ?_
 exact ⟨rfl, rfl⟩
theorem vec_one (g e : Nat) (v : Value) : Shuts [cl g e [v]] (vec e 1 (some ⟨g, 0, none⟩) 1 1 [v]) := vec_shuts (xs := [v]) (rest := []) (Nat.le_refl _) (by simp [maxLen]) rfl rfl
set_option maxHeartbeats 1000000 in
theorem put0_does (sb db x : Nat) (v : List UInt8) (S S' : Sh) (D D' : Dk) (m : Int) (hv : v.length ≤ 40)
  (hF : ∀ b r, Does Tryz.prog 106 [.pointer (some ⟨b, 0, none⟩), ndV ⟨true, [x], [v], []⟩ r] [Wk b sb 0 0, Store sb db S, Disk db D, Nds ⟨true, [x], [v], []⟩ r] (fun u H => u = .int .i64 m ∧ H = [Wk b sb 0 0, Store sb db S', Disk db D', Nds ⟨true, [x], [v], []⟩ r])) :
  Does Tryz.prog 77 [.pointer (some ⟨sb, 0, none⟩), .int .i64 0, .int .u64 x, .string (str v)] [Store sb db S, Disk db D] (fun u H => u = .tuple #[.int .i64 m, .int .i64 0] ∧ H = [Store sb db S', Disk db D']) := by
 refine does_of Tryz.func77 Tryz.ntmps77 rfl rfl rfl (fun w0 F0 => ?_)
 (repeat' (first|refine g_seq (h:=?_)|refine g_region (h:=?_)|refine l_nil (h:=?_)|refine n_then (h:=?_)|refine l_pures1 (h:=?_)|(refine l_box (h:=?_); intro _)|(refine l_buildSlice1 (h:=?_); intro _)|refine g_skip (h:=?_)|refine g_cond_t (h:=?_)|(refine g_spF (h:=?_); intro h)))
 rename_i b g1 g2
 refine l_inv (H' := [cl g2 9 [.string (str v)], cl g1 78 [.int .u64 x], Wk b sb 0 0, Store sb db S, Disk db D]) (fun i => i) ?_
 refine l_shut (vec_one g1 78 (.int .u64 x)) (h:=?_)
 refine l_shut (vec_one g2 9 (.string (str v))) (h:=?_)
 refine l_inv (fun i => vec_nil (3) (1) i) ?_
 refine l_inv (H' := [Nds ⟨true, [x], [v], []⟩ ⟨some ⟨g1, 0, none⟩, 1, some ⟨g2, 0, none⟩, 1, none, 0⟩, Wk b sb 0 0, Store sb db S, Disk db D]) (fun i => Inv.shuts (K := NdsK ⟨true, [x], [v], []⟩ ⟨some ⟨g1, 0, none⟩, 1, some ⟨g2, 0, none⟩, 1, none, 0⟩ ()) (A := Nds ⟨true, [x], [v], []⟩ ⟨some ⟨g1, 0, none⟩, 1, some ⟨g2, 0, none⟩, 1, none, 0⟩) (show Shuts (NdsK ⟨true, [x], [v], []⟩ ⟨some ⟨g1, 0, none⟩, 1, some ⟨g2, 0, none⟩, 1, none, 0⟩ ()) (Nds ⟨true, [x], [v], []⟩ ⟨some ⟨g1, 0, none⟩, 1, some ⟨g2, 0, none⟩, 1, none, 0⟩) from fun _ _ s => ⟨(), trivial, s⟩) (i.parts (K := NdsK ⟨true, [x], [v], []⟩ ⟨some ⟨g1, 0, none⟩, 1, some ⟨g2, 0, none⟩, 1, none, 0⟩ ()) (Parts.cons (Take.there (Take.there Take.here)) (Parts.cons (Take.there Take.here) (Parts.cons Take.here Parts.nil))))) ?_
 have hF' : Does Tryz.prog 106 [.pointer (some ⟨b, 0, none⟩), .agg #[.bool true, .slice (some ⟨g1, 0, none⟩) 1 1, .slice (some ⟨g2, 0, none⟩) 1 1, .slice none 0 0]] [Wk b sb 0 0, Store sb db S, Disk db D, Nds ⟨true, [x], [v], []⟩ ⟨some ⟨g1, 0, none⟩, 1, some ⟨g2, 0, none⟩, 1, none, 0⟩] (fun u H => u = .int .i64 m ∧ H = [Wk b sb 0 0, Store sb db S', Disk db D', Nds ⟨true, [x], [v], []⟩ ⟨some ⟨g1, 0, none⟩, 1, some ⟨g2, 0, none⟩, 1, none, 0⟩]) := hF b ⟨some ⟨g1, 0, none⟩, 1, some ⟨g2, 0, none⟩, 1, none, 0⟩
 (repeat' (first|refine l_nil (h:=?_)|refine n_then (h:=?_)|refine l_pures1 (h:=?_)|(refine l_atc ?_; refine l_call (hF') ?_)|(refine l_atc ?_; refine l_call (done_does b sb m 0) ?_)|refine g_ret (h:=?_)|refine n_then_ret (h:=?_)))
 refine r_retk [Store sb db S', Disk db D'] ?_
 exact ⟨rfl, rfl⟩
end Go.Proofs.YtelfjhemnnbbpaaGreat
set_option maxRecDepth 20000
namespace Go.Proofs.YtelfjhemnnbbpaaGreat
open Go.Proofs.YtelfjhemnnbbpaaGreat.SL
abbrev putT (b sb b' b12 b14 x : Nat) : List (Nat × Value) := [(10, .pointer (some ⟨b, 0, none⟩)), (11, .pointer (some ⟨b', 0, none⟩)), (12, .pointer (some ⟨b12, 0, none⟩)), (14, .pointer (some ⟨b14, 0, none⟩)), (2, .int .u64 x), (0, .pointer (some ⟨sb, 0, none⟩))]
set_option maxHeartbeats 2000000 in
theorem putTop (b sb db b' b12 b14 x : Nat) (read m : Int) (xs : Sp) (n : Nd) (rn : Rw) (S S' : Sh) (D D' : Dk) (hn : n.size ≤ 240) (hf : n.fits)
  (hL : ∀ b sb db read r, Does Tryz.prog 101 [.pointer (some ⟨b, 0, none⟩), .int .i64 xs.pg, ndV n r] [Wk b sb read 0, Store sb db S, Disk db D, Nds n r] (fun v H => v = .int .i64 m ∧ H = [Wk b sb read 0, Store sb db S', Disk db D', Nds n r]))
  (w0 : World) (F0 : Nat → Prop) (Q : Exit → Act → World → Prop) (hc : SL.Calm Q) (hq : N 147 w0 F0 .ret Q [(8, .int .i64 m), (9, .int .i64 0)] [] [Store sb db S', Disk db D']) :
  G Tryz.prog 147 w0 F0 (nav [1, 1, 1, 1, 1, 1, 1, 1, 2, 2, 2] (bdy Tryz.f77)) Q (putT b sb b' b12 b14 x) [] [cl b12 177 xs.c, cl b14 175 (ndA n rn).toList, Stk b' [], Nds n rn, Wk b sb read 0, Store sb db S, Disk db D] := by
 have hS := ndSize_does n rn hf
 have hp := popNone_does b'
 unfold Sp.c
 obtain ⟨c, hc⟩ : ∃ c, c = nav [1, 1, 1, 1, 1, 1, 1, 1, 2, 2, 2] (bdy Tryz.f77) := ⟨_, rfl⟩
 rw [← hc]
 dsimp only [nav, bdy, Tryz.f77, Option.getD] at hc
 subst hc
 (repeat' (first|refine g_seq (h:=?_)|refine g_region (h:=?_)|refine l_nil (h:=?_)|refine n_then (h:=?_)|refine l_pures1 (h:=?_)|(refine l_atc ?_; refine l_call (hS) ?_)|(refine l_atc ?_; refine l_call (hL b sb db read rn) ?_)|(refine l_atc ?_; refine l_call (hp) ?_)|refine l_guard_yes (h:=?_)|refine l_guard_no (h:=?_)|refine l_load (h:=?_)|refine l_store (h:=?_)|(refine l_alloc (h:=?_); intro _)|refine g_skip (h:=?_)|refine g_ret (h:=?_)|refine n_then_ret (h:=?_)|refine n_block_ret (h:=?_)|refine g_block (h:=?_)|refine g_cond_t (h:=?_)|refine g_cond_f (h:=?_)|(refine g_spF (h:=?_); intro h)))
 exact n_bang hq
set_option maxHeartbeats 2000000 in
theorem putUp (A : SProp) (b sb db b' b12 b14 x : Nat) (read m : Int) (xs s : Sp) (L : List Sp) (n : Nd) (rn : Rw) (S S' : Sh) (D D' : Dk) (hn : n.size ≤ 240) (hf : n.fits) (hs : s.d.leaf = false) (hk : s.i < s.d.kids.length) (hlen : L.length < 100)
  (hL : ∀ b sb db read r, Does Tryz.prog 101 [.pointer (some ⟨b, 0, none⟩), .int .i64 xs.pg, ndV n r] [Wk b sb read 0, Store sb db S, Disk db D, Nds n r] (fun v H => v = .int .i64 m ∧ H = [Wk b sb read 0, Store sb db S', Disk db D', Nds n r]))
  (w0 : World) (F0 : Nat → Prop) (Q : Exit → Act → World → Prop) (hc : SL.Calm Q)
  (hq : ∀ r, N 147 w0 F0 .normal Q (putT b sb b' b12 b14 x) [] [cl b12 177 s.c, cl b14 175 (ndA { s.d with kids := s.d.kids.set s.i m } r).toList, Stk b' L, Nds { s.d with kids := s.d.kids.set s.i m } r, Wk b sb read 0, Store sb db S', Disk db D', A]) :
  G Tryz.prog 147 w0 F0 (nav [1, 1, 1, 1, 1, 1, 1, 1, 2, 2, 2] (bdy Tryz.f77)) Q (putT b sb b' b12 b14 x) [] [cl b12 177 xs.c, cl b14 175 (ndA n rn).toList, Stk b' (L ++ [s]), Nds s.d s.r, Nds n rn, Wk b sb read 0, Store sb db S, Disk db D, A] := by
 have hS := ndSize_does n rn hf
 have hp := pop_does b' L s hlen
 obtain ⟨tpg, td, ⟨p1, c1, p2, c2, p3, c3⟩, ti⟩ := s
 dsimp only [Sp.c] at hs hk hq
 unfold Sp.c
 obtain ⟨c, hc⟩ : ∃ c, c = nav [1, 1, 1, 1, 1, 1, 1, 1, 2, 2, 2] (bdy Tryz.f77) := ⟨_, rfl⟩
 rw [← hc]
 dsimp only [nav, bdy, Tryz.f77, Option.getD] at hc
 subst hc
 (repeat' (first|refine g_seq (h:=?_)|refine g_region (h:=?_)|refine l_nil (h:=?_)|refine n_then (h:=?_)|refine l_pures1 (h:=?_)|(refine l_atc ?_; refine l_call (hS) ?_)|(refine l_atc ?_; refine l_call (hL b sb db read rn) ?_)|(refine l_atc ?_; refine l_call (hp) ?_)|refine l_guard_no (h:=?_)|refine l_load (h:=?_)|refine l_store (h:=?_)|(refine l_alloc (h:=?_); intro _)|refine g_skip (h:=?_)|refine g_block (h:=?_)|refine n_block (h:=?_)|refine g_cond_f (h:=?_)|(refine g_spF (h:=?_); intro h)))
 rename_i b15 b17 b21
 dsimp only
 (refine g_draw [cl b21 177 _] (h := a_pass2 (h:=?_)))
 (repeat' (first|refine g_seq (h:=?_)|refine g_region (h:=?_)|refine l_nil (h:=?_)|refine n_then (h:=?_)|refine l_pures1 (h:=?_)|refine l_load (h:=?_)|refine l_store (h:=?_)|refine a_done (h:=?_)|refine a_load (h := a_pass2 (h:=?_))|refine a_one (h:=?_)|refine n_any (h := a_pass2 (h:=?_))))
 refine l_open (A := Nds td ⟨p1, c1, p2, c2, p3, c3⟩) (h:=?_); (rintro _ _; dsimp only [NdsK, List.cons_append, List.nil_append])
 refine l_ptr (m := td.kids.length) (h:=?_); rintro g rfl hcp
 (repeat' (first|refine g_seq (h:=?_)|refine g_region (h:=?_)|refine l_nil (h:=?_)|refine n_then (h:=?_)|refine l_pures1 (h:=?_)|refine l_indexAddr (h:=?_)|refine g_skip (h:=?_)|refine g_cond_f (h:=?_)|refine l_store_vec (h:=?_)))
 have e1 : (td.kids.map encZ').set (0 + ((ti : Nat) : Int).toNat * 1) (.int .i64 m) = (td.kids.set ti m).map encZ' := by
  rw [Nat.zero_add, Nat.mul_one, Int.toNat_natCast, List.map_set]; rfl
 have e4 : cl b14 175 [.bool td.leaf, .slice p1 td.keys.length c1, .slice p2 td.vals.length c2, .slice (some ⟨g, 0, none⟩) td.kids.length c3] = cl b14 175 (ndA { td with kids := td.kids.set ti m } ⟨p1, c1, p2, c2, some ⟨g, 0, none⟩, c3⟩).toList := by
  simp only [ndA, List.length_set]
 rw [e1]
 (refine n_shut (A := Nds { td with kids := td.kids.set ti m } ⟨p1, c1, p2, c2, some ⟨g, 0, none⟩, c3⟩) (K := NdsK { td with kids := td.kids.set ti m } ⟨p1, c1, p2, c2, some ⟨g, 0, none⟩, c3⟩ (())) (hid_shuts (()) trivial) (h:=?_) (p := by dsimp only [NdsK]; (try simp only [List.map_nil, List.length_nil, List.length_set, List.length_append, List.length_cons, List.length_singleton, List.map_append, List.map_cons, Nat.zero_add]); exact parts_of))
 rw [e4]
 exact n_bang (hq ⟨p1, c1, p2, c2, some ⟨g, 0, none⟩, c3⟩)
end Go.Proofs.YtelfjhemnnbbpaaGreat
set_option maxRecDepth 20000
namespace Go.Proofs.YtelfjhemnnbbpaaGreat
open Go.Proofs.YtelfjhemnnbbpaaGreat.SL
set_option maxHeartbeats 2000000 in
theorem putSplitUp (A : SProp) (b sb db b' b12 b14 x : Nat) (read m m2 : Int) (xs s : Sp) (L : List Sp) (n : Nd) (rn : Rw) (S S1 S' : Sh) (D D1 D' : Dk) (hn : 240 < n.size) (hz : n.size < 10000) (hp0 : n.plain) (hf : n.fits) (hm0 : 1 ≤ n.keys.length - 1 - n.up) (hsf : s.d.fits) (hsi : s.i ≤ s.d.keys.length) (hsv : s.d.vals = []) (hs : s.d.leaf = false) (hk : s.i < s.d.kids.length) (hlen : L.length < 100)
  (hL : ∀ b sb db read r, Does Tryz.prog 101 [.pointer (some ⟨b, 0, none⟩), .int .i64 xs.pg, ndV (n.front n.at') r] [Wk b sb read 0, Store sb db S, Disk db D, Nds (n.front n.at') r] (fun v H => v = .int .i64 m ∧ H = [Wk b sb read 0, Store sb db S1, Disk db D1, Nds (n.front n.at') r]))
  (hR : ∀ b sb db read r, Does Tryz.prog 106 [.pointer (some ⟨b, 0, none⟩), ndV (n.back n.at') r] [Wk b sb read 0, Store sb db S1, Disk db D1, Nds (n.back n.at') r] (fun v H => v = .int .i64 m2 ∧ H = [Wk b sb read 0, Store sb db S', Disk db D', Nds (n.back n.at') r]))
  (w0 : World) (F0 : Nat → Prop) (Q : Exit → Act → World → Prop) (hc : SL.Calm Q)
  (hq : ∀ r, N 147 w0 F0 .normal Q (putT b sb b' b12 b14 x) [] [cl b12 177 s.c, cl b14 175 (ndA (Nd.hang { s.d with kids := s.d.kids.set s.i m } s.i (n.keys.getD n.at' 0) m2) r).toList, Stk b' L, Nds (Nd.hang { s.d with kids := s.d.kids.set s.i m } s.i (n.keys.getD n.at' 0) m2) r, Wk b sb read 0, Store sb db S', Disk db D', A]) :
  G Tryz.prog 147 w0 F0 (nav [1, 1, 1, 1, 1, 1, 1, 1, 2, 2, 2] (bdy Tryz.f77)) Q (putT b sb b' b12 b14 x) [] [cl b12 177 xs.c, cl b14 175 (ndA n rn).toList, Stk b' (L ++ [s]), Nds s.d s.r, Nds n rn, Wk b sb read 0, Store sb db S, Disk db D, A] := by
 have hS := ndSize_does n rn hf
 have hp := pop_does b' L s hlen
 have hX := nSplit_does n rn hp0 hf hz hm0
 obtain ⟨tpg, td, ⟨p1, c1, p2, c2, p3, c3⟩, ti⟩ := s
 dsimp only [Sp.c] at hs hk hq hsf hsi hsv
 have hH := fun r => nHang_does { td with kids := td.kids.set ti m } r ti (n.keys.getD n.at' 0) m2 hs ⟨hsf.k, by simp only [List.length_set]; exact hsf.i, hsf.v, hsf.s⟩ hsi hsv
 unfold Sp.c
 obtain ⟨c, hc⟩ : ∃ c, c = nav [1, 1, 1, 1, 1, 1, 1, 1, 2, 2, 2] (bdy Tryz.f77) := ⟨_, rfl⟩
 rw [← hc]
 dsimp only [nav, bdy, Tryz.f77, Option.getD] at hc
 subst hc
 (repeat' (first|refine g_seq (h:=?_)|refine g_region (h:=?_)|refine l_nil (h:=?_)|refine n_then (h:=?_)|refine l_pures1 (h:=?_)|(refine l_atc ?_; refine l_call (hS) ?_)|(refine l_atc ?_; refine l_call_ (hX) ?_; rintro _ _ _ ⟨rf, rb, rfl, rfl⟩ he; cases he)|(refine l_atc ?_; refine l_call (hL b sb db read _) ?_)|(refine l_atc ?_; refine l_call (hR b sb db read _) ?_)|(refine l_atc ?_; refine l_call (hp) ?_)|refine l_guard_yes (h:=?_)|refine l_guard_no (h:=?_)|refine l_load (h:=?_)|refine l_store (h:=?_)|(refine l_alloc (h:=?_); intro _)|refine g_skip (h:=?_)|refine g_block (h:=?_)|refine n_block (h:=?_)|refine g_cond_t (h:=?_)|refine g_cond_f (h:=?_)|(refine g_spT (h:=?_); intro h)))
 rename_i b15 b17 b21
 dsimp only
 (refine g_draw [cl b21 177 _] (h := a_pass2 (h:=?_)))
 (repeat' (first|refine g_seq (h:=?_)|refine g_region (h:=?_)|refine l_nil (h:=?_)|refine n_then (h:=?_)|refine l_pures1 (h:=?_)|refine l_load (h:=?_)|refine l_store (h:=?_)|refine a_done (h:=?_)|refine a_load (h := a_pass2 (h:=?_))|refine a_one (h:=?_)|refine n_any (h := a_pass2 (h:=?_))))
 refine l_open (A := Nds td ⟨p1, c1, p2, c2, p3, c3⟩) (h:=?_); (rintro _ _; dsimp only [NdsK, List.cons_append, List.nil_append])
 refine l_ptr (m := td.kids.length) (h:=?_); rintro g rfl hcp
 (repeat' (first|refine g_seq (h:=?_)|refine g_region (h:=?_)|refine l_nil (h:=?_)|refine n_then (h:=?_)|refine l_pures1 (h:=?_)|refine l_load (h:=?_)|refine l_indexAddr (h:=?_)|refine g_cond_t (h:=?_)|refine l_store_vec (h:=?_)))
 have e1 : (td.kids.map encZ').set (0 + ((ti : Nat) : Int).toNat * 1) (.int .i64 m) = (td.kids.set ti m).map encZ' := by
  rw [Nat.zero_add, Nat.mul_one, Int.toNat_natCast, List.map_set]; rfl
 rw [e1]
 (refine l_shut (A := Nds { td with kids := td.kids.set ti m } ⟨p1, c1, p2, c2, some ⟨g, 0, none⟩, c3⟩) (K := NdsK { td with kids := td.kids.set ti m } ⟨p1, c1, p2, c2, some ⟨g, 0, none⟩, c3⟩ (())) (hid_shuts (()) trivial) (h:=?_) (p := by dsimp only [NdsK]; (try simp only [List.map_nil, List.length_nil, List.length_set, List.length_append, List.length_cons, List.length_singleton, List.map_append, List.map_cons, Nat.zero_add]); exact parts_of))
 have hH' := hH ⟨p1, c1, p2, c2, some ⟨g, 0, none⟩, c3⟩
 simp only [ndV, ndA, List.length_set] at hH'
 (repeat' (first|refine l_nil (h:=?_)|(refine l_atc ?_; refine l_call_ (hH') ?_; rintro _ _ _ ⟨rh, rfl, rfl⟩ he; cases he)|refine l_store (h:=?_)))
 exact n_bang (hq rh)
theorem vec_two (g e : Nat) (v u : Value) : Shuts [cl g e [v, u]] (vec e 1 (some ⟨g, 0, none⟩) 2 2 [v, u]) := vec_shuts (xs := [v, u]) (rest := []) (Nat.le_refl _) (by simp [maxLen]) rfl rfl
set_option maxHeartbeats 2000000 in
theorem putSplitTop (b sb db b' b12 b14 x : Nat) (read m m2 m3 : Int) (xs : Sp) (n : Nd) (rn : Rw) (S S1 S2 S' : Sh) (D D1 D2 D' : Dk) (hn : 240 < n.size) (hz : n.size < 10000) (hp0 : n.plain) (hf : n.fits) (hm0 : 1 ≤ n.keys.length - 1 - n.up)
  (hL : ∀ b sb db read r, Does Tryz.prog 101 [.pointer (some ⟨b, 0, none⟩), .int .i64 xs.pg, ndV (n.front n.at') r] [Wk b sb read 0, Store sb db S, Disk db D, Nds (n.front n.at') r] (fun v H => v = .int .i64 m ∧ H = [Wk b sb read 0, Store sb db S1, Disk db D1, Nds (n.front n.at') r]))
  (hR : ∀ b sb db read r, Does Tryz.prog 106 [.pointer (some ⟨b, 0, none⟩), ndV (n.back n.at') r] [Wk b sb read 0, Store sb db S1, Disk db D1, Nds (n.back n.at') r] (fun v H => v = .int .i64 m2 ∧ H = [Wk b sb read 0, Store sb db S2, Disk db D2, Nds (n.back n.at') r]))
  (hT : ∀ b sb db read r, Does Tryz.prog 106 [.pointer (some ⟨b, 0, none⟩), ndV ⟨false, [n.keys.getD n.at' 0], [], [m, m2]⟩ r] [Wk b sb read 0, Store sb db S2, Disk db D2, Nds ⟨false, [n.keys.getD n.at' 0], [], [m, m2]⟩ r] (fun v H => v = .int .i64 m3 ∧ H = [Wk b sb read 0, Store sb db S', Disk db D', Nds ⟨false, [n.keys.getD n.at' 0], [], [m, m2]⟩ r]))
  (w0 : World) (F0 : Nat → Prop) (Q : Exit → Act → World → Prop) (hc : SL.Calm Q) (hq : N 147 w0 F0 .ret Q [(8, .int .i64 m3), (9, .int .i64 0)] [] [Store sb db S', Disk db D']) :
  G Tryz.prog 147 w0 F0 (nav [1, 1, 1, 1, 1, 1, 1, 1, 2, 2, 2] (bdy Tryz.f77)) Q (putT b sb b' b12 b14 x) [] [cl b12 177 xs.c, cl b14 175 (ndA n rn).toList, Stk b' [], Nds n rn, Wk b sb read 0, Store sb db S, Disk db D] := by
 have hS := ndSize_does n rn hf
 have hX := nSplit_does n rn hp0 hf hz hm0
 have hp := popNone_does b'
 unfold Sp.c
 obtain ⟨c, hc⟩ : ∃ c, c = nav [1, 1, 1, 1, 1, 1, 1, 1, 2, 2, 2] (bdy Tryz.f77) := ⟨_, rfl⟩
 rw [← hc]
 dsimp only [nav, bdy, Tryz.f77, Option.getD] at hc
 subst hc
 (repeat' (first|refine g_seq (h:=?_)|refine g_region (h:=?_)|refine l_nil (h:=?_)|refine n_then (h:=?_)|refine l_pures1 (h:=?_)|(refine l_atc ?_; refine l_call (hS) ?_)|(refine l_atc ?_; refine l_call_ (hX) ?_; rintro _ _ _ ⟨rf, rb, rfl, rfl⟩ he; cases he)|(refine l_atc ?_; refine l_call (hL b sb db read _) ?_)|(refine l_atc ?_; refine l_call (hR b sb db read _) ?_)|(refine l_atc ?_; refine l_call (hp) ?_)|refine l_guard_yes (h:=?_)|refine l_load (h:=?_)|refine l_store (h:=?_)|(refine l_alloc (h:=?_); intro _)|(refine l_buildSlice1 (h:=?_); intro _)|refine g_skip (h:=?_)|refine g_block (h:=?_)|refine g_cond_t (h:=?_)|refine g_cond_f (h:=?_)|(refine l_buildSlice2 (h:=?_); intro _)|(refine g_spT (h:=?_); intro h)))
 rename_i g1 g2
 have hT' : Does Tryz.prog 106 [.pointer (some ⟨b, 0, none⟩), .agg #[.bool false, .slice (some ⟨g1, 0, none⟩) 1 1, .slice none 0 0, .slice (some ⟨g2, 0, none⟩) 2 2]] [Wk b sb read 0, Store sb db S2, Disk db D2, Nds ⟨false, [n.keys.getD n.at' 0], [], [m, m2]⟩ ⟨some ⟨g1, 0, none⟩, 1, none, 0, some ⟨g2, 0, none⟩, 2⟩] (fun v H => v = .int .i64 m3 ∧ H = [Wk b sb read 0, Store sb db S', Disk db D', Nds ⟨false, [n.keys.getD n.at' 0], [], [m, m2]⟩ ⟨some ⟨g1, 0, none⟩, 1, none, 0, some ⟨g2, 0, none⟩, 2⟩]) := hT b sb db read _
 refine l_shut (vec_one g1 78 (.int .u64 (n.keys.getD n.at' 0 : Nat))) (h:=?_)
 refine l_shut (vec_two g2 3 (.int .i64 m) (.int .i64 m2)) (h:=?_)
 refine l_inv (fun i => vec_nil (9) (1) i) ?_
 refine l_inv (fun i => Inv.shuts (K := NdsK ⟨false, [n.keys.getD n.at' 0], [], [m, m2]⟩ ⟨some ⟨g1, 0, none⟩, 1, none, 0, some ⟨g2, 0, none⟩, 2⟩ ()) (A := Nds ⟨false, [n.keys.getD n.at' 0], [], [m, m2]⟩ ⟨some ⟨g1, 0, none⟩, 1, none, 0, some ⟨g2, 0, none⟩, 2⟩) (show Shuts (NdsK ⟨false, [n.keys.getD n.at' 0], [], [m, m2]⟩ ⟨some ⟨g1, 0, none⟩, 1, none, 0, some ⟨g2, 0, none⟩, 2⟩ ()) (Nds ⟨false, [n.keys.getD n.at' 0], [], [m, m2]⟩ ⟨some ⟨g1, 0, none⟩, 1, none, 0, some ⟨g2, 0, none⟩, 2⟩) from fun _ _ s => ⟨(), trivial, s⟩) (i.parts (K := NdsK ⟨false, [n.keys.getD n.at' 0], [], [m, m2]⟩ ⟨some ⟨g1, 0, none⟩, 1, none, 0, some ⟨g2, 0, none⟩, 2⟩ ()) (Parts.cons (Take.there (Take.there Take.here)) (Parts.cons Take.here (Parts.cons Take.here Parts.nil))))) ?_
 (repeat' (first|refine l_nil (h:=?_)|refine n_then (h:=?_)|refine l_pures1 (h:=?_)|(refine l_atc ?_; refine l_call (hT') ?_)|(refine l_atc ?_; refine l_call (done_does b sb m3 read) ?_)|refine g_ret (h:=?_)|refine n_then_ret (h:=?_)|refine n_block_ret (h:=?_)))
 exact n_bang hq
end Go.Proofs.YtelfjhemnnbbpaaGreat
set_option maxRecDepth 20000
namespace Go.Proofs.YtelfjhemnnbbpaaGreat
open Go.Proofs.YtelfjhemnnbbpaaGreat.SL
def IsTree (N : Nat) (S : Sh) (D : Dk) (U : List Int) (root : Int) (T : List Ent) : Prop :=
 root = 0 ∧ T = [] ∧ S.after U = [] ∨ ∃ h ps, OnP (Gd N D) h root ⟨T, ps⟩ ∧ ps.Perm (S.after U)
structure Hand (N : Nat) (U : List Int) (T : List Ent) (S : Sh) (D : Dk) (up : List Spot) (pg : Int) (n : Nd) (h : Nat) (Lf Rt es : List Ent) (ps qs : List Int) : Prop where
 fine : Fine N S D U
 way : Way (Gd N D) up h Lf Rt qs
 nt : NT (Gd N D) h n es ps
 pages : (pg :: (ps ++ qs)).Perm (S.after U)
 fit : ∀ e ∈ es, FitsP up e.1
 all : Lf ++ (es ++ Rt) = T
 some : n.keys ≠ []
theorem Gd.keep {N : Nat} {D D' : Dk} {p : Int} {d : Nd} (g : Gd N D p d) (h : D'.pg p = D.pg p) : Gd N D' p d := ⟨g.1, by rw [h]; exact g.2⟩
theorem Hand.up {N : Nat} {U : List Int} {T : List Ent} {S S' : Sh} {D D' : Dk} {s : Spot} {up : List Spot} {pg m : Int} {n : Nd} {h : Nat} {Lf Rt es : List Ent} {ps qs : List Int} (k : Hand N U T S D (s :: up) pg n h Lf Rt es ps qs) (hn : n.size ≤ 240)
  (f' : Fine N S' D' U) (gm : Gd N D' m n) (same : ∀ p ∈ ps ++ qs, D'.pg p = D.pg p) (hp : (m :: (ps ++ qs)).Perm (S'.after U)) :
  ∃ Lf' Rt' es' ps' qs', Hand N U T S' D' up s.pg { s.d with kids := s.d.kids.set s.i m } (h + 1) Lf' Rt' es' ps' qs' ∧ s.d.good ∧ s.d.leaf = false ∧ s.i ≤ s.d.keys.length := by
 obtain ⟨L', R', q0, sl, sr, w, g, mid, fs, rfl, rfl, rfl⟩ := k.way
 have hN := f'.n
 have o : OnP (Gd N D') h m ⟨es, m :: ps⟩ := ⟨n, ps, gm, ⟨k.nt.plain, fun _ => List.length_pos_iff.2 k.some, hn⟩, fun _ => k.some, k.nt.same (fun p hp d gd => gd.keep (same p (by simp [hp]))), rfl⟩
 have hnt := plug (g' := Gd N D') mid o (by have := gm.1; omega) (fun e he => (k.fit e he).1) (fun p hp d gd => gd.keep (same p (by simp only [List.mem_append, List.mem_cons] at hp ⊢; exact .inr (.inr (hp.elim .inl fun q => .inr (.inl q))))))
 refine ⟨L', R', _, _, q0, ⟨f', w.same (fun p hp d gd => gd.keep (same p (by simp [hp]))), hnt, ?_, ?_, ?_, mid.ne⟩, mid.good, mid.leaf, mid.ile⟩
 ·refine List.Perm.trans ?_ hp
  refine List.perm_iff_count.2 fun a => ?_
  simp only [List.count_append, List.count_cons, List.cons_append]
  omega
 ·intro e he
  simp only [List.mem_append] at he
  rcases he with he | he | he
  ·exact fs e (by simp [he])
  ·exact (k.fit e he).2
  ·exact fs e (by simp [he])
 ·rw [← k.all]; simp
theorem Hand.top {N : Nat} {U : List Int} {T : List Ent} {S S' : Sh} {D D' : Dk} {pg m : Int} {n : Nd} {h : Nat} {Lf Rt es : List Ent} {ps qs : List Int} (k : Hand N U T S D [] pg n h Lf Rt es ps qs) (hn : n.size ≤ 240)
  (f' : Fine N S' D' U) (gm : Gd N D' m n) (same : ∀ p ∈ ps ++ qs, D'.pg p = D.pg p) (hp : (m :: (ps ++ qs)).Perm (S'.after U)) : IsTree N S' D' U m T := by
 obtain ⟨rfl, rfl, rfl⟩ := k.way
 refine .inr ⟨h, m :: ps, ⟨n, ps, gm, ⟨k.nt.plain, fun _ => List.length_pos_iff.2 k.some, hn⟩, fun _ => k.some, ?_, rfl⟩, by simpa using hp⟩
 have := k.nt.same (g' := Gd N D') (fun p hp d gd => gd.keep (same p (by simp [hp])))
 have e := k.all
 simp only [List.nil_append, List.append_nil] at e
 rw [← e]
 exact this
theorem Hand.splitUp {N : Nat} {U : List Int} {T : List Ent} {S S' : Sh} {D D' : Dk} {s : Spot} {up : List Spot} {pg m m2 : Int} {n : Nd} {h : Nat} {Lf Rt es : List Ent} {ps qs : List Int} (k : Hand N U T S D (s :: up) pg n h Lf Rt es ps qs) (h1 : 240 < n.size) (h2 : n.size ≤ 340)
  (f' : Fine N S' D' U) (g1 : Gd N D' m (n.front n.at')) (g2 : Gd N D' m2 (n.back n.at')) (same : ∀ p ∈ ps ++ qs, D'.pg p = D.pg p) (hp : (m2 :: m :: (ps ++ qs)).Perm (S'.after U)) :
  ∃ Lf' Rt' es' ps' qs', Hand N U T S' D' up s.pg (Nd.hang { s.d with kids := s.d.kids.set s.i m } s.i (n.keys.getD n.at' 0) m2) (h + 1) Lf' Rt' es' ps' qs' := by
 obtain ⟨L', R', q0, sl, sr, w, g, mid, fs, rfl, rfl, rfl⟩ := k.way
 have hN := f'.n
 obtain ⟨a1, a2, a3, a4, a5⟩ := at_spec k.nt.plain h1 h2
 obtain ⟨e1, p1, e2, p2, md, hmd, n1, n2, rfl, rfl, lt1, ge2, k1, k2⟩ := split_nt k.nt a2 a3
 have hmd' : n.keys.getD n.at' 0 = md := by rw [List.getD, hmd]; rfl
 have hmm : md < 18446744073709551616 := k.nt.plain.key md (List.mem_of_getElem? hmd)
 rw [hmd']
 have o1 : OnP (Gd N D') h m ⟨e1, m :: p1⟩ := ⟨_, p1, g1, ⟨n1.plain, fun _ => List.length_pos_iff.2 k1, a4⟩, fun _ => k1, n1.same (fun p hp d gd => gd.keep (same p (by simp [hp]))), rfl⟩
 have o2 : OnP (Gd N D') h m2 ⟨e2, m2 :: p2⟩ := ⟨_, p2, g2, ⟨n2.plain, fun _ => List.length_pos_iff.2 k2, a5⟩, fun _ => k2, n2.same (fun p hp d gd => gd.keep (same p (by simp [hp]))), rfl⟩
 have hnt := plug2 (g' := Gd N D') mid o1 o2 (by have := g1.1; omega) (by have := g2.1; omega) hmm (fun e he => ⟨(k.fit e (by simp [he])).1, lt1 e he⟩) (fun e he => ⟨(k.fit e (by simp [he])).1, ge2 e he⟩) (fun p hp d gd => gd.keep (same p (by simp only [List.mem_append, List.mem_cons] at hp ⊢; exact .inr (.inr (hp.elim .inl fun q => .inr (.inl q))))))
 refine ⟨L', R', _, _, q0, ⟨f', w.same (fun p hp d gd => gd.keep (same p (by simp [hp]))), hnt, ?_, ?_, ?_, by simp [Nd.hang, laidL]⟩⟩
 ·refine List.Perm.trans ?_ hp
  refine List.perm_iff_count.2 fun a => ?_
  simp only [List.count_append, List.count_cons, List.cons_append]
  omega
 ·intro e he
  simp only [List.mem_append] at he
  rcases he with he | (he | he) | he
  ·exact fs e (by simp [he])
  ·exact (k.fit e (by simp [he])).2
  ·exact (k.fit e (by simp [he])).2
  ·exact fs e (by simp [he])
 ·rw [← k.all]; simp
theorem Hand.splitTop {N : Nat} {U : List Int} {T : List Ent} {S S' : Sh} {D D' : Dk} {pg m m2 m3 : Int} {n : Nd} {h : Nat} {Lf Rt es : List Ent} {ps qs : List Int} (k : Hand N U T S D [] pg n h Lf Rt es ps qs) (h1 : 240 < n.size) (h2 : n.size ≤ 340)
  (f' : Fine N S' D' U) (g1 : Gd N D' m (n.front n.at')) (g2 : Gd N D' m2 (n.back n.at')) (g3 : Gd N D' m3 ⟨false, [n.keys.getD n.at' 0], [], [m, m2]⟩) (same : ∀ p ∈ ps ++ qs, D'.pg p = D.pg p) (hp : (m3 :: m2 :: m :: (ps ++ qs)).Perm (S'.after U)) :
  IsTree N S' D' U m3 T := by
 obtain ⟨rfl, rfl, rfl⟩ := k.way
 have hN := f'.n
 obtain ⟨a1, a2, a3, a4, a5⟩ := at_spec k.nt.plain h1 h2
 obtain ⟨e1, p1, e2, p2, md, hmd, n1, n2, rfl, rfl, lt1, ge2, k1, k2⟩ := split_nt k.nt a2 a3
 have hmd' : n.keys.getD n.at' 0 = md := by rw [List.getD, hmd]; rfl
 have hmm : md < 18446744073709551616 := k.nt.plain.key md (List.mem_of_getElem? hmd)
 rw [hmd'] at g3
 have o1 : OnP (Gd N D') h m ⟨e1, m :: p1⟩ := ⟨_, p1, g1, ⟨n1.plain, fun _ => List.length_pos_iff.2 k1, a4⟩, fun _ => k1, n1.same (fun p hp d gd => gd.keep (same p (by simp [hp]))), rfl⟩
 have o2 : OnP (Gd N D') h m2 ⟨e2, m2 :: p2⟩ := ⟨_, p2, g2, ⟨n2.plain, fun _ => List.length_pos_iff.2 k2, a5⟩, fun _ => k2, n2.same (fun p hp d gd => gd.keep (same p (by simp [hp]))), rfl⟩
 have b1 := g1.1
 have b2 := g2.1
 have hnt := nt_of (g := Gd N D') (h := h) (d := ⟨false, [md], [], [m, m2]⟩) (ss := [⟨e1, m :: p1⟩, ⟨e2, m2 :: p2⟩]) rfl rfl (all2_cons.2 ⟨_, _, rfl, o1, all2_cons.2 ⟨_, _, rfl, o2, trivial⟩⟩) ⟨lt1, fun y hy => ge2 y (by simpa [Sub.all] using hy), trivial⟩ (by simp; omega) (by simp; omega)
 have hes := k.all
 simp only [List.nil_append, List.append_nil] at hes
 refine .inr ⟨h + 1, m3 :: (m :: p1 ++ m2 :: p2), ⟨_, _, g3, ⟨hnt.plain, by simp, by simp [Nd.size]⟩, by simp, ?_, rfl⟩, ?_⟩
 ·have : Sub.all [⟨e1, m :: p1⟩, ⟨e2, m2 :: p2⟩] = T := by rw [← hes]; simp [Sub.all]
  rw [this] at hnt
  simpa [Sub.pages] using hnt
 ·refine List.Perm.trans ?_ hp
  refine List.perm_iff_count.2 fun a => ?_
  simp only [List.count_append, List.count_cons, List.cons_append, List.append_nil]
  omega
end Go.Proofs.YtelfjhemnnbbpaaGreat
