/- Texts CaF, CaX, CaG, CaI, CaJ, joined. -/
import Derived.Test.YtelfjhemnnbbpaaGreatK11
set_option linter.unusedVariables false
set_option linter.unusedSimpArgs false
set_option maxRecDepth 20000
namespace Go.Proofs.YtelfjhemnnbbpaaGreat
open Go.Proofs.YtelfjhemnnbbpaaGreat.SL
def cntO (l : List (Option Cp)) (i : Nat) : Nat := l.countP fun oc => oc.any fun c => decide (c.owner = i)
structure FI (s : CS) : Prop where
 ok : s.ok
 len : s.ow.length = 3
 own : ∀ n c, s.capAt n = some c → c.owner ≤ 3
 cnt : ∀ i o, s.owAt i = some o → o.hav = cntO s.cp i
 rts : ∀ n c p, s.capAt n = some c → s.capAt c.parent = some p → subB c.rights p.rights = true ∧ c.object = p.object
theorem owAt_some {s : CS} {i : Nat} (h : 1 ≤ i ∧ i ≤ s.ow.length) : ∃ o, s.owAt i = some o := by
 unfold CS.owAt
 rw [if_neg (by omega), List.getElem?_eq_getElem (by omega)]
 exact ⟨_, rfl⟩
theorem FI.owner {s : CS} (f : FI s) {n : Nat} {c : Cp} (h : s.capAt n = some c) : ∃ o, s.owAt c.owner = some o :=
 owAt_some ⟨(f.ok.cp n c h).owner.1, by rw [f.len]; exact f.own n c h⟩
theorem cntO_snoc (l : List (Option Cp)) (c : Cp) (i : Nat) : cntO (l ++ [some c]) i = cntO l i + if c.owner = i then 1 else 0 := by
 unfold cntO
 rw [List.countP_append, List.countP_singleton]
 by_cases h : c.owner = i <;> simp [h]
theorem capAt_get {s : CS} {n : Nat} {c : Cp} (h : s.capAt n = some c) : ∃ hl : n - 1 < s.cp.length, s.cp[n - 1] = some c := by
 have hn := capAt_lt h
 refine ⟨by omega, ?_⟩
 unfold CS.capAt at h
 rw [if_neg (by omega), List.getElem?_eq_getElem (by omega)] at h
 exact h
theorem cntO_set {s : CS} {n : Nat} {c : Cp} (h : s.capAt n = some c) (oc : Option Cp) (i : Nat) : cntO (s.cp.set (n - 1) oc) i + (if c.owner = i then 1 else 0) = cntO s.cp i + (if (oc.any fun c => decide (c.owner = i)) = true then 1 else 0) := by
 obtain ⟨hl, hg⟩ := capAt_get h
 unfold cntO
 rw [List.countP_set hl, hg]
 have hp : c.owner = i → 1 ≤ s.cp.countP fun oc => oc.any fun c => decide (c.owner = i) := fun e => by
  refine List.countP_pos_iff.2 ⟨some c, hg ▸ List.getElem_mem hl, by simp [e]⟩
 by_cases e : c.owner = i
 ·have := hp e
  simp [e]
  omega
 ·simp [e]
theorem FI.add {s : CS} (f : FI s) {c : Cp} {o : Ow} (ho : s.owAt c.owner = some o) (hok : (s.add c ⟨o.name, o.limit, o.hav + 1⟩).ok) (hr : ∀ p, s.capAt c.parent = some p → subB c.rights p.rights = true ∧ c.object = p.object) (hp : c.parent ≤ s.cp.length) : FI (s.add c ⟨o.name, o.limit, o.hav + 1⟩) where
 ok := hok
 len := by simp [CS.add]; exact f.len
 own := fun n x hx => by
  rw [add_cap] at hx
  split at hx
  ·cases hx; have := owAt_lt ho; rw [f.len] at this; exact this.2
  ·exact f.own n x hx
 cnt := fun i x hx => by
  unfold CS.add at hx ⊢
  rw [setO_ow (owAt_lt ho)] at hx
  rw [cntO_snoc]
  split at hx
  ·rename_i q
   cases hx
   rw [if_pos q.symm, q]
   show o.hav + 1 = _
   rw [f.cnt _ _ ho]
  ·rename_i q
   rw [if_neg (fun h => q h.symm)]
   exact f.cnt i x hx
 rts := fun n x p hx hp' => by
  rw [add_cap] at hx hp'
  split at hx
  ·cases hx
   rw [if_neg (by omega)] at hp'
   exact hr p hp'
  ·have hne : x.parent ≠ s.cp.length + 1 := fun e => by
    obtain ⟨p', h1, _⟩ := f.ok.par n x hx (by omega)
    have := capAt_lt h1
    omega
   rw [if_neg hne] at hp'
   exact f.rts n x p hx hp'
theorem FI.mint {s : CS} (f : FI s) {owner object mask badge expiry : Nat} (hob : 1 ≤ object ∧ object ≤ 16777215) (hm : mask < 65536) (hb : badge < 4294967296) (he : expiry ≤ 268435455) (hn : s.cp.length < 1000) : FI (s.mint owner object mask badge expiry).2 := by
 have hok := mint_ok f.ok (owner := owner) hob hm hb he hn
 unfold CS.mint at hok ⊢
 split
 ·exact f
 ·rename_i o ho
  simp only [ho] at hok
  split
  ·rename_i hq
   rw [if_pos hq] at hok
   exact f.add (c := ⟨0, object, owner, mask, badge, 1, expiry, 0, false, true⟩) ho hok (fun p hp => by have := capAt_lt hp; simp at this) (by simp)
  ·exact f
theorem FI.derive {s : CS} (f : FI s) {parent owner mask badge expiry : Nat} (hm : mask < 65536) (hb : badge < 4294967296) (he : expiry ≤ 268435455) (hn : s.cp.length < 1000) : FI (s.derive parent owner mask badge expiry).2 := by
 have hok := derive_ok f.ok (parent := parent) (owner := owner) hm hb he hn
 unfold CS.derive at hok ⊢
 split
 ·exact f
 ·rename_i h0
  rw [if_neg h0] at hok
  split
  ·rename_i p o hp ho
   simp only [hp, ho] at hok
   split
   ·exact f
   ·rename_i h1
    rw [if_neg h1] at hok
    split
    ·exact f
    ·rename_i h2
     rw [if_neg h2] at hok
     split
     ·rename_i h3
      rw [if_pos h3] at hok
      exact f.add (c := ⟨parent, p.object, owner, mask, badge, p.depth + 1, expiry, 0, false, true⟩) ho hok (fun p' hp' => by
       have hp' : s.capAt parent = some p' := hp'
       rw [hp] at hp'
       cases hp'
       exact ⟨by simpa using h1, rfl⟩) (capAt_lt hp).2
     ·exact f
  ·exact f
theorem FI.revoke {s : CS} (f : FI s) (n : Nat) (self : Bool) : FI (s.revoke n self).2 := by
 have hok := revoke_ok f.ok n self
 unfold CS.revoke at hok ⊢
 split
 ·exact f
 ·rename_i c hc
  simp only [hc] at hok
  have hn := capAt_lt hc
  have e1 : (c.revoke self s.cp.length).owner = c.owner := by cases self <;> rfl
  have e2 : (c.revoke self s.cp.length).rights = c.rights := by cases self <;> rfl
  have e3 : (c.revoke self s.cp.length).object = c.object := by cases self <;> rfl
  have e4 : (c.revoke self s.cp.length).parent = c.parent := by cases self <;> rfl
  obtain ⟨c', hc'⟩ : ∃ c', c' = c.revoke self s.cp.length := ⟨_, rfl⟩
  rw [← hc'] at hok e1 e2 e3 e4 ⊢
  refine ⟨hok, f.len, fun m x hx => ?_, fun i o ho => ?_, fun m x p hx hp => ?_⟩
  ·rw [setC_cap hn] at hx
   split at hx
   ·cases hx; rw [e1]; exact f.own n c hc
   ·exact f.own m x hx
  ·have h1 := f.cnt i o ho
   have h2 := cntO_set hc (some c') i
   rw [h1]
   show cntO s.cp i = cntO (s.cp.set (n - 1) (some c')) i
   simp only [Option.any_some, decide_eq_true_eq, e1] at h2
   omega
  ·rw [setC_cap hn] at hx hp
   have key : ∀ y, s.capAt m = some y → y.parent = x.parent → y.rights = x.rights → y.object = x.object → subB x.rights p.rights = true ∧ x.object = p.object := fun y hy q1 q2 q3 => by
    split at hp
    ·rename_i q
     cases hp
     rw [e2, e3, ← q2, ← q3]
     exact f.rts m y c hy (by rw [q1, q]; exact hc)
    ·rw [← q2, ← q3]
     exact f.rts m y p hy (by rw [q1]; exact hp)
   split at hx
   ·rename_i q
    cases hx
    exact key c (by rw [q]; exact hc) e4.symm e2.symm e3.symm
   ·exact key x hx rfl rfl rfl
theorem FI.remove {s : CS} (f : FI s) (n : Nat) : FI (s.remove n).2 := by
 have hok := remove_ok f.ok n
 unfold CS.remove at hok ⊢
 split
 ·exact f
 ·rename_i c hc
  simp only [hc] at hok
  have hn := capAt_lt hc
  split
  ·exact f
  ·rename_i hk
   rw [if_neg hk] at hok
   split
   ·rename_i o ho
    simp only [ho] at hok
    have hol := owAt_lt ho
    have hcap : ∀ m, (s.rem n c ⟨o.name, o.limit, o.hav - 1⟩).capAt m = if m = n then none else s.capAt m := fun m => setC_cap hn none m
    refine ⟨hok, by simp [CS.rem, CS.setO, CS.setC]; exact f.len, fun m x hx => ?_, fun i x hx => ?_, fun m x p hx hp => ?_⟩
    ·rw [hcap] at hx
     split at hx
     ·cases hx
     ·exact f.own m x hx
    ·have h2 := cntO_set hc none i
     simp only [Option.any_none, Bool.false_eq_true, if_false, Nat.add_zero] at h2
     show x.hav = cntO (s.cp.set (n - 1) none) i
     unfold CS.rem CS.setO at hx
     rw [setO_ow (s := s.setC n none) hol] at hx
     split at hx
     ·rename_i q
      cases hx
      show o.hav - 1 = _
      have h1 := f.cnt _ _ ho
      rw [if_pos q.symm] at h2
      rw [q] at h2 ⊢
      omega
     ·rename_i q
      have h1 := f.cnt i x hx
      rw [if_neg (fun h => q h.symm)] at h2
      omega
    ·rw [hcap] at hx hp
     split at hx
     ·cases hx
     ·split at hp
      ·cases hp
      ·exact f.rts m x p hx hp
   ·exact f
theorem FI.move {s : CS} (f : FI s) (n q : Nat) : FI (s.move n q).2 := by
 have hok := move_ok f.ok n q
 unfold CS.move at hok ⊢
 split
 ·exact f
 ·rename_i h0
  rw [if_neg h0] at hok
  split
  ·exact f
  ·rename_i h1
   rw [if_neg h1] at hok
   split
   ·rename_i c p hc hp
    simp only [hc, hp] at hok
    split
    ·exact f
    ·rename_i h2
     rw [if_neg h2] at hok
     split
     ·exact f
     ·rename_i h3
      rw [if_neg h3] at hok
      split
      ·exact f
      ·rename_i h4
       rw [if_neg h4] at hok
       have hn := capAt_lt hc
       have hk : s.kids n = [] := Decidable.byContradiction fun h => h2 (.inl h)
       have hnq : n ≠ q := fun h => h2 (.inr (.inr (.inl h)))
       refine ⟨hok, f.len, fun m x hx => ?_, fun i o ho => ?_, fun m x p' hx hp' => ?_⟩
       ·rw [setC_cap hn] at hx
        split at hx
        ·cases hx; exact f.own n c hc
        ·exact f.own m x hx
       ·have h5 := f.cnt i o ho
        have h6 := cntO_set hc (some (c.under q p.object (p.depth + 1))) i
        rw [h5]
        show cntO s.cp i = cntO (s.cp.set (n - 1) (some (c.under q p.object (p.depth + 1)))) i
        have e : (c.under q p.object (p.depth + 1)).owner = c.owner := rfl
        simp only [Option.any_some, decide_eq_true_eq, e] at h6
        omega
       ·rw [setC_cap hn] at hx hp'
        split at hx
        ·cases hx
         have hp' : (if q = n then some (c.under q p.object (p.depth + 1)) else s.capAt q) = some p' := hp'
         rw [if_neg (fun h => hnq h.symm), hp] at hp'
         cases hp'
         have h3' : subB c.rights p.rights = true := by simpa using h3
         exact ⟨h3', rfl⟩
        ·have := kids_none hk (by omega) hx
         rw [if_neg this] at hp'
         exact f.rts m x p' hx hp'
   ·exact f
theorem mint_len {s : CS} {owner object mask badge expiry : Nat} : ((s.mint owner object mask badge expiry).1 = (s.cp.length + 1, 0) ∧ (s.mint owner object mask badge expiry).2.cp.length = s.cp.length + 1) ∨ ((s.mint owner object mask badge expiry).1.1 = 0 ∧ (s.mint owner object mask badge expiry).2.cp.length = s.cp.length) := by
 unfold CS.mint
 split
 ·exact .inr ⟨rfl, rfl⟩
 ·split
  ·exact .inl ⟨rfl, by simp [CS.add]⟩
  ·exact .inr ⟨rfl, rfl⟩
theorem derive_len {s : CS} {parent owner mask badge expiry : Nat} : ((s.derive parent owner mask badge expiry).1 = (s.cp.length + 1, 0) ∧ (s.derive parent owner mask badge expiry).2.cp.length = s.cp.length + 1) ∨ ((s.derive parent owner mask badge expiry).1.1 = 0 ∧ (s.derive parent owner mask badge expiry).2.cp.length = s.cp.length) := by
 unfold CS.derive
 split
 ·exact .inr ⟨rfl, rfl⟩
 ·split
  ·split
   ·exact .inr ⟨rfl, rfl⟩
   ·split
    ·exact .inr ⟨rfl, rfl⟩
    ·split
     ·exact .inl ⟨rfl, by simp [CS.add]⟩
     ·exact .inr ⟨rfl, rfl⟩
  ·exact .inr ⟨rfl, rfl⟩
theorem remove_len {s : CS} {n : Nat} : (s.remove n).2.cp.length = s.cp.length := by
 unfold CS.remove
 split
 ·rfl
 ·split
  ·rfl
  ·split
   ·simp [CS.rem, CS.setO, CS.setC]
   ·rfl
theorem revoke_len {s : CS} {n : Nat} {self : Bool} : (s.revoke n self).2.cp.length = s.cp.length := by
 unfold CS.revoke
 split
 ·rfl
 ·simp [CS.setC]
theorem move_len {s : CS} {n q : Nat} : (s.move n q).2.cp.length = s.cp.length := by
 unfold CS.move
 split
 ·rfl
 ·split
  ·rfl
  ·split
   ·split
    ·rfl
    ·split
     ·rfl
     ·split
      ·rfl
      ·simp [CS.setC]
   ·rfl
end Go.Proofs.YtelfjhemnnbbpaaGreat
set_option maxRecDepth 20000
namespace Go.Proofs.YtelfjhemnnbbpaaGreat
open Go.Proofs.YtelfjhemnnbbpaaGreat.SL
def CS.z : CS := ⟨[], []⟩
theorem z_ok : CS.z.ok where
 ow := fun n o h => by unfold CS.owAt CS.z at h; split at h <;> simp at h
 cp := fun n c h => by unfold CS.capAt CS.z at h; split at h <;> simp at h
 par := fun n c h _ => by unfold CS.capAt CS.z at h; split at h <;> simp at h
 size := by simp [CS.z]
theorem ct_new (P : TxP) : CtI P CS.z [] := ⟨Rp.nil, z_ok⟩
theorem z_isNm (f : List UInt8) (n : Nat) : isNm CS.z f n = false := by
 unfold isNm CS.owAt CS.z
 split <;> simp
theorem made15_does : Does Tryz.prog 10 [] [] (fun v H => ∃ t db sb, v = .pointer (some ⟨t, 0, none⟩) ∧ H = [Ct (TxP.new t sb db 640) CS.z]) := by
 obtain ⟨E1, f1, k0⟩ := tr_new (N := 640) (by omega)
 refine does_of Tryz.func10 Tryz.ntmps10 rfl rfl rfl (fun w0 F0 => ?_)
 (repeat' (first|refine g_seq (h:=?_)|refine g_region (h:=?_)|refine l_nil (h:=?_)|refine n_then (h:=?_)|refine l_pures1 (h:=?_)|(refine l_at 26 ?_; refine l_call_ (new_is (i := 640) (n := 640) rfl (by omega)) ?_; rintro _ _ _ ⟨db, rfl, rfl⟩ he; cases he)|(refine l_at 27 ?_; refine l_call_ (format_is f1) ?_; rintro _ _ _ ⟨sb, rfl, rfl⟩ he; cases he)|refine l_guard_yes (h:=?_)|refine g_skip (h:=?_)|refine g_cond_f (h:=?_)))
 (refine l_shut (A := Sto (TxP.new 0 sb db 640)) (K := StoK (TxP.new 0 sb db 640) ((headNew.over, E1))) (hid_shuts ((headNew.over, E1)) (sto_new k0)) (h:=?_) (p := by dsimp only [StoK]; (try simp only [List.map_nil, List.length_nil, List.length_set, List.length_append, List.length_cons, List.length_singleton, List.map_append, List.map_cons, Nat.zero_add, TxP.new]); exact parts_of))
 have hb : Does Tryz.prog 28 [.pointer (some ⟨sb, 0, none⟩)] [Sto (TxP.new 0 sb db 640)] (fun v H => ∃ t, v = .pointer (some ⟨t, 0, none⟩) ∧ H = [Tx (TxP.new t sb db 640) []]) := begin_does (TxP.new 0 sb db 640)
 (repeat' (first|refine l_nil (h:=?_)|refine n_then (h:=?_)|refine l_pures1 (h:=?_)|(refine l_atc ?_; refine l_call_ (hb) ?_; rintro _ _ _ ⟨t, rfl, rfl⟩ he; cases he)|refine g_ret (h:=?_)))
 (refine n_shut (A := Ct (TxP.new t sb db 640) CS.z) (K := CtK (TxP.new t sb db 640) CS.z (([] : List Ent))) (hid_shuts (([] : List Ent)) (ct_new _)) (h:=?_) (p := by dsimp only [CtK]; (try simp only [List.map_nil, List.length_nil, List.length_set, List.length_append, List.length_cons, List.length_singleton, List.map_append, List.map_cons, Nat.zero_add]); exact parts_of))
 refine r_retk [Ct (TxP.new t sb db 640) CS.z] ?_
 exact ⟨t, db, sb, rfl, rfl⟩
theorem roomNew {t sb db : Nat} {s : CS} (h : s.ow.length + 3 * s.cp.length < 280) : roomC (TxP.new t sb db 640) s := by
 show 0 + 2 * (s.ow.length + 3 * s.cp.length) + 60 < 640
 omega
def pkN (c : Int) (n : Nat) : Nat := (if c < 0 then -(c + 1) else c).toNat % n
theorem pkN_lt (c : Int) {n : Nat} (h : 0 < n) : pkN c n < n := Nat.mod_lt _ h
theorem pick15_does (c : Int) (n : Nat) (hc : -9223372036854775808 ≤ c ∧ c < 9223372036854775808) (hn : 0 < n ∧ n < 1000000) : Does Tryz.prog 21 [.int .i64 c, .int .i64 n] [] (fun v H => v = .int .i64 (pkN c n : Nat) ∧ H = []) := by
 have key : ∀ x : Int, 0 ≤ x → x.tmod (n : Int) = ((x.toNat % n : Nat) : Int) := fun x hx => by
  obtain ⟨m, rfl⟩ := Int.eq_ofNat_of_zero_le hx
  rw [Int.tmod_eq_emod_of_nonneg hx, Int.toNat_natCast]; rfl
 have hlt := pkN_lt c hn.1
 by_cases q : c < 0
 ·have e1 : IntKind.i64.wrap (c + 1) = c + 1 := wrapI64 (by omega)
  have e2 : IntKind.i64.wrap (-(IntKind.i64.wrap (c + 1))) = -(c + 1) := by rw [e1, wrapI64 (by omega)]
  have e3 : IntKind.i64.wrap (0 - (IntKind.i64.wrap (c + 1))) = -(c + 1) := by rw [e1, wrapI64 (by omega)]; omega
  have e4 : (pkN c n : Int) = (-(c + 1)).tmod n := by rw [key _ (by omega)]; unfold pkN; rw [if_pos q]
  refine does_of Tryz.func21 Tryz.ntmps21 rfl rfl rfl (fun w0 F0 => ?_)
  (repeat' (first|refine g_seq (h:=?_)|refine g_region (h:=?_)|refine l_nil (h:=?_)|refine n_then (h:=?_)|refine l_pures1 (h:=?_)|refine l_rem (h:=?_)|refine g_ret (h:=?_)|(refine g_spT (h:=?_); intro h)))
  refine r_retk [] ?_
  refine ⟨?_, rfl⟩
  show Value.int _ _ = _
  first | rw [e2, e4] | rw [e3, e4]
  try rw [wrapI64 (by omega)]
 ·have e4 : (pkN c n : Int) = c.tmod n := by rw [key _ (by omega)]; unfold pkN; rw [if_neg q]
  refine does_of Tryz.func21 Tryz.ntmps21 rfl rfl rfl (fun w0 F0 => ?_)
  (repeat' (first|refine g_seq (h:=?_)|refine g_region (h:=?_)|refine l_nil (h:=?_)|refine n_then (h:=?_)|refine l_pures1 (h:=?_)|refine l_rem (h:=?_)|refine g_skip (h:=?_)|refine g_ret (h:=?_)|(refine g_spF (h:=?_); intro h)))
  refine r_retk [] ?_
  refine ⟨?_, rfl⟩
  show Value.int _ _ = _
  rw [e4]
  try rw [wrapI64 (by omega)]
abbrev nmRoot : List UInt8 := [82, 111, 111, 116]
abbrev nmroot : List UInt8 := [114, 111, 111, 116]
theorem lett_all {l : List UInt8} (h : l.all (fun c => decide ((97 ≤ c.toNat ∧ c.toNat ≤ 122) ∨ (65 ≤ c.toNat ∧ c.toNat ≤ 90))) = true) : ∀ c ∈ l, lett c := fun c hc => by
 have := List.all_eq_true.1 h c hc
 simpa [lett] using this
theorem foldRoot : FoldTo nmRoot nmroot := by
 have := fold_letters nmRoot (by decide) (lett_all (by decide))
 rw [show lowL nmRoot = nmroot by decide] at this
 exact this
theorem foldroot : FoldTo nmroot nmroot := by
 have := fold_letters nmroot (by decide) (lett_all (by decide))
 rw [show lowL nmroot = nmroot by decide] at this
 exact this
theorem fold1 (c : UInt8) (h : 97 ≤ c.toNat ∧ c.toNat ≤ 122) : FoldTo [c] [c] := by
 have := fold_letters [c] (by simp) (fun x hx => by rw [List.mem_singleton.1 hx]; exact .inl h)
 rw [show lowL [c] = [c] by unfold lowL lowB; simp; omega] at this
 exact this
def exS1 : CS := ⟨[⟨nmroot, 9, 0⟩], []⟩
def exS2 : CS := ⟨[⟨nmroot, 9, 1⟩], [some ⟨0, 5, 1, 7, 0, 1, 0, 0, false, true⟩]⟩
def exS3 : CS := ⟨[⟨nmroot, 9, 2⟩], [some ⟨0, 5, 1, 7, 0, 1, 0, 0, false, true⟩, some ⟨1, 5, 1, 3, 1, 2, 10, 0, false, true⟩]⟩
set_option maxHeartbeats 4000000 in
theorem examples15_does : Does Tryz.prog 9 [] [] (fun v H => v = .bool true ∧ H = []) := by
 refine does_of Tryz.func9 Tryz.ntmps9 rfl rfl rfl (fun w0 F0 => ?_)
 (repeat (first|refine g_seq (h:=?_)|refine g_region (h:=?_)|refine l_nil (h:=?_)|refine n_then (h:=?_)|refine l_pures1 (h:=?_)|(refine l_atc ?_; refine l_call_ (made15_does) ?_; rintro _ _ _ ⟨t, db, sb, rfl, rfl⟩ he; cases he)|refine g_skip (h:=?_)|refine g_cond_f (h:=?_)))
 have h1 : Does Tryz.prog 12 [.pointer (some ⟨t, 0, none⟩), .string { data := #[82, 111, 111, 116] }, .int .i64 9] [Ct (TxP.new t sb db 640) CS.z] (fun v H => v = .tuple #[.int .i64 1, .int .i64 0] ∧ H = [Ct (TxP.new t sb db 640) exS1]) :=
  cReg_does (TxP.new t sb db 640) CS.z (roomNew (by simp [CS.z])) nmRoot nmroot 9 foldRoot foldroot (by decide) (by decide) (by simp [CS.z]) (z_isNm _)
 have h2 : Does Tryz.prog 14 [.pointer (some ⟨t, 0, none⟩), .int .i64 1, .int .i64 5, .int .i64 7, .int .i64 0, .int .i64 0] [Ct (TxP.new t sb db 640) exS1] (fun v H => v = .tuple #[.int .i64 1, .int .i64 0] ∧ H = [Ct (TxP.new t sb db 640) exS2]) :=
  cMint_does (TxP.new t sb db 640) exS1 (roomNew (by simp [exS1])) 1 5 7 0 0 ⟨nmroot, 9, 0⟩ rfl (by decide) (by decide) (by decide) (by decide) (by decide) (by simp [exS1])
 have h3 : Does Tryz.prog 15 [.pointer (some ⟨t, 0, none⟩), .int .i64 1, .int .i64 1, .int .i64 3, .int .i64 1, .int .i64 10, .int .i64 0] [Ct (TxP.new t sb db 640) exS2] (fun v H => v = .tuple #[.int .i64 2, .int .i64 0] ∧ H = [Ct (TxP.new t sb db 640) exS3]) :=
  cDer_does (TxP.new t sb db 640) exS2 (roomNew (by simp [exS2])) 1 1 3 1 10 0 ⟨0, 5, 1, 7, 0, 1, 0, 0, false, true⟩ ⟨nmroot, 9, 1⟩ rfl rfl rfl (by decide) (by decide) (by decide) (by decide) (by decide) (by decide) (by simp [exS2])
 have h4 : Does Tryz.prog 15 [.pointer (some ⟨t, 0, none⟩), .int .i64 1, .int .i64 1, .int .i64 8, .int .i64 1, .int .i64 10, .int .i64 0] [Ct (TxP.new t sb db 640) exS3] (fun v H => v = .tuple #[.int .i64 0, .int .i64 7] ∧ H = [Ct (TxP.new t sb db 640) exS3]) :=
  cDerNot_does (TxP.new t sb db 640) exS3 1 1 8 1 10 0 ⟨0, 5, 1, 7, 0, 1, 0, 0, false, true⟩ ⟨nmroot, 9, 2⟩ rfl rfl rfl (by decide) (by decide) (by decide) (by decide)
 have h5 : Does Tryz.prog 22 [.pointer (some ⟨t, 0, none⟩), .int .i64 2, .int .i64 10] [Ct (TxP.new t sb db 640) exS3] (fun v H => v = .int .i64 11 ∧ H = [Ct (TxP.new t sb db 640) exS3]) :=
  cState_does (TxP.new t sb db 640) exS3 2 10 ⟨1, 5, 1, 3, 1, 2, 10, 0, false, true⟩ rfl
 (repeat (first|refine g_seq (h:=?_)|refine g_region (h:=?_)|refine l_nil (h:=?_)|refine n_then (h:=?_)|refine l_pures1 (h:=?_)|(refine l_atc ?_; refine l_call (h1) ?_)))
 (repeat (first|refine g_seq (h:=?_)|refine g_region (h:=?_)|refine l_nil (h:=?_)|refine n_then (h:=?_)|refine l_pures1 (h:=?_)|(refine l_atc ?_; refine l_call (h2) ?_)))
 (repeat (first|refine g_seq (h:=?_)|refine g_region (h:=?_)|refine l_nil (h:=?_)|refine n_then (h:=?_)|refine l_pures1 (h:=?_)|(refine l_atc ?_; refine l_call (h3) ?_)))
 (repeat (first|refine g_seq (h:=?_)|refine g_region (h:=?_)|refine l_nil (h:=?_)|refine n_then (h:=?_)|refine l_pures1 (h:=?_)|(refine l_atc ?_; refine l_call (h4) ?_)|refine l_guard_yes (h:=?_)))
 (repeat' (first|refine l_nil (h:=?_)|refine n_then (h:=?_)|refine l_pures1 (h:=?_)|(refine l_atc ?_; refine l_call (h5) ?_)|refine l_guard_yes (h:=?_)|refine g_ret (h:=?_)))
 refine r_retk [] ?_
 exact ⟨rfl, rfl⟩
section
variable (t sb db : Nat) (s : CS)
theorem nGet_does (n : Nat) (c : Cp) (hc : s.capAt n = some c) : Does Tryz.prog 17 [.pointer (some ⟨t, 0, none⟩), .int .i64 n] [Ct (TxP.new t sb db 640) s] (fun v H => v = .tuple #[.agg (cpA n c), .int .i64 0] ∧ H = [Ct (TxP.new t sb db 640) s]) := cGet_does (TxP.new t sb db 640) s n c hc
theorem nEnds_does (n : Nat) (c : Cp) (hc : s.capAt n = some c) : Does Tryz.prog 24 [.pointer (some ⟨t, 0, none⟩), .int .i64 n] [Ct (TxP.new t sb db 640) s] (fun v H => v = .tuple #[.int .i64 (endsL (s.up 9 n) : Nat), .int .i64 0] ∧ H = [Ct (TxP.new t sb db 640) s]) := cEnds_does (TxP.new t sb db 640) s n c hc
end
end Go.Proofs.YtelfjhemnnbbpaaGreat
set_option maxRecDepth 20000
namespace Go.Proofs.YtelfjhemnnbbpaaGreat
open Go.Proofs.YtelfjhemnnbbpaaGreat.SL
section
variable {P : Program} {n : Nat} {w0 : World} {F0 : Nat → Prop} {D : List Deferred} {H : List SProp}
theorem l_load_pa {E : Env} {Q : Exit → Act → World → Prop} {tm : List (Nat × Value)} {H' : List SProp} {ops rest : List Oper} {ty : TypeId} {pos : String} {after : Array Edge} {d t b off : Nat} {x : Operand} {c : List Value} {T : TypeId} {fr : Nat × Nat} {v : Value} (k : EnvOk P E := by refine inferInstance) (hd : Nat.blt d n = true := by refine rfl) (hx : ev tm x = some (.pointer (some ⟨b, off, none⟩)) := by refine rfl)
  (ht : Take (pts b (.cells c.toArray T fr)) H H' := by with_reducible (repeat (first | refine Take.here | apply Take.there))) (hv : partV E t c off = some v := by assumption) (h : L P n w0 F0 ops.toArray rest Q ((d, v) :: tm) D H) :
  L P n w0 F0 ops.toArray (⟨some d, .load t x, ty, pos, after, none⟩ :: rest) Q tm D H :=
 .mk fun a w s => by
  have hw := (s.inv.take ht).get
  refine wpList_value rfl (v := v) (w' := w) ?_ (h _ _ (s.put hd v))
  simp [execOp, ev_sound s.tm hx, run_loadAt k hw hv]
end
structure Stp where
 kind : Int
 a : Int
 b : Int
 rights : Int
 fin : Int
 self : Bool
abbrev inI (z : Int) : Prop := -9223372036854775808 ≤ z ∧ z < 9223372036854775808
structure Stp.ok (u : Stp) : Prop where
 kind : inI u.kind
 a : inI u.a
 b : inI u.b
 rights : inI u.rights
 fin : inI u.fin
abbrev encT (u : Stp) : List Value := [.int .i64 u.kind, .int .i64 u.a, .int .i64 u.b, .int .i64 u.rights, .int .i64 u.fin, .bool u.self]
def stC (l : List Stp) : List Value := l.flatMap encT
theorem stC_len : ∀ (l : List Stp), (stC l).length = l.length * 6
 | [] => rfl
 | u :: l => by
  have ih := stC_len l
  simp only [stC, List.flatMap_cons, List.length_append, List.length_cons, List.length_nil] at *; omega
theorem stC_cut : ∀ {l : List Stp} {j : Nat} {u : Stp}, l[j]? = some u → ((stC l).drop (j * 6)).take 6 = encT u
 | x :: l, 0, u, h => by simp only [List.getElem?_cons_zero, Option.some.injEq] at h; subst h; rfl
 | x :: l, j + 1, u, h => by
  have ih := stC_cut (l := l) (j := j) (by simpa using h)
  have : (j + 1) * 6 = j * 6 + 1 + 1 + 1 + 1 + 1 + 1 := by omega
  rw [this]
  exact ih
theorem part_st {row : List Value} {off : Nat} {l : List Stp} {j : Nat} {u : Stp} (h1 : (row.drop off).take (l.length * 6) = stC l) (h2 : off + l.length * 6 ≤ row.length) (h : l[j]? = some u) : partV env 91 row (off + ((j : Nat) : Int).toNat * 6) = some (.agg (encT u).toArray) := by
 have hj : j < l.length := (List.getElem?_eq_some_iff.1 h).1
 have e0 : off + ((j : Nat) : Int).toNat * 6 = off + j * 6 := by rw [Int.toNat_natCast]
 have hc : cutL row (off + j * 6) 6 = some (encT u) := by
  rw [cutL_of (by omega), ← stC_cut h, ← h1, List.drop_take, List.take_take, List.drop_drop, Nat.min_eq_left (by omega)]
 rw [e0]
 show (match cutL row (off + j * 6) 6 with
    | some r => some (Value.agg r.toArray)
    | none => none) = _
 rw [hc]
def stepF (s : CS) (i : Nat) (u : Stp) : CS :=
 let k := pkN u.kind 7
 let a := 1 + pkN u.a (s.cp.length + 1)
 if k = 0 then (s.mint (1 + pkN u.b 3) (1 + pkN u.a 9) (pkN u.rights 65536) i (pkN u.fin 50)).2
 else if k ≤ 3 then (s.derive a (1 + pkN u.b 3) (pkN u.rights 65536) i (pkN u.fin 50)).2
 else if k = 4 then (s.remove a).2
 else if k = 5 then (s.revoke a u.self).2
 else (s.move a (1 + pkN u.b (s.cp.length + 1))).2
theorem stepF_fi {s : CS} (f : FI s) {i : Nat} (hi : i < 30) (hl : s.cp.length ≤ i) (u : Stp) : FI (stepF s i u) := by
 have h1 := pkN_lt u.a (n := 9) (by omega)
 have h2 := pkN_lt u.rights (n := 65536) (by omega)
 have h3 := pkN_lt u.fin (n := 50) (by omega)
 unfold stepF
 dsimp only
 repeat' split
 ·exact f.mint (by omega) h2 (by omega) (by omega) (by omega)
 ·exact f.derive h2 (by omega) (by omega) (by omega)
 ·exact f.remove _
 ·exact f.revoke _ _
 ·exact f.move _ _
theorem roomF {t sb db i : Nat} {s : CS} (f : FI s) (hi : i ≤ 30) (hl : s.cp.length ≤ i) : roomC (TxP.new t sb db 640) s := roomNew (by rw [f.len]; omega)
abbrev grT (t i m : Nat) (S1 : Value) : List (Nat × Value) := [(10, .int .i64 i), (9, .int .i64 m), (0, .pointer (some ⟨t, 0, none⟩)), (1, S1)]
set_option maxHeartbeats 8000000 in
theorem grow_tail (t sb db i m n : Nat) (e : Int) (s' : CS) (S1 : Value) (A : SProp) (hm : m ≤ 30) (h : (e = 0 ∧ n = m + 1 ∧ s'.cp.length = m + 1) ∨ (n = 0 ∧ s'.cp.length = m)) (w0 : World) (F0 : Nat → Prop) (Q : Exit → Act → World → Prop) (hc : SL.Calm Q)
  (hq : N 143 w0 F0 .normal Q (grT t i s'.cp.length S1) [] [Ct (TxP.new t sb db 640) s', A]) :
  G Tryz.prog 143 w0 F0 (nav [1, 1, 1, 1, 0, 1, 2, 2, 1, 0, 2, 1, 1, 1, 1, 1, 1] (bdy Tryz.f20)) Q ((15, .int .i64 n) :: (14, .int .i64 e) :: grT t i m S1) [] [Ct (TxP.new t sb db 640) s', A] := by
 rcases h with ⟨rfl, rfl, h3⟩ | ⟨rfl, h3⟩
 ·have ew : IntKind.i64.wrap ((m : Int) + 1) = ((m + 1 : Nat) : Int) := by rw [wrapI64 (by omega)]; rfl
  rw [h3] at hq
  obtain ⟨c, hc⟩ : ∃ c, c = nav [1, 1, 1, 1, 0, 1, 2, 2, 1, 0, 2, 1, 1, 1, 1, 1, 1] (bdy Tryz.f20) := ⟨_, rfl⟩
  rw [← hc]
  dsimp only [nav, bdy, Tryz.f20, Option.getD] at hc
  subst hc
  (repeat' (first|refine g_seq (h:=?_)|refine g_region (h:=?_)|refine l_nil (h:=?_)|refine n_then (h:=?_)|refine l_pures1 (h:=?_)|refine l_guard_yes (h:=?_)|refine g_skip (h:=?_)|(refine g_spT (h:=?_); intro h)|(refine g_spF (h:=?_); intro h)))
  rw [ew]
  exact n_bang hq
 ·rw [h3] at hq
  obtain ⟨c, hc⟩ : ∃ c, c = nav [1, 1, 1, 1, 0, 1, 2, 2, 1, 0, 2, 1, 1, 1, 1, 1, 1] (bdy Tryz.f20) := ⟨_, rfl⟩
  rw [← hc]
  dsimp only [nav, bdy, Tryz.f20, Option.getD] at hc
  subst hc
  (repeat' (first|refine g_seq (h:=?_)|refine g_region (h:=?_)|refine l_nil (h:=?_)|refine n_then (h:=?_)|refine l_pures1 (h:=?_)|refine l_guard_yes (h:=?_)|refine l_guard_no (h:=?_)|refine g_skip (h:=?_)|refine g_cond_f (h:=?_)|(refine l_sp (h1 := ?_) (h0 := ?_) <;> intro h)))
  all_goals exact n_bang hq
end Go.Proofs.YtelfjhemnnbbpaaGreat
set_option maxRecDepth 20000
namespace Go.Proofs.YtelfjhemnnbbpaaGreat
open Go.Proofs.YtelfjhemnnbbpaaGreat.SL
set_option maxHeartbeats 8000000 in
theorem grow_step (t sb db i : Nat) (u : Stp) (hu : u.ok) (s : CS) (f : FI s) (hi : i < 30) (hl : s.cp.length ≤ i) (b11 : Nat) (S1 : Value) (A : SProp) (w0 : World) (F0 : Nat → Prop) (Q : Exit → Act → World → Prop) (hc : SL.Calm Q)
  (hq : N 143 w0 F0 .normal Q (grT t i (stepF s i u).cp.length S1) [] [Ct (TxP.new t sb db 640) (stepF s i u), A]) :
  G Tryz.prog 143 w0 F0 (nav [1, 1, 1, 1, 0, 1, 2, 2, 1, 0, 2, 1] (bdy Tryz.f20)) Q ((11, .pointer (some ⟨b11, 0, none⟩)) :: grT t i s.cp.length S1) [] [Ct (TxP.new t sb db 640) s, cl b11 91 (encT u), A] := by
 have room := roomF (t := t) (sb := sb) (db := db) f (i := i) (by omega) hl
 have hpa : Does Tryz.prog 21 [.int .i64 u.a, .int .i64 (IntKind.i64.wrap ((s.cp.length : Int) + 1))] [] (fun v H => v = .int .i64 (pkN u.a (s.cp.length + 1) : Nat) ∧ H = []) := by
  rw [show IntKind.i64.wrap ((s.cp.length : Int) + 1) = ((s.cp.length + 1 : Nat) : Int) by rw [wrapI64 (by omega)]; rfl]
  exact pick15_does u.a (s.cp.length + 1) hu.a (by omega)
 have hpb : Does Tryz.prog 21 [.int .i64 u.b, .int .i64 (IntKind.i64.wrap ((s.cp.length : Int) + 1))] [] (fun v H => v = .int .i64 (pkN u.b (s.cp.length + 1) : Nat) ∧ H = []) := by
  rw [show IntKind.i64.wrap ((s.cp.length : Int) + 1) = ((s.cp.length + 1 : Nat) : Int) by rw [wrapI64 (by omega)]; rfl]
  exact pick15_does u.b (s.cp.length + 1) hu.b (by omega)
 have hpk : Does Tryz.prog 21 [.int .i64 u.kind, .int .i64 7] [] (fun v H => v = .int .i64 (pkN u.kind 7 : Nat) ∧ H = []) := pick15_does u.kind 7 hu.kind (by omega)
 have hpb3 : Does Tryz.prog 21 [.int .i64 u.b, .int .i64 3] [] (fun v H => v = .int .i64 (pkN u.b 3 : Nat) ∧ H = []) := pick15_does u.b 3 hu.b (by omega)
 have hpa9 : Does Tryz.prog 21 [.int .i64 u.a, .int .i64 9] [] (fun v H => v = .int .i64 (pkN u.a 9 : Nat) ∧ H = []) := pick15_does u.a 9 hu.a (by omega)
 have hpr : Does Tryz.prog 21 [.int .i64 u.rights, .int .i64 65536] [] (fun v H => v = .int .i64 (pkN u.rights 65536 : Nat) ∧ H = []) := pick15_does u.rights 65536 hu.rights (by omega)
 have hpf : Does Tryz.prog 21 [.int .i64 u.fin, .int .i64 50] [] (fun v H => v = .int .i64 (pkN u.fin 50 : Nat) ∧ H = []) := pick15_does u.fin 50 hu.fin (by omega)
 have la := pkN_lt u.a (n := s.cp.length + 1) (by omega)
 have lb := pkN_lt u.b (n := s.cp.length + 1) (by omega)
 have lk := pkN_lt u.kind (n := 7) (by omega)
 have lb3 := pkN_lt u.b (n := 3) (by omega)
 have la9 := pkN_lt u.a (n := 9) (by omega)
 have lr := pkN_lt u.rights (n := 65536) (by omega)
 have lf := pkN_lt u.fin (n := 50) (by omega)
 obtain ⟨o, ho⟩ := owAt_some (s := s) (i := 1 + pkN u.b 3) (by rw [f.len]; omega)
 have hst : stepF s i u = if pkN u.kind 7 = 0 then (s.mint (1 + pkN u.b 3) (1 + pkN u.a 9) (pkN u.rights 65536) i (pkN u.fin 50)).2 else if pkN u.kind 7 ≤ 3 then (s.derive (1 + pkN u.a (s.cp.length + 1)) (1 + pkN u.b 3) (pkN u.rights 65536) i (pkN u.fin 50)).2 else if pkN u.kind 7 = 4 then (s.remove (1 + pkN u.a (s.cp.length + 1))).2 else if pkN u.kind 7 = 5 then (s.revoke (1 + pkN u.a (s.cp.length + 1)) u.self).2 else (s.move (1 + pkN u.a (s.cp.length + 1)) (1 + pkN u.b (s.cp.length + 1))).2 := rfl
 rw [hst] at hq
 clear hst
 obtain ⟨kd, hkd⟩ : ∃ kd, kd = pkN u.kind 7 := ⟨_, rfl⟩
 obtain ⟨pa, hpae⟩ : ∃ pa, pa = pkN u.a (s.cp.length + 1) := ⟨_, rfl⟩
 obtain ⟨pb, hpbe⟩ : ∃ pb, pb = pkN u.b (s.cp.length + 1) := ⟨_, rfl⟩
 obtain ⟨b3, hb3⟩ : ∃ b3, b3 = pkN u.b 3 := ⟨_, rfl⟩
 obtain ⟨a9, ha9⟩ : ∃ a9, a9 = pkN u.a 9 := ⟨_, rfl⟩
 obtain ⟨rr, hrr⟩ : ∃ rr, rr = pkN u.rights 65536 := ⟨_, rfl⟩
 obtain ⟨fe, hfe⟩ : ∃ fe, fe = pkN u.fin 50 := ⟨_, rfl⟩
 rw [← hkd, ← hpae, ← hpbe, ← hb3, ← ha9, ← hrr, ← hfe] at hq
 rw [← hkd] at hpk lk
 rw [← hpae] at hpa la
 rw [← hpbe] at hpb lb
 rw [← hb3] at hpb3 lb3 ho
 rw [← ha9] at hpa9 la9
 rw [← hrr] at hpr lr
 rw [← hfe] at hpf lf
 clear hkd hpae hpbe hb3 ha9 hrr hfe hu
 have ewa : IntKind.i64.wrap (1 + (pa : Int)) = ((1 + pa : Nat) : Int) := by rw [wrapI64 (by omega)]; rfl
 have ewb : IntKind.i64.wrap (1 + (pb : Int)) = ((1 + pb : Nat) : Int) := by rw [wrapI64 (by omega)]; rfl
 have ewb3 : IntKind.i64.wrap (1 + (b3 : Int)) = ((1 + b3 : Nat) : Int) := by rw [wrapI64 (by omega)]; rfl
 have ewa9 : IntKind.i64.wrap (1 + (a9 : Int)) = ((1 + a9 : Nat) : Int) := by rw [wrapI64 (by omega)]; rfl
 have hcap : ∀ c, s.capAt (1 + pa) = some c → ∃ o, s.owAt c.owner = some o := fun c h => f.owner h
 have hG := fun (n m : Nat) (e : Int) (s' : CS) (h : (e = 0 ∧ n = m + 1 ∧ s'.cp.length = m + 1) ∨ (n = 0 ∧ s'.cp.length = m)) (hm : m ≤ 30) (hq : N 143 w0 F0 .normal Q (grT t i s'.cp.length S1) [] [Ct (TxP.new t sb db 640) s', A]) => grow_tail t sb db i m n e s' S1 A hm h w0 F0 Q hc hq
 by_cases k0 : kd = 0
 ·subst k0
  rw [if_pos rfl] at hq
  have hM := cMintF_does (TxP.new t sb db 640) s room (1 + b3) (1 + a9) rr i fe o ho (by omega) lr (by omega) (by omega) (by omega)
  have hln := mint_len (s := s) (owner := 1 + b3) (object := 1 + a9) (mask := rr) (badge := i) (expiry := fe)
  obtain ⟨r, hr⟩ : ∃ r, r = s.mint (1 + b3) (1 + a9) rr i fe := ⟨_, rfl⟩
  rw [← hr] at hM hln hq
  obtain ⟨⟨n, e⟩, s'⟩ := r
  dsimp only at hM hln hq
  rw [← ewb3, ← ewa9] at hM
  have hM : Does Tryz.prog 14 [.pointer (some ⟨t, 0, none⟩), .int .i64 (IntKind.i64.wrap (1 + (b3 : Int))), .int .i64 (IntKind.i64.wrap (1 + (a9 : Int))), .int .i64 rr, .int .i64 i, .int .i64 fe] [Ct (TxP.new t sb db 640) s] (fun v H => v = .tuple #[.int .i64 n, .int .i64 e] ∧ H = [Ct (TxP.new t sb db 640) s']) := hM
  have htl := hG n s.cp.length e s' (by
   rcases hln with ⟨h1, h2⟩ | ⟨h1, h2⟩
   ·cases h1; exact .inl ⟨rfl, rfl, h2⟩
   ·exact .inr ⟨h1, h2⟩) (by omega) hq
  clear hG hr hln
  obtain ⟨c, hc⟩ : ∃ c, c = nav [1, 1, 1, 1, 0, 1, 2, 2, 1, 0, 2, 1] (bdy Tryz.f20) := ⟨_, rfl⟩
  rw [← hc]
  dsimp only [nav, bdy, Tryz.f20, Option.getD] at hc
  subst hc
  (repeat (first|refine g_seq (h:=?_)|refine g_region (h:=?_)|refine l_nil (h:=?_)|refine n_then (h:=?_)|refine l_pures1 (h:=?_)|(refine l_atc ?_; refine l_call (hpa) ?_)|(refine l_atc ?_; refine l_call (hpb) ?_)|(refine l_atc ?_; refine l_call (hpk) ?_)|refine l_load (h:=?_)|refine g_block (h:=?_)|refine g_cond_t (h:=?_)))
  (refine g_draw [cl b11 91 (encT u)] (h := a_pass2 (h:=?_)))
  (repeat' (first|((with_reducible show G _ _ _ _ (Code.seq (Code.region 29 _ _) _) _ _ _ _); exact g_bang (htl))|refine l_nil (h:=?_)|refine n_then (h:=?_)|(refine l_atc ?_; refine l_call (hpb3) ?_)|(refine l_atc ?_; refine l_call (hpa9) ?_)|(refine l_atc ?_; refine l_call (hpr) ?_)|(refine l_atc ?_; refine l_call (hpf) ?_)|(refine l_atc ?_; refine l_call (hM) ?_)|refine a_done (h:=?_)|refine a_load (h := a_pass2 (h:=?_))|refine a_one (h:=?_)|refine n_any (h := a_pass2 (h:=?_))|refine n_block (h:=?_)))
 ·rw [if_neg k0] at hq
  by_cases k3 : kd ≤ 3
  ·rw [if_pos k3] at hq
   have hD := cDeriveF_does (TxP.new t sb db 640) s room (1 + pa) (1 + b3) rr i fe o ho lr (by omega) (by omega) (by omega)
   have hln := derive_len (s := s) (parent := 1 + pa) (owner := 1 + b3) (mask := rr) (badge := i) (expiry := fe)
   obtain ⟨r, hr⟩ : ∃ r, r = s.derive (1 + pa) (1 + b3) rr i fe := ⟨_, rfl⟩
   rw [← hr] at hD hln hq
   obtain ⟨⟨n, e⟩, s'⟩ := r
   dsimp only at hD hln hq
   rw [← ewb3, ← ewa] at hD
   have hD : Does Tryz.prog 15 [.pointer (some ⟨t, 0, none⟩), .int .i64 (IntKind.i64.wrap (1 + (pa : Int))), .int .i64 (IntKind.i64.wrap (1 + (b3 : Int))), .int .i64 rr, .int .i64 i, .int .i64 fe, .int .i64 0] [Ct (TxP.new t sb db 640) s] (fun v H => v = .tuple #[.int .i64 n, .int .i64 e] ∧ H = [Ct (TxP.new t sb db 640) s']) := hD
   have htl := hG n s.cp.length e s' (by
    rcases hln with ⟨h1, h2⟩ | ⟨h1, h2⟩
    ·cases h1; exact .inl ⟨rfl, rfl, h2⟩
    ·exact .inr ⟨h1, h2⟩) (by omega) hq
   clear hG hr hln
   have hkk : kd = 1 ∨ kd = 2 ∨ kd = 3 := by omega
   clear k0 k3
   rcases hkk with rfl | rfl | rfl
   all_goals obtain ⟨c, hc⟩ : ∃ c, c = nav [1, 1, 1, 1, 0, 1, 2, 2, 1, 0, 2, 1] (bdy Tryz.f20) := ⟨_, rfl⟩
   all_goals rw [← hc]
   all_goals dsimp only [nav, bdy, Tryz.f20, Option.getD] at hc
   all_goals subst hc
   all_goals (repeat (first|refine g_seq (h:=?_)|refine g_region (h:=?_)|refine l_nil (h:=?_)|refine n_then (h:=?_)|refine l_pures1 (h:=?_)|(refine l_atc ?_; refine l_call (hpa) ?_)|(refine l_atc ?_; refine l_call (hpb) ?_)|(refine l_atc ?_; refine l_call (hpk) ?_)|refine l_load (h:=?_)|refine g_skip (h:=?_)|refine g_block (h:=?_)|refine g_cond_t (h:=?_)|refine g_cond_f (h:=?_)))
   all_goals (refine g_draw [cl b11 91 (encT u)] (h := a_pass2 (h:=?_)))
   all_goals (repeat' (first|((with_reducible show G _ _ _ _ (Code.seq (Code.region 29 _ _) _) _ _ _ _); exact g_bang (htl))|refine l_nil (h:=?_)|refine n_then (h:=?_)|(refine l_atc ?_; refine l_call (hpb3) ?_)|(refine l_atc ?_; refine l_call (hpr) ?_)|(refine l_atc ?_; refine l_call (hpf) ?_)|(refine l_atc ?_; refine l_call (hD) ?_)|refine a_done (h:=?_)|refine a_load (h := a_pass2 (h:=?_))|refine a_one (h:=?_)|refine n_any (h := a_pass2 (h:=?_))|refine n_block (h:=?_)))
  ·rw [if_neg k3] at hq
   have hG0 : ∀ (e : Int) (s' : CS), s'.cp.length = s.cp.length → N 143 w0 F0 .normal Q (grT t i s'.cp.length S1) [] [Ct (TxP.new t sb db 640) s', A] → SL.G Tryz.prog 143 w0 F0 (nav [1, 1, 1, 1, 0, 1, 2, 2, 1, 0, 2, 1, 1, 1, 1, 1, 1] (bdy Tryz.f20)) Q ((15, .int .i64 0) :: (14, .int .i64 e) :: grT t i s.cp.length S1) [] [Ct (TxP.new t sb db 640) s', A] :=
    fun e s' h hq => grow_tail t sb db i s.cp.length 0 e s' S1 A (by omega) (.inr ⟨rfl, h⟩) w0 F0 Q hc hq
   clear hG
   by_cases k4 : kd = 4
   ·subst k4
    rw [if_pos rfl] at hq
    have hR := cRemove_does (TxP.new t sb db 640) s room (1 + pa) hcap
    rw [← ewa] at hR
    have htl := hG0 (s.remove (1 + pa)).1 _ remove_len hq
    obtain ⟨r, hr⟩ : ∃ r, r = s.remove (1 + pa) := ⟨_, rfl⟩
    rw [← hr] at hR htl
    obtain ⟨e, s'⟩ := r
    dsimp only at hR htl
    have hR : Does Tryz.prog 47 [.pointer (some ⟨t, 0, none⟩), .int .i64 (IntKind.i64.wrap (1 + (pa : Int)))] [Ct (TxP.new t sb db 640) s] (fun v H => v = .int .i64 e ∧ H = [Ct (TxP.new t sb db 640) s']) := hR
    clear hr hq
    obtain ⟨c, hc⟩ : ∃ c, c = nav [1, 1, 1, 1, 0, 1, 2, 2, 1, 0, 2, 1] (bdy Tryz.f20) := ⟨_, rfl⟩
    rw [← hc]
    dsimp only [nav, bdy, Tryz.f20, Option.getD] at hc
    subst hc
    (repeat (first|refine g_seq (h:=?_)|refine g_region (h:=?_)|refine l_nil (h:=?_)|refine n_then (h:=?_)|refine l_pures1 (h:=?_)|(refine l_atc ?_; refine l_call (hpa) ?_)|(refine l_atc ?_; refine l_call (hpb) ?_)|(refine l_atc ?_; refine l_call (hpk) ?_)|refine l_load (h:=?_)|refine g_block (h:=?_)|refine g_cond_t (h:=?_)|refine g_cond_f (h:=?_)))
    (repeat' (first|((with_reducible show G _ _ _ _ (Code.seq (Code.region 29 _ _) _) _ _ _ _); exact g_bang (htl))|refine l_nil (h:=?_)|refine n_then (h:=?_)|refine l_pures1 (h:=?_)|(refine l_atc ?_; refine l_call (hR) ?_)|refine n_block (h:=?_)))
   ·rw [if_neg k4] at hq
    by_cases k5 : kd = 5
    ·subst k5
     rw [if_pos rfl] at hq
     have hR := cRevoke_does (TxP.new t sb db 640) s room (1 + pa) u.self
     rw [← ewa] at hR
     have htl := hG0 (s.revoke (1 + pa) u.self).1 _ revoke_len hq
     obtain ⟨r, hr⟩ : ∃ r, r = s.revoke (1 + pa) u.self := ⟨_, rfl⟩
     rw [← hr] at hR htl
     obtain ⟨e, s'⟩ := r
     dsimp only at hR htl
     have hR : Does Tryz.prog 23 [.pointer (some ⟨t, 0, none⟩), .int .i64 (IntKind.i64.wrap (1 + (pa : Int))), .bool u.self] [Ct (TxP.new t sb db 640) s] (fun v H => v = .int .i64 e ∧ H = [Ct (TxP.new t sb db 640) s']) := hR
     clear hr hq
     obtain ⟨c, hc⟩ : ∃ c, c = nav [1, 1, 1, 1, 0, 1, 2, 2, 1, 0, 2, 1] (bdy Tryz.f20) := ⟨_, rfl⟩
     rw [← hc]
     dsimp only [nav, bdy, Tryz.f20, Option.getD] at hc
     subst hc
     (repeat (first|refine g_seq (h:=?_)|refine g_region (h:=?_)|refine l_nil (h:=?_)|refine n_then (h:=?_)|refine l_pures1 (h:=?_)|(refine l_atc ?_; refine l_call (hpa) ?_)|(refine l_atc ?_; refine l_call (hpb) ?_)|(refine l_atc ?_; refine l_call (hpk) ?_)|refine l_load (h:=?_)|refine g_block (h:=?_)|refine g_cond_t (h:=?_)|refine g_cond_f (h:=?_)))
     (repeat' (first|((with_reducible show G _ _ _ _ (Code.seq (Code.region 29 _ _) _) _ _ _ _); exact g_bang (htl))|refine l_nil (h:=?_)|refine n_then (h:=?_)|refine l_pures1 (h:=?_)|(refine l_atc ?_; refine l_call (hR) ?_)|refine n_block (h:=?_)))
    ·rw [if_neg k5] at hq
     obtain rfl : kd = 6 := by omega
     have hR := cMove_does (TxP.new t sb db 640) s room (1 + pa) (1 + pb)
     rw [← ewa, ← ewb] at hR
     have htl := hG0 (s.move (1 + pa) (1 + pb)).1 _ move_len hq
     obtain ⟨r, hr⟩ : ∃ r, r = s.move (1 + pa) (1 + pb) := ⟨_, rfl⟩
     rw [← hr] at hR htl
     obtain ⟨e, s'⟩ := r
     dsimp only at hR htl
     have hR : Does Tryz.prog 16 [.pointer (some ⟨t, 0, none⟩), .int .i64 (IntKind.i64.wrap (1 + (pa : Int))), .int .i64 (IntKind.i64.wrap (1 + (pb : Int))), .int .i64 0] [Ct (TxP.new t sb db 640) s] (fun v H => v = .int .i64 e ∧ H = [Ct (TxP.new t sb db 640) s']) := hR
     clear hr hq
     obtain ⟨c, hc⟩ : ∃ c, c = nav [1, 1, 1, 1, 0, 1, 2, 2, 1, 0, 2, 1] (bdy Tryz.f20) := ⟨_, rfl⟩
     rw [← hc]
     dsimp only [nav, bdy, Tryz.f20, Option.getD] at hc
     subst hc
     (repeat (first|refine g_seq (h:=?_)|refine g_region (h:=?_)|refine l_nil (h:=?_)|refine n_then (h:=?_)|refine l_pures1 (h:=?_)|(refine l_atc ?_; refine l_call (hpa) ?_)|(refine l_atc ?_; refine l_call (hpb) ?_)|(refine l_atc ?_; refine l_call (hpk) ?_)|refine l_load (h:=?_)|refine g_block (h:=?_)|refine g_cond_f (h:=?_)))
     (repeat' (first|((with_reducible show G _ _ _ _ (Code.seq (Code.region 29 _ _) _) _ _ _ _); exact g_bang (htl))|refine l_nil (h:=?_)|refine n_then (h:=?_)|refine l_pures1 (h:=?_)|(refine l_atc ?_; refine l_call (hR) ?_)|refine n_block (h:=?_)))
end Go.Proofs.YtelfjhemnnbbpaaGreat
set_option maxRecDepth 20000
namespace Go.Proofs.YtelfjhemnnbbpaaGreat
open Go.Proofs.YtelfjhemnnbbpaaGreat.SL
def rgS (i : Nat) : CS := ⟨[(⟨[97], 10, 0⟩ : Ow), ⟨[98], 5, 0⟩, ⟨[99], 2, 0⟩].take i, []⟩
theorem rg_nm (i n : Nat) (c : UInt8) (h : ∀ x ∈ ([97, 98, 99] : List UInt8).take i, x ≠ c) : isNm (rgS i) [c] n = false := by
 unfold isNm
 cases ho : (rgS i).owAt n with
 | none => rfl
 | some o =>
  have hn := owAt_lt ho
  unfold CS.owAt at ho
  rw [if_neg (by omega)] at ho
  have hm : o ∈ (rgS i).ow := List.mem_of_getElem? ho
  have h2 : ∃ x ∈ ([97, 98, 99] : List UInt8).take i, o.name = [x] := by
   unfold rgS at hm
   have e : ∀ {o : Ow}, o ∈ [(⟨[97], 10, 0⟩ : Ow), ⟨[98], 5, 0⟩, ⟨[99], 2, 0⟩].take i → o.name ∈ (([97, 98, 99] : List UInt8).take i).map (fun x => [x]) := fun {o} ho => by
    have := List.mem_map_of_mem (f := Ow.name) ho
    rw [List.map_take] at this
    rw [List.map_take]
    exact this
   obtain ⟨x, hx, he⟩ := List.mem_map.1 (e hm)
   exact ⟨x, hx, he.symm⟩
  obtain ⟨x, hx, he⟩ := h2
  have := h x hx
  simp [he, this]
theorem rg_ok0 : (rgS 0).ok := z_ok
theorem ow1_ok {n : Nat} {c : UInt8} {l : Nat} (hn : 1 ≤ n ∧ n ≤ 16777215) (hc : 97 ≤ c.toNat ∧ c.toNat ≤ 122) (hl : l ≤ 1000) : Ow.ok n ⟨[c], l, 0⟩ := ⟨hn, fold1 c hc, by simp, hl, by simp⟩
theorem rg_ok3 : (rgS 3).ok := by
 have h1 : (rgS 1).ok := addO_ok (s := rgS 0) (o := ⟨[97], 10, 0⟩) rg_ok0 (ow1_ok (by simp [rgS]) (by decide) (by decide)) (by simp [rgS])
 have h2 : (rgS 2).ok := addO_ok (s := rgS 1) (o := ⟨[98], 5, 0⟩) h1 (ow1_ok (by simp [rgS]) (by decide) (by decide)) (by simp [rgS])
 exact addO_ok (s := rgS 2) (o := ⟨[99], 2, 0⟩) h2 (ow1_ok (by simp [rgS]) (by decide) (by decide)) (by simp [rgS])
theorem rg_fi : FI (rgS 3) where
 ok := rg_ok3
 len := rfl
 own := fun n c h => by have := capAt_lt h; simp [rgS] at this; omega
 cnt := fun i o h => by
  have := owAt_lt h
  have hi : i = 1 ∨ i = 2 ∨ i = 3 := by simp [rgS] at this; omega
  rcases hi with rfl | rfl | rfl
  all_goals cases h; rfl
 rts := fun n c p h _ => by have := capAt_lt h; simp [rgS] at this; omega
theorem stepF_len {s : CS} (f : FI s) {i : Nat} (hi : i < 30) (hl : s.cp.length ≤ i) (u : Stp) : (stepF s i u).cp.length ≤ i + 1 := by
 unfold stepF
 dsimp only
 repeat' split
 ·rcases mint_len (s := s) (owner := 1 + pkN u.b 3) (object := 1 + pkN u.a 9) (mask := pkN u.rights 65536) (badge := i) (expiry := pkN u.fin 50) with h | h <;> omega
 ·rcases derive_len (s := s) (parent := 1 + pkN u.a (s.cp.length + 1)) (owner := 1 + pkN u.b 3) (mask := pkN u.rights 65536) (badge := i) (expiry := pkN u.fin 50) with h | h <;> omega
 ·rw [remove_len]; omega
 ·rw [revoke_len]; omega
 ·rw [move_len]; omega
set_option maxHeartbeats 8000000 in
theorem grown_does (t sb db : Nat) (p : Option Addr) (ks : List Stp) (cap : Nat) (o : Obj) (hk : ∀ u ∈ ks, u.ok) (hl : ks.length ≤ 9223372036854775807) :
  Does Tryz.prog 20 [.pointer (some ⟨t, 0, none⟩), .slice p ks.length cap] [Ct (TxP.new t sb db 640) CS.z, ins p (ks.length * 6) (stC ks) o] (fun v H => ∃ s, v = .int .i64 (s.cp.length : Nat) ∧ H = [Ct (TxP.new t sb db 640) s, ins p (ks.length * 6) (stC ks) o] ∧ FI s ∧ s.cp.length ≤ 30) := by
 have h0 : Does Tryz.prog 12 [.pointer (some ⟨t, 0, none⟩), .string (str (([97] : List UInt8).drop 0 |>.take 1)), .int .i64 10] [Ct (TxP.new t sb db 640) (rgS 0)] (fun v H => v = .tuple #[.int .i64 1, .int .i64 0] ∧ H = [Ct (TxP.new t sb db 640) (rgS 1)]) :=
  cReg_does (TxP.new t sb db 640) (rgS 0) (roomNew (by simp [rgS])) [97] [97] 10 (fold1 97 (by decide)) (fold1 97 (by decide)) (by decide) (by decide) (by simp [rgS]) (fun n => rg_nm 0 n 97 (by simp))
 have h1 : Does Tryz.prog 12 [.pointer (some ⟨t, 0, none⟩), .string (str (([98] : List UInt8).drop 0 |>.take 1)), .int .i64 5] [Ct (TxP.new t sb db 640) (rgS 1)] (fun v H => v = .tuple #[.int .i64 2, .int .i64 0] ∧ H = [Ct (TxP.new t sb db 640) (rgS 2)]) :=
  cReg_does (TxP.new t sb db 640) (rgS 1) (roomNew (by simp [rgS])) [98] [98] 5 (fold1 98 (by decide)) (fold1 98 (by decide)) (by decide) (by decide) (by simp [rgS]) (fun n => rg_nm 1 n 98 (by simp))
 have h2 : Does Tryz.prog 12 [.pointer (some ⟨t, 0, none⟩), .string (str (([99] : List UInt8).drop 0 |>.take 1)), .int .i64 2] [Ct (TxP.new t sb db 640) (rgS 2)] (fun v H => v = .tuple #[.int .i64 3, .int .i64 0] ∧ H = [Ct (TxP.new t sb db 640) (rgS 3)]) :=
  cReg_does (TxP.new t sb db 640) (rgS 2) (roomNew (by simp [rgS])) [99] [99] 2 (fold1 99 (by decide)) (fold1 99 (by decide)) (by decide) (by decide) (by simp [rgS]) (fun n => rg_nm 2 n 99 (by simp))
 refine does_of Tryz.func20 Tryz.ntmps20 rfl rfl rfl (fun w0 F0 => ?_)
 (repeat' (first|refine g_seq (h:=?_)|refine g_region (h:=?_)|refine l_nil (h:=?_)|refine n_then (h:=?_)|refine l_pures1 (h:=?_)|refine g_block (h:=?_)|(refine l_buildSlice3 (h:=?_); intro _)))
 rename_i bs
 (refine g_loop (fun y : Nat => [(6, .int .i64 y), (5, .slice (some ⟨bs, 0, none⟩) 3 3), (1, .slice p ks.length cap), (0, .pointer (some ⟨t, 0, none⟩))]) (fun y => [cl bs 3 [.int .i64 10, .int .i64 5, .int .i64 2], Ct (TxP.new t sb db 640) (rgS y), ins p (ks.length * 6) (stC ks) o]) (fun y => y ≤ 3) (fun y => 3 - y) (0) ?_ ?_ ?_ ?_; rotate_left; (repeat (first | refine ts_nil | (refine ts_cons rfl ?_ ?_; first | (with_reducible rfl) | rotate_left))); (first | (intro _ i; with_reducible refine i) | rotate_left); rotate_left; (try omega); rotate_right)
 ·intro y hy
  by_cases y0 : y = 0
  ·subst y0
   (repeat (first|refine g_seq (h:=?_)|refine g_region (h:=?_)|refine l_nil (h:=?_)|refine n_then (h:=?_)|refine l_pures1 (h:=?_)|refine g_skip (h:=?_)|refine g_block (h:=?_)|refine g_cond_t (h:=?_)))
   (refine g_draw [cl bs 3 [.int .i64 10, .int .i64 5, .int .i64 2]] (h := a_pass2 (h:=?_)))
   (repeat' (first|refine l_nil (h:=?_)|refine l_indexAddr (h:=?_)|(refine l_buildSlice1 (h:=?_); intro _)|refine a_load (h := a_pass2 (h:=?_))|refine a_one (h:=?_)|refine n_any (h := a_pass2 (h:=?_))|refine a_fork2 (h1 := ?_) (h2 := ?_)|refine a1_of (h:=?_)))
   all_goals rw [show ([Value.int .u8 (IntKind.u8.wrap (IntKind.i64.wrap (97 + ((0 : Nat) : Int))))] : List Value) = bsV [97] from rfl]
   all_goals (repeat' (first|refine g_seq (h:=?_)|refine g_region (h:=?_)|refine l_nil (h:=?_)|refine n_then (h:=?_)|refine l_pures1 (h:=?_)|(refine l_atc ?_; refine l_call (h0) ?_)|refine l_guard_yes (h:=?_)|refine l_indexAddr (h:=?_)|refine l_str_bs (h:=?_)|refine g_skip (h:=?_)|refine a_done (h:=?_)|refine a_load (h := a_pass2 (h:=?_))|refine a_one (h:=?_)|refine n_any (h := a_pass2 (h:=?_))|refine n_block (h:=?_)|refine g_cond_f (h:=?_)))
   all_goals (refine n_back (1) ?_ ?_ ?_ ?_; rotate_left; rotate_left; (repeat (first | refine ts_nil | (refine ts_cons rfl ?_ ?_; first | (with_reducible rfl) | rotate_left))); (first | (intro _ i; with_reducible refine i) | rotate_left); (try omega); (try omega))
   all_goals first
    | omega
    | rfl
    | (intro _ i; exact inv_keep parts_of i)
  ·by_cases y1 : y = 1
   ·subst y1
    (repeat (first|refine g_seq (h:=?_)|refine g_region (h:=?_)|refine l_nil (h:=?_)|refine n_then (h:=?_)|refine l_pures1 (h:=?_)|refine g_skip (h:=?_)|refine g_block (h:=?_)|refine g_cond_t (h:=?_)))
    (refine g_draw [cl bs 3 [.int .i64 10, .int .i64 5, .int .i64 2]] (h := a_pass2 (h:=?_)))
    (repeat' (first|refine l_nil (h:=?_)|refine l_indexAddr (h:=?_)|(refine l_buildSlice1 (h:=?_); intro _)|refine a_load (h := a_pass2 (h:=?_))|refine a_one (h:=?_)|refine n_any (h := a_pass2 (h:=?_))|refine a_fork2 (h1 := ?_) (h2 := ?_)|refine a1_of (h:=?_)))
    all_goals rw [show ([Value.int .u8 (IntKind.u8.wrap (IntKind.i64.wrap (97 + ((1 : Nat) : Int))))] : List Value) = bsV [98] from rfl]
    all_goals (repeat' (first|refine g_seq (h:=?_)|refine g_region (h:=?_)|refine l_nil (h:=?_)|refine n_then (h:=?_)|refine l_pures1 (h:=?_)|(refine l_atc ?_; refine l_call (h1) ?_)|refine l_guard_yes (h:=?_)|refine l_indexAddr (h:=?_)|refine l_str_bs (h:=?_)|refine g_skip (h:=?_)|refine a_done (h:=?_)|refine a_load (h := a_pass2 (h:=?_))|refine a_one (h:=?_)|refine n_any (h := a_pass2 (h:=?_))|refine n_block (h:=?_)|refine g_cond_f (h:=?_)))
    all_goals (refine n_back (2) ?_ ?_ ?_ ?_; rotate_left; rotate_left; (repeat (first | refine ts_nil | (refine ts_cons rfl ?_ ?_; first | (with_reducible rfl) | rotate_left))); (first | (intro _ i; with_reducible refine i) | rotate_left); (try omega); (try omega))
    all_goals first
     | omega
     | rfl
     | (intro _ i; exact inv_keep parts_of i)
   ·by_cases y2 : y = 2
    ·subst y2
     (repeat (first|refine g_seq (h:=?_)|refine g_region (h:=?_)|refine l_nil (h:=?_)|refine n_then (h:=?_)|refine l_pures1 (h:=?_)|refine g_skip (h:=?_)|refine g_block (h:=?_)|refine g_cond_t (h:=?_)))
     (refine g_draw [cl bs 3 [.int .i64 10, .int .i64 5, .int .i64 2]] (h := a_pass2 (h:=?_)))
     (repeat' (first|refine l_nil (h:=?_)|refine l_indexAddr (h:=?_)|(refine l_buildSlice1 (h:=?_); intro _)|refine a_load (h := a_pass2 (h:=?_))|refine a_one (h:=?_)|refine n_any (h := a_pass2 (h:=?_))|refine a_fork2 (h1 := ?_) (h2 := ?_)|refine a1_of (h:=?_)))
     all_goals rw [show ([Value.int .u8 (IntKind.u8.wrap (IntKind.i64.wrap (97 + ((2 : Nat) : Int))))] : List Value) = bsV [99] from rfl]
     all_goals (repeat' (first|refine g_seq (h:=?_)|refine g_region (h:=?_)|refine l_nil (h:=?_)|refine n_then (h:=?_)|refine l_pures1 (h:=?_)|(refine l_atc ?_; refine l_call (h2) ?_)|refine l_guard_yes (h:=?_)|refine l_indexAddr (h:=?_)|refine l_str_bs (h:=?_)|refine g_skip (h:=?_)|refine a_done (h:=?_)|refine a_load (h := a_pass2 (h:=?_))|refine a_one (h:=?_)|refine n_any (h := a_pass2 (h:=?_))|refine n_block (h:=?_)|refine g_cond_f (h:=?_)))
     all_goals (refine n_back (3) ?_ ?_ ?_ ?_; rotate_left; rotate_left; (repeat (first | refine ts_nil | (refine ts_cons rfl ?_ ?_; first | (with_reducible rfl) | rotate_left))); (first | (intro _ i; with_reducible refine i) | rotate_left); (try omega); (try omega))
     all_goals first
      | omega
      | rfl
      | (intro _ i; exact inv_keep parts_of i)
    ·obtain rfl : y = 3 := by omega
     clear h0 h1 h2
     (repeat' (first|refine g_seq (h:=?_)|refine g_region (h:=?_)|refine l_nil (h:=?_)|refine n_then (h:=?_)|refine l_pures1 (h:=?_)|refine g_block (h:=?_)|refine g_exit (h:=?_)|refine n_then_exit (h:=?_)|refine n_block_hit (h:=?_)|refine g_cond_f (h:=?_)))
     (refine g_loop (fun y : Nat × CS => grT t y.1 y.2.cp.length (.slice p ks.length cap)) (fun y => [Ct (TxP.new t sb db 640) y.2, ins p (ks.length * 6) (stC ks) o]) (fun y => y.1 ≤ ks.length ∧ y.1 ≤ 30 ∧ FI y.2 ∧ y.2.cp.length ≤ y.1) (fun y => 30 - y.1) ((0, rgS 3)) ?_ ?_ ?_ ?_; rotate_left; (repeat (first | refine ts_nil | (refine ts_cons rfl ?_ ?_; first | (with_reducible rfl) | rotate_left))); (first | (intro _ i; with_reducible refine i) | rotate_left); rotate_left; (try omega); rotate_right)
     ·rintro ⟨i, s⟩ ⟨hi, hi30, hf, hlen⟩
      dsimp only at hi hi30 hf hlen ⊢
      by_cases hil : i < ks.length ∧ i < 30
      ·refine g_open (o := ins_opens (p := p) (m := ks.length * 6) (by omega)) (h:=?_); (rintro ⟨gb, off, row, fr, T0⟩ ⟨rfl, rfl, v5, v6, v7⟩; dsimp only [List.cons_append, List.nil_append])
       have hui : ks[i]? = some (ks[i]'hil.1) := List.getElem?_eq_getElem hil.1
       have huo := hk _ (List.getElem_mem hil.1)
       obtain ⟨u, hu⟩ : ∃ u, u = ks[i]'hil.1 := ⟨_, rfl⟩
       rw [← hu] at hui huo
       have hpt := part_st v5 v6 hui
       (repeat' (first|refine g_seq (h:=?_)|refine g_region (h:=?_)|refine l_nil (h:=?_)|refine n_then (h:=?_)|refine l_pures1 (h:=?_)|refine l_guard_yes (h:=?_)|refine l_indexAddr (h:=?_)|refine g_skip (h:=?_)|refine g_block (h:=?_)|(refine l_spT (h:=?_); intro h)|(refine g_spT (h:=?_); intro h)))
       refine l_load_pa (h:=?_)
       refine l_shut (ins_shuts v5 v6 v7) (h:=?_)
       (repeat' (first|((with_reducible show G _ _ _ _ (Code.seq (Code.region 13 _ _) _) _ _ _ _); refine g_bang (grow_step t sb db i u huo s hf hil.2 hlen _ (.slice (some ⟨gb, off, none⟩) ks.length cap) (ins (some ⟨gb, off, none⟩) (ks.length * 6) (stC ks) (.cells row.toArray T0 fr)) w0 F0 _ (by with_reducible (repeat (first|refine calm_post|apply calm_then|apply calm_block))) ?_))|refine g_region (h:=?_)|refine l_nil (h:=?_)|refine n_then (h:=?_)|refine l_pures1 (h:=?_)|refine l_store (h:=?_)|(refine l_alloc (h:=?_); intro _)|refine n_block (h:=?_)))
       (repeat fail)
       (refine n_back ((i + 1, stepF s i u)) ?_ ?_ ?_ ?_; rotate_left; rotate_left; (repeat (first | refine ts_nil | (refine ts_cons rfl ?_ ?_; first | (with_reducible rfl) | rotate_left))); (first | (intro _ i; with_reducible refine i) | rotate_left); (try omega); (try omega))
       all_goals first
        | exact ⟨hil.1, hil.2, stepF_fi hf hil.2 hlen u, stepF_len hf hil.2 hlen u⟩
        | (dsimp only; omega)
        | (rw [wrapI64 (by omega)]; rfl)
        | (intro _ i; exact inv_keep parts_of i)
        | rfl
      ·(repeat' (first|refine g_seq (h:=?_)|refine g_region (h:=?_)|refine l_nil (h:=?_)|refine n_then (h:=?_)|refine l_pures1 (h:=?_)|refine l_guard_yes (h:=?_)|refine l_guard_no (h:=?_)|refine g_ret (h:=?_)|refine g_exit (h:=?_)|refine n_then_exit (h:=?_)|refine n_block_hit (h:=?_)|refine g_cond_f (h:=?_)|(refine l_sp (h1 := ?_) (h0 := ?_) <;> intro h)|(refine g_spF (h:=?_); intro h)))
       all_goals
        refine r_retk [Ct (TxP.new t sb db 640) s, ins p (ks.length * 6) (stC ks) o] ?_
       all_goals exact ⟨s, rfl, rfl, hf, by omega⟩
     all_goals first
      | exact ⟨Nat.zero_le _, Nat.zero_le _, rg_fi, Nat.zero_le _⟩
      | rfl
      | (intro _ i; exact inv_keep parts_of i)
 all_goals first
  | exact Nat.zero_le _
  | rfl
  | (intro _ i; rw [show CS.z = rgS 0 from rfl] at i; exact inv_keep parts_of i)
end Go.Proofs.YtelfjhemnnbbpaaGreat
