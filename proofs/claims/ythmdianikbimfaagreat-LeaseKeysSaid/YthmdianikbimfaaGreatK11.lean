/- Texts CaX, LeR, LcA, joined. -/
import Derived.Test.YthmdianikbimfaaGreatK10
set_option linter.unusedVariables false
set_option linter.unusedSimpArgs false
set_option maxRecDepth 20000
namespace Go.Proofs.YthmdianikbimfaaGreat
open Go.Proofs.YthmdianikbimfaaGreat.SL
def CS.z : CS := ⟨[], []⟩
theorem z_ok : CS.z.ok where
  ow := fun n o h => by unfold CS.owAt CS.z at h; split at h <;> simp at h
  cp := fun n c h => by unfold CS.capAt CS.z at h; split at h <;> simp at h
  par := fun n c h _ => by unfold CS.capAt CS.z at h; split at h <;> simp at h
  size := by simp [CS.z]
theorem ct_new (P : TxP) : CtI P CS.z [] := ⟨Rp.nil, z_ok⟩
theorem z_isNm (f : List UInt8) (n : Nat) : isNm CS.z f n = false := by
  unfold isNm CS.owAt CS.z
  split <;> simp
theorem made16c_does : Does Tryz.prog 8 [] [] (fun v H => ∃ t db sb, v = .pointer (some ⟨t, 0, none⟩) ∧ H = [Ct (TxP.new t sb db 640) CS.z]) := by
  obtain ⟨E1, f1, k0⟩ := tr_new (N := 640) (by omega)
  refine does_of Tryz.func8 Tryz.ntmps8 rfl rfl rfl (fun w0 F0 => ?_)
  (repeat' (first | refine g_seq (h := ?_) | refine g_region (h := ?_) | refine l_nil (h := ?_) | refine n_then (h := ?_) | refine l_pures1 (h := ?_) | (refine l_at 20 ?_; refine l_call_ (new_is (i := 640) (n := 640) rfl (by omega)) ?_; rintro _ _ _ ⟨db, rfl, rfl⟩ he; cases he) | (refine l_at 21 ?_; refine l_call_ (format_is f1) ?_; rintro _ _ _ ⟨sb, rfl, rfl⟩ he; cases he) | refine l_guard_yes (h := ?_) | refine g_skip (h := ?_) | refine g_cond_f (h := ?_)))
  (refine l_shut (A := Sto (TxP.new 0 sb db 640)) (K := StoK (TxP.new 0 sb db 640) ((headNew.over, E1))) (hid_shuts ((headNew.over, E1)) (sto_new k0)) (h := ?_) (p := by dsimp only [StoK]; (try simp only [List.map_nil, List.length_nil, List.length_set, List.length_append, List.length_cons, List.length_singleton, List.map_append, List.map_cons, Nat.zero_add, TxP.new]); exact parts_of))
  have hb : Does Tryz.prog 22 [.pointer (some ⟨sb, 0, none⟩)] [Sto (TxP.new 0 sb db 640)] (fun v H => ∃ t, v = .pointer (some ⟨t, 0, none⟩) ∧ H = [Tx (TxP.new t sb db 640) []]) := begin_does (TxP.new 0 sb db 640)
  (repeat' (first | refine l_nil (h := ?_) | refine n_then (h := ?_) | refine l_pures1 (h := ?_) | (refine l_atc ?_; refine l_call_ (hb) ?_; rintro _ _ _ ⟨t, rfl, rfl⟩ he; cases he) | refine g_ret (h := ?_)))
  (refine n_shut (A := Ct (TxP.new t sb db 640) CS.z) (K := CtK (TxP.new t sb db 640) CS.z (([] : List Ent))) (hid_shuts (([] : List Ent)) (ct_new _)) (h := ?_) (p := by dsimp only [CtK]; (try simp only [List.map_nil, List.length_nil, List.length_set, List.length_append, List.length_cons, List.length_singleton, List.map_append, List.map_cons, Nat.zero_add]); exact parts_of))
  refine r_retk [Ct (TxP.new t sb db 640) CS.z] ?_
  exact ⟨t, db, sb, rfl, rfl⟩
theorem roomNew {t sb db : Nat} {s : CS} (h : s.ow.length + 3 * s.cp.length < 280) : roomC (TxP.new t sb db 640) s := by
  show 0 + 2 * (s.ow.length + 3 * s.cp.length) + 60 < 640
  omega
def pkN (c : Int) (n : Nat) : Nat := (if c < 0 then -(c + 1) else c).toNat % n
theorem pkN_lt (c : Int) {n : Nat} (h : 0 < n) : pkN c n < n := Nat.mod_lt _ h
theorem fold1 (c : UInt8) (h : 97 ≤ c.toNat ∧ c.toNat ≤ 122) : FoldTo [c] [c] := by
  have := fold_letters [c] (by simp) (fun x hx => by rw [List.mem_singleton.1 hx]; exact .inl h)
  rw [show lowL [c] = [c] by unfold lowL lowB; simp; omega] at this
  exact this
section
variable (t sb db : Nat) (s : CS)
theorem nEnds_does (n : Nat) (c : Cp) (hc : s.capAt n = some c) : Does Tryz.prog 15 [.pointer (some ⟨t, 0, none⟩), .int .i64 n] [Ct (TxP.new t sb db 640) s] (fun v H => v = .tuple #[.int .i64 (endsL (s.up 9 n) : Nat), .int .i64 0] ∧ H = [Ct (TxP.new t sb db 640) s]) := cEnds_does (TxP.new t sb db 640) s n c hc
theorem nState_does (n : Nat) (now : Int) (c : Cp) (hc : s.capAt n = some c) : Does Tryz.prog 16 [.pointer (some ⟨t, 0, none⟩), .int .i64 n, .int .i64 now] [Ct (TxP.new t sb db 640) s] (fun v H => v = .int .i64 (s.state n now) ∧ H = [Ct (TxP.new t sb db 640) s]) := cState_does (TxP.new t sb db 640) s n now c hc
end
end Go.Proofs.YthmdianikbimfaaGreat
set_option maxRecDepth 20000
namespace Go.Proofs.YthmdianikbimfaaGreat
open Go.Proofs.YthmdianikbimfaaGreat.SL
theorem leKey_does (k a b : Nat) (hk : k < 16) (ha : a ≤ 268435455) (hb : b < 4294967296) : Does Tryz.prog 35 [.int .i64 k, .int .i64 a, .int .i64 b] [] (fun v H => v = .int .u64 (kyN k a b : Nat) ∧ H = []) := by
  have hK := Key_does k a b hk ha hb
  refine does_of Tryz.func35 Tryz.ntmps35 rfl rfl rfl (fun w0 F0 => ?_)
  (repeat' (first | refine g_seq (h := ?_) | refine g_region (h := ?_) | refine l_nil (h := ?_) | refine n_then (h := ?_) | refine l_pures1 (h := ?_) | (refine l_atc ?_; refine l_call (hK) ?_) | refine g_ret (h := ?_)))
  refine r_ret ?_
  exact ⟨rfl, rfl⟩
def Cp.renew (c : Cp) (e : Nat) : Cp := { c with expiry := e, due := true }
theorem renew_val {s : CS} {n : Nat} {c : Cp} (hc : s.capAt n = some c) (e : Nat) : ∀ k a b,
    (((Vals.updIf s.val (0 < c.expiry) 5 c.expiry n none).updIf (0 < e) 5 e n (some [])).upd 1 0 n (some (c.renew e).text)) k a b = (s.setC n (some (c.renew e))).val k a b := by
  have hn := capAt_lt hc
  refine setC_val hn _ ?_ ?_ ?_ ?_
  · intro a b
    rw [Vals.upd_at, Vals.updIf_ne (by omega), Vals.updIf_ne (by omega)]; rfl
  · intro a b
    rw [Vals.upd_ne (by omega), Vals.updIf_ne (by omega), Vals.updIf_ne (by omega)]
    by_cases q : b = n
    · subst q; rw [if_pos rfl, val2]; unfold CS.kid; rw [hc]; rfl
    · rw [if_neg q]
  · intro a b
    rw [Vals.upd_ne (by omega), Vals.updIf_at, Vals.updIf_at]
    by_cases q : b = n
    · subst q
      rw [if_pos rfl, val5]
      unfold CS.lease
      rw [hc]
      simp only [Option.any_some, Cp.renew, Bool.and_true]
      by_cases h1 : a = e
      · subst h1
        by_cases h2 : a = 0
        · subst h2
          first | (simp; done) | (simp; omega)
        · have : 0 < a := by omega
          simp [h2, this]
      · have h1' : ¬ e = a := fun h => h1 h.symm
        by_cases h2 : a = c.expiry
        · subst h2
          by_cases h3 : c.expiry = 0
          · simp [h1, h1', h3]; omega
          · have : 0 < c.expiry := by omega
            simp [h1, h1', this]
        · have h2' : ¬ c.expiry = a := fun h => h2 h.symm
          simp [h1, h1', h2, h2']
    · simp [q]
  · rintro k a b ⟨q1, q2, q3⟩
    rw [Vals.upd_ne q1, Vals.updIf_ne q3, Vals.updIf_ne q3]
theorem renew_ok {n : Nat} {c : Cp} (h : c.ok n) {e : Nat} (he : e ≤ 268435455) : (c.renew e).ok n := ⟨h.id, h.parent, h.other, h.object, h.owner, h.rights, h.badge, h.depth, he, h.cut, h.root⟩
set_option maxHeartbeats 4000000 in
theorem renew_does (P : TxP) (s : CS) (T : List Ent) (k : CtI P s T) (room : roomC P s) (n : Nat) (e now : Nat) (c : Cp) (hc : s.capAt n = some c) (hst : s.state n now = 0) (he : e ≤ 268435455) (hen : e = 0 ∨ now < e) (hnow : now < 1000000000) :
    Does Tryz.prog 12 [.pointer (some ⟨P.t, 0, none⟩), .int .i64 n, .int .i64 e, .int .i64 now] [Tx P T] (fun v H => ∃ T', v = .int .i64 0 ∧ H = [Tx P T'] ∧ Rp T' (s.setC n (some (c.renew e))).val) := by
  have hst2 := state_does P s T n now c k hc
  rw [hst] at hst2
  have hg := getCapAt_does P s T n c k hc
  have hid := capAt_lt hc
  have hsz := k.ok.size
  have hok := k.ok.cp n c hc
  have hex := hok.expiry
  have hrm : ∀ {T' : List Ent}, T'.length ≤ T.length + 6 → P.room T' := fun h => k.room room h
  have hK1 : Does Tryz.prog 35 [.int .i64 5, .int .i64 c.expiry, .int .i64 n] [] (fun v H => v = .int .u64 (kyN 5 c.expiry n : Nat) ∧ H = []) := leKey_does 5 c.expiry n (by omega) hex (by omega)
  have hK2 : Does Tryz.prog 35 [.int .i64 5, .int .i64 e, .int .i64 n] [] (fun v H => v = .int .u64 (kyN 5 e n : Nat) ∧ H = []) := leKey_does 5 e n (by omega) he (by omega)
  have hK3 : Does Tryz.prog 35 [.int .i64 1, .int .i64 0, .int .i64 n] [] (fun v H => v = .int .u64 (kyN 1 0 n : Nat) ∧ H = []) := leKey_does 1 0 n (by omega) (by omega) (by omega)
  have hval := renew_val hc e
  obtain ⟨c', hc'⟩ : ∃ c', c' = c.renew e := ⟨_, rfl⟩
  have hok' : c'.ok n := hc' ▸ renew_ok hok he
  have hcp : Does Tryz.prog 37 [.agg #[.int .i64 n, .int .i64 c.parent, .int .i64 c.object, .int .i64 c.owner, .int .i64 c.rights, .int .i64 c.badge, .int .i64 c.depth, .int .i64 e, .int .i64 c.cut, .bool c.rev]] [] (fun v H => v = .tuple #[.string (str c'.text), .int .i64 0] ∧ H = []) := by
    have := putCap_does n c' hok'
    rw [show cpA n c' = #[.int .i64 n, .int .i64 c.parent, .int .i64 c.object, .int .i64 c.owner, .int .i64 c.rights, .int .i64 c.badge, .int .i64 c.depth, .int .i64 e, .int .i64 c.cut, .bool c.rev] by rw [hc']; rfl] at this
    exact this
  rw [← hc'] at hval ⊢
  obtain ⟨T1, h1⟩ : ∃ T1, T1 = if 0 < c.expiry then delE T (kyN 5 c.expiry n) else T := ⟨_, rfl⟩
  have r1 : Rp T1 (Vals.updIf s.val (0 < c.expiry) 5 c.expiry n none) ∧ T1.length ≤ T.length := by
    by_cases q : 0 < c.expiry
    · rw [h1, if_pos q, Vals.updIf_t q]; exact ⟨k.rp.del (by omega) hex (by omega), delE_len _ _⟩
    · rw [h1, if_neg q, Vals.updIf_f q]; exact ⟨k.rp, Nat.le_refl _⟩
  obtain ⟨T2, h2⟩ : ∃ T2, T2 = if 0 < e then putE T1 (kyN 5 e n) [] else T1 := ⟨_, rfl⟩
  have r2 : Rp T2 ((Vals.updIf s.val (0 < c.expiry) 5 c.expiry n none).updIf (0 < e) 5 e n (some [])) ∧ T2.length ≤ T.length + 1 := by
    by_cases q : 0 < e
    · rw [h2, if_pos q, Vals.updIf_t q]; exact ⟨r1.1.put (by omega) he (by omega) [], putE_le r1.1 _ _ r1.2⟩
    · rw [h2, if_neg q, Vals.updIf_f q]; exact ⟨r1.1, Nat.le_succ_of_le r1.2⟩
  have hD := tDelete_does P T (kyN 5 c.expiry n) (hrm (by omega))
  have hP2 := putEmpty_does P T1 (kyN 5 e n) (kyN_lt (by omega) he (by omega)) (hrm (by omega))
  have hP3 := tPut_does P T2 (kyN 1 0 n) c'.text (kyN_lt (by omega) (by omega) (by omega)) (by rw [Cp.text_len]; omega) (hrm (by omega))
  have r3 := r2.1.put (k := 1) (a := 0) (b := n) (by omega) (by omega) (by omega) c'.text
  obtain ⟨T3, h3⟩ : ∃ T3, T3 = putE T2 (kyN 1 0 n) c'.text := ⟨_, rfl⟩
  rw [← h3] at hP3 r3
  have hE := tErr_does P T3
  by_cases q1 : 0 < c.expiry <;> by_cases q2 : 0 < e
  all_goals simp only [q1, q2, if_true, if_false] at h1 h2
  · rw [← h1] at hD
    rw [← h2] at hP2
    refine does_of Tryz.func12 Tryz.ntmps12 rfl rfl rfl (fun w0 F0 => ?_)
    (repeat' (first | refine g_seq (h := ?_) | refine g_region (h := ?_) | refine l_nil (h := ?_) | refine n_then (h := ?_) | refine l_pures1 (h := ?_) | (refine l_atc ?_; refine l_call (hst2) ?_) | (refine l_atc ?_; refine l_call (hg) ?_) | (refine l_atc ?_; refine l_call (hK1) ?_) | (refine l_atc ?_; refine l_call (hK2) ?_) | (refine l_atc ?_; refine l_call (hK3) ?_) | (refine l_atc ?_; refine l_call (hD) ?_) | (refine l_atc ?_; refine l_call (hP2) ?_) | (refine l_atc ?_; refine l_call (hcp) ?_) | (refine l_atc ?_; refine l_call (hP3) ?_) | (refine l_atc ?_; refine l_call (hE) ?_) | refine l_guard_yes (h := ?_) | refine l_load (h := ?_) | refine l_store (h := ?_) | (refine l_alloc (h := ?_); intro _) | refine g_skip (h := ?_) | refine g_ret (h := ?_) | refine g_cond_f (h := ?_) | (refine l_spT (h := ?_); intro h) | (refine l_spF (h := ?_); intro h) | (refine g_spT (h := ?_); intro h) | (refine g_spF (h := ?_); intro h)))
    refine r_retk [Tx P T3] ?_
    exact ⟨T3, rfl, rfl, r3.to fun k a b _ _ _ => hval k a b⟩
  · rw [← h1] at hD
    subst h2
    refine does_of Tryz.func12 Tryz.ntmps12 rfl rfl rfl (fun w0 F0 => ?_)
    (repeat' (first | refine g_seq (h := ?_) | refine g_region (h := ?_) | refine l_nil (h := ?_) | refine n_then (h := ?_) | refine l_pures1 (h := ?_) | (refine l_atc ?_; refine l_call (hst2) ?_) | (refine l_atc ?_; refine l_call (hg) ?_) | (refine l_atc ?_; refine l_call (hK1) ?_) | (refine l_atc ?_; refine l_call (hK3) ?_) | (refine l_atc ?_; refine l_call (hD) ?_) | (refine l_atc ?_; refine l_call (hcp) ?_) | (refine l_atc ?_; refine l_call (hP3) ?_) | (refine l_atc ?_; refine l_call (hE) ?_) | refine l_guard_no (h := ?_) | refine l_guard_un (h := ?_) | refine l_load (h := ?_) | refine l_store (h := ?_) | (refine l_alloc (h := ?_); intro _) | refine g_skip (h := ?_) | refine g_ret (h := ?_) | refine g_cond_f (h := ?_) | (refine l_spF (h := ?_); intro h) | (refine g_spT (h := ?_); intro h) | (refine g_spF (h := ?_); intro h)))
    refine r_retk [Tx P T3] ?_
    exact ⟨T3, rfl, rfl, r3.to fun k a b _ _ _ => hval k a b⟩
  · subst h1
    rw [← h2] at hP2
    refine does_of Tryz.func12 Tryz.ntmps12 rfl rfl rfl (fun w0 F0 => ?_)
    (repeat' (first | refine g_seq (h := ?_) | refine g_region (h := ?_) | refine l_nil (h := ?_) | refine n_then (h := ?_) | refine l_pures1 (h := ?_) | (refine l_atc ?_; refine l_call (hst2) ?_) | (refine l_atc ?_; refine l_call (hg) ?_) | (refine l_atc ?_; refine l_call (hK2) ?_) | (refine l_atc ?_; refine l_call (hK3) ?_) | (refine l_atc ?_; refine l_call (hP2) ?_) | (refine l_atc ?_; refine l_call (hcp) ?_) | (refine l_atc ?_; refine l_call (hP3) ?_) | (refine l_atc ?_; refine l_call (hE) ?_) | refine l_guard_yes (h := ?_) | refine l_load (h := ?_) | refine l_store (h := ?_) | (refine l_alloc (h := ?_); intro _) | refine g_skip (h := ?_) | refine g_ret (h := ?_) | refine g_cond_f (h := ?_) | (refine l_spT (h := ?_); intro h) | (refine l_spF (h := ?_); intro h) | (refine g_spT (h := ?_); intro h) | (refine g_spF (h := ?_); intro h)))
    refine r_retk [Tx P T3] ?_
    exact ⟨T3, rfl, rfl, r3.to fun k a b _ _ _ => hval k a b⟩
  · subst h1
    subst h2
    refine does_of Tryz.func12 Tryz.ntmps12 rfl rfl rfl (fun w0 F0 => ?_)
    (repeat' (first | refine g_seq (h := ?_) | refine g_region (h := ?_) | refine l_nil (h := ?_) | refine n_then (h := ?_) | refine l_pures1 (h := ?_) | (refine l_atc ?_; refine l_call (hst2) ?_) | (refine l_atc ?_; refine l_call (hg) ?_) | (refine l_atc ?_; refine l_call (hK3) ?_) | (refine l_atc ?_; refine l_call (hcp) ?_) | (refine l_atc ?_; refine l_call (hP3) ?_) | (refine l_atc ?_; refine l_call (hE) ?_) | refine l_guard_no (h := ?_) | refine l_guard_un (h := ?_) | refine l_load (h := ?_) | refine l_store (h := ?_) | (refine l_alloc (h := ?_); intro _) | refine g_skip (h := ?_) | refine g_ret (h := ?_) | refine g_cond_f (h := ?_) | (refine l_spF (h := ?_); intro h) | (refine g_spF (h := ?_); intro h)))
    refine r_retk [Tx P T3] ?_
    exact ⟨T3, rfl, rfl, r3.to fun k a b _ _ _ => hval k a b⟩
theorem renewErr_does (P : TxP) (s : CS) (T : List Ent) (k : CtI P s T) (n : Nat) (e now : Int) (c : Cp) (hc : s.capAt n = some c) (hst : ¬ s.state n now = 0) :
    Does Tryz.prog 12 [.pointer (some ⟨P.t, 0, none⟩), .int .i64 n, .int .i64 e, .int .i64 now] [Tx P T] (fun v H => v = .int .i64 (s.state n now) ∧ H = [Tx P T]) := by
  have hst2 := state_does P s T n now c k hc
  refine does_of Tryz.func12 Tryz.ntmps12 rfl rfl rfl (fun w0 F0 => ?_)
  (repeat' (first | refine g_seq (h := ?_) | refine g_region (h := ?_) | refine l_nil (h := ?_) | refine n_then (h := ?_) | refine l_pures1 (h := ?_) | (refine l_atc ?_; refine l_call (hst2) ?_) | refine g_ret (h := ?_) | refine n_then_ret (h := ?_) | (refine g_spT (h := ?_); intro h)))
  refine r_retk [Tx P T] ?_
  exact ⟨rfl, rfl⟩
theorem renewArg_does (P : TxP) (s : CS) (T : List Ent) (k : CtI P s T) (n : Nat) (e now : Int) (c : Cp) (hc : s.capAt n = some c) (hst : s.state n now = 0) (he : ¬ e = 0) (hen : e ≤ now) :
    Does Tryz.prog 12 [.pointer (some ⟨P.t, 0, none⟩), .int .i64 n, .int .i64 e, .int .i64 now] [Tx P T] (fun v H => v = .int .i64 1 ∧ H = [Tx P T]) := by
  have hst2 := state_does P s T n now c k hc
  rw [hst] at hst2
  refine does_of Tryz.func12 Tryz.ntmps12 rfl rfl rfl (fun w0 F0 => ?_)
  (repeat' (first | refine g_seq (h := ?_) | refine g_region (h := ?_) | refine l_nil (h := ?_) | refine n_then (h := ?_) | refine l_pures1 (h := ?_) | (refine l_atc ?_; refine l_call (hst2) ?_) | refine l_guard_yes (h := ?_) | refine l_guard_no (h := ?_) | refine g_skip (h := ?_) | refine g_ret (h := ?_) | refine n_then_ret (h := ?_) | refine g_cond_t (h := ?_) | refine g_cond_f (h := ?_) | (refine l_spT (h := ?_); intro h)))
  refine r_retk [Tx P T] ?_
  exact ⟨rfl, rfl⟩
theorem setC_ok {s : CS} (ok : s.ok) {n : Nat} {c c' : Cp} (hc : s.capAt n = some c) (h' : c'.ok n) (hp : c'.parent = c.parent) (hd : c'.depth = c.depth) : (s.setC n (some c')).ok where
  ow := ok.ow
  cp := fun m x hx => by
    rw [setC_cap (capAt_lt hc)] at hx
    split at hx
    · rename_i q; cases hx; rw [q]; exact h'
    · exact ok.cp m x hx
  par := fun m x hx hne => by
    rw [setC_cap (capAt_lt hc)] at hx
    have key : ∀ y, s.capAt m = some y → y.parent = x.parent → y.depth = x.depth → ∃ p, (s.setC n (some c')).capAt x.parent = some p ∧ x.depth = p.depth + 1 := fun y hy e1 e2 => by
      obtain ⟨p, h1, h2⟩ := ok.par m y hy (by rw [e1]; exact hne)
      rw [e1] at h1
      rw [setC_cap (capAt_lt hc)]
      by_cases q : x.parent = n
      · rw [if_pos q]
        rw [q, hc] at h1
        cases h1
        exact ⟨c', rfl, by rw [hd, ← e2]; exact h2⟩
      · rw [if_neg q]; exact ⟨p, h1, by rw [← e2]; exact h2⟩
    split at hx
    · rename_i q
      cases hx
      exact key c (by rw [q]; exact hc) hp.symm hd.symm
    · exact key x hx rfl rfl
  size := ⟨by simp [CS.setC]; exact ok.size.1, ok.size.2⟩
theorem cRenew_does (P : TxP) (s : CS) (room : roomC P s) (n e now : Nat) (c : Cp) (hc : s.capAt n = some c) (hst : s.state n now = 0) (he : e ≤ 268435455) (hen : e = 0 ∨ now < e) (hnow : now < 1000000000) :
    Does Tryz.prog 12 [.pointer (some ⟨P.t, 0, none⟩), .int .i64 n, .int .i64 e, .int .i64 now] [Ct P s] (fun v H => v = .int .i64 0 ∧ H = [Ct P (s.setC n (some (c.renew e)))]) :=
  ct_of fun T k => (renew_does P s T k room n e now c hc hst he hen hnow).mono fun v H ⟨T', h1, h2, h3⟩ => ⟨T', h1, h2, h3, setC_ok k.ok hc (renew_ok (k.ok.cp n c hc) he) rfl rfl⟩
end Go.Proofs.YthmdianikbimfaaGreat
set_option maxRecDepth 20000
namespace Go.Proofs.YthmdianikbimfaaGreat
open Go.Proofs.YthmdianikbimfaaGreat.SL
def kClk : Nat := kyN 9 0 4
theorem kClk_lt : kClk < 18446744073709551616 := by decide
theorem lkeyC_does : Does Tryz.prog 35 [.int .i64 9, .int .i64 0, .int .i64 4] [] (fun v H => v = .int .u64 (kClk : Nat) ∧ H = []) := by
  have hk : Does Tryz.prog 65 [.int .i64 9, .int .i64 0, .int .i64 4] [] (fun v H => v = .tuple #[.int .u64 (kClk : Nat), .bool true] ∧ H = []) := Key_does 9 0 4 (by omega) (by omega) (by omega)
  refine does_of Tryz.func35 Tryz.ntmps35 rfl rfl rfl (fun w0 F0 => ?_)
  (repeat' (first | refine g_seq (h := ?_) | refine g_region (h := ?_) | refine l_nil (h := ?_) | refine n_then (h := ?_) | refine l_pures1 (h := ?_) | (refine l_atc ?_; refine l_call (hk) ?_) | refine g_ret (h := ?_)))
  refine r_ret ?_
  exact ⟨rfl, rfl⟩
def Clk (T : List Ent) (now : Nat) : Prop := (T = [] ∧ now = 0) ∨ T = [(kClk, putN now 4)]
theorem Clk.put {T : List Ent} {now m : Nat} (h : Clk T now) : Clk (putE T kClk (putN m 4)) m := by
  rcases h with ⟨rfl, _⟩ | rfl <;> exact .inr (by simp [putE])
theorem Clk.len {T : List Ent} {now : Nat} (h : Clk T now) : T.length ≤ 1 := by
  rcases h with ⟨rfl, _⟩ | rfl <;> simp
theorem take4 {now : Nat} (hn : now ≤ 268435455) : numTake (putN now 4) 4 = (now, [], 0) := by
  have hl := putN_length 4 now
  rw [numTake, if_neg (by omega), if_neg (by omega)]
  have e : (4 : Int).toNat = 4 := rfl
  rw [e, List.take_of_length_le (by omega), List.drop_of_length_le (by omega), getN_putN _ _ (by omega)]
theorem clock_does (P : TxP) (T : List Ent) (now : Nat) (h : Clk T now) (hn : now ≤ 268435455) : Does Tryz.prog 18 [.pointer (some ⟨P.t, 0, none⟩)] [Tx P T] (fun v H => v = .tuple #[.int .i64 now, .int .i64 0] ∧ H = [Tx P T]) := by
  have hg := tGet_does P T kClk
  have he := tErr_does P T
  rcases h with ⟨rfl, rfl⟩ | rfl
  · refine does_of Tryz.func18 Tryz.ntmps18 rfl rfl rfl (fun w0 F0 => ?_)
    (repeat' (first | refine g_seq (h := ?_) | refine g_region (h := ?_) | refine l_nil (h := ?_) | refine n_then (h := ?_) | refine l_pures1 (h := ?_) | (refine l_atc ?_; refine l_call (lkeyC_does) ?_) | (refine l_atc ?_; refine l_call (hg) ?_) | (refine l_atc ?_; refine l_call (he) ?_) | refine g_ret (h := ?_) | refine n_then_ret (h := ?_) | refine g_cond_t (h := ?_)))
    refine r_ret ?_
    exact ⟨rfl, rfl⟩
  · have h1 : getE [(kClk, putN now 4)] kClk = some (putN now 4) := by simp [getE]
    rw [h1] at hg
    have hg : Does Tryz.prog 42 [.pointer (some ⟨P.t, 0, none⟩), .int .u64 kClk] [Tx P [(kClk, putN now 4)]] (fun v H => v = .tuple #[.string (str (putN now 4)), .bool true] ∧ H = [Tx P [(kClk, putN now 4)]]) := hg
    have ew : IntKind.i64.wrap (now : Int) = now := wrapI64 (by omega)
    have ht := Take_does (putN now 4) 4 (by omega) (by rw [putN_length]; omega)
    rw [take4 hn] at ht
    refine does_of Tryz.func18 Tryz.ntmps18 rfl rfl rfl (fun w0 F0 => ?_)
    (repeat' (first | refine g_seq (h := ?_) | refine g_region (h := ?_) | refine l_nil (h := ?_) | refine n_then (h := ?_) | refine l_pures1 (h := ?_) | (refine l_atc ?_; refine l_call (lkeyC_does) ?_) | (refine l_atc ?_; refine l_call (hg) ?_) | (refine l_atc ?_; refine l_call (ht) ?_) | refine l_guard_yes (h := ?_) | refine g_skip (h := ?_) | refine g_ret (h := ?_) | refine g_cond_f (h := ?_) | (refine g_spF (h := ?_); intro h)))
    refine r_ret ?_
    rw [ew]
    exact ⟨rfl, rfl⟩
theorem tickEnd_does (P : TxP) (T : List Ent) (now : Nat) (h : Clk T now) (hn : now ≤ 268435455) (n : Int) (h1 : 0 ≤ n) (h2 : 268435455 - (now : Int) < n) : Does Tryz.prog 19 [.pointer (some ⟨P.t, 0, none⟩), .int .i64 n] [Tx P T] (fun v H => v = .tuple #[.int .i64 0, .int .i64 12] ∧ H = [Tx P T]) := by
  have he := tErr_does P T
  have hc := clock_does P T now h hn
  have ew : IntKind.i64.wrap (268435455 - (now : Int)) = 268435455 - (now : Int) := wrapI64 (by omega)
  refine does_of Tryz.func19 Tryz.ntmps19 rfl rfl rfl (fun w0 F0 => ?_)
  (repeat' (first | refine g_seq (h := ?_) | refine g_region (h := ?_) | refine l_nil (h := ?_) | refine n_then (h := ?_) | refine l_pures1 (h := ?_) | (refine l_atc ?_; refine l_call (he) ?_) | (refine l_atc ?_; refine l_call (hc) ?_) | refine g_skip (h := ?_) | refine g_ret (h := ?_) | refine n_then_ret (h := ?_) | refine n_block_ret (h := ?_) | refine g_block (h := ?_) | refine g_cond_f (h := ?_) | (refine g_spT (h := ?_); intro h) | (refine g_spF (h := ?_); intro h)))
  refine r_ret ?_
  exact ⟨rfl, rfl⟩
theorem tick_does (P : TxP) (T : List Ent) (now m : Nat) (h : Clk T now) (room : P.room T) (hn : now + m ≤ 268435455) : Does Tryz.prog 19 [.pointer (some ⟨P.t, 0, none⟩), .int .i64 m] [Tx P T] (fun v H => v = .tuple #[.int .i64 (now + m : Nat), .int .i64 0] ∧ H = [Tx P (putE T kClk (putN (now + m) 4))]) := by
  have he := tErr_does P T
  have hc := clock_does P T now h (by omega)
  have hput := tPut_does P T kClk (putN (now + m) 4) kClk_lt (by rw [putN_length]; omega) room
  have hnp := Put_does (now + m) 4 (by omega) (by omega)
  have hnp2 : numPut (now + m) 4 = (putN (now + m) 4, 0) := by rw [numPut, if_neg (by omega), if_pos (by simp; omega)]; rfl
  rw [hnp2] at hnp
  have ew : IntKind.i64.wrap (268435455 - (now : Int)) = 268435455 - (now : Int) := wrapI64 (by omega)
  have ew2 : IntKind.i64.wrap ((now : Int) + (m : Int)) = ((now + m : Nat) : Int) := by rw [wrapI64 (by omega)]; omega
  have ew3 : IntKind.u64.wrap ((now + m : Nat) : Int) = ((now + m : Nat) : Int) := wrapU64 (by omega)
  refine does_of Tryz.func19 Tryz.ntmps19 rfl rfl rfl (fun w0 F0 => ?_)
  (repeat (first | refine g_seq (h := ?_) | refine g_region (h := ?_) | refine l_nil (h := ?_) | refine n_then (h := ?_) | refine l_pures1 (h := ?_) | (refine l_atc ?_; refine l_call (he) ?_) | refine g_skip (h := ?_) | refine g_cond_f (h := ?_)))
  (repeat' (first | refine g_seq (h := ?_) | refine g_region (h := ?_) | refine l_nil (h := ?_) | refine n_then (h := ?_) | refine l_pures1 (h := ?_) | (refine l_atc ?_; refine l_call (hc) ?_) | refine g_skip (h := ?_) | refine g_block (h := ?_) | refine n_block (h := ?_) | refine g_cond_f (h := ?_) | (refine g_spF (h := ?_); intro h)))
  rw [ew2, ew3]
  (repeat' (first | refine g_seq (h := ?_) | refine g_region (h := ?_) | refine l_nil (h := ?_) | refine n_then (h := ?_) | refine l_pures1 (h := ?_) | (refine l_atc ?_; refine l_call (lkeyC_does) ?_) | (refine l_atc ?_; refine l_call (hput) ?_) | (refine l_atc ?_; refine l_call (hnp) ?_) | refine g_skip (h := ?_) | refine g_ret (h := ?_) | refine g_cond_f (h := ?_)))
  refine r_ret ?_
  rw [ew2]
  exact ⟨rfl, rfl⟩
theorem examples16_does : Does Tryz.prog 7 [] [] (fun v H => v = .bool true ∧ H = []) := by
  have hr : ∀ t sb db, (TxP.new t sb db 640).room [] := fun t sb db => by show 0 + 2 * 0 + 25 < 640; omega
  have h0 : Clk [] 0 := .inl ⟨rfl, rfl⟩
  refine does_of Tryz.func7 Tryz.ntmps7 rfl rfl rfl (fun w0 F0 => ?_)
  (repeat (first | refine g_seq (h := ?_) | refine g_region (h := ?_) | refine l_nil (h := ?_) | refine n_then (h := ?_) | refine l_pures1 (h := ?_) | (refine l_atc ?_; refine l_call_ (made16_does) ?_; rintro _ _ _ ⟨t, db, sb, rfl, rfl⟩ he; cases he) | refine g_skip (h := ?_) | refine g_cond_f (h := ?_)))
  have hc : Does Tryz.prog 18 [.pointer (some ⟨t, 0, none⟩)] [Tx (TxP.new t sb db 640) []] (fun v H => v = .tuple #[.int .i64 0, .int .i64 0] ∧ H = [Tx (TxP.new t sb db 640) []]) := clock_does (TxP.new t sb db 640) [] 0 h0 (by omega)
  have h1 : Clk (putE [] kClk (putN (0 + 5) 4)) (0 + 5) := h0.put
  obtain ⟨T1, hT1⟩ : ∃ T1, T1 = putE [] kClk (putN (0 + 5) 4) := ⟨_, rfl⟩
  rw [← hT1] at h1
  have ht1 : Does Tryz.prog 19 [.pointer (some ⟨t, 0, none⟩), .int .i64 5] [Tx (TxP.new t sb db 640) []] (fun v H => v = .tuple #[.int .i64 5, .int .i64 0] ∧ H = [Tx (TxP.new t sb db 640) T1]) := by
    rw [hT1]
    exact tick_does (TxP.new t sb db 640) [] 0 5 h0 (hr _ _ _) (by omega)
  have ht2 : Does Tryz.prog 19 [.pointer (some ⟨t, 0, none⟩), .int .i64 268435455] [Tx (TxP.new t sb db 640) T1] (fun v H => v = .tuple #[.int .i64 0, .int .i64 12] ∧ H = [Tx (TxP.new t sb db 640) T1]) := tickEnd_does (TxP.new t sb db 640) T1 (0 + 5) h1 (by omega) 268435455 (by omega) (by omega)
  (repeat' (first | refine g_seq (h := ?_) | refine g_region (h := ?_) | refine l_nil (h := ?_) | refine n_then (h := ?_) | refine l_pures1 (h := ?_) | (refine l_atc ?_; refine l_call (hc) ?_) | (refine l_atc ?_; refine l_call (ht1) ?_) | (refine l_atc ?_; refine l_call (ht2) ?_) | refine l_guard_yes (h := ?_) | refine g_ret (h := ?_)))
  refine r_retk [] ?_
  exact ⟨rfl, rfl⟩
end Go.Proofs.YthmdianikbimfaaGreat
