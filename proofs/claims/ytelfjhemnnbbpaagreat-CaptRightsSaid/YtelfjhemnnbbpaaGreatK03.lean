/- Texts SlM, SlN, SlO, joined. -/
import Derived.Lib.Builder
import Derived.RangeFuncRecord
import Derived.OrdersIn
import Derived.TacticsIn
import Derived.Test.YtelfjhemnnbbpaaGreatK02
set_option linter.unusedVariables false
set_option linter.unusedSimpArgs false
namespace Go.Proofs.YtelfjhemnnbbpaaGreat.SL
theorem cutL_of : ∀ {l : List Value} {i m : Nat}, i + m ≤ l.length → cutL l i m = some ((l.drop i).take m)
 | _, 0, 0, _ => by simp [cutL]
 | [], 0, m + 1, h => absurd h (by rw [List.length_nil]; omega)
 | x :: l, 0, m + 1, h => by
  have := cutL_of (l := l) (i := 0) (m := m) (by simpa using h)
  simp [cutL, this]
 | [], i + 1, m, h => by simp at h
 | x :: l, i + 1, m, h => by
  have := cutL_of (l := l) (i := i) (m := m) (by simp at h; omega)
  simp [cutL, this]
theorem cutL_app {l r c : List Value} {o s : Nat} (h : cutL l o s = some c) : cutL (l ++ r) o s = some c := by
 obtain ⟨rfl, hl⟩ := cutL_spec h
 rw [cutL_of (by simp; omega), List.drop_append_of_le_length (by omega), List.take_append_of_le_length (by simp; omega)]
theorem partV_app {E : Env} {t : Nat} {l r : List Value} {o : Nat} {v : Value} (h : partV E t l o = some v) : partV E t (l ++ r) o = some v := by
 unfold partV at h ⊢
 split at h
 ·cases h
 ·rename_i d hd
  cases ha : isAggTy d with
  | true =>
   rw [ha] at h
   simp only [cond_true] at h ⊢
   split at h
   ·rename_i z s b hi
    split at h
    ·rename_i q hq
     rw [cutL_app hq]; exact h
    ·cases h
   ·cases h
  | false =>
   rw [ha] at h
   simp only [cond_false] at h ⊢
   rw [nth_eq] at h ⊢
   rw [List.getElem?_append_left (List.getElem?_eq_some_iff.1 h).1]; exact h
theorem partV_one {E : Env} {t : Nat} {l : List Value} {o : Nat} {v : Value} {dd : TypeDesc} (hu : look E.ty t = some dd) (ha : isAggTy dd = false) (hv : l[o]? = some v) : partV E t l o = some v := by
 unfold partV; rw [hu]; simp only [ha, cond_false]; rw [nth_eq]; exact hv
section
variable {P : Program} {E : Env} {n : Nat} {w0 : World} {F0 : Nat → Prop} {Q : Exit → Act → World → Prop} {tm : List (Nat × Value)} {D : List Deferred} {H H' : List SProp} {ops rest : List Oper}
variable {ty : TypeId} {pos : String} {after : Array Edge}
theorem vec_ptr {e sz m cap : Nat} {p : Option Addr} {xs : List Value} {w : World} (t : Take (vec e sz p m cap xs) H H') (hm : 0 < m) (i : Inv w0 F0 H w) : ∃ g, p = some ⟨g, 0, none⟩ ∧ m ≤ cap := by
 obtain ⟨⟨F, ⟨_, _, ⟨_, hv⟩, _⟩, _⟩, _⟩ := i.take t
 rcases hv with ⟨_, h, _⟩ | ⟨g, _, h, h2, _⟩
 ·omega
 ·exact ⟨g, h, h2⟩
theorem g_ptr {e sz m cap : Nat} {p : Option Addr} {xs : List Value} {c : Code} (t : Take (vec e sz p m cap xs) H H' := by with_reducible (repeat (first | refine Take.here | apply Take.there))) (hm : 0 < m := by omega) (h : ∀ g, p = some ⟨g, 0, none⟩ → m ≤ cap → G P n w0 F0 c Q tm D H) : G P n w0 F0 c Q tm D H := .mk fun a w s => by
 obtain ⟨g, hg, hc⟩ := vec_ptr t hm s.inv
 exact h g hg hc a w s
theorem l_ptr {e sz m cap : Nat} {p : Option Addr} {xs : List Value} {l : List Oper} {ops : Array Oper} (t : Take (vec e sz p m cap xs) H H' := by with_reducible (repeat (first | refine Take.here | apply Take.there))) (hm : 0 < m := by omega) (h : ∀ g, p = some ⟨g, 0, none⟩ → m ≤ cap → L P n w0 F0 ops l Q tm D H) : L P n w0 F0 ops l Q tm D H := .mk fun a w s => by
 obtain ⟨g, hg, hc⟩ := vec_ptr t hm s.inv
 exact h g hg hc a w s
theorem vec_le {e sz m cap : Nat} {p : Option Addr} {xs : List Value} {w : World} (t : Take (vec e sz p m cap xs) H H') (i : Inv w0 F0 H w) : m ≤ cap ∧ xs.length = m * sz := by
 obtain ⟨⟨F, ⟨_, _, ⟨h, hv⟩, _⟩, _⟩, _⟩ := i.take t
 rcases hv with ⟨_, h1, h2, _⟩ | ⟨g, _, _, h2, _⟩
 ·omega
 ·exact ⟨h2, h⟩
theorem does_le {f : FuncId} {args : List Value} {e sz m cap : Nat} {p : Option Addr} {xs : List Value} {q : Value → List SProp → Prop} (t : Take (vec e sz p m cap xs) H H') (h : m ≤ cap → xs.length = m * sz → Does P f args H q) : Does P f args H q := fun w F s => by
 obtain ⟨h1, h2⟩ := vec_le t (Inv.start s)
 exact h h1 h2 w F s
theorem vec_cells {e sz m cap b : Nat} {xs : List Value} {w : World} (i : Inv w0 F0 (vec e sz (some ⟨b, 0, none⟩) m cap xs :: H) w) : ∃ rest fr, (∀ o, o < (xs ++ rest).length → ¬ (fr.1 ≤ o ∧ o < fr.2)) ∧ w.heap[b]? = some (.cells (xs ++ rest).toArray e fr) ∧ m ≤ cap ∧ cap ≤ maxLen ∧ xs.length = m * sz ∧ (xs ++ rest).length = cap * sz := by
 obtain ⟨⟨F, ⟨_, _, ⟨hx, hv⟩, _⟩, _⟩, _⟩ := i
 rcases hv with ⟨h, _⟩ | ⟨g, rest, h, h1, h2, h3, ⟨⟨fr, q, hw⟩, _⟩⟩
 ·cases h
 ·simp only [Option.some.injEq, Addr.mk.injEq, and_true, true_and] at h
  subst h
  exact ⟨rest, fr, q, hw, h1, h2, hx, h3⟩
theorem l_load_vec {d t b off e sz m cap : Nat} {x : Operand} {xs : List Value} {v : Value} (k : EnvOk P E := by refine inferInstance) (hd : Nat.blt d n = true := by refine rfl) (hx : ev tm x = some (.pointer (some ⟨b, off, none⟩)) := by refine rfl)
  (ht : Take (vec e sz (some ⟨b, 0, none⟩) m cap xs) H H' := by with_reducible (repeat (first | refine Take.here | apply Take.there))) (hv : partV E t xs off = some v := by first | refine partV_one rfl rfl (by first | assumption | refine bsV_get (by first | omega | (simp; omega))) | assumption) (h : L P n w0 F0 ops.toArray rest Q ((d, v) :: tm) D H) :
  L P n w0 F0 ops.toArray (⟨some d, .load t x, ty, pos, after, none⟩ :: rest) Q tm D H := by
 refine .mk fun a w s => ?_
 obtain ⟨rs, fr, _, hw, _⟩ := vec_cells (s.inv.take ht)
 refine wpList_value rfl (v := v) (w' := w) ?_ (h _ _ (s.put hd v))
 simp [execOp, ev_sound s.tm hx, run_loadAt k hw (partV_app hv)]
theorem a_load_vec {Hs Hs' : List SProp} {listed : Array Bool} {ll : List Bool} {i d t b off e sz m cap : Nat} {x : Operand} {xs : List Value} {v : Value} (k : EnvOk P E := by refine inferInstance) (hs : noSel ops = true := by refine rfl) (hi : nextLoad ops 0 listed = some i := by refine rfl)
  (ho : nth ops i = some ⟨some d, .load t x, ty, pos, after, none⟩ := by refine rfl) (hd : Nat.blt d n = true := by refine rfl) (hx : ev tm x = some (.pointer (some ⟨b, off, none⟩)) := by refine rfl) (ht : Take (vec e sz (some ⟨b, 0, none⟩) m cap xs) Hs Hs' := by with_reducible (repeat (first | refine Take.here | apply Take.there))) (hv : partV E t xs off = some v := by first | refine partV_one rfl rfl (by first | assumption | refine bsV_get (by first | omega | (simp; omega))) | assumption)
  (hf : freeL ops.toArray i ⟨some d, .load t x, ty, pos, after, none⟩ listed ops 0 = true := by refine rfl) (hl : listed.getD i true = false := by refine rfl) (hr : rdyB after.toList listed = true := by refine rfl) (hn : copyB (listed.setIfInBounds i true).toList = some ll := by refine rfl) (hc : Calm Q := by with_reducible (repeat (first | assumption | refine calm_post | refine calm_postM | refine calm_round | apply calm_then | apply calm_block | apply calm_scope)))
  (h : A P n w0 F0 ops Hs ll.toArray Q ((d, v) :: tm) D H) : A P n w0 F0 ops Hs listed Q tm D H :=
 a_take (v := v) hd ho (fun c a w => hc c a w _ _) hs hf hl hr (fun a w htm ⟨F, s⟩ => by
  obtain ⟨rs, fr, _, hw, _⟩ := vec_cells (Inv.start (ht.sep s))
  simp [execOp, ev_sound htm hx, run_loadAt k hw (partV_app hv)]) (by rw [copyB_arr hn]; exact h)
theorem a_loadg_vec {Hs Hs' : List SProp} {listed : Array Bool} {ll : List Bool} {i d j ts t b off e sz m cap : Nat} {want : Bool} {x : Operand} {xs : List Value} {v : Value} (k : EnvOk P E := by refine inferInstance) (hs : noSel ops = true := by refine rfl) (hi : nextR ops 0 listed = some i := by refine rfl)
  (ho : nth ops i = some ⟨some d, .load t x, ty, pos, after, some (j, want)⟩ := by refine rfl) (hd : Nat.blt d n = true := by refine rfl) (hst : slotOf ops j = some ts := by refine rfl) (htb : tget tm ts = some (.bool want) := by refine rfl) (hb : Nat.blt ts n = true := by refine rfl) (hx : ev tm x = some (.pointer (some ⟨b, off, none⟩)) := by refine rfl) (ht : Take (vec e sz (some ⟨b, 0, none⟩) m cap xs) Hs Hs' := by with_reducible (repeat (first | refine Take.here | apply Take.there))) (hv : partV E t xs off = some v := by first | refine partV_one rfl rfl (by first | assumption | refine bsV_get (by first | omega | (simp; omega))) | assumption)
  (hf : freeL ops.toArray i ⟨some d, .load t x, ty, pos, after, some (j, want)⟩ listed ops 0 = true := by refine rfl) (hl : listed.getD i true = false := by refine rfl) (hr : rdyB after.toList listed = true := by refine rfl) (hn : copyB (listed.setIfInBounds i true).toList = some ll := by refine rfl) (hc : Calm Q := by with_reducible (repeat (first | assumption | refine calm_post | refine calm_postM | refine calm_round | apply calm_then | apply calm_block | apply calm_scope)))
  (h : A P n w0 F0 ops Hs ll.toArray Q ((d, v) :: tm) D H) : A P n w0 F0 ops Hs listed Q tm D H :=
 a_yh (v := v) hc hs ho hd hst htb hb hf hl hr (fun a w htm ⟨F, s⟩ => by
  obtain ⟨rs, fr, _, hw, _⟩ := vec_cells (Inv.start (ht.sep s))
  simp [execOp, ev_sound htm hx, run_loadAt k hw (partV_app hv)]) (by rw [copyB_arr hn]; exact h)
theorem l_store_vec {t b off e m cap : Nat} {x y : Operand} {xs : List Value} {v z : Value} {bys : Nat} (k : EnvOk P E := by refine inferInstance) (hx : ev tm x = some (.pointer (some ⟨b, off, none⟩)) := by refine rfl) (hy : ev tm y = some v := by refine rfl)
  (hs : look E.inf t = some (z, 1, bys) := by refine rfl) (hc : cellsV v = some [v] := by refine rfl) (ht : Take (vec e 1 (some ⟨b, 0, none⟩) m cap xs) H H' := by with_reducible (repeat (first | refine Take.here | apply Take.there))) (hl : off < xs.length := by first | omega | (simp only [List.length_map, List.length_replicate, List.length_append, List.length_set, List.length_cons, List.length_nil, bsV] at *; omega))
  (h : L P n w0 F0 ops.toArray rest Q tm D (vec e 1 (some ⟨b, 0, none⟩) m cap (xs.set off v) :: H')) : L P n w0 F0 ops.toArray (⟨none, .store t x y, ty, pos, after, none⟩ :: rest) Q tm D H := by
 have hm : ∀ {w}, Inv w0 F0 H w → 0 < m := fun i => by
  obtain ⟨rs, fr, _, _, _, _, h1, _⟩ := vec_cells (i.take ht)
  omega
 refine .mk fun a w s => ?_
 have hm' := hm s.inv
 refine l_open (vec_opens hm') ht ?_ a w s
 rintro ⟨g, rs⟩ ⟨h1, h2, h3, h4, h5⟩
 simp only [Option.some.injEq, Addr.mk.injEq, and_true, true_and] at h1
 subst h1
 refine l_store_at k hx hy hs hc Take.here (by simp; omega) ?_
 rw [List.set_append_left _ _ hl]
 exact l_shut (vec_shuts h2 h3 (by simpa using h4) (by simpa using h5)) (Parts.cons Take.here Parts.nil) h
structure A1 (P : Program) (n : Nat) (w0 : World) (F0 : Nat → Prop) (ops : List Oper) (Hs : List SProp) (listed : Array Bool) (i : Nat) (Q : Exit → Act → World → Prop) (tm : List (Nat × Value)) (D : List Deferred) (H : List SProp) : Prop where
 h : ∀ m, unl listed ≤ m + 1 → ∀ a w, St n w0 F0 tm D H a w → wpOp P ops.toArray Q i (fun a' w' => (∃ F, sep Hs w'.heap F) ∧ wpAnyH P .any ops.toArray Q (fun w => ∃ F, sep Hs w.heap F) m (listed.setIfInBounds i true) a' w') a w
theorem a1_of {Hs : List SProp} {listed : Array Bool} {i : Nat} {d : Option Nat} {op : Op} {g : Option (Nat × Bool)} (ho : nth ops i = some ⟨d, op, ty, pos, after, g⟩ := by refine rfl) (hl : listed.getD i true = false := by refine rfl)
  (h : L P n w0 F0 ops.toArray [⟨d, op, ty, pos, after, g⟩] (Exit.then (fun a w => (∃ F, sep Hs w.heap F) ∧ ∀ fuel, unl (listed.setIfInBounds i true) ≤ fuel → wpAnyH P .any ops.toArray Q (fun w => ∃ F, sep Hs w.heap F) fuel (listed.setIfInBounds i true) a w) Q) tm D H) :
  A1 P n w0 F0 ops Hs listed i Q tm D H := by
 refine .mk fun m hfu a w s => ?_
 have hu := unl_set hl
 have hi : ops.toArray[i]? = some ⟨d, op, ty, pos, after, g⟩ := by rw [nth_eq] at ho; simpa using ho
 have h1 := h a w s
 unfold wpList at h1
 unfold wpOp
 simp only [hi]
 split
 ·rename_i hw
  rw [if_pos hw] at h1
  rcases h1 with h1 | ⟨h1, h2⟩
  ·refine .inl (wp_mono2 ?_ ?_ h1)
   ·intro a' w' h'
    exact ⟨h'.1, h'.2 m (by omega)⟩
   ·intro e a' w' he hq
    cases e <;> first | exact absurd rfl he | exact hq
  ·exact .inr ⟨h1, by obtain ⟨a', w', q⟩ := h2; exact ⟨a', w', q⟩⟩
 ·rename_i hw
  rw [if_neg hw] at h1
  exact ⟨h1.1, h1.2 m (by omega)⟩
theorem a_fork {Hs : List SProp} {listed : Array Bool} {is : List Nat} (hr : comes listed ops 0 = is) (hl : 0 < unl listed) (hne : is ≠ [] → Region.ready .any ops.toArray listed ≠ []) (h0 : is ≠ []) (h : ∀ i ∈ is, A1 P n w0 F0 ops Hs listed i Q tm D H) : A P n w0 F0 ops Hs listed Q tm D H := by
 refine .mk fun fuel hfu a w s hS => ?_
 obtain ⟨m, rfl⟩ : ∃ m, fuel = m + 1 := ⟨fuel - 1, by omega⟩
 refine ⟨fun h1 => absurd h1 (hne h0), fun j hj => ?_⟩
 have hj' := ready_comes hj
 rw [hr] at hj'
 exact (h j hj').h m hfu a w s
theorem ready_of {listed : Array Bool} {i : Nat} {d : Option Nat} {op : Op} {g : Option (Nat × Bool)} (ho : nth ops i = some ⟨d, op, ty, pos, after, g⟩) (hl : listed.getD i true = false) (hrd : rdyB after.toList listed = true) : 0 < unl listed ∧ Region.ready .any ops.toArray listed ≠ [] := by
 have hi : ops.toArray[i]? = some ⟨d, op, ty, pos, after, g⟩ := by rw [nth_eq] at ho; simpa using ho
 have hmem : i ∈ Region.ready .any ops.toArray listed := mem_ready.2 ⟨hl, _, hi, rdyB_iff.1 hrd⟩
 exact ⟨by have := unl_set hl; omega, fun h => by rw [h] at hmem; cases hmem⟩
theorem a_fork2 {Hs : List SProp} {listed : Array Bool} {i j : Nat} {d : Option Nat} {op : Op} {g : Option (Nat × Bool)} (hr : comes listed ops 0 = [i, j] := by refine rfl) (ho : nth ops i = some ⟨d, op, ty, pos, after, g⟩ := by refine rfl) (hl : listed.getD i true = false := by refine rfl) (hrd : rdyB after.toList listed = true := by refine rfl)
  (h1 : A1 P n w0 F0 ops Hs listed i Q tm D H) (h2 : A1 P n w0 F0 ops Hs listed j Q tm D H) : A P n w0 F0 ops Hs listed Q tm D H :=
 a_fork hr (ready_of ho hl hrd).1 (fun _ => (ready_of ho hl hrd).2) (by simp) (fun k hk => by simp only [List.mem_cons, List.not_mem_nil, or_false] at hk; rcases hk with rfl | rfl <;> assumption)
theorem a_fork3 {Hs : List SProp} {listed : Array Bool} {i j k : Nat} {d : Option Nat} {op : Op} {g : Option (Nat × Bool)} (hr : comes listed ops 0 = [i, j, k] := by refine rfl) (ho : nth ops i = some ⟨d, op, ty, pos, after, g⟩ := by refine rfl) (hl : listed.getD i true = false := by refine rfl) (hrd : rdyB after.toList listed = true := by refine rfl)
  (h1 : A1 P n w0 F0 ops Hs listed i Q tm D H) (h2 : A1 P n w0 F0 ops Hs listed j Q tm D H) (h3 : A1 P n w0 F0 ops Hs listed k Q tm D H) : A P n w0 F0 ops Hs listed Q tm D H :=
 a_fork hr (ready_of ho hl hrd).1 (fun _ => (ready_of ho hl hrd).2) (by simp) (fun k hk => by simp only [List.mem_cons, List.not_mem_nil, or_false] at hk; rcases hk with rfl | rfl | rfl <;> assumption)
structure Outer (P : Program) (f : FuncId) (e : Array Value → Sem Value) : Prop where
 run : ∀ (args : Array Value) (w : World), (callFunc f args).run P w = ((e args).run P w).andThen fun v w' => .ok (.value v) w'
theorem run_call_v {f : Operand} {g : FuncId} {xs : Array Operand} {ts : Array TypeId} {vs : List Value} {d : Option Nat} {a : Act} {w w' : World} {v : Value} {e : Array Value → Sem Value} (c : Outer P g e) (ht : Tm n tm a)
  (hf : ev tm f = some (.func (.func g) #[] #[])) (hx : evs tm xs.toList = some vs) (hr : (e vs.toArray).run P w = .ok v w') :
  (execOp a.eval ⟨d, .call ⟨.value f, xs, ts⟩, ty, pos, after, none⟩).run P w = .ok (.value v) w' := by
 have e1 : xs.map a.eval = vs.toArray := by apply Array.ext'; simpa using evs_sound ht hx
 simp only [execOp, resolve, ev_sound ht hf, e1, Deferred.ofValue, invoke, Sem.run_bind, Sem.run_pure, Result.andThen, Array.empty_append, Array.append_empty]
 rw [c.run, hr]
 rfl
theorem l_outer_same {d : Nat} {f : Operand} {g : FuncId} {xs : Array Operand} {ts : Array TypeId} {v : Value} (c : Outer P g Extern.AbiNoEscape.same) (hd : Nat.blt d n = true := by refine rfl) (hf : ev tm f = some (.func (.func g) #[] #[]) := by refine rfl) (hx : evs tm xs.toList = some [v] := by refine rfl)
  (h : L P n w0 F0 ops.toArray rest Q ((d, v) :: tm) D H) : L P n w0 F0 ops.toArray (⟨some d, .call ⟨.value f, xs, ts⟩, ty, pos, after, none⟩ :: rest) Q tm D H := .mk fun a w s =>
 wpList_value rfl (v := v) (w' := w) (run_call_v c s.tm hf hx rfl) (h _ _ (s.put hd v))
theorem l_append_str {d t u e by' m cap : Nat} {s x : Operand} {p : Option Addr} {z : Value} {xs : List Value} {l : List UInt8} (ke : EnvOk P E := by refine inferInstance) (hd : Nat.blt d n = true := by refine rfl) (hs : ev tm s = some (.slice p m cap) := by refine rfl) (hx : ev tm x = some (.string ⟨⟨l⟩⟩) := by refine rfl)
  (ht : look E.ty t = some (.slice e) := by refine rfl) (hu : look E.ty u = some .string := by refine rfl) (he : look E.inf e = some (z, 1, by') := by refine rfl) (hz : Nat.beq z.cells.size 1 = true := by refine rfl) (tv : Take (vec e 1 p m cap xs) H H' := by with_reducible (repeat (first | refine Take.here | apply Take.there)))
  (hfit : m + l.length ≤ 9223372036854775807 ∧ (m + l.length) * by' ≤ 140737488355328 := by first | assumption | omega | (refine ⟨?_, ?_⟩ <;> omega) | (simp only [List.length_cons, List.length_nil, str] at *; omega) | (simp only [List.length_append] at *; omega) | (simp only [List.length_take, List.length_drop, List.length_cons, List.length_nil]; omega)) (h : ∀ p' cap', L P n w0 F0 ops.toArray rest Q ((d, .slice p' (m + l.length) cap') :: tm) D (vec e 1 p' (m + l.length) cap' (xs ++ bsV l) :: H')) :
  L P n w0 F0 ops.toArray (⟨some d, .call { callee := .builtin .append, args := #[s, x], argTypes := #[t, u] }, ty, pos, after, none⟩ :: rest) Q tm D H := by
 refine .mk fun a w st => ?_
 have i := st.inv.take tv
 have hf : ∀ w, (Builtin.firstCells 1 l.length (.string ⟨⟨l⟩⟩)).run P w = .ok (bsV l).toArray w := fun w => by
  simp only [Builtin.firstCells, Sem.run_pure]
  have : (ByteArray.mk ⟨l⟩).extract 0 l.length = ⟨⟨l⟩⟩ := by
   apply ByteArray.ext; rw [ByteArray.data_extract]; apply Array.ext'; simp
  rw [this]
  congr 1
  apply Array.ext'
  simp [bsV]
 obtain ⟨p', cap', w', hr, hi'⟩ := append_core (ty := ty) (t := t) (u := u) (k := l.length) (x := .string ⟨⟨l⟩⟩) (news := bsV l) ke ht hu (.inl rfl) he (Nat.eq_of_beq_eq_true hz) i rfl (hf w) (hf w.drew) (by simp [bsV]) (by simp [bsV, Value.oneCell']) hfit
 refine wpList_value rfl (v := .slice p' (m + l.length) cap') (w' := w') ?_ (h p' cap' _ _ ⟨st.tm.put hd _, st.defers, hi'⟩)
 simp only [execOp, resolve, invoke, builtin, Sem.run_bind, Sem.run_pure, Result.andThen_ok, List.map_toArray, List.map_cons, List.map_nil, ev_sound st.tm hs, ev_sound st.tm hx, hr]
def Src (R : List SProp) (v : Value) (xs : List Value) : Prop :=
 ∃ p m cap, v = .slice p m cap ∧ xs.length = m ∧ (m = 0 ∨ (∃ g off row T R', p = some ⟨g, off, none⟩ ∧ Take (cl g T row) R R' ∧ (row.drop off).take m = xs) ∨
  ∃ q off row T m' c' R', p = q.map (·.add off) ∧ Take (vec T 1 q m' c' row) R R' ∧ (row.drop off).take m = xs)
theorem Src.cons {R : List SProp} {A : SProp} {v : Value} {xs : List Value} : Src R v xs → Src (A :: R) v xs
 | ⟨p, m, cap, e, h, .inl h0⟩ => ⟨p, m, cap, e, h, .inl h0⟩
 | ⟨p, m, cap, e, h, .inr (.inl ⟨g, off, row, T, R', h1, h2, h3⟩)⟩ => ⟨p, m, cap, e, h, .inr (.inl ⟨g, off, row, T, A :: R', h1, .there h2, h3⟩)⟩
 | ⟨p, m, cap, e, h, .inr (.inr ⟨q, off, row, T, m', c', R', h1, h2, h3⟩)⟩ => ⟨p, m, cap, e, h, .inr (.inr ⟨q, off, row, T, m', c', A :: R', h1, .there h2, h3⟩)⟩
def sliceP (p : Option Addr) (lo sz cap : Nat) : Option Addr := if cap = lo then p else p.map (·.add (lo * sz))
theorem addr_add0 (p : Option Addr) : p.map (·.add 0) = p := by
 cases p with
 | none => rfl
 | some a => simp [Addr.add]
theorem src_none (R : List SProp) : Src R (.slice none 0 0) [] := ⟨none, 0, 0, rfl, rfl, .inl rfl⟩
theorem src_cl {R R' : List SProp} {g m c : Nat} {T : TypeId} {row : List Value} (h : Take (cl g T row) R R') (hl : row.length = m) : Src R (.slice (some ⟨g, 0, none⟩) m c) row :=
 ⟨_, _, _, rfl, hl, .inr (.inl ⟨g, 0, row, T, R', rfl, h, by simp [← hl]⟩)⟩
theorem src_vec {R R' : List SProp} {p : Option Addr} {m c : Nat} {T : TypeId} {row : List Value} (h : Take (vec T 1 p m c row) R R') (hl : row.length = m) : Src R (.slice p m c) row :=
 ⟨_, _, _, rfl, hl, .inr (.inr ⟨p, 0, row, T, m, c, R', (addr_add0 p).symm, h, by simp [← hl]⟩)⟩
theorem src_cut {R R' : List SProp} {p : Option Addr} {m c lo hi : Nat} {T : TypeId} {row : List Value} (h : Take (vec T 1 p m c row) R R') (hl : row.length = m) (h1 : lo ≤ hi) (h2 : hi ≤ m) (hc : m ≤ c) : Src R (.slice (sliceP p lo 1 c) (hi - lo) (c - lo)) ((row.drop lo).take (hi - lo)) := by
 refine ⟨_, _, _, rfl, by simp; omega, ?_⟩
 rcases Nat.eq_zero_or_pos (hi - lo) with h0 | h0
 ·exact .inl h0
 ·refine .inr (.inr ⟨p, lo, row, T, m, c, R', ?_, h, rfl⟩)
  rw [sliceP, if_neg (by omega), Nat.mul_one]
theorem l_slice_any {d t e len cap sz by' : Nat} {p : Option Addr} {x : Operand} {lo hi : Option Operand} {jl jh : Int} {z : Value} (k : EnvOk P E := by refine inferInstance) (hd : Nat.blt d n = true := by refine rfl) (hx : ev tm x = some (.slice p len cap) := by refine rfl) (ht : look E.ty t = some (.slice e) := by refine rfl) (he : look E.inf e = some (z, sz, by') := by refine rfl)
  (h1 : evO tm 0 lo = some jl := by refine rfl) (h2 : evO tm len hi = some jh := by refine rfl) (hb : 0 ≤ jl ∧ jl ≤ jh ∧ jh ≤ cap := by first | assumption | omega | (refine ⟨?_, ?_⟩ <;> omega) | (simp only [List.length_cons, List.length_nil, str] at *; omega) | (simp only [List.length_append] at *; omega) | (simp only [List.length_take, List.length_drop, List.length_cons, List.length_nil]; omega)) (hl : len ≤ cap := by first | assumption | omega | (refine ⟨?_, ?_⟩ <;> omega) | (simp only [List.length_cons, List.length_nil, str] at *; omega) | (simp only [List.length_append] at *; omega) | (simp only [List.length_take, List.length_drop, List.length_cons, List.length_nil]; omega)) (h : L P n w0 F0 ops.toArray rest Q ((d, .slice (sliceP p jl.toNat sz cap) (jh.toNat - jl.toNat) (cap - jl.toNat)) :: tm) D H) :
  L P n w0 F0 ops.toArray (⟨some d, .slice t x lo hi none, ty, pos, after, none⟩ :: rest) Q tm D H := by
 refine .mk fun a w s => ?_
 refine wpList_value rfl (v := .slice (sliceP p jl.toNat sz cap) (jh.toNat - jl.toNat) (cap - jl.toNat)) (w' := w) ?_ (h _ _ (s.put hd _))
 have hr := run_bounds (P := P) (isS := true) (w := w) s.tm h1 h2 hb hl
 simp only [execOp, ev_sound s.tm hx, Option.map_none, Instr.sliceAt, Instr.slice, Sem.run_bind, run_underlying (k.under ht), Result.andThen, hr, Sem.run_pure, run_size k he, sliceP]
theorem v_slice_any {t e len cap sz by' : Nat} {p : Option Addr} {x : Operand} {lo hi : Option Operand} {jl jh : Int} {z : Value} (k : EnvOk P E := by refine inferInstance) (hx : ev tm x = some (.slice p len cap) := by refine rfl) (ht : look E.ty t = some (.slice e) := by refine rfl) (he : look E.inf e = some (z, sz, by') := by refine rfl)
  (h1 : evO tm 0 lo = some jl := by refine rfl) (h2 : evO tm len hi = some jh := by refine rfl) (hb : 0 ≤ jl ∧ jl ≤ jh ∧ jh ≤ cap := by first | assumption | omega | (refine ⟨?_, ?_⟩ <;> omega) | (simp only [List.length_cons, List.length_nil, str] at *; omega) | (simp only [List.length_append] at *; omega) | (simp only [List.length_take, List.length_drop, List.length_cons, List.length_nil]; omega)) (hl : len ≤ cap := by first | assumption | omega | (refine ⟨?_, ?_⟩ <;> omega) | (simp only [List.length_cons, List.length_nil, str] at *; omega) | (simp only [List.length_append] at *; omega) | (simp only [List.length_take, List.length_drop, List.length_cons, List.length_nil]; omega)) : V P n tm (.slice t x lo hi none) (.slice (sliceP p jl.toNat sz cap) (jh.toNat - jl.toNat) (cap - jl.toNat)) := by
 intro a dst ty pos after w htm
 have hr := run_bounds (P := P) (isS := true) (w := w) htm h1 h2 hb hl
 simp only [execOp, ev_sound htm hx, Option.map_none, Instr.sliceAt, Instr.slice, Sem.run_bind, run_underlying (k.under ht), Result.andThen, hr, Sem.run_pure, run_size k he, sliceP]
theorem l_append_src {d t e by' m cap k c : Nat} {s x : Operand} {p q : Option Addr} {z : Value} {xs news : List Value} (ke : EnvOk P E := by refine inferInstance) (hd : Nat.blt d n = true := by refine rfl) (hs : ev tm s = some (.slice p m cap) := by refine rfl) (hx : ev tm x = some (.slice q k c) := by refine rfl)
  (ht : look E.ty t = some (.slice e) := by refine rfl) (he : look E.inf e = some (z, 1, by') := by refine rfl) (hz : Nat.beq z.cells.size 1 = true := by refine rfl) (tv : Take (vec e 1 p m cap xs) H H' := by with_reducible (repeat (first | refine Take.here | apply Take.there))) (hsrc : Src H' (.slice q k c) news) (h1 : news.all (·.oneCell') = true := by first | assumption | (intro u hu; simp at hu; simp [hu, Value.oneCell']))
  (hfit : m + k ≤ 9223372036854775807 ∧ (m + k) * by' ≤ 140737488355328 := by first | assumption | omega | (refine ⟨?_, ?_⟩ <;> omega) | (simp only [List.length_cons, List.length_nil, str] at *; omega) | (simp only [List.length_append] at *; omega) | (simp only [List.length_take, List.length_drop, List.length_cons, List.length_nil]; omega)) (h : ∀ p' cap', L P n w0 F0 ops.toArray rest Q ((d, .slice p' (m + k) cap') :: tm) D (vec e 1 p' (m + k) cap' (xs ++ news) :: H')) :
  L P n w0 F0 ops.toArray (⟨some d, .call { callee := .builtin .append, args := #[s, x], argTypes := #[t, t] }, ty, pos, after, none⟩ :: rest) Q tm D H := by
 refine .mk fun a w st => ?_
 have i := st.inv.take tv
 obtain ⟨_, _, _, hq, hk, hsrc⟩ := hsrc
 cases hq
 have hf : (Builtin.firstCells 1 k (.slice q k c)).run P w = .ok news.toArray w ∧ (Builtin.firstCells 1 k (.slice q k c)).run P w.drew = .ok news.toArray w.drew := by
  have main : ∀ (g off : Nat) (row : List Value) (rs : List Value) (T : TypeId) (fr : Nat × Nat), q = some ⟨g, off, none⟩ → w.heap[g]? = some (.cells (row ++ rs).toArray T fr) → (row.drop off).take k = news →
    (Builtin.firstCells 1 k (.slice q k c)).run P w = .ok news.toArray w ∧ (Builtin.firstCells 1 k (.slice q k c)).run P w.drew = .ok news.toArray w.drew := by
   rintro g off row rs T fr rfl hw hrow
   have hcell : ∀ j u, news[j]? = some u → w.cell? ((⟨g, off, none⟩ : Addr).add j) = some u := by
    intro j u hu
    have hj : j < k := by have := (List.getElem?_eq_some_iff.1 hu).1; omega
    rw [← hrow, List.getElem?_take_of_lt hj, List.getElem?_drop] at hu
    have : (⟨g, off, none⟩ : Addr).add j = ⟨g, off + j, none⟩ := by unfold Addr.add; split <;> simp_all
    rw [this, cell_at hw]
    rw [List.getElem?_toArray, List.getElem?_append_left (List.getElem?_eq_some_iff.1 hu).1]
    exact hu
   exact ⟨run_firstCells_some (P := P) w 1 k ⟨g, off, none⟩ k c news (by omega) hcell, run_firstCells_some (P := P) w.drew 1 k ⟨g, off, none⟩ k c news (by omega) (by simpa using hcell)⟩
  rcases hsrc with rfl | ⟨g, off, row, T, R', rfl, tk, hrow⟩ | ⟨q', off, row, T, m', c', R', rfl, tk, hrow⟩
  ·obtain rfl := List.eq_nil_of_length_eq_zero hk
   cases q <;> simp [Builtin.firstCells, loadCells, loadCellsFrom]
  ·obtain ⟨fr, _, hw⟩ := Inv.cell ((i.parts (Parts.cons (Take.there tk) Parts.nil) : Inv w0 F0 (cl g T row :: _) w))
   exact main g off row [] T fr rfl (by simpa using hw) hrow
  ·have i2 := (i.parts (Parts.cons (Take.there tk) Parts.nil) : Inv w0 F0 (vec T 1 q' m' c' row :: _) w)
   rcases Nat.eq_zero_or_pos k with rfl | hk0
   ·obtain rfl := List.eq_nil_of_length_eq_zero hk
    cases q' <;> simp [Builtin.firstCells, loadCells, loadCellsFrom]
   ·have hr : 0 < row.length := by
     have := congrArg List.length hrow
     rw [List.length_take, List.length_drop] at this
     omega
    have hm := vec_len i2
    obtain ⟨g, rfl, _⟩ := vec_ptr Take.here (by omega) i2
    obtain ⟨rs, fr, _, hw, _⟩ := vec_cells i2
    exact main g off row rs T fr (by simp [Addr.add]; omega) hw hrow
 obtain ⟨p', cap', w', hr, hi'⟩ := append_core (ty := ty) (t := t) (u := t) (k := k) (x := .slice q k c) (news := news) ke ht ht (.inr ⟨_, rfl⟩) he (Nat.eq_of_beq_eq_true hz) i (by simp [Builtin.lenOf]) hf.1 hf.2 (by omega) h1 hfit
 refine wpList_value rfl (v := .slice p' (m + k) cap') (w' := w') ?_ (h p' cap' _ _ ⟨st.tm.put hd _, st.defers, hi'⟩)
 simp only [execOp, resolve, invoke, builtin, Sem.run_bind, Sem.run_pure, Result.andThen_ok, List.map_toArray, List.map_cons, List.map_nil, ev_sound st.tm hs, ev_sound st.tm hx, hr]
theorem freeze_inv {e sz m cap g k : Nat} {xs : List Value} {w : World} (i : Inv w0 F0 (vec e sz (some ⟨g, 0, none⟩) m cap xs :: H) w) : Inv w0 F0 H (w.freeze ⟨g, 0, none⟩ k) := by
 obtain ⟨rs, fr, _, hw, _⟩ := vec_cells i
 have := Inv.turn (K := [vec e sz (some ⟨g, 0, none⟩) m cap xs]) (K' := []) (w' := w.freeze ⟨g, 0, none⟩ k) i ?_
 ·exact this
 ·rintro F ⟨F1, F2, ⟨_, hv⟩, s2, _, u⟩
  have hg : F g := by
   rcases hv with ⟨h, _⟩ | ⟨g', _, h, _, _, _, ⟨_, f⟩⟩
   ·cases h
   ·simp only [Option.some.injEq, Addr.mk.injEq, and_true, true_and] at h
    subst h
    exact (u g).2 (.inl ((f g).2 rfl))
  unfold World.freeze
  split
  ·exact ⟨⟨fun _ => False, fun _ h => h, fun _ _ _ h => h⟩, fun _ _ _ => rfl, Nat.le_refl _, rfl, rfl, rfl⟩
  ·refine ⟨⟨fun _ => False, fun _ h => h, fun _ _ _ h => h⟩, fun b _ hb => ?_, by simp, rfl, rfl, rfl⟩
   have : g ≠ b := fun q => hb (q ▸ hg)
   simp [Array.getElem?_modify, this]
theorem l_sliceData {d t m cap g : Nat} {x : Operand} (hd : Nat.blt d n = true := by refine rfl) (hx : ev tm x = some (.slice (some ⟨g, 0, none⟩) m cap) := by refine rfl) (hc : 0 < cap := by first | assumption | omega | (refine ⟨?_, ?_⟩ <;> omega) | (simp only [List.length_cons, List.length_nil, str] at *; omega) | (simp only [List.length_append] at *; omega) | (simp only [List.length_take, List.length_drop, List.length_cons, List.length_nil]; omega)) (h : L P n w0 F0 ops.toArray rest Q ((d, .pointer (some ⟨g, 0, none⟩)) :: tm) D H) :
  L P n w0 F0 ops.toArray (⟨some d, .call { callee := .builtin .unsafeSliceData, args := #[x], argTypes := #[t] }, ty, pos, after, none⟩ :: rest) Q tm D H := .mk fun a w s => by
 refine wpList_value rfl (v := .pointer (some ⟨g, 0, none⟩)) (w' := w) ?_ (h _ _ (s.put hd _))
 have hr : (Builtin.unsafeSliceData_ #[t] ty #[.slice (some ⟨g, 0, none⟩) m cap]).run P w = .ok (.pointer (some ⟨g, 0, none⟩)) w := by
  exact Lib.run_unsafeSliceData_row _ _ _ _ _ _ (by omega)
 simp only [execOp, resolve, invoke, builtin, Sem.run_bind, Sem.run_pure, Result.andThen_ok, List.map_toArray, List.map_cons, List.map_nil, ev_sound s.tm hx, hr]
theorem v_sliceData {t m cap g : Nat} {x : Operand} (hx : ev tm x = some (.slice (some ⟨g, 0, none⟩) m cap) := by refine rfl) (hc : 0 < cap := by first | assumption | omega | (refine ⟨?_, ?_⟩ <;> omega) | (simp only [List.length_cons, List.length_nil, str] at *; omega) | (simp only [List.length_append] at *; omega) | (simp only [List.length_take, List.length_drop, List.length_cons, List.length_nil]; omega)) : V P n tm (.call { callee := .builtin .unsafeSliceData, args := #[x], argTypes := #[t] }) (.pointer (some ⟨g, 0, none⟩)) := by
 intro a dst ty pos after w htm
 have hr : (Builtin.unsafeSliceData_ #[t] ty #[.slice (some ⟨g, 0, none⟩) m cap]).run P w = .ok (.pointer (some ⟨g, 0, none⟩)) w := by
  exact Lib.run_unsafeSliceData_row _ _ _ _ _ _ (by omega)
 simp only [execOp, resolve, invoke, builtin, Sem.run_bind, Sem.run_pure, Result.andThen_ok, List.map_toArray, List.map_cons, List.map_nil, ev_sound htm hx, hr]
theorem l_unsafeString {d t u e by' m cap g : Nat} {x y : Operand} {l : List UInt8} {z : Value} (ke : EnvOk P E := by refine inferInstance) (hd : Nat.blt d n = true := by refine rfl) (hx : ev tm x = some (.pointer (some ⟨g, 0, none⟩)) := by refine rfl) (hy : ev tm y = some (.int .i64 m) := by refine rfl) (ht : look E.ty t = some (.pointer e) := by refine rfl) (he : look E.inf e = some (z, 1, by') := by refine rfl)
  (tv : Take (vec e 1 (some ⟨g, 0, none⟩) m cap (bsV l)) H H' := by with_reducible (repeat (first | refine Take.here | apply Take.there))) (hm : l.length = m := by first | assumption | omega | (refine ⟨?_, ?_⟩ <;> omega) | (simp only [List.length_cons, List.length_nil, str] at *; omega) | (simp only [List.length_append] at *; omega) | (simp only [List.length_take, List.length_drop, List.length_cons, List.length_nil]; omega)) (h0 : 0 < m := by first | assumption | omega | (refine ⟨?_, ?_⟩ <;> omega) | (simp only [List.length_cons, List.length_nil, str] at *; omega) | (simp only [List.length_append] at *; omega) | (simp only [List.length_take, List.length_drop, List.length_cons, List.length_nil]; omega))
  (h : L P n w0 F0 ops.toArray rest Q ((d, .string (str l)) :: tm) D H') :
  L P n w0 F0 ops.toArray (⟨some d, .call { callee := .builtin .unsafeString, args := #[x, y], argTypes := #[t, u] }, ty, pos, after, none⟩ :: rest) Q tm D H := .mk fun a w s => by
 subst hm
 have i := s.inv.take tv
 obtain ⟨rs, fr, _, hw, h1, h2, h3, h4⟩ := vec_cells i
 have hr : (Builtin.unsafeString_ #[t, u] ty #[.pointer (some ⟨g, 0, none⟩), .int .i64 l.length]).run P w = .ok (.string ⟨l.toArray⟩) (w.freeze ⟨g, 0, none⟩ l.length) := by
  refine Lib.run_unsafeString_row w t u ty e (ke.under ht) ?_ g (bsV l ++ rs).length (by simp [World.shape?, hw]) l (by intro q; subst q; simp at h0) (by simp [bsV]) (by simp only [maxLen] at h2; omega) ?_
  ·obtain ⟨i, hi, _, hs, _⟩ := ke.info he
   unfold Program.cellsOf
   simp [hi, hs]
  ·intro j x hj
   have : (⟨g, 0, none⟩ : Addr).add j = ⟨g, j, none⟩ := by unfold Addr.add; split <;> simp_all
   rw [this, cell_at hw]
   obtain ⟨hlt, rfl⟩ := List.getElem?_eq_some_iff.1 hj
   simp [bsV, List.getElem?_append_left, hlt]
 refine wpList_value rfl (v := .string (str l)) (w' := w.freeze ⟨g, 0, none⟩ l.length) ?_ (h _ _ ⟨s.tm.put hd _, s.defers, freeze_inv i⟩)
 simp only [execOp, resolve, invoke, builtin, Sem.run_bind, Sem.run_pure, Result.andThen_ok, List.map_toArray, List.map_cons, List.map_nil, ev_sound s.tm hx, ev_sound s.tm hy, hr]
 rfl
theorem l_append_zeros {d t u e by' : Nat} {s x : Operand} {z : Value} {kk : IntKind} {k : Int} (ke : EnvOk P E := by refine inferInstance) (hd : Nat.blt d n = true := by refine rfl) (hs : ev tm s = some (.slice none 0 0) := by refine rfl) (hx : ev tm x = some (.int .i64 k) := by refine rfl)
  (ht : look E.ty t = some (.slice e) := by refine rfl) (hu : look E.ty u = some (.int kk) := by refine rfl) (he : look E.inf e = some (z, 1, by') := by refine rfl) (hz : z.cells.size = 1 := by refine rfl) (hk : 0 < k ∧ k ≤ 1000000000 ∧ k.toNat * by' ≤ 140737488355328 := by first | assumption | omega | (refine ⟨?_, ?_⟩ <;> omega) | (simp only [List.length_cons, List.length_nil, str] at *; omega) | (simp only [List.length_append] at *; omega) | (simp only [List.length_take, List.length_drop, List.length_cons, List.length_nil]; omega))
  (h : ∀ g cap', k.toNat ≤ cap' → L P n w0 F0 ops.toArray rest Q ((d, .slice (some ⟨g, 0, none⟩) k.toNat cap') :: tm) D (vec e 1 (some ⟨g, 0, none⟩) 0 cap' [] :: H)) :
  L P n w0 F0 ops.toArray (⟨some d, .call { callee := .builtin .append, args := #[s, x], argTypes := #[t, u] }, ty, pos, after, none⟩ :: rest) Q tm D H := .mk fun a w st => by
 obtain ⟨info, hi, hi1, hi2, hi3⟩ := ke.info he
 subst hi3
 obtain ⟨h0, h9, h48⟩ := hk
 have hu1 := ke.under ht
 have hu2 := ke.under hu
 have wk : IntKind.i64.wrap k = k := by rw [IntKind.wrap_i64]; omega
 have hkn : (k.toNat : Int) = k := by omega
 have hm : k.toNat ≠ 0 := by omega
 have h63' : ¬ (9223372036854775807 < (k.toNat : Int)) := by omega
 have h48a : ¬ (k * (info.bytes : Int) > 281474976710656) := by rw [← hkn, ← Int.natCast_mul]; omega
 have h48' : ¬ (281474976710656 < Builtin.nextslicecap k.toNat 0 * info.bytes) := by rw [nextslicecap_zero (by omega)]; omega
 have hr : (Builtin.append_ #[t, u] ty #[.slice none 0 0, .int .i64 k]).run P w = .ok (.slice (some ⟨w.heap.size, 0, none⟩) k.toNat (grownCap w k.toNat 0 e)) (w.drew.alloc (.cells (Builtin.zeroCells z.cells k.toNat ++ Builtin.zeroCells z.cells (grownCap w k.toNat 0 e - k.toNat)) e)) := by
  have hn0 : ¬ k < 0 := by omega
  have hn1 : ¬ k ≤ 0 := by omega
  have hn2 : ¬ 9223372036854775807 < max k 0 := by omega
  simp [Builtin.append_, run_underlying hu1, run_underlying hu2, sizeOf, typeInfo, zeroValue, hi, hi1, hi2, wk, hn0, hn1, hn2, h48a, hm, h63', h48', Question.forced, run_firstCells_none, newRow, grownCap, asInt, asIntOf]
 have hge := grownCap_ge w k.toNat 0 e
 have hcm : grownCap w k.toNat 0 e ≤ maxLen := grownCap_le_maxLen w k.toNat 0 e (by simp only [maxLen]; omega)
 refine wpList_value rfl (v := .slice (some ⟨w.heap.size, 0, none⟩) k.toNat (grownCap w k.toNat 0 e)) (w' := w.drew.alloc (.cells (Builtin.zeroCells z.cells k.toNat ++ Builtin.zeroCells z.cells (grownCap w k.toNat 0 e - k.toNat)) e)) ?_ (h w.heap.size _ hge _ _ ⟨st.tm.put hd _, st.defers, ?_⟩)
 ·simp only [execOp, resolve, invoke, builtin, Sem.run_bind, Sem.run_pure, Result.andThen_ok, List.map_toArray, List.map_cons, List.map_nil, ev_sound st.tm hs, ev_sound st.tm hx, hr]
 ·have := (st.inv.drew (w.drawn + 1)).new_cl e (Builtin.zeroCells z.cells k.toNat ++ Builtin.zeroCells z.cells (grownCap w k.toNat 0 e - k.toNat)).toList
  refine Inv.shut (vec_shuts (xs := []) (sz := 1) (Nat.zero_le _) hcm (by simp) ?_) (Parts.cons Take.here Parts.nil) this
  simp only [List.nil_append, Array.length_toList, Array.size_append, size_zeroCells, hz]
  omega
theorem l_to_unsafe {d src dst t b e s by' : Nat} {x : Operand} {off : Nat} {c : List Value} {z : Value} (ke : EnvOk P E := by refine inferInstance) (hd : Nat.blt d n = true := by refine rfl) (hx : ev tm x = some (.pointer (some ⟨b, off, none⟩)) := by refine rfl) (h1 : look E.ty src = some (.pointer t) := by refine rfl) (h2 : look E.ty dst = some .unsafePointer := by refine rfl)
  (hi : look E.inf t = some (z, s, by') := by refine rfl) (hs : Nat.beq s 0 = false := by refine rfl) (ht : Take (cl b e c) H H' := by with_reducible (repeat (first | refine Take.here | apply Take.there))) (hl : Nat.blt off c.length = true := by refine rfl) (h : L P n w0 F0 ops.toArray rest Q ((d, .pointer (some ⟨b, off, none⟩)) :: tm) D H) :
  L P n w0 F0 ops.toArray (⟨some d, .convert src dst x, ty, pos, after, none⟩ :: rest) Q tm D H := .mk fun a w st => by
 obtain ⟨fr, _, hw⟩ := (st.inv.take ht).cell
 obtain ⟨i, hi, _, hsz, _⟩ := ke.info hi
 refine wpList_value rfl (v := .pointer (some ⟨b, off, none⟩)) (w' := w) ?_ (h _ _ (st.put hd _))
 have := Lib.run_to_unsafe (P := P) (w := w) (cells := c.length) (e := e) ⟨b, off, none⟩ (ke.under h1) (ke.under h2) hi (by rw [hsz]; intro q; subst q; simp at hs) (by simp [World.shape?, hw]) (by simpa [Nat.blt_eq] using hl)
 simp only [execOp, ev_sound st.tm hx, Sem.run_bind, Sem.run_pure, Result.andThen, this]
theorem l_from_unsafe {d src dst t b e s by' : Nat} {x : Operand} {off : Nat} {c : List Value} {z : Value} (ke : EnvOk P E := by refine inferInstance) (hd : Nat.blt d n = true := by refine rfl) (hx : ev tm x = some (.pointer (some ⟨b, off, none⟩)) := by refine rfl) (h1 : look E.ty src = some .unsafePointer := by refine rfl) (h2 : look E.ty dst = some (.pointer t) := by refine rfl)
  (hi : look E.inf t = some (z, s, by') := by refine rfl) (ht : Take (cl b e c) H H' := by with_reducible (repeat (first | refine Take.here | apply Take.there))) (hl : liesAt P P.depth e (c.length / P.cellsOf e) off t 1 = true := by first | assumption | refine lies_builder) (h : L P n w0 F0 ops.toArray rest Q ((d, .pointer (some ⟨b, off, none⟩)) :: tm) D H) :
  L P n w0 F0 ops.toArray (⟨some d, .convert src dst x, ty, pos, after, none⟩ :: rest) Q tm D H := .mk fun a w st => by
 obtain ⟨fr, _, hw⟩ := (st.inv.take ht).cell
 obtain ⟨i, hi, _, hsz, _⟩ := ke.info hi
 refine wpList_value rfl (v := .pointer (some ⟨b, off, none⟩)) (w' := w) ?_ (h _ _ (st.put hd _))
 have := Lib.run_from_unsafe (P := P) (w := w) (cells := c.length) (e := e) ⟨b, off, none⟩ (ke.under h1) (ke.under h2) hi (by simp [World.shape?, hw]) hl
 simp only [execOp, ev_sound st.tm hx, Sem.run_bind, Sem.run_pure, Result.andThen, this]
theorem l_neq_same {d t te s by' : Nat} {x y : Operand} {p : Addr} {z : Value} {t2 : TypeId} (ke : EnvOk P E := by refine inferInstance) (hd : Nat.blt d n = true := by refine rfl) (hx : ev tm x = some (.pointer (some p)) := by refine rfl) (hy : ev tm y = some (.pointer (some p)) := by refine rfl) (h1 : look E.ty t = some (.pointer te) := by refine rfl) (hi : look E.inf te = some (z, s, by') := by refine rfl)
  (h : L P n w0 F0 ops.toArray rest Q ((d, .bool false) :: tm) D H) : L P n w0 F0 ops.toArray (⟨some d, .binOp .neq t x y t2, ty, pos, after, none⟩ :: rest) Q tm D H := .mk fun a w st => by
 obtain ⟨i, hi, _, hsz, _⟩ := ke.info hi
 refine wpList_value rfl (v := .bool false) (w' := w) ?_ (h _ _ (st.put hd _))
 have := Lib.run_neq_ptr_same (P := P) w p (ke.under h1) hi
 simp only [execOp, ev_sound st.tm hx, ev_sound st.tm hy, eqGuard_at_pointer, Sem.run_bind, Sem.run_pure, Result.andThen, this]
theorem l_buildSlice2 {d t e by' : Nat} {x1 x2 : Operand} {v1 v2 z : Value} (k : EnvOk P E := by refine inferInstance) (hd : Nat.blt d n = true := by refine rfl) (hx1 : ev tm x1 = some v1 := by refine rfl) (hx2 : ev tm x2 = some v2 := by refine rfl) (ht : look E.ty t = some (.slice e) := by refine rfl) (he : look E.inf e = some (z, 1, by') := by refine rfl)
  (hz : cellsV z = some [z] := by refine rfl) (hv1 : cellsV v1 = some [v1] := by refine rfl) (hv2 : cellsV v2 = some [v2] := by refine rfl) (h : ∀ b, L P n w0 F0 ops.toArray rest Q ((d, .slice (some ⟨b, 0, none⟩) 2 2) :: tm) D (cl b e [v1, v2] :: H)) :
  L P n w0 F0 ops.toArray (⟨some d, .buildSlice t 2 #[(0, x1), (1, x2)], ty, pos, after, none⟩ :: rest) Q tm D H := by
 refine .mk fun a w st => ?_
 have ez : z.cells = #[z] := by apply Array.ext'; simpa using (cellsV_spec hz).1
 have e1 : v1.cells = #[v1] := by apply Array.ext'; simpa using (cellsV_spec hv1).1
 have e2 : v2.cells = #[v2] := by apply Array.ext'; simpa using (cellsV_spec hv2).1
 refine wpList_value rfl (v := .slice (some ⟨w.heap.size, 0, none⟩) 2 2) (w' := { w with heap := w.heap.push (.cells [v1, v2].toArray e (0, 0)) }) ?_ (h w.heap.size _ _ ⟨st.tm.put hd _, st.defers, st.inv.new_cl _ _⟩)
 obtain ⟨info, hi, hi1, hi2, hi3⟩ := k.info he
 have hfill : Instr.fill (fun i => some (i * info.size, info.size)) ((Array.range (2 * info.size)).map (z.cells[· % z.cells.size]!)) [(0, v1), (1, v2)] = some [v1, v2].toArray := by
  rw [hi2, ez]
  simp [Instr.fill, e1, e2]
  apply Array.ext'
  simp only [Array.toList_setIfInBounds, Array.toList_map, Array.toList_range]
  rfl
 have hr := run_buildSlice w t e 2 #[(0, v1), (1, v2)] [v1, v2].toArray info z (k.under ht) hi hi1 (by omega) (by omega) hfill
 simp only [execOp, Sem.run_bind, List.map_toArray, List.map_cons, List.map_nil, ev_sound st.tm hx1, ev_sound st.tm hx2, hr, Result.andThen_ok, Sem.run_pure]
 rfl
theorem l_buildSlice3 {d t e by' : Nat} {x1 x2 x3 : Operand} {v1 v2 v3 z : Value} (k : EnvOk P E := by refine inferInstance) (hd : Nat.blt d n = true := by refine rfl) (hx1 : ev tm x1 = some v1 := by refine rfl) (hx2 : ev tm x2 = some v2 := by refine rfl) (hx3 : ev tm x3 = some v3 := by refine rfl) (ht : look E.ty t = some (.slice e) := by refine rfl) (he : look E.inf e = some (z, 1, by') := by refine rfl)
  (hz : cellsV z = some [z] := by refine rfl) (hv1 : cellsV v1 = some [v1] := by refine rfl) (hv2 : cellsV v2 = some [v2] := by refine rfl) (hv3 : cellsV v3 = some [v3] := by refine rfl) (h : ∀ b, L P n w0 F0 ops.toArray rest Q ((d, .slice (some ⟨b, 0, none⟩) 3 3) :: tm) D (cl b e [v1, v2, v3] :: H)) :
  L P n w0 F0 ops.toArray (⟨some d, .buildSlice t 3 #[(0, x1), (1, x2), (2, x3)], ty, pos, after, none⟩ :: rest) Q tm D H := by
 refine .mk fun a w st => ?_
 have ez : z.cells = #[z] := by apply Array.ext'; simpa using (cellsV_spec hz).1
 have e1 : v1.cells = #[v1] := by apply Array.ext'; simpa using (cellsV_spec hv1).1
 have e2 : v2.cells = #[v2] := by apply Array.ext'; simpa using (cellsV_spec hv2).1
 have e3 : v3.cells = #[v3] := by apply Array.ext'; simpa using (cellsV_spec hv3).1
 refine wpList_value rfl (v := .slice (some ⟨w.heap.size, 0, none⟩) 3 3) (w' := { w with heap := w.heap.push (.cells [v1, v2, v3].toArray e (0, 0)) }) ?_ (h w.heap.size _ _ ⟨st.tm.put hd _, st.defers, st.inv.new_cl _ _⟩)
 obtain ⟨info, hi, hi1, hi2, hi3⟩ := k.info he
 have hfill : Instr.fill (fun i => some (i * info.size, info.size)) ((Array.range (3 * info.size)).map (z.cells[· % z.cells.size]!)) [(0, v1), (1, v2), (2, v3)] = some [v1, v2, v3].toArray := by
  rw [hi2, ez]
  simp [Instr.fill, e1, e2, e3]
  apply Array.ext'
  simp only [Array.toList_setIfInBounds, Array.toList_map, Array.toList_range]
  rfl
 have hr := run_buildSlice w t e 3 #[(0, v1), (1, v2), (2, v3)] [v1, v2, v3].toArray info z (k.under ht) hi hi1 (by omega) (by omega) hfill
 simp only [execOp, Sem.run_bind, List.map_toArray, List.map_cons, List.map_nil, ev_sound st.tm hx1, ev_sound st.tm hx2, ev_sound st.tm hx3, hr, Result.andThen_ok, Sem.run_pure]
 rfl
end
end Go.Proofs.YtelfjhemnnbbpaaGreat.SL
namespace Go.Proofs.YtelfjhemnnbbpaaGreat.SL
def FR (r : Option Nat) : Fence := { Fence.wide with round := r }
theorem callsIn_FR {r : Option Nat} {n : Nat} {P : Program} {f : FuncId} {args : Array Value} {w : World} {R : Ending → World → Prop} (h : Calls P f args w R) : CallsIn (FR r) n P f args w R :=
 (callsIn_wide (n := n)).2 h
theorem rowsIn_FR {r : Option Nat} {n : Nat} {P : Program} {row : String} {args : Array Value} {w : World} {R : Value → World → Prop} (h : Rows P row args w R) : RowsIn (FR r) n P row args w R :=
 fun c cs _ => let ⟨v, w', r, s⟩ := h c cs; ⟨v, w', r, stepsIn_wide.2 s⟩
def isDf : Op → Bool
 | .defer _ => true
 | _ => false
def noDf : List Oper → Bool
 | [] => true
 | ⟨_, op, _, _, _, _⟩ :: l => !isDf op && noDf l
theorem oper_lift {P : Program} {r : Option Nat} {o : Oper} {a : Act} {w : World} {K : Act → World → Prop} {Q : Exit → Act → World → Prop} (hd : isDf o.op = false) (h : o.wp P a w K Q) : o.wpIn (FR r) 0 P a w K Q := by
 refine ⟨fun _ _ => trivial, ?_⟩
 rw [Oper.semAt_eq _ _ _ (fun c e => by rw [e] at hd; cases hd)]
 unfold Oper.wp at h
 generalize (execOp a.eval o).run P w = z at *
 have hn : (FR r).depth.isSome = true → 1 ≤ 0 := fun q => by cases q
 cases z with
 | ok x w' =>
  cases x <;> simp only [Oper.upon, Oper.uponIn] at h ⊢
  case value => exact h
  case skip => exact h
  case defer => exact h
  case enter => exact ⟨hn, CallsIn.mono (callsIn_FR h) (fun e w'' he => by cases e <;> exact he)⟩
  case row => exact ⟨hn, rowsIn_FR h⟩
 | halt x w' => cases x <;> simp only [Oper.upon, Oper.uponIn] at h ⊢ <;> exact h
def NoOut (Q : Exit → Act → World → Prop) : Prop := ¬ LetsOut Q
theorem noOut_post {P : Program} {fn : Func} {w0 : World} {F0 : Nat → Prop} {q : Value → List SProp → Prop} : NoOut (Post P fn w0 F0 q) := by
 rintro ⟨a, w, v, H', e, _⟩; cases e
theorem noOut_then {Q : Exit → Act → World → Prop} {K : Act → World → Prop} (h : NoOut Q) : NoOut (Exit.then K Q) := fun ⟨a, w, q⟩ => h ⟨a, w, q⟩
theorem noOut_block {Q : Exit → Act → World → Prop} {id : Nat} (h : NoOut Q) : NoOut (Exit.inBlock id Q) := fun ⟨a, w, q⟩ => h ⟨a, w, q⟩
theorem noOut_scope {Q : Exit → Act → World → Prop} (h : NoOut Q) : NoOut (Exit.noGoto Q) := fun ⟨a, w, q⟩ => h ⟨a, w, q⟩
theorem list_lift {P : Program} {r : Option Nat} {ops : Array Oper} {Q : Exit → Act → World → Prop} (hq : NoOut Q) : ∀ {l : List Oper} {a : Act} {w : World}, noDf l = true → wpList P ops Q l a w → wpListIn (FR r) 0 P ops Q l a w
 | [], _, _, _, h => h
 | ⟨d, op, ty, pos, after, g⟩ :: l, a, w, hn, h => by
  simp only [noDf, Bool.and_eq_true, Bool.not_eq_true'] at hn
  unfold wpList at h
  unfold wpListIn
  split
  ·rename_i hw
   rw [if_pos hw] at h
   rcases h with h | ⟨_, h⟩
   ·exact Oper.wpIn_mono (fun a w h => list_lift hq hn.2 h) (oper_lift hn.1 h)
   ·exact absurd h hq
  ·rename_i hw
   rw [if_neg hw] at h
   exact ⟨fun _ _ => trivial, list_lift hq hn.2 h⟩
structure GR (P : Program) (n : Nat) (w0 : World) (F0 : Nat → Prop) (r : Nat) (c : Code) (Q : Exit → Act → World → Prop) (tm : List (Nat × Value)) (D : List Deferred) (H : List SProp) : Prop where
 h : ∀ a w, St n w0 F0 tm D H a w → c.wpIn (FR (some r)) 0 P Q a w
section
variable {P : Program} {E : Env} {n : Nat} {w0 : World} {F0 : Nat → Prop} {Q : Exit → Act → World → Prop} {tm : List (Nat × Value)} {D : List Deferred} {H H' : List SProp} {r : Nat}
theorem gr_i {c : Code} (h : GR P n w0 F0 r c Q tm D H) : GR P n w0 F0 r c Q tm D H := h
theorem gr_seq {x y : Code} (h : GR P n w0 F0 r x (Exit.then (y.wpIn (FR (some r)) 0 P Q) Q) tm D H) : GR P n w0 F0 r (.seq x y) Q tm D H := .mk fun a w s => wpIn_seq (h.h a w s)
theorem nr_then {y : Code} (h : GR P n w0 F0 r y Q tm D H) : N n w0 F0 .normal (Exit.then (y.wpIn (FR (some r)) 0 P Q) Q) tm D H := .mk fun a w s => h.h a w s
theorem gr_skip (h : N n w0 F0 .normal Q tm D H) : GR P n w0 F0 r .skip Q tm D H := .mk fun a w s => wpIn_skip (h a w s)
theorem gr_exit {id : Nat} (h : N n w0 F0 (.exit id) Q tm D H) : GR P n w0 F0 r (.exit id) Q tm D H := .mk fun a w s => wpIn_exit (h a w s)
theorem gr_ret (h : N n w0 F0 .ret Q tm D H) : GR P n w0 F0 r .ret Q tm D H := .mk fun a w s => wpIn_ret (h a w s)
theorem gr_label {id : Nat} (h : N n w0 F0 .normal Q tm D H) : GR P n w0 F0 r (.label id) Q tm D H := .mk fun a w s => wpIn_label (h a w s)
theorem gr_block {id : Nat} {c : Code} (h : GR P n w0 F0 r c (Exit.inBlock id Q) tm D H) : GR P n w0 F0 r (.block id c) Q tm D H := .mk fun a w s => wpIn_block (h.h a w s)
theorem gr_cond_t {c : Operand} {x y : Code} (hc : ev tm c = some (.bool true) := by refine rfl) (h : GR P n w0 F0 r x Q tm D H) : GR P n w0 F0 r (.cond c x y) Q tm D H := .mk fun a w s => wpIn_cond_true (ev_sound s.tm hc) (h.h a w s)
theorem gr_cond_f {c : Operand} {x y : Code} (hc : ev tm c = some (.bool false) := by refine rfl) (h : GR P n w0 F0 r y Q tm D H) : GR P n w0 F0 r (.cond c x y) Q tm D H := .mk fun a w s => wpIn_cond_false (ev_sound s.tm hc) (h.h a w s)
theorem gr_cond {c : Operand} {x y : Code} {t : Bool} (hc : ev tm c = some (.bool t) := by refine rfl) (ht : t = true → GR P n w0 F0 r x Q tm D H) (hf : t = false → GR P n w0 F0 r y Q tm D H) : GR P n w0 F0 r (.cond c x y) Q tm D H :=
 .mk fun a w s => wpIn_cond_split (ev_sound s.tm hc) (fun e => (ht e).h a w s) (fun e => (hf e).h a w s)
theorem gr_sp {c : Operand} {x y : Code} {t : Bool} {p1 p0 : Prop} (hc : ev tm c = some (.bool t) := by refine rfl) (e1 : t = true → p1 := by intro h; (try dsimp only at h); (try simp only [beq_true, beq_false, decide_eq_decide, beq_iff_eq, bne_iff_ne, beq_eq_false_iff_ne, bne_eq_false_iff_eq, decide_eq_true_eq, decide_eq_false_iff_not, Bool.not_eq_true', Bool.not_eq_false', ne_eq, Decidable.not_not] at h); refine h) (e0 : t = false → p0 := by intro h; (try dsimp only at h); (try simp only [beq_true, beq_false, decide_eq_decide, beq_iff_eq, bne_iff_ne, beq_eq_false_iff_ne, bne_eq_false_iff_eq, decide_eq_true_eq, decide_eq_false_iff_not, Bool.not_eq_true', Bool.not_eq_false', ne_eq, Decidable.not_not] at h); refine h) (h1 : p1 → GR P n w0 F0 r x Q tm D H) (h0 : p0 → GR P n w0 F0 r y Q tm D H) :
  GR P n w0 F0 r (.cond c x y) Q tm D H := gr_cond hc (fun h => h1 (e1 h)) (fun h => h0 (e0 h))
theorem gr_spT {c : Operand} {x y : Code} {t : Bool} {p1 : Prop} (hc : ev tm c = some (.bool t) := by refine rfl) (hn : t = false → False := by intro h; (try dsimp only at h); (try simp only [beq_true, beq_false, decide_eq_decide, beq_iff_eq, bne_iff_ne, beq_eq_false_iff_ne, bne_eq_false_iff_eq, decide_eq_true_eq, decide_eq_false_iff_not, Bool.not_eq_true', Bool.not_eq_false', ne_eq, Decidable.not_not] at h); first | done | (simp only [eq_self, not_true_eq_false, not_false_eq_true, reduceCtorEq] at h; done) | omega) (e1 : t = true → p1 := by intro h; (try dsimp only at h); (try simp only [beq_true, beq_false, decide_eq_decide, beq_iff_eq, bne_iff_ne, beq_eq_false_iff_ne, bne_eq_false_iff_eq, decide_eq_true_eq, decide_eq_false_iff_not, Bool.not_eq_true', Bool.not_eq_false', ne_eq, Decidable.not_not] at h); refine h) (h : p1 → GR P n w0 F0 r x Q tm D H) :
  GR P n w0 F0 r (.cond c x y) Q tm D H := gr_cond hc (fun h1 => h (e1 h1)) (fun h1 => (hn h1).elim)
theorem gr_spF {c : Operand} {x y : Code} {t : Bool} {p0 : Prop} (hc : ev tm c = some (.bool t) := by refine rfl) (hn : t = true → False := by intro h; (try dsimp only at h); (try simp only [beq_true, beq_false, decide_eq_decide, beq_iff_eq, bne_iff_ne, beq_eq_false_iff_ne, bne_eq_false_iff_eq, decide_eq_true_eq, decide_eq_false_iff_not, Bool.not_eq_true', Bool.not_eq_false', ne_eq, Decidable.not_not] at h); first | done | (simp only [eq_self, not_true_eq_false, not_false_eq_true, reduceCtorEq] at h; done) | omega) (e0 : t = false → p0 := by intro h; (try dsimp only at h); (try simp only [beq_true, beq_false, decide_eq_decide, beq_iff_eq, bne_iff_ne, beq_eq_false_iff_ne, bne_eq_false_iff_eq, decide_eq_true_eq, decide_eq_false_iff_not, Bool.not_eq_true', Bool.not_eq_false', ne_eq, Decidable.not_not] at h); refine h) (h : p0 → GR P n w0 F0 r y Q tm D H) :
  GR P n w0 F0 r (.cond c x y) Q tm D H := gr_cond hc (fun h1 => (hn h1).elim) (fun h1 => h (e0 h1))
theorem gr_region {id : Nat} {l : List Oper} (h : L P n w0 F0 l.toArray l Q tm D H) (hd : noDf l = true := by refine rfl) (hq : NoOut Q := by with_reducible (repeat (first | assumption | refine noOut_post | refine noOut_postM | refine noOut_round | refine noOut_begin | apply noOut_then | apply noOut_block | apply noOut_scope))) : GR P n w0 F0 r (.region id l.toArray false) Q tm D H := .mk fun a w s => wpIn_region_lit (list_lift hq hd (h a w s))
end
def lp (l : Nat) (n : Nat) (tm : List (Nat × Value)) (ps : Array Tmp) (assign body : Code) (st : LoopState) (pe : Option Code) : SProp where
 holds h F := (∃ fn tmps D0, Tm n tm ⟨tmps, []⟩ ∧ h[l]? = some (.loop { state := st, pending := pe, fn := fn, tmps := tmps, params := ps, assign := assign, body := body, defers := D0 })) ∧ ∀ x, F x ↔ x = l
 loc := fun ⟨⟨fn, tmps, D0, t, e⟩, f⟩ k => ⟨⟨fn, tmps, D0, t, by rw [k l ((f l).2 rfl)]; exact e⟩, f⟩
 bnd := fun ⟨⟨_, _, _, _, e⟩, f⟩ x hx => by rw [(f x).1 hx]; exact lt_of_some e
theorem Inv.lp {w0 w : World} {F0 : Nat → Prop} {H : List SProp} {l n : Nat} {tm : List (Nat × Value)} {ps : Array Tmp} {assign body : Code} {st : LoopState} {pe : Option Code} (i : Inv w0 F0 (lp l n tm ps assign body st pe :: H) w) :
  ∃ fn tmps D0, Tm n tm ⟨tmps, []⟩ ∧ w.heap[l]? = some (.loop { state := st, pending := pe, fn := fn, tmps := tmps, params := ps, assign := assign, body := body, defers := D0 }) := by
 obtain ⟨⟨F, ⟨_, _, ⟨e, _⟩, _⟩, _⟩, _⟩ := i
 exact e
theorem Inv.lp_set {w0 w : World} {F0 : Nat → Prop} {H : List SProp} {l n : Nat} {tm : List (Nat × Value)} {ps : Array Tmp} {assign body : Code} {st st' : LoopState} {pe pe' : Option Code} {fn : FuncId} {tmps : Array Value} {D0 : Nat} (i : Inv w0 F0 (SL.lp l n tm ps assign body st pe :: H) w)
  (ht : Tm n tm ⟨tmps, []⟩) (hl : l < w.heap.size) : Inv w0 F0 (SL.lp l n tm ps assign body st' pe' :: H) (w.putObj l (.loop { state := st', pending := pe', fn := fn, tmps := tmps, params := ps, assign := assign, body := body, defers := D0 })) :=
 i.set1 (fun ⟨_, f⟩ => f) ⟨⟨fn, tmps, D0, ht, World.putObj_heap_same hl⟩, fun _ => Iff.rfl⟩ (fun c hc => World.putObj_heap_other hc) World.putObj_size rfl rfl rfl
def Yields (P : Program) (l : Nat) (xs : List Value) (H : List SProp) (q : Value → List SProp → Prop) : Prop :=
 ∀ (w : World) (F : Nat → Prop), sep H w.heap F → ∃ fn tmps assign body, (Instr.yield l xs.toArray).run P w = .ok (.round l fn tmps assign body) w ∧
  RoundIn (FR none) 0 P l fn tmps assign body w fun e w' => ∃ v H', e = .returned v ∧ q v H' ∧ Inv w F H' w'
theorem Yields.mono {P : Program} {l : Nat} {xs : List Value} {H : List SProp} {q q' : Value → List SProp → Prop} (h : Yields P l xs H q) (k : ∀ v H', q v H' → q' v H') : Yields P l xs H q' := fun w F s => by
 obtain ⟨fn, tmps, assign, body, e, r⟩ := h w F s
 exact ⟨fn, tmps, assign, body, e, r.mono fun e w' ⟨v, H', he, hq, hi⟩ => ⟨v, H', he, k _ _ hq, hi⟩⟩
end Go.Proofs.YtelfjhemnnbbpaaGreat.SL
namespace Go.Proofs.YtelfjhemnnbbpaaGreat.SL
section
variable {P : Program} {E : Env} {n : Nat} {w0 : World} {F0 : Nat → Prop} {Q : Exit → Act → World → Prop} {tm : List (Nat × Value)} {D : List Deferred} {H H' : List SProp}
def RQ (P : Program) (l : Nat) (w0 : World) (F0 : Nat → Prop) (q : Value → List SProp → Prop) : Exit → Act → World → Prop :=
 roundPost P l fun e w' => ∃ v H', e = .returned v ∧ q v H' ∧ Inv w0 F0 H' w'
theorem noOut_round {l : Nat} {q : Value → List SProp → Prop} : NoOut (RQ P l w0 F0 q) := fun ⟨_, _, h⟩ => h
theorem calm_round {l : Nat} {q : Value → List SProp → Prop} : Calm (RQ P l w0 F0 q) := fun _ _ _ _ _ h => h
theorem n_round {l m : Nat} {q : Value → List SProp → Prop} {tm' : List (Nat × Value)} {ps : Array Tmp} {assign body : Code} {st : LoopState} {pe : Option Code} (hq : q (.bool true) (lp l m tm' ps assign body .ready none :: H')) (ht : Take (lp l m tm' ps assign body st pe) H H' := by with_reducible (repeat (first | refine Take.here | apply Take.there))) :
  N n w0 F0 .normal (RQ P l w0 F0 q) tm D H := .mk fun a w s => by
 have i := s.inv.take ht
 obtain ⟨fn, tmps, D0, t, e⟩ := i.lp
 exact ⟨_, _, run_endRound none e, _, _, rfl, hq, i.lp_set t (lt_of_some e)⟩
theorem n_round_x {l m : Nat} {q : Value → List SProp → Prop} {tm' : List (Nat × Value)} {ps : Array Tmp} {assign body : Code} {st : LoopState} {pe : Option Code} {id : Nat} (hq : q (.bool false) (lp l m tm' ps assign body .done (some (.exit id)) :: H')) (ht : Take (lp l m tm' ps assign body st pe) H H' := by with_reducible (repeat (first | refine Take.here | apply Take.there))) :
  N n w0 F0 (.exit id) (RQ P l w0 F0 q) tm D H := .mk fun a w s => by
 have i := s.inv.take ht
 obtain ⟨fn, tmps, D0, t, e⟩ := i.lp
 exact ⟨_, _, run_endRound (some (.exit id)) e, _, _, rfl, hq, i.lp_set t (lt_of_some e)⟩
theorem n_round_ret {l m : Nat} {q : Value → List SProp → Prop} {tm' : List (Nat × Value)} {ps : Array Tmp} {assign body : Code} {st : LoopState} {pe : Option Code} (hq : q (.bool false) (lp l m tm' ps assign body .done (some .ret) :: H')) (ht : Take (lp l m tm' ps assign body st pe) H H' := by with_reducible (repeat (first | refine Take.here | apply Take.there))) :
  N n w0 F0 .ret (RQ P l w0 F0 q) tm D H := .mk fun a w s => by
 have i := s.inv.take ht
 obtain ⟨fn, tmps, D0, t, e⟩ := i.lp
 exact ⟨_, _, run_endRound (some .ret) e, _, _, rfl, hq, i.lp_set t (lt_of_some e)⟩
def BQ (P : Program) (l : Nat) (body : Code) (Q : Exit → Act → World → Prop) : Exit → Act → World → Prop :=
 Exit.then (fun a₁ w₁ => ∃ w₂, (Instr.beginRound l).run P w₁ = .ok () w₂ ∧ body.wpIn (FR (some l)) 0 P Q a₁ w₂) (fun _ _ _ => False)
theorem noOut_begin {l : Nat} {body : Code} : NoOut (BQ P l body Q) := fun ⟨_, _, h⟩ => h
theorem n_begin {l m : Nat} {tm' : List (Nat × Value)} {ps : Array Tmp} {assign body b2 : Code} {pe : Option Code} (ht : Take (lp l m tm' ps assign body .ready pe) H H' := by with_reducible (repeat (first | refine Take.here | apply Take.there))) (h : GR P n w0 F0 l b2 Q tm D (lp l m tm' ps assign body .busy pe :: H')) :
  N n w0 F0 .normal (BQ P l b2 Q) tm D H := .mk fun a w s => by
 have i := s.inv.take ht
 obtain ⟨fn, tmps, D0, t, e⟩ := i.lp
 exact ⟨_, run_beginRound e rfl, h.h _ _ ⟨s.tm, s.defers, i.lp_set t (lt_of_some e)⟩⟩
def bindP : List Nat → List Value → List (Nat × Value) → List (Nat × Value)
 | p :: ps, x :: xs, tm => bindP ps xs ((p, x) :: tm)
 | _, _, tm => tm
def allLt (n : Nat) : List Nat → Bool
 | [] => true
 | p :: ps => Nat.blt p n && allLt n ps
theorem bind_tm {n : Nat} : ∀ {ps : List Nat} {xs : List Value} {tm : List (Nat × Value)} {tmps : Array Value}, allLt n ps = true → Tm n tm ⟨tmps, []⟩ → Tm n (bindP ps xs tm) ⟨(ps.zip xs).foldl (fun t (p : Nat × Value) => t.setIfInBounds p.1 p.2) tmps, []⟩
 | [], xs, tm, tmps, _, h => by cases xs <;> exact h
 | p :: ps, [], tm, tmps, _, h => h
 | p :: ps, x :: xs, tm, tmps, hp, h => by
  simp only [allLt, Bool.and_eq_true] at hp
  exact bind_tm (tmps := tmps.setIfInBounds p x) hp.2 (h.put hp.1 x)
theorem yields_of {l m : Nat} {tm' : List (Nat × Value)} {ps : List Nat} {assign body : Code} {K : List SProp} {xs : List Value} {q : Value → List SProp → Prop} (h : ∀ w0 F0, GR P m w0 F0 l assign (BQ P l body (RQ P l w0 F0 q)) (bindP ps xs tm') [] (lp l m tm' ps.toArray assign body .ready none :: K))
  (hl : Nat.beq xs.length ps.length = true := by refine rfl) (hp : allLt m ps = true := by refine rfl) : Yields P l xs (lp l m tm' ps.toArray assign body .ready none :: K) q := fun w F s => by
 have i : Inv w F (lp l m tm' ps.toArray assign body .ready none :: K) w := Inv.start s
 obtain ⟨fn, tmps, D0, t, e⟩ := i.lp
 have hl := Nat.eq_of_beq_eq_true hl
 refine ⟨fn, _, assign, body, run_yield e (by simpa using hl), roundIn_of_wpIn (F := FR none) trivial (((h w F).h _ _ ⟨?_, rfl, i⟩))⟩
 have := bind_tm (xs := xs) hp t
 rw [← Array.foldl_toList]
 simpa using this
theorem parts_under {A : SProp} {K H R : List SProp} (p : Parts K H R) : Parts K (A :: H) (A :: R) := by
 induction p with
 | nil => exact .nil
 | cons t _ ih => exact .cons (.there t) ih
def mark (D0 : Nat) : Deferred := { target := .collected D0, args := #[] }
theorem g_rangeFunc {g : Operand} {gf : FuncId} {ps : Array Tmp} {assign body : Code} {first cap : Array Value} {K R : List SProp} {qn : List SProp → Prop} {qx : Code → List SProp → Prop} (hs : ∀ l, Does P gf (first.toList ++ [.func (.yield l) #[] #[]] ++ cap.toList) (lp l n tm ps assign body .ready none :: K) (fun _ H' => (∃ K', H' = lp l n tm ps assign body .ready none :: K' ∧ qn K') ∨ (∃ c K', H' = lp l n tm ps assign body .done (some c) :: K' ∧ qx c K')))
  (hn : ∀ D0 K', qn K' → N n w0 F0 .normal Q tm (mark D0 :: D) (pts D0 (.deferred (some [])) :: (K' ++ R))) (hx : ∀ D0 c K', qx c K' → G P n w0 F0 c Q tm (mark D0 :: D) (pts D0 (.deferred (some [])) :: (K' ++ R)))
  (hg : ev tm g = some (.func (.func gf) first cap) := by refine rfl) (hp : Parts K H R := by with_reducible (repeat (first | refine Parts.nil | (apply Parts.cons; repeat (first | refine Take.here | apply Take.there))))) (c : Callable P gf := by refine inferInstance) : G P n w0 F0 (.rangeFunc g ps assign body) Q tm D H := .mk fun a w s => by
 refine wpIn_wide (n := 0).1 (wpIn_rangeFunc fun fn _ => ?_)
 obtain ⟨fn', h1, h2, h3⟩ := c.it
 have hn2 : ¬ (fn'.name == "runtime.NumGoroutine") = true := by rw [h2]; exact Bool.false_ne_true
 have hb : ¬ fn'.body.isNone = true := by rw [h3]; exact Bool.false_ne_true
 have i0 := (s.inv.alloc (.deferred (some [])))
 have i1 := i0.alloc (.loop { state := .ready, pending := none, fn := fn, tmps := a.tmps, params := ps, assign := assign, body := body, defers := w.heap.size })
 have i2 : Inv w0 F0 (lp (w.heap.size + 1) n tm ps assign body .ready none :: pts w.heap.size (.deferred (some [])) :: H) ((w.alloc (.deferred (some []))).alloc (.loop { state := .ready, pending := none, fn := fn, tmps := a.tmps, params := ps, assign := assign, body := body, defers := w.heap.size })) := by
  refine Inv.imp i1 fun {h F} s2 => ?_
  obtain ⟨F1, F2, ⟨e, f⟩, r⟩ := s2
  have hsz : (w.heap.push (Obj.deferred (some []))).size = w.heap.size + 1 := by simp
  refine ⟨F, ⟨F1, F2, ⟨⟨fn, a.tmps, w.heap.size, ⟨s.tm.size, s.tm.get⟩, ?_⟩, ?_⟩, r⟩, fun _ h => h⟩
  ·rw [← hsz]; exact e
  ·intro x; rw [f x, hsz]
 have he := run_enterLoop_outer (P := P) (w := w) fn a.tmps ps assign body
 generalize ((w.alloc (.deferred (some []))).alloc (.loop { state := .ready, pending := none, fn := fn, tmps := a.tmps, params := ps, assign := assign, body := body, defers := w.heap.size })) = W1 at i2 he
 have i3 := i2.parts (Parts.cons Take.here (parts_under hp))
 obtain ⟨F1, s1, back⟩ := i3.hand (K := lp (w.heap.size + 1) n tm ps assign body .ready none :: K) (H' := pts w.heap.size (.deferred (some [])) :: R)
 refine ⟨w.heap.size + 1, _, W1, { target := .fn (.func gf) cap, args := first ++ #[.func (.yield (w.heap.size + 1)) #[] #[]] }, W1, gf, first ++ #[.func (.yield (w.heap.size + 1)) #[] #[]] ++ cap, W1, he, ?_, fun _ _ => trivial, ?_, fun q => (nomatch q), callsIn_FR (r := none) ?_⟩
 ·simp only [resolve, rangeCall, ev_sound s.tm hg]
  simp [Deferred.ofValue, Act.eval]
 ·simp only [invoke]
  unfold callFunc
  simp only [program, Sem.run_bind, Sem.run, Result.andThen, h1, if_neg hn2, if_neg hb, Sem.run_pure]
 ·have hh := hs (w.heap.size + 1) _ F1 s1
  have ea : (first.toList ++ [Value.func (.yield (w.heap.size + 1)) #[] #[]] ++ cap.toList).toArray = first ++ #[.func (.yield (w.heap.size + 1)) #[] #[]] ++ cap := by apply Array.ext'; simp
  rw [ea] at hh
  refine hh.mono ?_
  rintro e w' ⟨v, H', rfl, hq, hi⟩
  have hb2 := back hi
  rcases hq with ⟨K', rfl, hq⟩ | ⟨cc, K', rfl, hq⟩
  ·obtain ⟨fn2, tmps2, D2, t2, e2⟩ := Inv.lp hb2
   refine ⟨none, _, run_endLoop e2 (by simp), ?_⟩
   refine (hn w.heap.size K' hq) _ _ ⟨⟨s.tm.size, s.tm.get⟩, by simp [mark, s.defers], ?_⟩
   have i4 := Inv.lp_set (fn := fn2) (D0 := D2) (st' := .exhausted) (pe' := none) hb2 t2 (lt_of_some e2)
   exact i4.imp fun {h F} s2 => by
    obtain ⟨G1, G2, _, s3, _, u3⟩ := s2
    obtain ⟨G3, G4, s4, s5, d5, u5⟩ := sep_split s3
    obtain ⟨G5, G6, s6, s7, d7, u7⟩ := s5
    refine ⟨G2, ?_, fun b hb => (u3 b).2 (.inr hb)⟩
    refine ⟨G5, fun b => G3 b ∨ G6 b, s6, sep_append s4 s7 (fun b h1 h2 => d5 b h1 ((u7 b).2 (.inr h2))), fun b h1 h2 => h2.elim (fun h3 => d5 b h3 ((u7 b).2 (.inl h1))) (d7 b h1), fun b => ?_⟩
    rw [u5 b, u7 b]
    exact ⟨fun o => o.elim (fun q => .inr (.inl q)) (fun o => o.elim .inl (fun q => .inr (.inr q))), fun o => o.elim (fun q => .inr (.inl q)) (fun o => o.elim .inl (fun q => .inr (.inr q)))⟩
  ·obtain ⟨fn2, tmps2, D2, t2, e2⟩ := Inv.lp hb2
   refine ⟨some cc, _, run_endLoop e2 (by simp), ?_⟩
   refine wpIn_wide.2 ((hx w.heap.size cc K' hq) _ _ ⟨⟨s.tm.size, s.tm.get⟩, by simp [mark, s.defers], ?_⟩)
   have i4 := Inv.lp_set (fn := fn2) (D0 := D2) (st' := .exhausted) (pe' := (some cc)) hb2 t2 (lt_of_some e2)
   exact i4.imp fun {h F} s2 => by
    obtain ⟨G1, G2, _, s3, _, u3⟩ := s2
    obtain ⟨G3, G4, s4, s5, d5, u5⟩ := sep_split s3
    obtain ⟨G5, G6, s6, s7, d7, u7⟩ := s5
    refine ⟨G2, ?_, fun b hb => (u3 b).2 (.inr hb)⟩
    refine ⟨G5, fun b => G3 b ∨ G6 b, s6, sep_append s4 s7 (fun b h1 h2 => d5 b h1 ((u7 b).2 (.inr h2))), fun b h1 h2 => h2.elim (fun h3 => d5 b h3 ((u7 b).2 (.inl h1))) (d7 b h1), fun b => ?_⟩
    rw [u5 b, u7 b]
    exact ⟨fun o => o.elim (fun q => .inr (.inl q)) (fun o => o.elim .inl (fun q => .inr (.inr q))), fun o => o.elim (fun q => .inr (.inl q)) (fun o => o.elim .inl (fun q => .inr (.inr q)))⟩
def PostM (P : Program) (fn : Func) (w0 : World) (F0 : Nat → Prop) (q : Value → List SProp → Prop) : Exit → Act → World → Prop :=
 fun e a w => (∀ c, e ≠ .panic c) ∧ bodyPostM Fence.wide 0 P fn (fun e w' => ∃ v H', e = .returned v ∧ q v H' ∧ Inv w0 F0 H' w') e a w
theorem calm_postM {fn : Func} {q : Value → List SProp → Prop} : Calm (PostM P fn w0 F0 q) := fun c _ _ _ _ h => absurd rfl (h.1 c)
theorem does_of_m {f : FuncId} {fn : Func} {c : Code} {args : List Value} {H : List SProp} {q : Value → List SProp → Prop} {n : Nat} {tm : List (Nat × Value)} (hf : P.funcs[f]? = some fn) (hm : fn.ntmps = n) (hb : fn.body = some c)
  (hn : Nat.ble args.length n = true) (hnum : numberO 0 args = some tm) (h : ∀ w0 F0, G P n w0 F0 c (PostM P fn w0 F0 q) tm [] H) : Does P f args H q := by
 subst hm
 obtain rfl := numberO_eq hnum
 intro w F s
 refine callsIn_wide.1 (callsIn_of_wp_marks (n := 0) hf hb trivial (wpIn_mono (wpIn_wide.2 (h w F _ w ⟨⟨?_, ?_⟩, rfl, Inv.start s⟩)) (fun _ _ _ q => q.2)))
 ·have : args.length ≤ fn.ntmps := by simpa using hn
  simp; omega
 ·intro t v e
  obtain ⟨_, h2⟩ := number_get e
  simp only [Nat.sub_zero] at h2
  have hlt : t < args.length := (List.getElem?_eq_some_iff.1 h2).1
  have e2 : args[t] = v := by rw [List.getElem?_eq_getElem hlt] at h2; exact Option.some.inj h2
  simp [Array.getElem?_append, hlt, e2]
theorem noOut_postM {fn : Func} {q : Value → List SProp → Prop} : NoOut (PostM P fn w0 F0 q) := by
 rintro ⟨a, w, _, v, H', e, _⟩; cases e
theorem r_retm {fn : Func} {q : Value → List SProp → Prop} {rs : List ResultVar} {vs : List Value} (K : List SProp) (hq : q (packV vs) K) (k : EnvOk P E := by refine inferInstance) (hr : fn.results = rs.toArray := by refine rfl) (hv : ResV E tm H rs vs := by repeat (first | refine ResV.nil | (apply ResV.tmp; refine rfl) | (apply ResV.cell; refine rfl; (with_reducible (repeat (first | refine Take.here | apply Take.there))); refine rfl))) (hp : Parts K H H' := by with_reducible (repeat (first | refine Parts.nil | (apply Parts.cons; repeat (first | refine Take.here | apply Take.there))))) :
  N n w0 F0 .ret (PostM P fn w0 F0 q) tm [] H := .mk fun a w s => by
 refine ⟨fun c e => (nomatch e), ?_⟩
 show LeavesInM _ _ _ _ _ _ a.defers _ _
 rw [s.defers]
 exact ⟨_, results_run k hr s.tm s.inv hv, _, K, rfl, hq, (s.inv.parts hp).drop⟩
theorem r_retM {fn : Func} {q : Value → List SProp → Prop} {rs : List ResultVar} {vs : List Value} {D0 : Nat} {R : List SProp} (K : List SProp) (hq : q (packV vs) K) (k : EnvOk P E := by refine inferInstance) (hr : fn.results = rs.toArray := by refine rfl) (ht : Take (pts D0 (.deferred (some []))) H R := by with_reducible (repeat (first | refine Take.here | apply Take.there))) (hv : ResV E tm R rs vs := by repeat (first | refine ResV.nil | (apply ResV.tmp; refine rfl) | (apply ResV.cell; refine rfl; (with_reducible (repeat (first | refine Take.here | apply Take.there))); refine rfl))) (hp : Parts K R H' := by with_reducible (repeat (first | refine Parts.nil | (apply Parts.cons; repeat (first | refine Take.here | apply Take.there))))) :
  N n w0 F0 .ret (PostM P fn w0 F0 q) tm [mark D0] H := .mk fun a w s => by
 refine ⟨fun c e => (nomatch e), ?_⟩
 show LeavesInM _ _ _ _ _ _ a.defers _ _
 rw [s.defers]
 have i := s.inv.take ht
 have e := i.get
 have i2 : Inv w0 F0 (pts D0 (.deferred none) :: R) (w.putObj D0 (.deferred none)) := i.set (World.putObj_heap_same (lt_of_some e)) (fun c hc => World.putObj_heap_other hc) World.putObj_size rfl rfl rfl
 have i3 : Inv w0 F0 R (w.putObj D0 (.deferred none)) := (i2.parts (Parts.cons Take.here Parts.nil)).imp fun {h F} s2 => by
  obtain ⟨G1, G2, _, s3, _, u3⟩ := s2
  exact ⟨G2, s3, fun b hb => (u3 b).2 (.inr hb)⟩
 exact ⟨by simp, .inl ⟨D0, _, rfl, run_takeDeferred e, _, results_run k hr s.tm i3 hv, _, K, rfl, hq, (i3.parts hp).drop⟩⟩
end
structure LW (P : Program) (n : Nat) (w0 : World) (F0 : Nat → Prop) (ops : Array Oper) (l : List Oper) (Q : Exit → Act → World → Prop) (tm : List (Nat × Value)) (D : List Deferred) (H : List SProp) : Prop where
 h : ∀ a w, St n w0 F0 tm D H a w → wpListIn (FR none) 0 P ops Q l a w
section
variable {P : Program} {E : Env} {n : Nat} {w0 : World} {F0 : Nat → Prop} {Q : Exit → Act → World → Prop} {tm : List (Nat × Value)} {D : List Deferred} {H H' : List SProp} {ops rest : List Oper}
variable {ty : TypeId} {pos : String} {after : Array Edge}
theorem g_region_w {id : Nat} {l : List Oper} (h : LW P n w0 F0 l.toArray l Q tm D H) : G P n w0 F0 (.region id l.toArray false) Q tm D H := .mk fun a w s => wpIn_wide (n := 0).1 (wpIn_region_lit (h.h a w s))
theorem lw_i {l : List Oper} {ops : Array Oper} (h : LW P n w0 F0 ops l Q tm D H) : LW P n w0 F0 ops l Q tm D H := h
theorem lw_nil (h : N n w0 F0 .normal Q tm D H) : LW P n w0 F0 ops.toArray [] Q tm D H := .mk fun a w s => h a w s
theorem n_lw (h : LW P n w0 F0 ops.toArray rest Q tm D H) : N n w0 F0 .normal (Exit.then (fun a w => wpListIn (FR none) 0 P ops.toArray Q rest a w) Q) tm D H := .mk fun a w s => h.h a w s
theorem lw_step {o : Oper} (h : L P n w0 F0 ops.toArray [o] (Exit.then (fun a w => wpListIn (FR none) 0 P ops.toArray Q rest a w) Q) tm D H) (hd : isDf o.op = false := by refine rfl) (hq : NoOut Q := by with_reducible (repeat (first | assumption | refine noOut_post | refine noOut_postM | refine noOut_round | refine noOut_begin | apply noOut_then | apply noOut_block | apply noOut_scope))) : LW P n w0 F0 ops.toArray (o :: rest) Q tm D H := .mk fun a w s => by
 have h1 := h a w s
 unfold wpList at h1
 unfold wpListIn
 split
 ·rename_i hw
  rw [if_pos hw] at h1
  rcases h1 with h1 | ⟨_, h1⟩
  ·refine oper_lift hd (wp_mono2 (fun a w h => h) (fun e a w he h => ?_) h1)
   cases e <;> first | exact absurd rfl he | exact h
  ·obtain ⟨a', w', h1⟩ := h1
   exact absurd ⟨a', w', h1⟩ hq
 ·rename_i hw
  rw [if_neg hw] at h1
  exact ⟨fun _ _ => trivial, h1⟩
theorem run_yields {l : Nat} {f : Operand} {xs : Array Operand} {ts : Array TypeId} {vs : List Value} {a : Act} (ht : Tm n tm a) (hf : ev tm f = some (.func (.yield l) #[] #[])) (hx : evs tm xs.toList = some vs) (dst : Option Nat) (w : World) :
  (execOp a.eval ⟨dst, .call ⟨.value f, xs, ts⟩, ty, pos, after, none⟩).run P w = (Instr.yield l vs.toArray).run P w := by
 have e1 : xs.map a.eval = vs.toArray := by apply Array.ext'; simpa using evs_sound ht hx
 simp only [execOp, resolve, ev_sound ht hf, e1, Deferred.ofValue, invoke, Sem.run_bind, Sem.run_pure, Result.andThen]
 simp
theorem lw_yield {d l : Nat} {f : Operand} {xs : Array Operand} {ts : Array TypeId} {vs : List Value} {K : List SProp} {q : Value → List SProp → Prop} (hs : Yields P l vs K q) (h : ∀ v K' H'', q v K' → appO K' H' = some H'' → LW P n w0 F0 ops.toArray rest Q ((d, v) :: tm) D H'')
  (hf : ev tm f = some (.func (.yield l) #[] #[]) := by refine rfl) (hd : Nat.blt d n = true := by refine rfl) {vs' : List Value} (hx : evs tm xs.toList = some vs' := by refine rfl) (he : vs' = vs := by with_reducible refine rfl) (hp : Parts K H H' := by with_reducible (repeat (first | refine Parts.nil | (apply Parts.cons; repeat (first | refine Take.here | apply Take.there))))) :
  LW P n w0 F0 ops.toArray (⟨some d, .call ⟨.value f, xs, ts⟩, ty, pos, after, none⟩ :: rest) Q tm D H := .mk fun a w s => by
 subst he
 obtain ⟨F1, s1, back⟩ := (s.inv.parts hp).hand
 obtain ⟨fn, tmps, as, body, e, r⟩ := hs w F1 s1
 unfold wpListIn
 rw [if_pos (show Region.wanted (⟨some d, .call ⟨.value f, xs, ts⟩, ty, pos, after, none⟩ : Oper) (yielded ops.toArray a.tmps) = true from rfl)]
 refine ⟨fun _ _ => trivial, ?_⟩
 have hr : (Oper.semAt (FR none).round a.eval ⟨some d, .call ⟨.value f, xs, ts⟩, ty, pos, after, none⟩).run P w = .ok (.round l fn tmps as body) w := by
  rw [Oper.semAt_eq _ _ _ (fun c e => by cases e), run_yields s.tm hf hx]; exact e
 rw [hr]
 refine ⟨fun q => (nomatch q), r.mono ?_⟩
 rintro e w' ⟨v, K', rfl, hq, hi⟩
 exact (h v K' _ hq (appO_eq K' H')).h _ _ ⟨s.tm.put hd v, s.defers, back hi⟩
theorem lw_guard_yes {dst : Option Nat} {op : Op} {j t : Nat} {want : Bool} (hs : slotOf ops j = some t := by refine rfl) (ht : tget tm t = some (.bool want) := by refine rfl) (hb : Nat.blt t n = true := by refine rfl)
  (h : LW P n w0 F0 ops.toArray (⟨dst, op, ty, pos, after, none⟩ :: rest) Q tm D H) : LW P n w0 F0 ops.toArray (⟨dst, op, ty, pos, after, some (j, want)⟩ :: rest) Q tm D H := .mk fun a w s => by
 have h1 := h.h a w s
 have hw : Region.wanted (⟨dst, op, ty, pos, after, some (j, want)⟩ : Oper) (yielded ops.toArray a.tmps) = true := by simp [Region.wanted, yielded_some s.tm hs ht hb]
 unfold wpListIn at h1 ⊢
 rw [if_pos hw]
 rw [if_pos (show Region.wanted (⟨dst, op, ty, pos, after, none⟩ : Oper) (yielded ops.toArray a.tmps) = true from rfl)] at h1
 exact h1
end
end Go.Proofs.YtelfjhemnnbbpaaGreat.SL
