/- The framework, part 10: contracts of the library's, taken over. -/
import Derived.Test.YtcbcpgaehdoekaaSlI
import Derived.Lib.SlKeysI
import Derived.Maps.Own
import Derived.Below
set_option linter.unusedVariables false
set_option linter.unusedSimpArgs false
namespace Go.Proofs.Ytcbcpgaehdoekaa.SL
open Go.RowKit Go.WideElems

section
variable {P : Program} {n : Nat} {w0 : World} {F0 : Nat → Prop} {H : List SProp}

/-- Whatever is owned stays, where a call has turned nothing that there was. -/
theorem inv_below {F : Nat → Prop} {K : List SProp} {w w' : World} (b : Below w.heap.size w w') (s : sep K w.heap F) : Inv w F K w' :=
  ⟨⟨F, sep_loc s (fun x hx => b.block x (sep_bnd s x hx)), fun _ _ h => h⟩, fun x hx _ => b.block x hx, b.size, b.os, b.tape, b.output⟩
/-- A new block beside. -/
theorem inv_beside {F : Nat → Prop} {A : SProp} {K : List SProp} {w w' : World} (b : Below w.heap.size w w') (s : sep K w.heap F) {G : Nat → Prop} (a : A.holds w'.heap G) (g : ∀ x, G x → w.heap.size ≤ x) : Inv w F (A :: K) w' :=
  ⟨⟨fun x => G x ∨ F x, ⟨G, F, a, sep_loc s (fun x hx => b.block x (sep_bnd s x hx)), fun x h1 h2 => by have := g x h1; have := sep_bnd s x h2; omega, fun _ => Iff.rfl⟩,
    fun x hx hF h => h.elim (fun q => by have := g x q; omega) hF⟩, fun x hx _ => b.block x hx, b.size, b.os, b.tape, b.output⟩
theorem sep_nil_of {F : Nat → Prop} {h : Array Obj} (s : sep [] h F) : ∀ x, ¬ F x := s

theorem does_below {f : FuncId} {args : List Value} {v : Value} (h : ∀ w, Calls P f args.toArray w fun e w' => e = .returned v ∧ Below w.heap.size w w') : Does P f args [] (fun u H => u = v ∧ H = []) := by
  intro w F s
  exact (h w).mono fun e w' ⟨h1, h2⟩ => ⟨v, [], h1, ⟨rfl, rfl⟩, inv_below h2 s⟩

theorem vec_of_ownsRow {w : World} {base : Nat} {e : TypeId} {sz : Nat} {v : Value} {m : Nat} {xs : List Value} (h : w.ownsRow base e sz v m xs) :
    ∃ p cap G, v = .slice p m cap ∧ (vec e sz p m cap xs).holds w.heap G ∧ ∀ x, G x → base ≤ x := by
  obtain ⟨h1, h2⟩ := h
  rcases h2 with ⟨rfl, rfl⟩ | ⟨g, cap, cur, rfl, hb, hg, hn, hc, hs, ht⟩
  · exact ⟨none, 0, fun _ => False, rfl, ⟨h1, .inl ⟨rfl, rfl, rfl, fun _ h => h⟩⟩, fun _ h => h.elim⟩
  · have e1 : xs ++ cur.toList.drop (m * sz) = cur.toList := by rw [← ht]; exact List.take_append_drop _ _
    exact ⟨some ⟨g, 0, none⟩, cap, fun x => x = g, rfl, ⟨h1, .inr ⟨g, cur.toList.drop (m * sz), rfl, hn, hc, by rw [e1]; simpa using hs, ⟨⟨(0, 0), fun _ _ h => by omega, by rw [e1]; simpa using hg⟩, fun _ => Iff.rfl⟩⟩⟩, fun x hx => hx ▸ hb⟩

/-- How any element reads. -/
def anyR (v : Value) : Option (DataW Unit × List MemPlace) := some (.lit (.bool true), [])

theorem owns_of_mp {α : Type} {enc : α → Value} {kv : List (Int × α)} {kt b : Nat} {w : World} {F : Nat → Prop} (hk : P.underlying kt = some (.int .i64)) (hb : ∀ p ∈ kv, -9223372036854775808 ≤ p.1 ∧ p.1 < 9223372036854775808) (hl : kv.length ≤ 1000000) (a : (mp b enc kv).holds w.heap F) :
    ∃ D : DataW Unit, w.ownsMap P kt anyR b kv.length D ∧ Maps.size D = kv.length ∧ (intKeys D).Perm (kv.map Prod.fst) := by
  obtain ⟨⟨es, clock, hw, he, h2, h3, h4⟩, _⟩ := a
  have hsz : es.size = kv.length := by have := congrArg List.length he; simpa using this
  have hkey : ∀ x ∈ es.toList, ∃ p ∈ kv, x.key = .int .i64 p.1 := by
    intro x hx
    have : (x.key, x.val) ∈ kv.map (fun p => (Value.int .i64 p.1, enc p.2)) := by rw [← he]; exact List.mem_map.2 ⟨x, hx, rfl⟩
    obtain ⟨p, hp, e⟩ := List.mem_map.1 this
    exact ⟨p, hp, (Prod.mk.injEq .. ▸ e).1.symm⟩
  have hrd : ∀ x ∈ es.toList, ∀ i, x.key = .int .i64 i → rd P kt anyR x = some (.int .i64 i, .lit (.bool true)) := by
    intro x hx i hi
    obtain ⟨p, hp, e⟩ := hkey x hx
    rw [hi] at e
    simp only [Value.int.injEq, true_and] at e
    subst e
    have hwf : (Lit.int .i64 p.1).wf = true := by
      have := hb p hp
      simp [Lit.wf, IntKind.min, IntKind.max, IntKind.bits, IntKind.signed]
      omega
    simp [rd, hi, Go.Maps.keyOf_int_mk hk hwf, anyR]
  refine ⟨_, ⟨es, clock, hw, ⟨by simp only [maxLen]; omega, ⟨h2, h3, ?_⟩, ?_⟩, by omega, rfl⟩, ?_, ?_⟩
  · have e1 : es.toList.map MapEntry.key = (kv.map Prod.fst).map (Value.int .i64) := by
      have := congrArg (List.map Prod.fst) he
      simpa [List.map_map, Function.comp_def] using this
    rw [show (es.toList.map fun x => x.key) = es.toList.map MapEntry.key from rfl, e1]
    refine List.Pairwise.map _ (fun a b hne q => hne ?_) h4
    simpa using q
  · intro x hx
    obtain ⟨p, hp, e⟩ := hkey x hx
    exact ⟨_, hrd x hx _ e⟩
  · simp [Maps.size, length_sorted, hsz]
  · have e1 : (es.toList.map (rg P kt anyR)).map (fun p => intOf p.1) = kv.map Prod.fst := by
      have e2 : es.toList.map MapEntry.key = (kv.map Prod.fst).map (Value.int .i64) := by
        have := congrArg (List.map Prod.fst) he
        simpa [List.map_map, Function.comp_def] using this
      apply List.ext_getElem?
      intro j
      have e3 := congrArg (fun q => q[j]?) e2
      simp only [List.getElem?_map] at e3 ⊢
      cases h5 : es.toList[j]? with
      | none => rw [h5] at e3; cases h6 : kv[j]? <;> simp [h6] at e3 ⊢
      | some x =>
        rw [h5] at e3
        cases h6 : kv[j]? with
        | none => simp [h6] at e3
        | some q =>
          simp only [h6, Option.map_some, Option.some.injEq] at e3
          simp [rg, hrd x (List.mem_of_getElem? h5) q.1 e3, intOf]
    rw [← e1]
    exact ((Go.WideShapes.sorted_perm _).map _)

theorem addr_add (b o j : Nat) : (⟨b, o, none⟩ : Addr).add j = ⟨b, o + j, none⟩ := by unfold Addr.add; split <;> simp_all
/-- Cells copied within a row. -/
theorem l_copy_in {E : Env} {Q : Exit → Act → World → Prop} {tm : List (Nat × Value)} {D : List Deferred} {H' : List SProp} {ops rest : List Oper} {ty : TypeId} {pos : String} {after : Array Edge} {d t e b o1 o2 m k cap cap' by' : Nat} {x y : Operand} {T : TypeId} {c : List Value} {z : Value} (ke : EnvOk P E) (hd : Nat.blt d n = true)
    (hx : ev tm x = some (.slice (some ⟨b, o1, none⟩) m cap)) (hy : ev tm y = some (.slice (some ⟨b, o2, none⟩) k cap')) (ht : look E.ty t = some (.slice e)) (he : look E.inf e = some (z, 1, by')) (tk : Take (cl b T c) H H')
    (h1 : ∀ u ∈ c, u.oneCell' = true) (hb : o1 + m ≤ c.length ∧ o2 + k ≤ c.length)
    (h : L P n w0 F0 ops.toArray rest Q ((d, .int .i64 (min k m : Nat)) :: tm) D (cl b T (c.take o1 ++ (c.drop o2).take (min k m) ++ c.drop (o1 + min k m)) :: H')) :
    L P n w0 F0 ops.toArray (⟨some d, .call { callee := .builtin .copy, args := #[x, y], argTypes := #[t, t] }, ty, pos, after, none⟩ :: rest) Q tm D H := by
  intro a w s
  have i := s.inv.take tk
  obtain ⟨fr, hq, hw⟩ := i.cell
  obtain ⟨hb1, hb2⟩ := hb
  have hlen : ((c.drop o2).take (min k m)).length = min k m := by rw [List.length_take, List.length_drop]; omega
  have hcell : ∀ j u, ((c.drop o2).take (min k m))[j]? = some u → w.cell? ((⟨b, o2, none⟩ : Addr).add j) = some u := by
    intro j u hu
    have hj : j < min k m := by have := (List.getElem?_eq_some_iff.1 hu).1; omega
    rw [List.getElem?_take_of_lt hj, List.getElem?_drop] at hu
    have : (⟨b, o2, none⟩ : Addr).add j = ⟨b, o2 + j, none⟩ := by unfold Addr.add; split <;> simp_all
    rw [this, cell_at hw]
    simpa using hu
  have h1' : ∀ u ∈ (c.drop o2).take (min k m), u.oneCell' = true := fun u hu => h1 u (List.mem_of_mem_drop (List.mem_of_mem_take hu))
  obtain ⟨w', hr, e1, nn, sz, f1, f2, f3⟩ := run_storeC (P := P) b o1 T fr ((c.drop o2).take (min k m)) 0 c w hw hq (by omega) h1'
  rw [hlen, Nat.add_zero] at e1
  have hf := run_firstCells_some (P := P) w 1 (min k m) ⟨b, o2, none⟩ k cap' ((c.drop o2).take (min k m)) (by omega) hcell
  have hn' : Nat.min k m = min k m := rfl
  refine wpList_value rfl (v := .int .i64 (min k m : Nat)) (w' := w') ?_ (h _ _ ⟨s.tm.put hd _, s.defers, i.set_cl (fr := fr) ?_ e1 nn sz f1 f2 f3⟩)
  · have hc : (Builtin.copy_ #[t, t] ty #[.slice (some ⟨b, o1, none⟩) m cap, .slice (some ⟨b, o2, none⟩) k cap']).run P w = .ok (.int .i64 (min k m : Nat)) w' := by
      simp only [Builtin.copy_, List.getElem?_toArray, List.getElem?_cons_zero, List.getElem?_cons_succ, Sem.run_bind, run_underlying (ke.under ht), Result.andThen, Builtin.lenOf, Sem.run_pure, run_size ke he, hn', hf, List.toList_toArray, hr, goInt]
    simp only [execOp, resolve, invoke, builtin, Sem.run_bind, Sem.run_pure, Result.andThen_ok, List.map_toArray, List.map_cons, List.map_nil, ev_sound s.tm hx, ev_sound s.tm hy, hc]
  · intro o ho
    refine hq o ?_
    simp only [List.length_append, hlen, List.length_take, List.length_drop] at ho ⊢
    omega

/-- Cells copied out of another row. -/
theorem l_copy_row {E : Env} {Q : Exit → Act → World → Prop} {tm : List (Nat × Value)} {D : List Deferred} {H' : List SProp} {ops rest : List Oper} {ty : TypeId} {pos : String} {after : Array Edge} {d t e b b2 o1 o2 m k cap cap' by' : Nat} {x y : Operand} {T T2 : TypeId} {c r : List Value} {H2 : List SProp} {z : Value} (ke : EnvOk P E) (hd : Nat.blt d n = true)
    (hx : ev tm x = some (.slice (some ⟨b, o1, none⟩) m cap)) (hy : ev tm y = some (.slice (some ⟨b2, o2, none⟩) k cap')) (ht : look E.ty t = some (.slice e)) (he : look E.inf e = some (z, 1, by')) (tk : Take (cl b T c) H H') (tb : Take (cl b2 T2 r) H' H2)
    (h1 : ∀ u ∈ r, u.oneCell' = true) (hb : o1 + m ≤ c.length ∧ o2 + k ≤ r.length)
    (h : L P n w0 F0 ops.toArray rest Q ((d, .int .i64 (min k m : Nat)) :: tm) D (cl b T (c.take o1 ++ (r.drop o2).take (min k m) ++ c.drop (o1 + min k m)) :: H')) :
    L P n w0 F0 ops.toArray (⟨some d, .call { callee := .builtin .copy, args := #[x, y], argTypes := #[t, t] }, ty, pos, after, none⟩ :: rest) Q tm D H := by
  intro a w s
  have i := s.inv.take tk
  obtain ⟨fr, hq, hw⟩ := i.cell
  obtain ⟨hb1, hb2⟩ := hb
  have i2 := i.parts (Parts.cons (Take.there tb) Parts.nil)
  obtain ⟨fr2, _, hw2⟩ := Inv.cell (i2 : Inv w0 F0 (cl b2 T2 r :: _) w)
  have hlen : ((r.drop o2).take (min k m)).length = min k m := by rw [List.length_take, List.length_drop]; omega
  have hcell : ∀ j u, ((r.drop o2).take (min k m))[j]? = some u → w.cell? ((⟨b2, o2, none⟩ : Addr).add j) = some u := by
    intro j u hu
    have hj : j < min k m := by have := (List.getElem?_eq_some_iff.1 hu).1; omega
    rw [List.getElem?_take_of_lt hj, List.getElem?_drop] at hu
    rw [addr_add, cell_at hw2]
    simpa using hu
  have h1' : ∀ u ∈ (r.drop o2).take (min k m), u.oneCell' = true := fun u hu => h1 u (List.mem_of_mem_drop (List.mem_of_mem_take hu))
  obtain ⟨w', hr, e1, nn, sz, f1, f2, f3⟩ := run_storeC (P := P) b o1 T fr ((r.drop o2).take (min k m)) 0 c w hw hq (by omega) h1'
  rw [hlen, Nat.add_zero] at e1
  have hf := run_firstCells_some (P := P) w 1 (min k m) ⟨b2, o2, none⟩ k cap' ((r.drop o2).take (min k m)) (by omega) hcell
  have hn' : Nat.min k m = min k m := rfl
  refine wpList_value rfl (v := .int .i64 (min k m : Nat)) (w' := w') ?_ (h _ _ ⟨s.tm.put hd _, s.defers, i.set_cl (fr := fr) ?_ e1 nn sz f1 f2 f3⟩)
  · have hc : (Builtin.copy_ #[t, t] ty #[.slice (some ⟨b, o1, none⟩) m cap, .slice (some ⟨b2, o2, none⟩) k cap']).run P w = .ok (.int .i64 (min k m : Nat)) w' := by
      simp only [Builtin.copy_, List.getElem?_toArray, List.getElem?_cons_zero, List.getElem?_cons_succ, Sem.run_bind, run_underlying (ke.under ht), Result.andThen, Builtin.lenOf, Sem.run_pure, run_size ke he, hn', hf, List.toList_toArray, hr, goInt]
    simp only [execOp, resolve, invoke, builtin, Sem.run_bind, Sem.run_pure, Result.andThen_ok, List.map_toArray, List.map_cons, List.map_nil, ev_sound s.tm hx, ev_sound s.tm hy, hc]
  · intro o ho
    refine hq o ?_
    simp only [List.length_append, hlen, List.length_take, List.length_drop] at ho ⊢
    omega

/-- A cell of a block that is known whole. -/
theorem l_load_p {E : Env} {Q : Exit → Act → World → Prop} {tm : List (Nat × Value)} {D : List Deferred} {H' : List SProp} {ops rest : List Oper} {ty : TypeId} {pos : String} {after : Array Edge} {d t b off : Nat} {x : Operand} {c : List Value} {T : TypeId} {fr : Nat × Nat} {v : Value} {dd : TypeDesc} (k : EnvOk P E) (hd : Nat.blt d n = true) (hx : ev tm x = some (.pointer (some ⟨b, off, none⟩)))
    (ht : Take (pts b (.cells c.toArray T fr)) H H') (hu : look E.ty t = some dd) (ha : isAggTy dd = false) (hv : c[off]? = some v) (h : L P n w0 F0 ops.toArray rest Q ((d, v) :: tm) D H) :
    L P n w0 F0 ops.toArray (⟨some d, .load t x, ty, pos, after, none⟩ :: rest) Q tm D H :=
  fun a w s => by
    have hw := (s.inv.take ht).get
    refine wpList_value rfl (v := v) (w' := w) ?_ (h _ _ (s.put hd v))
    have : partV E t c off = some v := by unfold partV; rw [hu]; simp only [ha, cond_false]; rw [nth_eq]; exact hv
    simp [execOp, ev_sound s.tm hx, run_loadAt k hw this]
theorem a_load_p {E : Env} {Q : Exit → Act → World → Prop} {tm : List (Nat × Value)} {D : List Deferred} {ops : List Oper} {ty : TypeId} {pos : String} {after : Array Edge} {Hs Hs' : List SProp} {listed : Array Bool} {ll : List Bool} {i d t b off : Nat} {x : Operand} {c : List Value} {T : TypeId} {fr : Nat × Nat} {v : Value} {dd : TypeDesc} (k : EnvOk P E) (hs : noSel ops = true) (hi : nextLoad ops 0 listed = some i)
    (ho : nth ops i = some ⟨some d, .load t x, ty, pos, after, none⟩) (hd : Nat.blt d n = true) (hx : ev tm x = some (.pointer (some ⟨b, off, none⟩))) (ht : Take (pts b (.cells c.toArray T fr)) Hs Hs') (hu : look E.ty t = some dd) (ha : isAggTy dd = false) (hv : c[off]? = some v)
    (hf : freeL ops.toArray i ⟨some d, .load t x, ty, pos, after, none⟩ listed ops 0 = true) (hl : listed.getD i true = false) (hr : rdyB after.toList listed = true) (hn : copyB (listed.setIfInBounds i true).toList = some ll) (hc : Calm Q)
    (h : A P n w0 F0 ops Hs ll.toArray Q ((d, v) :: tm) D H) : A P n w0 F0 ops Hs listed Q tm D H :=
  a_take (v := v) hd ho (fun c a w => hc c a w _ _) hs hf hl hr (fun a w htm ⟨F, s⟩ => by
    obtain ⟨F1, F2, ⟨e, _⟩, _⟩ := ht.sep s
    have hp : partV E t c off = some v := by unfold partV; rw [hu]; simp only [ha, cond_false]; rw [nth_eq]; exact hv
    simp [execOp, ev_sound htm hx, run_loadAt k e hp]) (by rw [copyB_arr hn]; exact h)
theorem a_yh {Q : Exit → Act → World → Prop} {tm : List (Nat × Value)} {D : List Deferred} {ops : List Oper} {ty : TypeId} {pos : String} {after : Array Edge} {Hs : List SProp} {listed : Array Bool} {i d j t : Nat} {op : Op} {want : Bool} {v : Value} (hc : Calm Q) (hs : noSel ops = true) (ho : nth ops i = some ⟨some d, op, ty, pos, after, some (j, want)⟩) (hd : Nat.blt d n = true)
    (hst : slotOf ops j = some t) (htb : tget tm t = some (.bool want)) (hb : Nat.blt t n = true)
    (hf : freeL ops.toArray i ⟨some d, op, ty, pos, after, some (j, want)⟩ listed ops 0 = true) (hl : listed.getD i true = false) (hr : rdyB after.toList listed = true)
    (hy : ∀ a w, Tm n tm a → (∃ F, sep Hs w.heap F) → (execOp a.eval ⟨some d, op, ty, pos, after, none⟩).run P w = .ok (.value v) w)
    (h : A P n w0 F0 ops Hs (listed.setIfInBounds i true) Q ((d, v) :: tm) D H) : A P n w0 F0 ops Hs listed Q tm D H := by
  intro fuel hfu a w s hS
  have hu := unl_set hl
  obtain ⟨m, rfl⟩ : ∃ m, fuel = m + 1 := ⟨fuel - 1, by omega⟩
  have hi : ops.toArray[i]? = some ⟨some d, op, ty, pos, after, some (j, want)⟩ := by rw [nth_eq] at ho; simpa using ho
  refine wpAnyH_first hi (fun j o cs b hj => noSel_spec hs j o cs b (by simpa using hj)) (fun c a w => hc c a w _ _) m listed a w ?_ (mem_ready.2 ⟨hl, _, hi, rdyB_iff.1 hr⟩) (v := v) ?_ hS (h m (by omega) _ _ (s.put hd v) hS)
  · intro j oj hj hne hun hno
    exact freeL_spec hf j oj (by simpa using hj) (by omega) (by simpa using hun) hno
  · exact .inl ⟨by simp [Region.wanted, yielded_some s.tm hst htb hb], fun w hw => by
      have := hy a w s.tm hw
      simpa [execOp] using this⟩
/-- A guarded load of a cell of a block that is held whole. -/
theorem a_loadg_p {E : Env} {Q : Exit → Act → World → Prop} {tm : List (Nat × Value)} {D : List Deferred} {ops : List Oper} {ty : TypeId} {pos : String} {after : Array Edge} {Hs Hs' : List SProp} {listed : Array Bool} {ll : List Bool} {i d j ts t b off : Nat} {want : Bool} {x : Operand} {c : List Value} {T : TypeId} {fr : Nat × Nat} {v : Value} {dd : TypeDesc} (k : EnvOk P E) (hs : noSel ops = true) (hi : nextR ops 0 listed = some i)
    (ho : nth ops i = some ⟨some d, .load t x, ty, pos, after, some (j, want)⟩) (hd : Nat.blt d n = true) (hst : slotOf ops j = some ts) (htb : tget tm ts = some (.bool want)) (hb : Nat.blt ts n = true) (hx : ev tm x = some (.pointer (some ⟨b, off, none⟩))) (ht : Take (pts b (.cells c.toArray T fr)) Hs Hs') (hu : look E.ty t = some dd) (ha : isAggTy dd = false) (hv : c[off]? = some v)
    (hf : freeL ops.toArray i ⟨some d, .load t x, ty, pos, after, some (j, want)⟩ listed ops 0 = true) (hl : listed.getD i true = false) (hr : rdyB after.toList listed = true) (hn : copyB (listed.setIfInBounds i true).toList = some ll) (hc : Calm Q)
    (h : A P n w0 F0 ops Hs ll.toArray Q ((d, v) :: tm) D H) : A P n w0 F0 ops Hs listed Q tm D H :=
  a_yh (v := v) hc hs ho hd hst htb hb hf hl hr (fun a w htm ⟨F, s⟩ => by
    obtain ⟨F1, F2, ⟨e, _⟩, _⟩ := ht.sep s
    have hp : partV E t c off = some v := by unfold partV; rw [hu]; simp only [ha, cond_false]; rw [nth_eq]; exact hv
    simp [execOp, ev_sound htm hx, run_loadAt k e hp]) (by rw [copyB_arr hn]; exact h)
theorem a_loadg {E : Env} {Q : Exit → Act → World → Prop} {tm : List (Nat × Value)} {D : List Deferred} {ops : List Oper} {ty : TypeId} {pos : String} {after : Array Edge} {Hs Hs' : List SProp} {listed : Array Bool} {ll : List Bool} {i d j ts t b off : Nat} {want : Bool} {x : Operand} {c : List Value} {T : TypeId} {v : Value} {dd : TypeDesc} (k : EnvOk P E) (hs : noSel ops = true) (hi : nextR ops 0 listed = some i)
    (ho : nth ops i = some ⟨some d, .load t x, ty, pos, after, some (j, want)⟩) (hd : Nat.blt d n = true) (hst : slotOf ops j = some ts) (htb : tget tm ts = some (.bool want)) (hb : Nat.blt ts n = true) (hx : ev tm x = some (.pointer (some ⟨b, off, none⟩))) (ht : Take (cl b T c) Hs Hs') (hu : look E.ty t = some dd) (ha : isAggTy dd = false) (hv : c[off]? = some v)
    (hf : freeL ops.toArray i ⟨some d, .load t x, ty, pos, after, some (j, want)⟩ listed ops 0 = true) (hl : listed.getD i true = false) (hr : rdyB after.toList listed = true) (hn : copyB (listed.setIfInBounds i true).toList = some ll) (hc : Calm Q)
    (h : A P n w0 F0 ops Hs ll.toArray Q ((d, v) :: tm) D H) : A P n w0 F0 ops Hs listed Q tm D H :=
  a_yh (v := v) hc hs ho hd hst htb hb hf hl hr (fun a w htm ⟨F, s⟩ => by
    obtain ⟨F1, F2, ⟨⟨fr, _, e⟩, _⟩, _⟩ := ht.sep s
    have hp : partV E t c off = some v := by unfold partV; rw [hu]; simp only [ha, cond_false]; rw [nth_eq]; exact hv
    simp [execOp, ev_sound htm hx, run_loadAt k e hp]) (by rw [copyB_arr hn]; exact h)
theorem sameK_self (k : IntKind) : sameK k k = true := by cases k <;> rfl
theorem nzI_of {y : Int} (h : y ≠ 0) : nzI y = true := by unfold nzI; first | simpa using h | (split <;> simp_all) | (cases y <;> simp_all)
theorem v_rem {E : Env} {tm : List (Nat × Value)} {t t2 : Nat} {x y : Operand} {kk : IntKind} {u m : Int} (k : EnvOk P E) (hx : ev tm x = some (.int kk u)) (hy : ev tm y = some (.int kk m)) (hm : m ≠ 0) : V P n tm (.binOp .rem t x y t2) (.int kk (u.tmod m)) :=
  v_bin k hx hy (by simp [binV, intV, sameK_self, nzI_of hm])
theorem v_quo {E : Env} {tm : List (Nat × Value)} {t t2 : Nat} {x y : Operand} {kk : IntKind} {u m : Int} (k : EnvOk P E) (hx : ev tm x = some (.int kk u)) (hy : ev tm y = some (.int kk m)) (hm : m ≠ 0) : V P n tm (.binOp .quo t x y t2) (.int kk (kk.wrap (u.tdiv m))) :=
  v_bin k hx hy (by simp [binV, intV, sameK_self, nzI_of hm])
theorem l_delete0 {α : Type} {E : Env} {Q : Exit → Act → World → Prop} {tm : List (Nat × Value)} {D : List Deferred} {H' : List SProp} {ops rest : List Oper} {ty : TypeId} {pos : String} {after : Array Edge} {t kt et b ka : Nat} {x y : Operand} {enc : α → Value} {kv : List (Int × α)} {i : Int} (k : EnvOk P E) (hx : ev tm x = some (.map (some b))) (hy : ev tm y = some (.int .i64 i))
    (ht : look E.ty t = some (.map kt et)) (hk : look E.ty kt = some (.int .i64)) (tk : Take (mp b enc kv) H H')
    (h : L P n w0 F0 ops.toArray rest Q tm D (mp b enc (kvDel kv i) :: H')) :
    L P n w0 F0 ops.toArray (⟨none, .call { callee := .builtin .delete, args := #[x, y], argTypes := #[t, ka] }, ty, pos, after, none⟩ :: rest) Q tm D H :=
  l_delete k (d := none) (fun _ q => nomatch q) hx hy ht hk tk h

/-- What is left of a division, by a number that is not 0. -/
theorem l_rem {E : Env} {Q : Exit → Act → World → Prop} {tm : List (Nat × Value)} {D : List Deferred} {ops rest : List Oper} {ty : TypeId} {pos : String} {after : Array Edge} {d t t2 : Nat} {x y : Operand} {kk : IntKind} {u m : Int} (k : EnvOk P E) (hd : Nat.blt d n = true) (hx : ev tm x = some (.int kk u)) (hy : ev tm y = some (.int kk m)) (hm : m ≠ 0)
    (h : L P n w0 F0 ops.toArray rest Q ((d, .int kk (u.tmod m)) :: tm) D H) : L P n w0 F0 ops.toArray (⟨some d, .binOp .rem t x y t2, ty, pos, after, none⟩ :: rest) Q tm D H :=
  l_bin k hd hx hy (by simp [binV, intV, sameK_self, nzI_of hm]) h
theorem l_quo {E : Env} {Q : Exit → Act → World → Prop} {tm : List (Nat × Value)} {D : List Deferred} {ops rest : List Oper} {ty : TypeId} {pos : String} {after : Array Edge} {d t t2 : Nat} {x y : Operand} {kk : IntKind} {u m : Int} (k : EnvOk P E) (hd : Nat.blt d n = true) (hx : ev tm x = some (.int kk u)) (hy : ev tm y = some (.int kk m)) (hm : m ≠ 0)
    (h : L P n w0 F0 ops.toArray rest Q ((d, .int kk (kk.wrap (u.tdiv m))) :: tm) D H) : L P n w0 F0 ops.toArray (⟨some d, .binOp .quo t x y t2, ty, pos, after, none⟩ :: rest) Q tm D H :=
  l_bin k hd hx hy (by simp [binV, intV, sameK_self, nzI_of hm]) h
theorem v_slice {E : Env} {tm : List (Nat × Value)} {t e b off len cap sz by' : Nat} {x : Operand} {lo hi : Option Operand} {jl jh : Int} {z : Value} (k : EnvOk P E) (hx : ev tm x = some (.slice (some ⟨b, off, none⟩) len cap)) (ht : look E.ty t = some (.slice e)) (he : look E.inf e = some (z, sz, by'))
    (h1 : evO tm 0 lo = some jl) (h2 : evO tm len hi = some jh) (hb : 0 ≤ jl ∧ jl ≤ jh ∧ jh ≤ cap) (hl : len ≤ cap) (hlt : jl < cap) : V P n tm (.slice t x lo hi none) (.slice (some ⟨b, off + jl.toNat * sz, none⟩) (jh.toNat - jl.toNat) (cap - jl.toNat)) := by
  intro a dst ty pos after w htm
  have ha : (⟨b, off, none⟩ : Addr).add (jl.toNat * sz) = ⟨b, off + jl.toNat * sz, none⟩ := by unfold Addr.add; split <;> simp_all
  have hr := run_bounds (P := P) (isS := true) (w := w) htm h1 h2 hb hl
  simp only [execOp, ev_sound htm hx, Option.map_none, Instr.sliceAt, Instr.slice, Sem.run_bind, run_underlying (k.under ht), Result.andThen, hr, Sem.run_pure, run_size k he, Option.map_some, ha]
  rw [if_neg (by omega)]
end
end Go.Proofs.Ytcbcpgaehdoekaa.SL
