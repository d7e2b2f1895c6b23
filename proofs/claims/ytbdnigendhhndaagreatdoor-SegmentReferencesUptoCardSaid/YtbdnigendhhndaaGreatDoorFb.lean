/- A part of the proofs of this seat's laws (abstract interpretation of the translated program, and contracts of its functions); no statement of its own. -/
import Derived.Test.YtbdnigendhhndaaGreatDoorFa
import Derived.Laws.Strings
import Derived.MapKept
import Derived.LoopN
set_option linter.unusedVariables false
set_option linter.unusedSimpArgs false
section
/- Simulation: slice literals, make, append. -/
namespace Go.Ev

variable {cx : Cx} {n : Nat} {L L' : Id → Loc} {I I' : Nat → Nat → Prop} {F F' : FS} {a : Act} {w w' : World} {C : Rel}

theorem mul_lt_chunk {i j m sz : Nat} (hi : i < m) (hj : j < sz) : i * sz + j < m * sz := by
  have h1 : (i + 1) * sz ≤ m * sz := Nat.mul_le_mul_right _ hi
  rw [Nat.add_mul] at h1
  omega

theorem sim_buildSlice (hcx : CxOk cx) (hs : SR cx n L I F a w) {o : Oper} {T : TypeId} {m : Nat} {parts : Array (Nat × Operand)} (ho : o.op = .buildSlice T m parts) (hd : ∀ d, o.dst = some d → d < n) {wr : Wr} {rs : List Res}
    (h : (stepOp cx o).ev C F wr rs) : Ok1 cx n L I F a w o wr := by
  simp only [stepOp, ho] at h
  (replace h := withTy_ev h); obtain ⟨ti, hti, h⟩ := h
  have hund := (hcx.ty _ _ hti).und
  split at h
  · rename_i e hk
    rw [hk] at hund
    simp only at hund
    (replace h := withTy_ev h); obtain ⟨te, hte, h⟩ := h
    have hte' := hcx.ty _ _ hte
    (replace h := rdVs_ev hs h); obtain ⟨vs, rs1, hvs, h⟩ := h
    split at h
    · exact h.elim
    · rename_i hbad
      have hz0 : te.sz ≠ 0 := fun hh => hbad (.inl hh)
      have hbig : ¬ m * te.sz > 2 ^ 24 := fun hh => hbad (.inr hh)
      obtain ⟨ie, z, hie, hse, _, hz, hzc⟩ := hte'.ex
      have hlen : (parts.toList.map (·.1)).length = vs.length := by rw [hvs.length]; simp
      have hp := all2_zip hvs (parts.toList.map (·.1)) hlen
      rw [← zip_map] at hp
      have hzl : te.zero.length = te.sz := hte'.zsz
      have hzs : z.cells.size = te.sz := by rw [← hzl, ← hzc]; simp
      have hzr : All2 (fun c y => one y = true ∧ VR L F.sh I w c y) (List.replicate m (zeroAVs te)).flatten ((Array.range (m * ie.size)).map (z.cells[· % z.cells.size]!)).toList := by
        have hzr0 := zeros_rel (L := L) (F := F) (I := I) (w := w) hte' hzc
        have hza : (zeroAVs te).length = te.sz := by simp [zeroAVs, hzl]
        refine All2.of_get (by simp [hza, hse]) fun i c y hi hy => ?_
        rw [flat_get, hza] at hi
        split at hi
        · rename_i hlt
          simp only [Array.toList_map, List.getElem?_map, Option.map_eq_some_iff] at hy
          obtain ⟨k, hk, rfl⟩ := hy
          have : k = i := by
            rw [Array.toList_range, List.getElem?_range (by rw [hse]; exact hlt)] at hk
            exact (Option.some.inj hk).symm
          subst this
          have hmod : k % z.cells.size < z.cells.size := Nat.mod_lt _ (by omega)
          refine hzr0.get (k % te.sz) c _ hi ?_
          rw [← hzs]
          simp [hmod]
        · cases hi
      split at h
      · rename_i cs hcs
        obtain ⟨out, hf, hrel⟩ := fill_rel (pl := fun i => some (i * ie.size, ie.size)) (fun i y hy => by
          simp only [List.getElem?_map, Option.map_eq_some_iff] at hy
          obtain ⟨k, hk, rfl⟩ := hy
          have hlt : i < m := by have := (List.getElem?_eq_some_iff.1 hk).1; simpa using this
          rw [List.getElem?_range hlt] at hk
          cases hk
          rw [hse]) hp hzr hcs
        obtain ⟨ds, ov, rs2, hok, _, hds, h⟩ := toPVs_ev hs hrel h (by intro x hx; cases hx)
        obtain ⟨d, hod, hfree, rfl⟩ := newO_ev h
        have hcsl : cs.length = m * te.sz := by
          have : ∀ {fs : List (Nat × Nat)} {parts : List (Nat × AV)} {zs cs : List AV}, place fs zs parts = some cs → cs.length = zs.length := by
            intro fs parts
            induction parts with
            | nil => intro zs cs h; cases h; rfl
            | cons p r ih =>
              intro zs cs h
              obtain ⟨i, v⟩ := p
              simp only [place] at h
              split at h
              · split at h
                · split at h
                  · rename_i hc
                    rw [ih h]
                    simp
                    omega
                  · cases h
                · cases h
              · cases h
          rw [this hcs]
          simp [zeroAVs, hzl]
        have hsize : out.size = m * te.sz := by rw [← hcsl, hrel.length]; simp
        refine Ok1.frz hs hok ?_
        obtain ⟨hs1, st1⟩ := hs.freeze hok
        by_cases hm0 : m = 0
        · subst hm0
          refine Ok1.arr (w0 := w) (xs := #[]) (T := e) (c := 0) (es := []) hs1 hod (hd d hod) ?_ rfl rfl rfl rfl (ov_none hok hfree) (by omega) (by simp) rfl (Nat.le_refl _) (by simp) (by simp)
          have hne : ∀ ps, Instr.fill (fun i => some (i * ie.size, ie.size)) #[] ps = some out → out = #[] := fun ps _ => by
            have : out.size = 0 := by rw [hsize]; simp
            exact Array.eq_empty_of_size_eq_zero this
          have e0 : Array.range 0 = #[] := rfl
          have hf' : Instr.fill (fun i => some (i * ie.size, ie.size)) #[] (parts.toList.map fun p => (p.1, a.eval p.2)) = some out := by
            simp only [Nat.zero_mul, e0] at hf
            simpa using hf
          have ho' := hne _ hf'
          subst ho'
          simp [execOp, ho, Instr.buildSlice, run_underlying hund, sizeOf, typeInfo, hie, hf', newRow, e0]
        · refine Ok1.arr (w0 := w) (xs := out) (T := e) (c := m) hs1 hod (hd d hod) ?_ rfl rfl rfl rfl (ov_none hok hfree) (by omega) (fun i row hi => ?_) (by simp) (Nat.le_refl _) hsize fun i j row q hi hj => ?_
          · have hb := run_buildSlice (P := cx.P) w T e m (parts.map fun p => (p.1, a.eval p.2)) out ie z hund hie hz (by rw [hse]; exact hbig) (by rw [hse]; exact Nat.mul_ne_zero hm0 hz0) (by simpa using hf)
            simp [execOp, ho, hb]
          · obtain ⟨hlt, rfl⟩ := chunk_get hi
            have : ds.length = m * te.sz := by rw [hds.length]; simpa using hsize
            have h1 := mul_lt_chunk (sz := te.sz) (j := te.sz - 1) hlt (by omega)
            simp only [List.length_take, List.length_drop, this]
            omega
          · obtain ⟨hlt, rfl⟩ := chunk_get hi
            rw [List.getElem?_take] at hj
            split at hj
            · rename_i hj1
              rw [List.getElem?_drop] at hj
              have h1 : i * te.sz + j < out.size := by rw [hsize]; exact mul_lt_chunk hlt hj1
              exact ⟨out[i * te.sz + j], Array.getElem?_eq_getElem h1, hds.get _ q _ hj (by simp [h1])⟩
            · cases hj
      · exact h.elim
  · exact h.elim

theorem sim_makeSlice (hcx : CxOk cx) (hs : SR cx n L I F a w) {o : Oper} {T : TypeId} {l c : Operand} (ho : o.op = .makeSlice T l c) (hd : ∀ d, o.dst = some d → d < n) {wr : Wr} {rs : List Res}
    (h : (stepOp cx o).ev C F wr rs) : Ok1 cx n L I F a w o wr := by
  simp only [stepOp, ho] at h
  (replace h := withTy_ev h); obtain ⟨ti, hti, h⟩ := h
  have hund := (hcx.ty _ _ hti).und
  split at h
  · rename_i e hk
    rw [hk] at hund
    simp only at hund
    (replace h := withTy_ev h); obtain ⟨te, hte, h⟩ := h
    have hte' := hcx.ty _ _ hte
    (replace h := rdV_ev hs h); obtain ⟨lv, rs1, hlv, h⟩ := h
    (replace h := rdV_ev hs h); obtain ⟨cv, rs2, hcv, h⟩ := h
    (replace h := asI_ev hlv h); obtain ⟨kl, l', rfl, hl, h⟩ := h
    (replace h := asI_ev hcv h); obtain ⟨kc, c', rfl, hc, h⟩ := h
    split at h
    · exact h.elim
    · rename_i hz0
      obtain ⟨⟨h0, h1, h2, h3⟩, h⟩ := h
      obtain ⟨ie, z, hie, hse, hby, hz, hzc⟩ := hte'.ex
      have hzl : te.zero.length = te.sz := hte'.zsz
      have hzs : z.cells.size = te.sz := by rw [← hzl, ← hzc]; simp
      obtain ⟨row, ov, rs3, hok, _, hrow, h⟩ := toPVs_ev hs (zeros_rel (L := L) (F := F) (I := I) (w := w) hte' hzc) h (by intro x hx; cases hx)
      obtain ⟨d, hod, hfree, rfl⟩ := newO_ev h
      have hrl : row.length = te.sz := by rw [hrow.length]; simpa using hzs
      refine Ok1.frz hs hok ?_
      obtain ⟨hs1, st1⟩ := hs.freeze hok
      have hr := run_make (P := cx.P) w T e ie z hund hie hz kl kc l' c' h0 h1 (by rw [hby, Int.mul_comm]; simp only [maxBytes] at h2; omega) (by omega)
      refine Ok1.arr (w0 := w) (xs := madeCells z.cells (c'.toNat * ie.size)) (T := e) (c := c'.toNat) hs1 hod (hd d hod) ?_ rfl rfl rfl rfl (ov_none hok hfree) (by omega) (fun i r hi => ?_) (by simp) (by omega) (by simp [madeCells, hse]) fun i j r q hi hj => ?_
      · simp [execOp, ho, hl, hc, hr]
      · rw [List.getElem?_replicate] at hi
        split at hi
        · cases hi; exact hrl
        · cases hi
      · rw [List.getElem?_replicate] at hi
        split at hi
        · rename_i hlt
          cases hi
          have hj1 : j < te.sz := by rw [← hrl]; exact (List.getElem?_eq_some_iff.1 hj).1
          have hlt2 : i * te.sz + j < c'.toNat * te.sz := mul_lt_chunk (by omega) hj1
          have hmod : (i * te.sz + j) % te.sz = j := by rw [Nat.mul_comm, Nat.mul_add_mod]; exact Nat.mod_eq_of_lt hj1
          refine ⟨z.cells[j]'(by omega), ?_, hrow.get j q _ hj (by simp)⟩
          simp [madeCells, hse, hlt2, hzs, hmod, hj1]
        · cases hi
  · exact h.elim

theorem sim_slice (hcx : CxOk cx) (hs : SR cx n L I F a w) {o : Oper} {T : TypeId} {x : Operand} {lo hi : Option Operand} (ho : o.op = .slice T x lo hi none) (hd : ∀ d, o.dst = some d → d < n) {wr : Wr} {rs : List Res}
    (h : (stepOp cx o).ev C F wr rs) : Ok1 cx n L I F a w o wr := by
    simp only [stepOp, ho] at h
    (replace h := withTy_ev h); obtain ⟨ti, hti, h⟩ := h
    have hund := (hcx.ty _ _ hti).und
    (replace h := rdV_ev hs h); obtain ⟨xv, rs1, hxv, h⟩ := h
    (replace h := rdLo_ev hs h); obtain ⟨l, hlow, rs2, h⟩ := h
    (replace h := rdHi_ev hs h); obtain ⟨h', hhigh, rs3, h⟩ := h
    unfold sliceP at h
    split at h
    · rename_i s hk
      rw [hk] at hund
      simp only at hund
      obtain ⟨⟨h0, h1, h2⟩, h⟩ := h
      change (RP.ret _).ev C F wr _ at h
      refine Ok1.put hs hd ?_ (.p (.s rfl)) h
      have hb := run_sliceBounds (w := w) (P := cx.P) false (len := s.size) (cap := s.size) hlow hhigh h0 h1 h2
      simp [execOp, ho, Instr.sliceAt, Instr.slice, run_underlying hund, hxv.scal.1, hb]
    · rename_i e es hk
      rw [hk] at hund
      simp only at hund
      (replace h := withTy_ev h); obtain ⟨te, hte, h⟩ := h
      have hsz := (hcx.ty _ _ hte).sizeOf
      obtain ⟨⟨hrows, h0, h1, h2⟩, row, hrow, h⟩ := h
      cases hrow
      try dsimp only at h
      generalize hax : a.eval x = y at hxv
      cases hxv with
      | p hp => cases hp with
        | nil =>
          have hb := run_sliceBounds (w := w) (P := cx.P) true (len := 0) (cap := 0) hlow hhigh h0 h1 h2
          simp only [List.length_nil] at h1 h2
          have e1 : l.toNat = 0 := by omega
          have e2 : (h'.getD ((0 : Nat) : Int)).toNat = 0 := by omega
          refine Ok1.put hs hd (x := .slice none 0 0) ?_ (.p ?_) h
          · simp only [e1, e2] at hb
            simp [execOp, ho, Instr.sliceAt, Instr.slice, run_underlying hund, hax, hb, hsz]
          · simp only [List.take_nil, List.drop_nil]; exact .nil
        | @sl _ ad c sz vs hsp hc hszp hrl hI hcell hp =>
          have hb := run_sliceBounds (w := w) (P := cx.P) true (len := es.length) (cap := c) hlow hhigh h0 h1 (by omega)
          generalize hH : h'.getD (es.length : Int) = H at *
          have hlen : ((es.take H.toNat).drop l.toNat).length = H.toNat - l.toNat := by simp; omega
          have hget : ∀ (i : Nat) (row : List PV), ((es.take H.toNat).drop l.toNat)[i]? = some row → es[l.toNat + i]? = some row := by
            intro i row hi
            rw [List.getElem?_drop, List.getElem?_take] at hi
            split at hi
            · exact hi
            · cases hi
          refine Ok1.put hs hd (x := .slice (if c = l.toNat then some ad else some (ad.add (l.toNat * te.sz))) (H.toNat - l.toNat) (c - l.toNat)) ?_ (.p ?_) h
          · simp [execOp, ho, Instr.sliceAt, Instr.slice, run_underlying hund, hax, hb, hsz]
          · rw [← hlen]
            by_cases hcl : c = l.toNat
            · rw [if_pos hcl]
              have hem : (es.take H.toNat).drop l.toNat = [] := List.eq_nil_of_length_eq_zero (by rw [hlen]; omega)
              rw [hem]
              exact .sl sz vs (fun h => absurd rfl h) (by simp) hszp (by simp) (by simp) (by simp) (by simp)
            · rw [if_neg hcl]
              by_cases hem : (es.take H.toNat).drop l.toNat = []
              · rw [hem]
                exact .sl sz vs (fun h => absurd rfl h) (by simp) hszp (by simp) (by simp) (by simp) (by simp)
              · rw [addr_add' ad (hsp (by rintro rfl; simp at hem))]
                have hse : sz = te.sz := by
                  obtain ⟨row, r, hcons⟩ := List.exists_cons_of_ne_nil hem
                  have hg := hget 0 row (by rw [hcons]; rfl)
                  rw [← hrl _ _ hg]
                  exact hrows row (List.mem_of_getElem? hg)
                subst hse
                refine .sl te.sz (fun i j => vs (l.toNat + i) j) (fun _ => rfl) (by omega) hszp (fun i row hi => hrl _ _ (hget i row hi)) (fun i j row d hi hj => ?_) (fun i j row d hi hj => ?_) fun i j row d hi hj => hp _ _ _ _ (hget i row hi) hj
                · have := hI _ _ _ _ (hget i row hi) hj
                  simp only [Nat.add_mul, Nat.add_assoc] at this ⊢
                  exact this
                · have := hcell _ _ _ _ (hget i row hi) hj
                  simp only [Nat.add_mul, Nat.add_assoc] at this ⊢
                  exact this
    · rename_i m e id i j N hk
      rw [hk] at hund
      simp only at hund
      (replace h := withTy_ev h); obtain ⟨te, hte, h⟩ := h
      have hsz := (hcx.ty _ _ hte).sizeOf
      obtain ⟨rs4, _, h⟩ := h
      try dsimp only at h
      split at h
      · rename_i sz row fz hes
        (replace h := chk_ev h); obtain ⟨hc1, h⟩ := h
        simp only [Bool.and_eq_true] at hc1
        obtain ⟨c1, c2, c3, c4, c5, c6, c7, c8⟩ := hc1
        obtain rfl := Nat.eq_of_beq_eq_true c1
        obtain rfl := Nat.eq_of_beq_eq_true c2
        obtain rfl := Nat.eq_of_beq_eq_true c3
        have e4 := Nat.eq_of_beq_eq_true c4
        subst e4
        have e5 : 0 < m := by simp [Nat.blt] at c5; omega
        have e6 : 0 < te.sz := by simp [Nat.blt] at c6; omega
        have e7 : l = 0 := by simpa using c7
        subst e7
        have e8 : h' = none := by simpa using c8
        subst e8
        obtain ⟨d, hd', h⟩ := h
        cases hd'
        try dsimp only at h
        have hok : OvOk F [(id, .arr (m * te.sz) [row] 1)] := by
          intro y hy
          simp only [List.mem_singleton] at hy
          subst hy
          exact ⟨_, _, _, hes, rfl⟩
        obtain ⟨h0, hrl, hf, xs, ty, hb, hsx, hfit, hall, _⟩ := hs.obj id _ hes
        have hrow : row.length = m * te.sz := hrl 0 row rfl
        generalize hax : a.eval x = y at hxv
        cases hxv with
        | @er _ _ _ _ ad sz' N0 hsh hNN ha =>
          have hs0 : F.sh id = some (.arr (m * te.sz) 1) := by simp [FS.sh, hes, AO.sh]
          rw [hs0] at hsh
          cases hsh
          have hadr := ha rfl
          subst hadr
          have hwr := put_inv h
          subst hwr
          refine Ok1.frz (s := []) hs hok ?_
          obtain ⟨hs1, _⟩ := hs.freeze hok
          refine Ok1.put (C := C) (x := .slice (some ⟨(L id).b, 0, none⟩) m m) hs1 hd ?_ (v := .p (.sl ((List.range m).map fun i => (row.drop (i * te.sz)).take te.sz))) (.p ?_) (rs := []) ⟨rfl, rfl⟩
          · have hbd : (Instr.sliceBounds false m m (lo.map a.eval) (hi.map a.eval) none).run cx.P w = .ok (0, m, m) w := by
              have := run_sliceBounds (w := w) (P := cx.P) false (len := m) (cap := m) hlow hhigh (by omega) (by simp) (by simp)
              simpa using this
            simp [execOp, ho, Instr.sliceAt, run_underlying hund, hax, hbd, hsz, Instr.sureAddr, addr_add]
            try omega
          · have hlen : ((List.range m).map fun i => (row.drop (i * te.sz)).take te.sz).length = m := by simp
            have hget : ∀ (i : Nat) (r : List PV), ((List.range m).map fun i => (row.drop (i * te.sz)).take te.sz)[i]? = some r → i < m ∧ r = (row.drop (i * te.sz)).take te.sz := by
              intro i r hi
              rw [List.getElem?_map, Option.map_eq_some_iff] at hi
              obtain ⟨k, hk1, hk2⟩ := hi
              rw [List.getElem?_eq_some_iff] at hk1
              obtain ⟨hk1, hk3⟩ := hk1
              simp only [List.getElem_range] at hk3
              subst hk3
              exact ⟨by simpa using hk1, hk2.symm⟩
            have hcell : ∀ (i j : Nat) (r : List PV) (q : PV), ((List.range m).map fun i => (row.drop (i * te.sz)).take te.sz)[i]? = some r → r[j]? = some q → i * te.sz + j < m * te.sz ∧ row[i * te.sz + j]? = some q := by
              intro i j r q hi hj
              obtain ⟨hi1, rfl⟩ := hget i r hi
              rw [List.getElem?_take] at hj
              split at hj
              · rename_i hjs
                rw [List.getElem?_drop] at hj
                exact ⟨mul_lt_chunk hi1 hjs, hj⟩
              · cases hj
            have hmain : PR (frz L I [(id, .arr (m * te.sz) [row] 1)]) w (.sl ((List.range m).map fun i => (row.drop (i * te.sz)).take te.sz)) (.slice (some ⟨(L id).b, 0, none⟩) ((List.range m).map fun i => (row.drop (i * te.sz)).take te.sz).length m) := by
              refine .sl te.sz (fun i j => (xs[i * te.sz + j]?).getD undef) (fun _ => rfl) (by rw [hlen]; exact Nat.le_refl _) e6 (fun i r hi => ?_) (fun i j r q hi hj => ?_) (fun i j r q hi hj => ?_) fun i j r q hi hj => ?_
              · obtain ⟨hi1, rfl⟩ := hget i r hi
                have h1 : (i + 1) * te.sz ≤ m * te.sz := Nat.mul_le_mul_right _ hi1
                rw [Nat.add_mul] at h1
                simp only [List.length_take, List.length_drop, hrow]
                omega
              · obtain ⟨hlt, _⟩ := hcell i j r q hi hj
                exact .inr ⟨_, List.mem_cons_self, _, _, _, rfl, rfl, by simpa using hlt⟩
              · obtain ⟨hlt, hq⟩ := hcell i j r q hi hj
                obtain ⟨z, hz, hp⟩ := hall 0 (i * te.sz + j) row q rfl hq
                simp only [Nat.zero_mul, Nat.zero_add] at hz
                rw [Nat.zero_add, cell_of hb, hz]
                rfl
              · obtain ⟨hlt, hq⟩ := hcell i j r q hi hj
                obtain ⟨z, hz, hp⟩ := hall 0 (i * te.sz + j) row q rfl hq
                simp only [Nat.zero_mul, Nat.zero_add] at hz
                rw [hz]
                exact hp.mono (frz_sub L I _) (fun _ _ _ => rfl)
            rw [hlen] at hmain
            exact hmain
      · exact h.elim
    · rename_i e id off m N hk
      rw [hk] at hund
      simp only at hund
      (replace h := withTy_ev h); obtain ⟨te, hte, h⟩ := h
      have hsz := (hcx.ty _ _ hte).sizeOf
      obtain ⟨rs4, _, h⟩ := h
      try dsimp only at h
      split at h
      · rename_i sz es fz hes
        (replace h := chk_ev h); obtain ⟨hc1, h⟩ := h
        obtain ⟨⟨hN, h0, h1, h2⟩, h⟩ := h
        have hse := Nat.eq_of_beq_eq_true hc1
        subst hse
        generalize hax : a.eval x = y at hxv
        cases hxv with
        | @ms _ _ _ _ ad c sz' N0 hsh hNN ha =>
          have hs0 : F.sh id = some (.arr te.sz es.length) := by simp [FS.sh, hes, AO.sh]
          rw [hs0] at hsh
          cases hsh
          obtain ⟨g1, g2, g3, g4, g5, g6⟩ := ha hN.symm
          have hb := run_sliceBounds (w := w) (P := cx.P) true (len := m) (cap := c) hlow hhigh h0 h1 (by omega)
          generalize hH : h'.getD (m : Int) = H at *
          refine Ok1.put hs hd (x := .slice (some (if c = l.toNat then ad else ad.add (l.toNat * te.sz))) (H.toNat - l.toNat) (c - l.toNat)) ?_ ?_ h
          · simp [execOp, ho, Instr.sliceAt, Instr.slice, run_underlying hund, hax, hb, hsz]
            split <;> rfl
          · refine .ms te.sz es.length hs0 hNN fun _ => ⟨by omega, by omega, ?_, fun hc0 => ?_, ?_, by omega⟩
            · split
              · exact g3
              · rw [addr_add' ad g3]
            · rw [if_neg (by omega), g4 (by omega), addr_add]
              simp [Nat.add_mul]
            · have : off + l.toNat + (c - l.toNat) = off + c := by omega
              rw [this]
              exact g5
      · exact h.elim
    · exact h.elim

end Go.Ev
end
section
/- Simulation: append, fields, stores. -/
namespace Go.Ev

variable {cx : Cx} {n : Nat} {L L' : Id → Loc} {I I' : Nat → Nat → Prop} {F F' : FS} {a : Act} {w w' : World} {C : Rel}

/-- An object set and a result put. -/
theorem Ok1.set (hs : SR cx n L I F a w) {o : Oper} (hd : ∀ d, o.dst = some d → d < n) {id : Id} {ob : AO} {l : Loc} {v : AV} {x : Value} {nx : Next}
    (hr : (execOp a.eval o).run cx.P w = .ok nx w') (hn : nx = .value x ∨ (nx = .skip ∧ x = undef))
    (hid : match F.gs id with
      | none => w.heap.size ≤ l.b
      | some o => Compat (L id) l o.sh ob.sh ∧ (l.b = (L id).b ∨ w.heap.size ≤ l.b))
    (hos : w'.os = w.os) (htp : w'.tape = w.tape) (hou : w'.output = w.output) (hsz : w.heap.size ≤ w'.heap.size)
    (hfr : ∀ b, b < w.heap.size → b ≠ l.b → w'.heap[b]? = w.heap[b]?)
    (hcell : ∀ b o, I b o → w'.cell? ⟨b, o, none⟩ = w.cell? ⟨b, o, none⟩)
    (hor : OR (updL L id l) (F.setS id ob).sh I w' l ob)
    (hv : VR (updL L id l) (F.setS id ob).sh I w' v x)
    (hl : (∀ b, ¬ l.own b) ∨ ((F.gs id).isSome = true ∧ l.own = (L id).own) := by first | exact .inl fun _ h => h | exact .inr ⟨Option.isSome_iff_exists.2 ⟨_, by assumption⟩, rfl⟩) :
    Ok1 cx n L I F a w o { e := dstW o v, s := [(id, ob)] } := by
  obtain ⟨h1, h2⟩ := hs.set id ob l hid (fun b hb => hl.elim (fun h => absurd hb (h b)) fun h => ⟨h.1, h.2 ▸ hb⟩) hos htp hou hsz hfr hcell hor
  exact ⟨x, nx, w', hr, hn, updL L id l, I, by rw [FS.app_split]; exact h1.put hv hd, by rw [FS.app_split]; exact h2.put _⟩

/-- A slice's content in memory. -/
structure Src (I : Nat → Nat → Prop) (w : World) (z : Nat) (y : Value) (new : List (List PV)) : Prop where
  rl : RowsAre z new
  val : (y = .slice none 0 0 ∧ new = []) ∨ ∃ ad c, y = .slice (some ad) new.length c
  cells : ∃ news : List Value, news.length = new.length * z ∧ (∀ ad m c, y = .slice (some ad) m c → ∀ (j : Nat) (u : Value), news[j]? = some u → w.cell? (ad.add j) = some u) ∧ (∀ u ∈ news, u.oneCell' = true) ∧
    ∀ (i j : Nat) (row : List PV) (q : PV), new[i]? = some row → row[j]? = some q → ∃ x, news[i * z + j]? = some x ∧ PR I w q x

theorem Src.of_pure {z : Nat} {es : List (List PV)} {y : Value} (h : PR I w (.sl es) y) (hr : RowsAre z es) : Src I w z y es := by
  cases h with
  | nil => exact ⟨hr, .inl ⟨rfl, rfl⟩, [], by simp, by simp, by simp, by simp⟩
  | @sl _ ad c sz vs h0 hc hsz hrow hI hcell hp =>
    have hz : ∀ (i : Nat) (row : List PV), es[i]? = some row → row.length = z := fun i row hi => hr row (List.mem_of_getElem? hi)
    have hse : ∀ (i : Nat) (row : List PV), es[i]? = some row → sz = z := fun i row hi => by rw [← hrow i row hi, hz i row hi]
    have hidx : ∀ k, k < es.length * z → ∃ row q, es[k / z]? = some row ∧ row[k % z]? = some q := by
      intro k hk
      have hz0 : 0 < z := by rcases Nat.eq_zero_or_pos z with h | h; rw [h] at hk; simp at hk; exact h
      have h1 : k / z < es.length := (Nat.div_lt_iff_lt_mul hz0).2 hk
      have h2 := hz _ _ (List.getElem?_eq_getElem h1)
      have h3 : k % z < es[k / z].length := by rw [h2]; exact Nat.mod_lt _ hz0
      exact ⟨_, _, List.getElem?_eq_getElem h1, List.getElem?_eq_getElem h3⟩
    have hget : ∀ (k : Nat) (u : Value), ((List.range (es.length * z)).map fun k => vs (k / z) (k % z))[k]? = some u → k < es.length * z ∧ u = vs (k / z) (k % z) := by
      intro k u hu
      simp only [List.getElem?_map, Option.map_eq_some_iff] at hu
      obtain ⟨k', hk', rfl⟩ := hu
      have hlt : k < es.length * z := by have := (List.getElem?_eq_some_iff.1 hk').1; simpa using this
      rw [List.getElem?_range hlt] at hk'
      cases hk'
      exact ⟨hlt, rfl⟩
    refine ⟨hr, .inr ⟨ad, c, rfl⟩, (List.range (es.length * z)).map fun k => vs (k / z) (k % z), by simp, ?_, ?_, ?_⟩
    · intro ad' m c' he j u hu
      cases he
      obtain ⟨hlt, rfl⟩ := hget j u hu
      obtain ⟨row, q, h1, h2⟩ := hidx j hlt
      have := hcell _ _ _ _ h1 h2
      rw [hse _ _ h1] at this
      rw [addr_add' ad (h0 (by rintro rfl; simp at h1))]
      have hdm : j / z * z + j % z = j := by rw [Nat.mul_comm]; exact Nat.div_add_mod j z
      rw [Nat.add_assoc, hdm] at this
      exact this
    · intro u hu
      obtain ⟨k, hk⟩ := List.getElem?_of_mem hu
      obtain ⟨hlt, rfl⟩ := hget k u hk
      obtain ⟨row, q, h1, h2⟩ := hidx k hlt
      exact one_cell' (hp _ _ _ _ h1 h2).one
    · intro i j row q hi hj
      have h2 := hz _ _ hi
      have hj1 : j < z := by rw [← h2]; exact (List.getElem?_eq_some_iff.1 hj).1
      have hlt := mul_lt_chunk (List.getElem?_eq_some_iff.1 hi).1 hj1
      have hd : (i * z + j) / z = i := by rw [Nat.mul_comm, Nat.mul_add_div (by omega), Nat.div_eq_of_lt hj1]; rfl
      have hm : (i * z + j) % z = j := by rw [Nat.mul_comm, Nat.mul_add_mod]; exact Nat.mod_eq_of_lt hj1
      refine ⟨vs i j, ?_, hp _ _ _ _ hi hj⟩
      simp [hlt, hd, hm]

theorem Src.of_ms (hs : SR cx n L I F a w) {id : Id} {off m N : Nat} {x : Value} (hv : VR L F.sh I w (.ms id off m N) x) {sz fz : Nat} {es : List (List PV)} (hg : F.gs id = some (.arr sz es fz))
    (hN : es.length = N) (hle : off + m ≤ N) : Src I w sz x ((es.drop off).take m) := by
  cases hv with
  | @ms _ _ _ _ ad c sz' N0 hsh hNN ha =>
    have hs0 : F.sh id = some (.arr sz es.length) := by simp [FS.sh, hg, AO.sh]
    rw [hs0] at hsh
    cases hsh
    obtain ⟨g1, g2, g3, g4, g5, g6⟩ := ha hN.symm
    obtain ⟨h0, hrl, hf, xs, e, hb, hsz, hfit, hall, _⟩ := hs.obj id _ hg
    have hlen : ((es.drop off).take m).length = m := by simp; omega
    have hget : ∀ (i : Nat) (row : List PV), ((es.drop off).take m)[i]? = some row → i < m ∧ es[off + i]? = some row := by
      intro i row hi
      rw [List.getElem?_take] at hi
      split at hi
      · rw [List.getElem?_drop] at hi; exact ⟨by assumption, hi⟩
      · cases hi
    have hfit2 : (off + m) * sz ≤ xs.size := by
      rw [hsz]
      exact Nat.le_trans (Nat.mul_le_mul_right _ (by omega)) hfit
    have hnl : ((xs.toList.drop (off * sz)).take (m * sz)).length = m * sz := by
      simp only [List.length_take, List.length_drop, Array.length_toList]
      rw [Nat.add_mul] at hfit2
      omega
    have hng : ∀ (j : Nat) (u : Value), ((xs.toList.drop (off * sz)).take (m * sz))[j]? = some u → j < m * sz ∧ xs[off * sz + j]? = some u := by
      intro j u hu
      rw [List.getElem?_take] at hu
      split at hu
      · rw [List.getElem?_drop] at hu; exact ⟨by assumption, by simpa using hu⟩
      · cases hu
    refine ⟨fun row hr => ?_, .inr ⟨ad, c, by rw [hlen]⟩, (xs.toList.drop (off * sz)).take (m * sz), by rw [hnl, hlen], ?_, ?_, ?_⟩
    · obtain ⟨i, hi⟩ := List.getElem?_of_mem hr
      exact hrl _ _ (hget i row hi).2
    · intro ad' m' c' he j u hu
      cases he
      obtain ⟨hlt, hx⟩ := hng j u hu
      have hm0 : m ≠ 0 := fun h => by subst h; simp at hlt
      rw [g4 (by omega), addr_add, cell_of hb]
      exact hx
    · intro u hu
      obtain ⟨k, hk⟩ := List.getElem?_of_mem hu
      obtain ⟨hlt, hx⟩ := hng k u hk
      have h1 : (off * sz + k) / sz < es.length := by
        rw [Nat.div_lt_iff_lt_mul h0]
        have : off * sz + m * sz ≤ es.length * sz := by rw [← Nat.add_mul]; exact Nat.mul_le_mul_right _ (by omega)
        omega
      have h2 := hrl _ _ (List.getElem?_eq_getElem h1)
      have h3 : (off * sz + k) % sz < es[(off * sz + k) / sz].length := by rw [h2]; exact Nat.mod_lt _ h0
      obtain ⟨y, hy, hp⟩ := hall _ _ _ _ (List.getElem?_eq_getElem h1) (List.getElem?_eq_getElem h3)
      have hdm : (off * sz + k) / sz * sz + (off * sz + k) % sz = off * sz + k := by rw [Nat.mul_comm]; exact Nat.div_add_mod _ _
      rw [hdm, hx] at hy
      cases hy
      exact one_cell' hp.one
    · intro i j row q hi hj
      obtain ⟨hi1, hi2⟩ := hget i row hi
      obtain ⟨y, hy, hp⟩ := hall _ j row q hi2 hj
      have hj1 : j < sz := by rw [← hrl _ _ hi2]; exact (List.getElem?_eq_some_iff.1 hj).1
      have hlt := mul_lt_chunk hi1 hj1
      refine ⟨y, ?_, hp⟩
      rw [List.getElem?_take, if_pos hlt, List.getElem?_drop, ← hy]
      rw [Nat.add_mul]
      simp [Nat.add_assoc]

theorem rows_ev {α : Type} (hs : SR cx n L I F a w) {z : Nat} {v : AV} {y : Value} (hv : VR L F.sh I w v y) {k : List (List PV) → RP α} {r : α} {rs : List Res} (h : (rows z v k).ev C F r rs) :
    ∃ new rs', Src I w z y new ∧ (k new).ev C F r rs' := by
  unfold rows at h
  split at h
  · obtain ⟨hr, h⟩ := h
    cases hv with
    | p hp => exact ⟨_, _, .of_pure hp hr, h⟩
  · cases hv with
    | p hp => cases hp with
      | s _ => exact ⟨[], _, ⟨by simp [RowsAre], .inl ⟨rfl, rfl⟩, [], by simp, by simp, by simp, by simp⟩, h⟩
  · cases hv with
    | p hp => cases hp with
      | ne => exact ⟨[], _, ⟨by simp [RowsAre], .inr ⟨_, _, rfl⟩, [], by simp, by simp, by simp, by simp⟩, h⟩
  · obtain ⟨rs1, _, h⟩ := h
    try dsimp only at h
    split at h
    · rename_i sz es fz hes
      (replace h := chk_ev h); obtain ⟨hc, h⟩ := h
      have hc' := Nat.eq_of_beq_eq_true hc
      subst hc'
      obtain ⟨⟨h1, h2⟩, h⟩ := h
      exact ⟨_, _, .of_ms hs hv hes h1 h2, h⟩
    · exact h.elim
  · exact h.elim

/-- There is room. -/
theorem run_append_room' {P : Program} (w : World) (t ty e e' : TypeId) (i : TypeInfo) (ht : P.underlying t = some (.slice e)) (hi : P.info? e = some i)
    (g sLen sCap : Nat) (cur : Array Value) (hg : w.heap[g]? = some (.cells cur e' (0, 0)))
    (a : Addr) (m c : Nat) (news : List Value) (hl : news.length = m * i.size) (hnews : ∀ j u, news[j]? = some u → w.cell? (a.add j) = some u) (h1 : ∀ u ∈ news, u.oneCell' = true)
    (hroom : sLen + m ≤ sCap) (hfit : sLen * i.size + news.length ≤ cur.size) :
    (Builtin.append_ #[t, t] ty #[.slice (some ⟨g, 0, none⟩) sLen sCap, .slice (some a) m c]).run P w =
      .ok (.slice (some ⟨g, 0, none⟩) (sLen + m) sCap) (w.setRow g (cur.toList.take (sLen * i.size) ++ news ++ cur.toList.drop (sLen * i.size + news.length)).toArray) := by
  have hf := run_firstCells_some (P := P) w i.size m a m c news hl hnews
  have hst := run_storeCells_at P g (sLen * i.size) e' news 0 cur w hg (by simpa using hfit) h1
  simp only [Nat.add_zero] at hst
  simp [Builtin.append_, run_underlying ht, sizeOf, typeInfo, hi, Builtin.lenOf, hroom, hf, Addr.add_lit, hst]

/-- Nothing is appended. -/
theorem run_append_zero {P : Program} (w : World) (t ty e : TypeId) (i : TypeInfo) (ht : P.underlying t = some (.slice e)) (hi : P.info? e = some i) (base : Option Addr) (sLen sCap : Nat) (hle : sLen ≤ sCap) (y : Value)
    (hy : y = .slice none 0 0 ∨ ∃ ad c, y = .slice (some ad) 0 c) : (Builtin.append_ #[t, t] ty #[.slice base sLen sCap, y]).run P w = .ok (.slice base sLen sCap) w := by
  rcases hy with rfl | ⟨ad, c, rfl⟩
  · cases base <;> simp [Builtin.append_, run_underlying ht, sizeOf, typeInfo, hi, Builtin.lenOf, hle, Builtin.firstCells, storeCells]
  · cases base <;> simp [Builtin.append_, run_underlying ht, sizeOf, typeInfo, hi, Builtin.lenOf, hle, Builtin.firstCells, storeCells, loadCells, loadCellsFrom]

theorem splice_get {α : Type} {l v : List α} {o : Nat} (h : o + v.length ≤ l.length) (k : Nat) :
    (l.take o ++ v ++ l.drop (o + v.length))[k]? = if k < o then l[k]? else if k < o + v.length then v[k - o]? else l[k]? := by
  have h1 : min o l.length = o := by omega
  simp only [List.getElem?_append, List.getElem?_take, List.getElem?_drop, List.length_append, List.length_take, h1]
  by_cases c1 : k < o
  · have : k < o + v.length := by omega
    simp [c1, this]
  · by_cases c2 : k < o + v.length
    · simp [c1, c2]
    · have : o + v.length + (k - (o + v.length)) = k := by omega
      simp [c1, c2, this]

/-- An object set, of whatever blocks, and a result put. -/
theorem Ok1.setG (hs : SR cx n L I F a w) {o : Oper} (hd : ∀ d, o.dst = some d → d < n) {id : Id} {ob : AO} {l : Loc} {v : AV} {x : Value} {nx : Next}
    (hr : (execOp a.eval o).run cx.P w = .ok nx w') (hn : nx = .value x ∨ (nx = .skip ∧ x = undef))
    (hid : match F.gs id with
      | none => True
      | some o => Compat (L id) l o.sh ob.sh)
    (hown : ∀ b, l.has b → b < w'.heap.size ∧ (w.heap.size ≤ b ∨ ((F.gs id).isSome = true ∧ (L id).has b)))
    (hos : w'.os = w.os) (htp : w'.tape = w.tape) (hou : w'.output = w.output) (hsz : w.heap.size ≤ w'.heap.size)
    (hfr : ∀ b, b < w.heap.size → ¬ l.has b → w'.heap[b]? = w.heap[b]?)
    (hcell : ∀ b o, I b o → w'.cell? ⟨b, o, none⟩ = w.cell? ⟨b, o, none⟩)
    (hor : OR (updL L id l) (F.setS id ob).sh I w' l ob)
    (hv : VR (updL L id l) (F.setS id ob).sh I w' v x) : Ok1 cx n L I F a w o { e := dstW o v, s := [(id, ob)] } := by
  obtain ⟨h1, h2⟩ := hs.setG id ob l hid hown hos htp hou hsz hfr hcell hor
  exact ⟨x, nx, w', hr, hn, updL L id l, I, by rw [FS.app_split]; exact h1.put hv hd, by rw [FS.app_split]; exact h2.put _⟩

theorem mapGet_at : ∀ {es : List (Value × List PV)} {k : Value} {row : List PV}, mapGet es k = some row → ∃ (i : Nat) (e : Value × List PV), es[i]? = some e ∧ keyEq k e.1 = true ∧ e.2 = row
  | [], _, _, h => by cases h
  | (k0, v0) :: r, k, row, h => by
    simp only [mapGet] at h
    cases hb : keyEq k k0 with
    | true => rw [hb] at h; cases h; exact ⟨0, (k0, v0), rfl, hb, rfl⟩
    | false =>
      rw [hb] at h
      obtain ⟨i, e, h1, h2, h3⟩ := mapGet_at h
      exact ⟨i + 1, e, by simpa using h1, h2, h3⟩
theorem keyEq_str {k : Value} {s : ByteArray} (h : keyEq k (.string s) = true) : k = .string s := by
  cases k <;> simp only [keyEq] at h <;> try cases h
  rename_i b
  have h : b.toList = s.toList := by simpa using h
  rw [ByteArray.toList_eq, ByteArray.toList_eq] at h
  cases b; cases s
  simp only [Array.toList_inj] at h
  subst h; rfl

/-- A grown slice in a new block waits to be stored. -/
theorem gm_fresh (hs : SR cx n L I F a w) {o : Oper} (hd : ∀ d, o.dst = some d → d < n) {id : Id} {es : List (Value × List PV)} {v : Nat} (hes : F.gs id = some (.gm es none v)) {k : Value} {R : List (List PV)} (hR : R ≠ [])
    {xs : Array Value} {e : TypeId} {cc : Nat} (hcc : R.length ≤ cc) (hxs : cc ≤ xs.size) (hrows : ∀ (j : Nat) (row : List PV), R[j]? = some row → ∃ d y, row = [d] ∧ xs[j]? = some y ∧ PR I w d y)
    (hr : (execOp a.eval o).run cx.P w = .ok (.value (.slice (some ⟨w.heap.size, 0, none⟩) R.length cc)) (w.drew.alloc (.cells xs e))) : Ok1 cx n L I F a w o { e := dstW o (.gn id v), s := [(id, .gm es (some (k, R)) v)] } := by
  obtain ⟨ms, kk, bs, hmap, hG⟩ := hs.obj id _ hes
  have hsome : (F.gs id).isSome = true := by rw [hes]; rfl
  have hold : ∀ b, b < w.heap.size → (w.drew.alloc (.cells xs e)).heap[b]? = w.heap[b]? := fun b hb => heap_alloc_old w.drew _ b hb
  have hnew : (w.drew.alloc (.cells xs e)).heap[w.heap.size]? = some (.cells xs e (0, 0)) := heap_alloc_new w.drew _
  have hcell : ∀ b k, I b k → (w.drew.alloc (.cells xs e)).cell? ⟨b, k, none⟩ = w.cell? ⟨b, k, none⟩ := fun b k hI => World.cell?_of_block (a := ⟨b, k, none⟩) (hold b (hs.dom b k hI))
  have hlt := hs.ownlt id hsome
  let l' : Loc := { L id with own := fun b => (L id).own b ∨ b = w.heap.size, pend := .slice (some ⟨w.heap.size, 0, none⟩) R.length cc }
  have hsz : (w.drew.alloc (.cells xs e)).heap.size = w.heap.size + 1 := by simp
  refine Ok1.setG (l := l') (x := .slice (some ⟨w.heap.size, 0, none⟩) R.length cc) (w' := w.drew.alloc (.cells xs e)) hs hd hr (.inl rfl) ?_ ?_ rfl rfl rfl (by simp) (fun b hb _ => hold b hb) hcell ?_ ?_
  · rw [hes]
    exact ⟨rfl, Nat.le_refl _, fun _ => ⟨rfl, fun h => by cases h⟩⟩
  · intro b hb
    rcases hb with hb | hb | hb
    · have := hlt b (.inl hb); exact ⟨by omega, .inr ⟨hsome, .inl hb⟩⟩
    · have := hlt b (.inr hb); exact ⟨by omega, .inr ⟨hsome, .inr hb⟩⟩
    · exact ⟨by omega, .inl (by omega)⟩
  · have hlb := hlt _ (L id).has_b
    refine ⟨ms, kk, bs, (hold _ hlb).trans hmap, ⟨hG.size, fun i e' m he hm => ?_, hG.str, hG.dist, hG.absent, fun i hi => .inl (hG.own i hi), hG.inj, fun b hb => ?_, fun k' rows hp => ?_⟩⟩
    · obtain ⟨h1, h2, rows, h3, h4, h5⟩ := hG.ent i e' m he hm
      exact ⟨h1, h2, rows, h3, h4, h5.mono (fun _ _ h => h) hcell (hold _ (hG.free _ (hG.own i (List.getElem?_eq_some_iff.1 he).1)).2.1)⟩
    · rcases hb with hb | hb
      · obtain ⟨h1, h2, h3⟩ := hG.free b hb
        exact ⟨h1, by omega, h3⟩
      · subst hb
        exact ⟨by show w.heap.size ≠ (L id).b; omega, by omega, fun o ho => absurd (hs.dom _ _ ho) (Nat.lt_irrefl _)⟩
    · cases hp
      refine ⟨hR, w.heap.size, .inr rfl, ⟨cc, xs, e, rfl, hnew, hcc, hxs, fun j row hj => ?_⟩, fun i e' he hb => ?_⟩
      · obtain ⟨d, y, h1, h2, h3⟩ := hrows j row hj
        exact ⟨d, y, h1, h2, h3.mono (fun _ _ h => h) hcell⟩
      · have := (hG.free _ (hG.own i (List.getElem?_eq_some_iff.1 he).1)).2.1
        omega
  · refine .gn rfl (.inr ⟨v, true, ?_, Nat.le_refl _, fun _ => ⟨rfl, ?_⟩⟩)
    · rw [sh_set_same]; rfl
    · rw [updL_same]

/-- A slice grown in place waits to be stored. -/
theorem gm_place (hs : SR cx n L I F a w) {o : Oper} (hd : ∀ d, o.dst = some d → d < n) {id : Id} {es : List (Value × List PV)} {v : Nat} (hes : F.gs id = some (.gm es none v)) {k : Value} {R : List (List PV)} (hR : R ≠ [])
    {ms : Array MapEntry} {kk : Nat} {bs : Nat → Nat} (hmap : w.heap[(L id).b]? = some (.map ms kk)) (hG : GM I w (L id) es none ms bs) {i0 : Nat} {e0 : Value × List PV} (he0 : es[i0]? = some e0) (hk0 : keyEq k e0.1 = true)
    {xs xs' : Array Value} {e : TypeId} {n0 c : Nat} (hb0 : w.heap[bs i0]? = some (.cells xs e (0, 0))) (hsz' : xs'.size = xs.size) (hn0 : ∀ rows, e0.2 = [.sl rows] → rows.length = n0) (hlow : ∀ j, j < n0 → xs'[j]? = xs[j]?)
    (hcc : R.length ≤ c) (hxs : c ≤ xs.size) (hrows : ∀ (j : Nat) (row : List PV), R[j]? = some row → ∃ d y, row = [d] ∧ xs'[j]? = some y ∧ PR I w d y)
    (hr : (execOp a.eval o).run cx.P w = .ok (.value (.slice (some ⟨bs i0, 0, none⟩) R.length c)) (w.setRow (bs i0) xs')) : Ok1 cx n L I F a w o { e := dstW o (.gn id v), s := [(id, .gm es (some (k, R)) v)] } := by
  have hsome : (F.gs id).isSome = true := by rw [hes]; rfl
  have hlt0 := (List.getElem?_eq_some_iff.1 he0).1
  have hown0 := hG.own i0 hlt0
  obtain ⟨hne0, hlt1, hfree0⟩ := hG.free _ hown0
  have hblk : (w.setRow (bs i0) xs').heap[bs i0]? = some (.cells xs' e (0, 0)) := setRow_heap w _ xs _ e _ hb0
  have hother : ∀ b, b ≠ bs i0 → (w.setRow (bs i0) xs').heap[b]? = w.heap[b]? := fun b hb => setRow_other w _ b _ hb
  have hcell : ∀ b k, I b k → (w.setRow (bs i0) xs').cell? ⟨b, k, none⟩ = w.cell? ⟨b, k, none⟩ := fun b k hI => cell_setRow_other w _ _ ⟨b, k, none⟩ fun h => by
    have h : b = bs i0 := h
    exact hfree0 k (h ▸ hI)
  let l' : Loc := { L id with pend := .slice (some ⟨bs i0, 0, none⟩) R.length c }
  refine Ok1.setG (l := l') (x := .slice (some ⟨bs i0, 0, none⟩) R.length c) (w' := w.setRow (bs i0) xs') hs hd hr (.inl rfl) ?_ ?_ rfl rfl rfl (by simp) (fun b hb hn => hother b fun h => hn (h ▸ .inr hown0)) hcell ?_ ?_
  · rw [hes]
    exact ⟨rfl, Nat.le_refl _, fun _ => ⟨rfl, fun h => by cases h⟩⟩
  · intro b hb
    have hb' : (L id).has b := hb
    exact ⟨by have := hs.ownlt id hsome b hb'; simpa using this, .inr ⟨hsome, hb'⟩⟩
  · refine ⟨ms, kk, bs, (hother _ (Ne.symm hne0)).trans hmap, ⟨hG.size, fun i e' m he hm => ?_, hG.str, hG.dist, hG.absent, hG.own, hG.inj, fun b hb => ?_, fun k' rows hp => ?_⟩⟩
    · obtain ⟨h1, h2, rows, h3, h4, h5⟩ := hG.ent i e' m he hm
      refine ⟨h1, h2, rows, h3, h4, ?_⟩
      by_cases hi : i = i0
      · subst hi
        rw [he0] at he
        cases he
        obtain ⟨c1, xs1, e1, g1, g2, g3, g4, g5⟩ := h5
        rw [hb0] at g2
        cases g2
        refine ⟨c1, xs', e, g1, hblk, g3, by omega, fun j row hj => ?_⟩
        obtain ⟨d, y, q1, q2, q3⟩ := g5 j row hj
        have hj' : j < n0 := by rw [← hn0 rows h3]; exact (List.getElem?_eq_some_iff.1 hj).1
        exact ⟨d, y, q1, (hlow j hj').trans q2, q3.mono (fun _ _ h => h) hcell⟩
      · have hli := (List.getElem?_eq_some_iff.1 he).1
        exact h5.mono (fun _ _ h => h) hcell (hother _ fun h => hi (hG.inj i i0 hli hlt0 h))
    · obtain ⟨h1, h2, h3⟩ := hG.free b hb
      exact ⟨h1, by simpa using h2, h3⟩
    · cases hp
      refine ⟨hR, bs i0, hown0, ⟨c, xs', e, rfl, hblk, hcc, by omega, fun j row hj => ?_⟩, fun i e' he hb => ?_⟩
      · obtain ⟨d, y, h1, h2, h3⟩ := hrows j row hj
        exact ⟨d, y, h1, h2, h3.mono (fun _ _ h => h) hcell⟩
      · have := hG.inj i i0 (List.getElem?_eq_some_iff.1 he).1 hlt0 hb
        subst this
        rw [he0] at he
        cases he
        exact hk0
  · refine .gn rfl (.inr ⟨v, true, ?_, Nat.le_refl _, fun _ => ⟨rfl, ?_⟩⟩)
    · rw [sh_set_same]; rfl
    · rw [updL_same]

theorem sim_append (hcx : CxOk cx) (hs : SR cx n L I F a w) {o : Oper} {args : Array Operand} {tys : Array TypeId} (ho : o.op = .call { callee := .builtin .append, args := args, argTypes := tys })
    (hd : ∀ d, o.dst = some d → d < n) {wr : Wr} {rs : List Res} (h : (stepOp cx o).ev C F wr rs) : Ok1 cx n L I F a w o wr := by
  simp only [stepOp, ho] at h
  split at h
  · rename_i x y t u hx1 ht1
    have hxa : args = #[x, y] := by rw [← Array.toList_inj, hx1]
    have hta : tys = #[t, u] := by rw [← Array.toList_inj, ht1]
    subst hxa
    subst hta
    split at h
    · exact h.elim
    · rename_i htu
      have htu' : u = t := (Classical.not_not.1 htu).symm
      subst htu'
      (replace h := withTy_ev h); obtain ⟨ti, hti, h⟩ := h
      have hund := (hcx.ty _ _ hti).und
      split at h
      · rename_i e hk
        rw [hk] at hund
        simp only at hund
        (replace h := withTy_ev h); obtain ⟨te, hte, h⟩ := h
        have hte' := hcx.ty _ _ hte
        obtain ⟨ie, z, hie, hse, hby, hz, hzc⟩ := hte'.ex
        have hzs : z.cells.size = te.sz := by rw [← hte'.zsz, ← hzc]; simp
        (replace h := rdV_ev hs h); obtain ⟨xv, rs1, hxv, h⟩ := h
        (replace h := rdV_ev hs h); obtain ⟨yv, rs2, hyv, h⟩ := h
        (replace h := rows_ev hs hyv h); obtain ⟨new, rs3, hsrc, h⟩ := h
        split at h
        · exact h.elim
        · rename_i hz0
          obtain ⟨hrl, hval, news, hnl, hncell, hn1, hnall⟩ := hsrc
          rw [RP.ev] at h
          split at h
          · rename_i hem
            have hem' : new = [] := List.isEmpty_iff.1 hem
            subst hem'
            have hy0 : a.eval y = .slice none 0 0 ∨ ∃ ad c, a.eval y = .slice (some ad) 0 c := by
              rcases hval with ⟨h, _⟩ | ⟨ad, c, h⟩
              · exact .inl h
              · exact .inr ⟨ad, c, h⟩
            have same : ∀ {rs : List Res} {v : AV} {xx : Value} {base : Option Addr} {k c : Nat}, a.eval x = xx → VR L F.sh I w v xx → xx = .slice base k c → k ≤ c → (RP.ret { e := dstW o v }).ev C F wr rs → Ok1 cx n L I F a w o wr := by
              intro rs v xx base k c hx hv hxx hle hput
              refine Ok1.put hs hd (x := xx) ?_ hv hput
              have hr := run_append_zero (P := cx.P) w u o.type e ie hund hie base k c hle (a.eval y) hy0
              simp [execOp, ho, resolve, invoke, builtin, hx, hxx, hr]
            split at h
            · exact same hxv.scal.1 (.p (.s rfl)) rfl (Nat.le_refl _) h
            · generalize hax : a.eval x = xx at hxv
              cases hxv with
              | p hp =>
                cases hp with
                | nil => exact same hax (.p .nil) rfl (Nat.le_refl _) h
                | sl sz vs g0 hc hsz hrow hI hcell hp => exact same hax (.p (.sl sz vs g0 hc hsz hrow hI hcell hp)) rfl hc h
            · rename_i id off m N
              obtain ⟨rs4, _, h⟩ := h
              try dsimp only at h
              split at h
              · rename_i sz es fz hes
                obtain ⟨hN, h⟩ := h
                generalize hax : a.eval x = xx at hxv
                have hxv' := hxv
                cases hxv with
                | @ms _ _ _ _ ad0 c0 sz' N0 hsh hNN ha =>
                  have hs0 : F.sh id = some (.arr sz es.length) := by simp [FS.sh, hes, AO.sh]
                  rw [hs0] at hsh
                  cases hsh
                  obtain ⟨g1, g2, g3, g4, g5, g6⟩ := ha hN.symm
                  exact same hax hxv' rfl g2 h
              · exact h.elim
            · exact h.elim
          split at h
          · -- a slice out of a map of slices
            rename_i id k ver
            obtain ⟨rs4, _, h⟩ := h
            try dsimp only at h
            split at h
            · rename_i es v hes
              (replace h := chk_ev h); obtain ⟨hc, h⟩ := h
              simp only [Bool.and_eq_true] at hc
              obtain ⟨hc2, hc3⟩ := hc
              obtain ⟨hver, h⟩ := h
              have hte1 : te.sz = 1 := Nat.eq_of_beq_eq_true hc2
              have hnew1 : new.length = 1 := Nat.eq_of_beq_eq_true hc3
              subst hver
              obtain ⟨ms, kk, bs, hmap, hG⟩ := hs.obj id _ hes
              have hsome : (F.gs id).isSome = true := by rw [hes]; rfl
              have hval' : a.eval x = (L id).val k := by
                generalize a.eval x = xx at hxv
                cases hxv with
                | gv _ hh =>
                  rcases hh with hh | ⟨v0, p0, hh, hle, hx⟩
                  · simp [FS.sh, hes, AO.sh] at hh
                  · simp only [FS.sh, hes, AO.sh, Option.map_some, Option.some.injEq, Sh.gm.injEq] at hh
                    exact hx hh.1.symm
              obtain ⟨ad, c, hy⟩ : ∃ ad c, a.eval y = .slice (some ad) new.length c := by
                rcases hval with ⟨_, hnil⟩ | h
                · rw [hnil] at hnew1; cases hnew1
                · exact h
              have hnl1 : news.length = 1 := by rw [hnl, hnew1, hte1]
              have hrow1 : ∀ (j : Nat) (row : List PV), new[j]? = some row → ∃ d y, row = [d] ∧ news[j]? = some y ∧ PR I w d y := by
                intro j row hj
                have hrl1 := hrl row (List.mem_of_getElem? hj)
                rw [hte1] at hrl1
                match row, hrl1 with
                | [d], _ =>
                  obtain ⟨y', hy', hp⟩ := hnall j 0 [d] d hj rfl
                  rw [hte1] at hy'
                  exact ⟨d, y', rfl, by simpa using hy', hp⟩
              have hwrO : ∀ {rs : List Res} {R : List (List PV)}, (RP.ret { e := dstW o (AV.gn id v), s := [(id, AO.gm es (some (k, R)) v)] }).ev C F wr rs → wr = { e := dstW o (AV.gn id v), s := [(id, AO.gm es (some (k, R)) v)] } := fun h => h.1
              rw [RP.ev] at h
              split at h
              · rename_i hhas
                obtain ⟨row, hrow, h⟩ := h
                try dsimp only at h
                split at h
                · rename_i old
                  obtain ⟨⟨hb, h62⟩, h⟩ := h
                  rw [hwrO h]
                  obtain ⟨i0, e0, he0, hk0, he2⟩ := mapGet_at hrow
                  have hlt0 := (List.getElem?_eq_some_iff.1 he0).1
                  have hm0 : ms[i0]? = some (ms[i0]'(by rw [hG.size]; exact hlt0)) := Array.getElem?_eq_getElem _
                  obtain ⟨g1, g2, rows, g3, g4, c1, xs, e', q1, q2, q3, q4, q5⟩ := hG.ent i0 e0 _ he0 hm0
                  rw [he2] at g3
                  cases g3
                  obtain ⟨s, hstr⟩ := hG.str i0 e0 he0
                  have hke : k = e0.1 := by rw [hstr] at hk0 ⊢; exact keyEq_str hk0
                  have hax : a.eval x = .slice (some ⟨bs i0, 0, none⟩) old.length c1 := by rw [hval', hke, ← g2]; exact q1
                  have hlen : (old ++ new).length = old.length + 1 := by rw [List.length_append, hnew1]
                  have hne : old ++ new ≠ [] := by intro hh; rw [List.append_eq_nil_iff] at hh; exact g4 hh.1
                  by_cases hroom : old.length + new.length ≤ c1
                  · have hfit : old.length * ie.size + news.length ≤ xs.size := by rw [hse, hte1, hnl1, Nat.mul_one]; omega
                    have hr := run_append_room' (P := cx.P) w u o.type e e' ie hund hie (bs i0) old.length c1 xs q2 ad new.length c news (by rw [hse]; exact hnl) (hncell ad _ _ hy) hn1 hroom hfit
                    rw [hse, hte1, Nat.mul_one] at hr hfit
                    have hsp : ∀ j, (xs.toList.take old.length ++ news ++ xs.toList.drop (old.length + news.length)).toArray[j]? = if j < old.length then xs[j]? else if j < old.length + news.length then news[j - old.length]? else xs[j]? := by
                      intro j
                      rw [List.getElem?_toArray, splice_get (by simpa using hfit)]
                      simp
                    refine gm_place hs hd hes (R := old ++ new) hne hmap hG he0 hk0 q2 (n0 := old.length) (c := c1) ?_ (fun rows hh => by rw [he2] at hh; cases hh; rfl) (fun j hj => by rw [hsp, if_pos hj]) (by rw [hlen]; omega) q4 (fun j row hj => ?_) ?_
                    · simp only [List.size_toArray, List.length_append, List.length_take, List.length_drop, Array.length_toList]
                      omega
                    · rw [List.getElem?_append] at hj
                      split at hj
                      · rename_i hj1
                        obtain ⟨d, y', r1, r2, r3⟩ := q5 j row hj
                        exact ⟨d, y', r1, by rw [hsp, if_pos hj1]; exact r2, r3⟩
                      · rename_i hj1
                        obtain ⟨d, y', r1, r2, r3⟩ := hrow1 _ row hj
                        have := (List.getElem?_eq_some_iff.1 hj).1
                        exact ⟨d, y', r1, by rw [hsp, if_neg hj1, if_pos (by omega)]; exact r2, r3⟩
                    · rw [hlen]
                      rw [hnew1] at hr
                      simp [execOp, ho, resolve, invoke, builtin, hax, hy, hr, hnew1]
                  · have hge := grownCap_ge w (old.length + new.length) c1 e
                    have holds : ∀ j v, (xs.toList.take old.length)[j]? = some v → w.cell? ((⟨bs i0, 0, none⟩ : Addr).add j) = some v := by
                      intro j v hv
                      rw [List.getElem?_take] at hv
                      split at hv
                      · rw [addr_add, cell_of q2]
                        simpa using hv
                      · cases hv
                    have hol : (xs.toList.take old.length).length = old.length := by simp only [List.length_take, Array.length_toList]; omega
                    have hr := run_append_grow (P := cx.P) w u o.type e ie z hund hie hz ⟨bs i0, 0, none⟩ old.length c1 (xs.toList.take old.length) (by rw [hse, hte1, Nat.mul_one]; exact hol) holds ad new.length c news (by rw [hse]; exact hnl) (hncell ad _ _ hy)
                      (by omega) (by omega) (growslice_fits (by omega) (by rw [hby, hnew1]; simp only [maxBytes] at hb; omega))
                    generalize hcc : grownCap w (old.length + new.length) c1 e = cc at *
                    refine gm_fresh hs hd hes (R := old ++ new) hne (xs := (xs.toList.take old.length).toArray ++ news.toArray ++ Builtin.zeroCells z.cells (cc - (old.length + new.length))) (e := e) (cc := cc) (by rw [List.length_append]; exact hge) ?_ (fun j row hj => ?_) ?_
                    · simp only [Array.size_append, List.size_toArray, size_zeroCells, hnl1, hzs, hol, hte1, hnew1]
                      rw [hnew1] at hge
                      omega
                    · rw [List.getElem?_append] at hj
                      split at hj
                      · rename_i hj1
                        obtain ⟨d, y', r1, r2, r3⟩ := q5 j row hj
                        refine ⟨d, y', r1, ?_, r3⟩
                        rw [Array.getElem?_append, if_pos (by simp only [Array.size_append, List.size_toArray, hol]; omega), Array.getElem?_append, if_pos (by simp only [List.size_toArray, hol]; omega)]
                        simpa [List.getElem?_take, hj1] using r2
                      · rename_i hj1
                        obtain ⟨d, y', r1, r2, r3⟩ := hrow1 _ row hj
                        have := (List.getElem?_eq_some_iff.1 hj).1
                        refine ⟨d, y', r1, ?_, r3⟩
                        rw [Array.getElem?_append, if_pos (by simp only [Array.size_append, List.size_toArray, hol, hnl1]; omega), Array.getElem?_append, if_neg (by simp only [List.size_toArray, hol]; omega)]
                        simpa [hol] using r2
                    · rw [hlen]
                      rw [hnew1] at hr
                      simp [execOp, ho, resolve, invoke, builtin, hax, hy, hr, hnew1]
                · exact h.elim
              · rename_i hhas
                obtain ⟨hb, h⟩ := h
                rw [hwrO h]
                have hax : a.eval x = .slice none 0 0 := by rw [hval', hG.absent k (by simpa using hhas)]; rfl
                have hne : new ≠ [] := by intro hh; rw [hh] at hnew1; cases hnew1
                have hr := run_append_nil (P := cx.P) w u o.type e ie z hund hie hz ad new.length c news (by rw [hse]; exact hnl) (hncell ad _ _ hy) (by omega) (by omega) (by rw [hby, hnew1]; simp only [maxBytes] at hb; omega)
                have hge := grownCap_ge w new.length 0 e
                refine gm_fresh hs hd hes (R := new) hne (xs := news.toArray ++ Builtin.zeroCells z.cells (grownCap w new.length 0 e - new.length)) (e := e) (cc := grownCap w new.length 0 e) hge ?_ (fun j row hj => ?_) ?_
                · simp only [Array.size_append, List.size_toArray, size_zeroCells, hnl1, hzs, hte1, hnew1]
                  rw [hnew1] at hge
                  omega
                · obtain ⟨d, y', r1, r2, r3⟩ := hrow1 j row hj
                  refine ⟨d, y', r1, ?_, r3⟩
                  rw [Array.getElem?_append, if_pos (by have := (List.getElem?_eq_some_iff.1 r2).1; simpa using this)]
                  simpa using r2
                · simp [execOp, ho, resolve, invoke, builtin, hax, hy, hr]
            · exact h.elim
          · -- a nil slice
            obtain ⟨⟨hne, hb, h62⟩, h⟩ := h
            obtain ⟨d, hod, hfree, rfl⟩ := newO_ev h
            have hm0 : 0 < new.length := List.length_pos_iff.2 hne
            rcases hval with ⟨_, hnil⟩ | ⟨ad, c, hy⟩
            · exact absurd hnil hne
            · have hr := run_append_nil (P := cx.P) w u o.type e ie z hund hie hz ad new.length c news (by rw [hse]; exact hnl) (hncell ad _ _ hy) hm0 (by omega) (by rw [hby]; simp only [maxBytes] at hb; omega)
              have hge := grownCap_ge w new.length 0 e
              refine Ok1.arr (w0 := w.drew) (xs := news.toArray ++ Builtin.zeroCells z.cells (grownCap w new.length 0 e - new.length)) (T := e) (c := grownCap w new.length 0 e) hs hod (hd d hod) ?_ rfl rfl rfl rfl hfree (by omega)
                (fun i row hi => hrl row (List.mem_of_getElem? hi)) rfl hge ?_ fun i j row q hi hj => ?_
              · simp [execOp, ho, resolve, invoke, builtin, hxv.scal.1, hy, hr]
              · simp only [Array.size_append, List.size_toArray, size_zeroCells, hnl, hzs, ← Nat.add_mul]
                congr 1
                omega
              · obtain ⟨x', hx', hp⟩ := hnall i j row q hi hj
                refine ⟨x', ?_, hp⟩
                rw [Array.getElem?_append, if_pos (by have := (List.getElem?_eq_some_iff.1 hx').1; simpa using this)]
                simpa using hx'
          · rename_i id off m N
            obtain ⟨rs4, _, h⟩ := h
            try dsimp only at h
            split at h
            · rename_i sz es fz hes
              obtain ⟨inside, h⟩ := h
              cases inside with
              | true =>
                simp only [if_true] at h
                obtain ⟨over, h⟩ := h
                cases over with
                | true =>
                  simp only [if_true] at h
                  obtain ⟨⟨hN, hoff, hmN, hmo, hfm, hszz, hne, hb, h62⟩, h⟩ := h
                  have hw := put_inv h
                  subst hw
                  subst hoff
                  subst hszz
                  have hm0 : 0 < new.length := List.length_pos_iff.2 hne
                  rcases hval with ⟨_, hnil⟩ | ⟨ad, c, hy⟩
                  · exact absurd hnil hne
                  · generalize hax : a.eval x = xx at hxv
                    cases hxv with
                    | @ms _ _ _ _ ad0 c0 sz' N0 hsh hNN ha =>
                      have hs0 : F.sh id = some (.arr te.sz es.length) := by simp [FS.sh, hes, AO.sh]
                      rw [hs0] at hsh
                      cases hsh
                      obtain ⟨g1, g2, g3, g4, g5, g6⟩ := ha hN.symm
                      obtain ⟨h0, hrl0, hfz, xs, e', hbk, hszx, hfit, hall, hI1⟩ := hs.obj id _ hes
                      have hid : (match F.gs id with | none => w.heap.size ≤ (L id).b | some o => True) := by rw [hes]; trivial
                      have hcap : c0 * te.sz ≤ (L id).size := by simpa using g5
                      have htl : (es.take m).length = m := by rw [List.length_take]; omega
                      have hmfit : m * te.sz ≤ (L id).size := Nat.le_trans (Nat.mul_le_mul_right _ (by omega)) hfit
                      have htk : ∀ (i : Nat) (row : List PV), (es.take m)[i]? = some row → es[i]? = some row := by
                        intro i row hi
                        rw [List.getElem?_take] at hi
                        split at hi
                        · exact hi
                        · cases hi
                      have hrow' : ∀ (i : Nat) (row : List PV), (es.take m ++ new)[i]? = some row → row.length = te.sz := by
                        intro i row hi
                        rw [List.getElem?_append, List.getElem?_take] at hi
                        split at hi
                        · split at hi
                          · exact hrl0 _ _ hi
                          · cases hi
                        · exact hrl row (List.mem_of_getElem? hi)
                      have hlen' : (es.take m ++ new).length = m + new.length := by simp only [List.length_append, List.length_take]; omega
                      by_cases hroom : m + new.length ≤ c0
                      · -- in place
                        have had : ad0 = ⟨(L id).b, 0, none⟩ := by have := g4 (by omega); simpa using this
                        subst had
                        have hfit2 : m * ie.size + news.length ≤ xs.size := by
                          rw [hse, hnl, hszx, ← Nat.add_mul]
                          exact Nat.le_trans (Nat.mul_le_mul_right _ hroom) hcap
                        have hr := run_append_room' (P := cx.P) w u o.type e e' ie hund hie (L id).b m c0 xs hbk ad new.length c news (by rw [hse]; exact hnl) (hncell ad _ _ hy) hn1 hroom hfit2
                        rw [hse] at hr hfit2
                        have hblk : (w.setRow (L id).b (xs.toList.take (m * te.sz) ++ news ++ xs.toList.drop (m * te.sz + news.length)).toArray).heap[(L id).b]? =
                            some (.cells (xs.toList.take (m * te.sz) ++ news ++ xs.toList.drop (m * te.sz + news.length)).toArray e' (0, 0)) := setRow_heap w _ xs _ e' _ hbk
                        have hlow : ∀ k, k < m * te.sz → (xs.toList.take (m * te.sz) ++ news ++ xs.toList.drop (m * te.sz + news.length)).toArray[k]? = xs[k]? := by
                          intro k hk
                          have : k < xs.size := by omega
                          simp [List.getElem?_append, hk, this]
                          omega
                        have hmid : ∀ k, k < news.length → (xs.toList.take (m * te.sz) ++ news ++ xs.toList.drop (m * te.sz + news.length)).toArray[m * te.sz + k]? = news[k]? := by
                          intro k hk
                          have h1 : min (m * te.sz) xs.size = m * te.sz := by omega
                          simp [List.getElem?_append, h1, hk]
                        have hcell : ∀ b k, I b k → (w.setRow (L id).b (xs.toList.take (m * te.sz) ++ news ++ xs.toList.drop (m * te.sz + news.length)).toArray).cell? ⟨b, k, none⟩ = w.cell? ⟨b, k, none⟩ := by
                          intro b k hI
                          by_cases hbb : b = (L id).b
                          · subst hbb
                            rw [cell_of hblk, cell_of hbk]
                            exact hlow k (Nat.lt_of_lt_of_le (hI1 k hI) (Nat.mul_le_mul_right _ hfm))
                          · exact cell_setRow_other w _ _ ⟨b, k, none⟩ hbb
                        refine Ok1.set (l := L id) (w' := w.setRow (L id).b (xs.toList.take (m * te.sz) ++ news ++ xs.toList.drop (m * te.sz + news.length)).toArray) (x := .slice (some ⟨(L id).b, 0, none⟩) (m + new.length) c0) hs hd ?_ (.inl rfl) ?_ rfl rfl rfl (by simp) (fun b hb hne => setRow_other w _ b _ hne) hcell ?_ ?_
                        · simp [execOp, ho, resolve, invoke, builtin, hax, hy, hr]
                        · rw [hes]
                          exact ⟨⟨rfl, by rw [hlen']; omega, fun _ => rfl⟩, .inl rfl⟩
                        · refine ⟨h0, hrow', by rw [hlen']; omega, _, e', hblk, ?_, ?_, fun i j row q hi hj => ?_, hI1⟩
                          · simp only [List.size_toArray, List.length_append, List.length_take, List.length_drop, Array.length_toList]
                            omega
                          · rw [hlen']
                            exact Nat.le_trans (Nat.mul_le_mul_right _ hroom) hcap
                          · have hj1 : j < te.sz := by rw [← hrow' i row hi]; exact (List.getElem?_eq_some_iff.1 hj).1
                            rw [List.getElem?_append] at hi
                            split at hi
                            · rename_i hi1
                              obtain ⟨x', hx', hp⟩ := hall i j row q (htk i row hi) hj
                              exact ⟨x', by rw [hlow _ (by rw [htl] at hi1; exact mul_lt_chunk hi1 hj1)]; exact hx', hp.mono (fun _ _ h => h) hcell⟩
                            · rename_i hi1
                              obtain ⟨x', hx', hp⟩ := hnall (i - m) j row q (by rw [htl] at hi; exact hi) hj
                              have hlt := (List.getElem?_eq_some_iff.1 hx').1
                              refine ⟨x', ?_, hp.mono (fun _ _ h => h) hcell⟩
                              have : i * te.sz + j = m * te.sz + ((i - m) * te.sz + j) := by
                                rw [htl] at hi1
                                rw [← Nat.add_assoc, ← Nat.add_mul]
                                congr 2
                                omega
                              rw [this, hmid _ hlt]
                              exact hx'
                        · refine .ms te.sz (m + new.length) ?_ (Nat.le_refl _) fun _ => ⟨by omega, hroom, rfl, fun _ => ?_, ?_, by omega⟩
                          · rw [sh_set_same]; simp only [AO.sh, hlen']
                          · rw [updL_same]; simp
                          · rw [updL_same]; simpa using hcap
                      · -- it moves
                        have hge := grownCap_ge w (m + new.length) c0 e
                        have holds : ∀ j v, (xs.toList.take (m * te.sz))[j]? = some v → w.cell? (ad0.add j) = some v := by
                          intro j v hv
                          rw [List.getElem?_take] at hv
                          split at hv
                          · rename_i hj
                            have hm1 : m ≠ 0 := fun hh => by subst hh; simp at hj
                            have := g4 (by omega)
                            rw [this, addr_add, cell_of hbk]
                            simpa using hv
                          · cases hv
                        have hol : (xs.toList.take (m * te.sz)).length = m * te.sz := by
                          simp only [List.length_take, Array.length_toList]
                          omega
                        have hr := run_append_grow (P := cx.P) w u o.type e ie z hund hie hz ad0 m c0 (xs.toList.take (m * te.sz)) (by rw [hse]; exact hol) holds ad new.length c news (by rw [hse]; exact hnl) (hncell ad _ _ hy)
                          (by omega) (by omega) (growslice_fits (by omega) (by rw [hby]; simp only [maxBytes] at hb; omega))
                        generalize hcc : grownCap w (m + new.length) c0 e = cc at *
                        have hold : ∀ b, b < w.heap.size → (w.drew.alloc (.cells ((xs.toList.take (m * te.sz)).toArray ++ news.toArray ++ Builtin.zeroCells z.cells (cc - (m + new.length))) e)).heap[b]? = w.heap[b]? :=
                          fun b hb => heap_alloc_old w.drew _ b hb
                        have hcell : ∀ b k, I b k → (w.drew.alloc (.cells ((xs.toList.take (m * te.sz)).toArray ++ news.toArray ++ Builtin.zeroCells z.cells (cc - (m + new.length))) e)).cell? ⟨b, k, none⟩ = w.cell? ⟨b, k, none⟩ :=
                          fun b k hI => World.cell?_of_block (a := ⟨b, k, none⟩) (hold b (hs.dom b k hI))
                        refine Ok1.set (l := (mkLoc w.heap.size (cc * te.sz))) (x := .slice (some ⟨w.heap.size, 0, none⟩) (m + new.length) cc) (w' := w.drew.alloc (.cells ((xs.toList.take (m * te.sz)).toArray ++ news.toArray ++ Builtin.zeroCells z.cells (cc - (m + new.length))) e)) hs hd ?_ (.inl rfl) ?_ rfl rfl rfl (by simp) (fun b hb _ => hold b hb) hcell ?_ ?_
                        · simp [execOp, ho, resolve, invoke, builtin, hax, hy, hr]
                        · rw [hes]
                          exact ⟨⟨rfl, by rw [hlen']; omega, fun he => by rw [hlen'] at he; omega⟩, .inr (Nat.le_refl _)⟩
                        · have hlo : ∀ k, k < m * te.sz → ((xs.toList.take (m * te.sz)).toArray ++ news.toArray ++ Builtin.zeroCells z.cells (cc - (m + new.length)))[k]? = xs[k]? := by
                            intro k hk
                            rw [Array.getElem?_append, if_pos (by simp only [Array.size_append, List.size_toArray, hol]; omega), Array.getElem?_append, if_pos (by simp only [List.size_toArray, hol]; omega)]
                            simp [List.getElem?_take, hk]
                          have hmi : ∀ k, k < news.length → ((xs.toList.take (m * te.sz)).toArray ++ news.toArray ++ Builtin.zeroCells z.cells (cc - (m + new.length)))[m * te.sz + k]? = news[k]? := by
                            intro k hk
                            rw [Array.getElem?_append, if_pos (by simp only [Array.size_append, List.size_toArray, hol]; omega), Array.getElem?_append, if_neg (by simp only [List.size_toArray, hol]; omega)]
                            simp [hol]
                          refine ⟨h0, hrow', by rw [hlen']; omega, _, e, heap_alloc_new w.drew _, ?_, ?_, fun i j row q hi hj => ?_, fun k hk => absurd (hs.dom _ _ hk) (Nat.lt_irrefl _)⟩
                          · simp only [Array.size_append, List.size_toArray, size_zeroCells, hnl, hzs, hol, ← Nat.add_mul]
                            congr 1
                            omega
                          · rw [hlen']
                            exact Nat.mul_le_mul_right _ hge
                          · have hj1 : j < te.sz := by rw [← hrow' i row hi]; exact (List.getElem?_eq_some_iff.1 hj).1
                            rw [List.getElem?_append] at hi
                            split at hi
                            · rename_i hi1
                              obtain ⟨x', hx', hp⟩ := hall i j row q (htk i row hi) hj
                              exact ⟨x', by rw [hlo _ (by rw [htl] at hi1; exact mul_lt_chunk hi1 hj1)]; exact hx', hp.mono (fun _ _ h => h) hcell⟩
                            · rename_i hi1
                              obtain ⟨x', hx', hp⟩ := hnall (i - m) j row q (by rw [htl] at hi; exact hi) hj
                              have hlt := (List.getElem?_eq_some_iff.1 hx').1
                              refine ⟨x', ?_, hp.mono (fun _ _ h => h) hcell⟩
                              have : i * te.sz + j = m * te.sz + ((i - m) * te.sz + j) := by
                                rw [htl] at hi1
                                rw [← Nat.add_assoc, ← Nat.add_mul]
                                congr 2
                                omega
                              rw [this, hmi _ hlt]
                              exact hx'
                        · refine .ms te.sz (m + new.length) ?_ (Nat.le_refl _) fun _ => ⟨by omega, hge, rfl, fun _ => ?_, ?_, by omega⟩
                          · rw [sh_set_same]; simp only [AO.sh, hlen']
                          · rw [updL_same]; simp
                          · rw [updL_same]; simp
                | false =>
                  simp only [Bool.false_eq_true, if_false] at h
                  obtain ⟨⟨hN, hoff, hszz, hne, hfm, hmN, h62⟩, h⟩ := h
                  have hw := put_inv h
                  subst hw
                  subst hoff
                  subst hszz
                  have hm0 : 0 < new.length := List.length_pos_iff.2 hne
                  rcases hval with ⟨_, hnil⟩ | ⟨ad, c, hy⟩
                  · exact absurd hnil hne
                  · generalize hax : a.eval x = xx at hxv
                    cases hxv with
                    | @ms _ _ _ _ ad0 c0 sz' N0 hsh hNN ha =>
                      have hs0 : F.sh id = some (.arr te.sz es.length) := by simp [FS.sh, hes, AO.sh]
                      rw [hs0] at hsh
                      cases hsh
                      obtain ⟨g1, g2, g3, g4, g5, g6⟩ := ha hN.symm
                      obtain ⟨h0, hrl0, hfz, xs, e', hbk, hszx, hfit, hall, hI1⟩ := hs.obj id _ hes
                      have hcap : c0 * te.sz ≤ (L id).size := by simpa using g5
                      have hroom : m + new.length ≤ c0 := by omega
                      have hlen' : (es.take m ++ new ++ es.drop (m + new.length)).length = N := by simp only [List.length_append, List.length_take, List.length_drop]; omega
                      have hrow' : ∀ (i : Nat) (row : List PV), (es.take m ++ new ++ es.drop (m + new.length))[i]? = some row → row.length = te.sz := by
                        intro i row hi
                        rw [splice_get (by omega)] at hi
                        split at hi
                        · exact hrl0 _ _ hi
                        · split at hi
                          · exact hrl row (List.mem_of_getElem? hi)
                          · exact hrl0 _ _ hi
                      have had : ad0 = ⟨(L id).b, 0, none⟩ := by have := g4 (by omega); simpa using this
                      subst had
                      have hfit2 : m * ie.size + news.length ≤ xs.size := by
                        rw [hse, hnl, hszx, ← Nat.add_mul]
                        exact Nat.le_trans (Nat.mul_le_mul_right _ hroom) hcap
                      have hr := run_append_room' (P := cx.P) w u o.type e e' ie hund hie (L id).b m c0 xs hbk ad new.length c news (by rw [hse]; exact hnl) (hncell ad _ _ hy) hn1 hroom hfit2
                      rw [hse] at hr hfit2
                      have hblk : (w.setRow (L id).b (xs.toList.take (m * te.sz) ++ news ++ xs.toList.drop (m * te.sz + news.length)).toArray).heap[(L id).b]? =
                          some (.cells (xs.toList.take (m * te.sz) ++ news ++ xs.toList.drop (m * te.sz + news.length)).toArray e' (0, 0)) := setRow_heap w _ xs _ e' _ hbk
                      have hall2 : ∀ k, (xs.toList.take (m * te.sz) ++ news ++ xs.toList.drop (m * te.sz + news.length)).toArray[k]? = if k < m * te.sz then xs[k]? else if k < m * te.sz + news.length then news[k - m * te.sz]? else xs[k]? := by
                        intro k
                        rw [List.getElem?_toArray, splice_get (by simpa using hfit2)]
                        simp
                      have hcell : ∀ b k, I b k → (w.setRow (L id).b (xs.toList.take (m * te.sz) ++ news ++ xs.toList.drop (m * te.sz + news.length)).toArray).cell? ⟨b, k, none⟩ = w.cell? ⟨b, k, none⟩ := by
                        intro b k hI
                        by_cases hbb : b = (L id).b
                        · subst hbb
                          rw [cell_of hblk, cell_of hbk, hall2, if_pos (Nat.lt_of_lt_of_le (hI1 k hI) (Nat.mul_le_mul_right _ hfm))]
                        · exact cell_setRow_other w _ _ ⟨b, k, none⟩ hbb
                      refine Ok1.set (l := L id) (w' := w.setRow (L id).b (xs.toList.take (m * te.sz) ++ news ++ xs.toList.drop (m * te.sz + news.length)).toArray) (x := .slice (some ⟨(L id).b, 0, none⟩) (m + new.length) c0) hs hd ?_ (.inl rfl) ?_ rfl rfl rfl (by simp) (fun b hb hne => setRow_other w _ b _ hne) hcell ?_ ?_
                      · simp [execOp, ho, resolve, invoke, builtin, hax, hy, hr]
                      · rw [hes]
                        exact ⟨⟨rfl, by rw [hlen']; omega, fun _ => rfl⟩, .inl rfl⟩
                      · refine ⟨h0, hrow', by rw [hlen']; omega, _, e', hblk, ?_, ?_, fun i j row q hi hj => ?_, hI1⟩
                        · simp only [List.size_toArray, List.length_append, List.length_take, List.length_drop, Array.length_toList]
                          omega
                        · rw [hlen', ← hN]; exact hfit
                        · have hj1 : j < te.sz := by rw [← hrow' i row hi]; exact (List.getElem?_eq_some_iff.1 hj).1
                          have hnl' : news.length = new.length * te.sz := hnl
                          rw [splice_get (by omega)] at hi
                          split at hi
                          · rename_i hi1
                            obtain ⟨x', hx', hp⟩ := hall i j row q hi hj
                            exact ⟨x', by rw [hall2, if_pos (mul_lt_chunk hi1 hj1)]; exact hx', hp.mono (fun _ _ h => h) hcell⟩
                          · rename_i hi1
                            have hge : m * te.sz ≤ i * te.sz + j := by
                              have := Nat.mul_le_mul_right te.sz (show m ≤ i by omega)
                              omega
                            split at hi
                            · rename_i hi2
                              obtain ⟨x', hx', hp⟩ := hnall (i - m) j row q hi hj
                              have hlt : i * te.sz + j < m * te.sz + news.length := by
                                rw [hnl', ← Nat.add_mul]
                                exact mul_lt_chunk hi2 hj1
                              refine ⟨x', ?_, hp.mono (fun _ _ h => h) hcell⟩
                              rw [hall2, if_neg (by omega), if_pos hlt]
                              have : i * te.sz + j - m * te.sz = (i - m) * te.sz + j := by
                                have hmi := Nat.mul_le_mul_right te.sz (show m ≤ i by omega)
                                rw [Nat.sub_mul]; omega
                              rw [this]
                              exact hx'
                            · rename_i hi2
                              have hge2 : m * te.sz + news.length ≤ i * te.sz + j := by
                                rw [hnl', ← Nat.add_mul]
                                have := Nat.mul_le_mul_right te.sz (show m + new.length ≤ i by omega)
                                omega
                              obtain ⟨x', hx', hp⟩ := hall i j row q hi hj
                              exact ⟨x', by rw [hall2, if_neg (by omega), if_neg (by omega)]; exact hx', hp.mono (fun _ _ h => h) hcell⟩
                      · refine .ms te.sz es.length ?_ (Nat.le_of_eq hN.symm) fun _ => ⟨by omega, hroom, rfl, fun _ => ?_, ?_, by omega⟩
                        · rw [sh_set_same]; simp only [AO.sh, hlen', hN]
                        · rw [updL_same]; simp
                        · rw [updL_same]; simpa using hcap
              | false =>
              simp only [Bool.false_eq_true, if_false] at h
              obtain ⟨⟨hN, hoff, hmN, hszz, hne, hb, h62⟩, h⟩ := h
              have hw := put_inv h
              subst hw
              subst hoff
              subst hszz
              subst hmN
              have hm0 : 0 < new.length := List.length_pos_iff.2 hne
              rcases hval with ⟨_, hnil⟩ | ⟨ad, c, hy⟩
              · exact absurd hnil hne
              · generalize hax : a.eval x = xx at hxv
                cases hxv with
                | @ms _ _ _ _ ad0 c0 sz' N0 hsh hNN ha =>
                  have hs0 : F.sh id = some (.arr te.sz es.length) := by simp [FS.sh, hes, AO.sh]
                  rw [hs0] at hsh
                  cases hsh
                  obtain ⟨g1, g2, g3, g4, g5, g6⟩ := ha hN.symm
                  obtain ⟨h0, hrl0, hfz, xs, e', hbk, hszx, hfit, hall, hI1⟩ := hs.obj id _ hes
                  have hid : (match F.gs id with | none => w.heap.size ≤ (L id).b | some o => True) := by rw [hes]; trivial
                  have hcap : c0 * te.sz ≤ (L id).size := by simpa using g5
                  have hrow' : ∀ (i : Nat) (row : List PV), (es ++ new)[i]? = some row → row.length = te.sz := by
                    intro i row hi
                    rw [List.getElem?_append] at hi
                    split at hi
                    · exact hrl0 _ _ hi
                    · exact hrl row (List.mem_of_getElem? hi)
                  have hlen' : (es ++ new).length = m + new.length := by rw [List.length_append, hN]
                  by_cases hroom : m + new.length ≤ c0
                  · -- in place
                    have had : ad0 = ⟨(L id).b, 0, none⟩ := by have := g4 (by omega); simpa using this
                    subst had
                    have hfit2 : m * ie.size + news.length ≤ xs.size := by
                      rw [hse, hnl, hszx, ← Nat.add_mul]
                      exact Nat.le_trans (Nat.mul_le_mul_right _ hroom) hcap
                    have hr := run_append_room' (P := cx.P) w u o.type e e' ie hund hie (L id).b m c0 xs hbk ad new.length c news (by rw [hse]; exact hnl) (hncell ad _ _ hy) hn1 hroom hfit2
                    rw [hse] at hr hfit2
                    have hblk : (w.setRow (L id).b (xs.toList.take (m * te.sz) ++ news ++ xs.toList.drop (m * te.sz + news.length)).toArray).heap[(L id).b]? =
                        some (.cells (xs.toList.take (m * te.sz) ++ news ++ xs.toList.drop (m * te.sz + news.length)).toArray e' (0, 0)) := setRow_heap w _ xs _ e' _ hbk
                    have hlow : ∀ k, k < m * te.sz → (xs.toList.take (m * te.sz) ++ news ++ xs.toList.drop (m * te.sz + news.length)).toArray[k]? = xs[k]? := by
                      intro k hk
                      have : k < xs.size := by omega
                      simp [List.getElem?_append, hk, this]
                      omega
                    have hmid : ∀ k, k < news.length → (xs.toList.take (m * te.sz) ++ news ++ xs.toList.drop (m * te.sz + news.length)).toArray[m * te.sz + k]? = news[k]? := by
                      intro k hk
                      have h1 : min (m * te.sz) xs.size = m * te.sz := by omega
                      simp [List.getElem?_append, h1, hk]
                    have hcell : ∀ b k, I b k → (w.setRow (L id).b (xs.toList.take (m * te.sz) ++ news ++ xs.toList.drop (m * te.sz + news.length)).toArray).cell? ⟨b, k, none⟩ = w.cell? ⟨b, k, none⟩ := by
                      intro b k hI
                      by_cases hbb : b = (L id).b
                      · subst hbb
                        rw [cell_of hblk, cell_of hbk]
                        refine hlow k (Nat.lt_of_lt_of_le (hI1 k hI) ?_)
                        rw [← hN]
                        exact Nat.mul_le_mul_right _ hfz
                      · exact cell_setRow_other w _ _ ⟨b, k, none⟩ hbb
                    refine Ok1.set (l := L id) (w' := w.setRow (L id).b (xs.toList.take (m * te.sz) ++ news ++ xs.toList.drop (m * te.sz + news.length)).toArray) (x := .slice (some ⟨(L id).b, 0, none⟩) (m + new.length) c0) hs hd ?_ (.inl rfl) ?_ rfl rfl rfl (by simp) (fun b hb hne => setRow_other w _ b _ hne) hcell ?_ ?_
                    · simp [execOp, ho, resolve, invoke, builtin, hax, hy, hr]
                    · rw [hes]
                      exact ⟨⟨rfl, by rw [hlen']; omega, fun _ => rfl⟩, .inl rfl⟩
                    · refine ⟨h0, hrow', by rw [hlen']; omega, _, e', hblk, ?_, ?_, fun i j row q hi hj => ?_, hI1⟩
                      · simp only [List.size_toArray, List.length_append, List.length_take, List.length_drop, Array.length_toList]
                        omega
                      · rw [hlen']
                        exact Nat.le_trans (Nat.mul_le_mul_right _ hroom) hcap
                      · have hj1 : j < te.sz := by rw [← hrow' i row hi]; exact (List.getElem?_eq_some_iff.1 hj).1
                        rw [List.getElem?_append] at hi
                        split at hi
                        · rename_i hi1
                          obtain ⟨x', hx', hp⟩ := hall i j row q hi hj
                          exact ⟨x', by rw [hlow _ (by rw [← hN]; exact mul_lt_chunk hi1 hj1)]; exact hx', hp.mono (fun _ _ h => h) hcell⟩
                        · rename_i hi1
                          obtain ⟨x', hx', hp⟩ := hnall (i - es.length) j row q hi hj
                          have hlt := (List.getElem?_eq_some_iff.1 hx').1
                          refine ⟨x', ?_, hp.mono (fun _ _ h => h) hcell⟩
                          have : i * te.sz + j = m * te.sz + ((i - es.length) * te.sz + j) := by
                            rw [hN, ← Nat.add_assoc, ← Nat.add_mul]
                            congr 2
                            omega
                          rw [this, hmid _ hlt]
                          exact hx'
                    · refine .ms te.sz (m + new.length) ?_ (Nat.le_refl _) fun _ => ⟨by omega, hroom, rfl, fun _ => ?_, ?_, by omega⟩
                      · rw [sh_set_same]; simp [AO.sh, hN]
                      · rw [updL_same]; simp
                      · rw [updL_same]; simpa using hcap
                  · -- it moves
                    have hge := grownCap_ge w (m + new.length) c0 e
                    have holds : ∀ j v, (xs.toList.take (m * te.sz))[j]? = some v → w.cell? (ad0.add j) = some v := by
                      intro j v hv
                      rw [List.getElem?_take] at hv
                      split at hv
                      · rename_i hj
                        have hm1 : m ≠ 0 := fun hh => by subst hh; simp at hj
                        have := g4 (by omega)
                        rw [this, addr_add, cell_of hbk]
                        simpa using hv
                      · cases hv
                    have hol : (xs.toList.take (m * te.sz)).length = m * te.sz := by
                      simp only [List.length_take, Array.length_toList]
                      rw [hN] at hfit
                      omega
                    have hr := run_append_grow (P := cx.P) w u o.type e ie z hund hie hz ad0 m c0 (xs.toList.take (m * te.sz)) (by rw [hse]; exact hol) holds ad new.length c news (by rw [hse]; exact hnl) (hncell ad _ _ hy)
                      (by omega) (by omega) (growslice_fits (by omega) (by rw [hby]; simp only [maxBytes] at hb; omega))
                    generalize hcc : grownCap w (m + new.length) c0 e = cc at *
                    have hold : ∀ b, b < w.heap.size → (w.drew.alloc (.cells ((xs.toList.take (m * te.sz)).toArray ++ news.toArray ++ Builtin.zeroCells z.cells (cc - (m + new.length))) e)).heap[b]? = w.heap[b]? :=
                      fun b hb => heap_alloc_old w.drew _ b hb
                    have hcell : ∀ b k, I b k → (w.drew.alloc (.cells ((xs.toList.take (m * te.sz)).toArray ++ news.toArray ++ Builtin.zeroCells z.cells (cc - (m + new.length))) e)).cell? ⟨b, k, none⟩ = w.cell? ⟨b, k, none⟩ :=
                      fun b k hI => World.cell?_of_block (a := ⟨b, k, none⟩) (hold b (hs.dom b k hI))
                    refine Ok1.set (l := (mkLoc w.heap.size (cc * te.sz))) (x := .slice (some ⟨w.heap.size, 0, none⟩) (m + new.length) cc) (w' := w.drew.alloc (.cells ((xs.toList.take (m * te.sz)).toArray ++ news.toArray ++ Builtin.zeroCells z.cells (cc - (m + new.length))) e)) hs hd ?_ (.inl rfl) ?_ rfl rfl rfl (by simp) (fun b hb _ => hold b hb) hcell ?_ ?_
                    · simp [execOp, ho, resolve, invoke, builtin, hax, hy, hr]
                    · rw [hes]
                      exact ⟨⟨rfl, by rw [hlen']; omega, fun he => by rw [hlen'] at he; omega⟩, .inr (Nat.le_refl _)⟩
                    · have hlo : ∀ k, k < m * te.sz → ((xs.toList.take (m * te.sz)).toArray ++ news.toArray ++ Builtin.zeroCells z.cells (cc - (m + new.length)))[k]? = xs[k]? := by
                        intro k hk
                        rw [Array.getElem?_append, if_pos (by simp only [Array.size_append, List.size_toArray, hol]; omega), Array.getElem?_append, if_pos (by simp only [List.size_toArray, hol]; omega)]
                        simp [List.getElem?_take, hk]
                      have hmi : ∀ k, k < news.length → ((xs.toList.take (m * te.sz)).toArray ++ news.toArray ++ Builtin.zeroCells z.cells (cc - (m + new.length)))[m * te.sz + k]? = news[k]? := by
                        intro k hk
                        rw [Array.getElem?_append, if_pos (by simp only [Array.size_append, List.size_toArray, hol]; omega), Array.getElem?_append, if_neg (by simp only [List.size_toArray, hol]; omega)]
                        simp [hol]
                      refine ⟨h0, hrow', by rw [hlen']; omega, _, e, heap_alloc_new w.drew _, ?_, ?_, fun i j row q hi hj => ?_, fun k hk => absurd (hs.dom _ _ hk) (Nat.lt_irrefl _)⟩
                      · simp only [Array.size_append, List.size_toArray, size_zeroCells, hnl, hzs, hol, ← Nat.add_mul]
                        congr 1
                        omega
                      · rw [hlen']
                        exact Nat.mul_le_mul_right _ hge
                      · have hj1 : j < te.sz := by rw [← hrow' i row hi]; exact (List.getElem?_eq_some_iff.1 hj).1
                        rw [List.getElem?_append] at hi
                        split at hi
                        · rename_i hi1
                          obtain ⟨x', hx', hp⟩ := hall i j row q hi hj
                          exact ⟨x', by rw [hlo _ (by rw [← hN]; exact mul_lt_chunk hi1 hj1)]; exact hx', hp.mono (fun _ _ h => h) hcell⟩
                        · rename_i hi1
                          obtain ⟨x', hx', hp⟩ := hnall (i - es.length) j row q hi hj
                          have hlt := (List.getElem?_eq_some_iff.1 hx').1
                          refine ⟨x', ?_, hp.mono (fun _ _ h => h) hcell⟩
                          have : i * te.sz + j = m * te.sz + ((i - es.length) * te.sz + j) := by
                            rw [hN, ← Nat.add_assoc, ← Nat.add_mul]
                            congr 2
                            omega
                          rw [this, hmi _ hlt]
                          exact hx'
                    · refine .ms te.sz (m + new.length) ?_ (Nat.le_refl _) fun _ => ⟨by omega, hge, rfl, fun _ => ?_, ?_, by omega⟩
                      · rw [sh_set_same]; simp [AO.sh, hN]
                      · rw [updL_same]; simp
                      · rw [updL_same]; simp
            · exact h.elim
          · exact h.elim
      · exact h.elim
  · exact h.elim

theorem sim_field (hcx : CxOk cx) (hs : SR cx n L I F a w) {o : Oper} {T : TypeId} {x : Operand} {f : Nat} (ho : o.op = .field T x f) (hd : ∀ d, o.dst = some d → d < n) {wr : Wr} {rs : List Res}
    (h : (stepOp cx o).ev C F wr rs) : Ok1 cx n L I F a w o wr := by
  simp only [stepOp, ho] at h
  (replace h := withTy_ev h); obtain ⟨ti, hti, h⟩ := h
  have hund := (hcx.ty _ _ hti).und
  split at h
  · rename_i fs hk
    rw [hk] at hund
    obtain ⟨gs, hg, hm⟩ := hund
    split at h
    · rename_i off ft hf
      (replace h := withTy_ev h); obtain ⟨tf, htf, h⟩ := h
      have htf' := hcx.ty _ _ htf
      have : ∃ g : Field, gs[f]? = some g ∧ g.offset = off ∧ g.type = ft := by
        rw [← hm] at hf
        simp only [List.getElem?_map, Option.map_eq_some_iff] at hf
        obtain ⟨g, hg, he⟩ := hf
        cases he
        exact ⟨g, by simpa using hg, rfl, rfl⟩
      obtain ⟨g, hgf, rfl, rfl⟩ := this
      (replace h := rdV_ev hs h); obtain ⟨v, rs1, hv, h⟩ := h
      try dsimp only at h
      split at h
      · rename_i cs
        split at h
        · rename_i v' hv'
          generalize hax : a.eval x = y at hv
          cases hv with
          | @agg _ xs hl h1 hall =>
            have hlen := ofCells_len htf'.one hv'
            have hA : All2 (fun c y => one y = true ∧ VR L F.sh I w c y) ((cs.drop g.offset).take tf.sz) ((xs.toList.drop g.offset).take tf.sz) :=
              ((All2.of_get (by simpa using hl.symm) fun i c x hi hx => ⟨h1 i x (by simpa using hx), hall i c x hi (by simpa using hx)⟩).drop _).take _
            unfold ofCells at hv'
            cases hag : tf.agg with
            | true =>
              rw [hag] at hv'
              simp only [if_true, hlen] at hv'
              cases hv'
              refine Ok1.put hs hd (x := .agg (xs.extract g.offset (g.offset + tf.sz))) ?_ (.agg ?_ (fun i y hy => ?_) fun i c y hi hy => ?_) h
              · simp [execOp, ho, hax, Instr.field, run_underlying hg, hgf, asAgg, part, htf'.isAgg, hag, htf'.sizeOf]
              · have := hA.length
                simp only [List.length_take, List.length_drop, Array.length_toList] at this hlen
                simp only [Array.size_extract, List.length_take, List.length_drop]
                omega
              · refine h1 (g.offset + i) y ?_
                rw [Array.getElem?_extract] at hy
                split at hy
                · exact hy
                · cases hy
              · rw [Array.getElem?_extract] at hy
                rw [List.getElem?_take] at hi
                split at hy
                · split at hi
                  · rw [List.getElem?_drop] at hi
                    exact hall _ c y hi hy
                  · cases hi
                · cases hy
            | false =>
              rw [hag] at hv'
              simp only [Bool.false_eq_true, if_false] at hv'
              split at hv'
              · rename_i c hc
                cases hv'
                rw [hc] at hA
                have hz1 := htf'.one hag
                have hc0 : cs[g.offset]? = some v' := by
                  have : ((cs.drop g.offset).take tf.sz)[0]? = some v' := by rw [hc]; rfl
                  rw [List.getElem?_take, List.getElem?_drop] at this
                  split at this
                  · exact this
                  · cases this
                have hlt : g.offset < xs.size := by rw [hl]; exact (List.getElem?_eq_some_iff.1 hc0).1
                refine Ok1.put hs hd (x := xs[g.offset]) ?_ (hall _ _ _ hc0 (Array.getElem?_eq_getElem hlt)) h
                simp [execOp, ho, hax, Instr.field, run_underlying hg, hgf, asAgg, part, htf'.isAgg, hag, hlt]
              · cases hv'
        · exact h.elim
      · exact h.elim
    · exact h.elim
  · exact h.elim

theorem app_not {ov : Ov} : ∀ {F : FS} {id : Id}, lkS ov id = none → (F.app { s := ov }).gs id = F.gs id := by
  induction ov with
  | nil => intro F id _; rfl
  | cons x r ih =>
    intro F id h
    obtain ⟨k, y⟩ := x
    simp only [lkS] at h
    cases hk : idEq k id with
    | true => rw [hk] at h; cases h
    | false =>
      rw [hk] at h
      simp only [cond_false] at h
      have he : F.app { s := (k, y) :: r } = (F.setS k y).app { s := r } := rfl
      rw [he, ih h]
      simp [FS.setS, hk]

theorem run_storeVar {P : Program} {T : TypeId} {ti : TI} (ht : TIok P T ti) {b off : Nat} {xs : Array Value} {e : TypeId} (hb : w.heap[b]? = some (.cells xs e (0, 0))) {v : Value} (hsz : v.cells.size = ti.sz)
    (hone : ∀ y ∈ v.cells.toList, y.oneCell' = true) (hfit : off + ti.sz ≤ xs.size) :
    (storeVar T ⟨b, off, none⟩ v).run P w = .ok () (w.setRow b (xs.toList.take off ++ v.cells.toList ++ xs.toList.drop (off + v.cells.toList.length)).toArray) := by
  have h := run_storeCells_at P b off e v.cells.toList 0 xs w hb (by simp only [Nat.add_zero, Array.length_toList]; omega) hone
  simp only [Nat.add_zero] at h
  simp [storeVar, ht.sizeOf, hsz]
  simpa [hsz] using h

theorem sim_store (hcx : CxOk cx) (hs : SR cx n L I F a w) {o : Oper} {T : TypeId} {ad x : Operand} (ho : o.op = .store T ad x) (hd : ∀ d, o.dst = some d → d < n) {wr : Wr} {rs : List Res}
    (h : (stepOp cx o).ev C F wr rs) : Ok1 cx n L I F a w o wr := by
  simp only [stepOp, ho] at h
  (replace h := withTy_ev h); obtain ⟨ti, hti, h⟩ := h
  have ht := hcx.ty _ _ hti
  (replace h := rdV_ev hs h); obtain ⟨av, rs1, hav, h⟩ := h
  (replace h := rdV_ev hs h); obtain ⟨v, rs2, hv, h⟩ := h
  split at h
  · exact h.elim
  · rename_i vs hvs
    have hrel := cellsOf_rel hv hvs
    split at h
    · exact h.elim
    · rename_i hlen
      have hlen : vs.length = ti.sz := Classical.not_not.1 hlen
      have hvsz : (a.eval x).cells.size = ti.sz := by rw [← hlen, hrel.length]; simp
      have hone : ∀ y ∈ (a.eval x).cells.toList, y.oneCell' = true := by
        intro y hy
        obtain ⟨i, hi⟩ := List.getElem?_of_mem hy
        have hlt : i < vs.length := by rw [hrel.length]; exact (List.getElem?_eq_some_iff.1 hi).1
        exact one_cell' (hrel.get i vs[i] y (List.getElem?_eq_getElem hlt) hi).1
      split at h
      · rename_i id off
        obtain ⟨rs3, _, h⟩ := h
        try dsimp only at h
        split at h
        · rename_i cs hcs
          split at h
          · rename_i hfit
            have hw := put_inv h
            subst hw
            generalize hax : a.eval ad = y at hav
            cases hav with
            | ref hsh =>
              obtain ⟨xs, e, hb, hl, hall, hI⟩ := hs.obj id _ hcs
              have hfit' : off + ti.sz ≤ xs.size := by omega
              have hr := run_storeVar (w := w) ht hb hvsz hone hfit'
              have hcell : ∀ b k, I b k → (w.setRow (L id).b (xs.toList.take off ++ (a.eval x).cells.toList ++ xs.toList.drop (off + (a.eval x).cells.toList.length)).toArray).cell? ⟨b, k, none⟩ = w.cell? ⟨b, k, none⟩ := by
                intro b k hI'
                refine cell_setRow_other w _ _ ⟨b, k, none⟩ fun he => hI k ?_
                simp only at he
                rw [← he]; exact hI'
              have hll : (a.eval x).cells.toList.length = ti.sz := by simpa using hvsz
              have hcompat : ∀ (j : Id) (s : Sh), F.sh j = some s → ∃ s', (F.setS id (.cells (cs.take off ++ vs ++ cs.drop (off + ti.sz)))).sh j = some s' ∧ Compat (L j) (updL L id (L id) j) s s' := by
                intro j s hj
                by_cases hji : id = j
                · subst hji
                  rw [sh_set_same, updL_same]
                  simp only [FS.sh, hcs, Option.map_some, Option.some.injEq] at hj
                  subst hj
                  exact ⟨_, rfl, rfl⟩
                · rw [updL_other L _ hji]
                  exact ⟨s, by simpa [FS.sh, FS.setS, idEq_false.2 hji] using hj, .refl _ _⟩
              refine Ok1.set (l := L id) (w' := w.setRow (L id).b (xs.toList.take off ++ (a.eval x).cells.toList ++ xs.toList.drop (off + (a.eval x).cells.toList.length)).toArray) (x := undef) hs hd (nx := .skip) ?_ (.inr ⟨rfl, rfl⟩) ?_ rfl rfl rfl (by simp) (fun b hb hne => setRow_other w _ b _ hne) hcell ?_ .junk
              · simp only [execOp, ho, hax, Instr.storeAt, Instr.sureAddr, Sem.run_bind, Sem.run_pure, Result.andThen_ok, hr]
              · rw [hcs]
                exact ⟨rfl, .inl rfl⟩
              · have hblk := setRow_heap w (L id).b xs (xs.toList.take off ++ (a.eval x).cells.toList ++ xs.toList.drop (off + (a.eval x).cells.toList.length)).toArray e _ hb
                refine ⟨_, e, hblk, ?_, fun i c y hi hy => ?_, hI⟩
                · simp only [List.size_toArray, List.length_append, List.length_take, List.length_drop, Array.length_toList]
                  omega
                · have hi' := hi
                  have hy' : (xs.toList.take off ++ (a.eval x).cells.toList ++ xs.toList.drop (off + (a.eval x).cells.toList.length))[i]? = some y := by simpa using hy
                  rw [splice_get (by simp only [Array.length_toList]; omega)] at hy'
                  rw [← hlen, splice_get (by omega)] at hi'
                  rw [hll, ← hlen] at hy'
                  have done : ∀ {c y}, one y = true ∧ VR L F.sh I w c y → one y = true ∧ VR (updL L id (L id)) (F.setS id (.cells (cs.take off ++ vs ++ cs.drop (off + ti.sz)))).sh I (w.setRow (L id).b (xs.toList.take off ++ (a.eval x).cells.toList ++ xs.toList.drop (off + (a.eval x).cells.toList.length)).toArray) c y :=
                    fun hh => ⟨hh.1, hh.2.mono (fun _ _ h => h) hcell fun j _ s hj => hcompat j s hj⟩
                  split at hi'
                  · rename_i c1
                    rw [if_pos c1] at hy'
                    exact done (hall i c y hi' (by simpa using hy'))
                  · rename_i c1
                    rw [if_neg c1] at hy'
                    split at hi'
                    · rename_i c2
                      rw [if_pos c2] at hy'
                      exact done (hrel.get _ c y hi' hy')
                    · rename_i c2
                      rw [if_neg c2] at hy'
                      exact done (hall i c y hi' (by simpa using hy'))
          · exact h.elim
        · exact h.elim
      · rename_i id i j N
        obtain ⟨ds, ov, rs3, hok, _, hds, h⟩ := toPVs_ev hs hrel h (by intro x hx; cases hx)
        unfold rdO at h
        split at h
        · rename_i ob hob
          obtain ⟨sz, es, fz, h1, h2⟩ := hok _ (lkS_mem hob)
          simp only at h2
          subst h2
          obtain ⟨⟨_, hle⟩, row, hrow, _⟩ := h
          have := (List.getElem?_eq_some_iff.1 hrow).1
          omega
        · rename_i hno
          obtain ⟨rs4, _, h⟩ := h
          try dsimp only at h
          split at h
          · rename_i sz es fz hes
            obtain ⟨⟨hN, hfz⟩, row, hrow, h⟩ := h
            dsimp only at h
            split at h
            · rename_i hjr
              have hw := put_inv h
              subst hw
              refine Ok1.frz hs hok ?_
              obtain ⟨hs1, _⟩ := hs.freeze hok
              have hg1 : (F.app { s := ov }).gs id = some (.arr sz es fz) := by rw [app_not hno]; exact hes
              generalize hax : a.eval ad = y at hav
              cases hav with
              | @er _ _ _ _ ad' sz' N0 hsh hNN ha =>
                have hs0 : F.sh id = some (.arr sz es.length) := by simp [FS.sh, hes, AO.sh]
                rw [hs0] at hsh
                cases hsh
                have had := ha hN.symm
                subst had
                obtain ⟨h0, hrl, hfzl, xs, e, hb, hsx, hfit, hall, hI1⟩ := hs1.obj id _ hg1
                have hil : i < es.length := (List.getElem?_eq_some_iff.1 hrow).1
                have hrlen := hrl _ _ hrow
                have hdl : ds.length = ti.sz := by rw [hds.length]; simpa using hvsz
                have hend : i * sz + j + ti.sz ≤ (i + 1) * sz := by rw [Nat.add_mul]; omega
                have hend2 : (i + 1) * sz ≤ es.length * sz := Nat.mul_le_mul_right _ hil
                have hfit' : i * sz + j + ti.sz ≤ xs.size := by omega
                have hr := run_storeVar (w := w) ht hb hvsz hone hfit'
                have hll : (a.eval x).cells.toList.length = ti.sz := by simpa using hvsz
                have hblk := setRow_heap w (L id).b xs (xs.toList.take (i * sz + j) ++ (a.eval x).cells.toList ++ xs.toList.drop (i * sz + j + (a.eval x).cells.toList.length)).toArray e _ hb
                have hget : ∀ k, (xs.toList.take (i * sz + j) ++ (a.eval x).cells.toList ++ xs.toList.drop (i * sz + j + (a.eval x).cells.toList.length)).toArray[k]? =
                    if k < i * sz + j then xs[k]? else if k < i * sz + j + ti.sz then (a.eval x).cells.toList[k - (i * sz + j)]? else xs[k]? := by
                  intro k
                  have := splice_get (l := xs.toList) (v := (a.eval x).cells.toList) (o := i * sz + j) (by rw [hll]; simpa using hfit') k
                  rw [hll] at this
                  rw [hll]
                  simpa using this
                have hcell : ∀ b k, frz L I ov b k → (w.setRow (L id).b (xs.toList.take (i * sz + j) ++ (a.eval x).cells.toList ++ xs.toList.drop (i * sz + j + (a.eval x).cells.toList.length)).toArray).cell? ⟨b, k, none⟩ = w.cell? ⟨b, k, none⟩ := by
                  intro b k hI
                  by_cases hbb : b = (L id).b
                  · subst hbb
                    have hk : k < i * sz := Nat.lt_of_lt_of_le (hI1 k hI) (Nat.mul_le_mul_right _ hfz)
                    rw [cell_of hblk, cell_of hb, hget, if_pos (by omega)]
                  · exact cell_setRow_other w _ _ ⟨b, k, none⟩ hbb
                refine Ok1.set (l := L id) (w' := w.setRow (L id).b (xs.toList.take (i * sz + j) ++ (a.eval x).cells.toList ++ xs.toList.drop (i * sz + j + (a.eval x).cells.toList.length)).toArray) (x := undef) hs1 hd (nx := .skip) ?_ (.inr ⟨rfl, rfl⟩) ?_ rfl rfl rfl (by simp) (fun b hb hne => setRow_other w _ b _ hne) hcell ?_ .junk
                · simp only [execOp, ho, hax, Instr.storeAt, Instr.sureAddr, Sem.run_bind, Sem.run_pure, Result.andThen_ok, hr]
                · rw [hg1]
                  exact ⟨⟨rfl, by simp, fun _ => rfl⟩, .inl rfl⟩
                · refine ⟨h0, fun i' r hi' => ?_, by simpa using hfzl, _, e, hblk, ?_, by simpa using hfit, fun i' j' r q hi' hj' => ?_, hI1⟩
                  · by_cases hii : i = i'
                    · subst hii
                      rw [List.getElem?_set_self hil] at hi'
                      cases hi'
                      simp only [List.length_append, List.length_take, List.length_drop, hdl]
                      omega
                    · rw [List.getElem?_set_ne hii] at hi'
                      exact hrl _ _ hi'
                  · simp only [List.size_toArray, List.length_append, List.length_take, List.length_drop, Array.length_toList]
                    omega
                  · have old : ∀ (r0 : List PV), es[i']? = some r0 → r0[j']? = some q → (i' * sz + j' < i * sz + j ∨ i * sz + j + ti.sz ≤ i' * sz + j') →
                        ∃ x', (xs.toList.take (i * sz + j) ++ (a.eval x).cells.toList ++ xs.toList.drop (i * sz + j + (a.eval x).cells.toList.length)).toArray[i' * sz + j']? = some x' ∧
                          PR (frz L I ov) (w.setRow (L id).b (xs.toList.take (i * sz + j) ++ (a.eval x).cells.toList ++ xs.toList.drop (i * sz + j + (a.eval x).cells.toList.length)).toArray) q x' := by
                      intro r0 hr0 hj0 hor
                      obtain ⟨x', hx', hp⟩ := hall i' j' r0 q hr0 hj0
                      refine ⟨x', ?_, hp.mono (fun _ _ h => h) hcell⟩
                      rw [hget]
                      rcases hor with hlt | hge
                      · rw [if_pos hlt]; exact hx'
                      · rw [if_neg (by omega), if_neg (by omega)]; exact hx'
                    by_cases hii : i = i'
                    · subst hii
                      rw [List.getElem?_set_self hil] at hi'
                      cases hi'
                      have hsp := splice_get (l := row) (v := ds) (o := j) (by rw [hdl]; exact hjr) j'
                      rw [hdl] at hsp
                      rw [hsp] at hj'
                      split at hj'
                      · exact old row hrow hj' (.inl (by omega))
                      · split at hj'
                        · rename_i c1 c2
                          have hlt : j' - j < (a.eval x).cells.toList.length := by rw [hll]; omega
                          refine ⟨(a.eval x).cells.toList[j' - j], ?_, (hds.get _ q _ hj' (List.getElem?_eq_getElem hlt)).mono (fun _ _ h => h) hcell⟩
                          rw [hget, if_neg (by omega), if_pos (by omega)]
                          have : i * sz + j' - (i * sz + j) = j' - j := by omega
                          rw [this]
                          exact List.getElem?_eq_getElem hlt
                        · exact old row hrow hj' (.inr (by omega))
                    · rw [List.getElem?_set_ne hii] at hi'
                      have hj2 : j' < sz := by rw [← hrl _ _ hi']; exact (List.getElem?_eq_some_iff.1 hj').1
                      refine old r hi' hj' ?_
                      rcases Nat.lt_or_gt_of_ne hii with hlt | hgt
                      · right
                        have : (i + 1) * sz ≤ i' * sz := Nat.mul_le_mul_right _ hlt
                        omega
                      · left
                        have := mul_lt_chunk hgt hj2
                        omega
            · exact h.elim
          · exact h.elim
      · exact h.elim

end Go.Ev
end
section
/- Simulation: maps, iteration over strings, min and max, full slices, clear. -/
namespace Go.Ev
open Go.MapKept (IsKey)

variable {cx : Cx} {n : Nat} {L L' : Id → Loc} {I I' : Nat → Nat → Prop} {F F' : FS} {a : Act} {w w' : World} {C : Rel}

theorem bytes_toList_data (b : ByteArray) : b.toList = b.data.toList := by rw [ByteArray.toList_eq]

theorem bytes_ext {a b : ByteArray} (h : a.toList = b.toList) : a = b := by
  rw [bytes_toList_data, bytes_toList_data] at h
  cases a; cases b
  simp only [Array.toList_inj] at h
  subst h; rfl

theorem keyEq_iff {d : TypeDesc} {x y : Value} (hx : IsKey d x) (hy : IsKey d y) : keyEq x y = true ↔ x = y := by
  cases d <;> cases x <;> simp only [IsKey] at hx <;> cases y <;> simp only [IsKey] at hy
  · simp [keyEq]
  · subst hx; subst hy; simp [keyEq]
  · simp only [keyEq, beq_iff_eq, Value.string.injEq]
    exact ⟨bytes_ext, fun h => by rw [h]⟩

theorem keyB_key (hcx : CxOk cx) {t : TypeId} {v : Value} (h : keyB cx.ty t v = true) : ∃ d, cx.P.underlying t = some d ∧ IsKey d v := by
  unfold keyB at h
  split at h
  · rename_i ti hti
    have hu := (hcx.ty _ _ hti).und
    split at h
    · rename_i hk; rw [hk] at hu; exact ⟨_, hu, trivial⟩
    · rename_i k k' m hk
      rw [hk] at hu
      have : k' = k := by simpa using h
      subst this
      exact ⟨_, hu, rfl⟩
    · rename_i hk; rw [hk] at hu; exact ⟨_, hu, trivial⟩
    · cases h
  · cases h

theorem find_rel {d : TypeDesc} {k : Value} (hk : IsKey d k) : ∀ (es : List (Value × List PV)) (l : List MapEntry) (i : Nat), es.length = l.length →
    (∀ (j : Nat) (e : Value × List PV) (m : MapEntry), es[j]? = some e → l[j]? = some m → m.key = e.1) → (∀ e ∈ es, IsKey d e.1) →
    (mapHas es k = false ∧ mapGet es k = none ∧ Instr.findNow d k l i = some none ∧ (∀ v, mapSet es k v = es ++ [(k, v)]) ∧ mapDel es k = es) ∨
    ∃ j m row, mapHas es k = true ∧ Instr.findNow d k l i = some (some (i + j, m.val)) ∧ l[j]? = some m ∧ m.key = k ∧ es[j]? = some (k, row) ∧ mapGet es k = some row ∧ (∀ v, mapSet es k v = es.set j (k, v)) ∧ mapDel es k = es.eraseIdx j
  | [], l, i, hl, _, _ => by
    have : l = [] := List.eq_nil_of_length_eq_zero (by simpa using hl.symm)
    subst this
    exact .inl ⟨rfl, rfl, rfl, fun _ => rfl, rfl⟩
  | e :: r, [], i, hl, _, _ => by simp at hl
  | (k0, v0) :: r, m :: q, i, hl, hkey, hes => by
    have hm := hkey 0 _ _ rfl rfl
    simp only at hm
    have hk0 := hes (k0, v0) (by simp)
    simp only at hk0
    obtain ⟨s, hs, hiff⟩ := Go.MapKept.sameNow_of_keys hk (hm ▸ hk0)
    cases s with
    | true =>
      have he := hiff.1 rfl
      rw [hm] at he
      subst he
      have hq := (keyEq_iff hk hk).2 rfl
      exact .inr ⟨0, m, v0, by simp [mapHas, hq], by simp [Instr.findNow, hs], rfl, hm, rfl, by simp [mapGet, hq], fun v => by simp [mapSet, hq], by simp [mapDel, hq]⟩
    | false =>
      have hne : k ≠ k0 := fun h => by
        have := hiff.2 (by rw [hm]; exact h)
        cases this
      have hq : keyEq k k0 = false := by
        cases hq : keyEq k k0 with
        | false => rfl
        | true => exact absurd ((keyEq_iff hk hk0).1 hq) hne
      rcases find_rel hk r q (i + 1) (by simpa using hl) (fun j e m h1 h2 => hkey (j + 1) e m (by simpa using h1) (by simpa using h2)) (fun e he => hes e (by simp [he])) with ⟨h1, h2, h3, h4, h5⟩ | ⟨j, m', row, h1, h2, h3, h4, h5, h6, h7, h8⟩
      · exact .inl ⟨by simp [mapHas, hq, h1], by simp [mapGet, hq, h2], by simp [Instr.findNow, hs, h3], fun v => by simp [mapSet, hq, h4], by simp [mapDel, hq, h5]⟩
      · exact .inr ⟨j + 1, m', row, by simp [mapHas, h1], by simp only [Instr.findNow, hs, h2]; congr 3; omega, by simpa using h3, h4, by simpa using h5, by simp [mapGet, hq, h6], fun v => by simp [mapSet, hq, h7], by simp [mapDel, hq, h8]⟩

theorem keyVal_rel {v : AV} {x k : Value} (h : VR L F.sh I w v x) (hk : keyVal v = some k) (hp : ∃ d, IsKey d k) : x = k := by
  cases v <;> simp only [keyVal] at hk
  · rename_i p
    cases p <;> simp only [Option.some.injEq, reduceCtorEq] at hk
    subst hk
    cases h with
    | p h => cases h; rfl
  all_goals (try cases hk)
  · simp only [Option.map_eq_some_iff] at hk
    obtain ⟨l, _, rfl⟩ := hk
    obtain ⟨d, hd⟩ := hp
    cases d <;> simp [IsKey] at hd
theorem ofCells_pure {ti : TI} {row : List PV} {v : AV} {g : Bool} {e : Value × List PV} {m : MapEntry} (hg : g = ti.agg) (hrow : e.2 = row) (hm : MR I w g e m) (h : ofCells ti (row.map .p) = some v) : VR L F.sh I w v m.val := by
  subst hg
  subst hrow
  unfold ofCells at h
  rcases hm.2 with ⟨hg, d, hd, hp⟩ | ⟨hg, xs, hx, hl, hp⟩
  · rw [if_neg (by simp [hg]), hd] at h
    simp only [List.map_cons, List.map_nil, Option.some.injEq] at h
    subst h
    exact .p hp
  · rw [if_pos hg] at h
    split at h
    · cases h
      rw [hx]
      have hone : ∀ (i : Nat) (x : Value), xs[i]? = some x → ∃ d, e.2[i]? = some d ∧ PR I w d x := by
        intro i x hi
        have hlt := (Array.getElem?_eq_some_iff.1 hi).1
        have hd : e.2[i]? = some (e.2[i]'(by omega)) := List.getElem?_eq_getElem (by omega)
        exact ⟨_, hd, hp i _ x hd hi⟩
      refine .agg (by simpa using hl) (fun i x hi => ?_) fun i c x hc hi => ?_
      · obtain ⟨d, _, hd⟩ := hone i x hi
        exact hd.one
      · rw [List.getElem?_map, Option.map_eq_some_iff] at hc
        obtain ⟨d, hd, rfl⟩ := hc
        exact .p (hp i d x hd hi)
    · cases h

theorem zeroVal_rel {T : TypeId} {ti : TI} (ht : TIok cx.P T ti) {v : AV} (h : ofCells ti (zeroAVs ti) = some v) : ∃ z, VR L F.sh I w v z ∧ ∀ w', (zeroValue T).run cx.P w' = .ok z w' := by
  obtain ⟨z, hz, hzf, hzr⟩ := ht.zero
  refine ⟨z, ?_, hzr⟩
  have hrel : All2 (fun c y => one y = true ∧ VR L F.sh I w c y) (zeroAVs ti) z.cells.toList := zeros_rel ht hz
  unfold ofCells at h
  cases hg : ti.agg with
  | true =>
    rw [hg] at h hzf
    simp only [if_true] at h
    split at h
    · cases h
      cases z <;> simp only [zform, Bool.not_true, Bool.false_eq_true] at hzf
      rename_i xs
      refine .agg (by simpa [Value.cells] using hrel.length.symm) (fun i x hi => ?_) fun i c x hc hi => (hrel.get i c x hc (by simpa [Value.cells] using hi)).2
      have hlt : i < (zeroAVs ti).length := by rw [hrel.length]; simpa [Value.cells] using (Array.getElem?_eq_some_iff.1 hi).1
      exact (hrel.get i _ x (List.getElem?_eq_getElem hlt) (by simpa [Value.cells] using hi)).1
    · cases h
  | false =>
    rw [hg] at h hzf
    simp only [Bool.false_eq_true, if_false] at h
    split at h
    · rename_i c hc
      cases h
      rw [hc] at hrel
      have hcell : z.cells = #[z] := by cases z <;> first | rfl | (simp [zform] at hzf)
      rw [hcell] at hrel
      cases hrel with
      | cons h k => exact h.2
    · cases h

theorem sim_lookup (hcx : CxOk cx) (hs : SR cx n L I F a w) {o : Oper} {T : TypeId} {x ix : Operand} {ok : Bool} (ho : o.op = .lookup T x ix ok) (hd : ∀ d, o.dst = some d → d < n) {wr : Wr} {rs : List Res}
    (h : (stepOp cx o).ev C F wr rs) : Ok1 cx n L I F a w o wr := by
  simp only [stepOp, ho] at h
  (replace h := withTy_ev h); obtain ⟨ti, hti, h⟩ := h
  have hund := (hcx.ty _ _ hti).und
  split at h
  · rename_i kt e hk
    rw [hk] at hund
    simp only at hund
    (replace h := withTy_ev h); obtain ⟨te, hte, h⟩ := h
    (replace h := rdV_ev hs h); obtain ⟨xv, rs1, hxv, h⟩ := h
    (replace h := rdV_ev hs h); obtain ⟨kv, rs2, hkv, h⟩ := h
    split at h
    · rename_i kx hkx
      split at h
      · rename_i id
        obtain ⟨rs3, _, h⟩ := h
        dsimp only at h
        split at h
        · rename_i g es hes
          (replace h := chk_ev h); obtain ⟨hg, h⟩ := h
          have hg : g = te.agg := by simpa using hg
          obtain ⟨⟨hkeys, hkk⟩, h⟩ := h
          obtain ⟨d, hd1, hd2⟩ := keyB_key hcx hkk
          have hkeys' : ∀ y ∈ es, IsKey d y.1 := fun y hy => by
            obtain ⟨d', h1, h2⟩ := keyB_key hcx (hkeys y hy)
            rw [hd1] at h1; cases h1; exact h2
          have hix := keyVal_rel hkv hkx ⟨d, hd2⟩
          obtain ⟨ms, k, hb, hl, hall⟩ := hs.obj id _ hes
          generalize hax : a.eval x = y at hxv
          cases hxv
          rcases find_rel hd2 es ms.toList 0 (by simpa using hl.symm) (fun j e m h1 h2 => (hall j e m h1 (by simpa using h2)).1) hkeys' with ⟨h1, h2, h3, _, _⟩ | ⟨j, m, row, h1, h2, h3, h4, h5, h6, _, _⟩
          · rw [RP.ev, h1] at h
            simp only [Bool.false_eq_true, if_false] at h
            split at h
            · rename_i v hv
              obtain ⟨z, hz, hzr⟩ := zeroVal_rel (cx := cx) (L := L) (F := F) (I := I) (w := w) (hcx.ty _ _ hte) hv
              cases ok with
              | true =>
                refine Ok1.put hs hd (x := .tuple #[z, .bool false]) ?_ (.tup (by simp) ?_) h
                · simp [execOp, ho, hax, hix, Instr.lookup, run_underlying hund, MapKept.run_getObj_map hb, MapKept.run_checkKey hd1 hd2, MapKept.run_findKey hd1 h3, hzr]
                · intro i c x hc hx
                  match i, hc, hx with
                  | 0, hc, hx => simp at hc hx; subst hc; subst hx; exact hz
                  | 1, hc, hx => simp at hc hx; subst hc; subst hx; exact .p (.s rfl)
                  | i + 2, hc, hx => simp at hc
              | false =>
                refine Ok1.put hs hd (x := z) ?_ hz h
                simp [execOp, ho, hax, hix, Instr.lookup, run_underlying hund, MapKept.run_getObj_map hb, MapKept.run_checkKey hd1 hd2, MapKept.run_findKey hd1 h3, hzr]
            · exact h.elim
          · rw [RP.ev, h1] at h
            simp only [if_true] at h
            obtain ⟨row', hrow', h⟩ := h
            rw [h6] at hrow'
            cases hrow'
            dsimp only at h
            have hm := hall j _ m h5 (by simpa using h3)
            split at h
            · rename_i v hv
              have hz := ofCells_pure (L := L) (F := F) hg rfl hm hv
              cases ok with
              | true =>
                refine Ok1.put hs hd (x := .tuple #[m.val, .bool true]) ?_ (.tup (by simp) ?_) h
                · simp [execOp, ho, hax, hix, Instr.lookup, run_underlying hund, MapKept.run_getObj_map hb, MapKept.run_checkKey hd1 hd2, MapKept.run_findKey hd1 h2]
                · intro i c x hc hx
                  match i, hc, hx with
                  | 0, hc, hx => simp at hc hx; subst hc; subst hx; exact hz
                  | 1, hc, hx => simp at hc hx; subst hc; subst hx; exact .p (.s rfl)
                  | i + 2, hc, hx => simp at hc
              | false =>
                refine Ok1.put hs hd (x := m.val) ?_ hz h
                simp [execOp, ho, hax, hix, Instr.lookup, run_underlying hund, MapKept.run_getObj_map hb, MapKept.run_checkKey hd1 hd2, MapKept.run_findKey hd1 h2]
            · exact h.elim
        · rename_i es pe ver hes
          (replace h := chk_ev h); obtain ⟨hok, h⟩ := h
          have hok : ok = false := by simpa using hok
          subst hok
          split at h
          · rename_i hv
            obtain ⟨⟨hkeys, hkk⟩, h⟩ := h
            obtain ⟨d, hd1, hd2⟩ := keyB_key hcx hkk
            have hkeys' : ∀ y ∈ es, IsKey d y.1 := fun y hy => by
              obtain ⟨d', h1, h2⟩ := keyB_key hcx (hkeys y hy)
              rw [hd1] at h1; cases h1; exact h2
            have hix := keyVal_rel hkv hkx ⟨d, hd2⟩
            obtain ⟨ms, k, bs, hb, hG⟩ := hs.obj id _ hes
            have hsh : F.sh id = some (.gm ver pe.isSome) := by simp [FS.sh, hes, AO.sh]
            generalize hax : a.eval x = y at hxv
            cases hxv
            rcases find_rel hd2 es ms.toList 0 (by simpa using hG.size.symm) (fun j e m h1 h2 => (hG.ent j e m h1 (by simpa using h2)).1) hkeys' with ⟨h1, h2, h3, _, _⟩ | ⟨j, m, row, h1, h2, h3, h4, h5, h6, _, _⟩
            · obtain ⟨z, hz, hzr⟩ := zeroVal_rel (cx := cx) (L := L) (F := F) (I := I) (w := w) (hcx.ty _ _ hte) hv
              have hzn : z = nilS := by
                cases hz with
                | p hp => cases hp; rfl
              subst hzn
              refine Ok1.put hs hd (x := nilS) ?_ (.gv rfl (.inr ⟨ver, pe.isSome, hsh, Nat.le_refl _, fun _ => (hG.absent kx h1).symm⟩)) h
              simp [execOp, ho, hax, hix, Instr.lookup, run_underlying hund, MapKept.run_getObj_map hb, MapKept.run_checkKey hd1 hd2, MapKept.run_findKey hd1 h3, hzr]
            · obtain ⟨g1, g2, rows, g3, g4, c1, xs, e', q1, q2, q3, q4, q5⟩ := hG.ent j _ m h5 (by simpa using h3)
              refine Ok1.put hs hd (x := m.val) ?_ (.gv (by rw [q1]; rfl) (.inr ⟨ver, pe.isSome, hsh, Nat.le_refl _, fun _ => g2⟩)) h
              simp [execOp, ho, hax, hix, Instr.lookup, run_underlying hund, MapKept.run_getObj_map hb, MapKept.run_checkKey hd1 hd2, MapKept.run_findKey hd1 h2]
          · exact h.elim
        · exact h.elim
      · exact h.elim
    · exact h.elim
  · exact h.elim

/-- A world with another object in a block that is no row of cells. -/
theorem Ok1.setMap (hs : SR cx n L I F a w) {o : Oper} (hd : ∀ d, o.dst = some d → d < n) {id : Id} {ob ob' : AO} {B B' : Obj} {v : AV} {x : Value} {nx : Next}
    (hg : F.gs id = some ob) (hsh : ob'.sh = ob.sh) (hm : ob.sh = .map ∨ ob.sh = .it) (hb : w.heap[(L id).b]? = some B) (hnc : ∀ c e f, B ≠ .cells c e f) (hnc' : ∀ c e f, B' ≠ .cells c e f)
    (hr : (execOp a.eval o).run cx.P w = .ok nx { w with heap := w.heap.setIfInBounds (L id).b B' }) (hn : nx = .value x ∨ (nx = .skip ∧ x = undef))
    (hor : ∀ w' : World, w'.heap[(L id).b]? = some B' → (∀ b o, I b o → w'.cell? ⟨b, o, none⟩ = w.cell? ⟨b, o, none⟩) → OR (updL L id (L id)) (F.setS id ob').sh I w' (L id) ob')
    (hv : VR (updL L id (L id)) (F.setS id ob').sh I { w with heap := w.heap.setIfInBounds (L id).b B' } v x) : Ok1 cx n L I F a w o { e := dstW o v, s := [(id, ob')] } := by
  obtain ⟨hs1, hs2⟩ := Go.MapKept.heap_set (o' := B') hb
  have hcell : ∀ b o, I b o → ({ w with heap := w.heap.setIfInBounds (L id).b B' } : World).cell? ⟨b, o, none⟩ = w.cell? ⟨b, o, none⟩ := by
    intro b o _
    by_cases hbb : b = (L id).b
    · subst hbb
      simp only [World.cell?, hs1, hb]
      cases B <;> first | (exact absurd rfl (hnc _ _ _)) | (cases B' <;> first | (exact absurd rfl (hnc' _ _ _)) | rfl)
    · simp only [World.cell?, hs2 b hbb]
  refine Ok1.set (l := L id) (w' := { w with heap := w.heap.setIfInBounds (L id).b B' }) hs hd hr hn ?_ rfl rfl rfl (by simp) (fun b hb hne => hs2 b hne) hcell (hor _ hs1 hcell) hv
  rw [hg]
  refine ⟨?_, .inl rfl⟩
  simp only [hsh]
  rcases hm with h | h <;> rw [h] <;> rfl

theorem sim_delete (hcx : CxOk cx) (hs : SR cx n L I F a w) {o : Oper} {args : Array Operand} {tys : Array TypeId} (ho : o.op = .call { callee := .builtin .delete, args := args, argTypes := tys })
    (hd : ∀ d, o.dst = some d → d < n) {wr : Wr} {rs : List Res} (h : (stepOp cx o).ev C F wr rs) : Ok1 cx n L I F a w o wr := by
  simp only [stepOp, ho] at h
  split at h
  · rename_i m ix t r hx1 ht1
    have hxa : args = #[m, ix] := by rw [← Array.toList_inj, hx1]
    have hta : tys[0]? = some t := by rw [← Array.getElem?_toList, ht1]; rfl
    subst hxa
    (replace h := withTy_ev h); obtain ⟨ti, hti, h⟩ := h
    have hund := (hcx.ty _ _ hti).und
    split at h
    · rename_i kt e hk
      rw [hk] at hund
      simp only at hund
      (replace h := rdV_ev hs h); obtain ⟨mv, rs1, hmv, h⟩ := h
      (replace h := rdV_ev hs h); obtain ⟨kv, rs2, hkv, h⟩ := h
      split at h
      · rename_i id kx hkx
        obtain ⟨rs3, _, h⟩ := h
        dsimp only at h
        split at h
        · rename_i g es hes
          obtain ⟨⟨hkeys, hkk⟩, h⟩ := h
          have hw := put_inv h
          subst hw
          obtain ⟨d, hd1, hd2⟩ := keyB_key hcx hkk
          have hkeys' : ∀ y ∈ es, IsKey d y.1 := fun y hy => by
            obtain ⟨d', h1, h2⟩ := keyB_key hcx (hkeys y hy)
            rw [hd1] at h1; cases h1; exact h2
          have hix := keyVal_rel hkv hkx ⟨d, hd2⟩
          obtain ⟨ms, k, hb, hl, hall⟩ := hs.obj id _ hes
          generalize hax : a.eval m = y at hmv
          cases hmv
          rcases find_rel hd2 es ms.toList 0 (by simpa using hl.symm) (fun j e m h1 h2 => (hall j e m h1 (by simpa using h2)).1) hkeys' with ⟨h1, h2, h3, _, h5'⟩ | ⟨j, mm, row, h1, h2, h3, h4, h5, h6, _, h8⟩
          · rw [h5']
            refine Ok1.setMap (ob' := .map g es) (B' := .map ms k) (x := .tuple #[]) (nx := .value (.tuple #[])) hs hd hes rfl (.inl rfl) hb (by simp) (by simp) ?_ (.inl rfl) (fun w' hb' hc => ⟨ms, k, hb', hl, fun i e m hi hm => (hall i e m hi hm).mono (fun _ _ h => h) hc⟩) .junk
            simp [execOp, ho, hax, hix, resolve, invoke, builtin, Builtin.delete_, hta, run_underlying hund, MapKept.run_getObj_map hb, MapKept.run_checkKey hd1 hd2, MapKept.run_findKey hd1 h3, MapKept.run_setObj_map _ hb]
          · rw [h8]
            have hjl : j < ms.size := by simpa using (List.getElem?_eq_some_iff.1 h3).1
            refine Ok1.setMap (ob' := .map g (es.eraseIdx j)) (B' := .map (ms.eraseIdxIfInBounds j) k) (x := .tuple #[]) (nx := .value (.tuple #[])) hs hd hes rfl (.inl rfl) hb (by simp) (by simp) ?_ (.inl rfl) (fun w' hb' hc => ⟨_, k, hb', ?_, fun i e m hi hm => ?_⟩) .junk
            · simp [execOp, ho, hax, hix, resolve, invoke, builtin, Builtin.delete_, hta, run_underlying hund, MapKept.run_getObj_map hb, MapKept.run_checkKey hd1 hd2, MapKept.run_findKey hd1 h2, MapKept.run_setObj_map _ hb]
            · have hjl' : j < es.length := by omega
              simp [Array.eraseIdxIfInBounds, hjl, List.length_eraseIdx, hjl', hl]
            · have hm' : (ms.toList.eraseIdx j)[i]? = some m := by
                have : (ms.eraseIdxIfInBounds j).toList = ms.toList.eraseIdx j := by simp [Array.eraseIdxIfInBounds, hjl]
                rw [← this, Array.getElem?_toList]; exact hm
              rw [List.getElem?_eraseIdx] at hi hm'
              split at hi
              · rename_i c
                rw [if_pos c] at hm'
                exact (hall i e m hi (by simpa using hm')).mono (fun _ _ h => h) hc
              · rename_i c
                rw [if_neg c] at hm'
                exact (hall (i + 1) e m hi (by simpa using hm')).mono (fun _ _ h => h) hc
        · exact h.elim
      · exact h.elim
    · exact h.elim
  · exact h.elim

theorem MR.of_cells {ds : List PV} {k x : Value} {b : Nat} {ti : TI} (ht : ti.agg = false → ti.sz = 1) (hlen : ds.length = ti.sz) (hform : x.cells.size = ti.sz) (hag : ti.agg = true → ∃ xs, x = .agg xs) (hone : ti.agg = false → one x = true)
    (h : All2 (PR I w) ds x.cells.toList) : MR I w ti.agg (k, ds) { key := k, val := x, born := b } := by
  refine ⟨rfl, ?_⟩
  cases hg : ti.agg with
  | true =>
    obtain ⟨xs, rfl⟩ := hag hg
    exact .inr ⟨rfl, xs, rfl, by simpa [Value.cells] using h.length.symm, fun i d y hi hy => h.get i d y hi (by simpa [Value.cells] using hy)⟩
  | false =>
    have h1 := hone hg
    have hc : x.cells = #[x] := by cases x <;> first | rfl | (simp [one] at h1)
    rw [hc] at h
    cases h with
    | cons h k =>
      cases k
      exact .inl ⟨rfl, _, rfl, h⟩
theorem VR_one {v : AV} {x : Value} (h : VR L F.sh I w v x) {vs : List AV} (hv : v.cellsOf = some vs) (hg : v.isAgg = false) : one x = true := by
  cases h with
  | p h => exact h.one
  | agg _ _ _ => cases hg
  | tup _ _ => cases hv
  | junk => cases hv
  | gv h _ => exact h
  | gn h _ => exact h
  | _ => rfl
theorem VR_agg {v : AV} {x : Value} (h : VR L F.sh I w v x) (hg : v.isAgg = true) : ∃ xs, x = .agg xs := by
  cases h <;> first | (cases hg; done) | exact ⟨_, rfl⟩
theorem mapHas_keys (es : List (Value × List PV)) (k : Value) : mapHas es k = (es.map (·.1)).any (keyEq k) := by
  induction es with
  | nil => rfl
  | cons e r ih => simp only [mapHas, List.map_cons, List.any_cons, ih]

theorem sim_mapUpdate (hcx : CxOk cx) (hs : SR cx n L I F a w) {o : Oper} {T : TypeId} {m ix x : Operand} (ho : o.op = .mapUpdate T m ix x) (hd : ∀ d, o.dst = some d → d < n) {wr : Wr} {rs : List Res}
    (h : (stepOp cx o).ev C F wr rs) : Ok1 cx n L I F a w o wr := by
  simp only [stepOp, ho] at h
  (replace h := withTy_ev h); obtain ⟨ti, hti, h⟩ := h
  have hund := (hcx.ty _ _ hti).und
  split at h
  · rename_i kt e hk
    rw [hk] at hund
    simp only at hund
    (replace h := withTy_ev h); obtain ⟨te, hte, h⟩ := h
    have hte' := hcx.ty _ _ hte
    (replace h := rdV_ev hs h); obtain ⟨mv, rs1, hmv, h⟩ := h
    (replace h := rdV_ev hs h); obtain ⟨kv, rs2, hkv, h⟩ := h
    (replace h := rdV_ev hs h); obtain ⟨xv, rs3, hxv, h⟩ := h
    split at h
    · rename_i kx hkx
      split at h
      · rename_i id
        split at h
        · rename_i id' ver
          (replace h := chk_ev h); obtain ⟨hid, h⟩ := h
          have hid' := idEq_iff.1 hid
          subst hid'
          obtain ⟨rs4, _, h⟩ := h
          dsimp only at h
          split at h
          · rename_i es k rows v hes
            (replace h := chk_ev h); obtain ⟨hc, h⟩ := h
            obtain ⟨⟨hver, hkeys, hkk, hke⟩, h⟩ := h
            subst hver
            have hw := put_inv h
            subst hw
            obtain ⟨ks, hks⟩ : ∃ s, k = .string s := by
              have := hc
              cases k <;> simp only [isStr] at this <;> first | exact ⟨_, rfl⟩ | cases this
            have hkk2 : kx = k := by rw [hks] at hke ⊢; exact keyEq_str hke
            subst hkk2
            obtain ⟨d, hd1, hd2⟩ := keyB_key hcx hkk
            have hkeys' : ∀ y ∈ es, IsKey d y.1 := fun y hy => by
              obtain ⟨d', h1, h2⟩ := keyB_key hcx (hkeys y hy)
              rw [hd1] at h1; cases h1; exact h2
            have hix := keyVal_rel hkv hkx ⟨d, hd2⟩
            obtain ⟨ms, kk, bs, hb, hG⟩ := hs.obj id _ hes
            obtain ⟨hR, B, hBo, hGS, hB⟩ := hG.pend kx rows rfl
            have hsome : (F.gs id).isSome = true := by rw [hes]; rfl
            have hxp : a.eval x = (L id).pend := by
              generalize a.eval x = xx at hxv
              cases hxv with
              | gn _ hh =>
                rcases hh with hh | ⟨v0, p0, hh, hle, hx⟩
                · simp [FS.sh, hes, AO.sh] at hh
                · simp only [FS.sh, hes, AO.sh, Option.map_some, Option.some.injEq, Sh.gm.injEq] at hh
                  exact (hx hh.1.symm).2
            generalize hax : a.eval m = y at hmv
            cases hmv
            have hrefl : keyEq kx kx = true := (keyEq_iff hd2 hd2).2 rfl
            let l' : Loc := { L id with val := fun q => bif keyEq q kx then (L id).pend else (L id).val q }
            have fin : ∀ (es' : List (Value × List PV)) (ms' : Array MapEntry) (kk' : Nat) (bs' : Nat → Nat), (execOp a.eval o).run cx.P w = .ok .skip { w with heap := w.heap.setIfInBounds (L id).b (.map ms' kk') } →
                (∀ w' : World, w.heap.size ≤ w'.heap.size → (∀ b, (L id).own b → w'.heap[b]? = w.heap[b]?) → (∀ b o, I b o → w'.cell? ⟨b, o, none⟩ = w.cell? ⟨b, o, none⟩) → GM I w' l' es' none ms' bs') →
                Ok1 cx n L I F a w o { e := dstW o .junk, s := [(id, .gm es' none (v + 1))] } := by
              intro es' ms' kk' bs' hr hG'
              obtain ⟨hs1, hs2⟩ := Go.MapKept.heap_set (o' := Obj.map ms' kk') hb
              have hcell : ∀ b o, I b o → ({ w with heap := w.heap.setIfInBounds (L id).b (.map ms' kk') } : World).cell? ⟨b, o, none⟩ = w.cell? ⟨b, o, none⟩ := by
                intro b o _
                by_cases hbb : b = (L id).b
                · subst hbb
                  simp only [World.cell?, hs1, hb]
                · simp only [World.cell?, hs2 b hbb]
              refine Ok1.setG (l := l') (x := undef) (w' := { w with heap := w.heap.setIfInBounds (L id).b (.map ms' kk') }) hs hd hr (.inr ⟨rfl, rfl⟩) ?_ (fun b hb' => ?_) rfl rfl rfl (by simp) (fun b hb' hn => hs2 b fun e => hn (.inl e.symm)) hcell ?_ .junk
              · rw [hes]
                exact ⟨rfl, Nat.le_succ _, fun h => by omega⟩
              · have hb2 : (L id).has b := hb'
                exact ⟨by have := hs.ownlt id hsome b hb2; simpa using this, .inr ⟨hsome, hb2⟩⟩
              · exact ⟨ms', kk', bs', hs1, hG' _ (by simp) (fun b hb' => hs2 b (hG.free b hb').1) hcell⟩
            have hfree : ∀ (w' : World), w.heap.size ≤ w'.heap.size → ∀ b, (L id).own b → b ≠ (L id).b ∧ b < w'.heap.size ∧ ∀ o, ¬ I b o := fun w' hsz b hb' => by
              obtain ⟨h1, h2, h3⟩ := hG.free b hb'
              exact ⟨h1, Nat.lt_of_lt_of_le h2 hsz, h3⟩
            have hval : ∀ (e : Value), keyEq e kx = false → l'.val e = (L id).val e := fun e he => by simp only [l', he, cond_false]
            have hvalk : l'.val kx = (L id).pend := by simp only [l', hrefl, cond_true]
            rcases find_rel hd2 es ms.toList 0 (by simpa using hG.size.symm) (fun j e m h1 h2 => (hG.ent j e m h1 (by simpa using h2)).1) hkeys' with ⟨h1, h2, h3, h4', _⟩ | ⟨j, mm, row, h1, h2, h3, h4, h5, h6, h7, _⟩
            · have hno : ∀ (i : Nat) (e : Value × List PV), es[i]? = some e → keyEq kx e.1 = false := by
                intro i e he
                rw [mapHas_keys, List.any_eq_false] at h1
                simpa using h1 e.1 (List.mem_map.2 ⟨e, List.mem_of_getElem? he, rfl⟩)
              have hno2 : ∀ (i : Nat) (e : Value × List PV), es[i]? = some e → keyEq e.1 kx = false := by
                intro i e he
                cases hq : keyEq e.1 kx with
                | false => rfl
                | true =>
                  have := (keyEq_iff (hkeys' e (List.mem_of_getElem? he)) hd2).1 hq
                  have h0 := hno i e he
                  rw [this, hrefl] at h0
                  cases h0
              rw [h4']
              refine fin (es ++ [(kx, [.sl rows])]) (ms.push { key := kx, val := a.eval x, born := kk }) (kk + 1) (fun i => if i = es.length then B else bs i) ?_ fun w' hsz hown hc => ?_
              · simp [execOp, ho, hax, hix, Instr.mapUpdate, run_underlying hund, MapKept.run_getObj_map hb, MapKept.run_checkKey hd1 hd2, MapKept.run_findKey hd1 h3, MapKept.run_setObj_map _ hb]
              · have hget : ∀ (i : Nat) (e : Value × List PV), (es ++ [(kx, [PV.sl rows])])[i]? = some e → (i < es.length ∧ es[i]? = some e) ∨ (i = es.length ∧ e = (kx, [.sl rows])) := by
                  intro i e hi
                  rw [List.getElem?_append] at hi
                  split at hi
                  · rename_i c; exact .inl ⟨c, hi⟩
                  · rename_i c
                    have : i - es.length < 1 := (List.getElem?_eq_some_iff.1 hi).1
                    have hie : i = es.length := by omega
                    subst hie
                    simp at hi
                    exact .inr ⟨rfl, hi.symm⟩
                refine ⟨by simp [hG.size], fun i e m hi hm => ?_, fun i e hi => ?_, fun i j e f hi hj hq => ?_, fun q hq => ?_, fun i hi => ?_, fun i j hi hj hb' => ?_, hfree w' hsz, fun k rows hp => by cases hp⟩
                · rcases hget i e hi with ⟨hlt, hi⟩ | ⟨rfl, rfl⟩
                  · rw [Array.getElem?_push, if_neg (by rw [hG.size]; omega)] at hm
                    obtain ⟨g1, g2, rows', g3, g4, g5⟩ := hG.ent i e m hi hm
                    refine ⟨g1, g2.trans (hval _ (hno2 i e hi)).symm, rows', g3, g4, ?_⟩
                    rw [if_neg (by omega)]
                    exact g5.mono (fun _ _ h => h) hc (hown _ (hG.own i hlt))
                  · rw [Array.getElem?_push, if_pos hG.size.symm] at hm
                    cases hm
                    refine ⟨rfl, hxp.trans hvalk.symm, rows, rfl, hR, ?_⟩
                    rw [if_pos rfl, hxp]
                    exact hGS.mono (fun _ _ h => h) hc (hown _ hBo)
                · rcases hget i e hi with ⟨hlt, hi⟩ | ⟨rfl, rfl⟩
                  · exact hG.str i e hi
                  · exact ⟨ks, hks⟩
                · rcases hget i e hi with ⟨hlt, hi⟩ | ⟨rfl, rfl⟩ <;> rcases hget j f hj with ⟨hlt2, hj⟩ | ⟨rfl, rfl⟩
                  · exact hG.dist i j e f hi hj hq
                  · rw [hno2 i e hi] at hq; cases hq
                  · rw [hno j f hj] at hq; cases hq
                  · rfl
                · rw [mapHas_keys, List.map_append, List.any_append, Bool.or_eq_false_iff] at hq
                  have hq2 : keyEq q kx = false := by simpa using hq.2
                  rw [hval q hq2]
                  exact hG.absent q (by rw [mapHas_keys]; exact hq.1)
                · simp only [List.length_append, List.length_singleton] at hi
                  show (L id).own _
                  split
                  · exact hBo
                  · exact hG.own i (by omega)
                · simp only [List.length_append, List.length_singleton] at hi hj
                  have hcl : ∀ i, i < es.length → bs i = B → False := fun i hi hb' => by
                    have h0 := hB i _ (List.getElem?_eq_getElem hi) hb'
                    rw [hno i _ (List.getElem?_eq_getElem hi)] at h0
                    cases h0
                  by_cases ci : i = es.length <;> by_cases cj : j = es.length
                  · omega
                  · rw [if_pos ci, if_neg cj] at hb'
                    exact (hcl j (by omega) hb'.symm).elim
                  · rw [if_neg ci, if_pos cj] at hb'
                    exact (hcl i (by omega) hb').elim
                  · rw [if_neg ci, if_neg cj] at hb'
                    exact hG.inj i j (by omega) (by omega) hb'
            · have hjl : j < ms.size := by simpa using (List.getElem?_eq_some_iff.1 h3).1
              have h3' : ms[j]? = some mm := by simpa using h3
              have hmj : ms[j] = mm := by
                rw [Array.getElem?_eq_getElem hjl] at h3'
                exact Option.some.inj h3'
              have hje : j < es.length := by rw [← hG.size]; exact hjl
              have hno : ∀ (i : Nat) (e : Value × List PV), i ≠ j → es[i]? = some e → keyEq kx e.1 = false := by
                intro i e hij he
                cases hq : keyEq kx e.1 with
                | false => rfl
                | true => exact absurd (hG.dist j i _ e h5 he hq).symm hij
              have hno2 : ∀ (i : Nat) (e : Value × List PV), i ≠ j → es[i]? = some e → keyEq e.1 kx = false := by
                intro i e hij he
                cases hq : keyEq e.1 kx with
                | false => rfl
                | true => exact absurd (hG.dist i j e _ he h5 hq) hij
              have hkeysE : (es.set j (kx, [PV.sl rows])).map (·.1) = es.map (·.1) := by
                rw [List.map_set]
                apply List.ext_getElem?
                intro i
                by_cases hij : j = i
                · subst hij
                  rw [List.getElem?_set_self (by simpa using hje), List.getElem?_map, h5]
                  rfl
                · rw [List.getElem?_set_ne hij]
              rw [h7]
              refine fin (es.set j (kx, [.sl rows])) (ms.modify j fun e => { e with key := kx, val := a.eval x }) kk (fun i => if i = j then B else bs i) ?_ fun w' hsz hown hc => ?_
              · simp [execOp, ho, hax, hix, Instr.mapUpdate, run_underlying hund, MapKept.run_getObj_map hb, MapKept.run_checkKey hd1 hd2, MapKept.run_findKey hd1 h2, MapKept.run_setObj_map _ hb, h3', h4, MapKept.run_keyThatStays hd2]
              · have hget : ∀ (i : Nat) (e : Value × List PV), (es.set j (kx, [PV.sl rows]))[i]? = some e → (i ≠ j ∧ es[i]? = some e) ∨ (i = j ∧ e = (kx, [.sl rows])) := by
                  intro i e hi
                  by_cases hij : j = i
                  · subst hij
                    rw [List.getElem?_set_self hje] at hi
                    cases hi
                    exact .inr ⟨rfl, rfl⟩
                  · rw [List.getElem?_set_ne hij] at hi
                    exact .inl ⟨fun h => hij h.symm, hi⟩
                refine ⟨by simp [hG.size], fun i e m hi hm => ?_, fun i e hi => ?_, fun i i2 e f hi hi2 hq => ?_, fun q hq => ?_, fun i hi => ?_, fun i i2 hi hi2 hb' => ?_, hfree w' hsz, fun k rows hp => by cases hp⟩
                · rw [Array.getElem?_modify] at hm
                  rcases hget i e hi with ⟨hij, hi⟩ | ⟨rfl, rfl⟩
                  · rw [if_neg (fun h => hij h.symm)] at hm
                    obtain ⟨g1, g2, rows', g3, g4, g5⟩ := hG.ent i e m hi hm
                    refine ⟨g1, g2.trans (hval _ (hno2 i e hij hi)).symm, rows', g3, g4, ?_⟩
                    rw [if_neg hij]
                    exact g5.mono (fun _ _ h => h) hc (hown _ (hG.own i (List.getElem?_eq_some_iff.1 hi).1))
                  · rw [if_pos rfl, h3'] at hm
                    cases hm
                    refine ⟨rfl, hxp.trans hvalk.symm, rows, rfl, hR, ?_⟩
                    rw [if_pos rfl]
                    show GS I w' B rows (a.eval x)
                    rw [hxp]
                    exact hGS.mono (fun _ _ h => h) hc (hown _ hBo)
                · rcases hget i e hi with ⟨hij, hi⟩ | ⟨rfl, rfl⟩
                  · exact hG.str i e hi
                  · exact ⟨ks, hks⟩
                · rcases hget i e hi with ⟨hij, hi'⟩ | ⟨hij, he'⟩ <;> rcases hget i2 f hi2 with ⟨hij2, hi2'⟩ | ⟨hij2, hf'⟩
                  · exact hG.dist i i2 e f hi' hi2' hq
                  · rw [hf', hno2 i e hij hi'] at hq; cases hq
                  · rw [he', hno i2 f hij2 hi2'] at hq; cases hq
                  · rw [hij, hij2]
                · rw [mapHas_keys, hkeysE, ← mapHas_keys] at hq
                  have hq2 : keyEq q kx = false := by
                    rw [mapHas_keys, List.any_eq_false] at hq
                    simpa using hq kx (List.mem_map.2 ⟨_, List.mem_of_getElem? h5, rfl⟩)
                  rw [hval q hq2]
                  exact hG.absent q hq
                · simp only [List.length_set] at hi
                  show (L id).own _
                  split
                  · exact hBo
                  · exact hG.own i hi
                · simp only [List.length_set] at hi hi2
                  have hcl : ∀ i, i ≠ j → i < es.length → bs i = B → False := fun i hij hi hb' => by
                    have h0 := hB i _ (List.getElem?_eq_getElem hi) hb'
                    rw [hno i _ hij (List.getElem?_eq_getElem hi)] at h0
                    cases h0
                  by_cases ci : i = j <;> by_cases cj : i2 = j
                  · omega
                  · rw [if_pos ci, if_neg cj] at hb'
                    exact (hcl i2 cj hi2 hb'.symm).elim
                  · rw [if_neg ci, if_pos cj] at hb'
                    exact (hcl i ci hi hb').elim
                  · rw [if_neg ci, if_neg cj] at hb'
                    exact hG.inj i i2 hi hi2 hb'
          · exact h.elim
        · rename_i hngn
          split at h
          · rename_i vs hvs
            have hrel := cellsOf_rel hxv hvs
            (replace h := chk_ev h); obtain ⟨hag, h⟩ := h
            have hag : te.agg = xv.isAgg := by simpa using hag
            split at h
            · exact h.elim
            · rename_i hlen
              have hlen : vs.length = te.sz := Classical.not_not.1 hlen
              obtain ⟨ds, ov, rs4, hok, _, hds, h⟩ := toPVs_ev hs hrel h (by intro x hx; cases hx)
              unfold rdO at h
              split at h
              · rename_i ob hob
                obtain ⟨sz, es, fz, h1, h2⟩ := hok _ (lkS_mem hob)
                simp only at h2
                subst h2
                exact h.elim
              · rename_i hno
                obtain ⟨rs5, _, h⟩ := h
                dsimp only at h
                split at h
                · rename_i g es hes
                  (replace h := chk_ev h); obtain ⟨hg, h⟩ := h
                  have hg : g = te.agg := by simpa using hg
                  obtain ⟨⟨hkeys, hkk⟩, h⟩ := h
                  have hw := put_inv h
                  subst hw
                  refine Ok1.frz hs hok ?_
                  obtain ⟨hs1, _⟩ := hs.freeze hok
                  have hg1 : (F.app { s := ov }).gs id = some (.map g es) := by rw [app_not hno]; exact hes
                  obtain ⟨d, hd1, hd2⟩ := keyB_key hcx hkk
                  have hkeys' : ∀ y ∈ es, IsKey d y.1 := fun y hy => by
                    obtain ⟨d', h1, h2⟩ := keyB_key hcx (hkeys y hy)
                    rw [hd1] at h1; cases h1; exact h2
                  have hix := keyVal_rel hkv hkx ⟨d, hd2⟩
                  obtain ⟨ms, k, hb, hl, hall⟩ := hs1.obj id _ hg1
                  generalize hax : a.eval m = y at hmv
                  cases hmv
                  have hds' : ds.length = te.sz := by rw [hds.length, ← hrel.length, hlen]
                  have hnew : ∀ (w' : World) (b : Nat), (∀ b o, frz L I ov b o → w'.cell? ⟨b, o, none⟩ = w.cell? ⟨b, o, none⟩) → MR (frz L I ov) w' g (kx, ds) { key := kx, val := a.eval x, born := b } := by
                    intro w' b hc
                    rw [hg]
                    refine MR.of_cells hte'.one hds' (by rw [← hlen, hrel.length]; simp) (fun ha => VR_agg hxv (by rw [← hag, ha])) (fun ha => VR_one hxv hvs (by rw [← hag, ha])) (hds.mono fun p y hp => hp.mono (fun _ _ h => h) hc)
                  rcases find_rel hd2 es ms.toList 0 (by simpa using hl.symm) (fun j e m h1 h2 => (hall j e m h1 (by simpa using h2)).1) hkeys' with ⟨h1, h2, h3, h4', _⟩ | ⟨j, mm, row, h1, h2, h3, h4, h5, h6, h7, _⟩
                  · rw [h4']
                    refine Ok1.setMap (ob' := .map g (es ++ [(kx, ds)])) (B' := .map (ms.push { key := kx, val := a.eval x, born := k }) (k + 1)) (x := undef) (nx := .skip) hs1 hd hg1 rfl (.inl rfl) hb (by simp) (by simp) ?_ (.inr ⟨rfl, rfl⟩) (fun w' hb' hc => ⟨_, _, hb', by simp [hl], fun i e mm hi hm => ?_⟩) .junk
                    · simp [execOp, ho, hax, hix, Instr.mapUpdate, run_underlying hund, MapKept.run_getObj_map hb, MapKept.run_checkKey hd1 hd2, MapKept.run_findKey hd1 h3, MapKept.run_setObj_map _ hb]
                    · rw [Array.getElem?_push] at hm
                      rw [List.getElem?_append] at hi
                      split at hm
                      · rename_i c
                        cases hm
                        rw [if_neg (by omega)] at hi
                        have : i - es.length = 0 := by omega
                        rw [this] at hi
                        cases hi
                        exact hnew w' k hc
                      · rename_i c
                        have hlt := (Array.getElem?_eq_some_iff.1 hm).1
                        rw [if_pos (by omega)] at hi
                        exact (hall i e mm hi hm).mono (fun _ _ h => h) hc
                  · rw [h7]
                    have hjl : j < ms.size := by simpa using (List.getElem?_eq_some_iff.1 h3).1
                    have h3' : ms[j]? = some mm := by simpa using h3
                    have hmj : ms[j] = mm := by
                      rw [Array.getElem?_eq_getElem hjl] at h3'
                      exact Option.some.inj h3'
                    refine Ok1.setMap (ob' := .map g (es.set j (kx, ds))) (B' := .map (ms.modify j fun e => { e with key := kx, val := a.eval x }) k) (x := undef) (nx := .skip) hs1 hd hg1 rfl (.inl rfl) hb (by simp) (by simp) ?_ (.inr ⟨rfl, rfl⟩) (fun w' hb' hc => ⟨_, _, hb', by simp [hl], fun i e m' hi hm => ?_⟩) .junk
                    · simp [execOp, ho, hax, hix, Instr.mapUpdate, run_underlying hund, MapKept.run_getObj_map hb, MapKept.run_checkKey hd1 hd2, MapKept.run_findKey hd1 h2, MapKept.run_setObj_map _ hb, h3', h4, MapKept.run_keyThatStays hd2]
                    · rw [Array.getElem?_modify] at hm
                      by_cases hij : j = i
                      · subst hij
                        rw [if_pos rfl, h3'] at hm
                        rw [List.getElem?_set_self (by omega)] at hi
                        cases hi
                        cases hm
                        exact hnew w' _ hc
                      · rw [if_neg hij] at hm
                        rw [List.getElem?_set_ne hij] at hi
                        exact (hall i e m' hi hm).mono (fun _ _ h => h) hc
                · exact h.elim
          · exact h.elim
      · exact h.elim
    · exact h.elim
  · exact h.elim

theorem sim_range (hcx : CxOk cx) (hs : SR cx n L I F a w) {o : Oper} {T : TypeId} {x : Operand} (ho : o.op = .range T x) (hd : ∀ d, o.dst = some d → d < n) {wr : Wr} {rs : List Res}
    (h : (stepOp cx o).ev C F wr rs) : Ok1 cx n L I F a w o wr := by
  simp only [stepOp, ho] at h
  (replace h := withTy_ev h); obtain ⟨ti, hti, h⟩ := h
  have hund := (hcx.ty _ _ hti).und
  (replace h := rdV_ev hs h); obtain ⟨xv, rs1, hxv, h⟩ := h
  split at h
  · rename_i s hk
    rw [hk] at hund
    simp only at hund
    obtain ⟨d, hod, hfree, rfl⟩ := newO_ev h
    refine Ok1.new (v := fun i => .itr i) (w' := w.alloc (.stringIter s 0)) hs hod (hd d hod) (mkLoc w.heap.size (0)) (x := .pointer (some ⟨w.heap.size, 0, none⟩)) ?_ rfl hfree rfl rfl rfl (by simp) (fun b hb => heap_alloc_old w _ b hb) ?_ ?_
    · simp [execOp, ho, Instr.range, run_underlying hund, hxv.scal.1]
    · exact heap_alloc_new w _
    · have h2 : VR (updL L (d + 1, 0) (mkLoc w.heap.size (0))) (F.setS (d + 1, 0) (.it s 0)).sh I (w.alloc (.stringIter s 0)) (.itr (d + 1, 0)) (.pointer (some ⟨(updL L (d + 1, 0) (mkLoc w.heap.size (0)) (d + 1, 0)).b, 0, none⟩)) := .itr sh_set_same
      rw [updL_same] at h2
      exact h2
  · exact h.elim

theorem run_getObj_it {P : Program} {w : World} {r : Nat} {s : ByteArray} {p : Nat} (hb : w.heap[r]? = some (.stringIter s p)) : (getObj r).run P w = .ok (.stringIter s p) w := by
  simp [getObj, Sem.run, hb]
theorem run_setObj_it {P : Program} {w : World} {r : Nat} {s : ByteArray} {p : Nat} (o : Obj) (hb : w.heap[r]? = some (.stringIter s p)) : (setObj r o).run P w = .ok () { w with heap := w.heap.setIfInBounds r o } := by
  simp [setObj, Sem.run, hb]

theorem sim_next (hs : SR cx n L I F a w) {o : Oper} {it : Operand} (ho : o.op = .next it true) (hd : ∀ d, o.dst = some d → d < n) {wr : Wr} {rs : List Res}
    (h : (stepOp cx o).ev C F wr rs) : Ok1 cx n L I F a w o wr := by
  simp only [stepOp, ho] at h
  (replace h := rdV_ev hs h); obtain ⟨xv, rs1, hxv, h⟩ := h
  split at h
  · rename_i id
    obtain ⟨rs2, _, h⟩ := h
    dsimp only at h
    split at h
    · rename_i s pos hes
      have hb := hs.obj id _ hes
      generalize hax : a.eval it = y at hxv
      cases hxv
      rw [RP.ev] at h
      by_cases hp : pos < s.size
      · simp only [hp, decide_true, if_true] at h
        change (RP.ret _).ev C F wr _ at h
        have hw := put_inv h
        subst hw
        refine Ok1.setMap (ob' := .it s (pos + (Utf8.decode s pos).2)) (B' := .stringIter s (pos + (Utf8.decode s pos).2)) (x := .tuple #[.bool true, goInt pos, .int .i32 (Utf8.decode s pos).1]) (nx := .value (.tuple #[.bool true, goInt pos, .int .i32 (Utf8.decode s pos).1])) hs hd hes rfl (.inr rfl) hb (by simp) (by simp) ?_ (.inl rfl) (fun w' hb' hc => hb') ?_
        · simp [execOp, ho, hax, Instr.next, run_getObj_it hb, hp, run_setObj_it _ hb]
        · refine .tup (by simp) fun i c x hc hx => ?_
          match i, hc, hx with
          | 0, hc, hx => simp at hc hx; subst hc; subst hx; exact .p (.s rfl)
          | 1, hc, hx => simp at hc hx; subst hc; subst hx; exact .p (.s rfl)
          | 2, hc, hx => simp at hc hx; subst hc; subst hx; exact .p (.s rfl)
          | i + 3, hc, hx => simp at hc
      · simp only [hp, decide_false, Bool.false_eq_true, if_false] at h
        refine Ok1.put hs hd (x := .tuple #[.bool false]) ?_ (.tup (by simp) ?_) h
        · simp [execOp, ho, hax, Instr.next, run_getObj_it hb, hp]
        · intro i c x hc hx
          match i, hc, hx with
          | 0, hc, hx => simp at hc hx; subst hc; subst hx; exact .p (.s rfl)
          | i + 1, hc, hx => simp at hc
    · exact h.elim
  · exact h.elim
theorem run_fold_min {P : Program} (w : World) (k : IntKind) : ∀ (vs : List AV) (xs : List Value) (ns : List Int) (n0 : Int), All2 (VR L F.sh I w) vs xs → vs.mapM (fun (c : AV) => (match c with | .p (.s (.int _ x)) => some x | _ => none : Option Int)) = some ns →
    (xs.foldlM Builtin.min2 (.int k n0)).run P w = .ok (.int k (ns.foldl (fun a b => if b < a then b else a) n0)) w
  | [], _, ns, n0, .nil, hm => by
    simp at hm
    subst hm
    simp
  | v :: r, _, ns, n0, .cons (y := y) h hr, hm => by
    simp only [List.mapM_cons, Option.bind_eq_bind, Option.bind_eq_some_iff] at hm
    obtain ⟨x, hx, l, hl, hm⟩ := hm
    simp at hm
    subst hm
    split at hx
    · rename_i kk x'
      cases hx
      have hy := h.scal.1
      subst hy
      simp only [List.foldlM_cons, List.foldl_cons]
      have := run_fold_min (P := P) w k r _ l (if x < n0 then x else n0) hr hl
      simpa [Builtin.min2] using this
    · cases hx

theorem sim_min (hs : SR cx n L I F a w) {o : Oper} {args : Array Operand} {tys : Array TypeId} (ho : o.op = .call { callee := .builtin .min, args := args, argTypes := tys })
    (hd : ∀ d, o.dst = some d → d < n) {wr : Wr} {rs : List Res} (h : (stepOp cx o).ev C F wr rs) : Ok1 cx n L I F a w o wr := by
  simp only [stepOp, ho] at h
  (replace h := rdVs_ev hs h); obtain ⟨vs, rs1, hvs, h⟩ := h
  split at h
  · rename_i r hr
    change (RP.ret _).ev C F wr _ at h
    unfold foldI at hr
    split at hr
    · rename_i k n0 r'
      simp only [Option.map_eq_some_iff] at hr
      obtain ⟨ns, hns, rfl⟩ := hr
      generalize hxs : args.toList.map a.eval = xs at hvs
      cases hvs with
      | cons h1 h2 =>
        rename_i y ys
        have hy := h1.scal.1
        subst hy
        have hf := run_fold_min (L := L) (F := F) (I := I) (P := cx.P) w k r' _ ns n0 h2 hns
        have hargs : (args.map a.eval).toList = .int k n0 :: ys := by simpa using hxs
        refine Ok1.put hs hd ?_ (.p (.s rfl)) h
        simp [execOp, ho, resolve, invoke, builtin, Builtin.min_, hargs, hxs, hf]
    · cases hr
  · exact h.elim

theorem run_fold_max {P : Program} (w : World) (k : IntKind) : ∀ (vs : List AV) (xs : List Value) (ns : List Int) (n0 : Int), All2 (VR L F.sh I w) vs xs → vs.mapM (fun (c : AV) => (match c with | .p (.s (.int _ x)) => some x | _ => none : Option Int)) = some ns →
    (xs.foldlM Builtin.max2 (.int k n0)).run P w = .ok (.int k (ns.foldl (fun a b => if a < b then b else a) n0)) w
  | [], _, ns, n0, .nil, hm => by
    simp at hm
    subst hm
    simp
  | v :: r, _, ns, n0, .cons (y := y) h hr, hm => by
    simp only [List.mapM_cons, Option.bind_eq_bind, Option.bind_eq_some_iff] at hm
    obtain ⟨x, hx, l, hl, hm⟩ := hm
    simp at hm
    subst hm
    split at hx
    · rename_i kk x'
      cases hx
      have hy := h.scal.1
      subst hy
      simp only [List.foldlM_cons, List.foldl_cons]
      have := run_fold_max (P := P) w k r _ l (if n0 < x then x else n0) hr hl
      simpa [Builtin.max2] using this
    · cases hx

theorem sim_max (hs : SR cx n L I F a w) {o : Oper} {args : Array Operand} {tys : Array TypeId} (ho : o.op = .call { callee := .builtin .max, args := args, argTypes := tys })
    (hd : ∀ d, o.dst = some d → d < n) {wr : Wr} {rs : List Res} (h : (stepOp cx o).ev C F wr rs) : Ok1 cx n L I F a w o wr := by
  simp only [stepOp, ho] at h
  (replace h := rdVs_ev hs h); obtain ⟨vs, rs1, hvs, h⟩ := h
  split at h
  · rename_i r hr
    change (RP.ret _).ev C F wr _ at h
    unfold foldI at hr
    split at hr
    · rename_i k n0 r'
      simp only [Option.map_eq_some_iff] at hr
      obtain ⟨ns, hns, rfl⟩ := hr
      generalize hxs : args.toList.map a.eval = xs at hvs
      cases hvs with
      | cons h1 h2 =>
        rename_i y ys
        have hy := h1.scal.1
        subst hy
        have hf := run_fold_max (L := L) (F := F) (I := I) (P := cx.P) w k r' _ ns n0 h2 hns
        have hargs : (args.map a.eval).toList = .int k n0 :: ys := by simpa using hxs
        refine Ok1.put hs hd ?_ (.p (.s rfl)) h
        simp [execOp, ho, resolve, invoke, builtin, Builtin.max_, hargs, hxs, hf]
    · cases hr
  · exact h.elim

theorem sim_slice3 (hcx : CxOk cx) (hs : SR cx n L I F a w) {o : Oper} {T : TypeId} {x hi mx : Operand} {lo : Option Operand} (ho : o.op = .slice T x lo (some hi) (some mx)) (hd : ∀ d, o.dst = some d → d < n) {wr : Wr} {rs : List Res}
    (h : (stepOp cx o).ev C F wr rs) : Ok1 cx n L I F a w o wr := by
  simp only [stepOp, ho] at h
  (replace h := withTy_ev h); obtain ⟨ti, hti, h⟩ := h
  have hund := (hcx.ty _ _ hti).und
  (replace h := rdV_ev hs h); obtain ⟨xv, rs1, hxv, h⟩ := h
  (replace h := rdLo_ev hs h); obtain ⟨l, hlow, rs2, h⟩ := h
  (replace h := rdHi_ev hs h); obtain ⟨h', hhigh, rs3, h⟩ := h
  (replace h := rdHi_ev hs h); obtain ⟨m', hmax, rs4, h⟩ := h
  split at h
  · rename_i e id off m N hh mm hk
    rw [hk] at hund
    simp only at hund
    (replace h := withTy_ev h); obtain ⟨te, hte, h⟩ := h
    have hsz := (hcx.ty _ _ hte).sizeOf
    obtain ⟨rs5, _, h⟩ := h
    dsimp only at h
    split at h
    · rename_i sz es fz hes
      (replace h := chk_ev h); obtain ⟨_, h⟩ := h
      obtain ⟨⟨hN, h0, h1, h2, h3⟩, h⟩ := h
      generalize hax : a.eval x = y at hxv
      cases hxv with
      | @ms _ _ _ _ ad c sz' N0 hsh hNN ha =>
        have hs0 : F.sh id = some (.arr sz es.length) := by simp [FS.sh, hes, AO.sh]
        rw [hs0] at hsh
        cases hsh
        obtain ⟨g1, g2, g3, g4, g5, g6⟩ := ha hN.symm
        rcases hhigh with ⟨_, hb⟩ | ⟨kh, hv, hhv, hb⟩
        · cases hb
        · cases hb
          rcases hmax with ⟨_, hb⟩ | ⟨km, mv, hmv, hb⟩
          · cases hb
          · cases hb
            have e1 : (Instr.sliceBounds true m c (lo.map a.eval) (some (a.eval hi)) (some (a.eval mx))).run cx.P w = .ok (l.toNat, hh.toNat, mm.toNat) w := by
              have t1 : 0 ≤ mm ∧ mm ≤ (c : Int) := ⟨by omega, by omega⟩
              have t2 : 0 ≤ hh ∧ hh ≤ (mm.toNat : Int) := ⟨by omega, by omega⟩
              have t3 : 0 ≤ l ∧ l ≤ (hh.toNat : Int) := ⟨by omega, by omega⟩
              simp only [Option.map_some, Option.some.injEq] at hhv hmv
              rcases hlow with ⟨hl, rfl⟩ | ⟨kl, hl⟩
              · simp [Instr.sliceBounds, Instr.sliceBound, asIntOf, hl, hhv, hmv, t1]
                omega
              · simp [Instr.sliceBounds, Instr.sliceBound, asIntOf, hl, hhv, hmv, t1]
                rw [if_pos (by omega)]
                simp
                omega
            refine Ok1.put hs hd (x := .slice (if mm.toNat = l.toNat then some ad else some (ad.add (l.toNat * te.sz))) (hh.toNat - l.toNat) (mm.toNat - l.toNat)) ?_ .junk h
            simp [execOp, ho, Instr.sliceAt, Instr.slice, run_underlying hund, hax, e1, hsz]
    · exact h.elim
  · exact h.elim
theorem zeroCells_get (zs : Array Value) (m k : Nat) (h : k < m * zs.size) : (Builtin.zeroCells zs m).toList[k]? = zs[k % zs.size]? := by
  have h0 : 0 < zs.size := by
    rcases Nat.eq_zero_or_pos zs.size with h1 | h1
    · rw [h1] at h; simp at h
    · exact h1
  have hlt : k % zs.size < zs.size := Nat.mod_lt _ h0
  simp [Builtin.zeroCells, h, hlt]

theorem sim_clear (hcx : CxOk cx) (hs : SR cx n L I F a w) {o : Oper} {args : Array Operand} {tys : Array TypeId} (ho : o.op = .call { callee := .builtin .clear, args := args, argTypes := tys })
    (hd : ∀ d, o.dst = some d → d < n) {wr : Wr} {rs : List Res} (h : (stepOp cx o).ev C F wr rs) : Ok1 cx n L I F a w o wr := by
  simp only [stepOp, ho] at h
  split at h
  · rename_i x t hx1 ht1
    have hxa : args = #[x] := by rw [← Array.toList_inj, hx1]
    have hta : tys = #[t] := by rw [← Array.toList_inj, ht1]
    subst hxa
    subst hta
    (replace h := withTy_ev h); obtain ⟨ti, hti, h⟩ := h
    have hund := (hcx.ty _ _ hti).und
    split at h
    · rename_i e hk
      rw [hk] at hund
      simp only at hund
      (replace h := withTy_ev h); obtain ⟨te, hte, h⟩ := h
      have hte' := hcx.ty _ _ hte
      obtain ⟨z, hz, _, hzr⟩ := hte'.zero
      have hzs : z.cells.size = te.sz := by rw [← hte'.zsz, ← hz]; simp
      (replace h := rdV_ev hs h); obtain ⟨xv, rs1, hxv, h⟩ := h
      split at h
      · rename_i id off m N
        obtain ⟨rs2, _, h⟩ := h
        dsimp only at h
        split at h
        · rename_i sz es fz hes
          (replace h := chk_ev h); obtain ⟨hc, h⟩ := h
          have hc' := Nat.eq_of_beq_eq_true hc
          subst hc'
          obtain ⟨⟨hN, hle, hfo, hm0⟩, h⟩ := h
          have hzrel : All2 (fun c y => one y = true ∧ VR L F.sh I w c y) (zeroAVs te) z.cells.toList := zeros_rel hte' hz
          obtain ⟨row, ov, rs3, hok, _, hrow, h⟩ := toPVs_ev hs hzrel h (by intro x hx; cases hx)
          (replace h := chk_ev h); obtain ⟨hc2, h⟩ := h
          simp only [Bool.and_eq_true] at hc2
          have hrl' := Nat.eq_of_beq_eq_true hc2.1
          have hove : ov = [] := List.isEmpty_iff.1 hc2.2
          subst hove
          have hw := put_inv h
          subst hw
          have hfI : ∀ b o, frz L I [] b o → I b o := fun b o h => by
            simpa [frz] using h
          generalize hax : a.eval x = xx at hxv
          cases hxv with
          | @ms _ _ _ _ ad0 c0 sz' N0 hsh hNN ha =>
            have hs0 : F.sh id = some (.arr te.sz es.length) := by simp [FS.sh, hes, AO.sh]
            rw [hs0] at hsh
            cases hsh
            obtain ⟨g1, g2, g3, g4, g5, g6⟩ := ha hN.symm
            obtain ⟨h0, hrl0, hfz, xs, e', hbk, hszx, hfit, hall, hI1⟩ := hs.obj id _ hes
            have had : ad0 = ⟨(L id).b, off * te.sz, none⟩ := g4 (by omega)
            subst had
            have hnl : (Builtin.zeroCells z.cells m).toList.length = m * te.sz := by simp [size_zeroCells, hzs]
            have hfit2 : off * te.sz + m * te.sz ≤ xs.size := by
              rw [hszx, ← Nat.add_mul]
              exact Nat.le_trans (Nat.mul_le_mul_right _ hle) (by rw [← hN]; exact hfit)
            have hn1 : ∀ v ∈ (Builtin.zeroCells z.cells m).toList, v.oneCell' = true := by
              intro v hv
              obtain ⟨k, hk⟩ := List.getElem?_of_mem hv
              have hlt : k < m * z.cells.size := by
                have := (List.getElem?_eq_some_iff.1 hk).1
                rw [hnl] at this; rw [hzs]; exact this
              rw [zeroCells_get _ _ _ hlt] at hk
              have hi := hk
              rw [← Array.getElem?_toList] at hi
              have hlt2 : k % z.cells.size < (zeroAVs te).length := by rw [hzrel.length]; exact (List.getElem?_eq_some_iff.1 hi).1
              exact one_cell' (hzrel.get _ _ v (List.getElem?_eq_getElem hlt2) hi).1
            have hr := run_storeCells_at cx.P (L id).b (off * te.sz) e' (Builtin.zeroCells z.cells m).toList 0 xs w hbk (by rw [hnl]; simpa using hfit2) hn1
            simp only [Nat.add_zero] at hr
            generalize hnews : (Builtin.zeroCells z.cells m).toList = news at *
            have hblk : (w.setRow (L id).b (xs.toList.take (off * te.sz) ++ news ++ xs.toList.drop (off * te.sz + news.length)).toArray).heap[(L id).b]? =
                some (.cells (xs.toList.take (off * te.sz) ++ news ++ xs.toList.drop (off * te.sz + news.length)).toArray e' (0, 0)) := setRow_heap w _ xs _ e' _ hbk
            have hall2 : ∀ k, (xs.toList.take (off * te.sz) ++ news ++ xs.toList.drop (off * te.sz + news.length)).toArray[k]? = if k < off * te.sz then xs[k]? else if k < off * te.sz + news.length then news[k - off * te.sz]? else xs[k]? := by
              intro k
              rw [List.getElem?_toArray, splice_get (by rw [hnl]; simpa using hfit2)]
              simp
            have hcell : ∀ b k, I b k → (w.setRow (L id).b (xs.toList.take (off * te.sz) ++ news ++ xs.toList.drop (off * te.sz + news.length)).toArray).cell? ⟨b, k, none⟩ = w.cell? ⟨b, k, none⟩ := by
              intro b k hI
              by_cases hbb : b = (L id).b
              · subst hbb
                rw [cell_of hblk, cell_of hbk, hall2, if_pos (Nat.lt_of_lt_of_le (hI1 k hI) (Nat.mul_le_mul_right _ hfo))]
              · exact cell_setRow_other w _ _ ⟨b, k, none⟩ hbb
            have hlen' : (es.take off ++ List.replicate m row ++ es.drop (off + m)).length = es.length := by simp only [List.length_append, List.length_take, List.length_drop, List.length_replicate]; omega
            have hsp : ∀ (i : Nat), (es.take off ++ List.replicate m row ++ es.drop (off + m))[i]? = if i < off then es[i]? else if i < off + m then (List.replicate m row)[i - off]? else es[i]? := by
              intro i
              have := splice_get (l := es) (v := List.replicate m row) (o := off) (by simp; omega) i
              simpa using this
            refine Ok1.set (l := L id) (w' := w.setRow (L id).b (xs.toList.take (off * te.sz) ++ news ++ xs.toList.drop (off * te.sz + news.length)).toArray) (x := .tuple #[]) hs hd (nx := .value (.tuple #[])) ?_ (.inl rfl) ?_ rfl rfl rfl (by simp) (fun b hb hne => setRow_other w _ b _ hne) hcell ?_ .junk
            · have hm : m ≠ 0 := by omega
              simp [execOp, ho, resolve, invoke, builtin, Builtin.clear_, run_underlying hund, hax, hzr, hnews, hr, hm]
            · rw [hes]
              exact ⟨⟨rfl, by rw [hlen']; omega, fun _ => rfl⟩, .inl rfl⟩
            · refine ⟨h0, fun i r hi => ?_, by rw [hlen']; exact hfz, _, e', hblk, ?_, by rw [hlen']; exact hfit, fun i j r q hi hj => ?_, hI1⟩
              · rw [hsp] at hi
                split at hi
                · exact hrl0 _ _ hi
                · split at hi
                  · have := List.mem_of_getElem? hi
                    rw [List.eq_of_mem_replicate this]; exact hrl'
                  · exact hrl0 _ _ hi
              · simp only [List.size_toArray, List.length_append, List.length_take, List.length_drop, Array.length_toList, hnl]
                omega
              · rw [hsp] at hi
                have old : es[i]? = some r → (i * te.sz + j < off * te.sz ∨ off * te.sz + news.length ≤ i * te.sz + j) → ∃ x', (xs.toList.take (off * te.sz) ++ news ++ xs.toList.drop (off * te.sz + news.length)).toArray[i * te.sz + j]? = some x' ∧
                    PR I (w.setRow (L id).b (xs.toList.take (off * te.sz) ++ news ++ xs.toList.drop (off * te.sz + news.length)).toArray) q x' := by
                  intro hr0 hor
                  obtain ⟨x', hx', hp⟩ := hall i j r q hr0 hj
                  refine ⟨x', ?_, hp.mono (fun _ _ h => h) hcell⟩
                  rw [hall2]
                  rcases hor with hlt | hge
                  · rw [if_pos hlt]; exact hx'
                  · rw [if_neg (by omega), if_neg (by omega)]; exact hx'
                split at hi
                · rename_i hi1
                  have hj1 : j < te.sz := by rw [← hrl0 _ _ hi]; exact (List.getElem?_eq_some_iff.1 hj).1
                  exact old hi (.inl (mul_lt_chunk hi1 hj1))
                · rename_i hi1
                  split at hi
                  · rename_i hi2
                    have hrr := List.eq_of_mem_replicate (List.mem_of_getElem? hi)
                    subst hrr
                    have hj1 : j < te.sz := by rw [← hrl']; exact (List.getElem?_eq_some_iff.1 hj).1
                    have hlt : i * te.sz + j < off * te.sz + m * te.sz := by
                      rw [← Nat.add_mul]; exact mul_lt_chunk hi2 hj1
                    have hge : off * te.sz ≤ i * te.sz + j := by
                      have := Nat.mul_le_mul_right te.sz (show off ≤ i by omega)
                      omega
                    have hjz : j < z.cells.toList.length := by simpa [hzs] using hj1
                    refine ⟨z.cells.toList[j], ?_, ?_⟩
                    · rw [hall2, if_neg (by omega), if_pos (by rw [hnl]; exact hlt), ← hnews]
                      have he : i * te.sz + j - off * te.sz = (i - off) * te.sz + j := by
                        have := Nat.mul_le_mul_right te.sz (show off ≤ i by omega)
                        rw [Nat.sub_mul]; omega
                      rw [zeroCells_get _ _ _ (by rw [hzs]; omega), he, hzs, Nat.add_comm, Nat.add_mul_mod_self_right, Nat.mod_eq_of_lt hj1]
                      rw [← Array.getElem?_toList]
                      exact List.getElem?_eq_getElem hjz
                    · exact ((hrow.get j q _ hj (List.getElem?_eq_getElem hjz)).mono hfI (fun _ _ _ => rfl)).mono (fun _ _ h => h) hcell
                  · rename_i hi2
                    have hge2 : off * te.sz + news.length ≤ i * te.sz + j := by
                      rw [hnl, ← Nat.add_mul]
                      have := Nat.mul_le_mul_right te.sz (show off + m ≤ i by omega)
                      omega
                    exact old hi (.inr hge2)
        · exact h.elim
      · exact h.elim
    · exact h.elim
  · exact h.elim
end Go.Ev
end
section
/- Simulation: calls. -/
namespace Go.Ev

variable {cx : Cx} {n : Nat} {L L' : Id → Loc} {I I' : Nat → Nat → Prop} {F F' : FS} {a : Act} {w w' : World} {C : Rel}

theorem renL_get (ρ : Id → Id) : ∀ (cs : List AV) (i : Nat), (renL ρ cs)[i]? = (cs[i]?).map (AV.ren ρ)
  | [], i => by simp [renL]
  | c :: r, 0 => by simp [renL]
  | c :: r, i + 1 => by simpa [renL] using renL_get ρ r i
theorem renL_length (ρ : Id → Id) : ∀ (cs : List AV), (renL ρ cs).length = cs.length
  | [] => rfl
  | c :: r => by simp [renL, renL_length ρ r]
theorem AO.ren_sh (ρ : Id → Id) (o : AO) : (o.ren ρ).sh = o.sh := by cases o <;> rfl

theorem VR.ren {sh sh' : Id → Option Sh} {ρ : Id → Id} {v : AV} {x : Value} (h : VR L sh I w v x) :
    (∀ id ∈ v.ids, ∀ s, sh id = some s → sh' (ρ id) = some s ∧ L' (ρ id) = L id) → VR L' sh' I w (v.ren ρ) x := by
  induction h with
  | p h => exact fun _ => .p h
  | ni => exact fun _ => .ni
  | agg hl h1 _ ih =>
    refine fun he => .agg (by rw [renL_length]; exact hl) h1 fun i c x hi hx => ?_
    rw [renL_get, Option.map_eq_some_iff] at hi
    obtain ⟨c', hc', rfl⟩ := hi
    exact ih i c' x hc' hx fun id hid => he id (idsL_get hc' hid)
  | rp vs h0 hi hcell h => exact fun _ => .rp vs h0 hi hcell h
  | @ref id off h =>
    intro he
    obtain ⟨h1, h2⟩ := he id (by simp [AV.ids]) _ h
    rw [← h2]
    exact .ref h1
  | @er id i j N a sz N0 h hN ha =>
    intro he
    obtain ⟨h1, h2⟩ := he id (by simp [AV.ids]) _ h
    exact .er sz N0 h1 hN (by rw [h2]; exact ha)
  | @ms id off n N a c sz N0 h hN ha =>
    intro he
    obtain ⟨h1, h2⟩ := he id (by simp [AV.ids]) _ h
    exact .ms sz N0 h1 hN (by rw [h2]; exact ha)
  | @mp id h =>
    intro he
    rcases h with h | ⟨v, p, h⟩
    · obtain ⟨h1, h2⟩ := he id (by simp [AV.ids]) _ h
      rw [← h2]
      exact .mp (.inl h1)
    · obtain ⟨h1, h2⟩ := he id (by simp [AV.ids]) _ h
      rw [← h2]
      exact .mp (.inr ⟨_, _, h1⟩)
  | @gv id k ver x ho h =>
    intro he
    refine .gv ho ?_
    rcases h with h | ⟨v, p, h, hle, hx⟩
    · exact .inl (he id (by simp [AV.ids]) _ h).1
    · obtain ⟨h1, h2⟩ := he id (by simp [AV.ids]) _ h
      exact .inr ⟨_, _, h1, hle, fun e => by rw [h2]; exact hx e⟩
  | @gn id ver x ho h =>
    intro he
    refine .gn ho ?_
    rcases h with h | ⟨v, p, h, hle, hx⟩
    · exact .inl (he id (by simp [AV.ids]) _ h).1
    · obtain ⟨h1, h2⟩ := he id (by simp [AV.ids]) _ h
      exact .inr ⟨_, _, h1, hle, fun e => by rw [h2]; exact hx e⟩
  | @itr id h =>
    intro he
    obtain ⟨h1, h2⟩ := he id (by simp [AV.ids]) _ h
    rw [← h2]
    exact .itr h1
  | fn hl _ ih =>
    refine fun he => .fn (by rw [renL_length]; exact hl) fun i c x hi hx => ?_
    rw [renL_get, Option.map_eq_some_iff] at hi
    obtain ⟨c', hc', rfl⟩ := hi
    exact ih i c' x hc' hx fun id hid => he id (idsL_get hc' hid)
  | tup hl _ ih =>
    refine fun he => .tup (by rw [renL_length]; exact hl) fun i c x hi hx => ?_
    rw [renL_get, Option.map_eq_some_iff] at hi
    obtain ⟨c', hc', rfl⟩ := hi
    exact ih i c' x hc' hx fun id hid => he id (idsL_get hc' hid)
  | junk => exact fun _ => .junk

theorem OR.ren {sh sh' : Id → Option Sh} {ρ : Id → Id} {l : Loc} {o : AO} (h : OR L sh I w l o) (he : ∀ id ∈ o.ids, ∀ s, sh id = some s → sh' (ρ id) = some s ∧ L' (ρ id) = L id) :
    OR L' sh' I w l (o.ren ρ) := by
  cases o with
  | cells cs =>
    obtain ⟨xs, e, h1, h2, h3, h4⟩ := h
    refine ⟨xs, e, h1, by rw [renL_length]; exact h2, fun i c x hi hx => ?_, h4⟩
    rw [renL_get, Option.map_eq_some_iff] at hi
    obtain ⟨c', hc', rfl⟩ := hi
    obtain ⟨g1, g2⟩ := h3 i c' x hc' hx
    exact ⟨g1, g2.ren fun id hid => he id (idsL_get hc' hid)⟩
  | arr sz es fz => exact h
  | map g es => exact h
  | gm es pe ver => exact h
  | it s pos => exact h

theorem app_in : ∀ {ov : Ov} {F : FS} {id : Id} {o : AO}, OvOk F ov → lkS ov id = some o → (F.app { s := ov }).gs id = some o
  | [], F, id, o, _, h => by cases h
  | (k, y) :: r, F, id, o, hok, h => by
    have he : F.app { s := (k, y) :: r } = (F.setS k y).app { s := r } := rfl
    obtain ⟨sz, es, fz, hg, hy⟩ := hok (k, y) (by simp)
    simp only at hg hy
    have hok1 : OvOk (F.setS k y) r := by
      intro x hx
      obtain ⟨sz', es', fz', h1, h2⟩ := hok x (by simp [hx])
      by_cases hk : k = x.1
      · rw [← hk, hg] at h1
        cases h1
        exact ⟨_, _, es.length, by simp [FS.setS, hk, idEq_refl, hy], h2⟩
      · exact ⟨_, _, _, by simpa [FS.setS, idEq_false.2 hk] using h1, h2⟩
    rw [he]
    simp only [lkS] at h
    cases hk : idEq k id with
    | true =>
      rw [hk] at h
      simp only [cond_true, Option.some.injEq] at h
      rw [idEq_iff] at hk
      subst hk
      subst h
      cases ht : lkS r k with
      | none => rw [app_not ht]; simp [FS.setS, idEq_refl]
      | some z =>
        rw [app_in hok1 ht]
        obtain ⟨sz', es', fz', h1, h2⟩ := hok (k, z) (List.mem_cons_of_mem _ (lkS_mem ht))
        simp only at h1 h2
        rw [hg] at h1
        cases h1
        rw [h2, hy]
    | false =>
      rw [hk] at h
      exact app_in hok1 h

theorem rdO_app {α : Type} {ov : Ov} (hok : OvOk F ov) {id : Id} {k : Option AO → RP α} {r : α} {rs : List Res} (h : (rdO ov id k).ev C F r rs) : ∃ rs', (k ((F.app { s := ov }).gs id)).ev C F r rs' := by
  unfold rdO at h
  split at h
  · rename_i o ho
    rw [app_in hok ho]
    exact ⟨_, h⟩
  · rename_i ho
    obtain ⟨rs', _, h⟩ := h
    rw [app_not ho]
    exact ⟨_, h⟩

theorem memId_iff {i : Id} {l : List Id} : memId i l = true ↔ i ∈ l := by
  induction l with
  | nil => simp [memId]
  | cons j r ih =>
    simp only [memId, Bool.or_eq_true, idEq_iff, ih, List.mem_cons]
    constructor
    · rintro (h | h)
      · exact .inl h.symm
      · exact .inr h
    · rintro (h | h)
      · exact .inl h.symm
      · exact .inr h

theorem reach_ev {α : Type} {ov : Ov} (hok : OvOk F ov) {k : List (Id × AO) → RP α} {r : α} (T : List Id) : ∀ (fuel : Nat) (todo : List Id) (acc : List (Id × AO)) {rs : List Res}, (reach fuel todo acc ov k).ev C F r rs →
    (acc.map (·.1)).Nodup → (∀ x ∈ acc, (F.app { s := ov }).gs x.1 = some x.2) → (∀ x ∈ acc, ∀ j ∈ x.2.ids, j ∈ acc.map (·.1) ∨ j ∈ todo) → (∀ j ∈ T, j ∈ acc.map (·.1) ∨ j ∈ todo) →
    ∃ objs rs', (objs.map (·.1)).Nodup ∧ (∀ x ∈ objs, (F.app { s := ov }).gs x.1 = some x.2) ∧ (∀ x ∈ objs, ∀ j ∈ x.2.ids, j ∈ objs.map (·.1)) ∧ (∀ j ∈ T, j ∈ objs.map (·.1)) ∧
      (∀ x ∈ acc, x ∈ objs) ∧ (k objs).ev C F r rs'
  | 0, todo, acc, rs, h, _, _, _, _ => h.elim
  | fuel + 1, todo, acc, rs, h, h1, h2, h3, h4 => by
    unfold reach at h
    split at h
    · exact ⟨acc, _, h1, h2, fun x hx j hj => (h3 x hx j hj).resolve_right (by simp), fun j hj => (h4 j hj).resolve_right (by simp), fun _ h => h, h⟩
    · rename_i i rest
      split at h
      · rename_i hm
        rw [memId_iff] at hm
        refine reach_ev hok T fuel rest acc h h1 h2 (fun x hx j hj => ?_) fun j hj => ?_
        · rcases h3 x hx j hj with h | h
          · exact .inl h
          · rcases List.mem_cons.1 h with rfl | h
            · exact .inl hm
            · exact .inr h
        · rcases h4 j hj with h | h
          · exact .inl h
          · rcases List.mem_cons.1 h with rfl | h
            · exact .inl hm
            · exact .inr h
      · rename_i hm
        have hm : i ∉ acc.map (·.1) := fun hh => hm (memId_iff.2 hh)
        obtain ⟨rs', h⟩ := rdO_app hok h
        split at h
        · rename_i o ho
          obtain ⟨objs, rs2, g1, g2, g3, g4, g5, g6⟩ := reach_ev hok T fuel (rest ++ o.ids) (acc ++ [(i, o)]) h
            (by simp only [List.map_append, List.map_cons, List.map_nil]; exact List.nodup_append.2 ⟨h1, by simp, fun a ha b hb => by simp at hb; subst hb; exact fun he => hm (he ▸ ha)⟩)
            (fun x hx => by rcases List.mem_append.1 hx with hx | hx; exact h2 x hx; simp at hx; subst hx; exact ho)
            (fun x hx j hj => by
              simp only [List.map_append, List.map_cons, List.map_nil, List.mem_append, List.mem_singleton]
              rcases List.mem_append.1 hx with hx | hx
              · rcases h3 x hx j hj with h | h
                · exact .inl (.inl h)
                · rcases List.mem_cons.1 h with rfl | h
                  · exact .inl (.inr rfl)
                  · exact .inr (.inl h)
              · simp at hx; subst hx; exact .inr (.inr hj))
            (fun j hj => by
              simp only [List.map_append, List.map_cons, List.map_nil, List.mem_append, List.mem_singleton]
              rcases h4 j hj with h | h
              · exact .inl (.inl h)
              · rcases List.mem_cons.1 h with rfl | h
                · exact .inl (.inr rfl)
                · exact .inr (.inl h))
          exact ⟨objs, rs2, g1, g2, g3, g4, fun x hx => g5 x (List.mem_append.2 (.inl hx)), g6⟩
        · exact h.elim

theorem snapCells_ev {α : Type} (hs : SR cx n L I F a w) : ∀ {vs : List AV} {xs : List Value} {ov : Ov} {k : List AV → Ov → RP α} {r : α} {rs : List Res},
    All2 (VR L F.sh I w) vs xs → (snapCells vs ov k).ev C F r rs → OvOk F ov →
    ∃ ds ov' rs', OvOk F ov' ∧ (∀ b o, frz L I ov b o → frz L I ov' b o) ∧ All2 (VR L F.sh (frz L I ov') w) ds xs ∧ (k ds ov').ev C F r rs'
  | [], xs, ov, k, r, rs, hv, h, hok => by
    cases hv
    exact ⟨[], ov, rs, hok, fun _ _ h => h, .nil, h⟩
  | v :: vs, xs, ov, k, r, rs, hv, h, hok => by
    cases hv with
    | @cons _ y _ ys h1 h2 =>
      have other : (∃ rs, (snapCells vs ov fun ds ov => k (v :: ds) ov).ev C F r rs) → ∃ ds ov' rs', OvOk F ov' ∧ (∀ b o, frz L I ov b o → frz L I ov' b o) ∧ All2 (VR L F.sh (frz L I ov') w) ds (y :: ys) ∧ (k ds ov').ev C F r rs' := by
        rintro ⟨rs, h⟩
        obtain ⟨ds, ov2, rs2, hok2, hm2, hp2, h⟩ := snapCells_ev hs h2 h hok
        exact ⟨v :: ds, ov2, rs2, hok2, hm2, .cons (h1.mono (frz_sub L I ov2) (fun _ _ _ => rfl) fun id _ s h => ⟨s, h, .refl _ _⟩) hp2, h⟩
      cases v with
      | ms id off m N =>
        unfold snapCells at h
        obtain ⟨d, ov1, rs1, hok1, hm1, hp1, h⟩ := toPV_ev hs h1 h hok
        obtain ⟨ds, ov2, rs2, hok2, hm2, hp2, h⟩ := snapCells_ev hs h2 h hok1
        exact ⟨.p d :: ds, ov2, rs2, hok2, fun b o h => hm2 b o (hm1 b o h), .cons (.p (hp1.mono hm2 (fun _ _ _ => rfl))) hp2, h⟩
      | p d =>
        unfold snapCells at h
        obtain ⟨ds, ov2, rs2, hok2, hm2, hp2, h⟩ := snapCells_ev hs h2 h hok
        cases h1 with
        | p h1 => exact ⟨.p (nrm d) :: ds, ov2, rs2, hok2, hm2, .cons (.p (h1.mono (frz_sub L I ov2) (fun _ _ _ => rfl)).nrm) hp2, h⟩
      | ni => exact other ⟨_, h⟩
      | agg cs => exact other ⟨_, h⟩
      | rp cs => exact other ⟨_, h⟩
      | ref id off => exact other ⟨_, h⟩
      | er id i j N => exact other ⟨_, h⟩
      | mp id => exact other ⟨_, h⟩
      | gv id k v => exact other ⟨_, h⟩
      | gn id v => exact other ⟨_, h⟩
      | itr id => exact other ⟨_, h⟩
      | fn f cs => exact other ⟨_, h⟩
      | tup cs => exact other ⟨_, h⟩
      | junk => exact other ⟨_, h⟩

theorem snap_ev {α : Type} (hs : SR cx n L I F a w) {v : AV} {x : Value} {ov : Ov} {k : AV → Ov → RP α} {r : α} {rs : List Res} (hv : VR L F.sh I w v x) (h : (snap v ov k).ev C F r rs) (hok : OvOk F ov) :
    ∃ d ov' rs', OvOk F ov' ∧ (∀ b o, frz L I ov b o → frz L I ov' b o) ∧ VR L F.sh (frz L I ov') w d x ∧ (k d ov').ev C F r rs' := by
  unfold snap at h
  split at h
  · rename_i cs
    cases hv with
    | @agg _ xs hl h1 hall =>
      obtain ⟨ds, ov2, rs2, hok2, hm2, hp2, h⟩ := snapCells_ev hs (xs := xs.toList) (All2.of_get (by simpa using hl.symm) fun i c x hi hx => hall i c x hi (by simpa using hx)) h hok
      exact ⟨.agg ds, ov2, rs2, hok2, hm2, .agg (by simpa using hp2.length.symm) h1 fun i c x hi hx => hp2.get i c x hi (by simpa using hx), h⟩
  · obtain ⟨ds, ov2, rs2, hok2, hm2, hp2, h⟩ := snapCells_ev hs (xs := [x]) (.cons hv .nil) h hok
    split at h
    · cases hp2 with
      | cons h1 h2 => exact ⟨_, ov2, rs2, hok2, hm2, h1, h⟩
    · exact h.elim

theorem snaps_ev {α : Type} (hs : SR cx n L I F a w) : ∀ {vs : List AV} {xs : List Value} {ov : Ov} {k : List AV → Ov → RP α} {r : α} {rs : List Res},
    All2 (VR L F.sh I w) vs xs → (snaps vs ov k).ev C F r rs → OvOk F ov →
    ∃ ds ov' rs', OvOk F ov' ∧ (∀ b o, frz L I ov b o → frz L I ov' b o) ∧ All2 (VR L F.sh (frz L I ov') w) ds xs ∧ (k ds ov').ev C F r rs'
  | [], xs, ov, k, r, rs, hv, h, hok => by
    cases hv
    exact ⟨[], ov, rs, hok, fun _ _ h => h, .nil, h⟩
  | v :: vs, xs, ov, k, r, rs, hv, h, hok => by
    cases hv with
    | cons h1 h2 =>
      unfold snaps at h
      obtain ⟨d, ov1, rs1, hok1, hm1, hp1, h⟩ := snap_ev hs h1 h hok
      obtain ⟨ds, ov2, rs2, hok2, hm2, hp2, h⟩ := snaps_ev hs h2 h hok1
      exact ⟨d :: ds, ov2, rs2, hok2, fun b o h => hm2 b o (hm1 b o h), .cons (hp1.mono hm2 (fun _ _ _ => rfl) fun id _ s h => ⟨s, h, .refl _ _⟩) hp2, h⟩

/- ---------------------------------------------------------------- what a call is good for -/
def HS (H : List AO) : FS := ⟨fun _ => .junk, fun id => bif id.1 == 0 then H[id.2]? else none⟩

theorem HS_gs (H : List AO) (i : Nat) : (HS H).gs (0, i) = H[i]? := rfl
theorem HS_some {H : List AO} {id : Id} {o : AO} (h : (HS H).gs id = some o) : id.1 = 0 ∧ H[id.2]? = some o := by
  obtain ⟨i, j⟩ := id
  simp only [HS] at h
  cases hi : i == 0 with
  | true => rw [hi] at h; exact ⟨by simpa using hi, h⟩
  | false => rw [hi] at h; cases h

/-- The objects that a call gets. -/
def HP (cx : Cx) (L : Id → Loc) (I : Nat → Nat → Prop) (H : List AO) (w : World) : Prop := SR cx 0 L I (HS H) ⟨#[], []⟩ w

/-- The call relation tells the truth. -/
def CallSound (cx : Cx) (C : Rel) : Prop := ∀ f args H r H', C f args H r H' → (∀ (vs : Array Value) (w : World), (callFunc f vs).run cx.P w = .ok (.enter f vs) w) ∧
  ∀ (L : Id → Loc) (I : Nat → Nat → Prop) (w : World) (vals : Array Value), HP cx L I H w → All2 (VR L (HS H).sh I w) args vals.toList →
    Calls cx.P f vals w fun e w' => ∃ v L' I', e = .returned v ∧ HP cx L' I' H' w' ∧ VR L' (HS H').sh I' w' r v ∧ Stp L I (HS H) w L' I' (HS H') w'

end Go.Ev
end
section
/- Simulation: into a call and back. -/
namespace Go.Ev

variable {cx : Cx} {n : Nat} {L L' : Id → Loc} {I I' : Nat → Nat → Prop} {F F' : FS} {a : Act} {w w' : World} {C : Rel}

theorem idxOf_spec : ∀ {l : List Id} {i : Id} (m : Nat), i ∈ l → ∃ k, idxOf i l m = some (m + k) ∧ l[k]? = some i
  | [], i, m, h => by cases h
  | j :: r, i, m, h => by
    simp only [idxOf]
    cases hk : idEq j i with
    | true => rw [idEq_iff] at hk; subst hk; exact ⟨0, rfl, rfl⟩
    | false =>
      have hr : i ∈ r := by
        rcases List.mem_cons.1 h with rfl | h
        · rw [idEq_refl] at hk; cases hk
        · exact h
      obtain ⟨k, h1, h2⟩ := idxOf_spec (m + 1) hr
      refine ⟨k + 1, ?_, by simpa using h2⟩
      simp only [cond_false, h1]
      congr 1
      omega

theorem idxOf_none {l : List Id} {i : Id} (h : i ∉ l) : ∀ m, idxOf i l m = none := by
  induction l with
  | nil => intro m; rfl
  | cons j r ih =>
    intro m
    have hne : j ≠ i := fun he => h (by simp [he])
    simp only [idxOf, idEq_false.2 hne, cond_false]
    exact ih (fun hh => h (by simp [hh])) _

theorem nodup_get {l : List Id} (h : l.Nodup) {i j : Nat} {x : Id} (hi : l[i]? = some x) (hj : l[j]? = some x) : i = j := by
  have h1 := (List.getElem?_eq_some_iff.1 hi)
  have h2 := (List.getElem?_eq_some_iff.1 hj)
  exact (List.getElem_inj (h₀ := h1.1) (h₁ := h2.1) h).1 (h1.2.trans h2.2.symm)

def inL (L : Id → Loc) (ids : List Id) : Id → Loc := fun id => L ((ids[id.2]?).getD id)

theorem into (hs : SR cx n L I F a w) {objs : List (Id × AO)} (hnd : (objs.map (·.1)).Nodup) (hgs : ∀ x ∈ objs, F.gs x.1 = some x.2) (hcl : ∀ x ∈ objs, ∀ j ∈ x.2.ids, j ∈ objs.map (·.1)) :
    HP cx (inL L (objs.map (·.1))) I (objs.map fun x => x.2.ren (inRen (objs.map (·.1)))) w ∧
    ∀ id ∈ objs.map (·.1), ∀ s, F.sh id = some s → (HS (objs.map fun x => x.2.ren (inRen (objs.map (·.1))))).sh (inRen (objs.map (·.1)) id) = some s ∧ inL L (objs.map (·.1)) (inRen (objs.map (·.1)) id) = L id := by
  have key : ∀ id ∈ objs.map (·.1), ∀ s, F.sh id = some s → (HS (objs.map fun x => x.2.ren (inRen (objs.map (·.1))))).sh (inRen (objs.map (·.1)) id) = some s ∧ inL L (objs.map (·.1)) (inRen (objs.map (·.1)) id) = L id := by
    intro id hid s hsh
    obtain ⟨k, h1, h2⟩ := idxOf_spec 0 hid
    simp only [Nat.zero_add] at h1
    have hr : inRen (objs.map (·.1)) id = (0, k) := by simp [inRen, h1]
    rw [hr]
    refine ⟨?_, by simp [inL, h2]⟩
    simp only [List.getElem?_map, Option.map_eq_some_iff] at h2
    obtain ⟨x, hx, rfl⟩ := h2
    have hg := hgs x (List.mem_of_getElem? hx)
    simp only [FS.sh, hg, Option.map_some, Option.some.injEq] at hsh
    subst hsh
    simp [FS.sh, HS_gs, hx, AO.ren_sh]
  refine ⟨⟨fun t => .junk, fun id o ho => ?_, fun i j hi hj b hbi hbj => ?_, fun i hi b hb => ?_, hs.dom, fun g cs hg => ?_, rfl, rfl, hs.gi⟩, key⟩
  · obtain ⟨h0, h1⟩ := HS_some ho
    simp only [List.getElem?_map, Option.map_eq_some_iff] at h1
    obtain ⟨x, hx, rfl⟩ := h1
    have hmem := List.mem_of_getElem? hx
    have hl : inL L (objs.map (·.1)) id = L x.1 := by simp [inL, hx]
    rw [hl]
    exact (hs.obj x.1 x.2 (hgs x hmem)).ren fun j hj s hsj => key j (hcl x hmem j hj) s hsj
  · obtain ⟨o1, ho1⟩ := Option.isSome_iff_exists.1 hi
    obtain ⟨o2, ho2⟩ := Option.isSome_iff_exists.1 hj
    obtain ⟨h1, h2⟩ := HS_some ho1
    obtain ⟨h3, h4⟩ := HS_some ho2
    simp only [List.getElem?_map, Option.map_eq_some_iff] at h2 h4
    obtain ⟨x, hx, _⟩ := h2
    obtain ⟨y, hy, _⟩ := h4
    have e1 : inL L (objs.map (·.1)) i = L x.1 := by simp [inL, hx]
    have e2 : inL L (objs.map (·.1)) j = L y.1 := by simp [inL, hy]
    rw [e1] at hbi
    rw [e2] at hbj
    have := hs.inj x.1 y.1 (by simp [hgs x (List.mem_of_getElem? hx)]) (by simp [hgs y (List.mem_of_getElem? hy)]) b hbi hbj
    have hxx : (objs.map (·.1))[i.2]? = some x.1 := by simp [hx]
    have hyy : (objs.map (·.1))[j.2]? = some x.1 := by simp [hy, this]
    have := nodup_get hnd hxx hyy
    exact Prod.ext (h1.trans h3.symm) this
  · obtain ⟨o1, ho1⟩ := Option.isSome_iff_exists.1 hi
    obtain ⟨h1, h2⟩ := HS_some ho1
    simp only [List.getElem?_map, Option.map_eq_some_iff] at h2
    obtain ⟨x, hx, _⟩ := h2
    have e1 : inL L (objs.map (·.1)) i = L x.1 := by simp [inL, hx]
    rw [e1] at hb
    exact hs.ownlt x.1 (by simp [hgs x (List.mem_of_getElem? hx)]) b hb
  · exact (hs.glob g cs hg).ren (ρ := fun x => x) fun id hid => by simp [AV.ids] at hid

theorem zip_gs : ∀ {all : List Id} {os : List AO} {F : FS}, all.Nodup → all.length = os.length →
    (∀ (j : Nat) (id : Id) (o : AO), all[j]? = some id → os[j]? = some o → (F.app { s := List.zip all os }).gs id = some o) ∧ ∀ id, id ∉ all → (F.app { s := List.zip all os }).gs id = F.gs id
  | [], os, F, _, hl => by
    cases os with
    | nil => exact ⟨fun j id o h => by simp at h, fun id _ => rfl⟩
    | cons _ _ => simp at hl
  | i :: all, [], F, _, hl => by simp at hl
  | i :: all, o :: os, F, hnd, hl => by
    obtain ⟨hni, hnd'⟩ := List.nodup_cons.1 hnd
    have he : F.app { s := List.zip (i :: all) (o :: os) } = (F.setS i o).app { s := List.zip all os } := rfl
    obtain ⟨h1, h2⟩ := zip_gs (F := F.setS i o) hnd' (by simpa using hl)
    rw [he]
    refine ⟨fun j id o' hj ho => ?_, fun id hid => ?_⟩
    · cases j with
      | zero =>
        simp only [List.getElem?_cons_zero, Option.some.injEq] at hj ho
        subst hj
        subst ho
        rw [h2 i hni]
        simp [FS.setS, idEq_refl]
      | succ j => exact h1 j id o' (by simpa using hj) (by simpa using ho)
    · have : i ≠ id ∧ id ∉ all := ⟨fun h => hid (by simp [h]), fun h => hid (by simp [h])⟩
      rw [h2 id this.2]
      simp [FS.setS, idEq_false.2 this.1]

def outL (L L' : Id → Loc) (all : List Id) : Id → Loc := fun id => match idxOf id all 0 with
  | some j => L' (0, j)
  | none => L id

/-- Back from a call. -/
theorem back (hs : SR cx n L I F a w) {ids nids : List Id} {H H' : List AO} {out : Id → Id} (hnd : (ids ++ nids).Nodup) (hlen : (ids ++ nids).length = H'.length) (hHl : H.length = ids.length)
    (hin : ∀ (j : Nat) (id : Id), ids[j]? = some id → ∃ (o o' : AO), F.gs id = some o ∧ H[j]? = some o' ∧ o'.sh = o.sh) (hnew : ∀ id ∈ nids, F.gs id = none) (hout : ∀ (j : Nat) (id : Id), (ids ++ nids)[j]? = some id → out (0, j) = id)
    (hp : HP cx L' I' H' w') (st : Stp (inL L ids) I (HS H) w L' I' (HS H') w') {r : AV} {v : Value} (hv : VR L' (HS H').sh I' w' r v) :
    let F2 := F.app { s := List.zip (ids ++ nids) (H'.map fun x => x.ren out) }
    SR cx n (outL L L' (ids ++ nids)) I' F2 a w' ∧ Stp L I F w (outL L L' (ids ++ nids)) I' F2 w' ∧ VR (outL L L' (ids ++ nids)) F2.sh I' w' (r.ren out) v := by
  intro F2
  have hz := zip_gs (F := F) (os := H'.map fun x => x.ren out) hnd (by simpa using hlen)
  have hgin : ∀ (j : Nat) (id : Id) (o : AO), (ids ++ nids)[j]? = some id → H'[j]? = some o → F2.gs id = some (o.ren out) := fun j id o h1 h2 => hz.1 j id _ h1 (by simp [h2])
  have hgout : ∀ id, id ∉ ids ++ nids → F2.gs id = F.gs id := hz.2
  have hLin : ∀ (j : Nat) (id : Id), (ids ++ nids)[j]? = some id → outL L L' (ids ++ nids) id = L' (0, j) := by
    intro j id hj
    obtain ⟨k, h1, h2⟩ := idxOf_spec 0 (List.mem_of_getElem? hj)
    have := nodup_get hnd hj h2
    subst this
    simp only [Nat.zero_add] at h1
    simp [outL, h1]
  have hLout : ∀ id, id ∉ ids ++ nids → outL L L' (ids ++ nids) id = L id := fun id h => by simp [outL, idxOf_none h]
  -- shapes seen from the callee
  have hren : ∀ id s, (HS H').sh id = some s → F2.sh (out id) = some s ∧ outL L L' (ids ++ nids) (out id) = L' id := by
    intro id s h
    simp only [FS.sh, Option.map_eq_some_iff] at h
    obtain ⟨o, ho, rfl⟩ := h
    obtain ⟨h0, h1⟩ := HS_some ho
    obtain ⟨i, j⟩ := id
    simp only at h0 h1
    subst h0
    have hlt : j < (ids ++ nids).length := by rw [hlen]; exact (List.getElem?_eq_some_iff.1 h1).1
    have hj := List.getElem?_eq_getElem hlt
    rw [hout j _ hj]
    refine ⟨?_, hLin j _ hj⟩
    simp [FS.sh, hgin j _ o hj h1, AO.ren_sh]
  -- shapes seen from the caller
  have hext : ∀ id s, F.sh id = some s → ∃ s', F2.sh id = some s' ∧ Compat (L id) (outL L L' (ids ++ nids) id) s s' := by
    intro id s h
    simp only [FS.sh, Option.map_eq_some_iff] at h
    obtain ⟨o, ho, rfl⟩ := h
    by_cases hm : id ∈ ids
    · obtain ⟨j, hj⟩ := List.getElem?_of_mem hm
      obtain ⟨o1, o2, g1, g2, g3⟩ := hin j id hj
      rw [ho] at g1
      cases g1
      have hsh : (HS H).sh (0, j) = some o.sh := by simp [FS.sh, HS_gs, g2, g3]
      obtain ⟨s', k1, k2⟩ := st.arg j _ hsh
      have hj' : (ids ++ nids)[j]? = some id := by rw [List.getElem?_append, if_pos (List.getElem?_eq_some_iff.1 hj).1]; exact hj
      refine ⟨s', ?_, ?_⟩
      · simp only [FS.sh, Option.map_eq_some_iff] at k1
        obtain ⟨o3, k3, rfl⟩ := k1
        simp [FS.sh, hgin j id o3 hj' k3, AO.ren_sh]
      · rw [hLin j id hj']
        have : inL L ids (0, j) = L id := by simp [inL, hj]
        rw [← this]
        exact k2
    · have hn : id ∉ ids ++ nids := by
        simp only [List.mem_append, not_or]
        exact ⟨hm, fun hh => by rw [hnew id hh] at ho; cases ho⟩
      exact ⟨o.sh, by simp [FS.sh, hgout id hn, ho], by rw [hLout id hn]; exact .refl _ _⟩
  -- tracked blocks of the callee are the caller's
  have htrkc : ∀ id, ((HS H).gs id).isSome = true → ∃ j i, id = (0, j) ∧ ids[j]? = some i ∧ inL L ids id = L i ∧ (F.gs i).isSome = true := by
    intro id h
    obtain ⟨o, ho⟩ := Option.isSome_iff_exists.1 h
    obtain ⟨h0, h1⟩ := HS_some ho
    obtain ⟨i, j⟩ := id
    simp only at h0 h1
    subst h0
    have hlt : j < ids.length := by rw [← hHl]; exact (List.getElem?_eq_some_iff.1 h1).1
    have hj := List.getElem?_eq_getElem hlt
    obtain ⟨o1, _, g1, _, _⟩ := hin j _ hj
    exact ⟨j, ids[j], rfl, hj, by simp [inL, hj], by simp [g1]⟩
  have hother : ∀ id, id ∉ ids ++ nids → (F.gs id).isSome = true → (∀ c, ((HS H).gs c).isSome = true → ∀ b, (inL L ids c).has b → ¬ (L id).has b) := by
    intro id hn hsome c hc b he he2
    obtain ⟨j, i, _, hj, hb, hi⟩ := htrkc c hc
    rw [hb] at he
    have := hs.inj i id hi hsome b he he2
    subst this
    exact hn (List.mem_append.2 (.inl (List.mem_of_getElem? hj)))
  have hmem2 : ∀ id, (F2.gs id).isSome = true → (∃ (j : Nat) (o : AO), (ids ++ nids)[j]? = some id ∧ H'[j]? = some o) ∨ (id ∉ ids ++ nids ∧ (F.gs id).isSome = true) := by
    intro id h
    by_cases hm : id ∈ ids ++ nids
    · obtain ⟨j, hj⟩ := List.getElem?_of_mem hm
      have hlt : j < H'.length := by rw [← hlen]; exact (List.getElem?_eq_some_iff.1 hj).1
      exact .inl ⟨j, _, hj, List.getElem?_eq_getElem hlt⟩
    · rw [hgout id hm] at h
      exact .inr ⟨hm, h⟩
  -- where the callee's objects lie
  have hwhere : ∀ (j : Nat) (id : Id) (o : AO), (ids ++ nids)[j]? = some id → H'[j]? = some o → ∀ b, (L' (0, j)).has b → w.heap.size ≤ b ∨ ∃ i, i ∈ ids ∧ (F.gs i).isSome = true ∧ (L i).has b := by
    intro j id o hj ho b hb0
    rcases st.trk (0, j) (by simp [HS_gs, ho]) b hb0 with h | ⟨c, hc, he⟩
    · exact .inl h
    · obtain ⟨j', i, _, hj', hb, hi⟩ := htrkc c hc
      exact .inr ⟨i, List.mem_of_getElem? hj', hi, hb ▸ he⟩
  refine ⟨⟨fun t => ?_, fun id o ho => ?_, fun i j hi hj b hbi hbj => ?_, fun i hi b hb => ?_, hp.dom, fun g cs hg => ?_, hs.defers, hs.tsz, hp.gi⟩, ⟨st.os, st.tape, st.output, st.size, fun b hb hn => ?_, st.sub, st.cell, fun b o hi => ?_, fun id hid b hb => ?_, fun i s h => hext _ s h⟩, ?_⟩
  · have hge : F2.ge t = F.ge t := by rw [show F2.ge = F.ge from FS.app_s_ge F _]
    rw [hge]
    exact (hs.env t).mono st.sub st.cell fun id _ s h => hext id s h
  · rcases hmem2 id (by simp [ho]) with ⟨j, o', hj, ho'⟩ | ⟨hn, hsome⟩
    · rw [hgin j id o' hj ho'] at ho
      cases ho
      rw [hLin j id hj]
      exact (hp.obj (0, j) o' (by simpa [HS_gs] using ho')).ren fun k _ s hk => hren k s hk
    · rw [hgout id hn] at ho
      rw [hLout id hn]
      have hold := hs.obj id o ho
      have hlt := hold.lt
      have hblkA : ∀ b, (L id).has b → w'.heap[b]? = w.heap[b]? := fun b hb => st.frame _ (hs.ownlt id hsome b hb) fun c hc h => hother id hn hsome c hc b h hb
      have hblk : w'.heap[(L id).b]? = w.heap[(L id).b]? := hblkA _ (L id).has_b
      have hnoIA : ∀ b, (L id).has b → ∀ k, I' b k → I b k := by
        intro b hb k hk
        rcases st.new _ _ hk with h | h | ⟨c, hc, he⟩
        · exact h
        · have := hs.ownlt id hsome b hb; omega
        · exact absurd hb (hother id hn hsome c hc b he)
      have hnoI := hnoIA _ (L id).has_b
      cases o with
      | cells cs =>
        obtain ⟨xs, e, h1, h2, h3, h4⟩ := hold
        exact ⟨xs, e, hblk.trans h1, h2, fun i c x hi hx => ⟨(h3 i c x hi hx).1, (h3 i c x hi hx).2.mono st.sub st.cell fun j _ s h => hext j s h⟩, fun k hk => h4 k (hnoI k hk)⟩
      | arr sz es fz =>
        obtain ⟨h0, h1, h2, xs, e, h3, h4, h5, h6, h7⟩ := hold
        refine ⟨h0, h1, h2, xs, e, hblk.trans h3, h4, h5, fun i j row d hi hj => ?_, fun k hk => h7 k (hnoI k hk)⟩
        obtain ⟨x, hx, hpr⟩ := h6 i j row d hi hj
        exact ⟨x, hx, hpr.mono st.sub st.cell⟩
      | map g es =>
        obtain ⟨ms, k, h1, h2, h3⟩ := hold
        exact ⟨ms, k, hblk.trans h1, h2, fun i e m hi hm => (h3 i e m hi hm).mono st.sub st.cell⟩
      | gm es pe ver =>
        obtain ⟨ms, k, bs, h1, h2⟩ := hold
        exact ⟨ms, k, bs, hblk.trans h1, h2.mono st.sub st.cell st.size fun b hb => ⟨hblkA b (.inr hb), fun o ho => (h2.free b hb).2.2 o (hnoIA b (.inr hb) o ho)⟩⟩
      | it s pos => exact hblk.trans hold
  · rcases hmem2 i hi with ⟨j1, o1, hj1, ho1⟩ | ⟨hn1, hs1⟩ <;> rcases hmem2 j hj with ⟨j2, o2, hj2, ho2⟩ | ⟨hn2, hs2⟩
    · rw [hLin j1 i hj1] at hbi
      rw [hLin j2 j hj2] at hbj
      have := hp.inj (0, j1) (0, j2) (by simp [HS_gs, ho1]) (by simp [HS_gs, ho2]) b hbi hbj
      cases this
      rw [hj1] at hj2
      exact Option.some.inj hj2
    · rw [hLin j1 i hj1] at hbi
      rw [hLout j hn2] at hbj
      rcases hwhere j1 i o1 hj1 ho1 b hbi with h | ⟨k, hk, hks, hkb⟩
      · have := hs.ownlt j hs2 b hbj; omega
      · have := hs.inj k j hks hs2 b hkb hbj
        subst this
        exact absurd (List.mem_append.2 (.inl hk)) hn2
    · rw [hLout i hn1] at hbi
      rw [hLin j2 j hj2] at hbj
      rcases hwhere j2 j o2 hj2 ho2 b hbj with h | ⟨k, hk, hks, hkb⟩
      · have := hs.ownlt i hs1 b hbi; omega
      · have := hs.inj k i hks hs1 b hkb hbi
        subst this
        exact absurd (List.mem_append.2 (.inl hk)) hn1
    · rw [hLout i hn1] at hbi
      rw [hLout j hn2] at hbj
      exact hs.inj i j hs1 hs2 b hbi hbj
  · rcases hmem2 i hi with ⟨j1, o1, hj1, ho1⟩ | ⟨hn1, hs1⟩
    · rw [hLin j1 i hj1] at hb
      exact hp.ownlt (0, j1) (by simp [HS_gs, ho1]) b hb
    · rw [hLout i hn1] at hb
      exact Nat.lt_of_lt_of_le (hs.ownlt i hs1 b hb) st.size
  · exact (hs.glob g cs hg).mono st.sub st.cell fun id hid => by simp [AV.ids] at hid
  · refine st.frame b hb fun c hc he => ?_
    obtain ⟨j, i, _, _, hbb, hi⟩ := htrkc c hc
    exact hn i hi (hbb ▸ he)
  · rcases st.new b o hi with h | h | ⟨c, hc, he⟩
    · exact .inl h
    · exact .inr (.inl h)
    · obtain ⟨j, i, _, _, hbb, hii⟩ := htrkc c hc
      exact .inr (.inr ⟨i, hii, hbb ▸ he⟩)
  · rcases hmem2 id hid with ⟨j, o, hj, ho⟩ | ⟨hn, hsome⟩
    · rw [hLin j id hj] at hb
      rcases hwhere j id o hj ho b hb with h | ⟨i, _, hi, he⟩
      · exact .inl h
      · exact .inr ⟨i, hi, he⟩
    · rw [hLout id hn] at hb
      exact .inr ⟨id, hsome, hb⟩
  · exact hv.ren fun id _ s h => hren id s h

end Go.Ev
end
section
/- Simulation: a call; every operation; guards. -/
namespace Go.Ev

variable {cx : Cx} {n : Nat} {L L' : Id → Loc} {I I' : Nat → Nat → Prop} {F F' : FS} {a : Act} {w w' : World} {C : Rel}

/-- What an operation's program promises. -/
def Sim (cx : Cx) (n : Nat) (L : Id → Loc) (I : Nat → Nat → Prop) (F : FS) (a : Act) (w : World) (o : Oper) (wr : Wr) : Prop :=
  ∀ (K : Act → World → Prop) (Q : Exit → Act → World → Prop), (∀ a' w', (∃ L' I', SR cx n L' I' (F.app wr) a' w' ∧ Stp L I F w L' I' (F.app wr) w') → K a' w') → o.wp cx.P a w K Q

theorem newIds_get (d : Nat) : ∀ (m k : Nat), k < m → (newIds d m)[k]? = some (d + 1, k)
  | 0, k, h => by omega
  | m + 1, k, h => by
    have hl : ∀ m, (newIds d m).length = m := by
      intro m
      induction m with
      | zero => rfl
      | succ m ih => simp [newIds, ih]
    simp only [newIds, List.getElem?_append, hl]
    split
    · exact newIds_get d m k (by assumption)
    · have : k = m := by omega
      subst this
      simp

theorem newIds_length (d m : Nat) : (newIds d m).length = m := by
  induction m with
  | zero => rfl
  | succ m ih => simp [newIds, ih]

theorem newIds_nodup (d m : Nat) : (newIds d m).Nodup := by
  induction m with
  | zero => simp [newIds]
  | succ m ih =>
    simp only [newIds]
    refine List.nodup_append.2 ⟨ih, by simp, fun x hx y hy he => ?_⟩
    simp at hy
    subst hy
    subst he
    obtain ⟨k, hk⟩ := List.getElem?_of_mem hx
    have hlt : k < m := by have := (List.getElem?_eq_some_iff.1 hk).1; rwa [newIds_length] at this
    rw [newIds_get d m k hlt] at hk
    have := Option.some.inj hk
    have := congrArg Prod.snd this
    simp at this
    omega

theorem idsL_append (x y : List AV) : idsL (x ++ y) = idsL x ++ idsL y := by
  induction x with
  | nil => rfl
  | cons v r ih => simp [idsL, ih]

theorem sim_call (hC : CallSound cx C) (hs : SR cx n L I F a w) {o : Oper} {f : Operand} {args : Array Operand} {tys : Array TypeId} (ho : o.op = .call { callee := .value f, args := args, argTypes := tys }) (hd : ∀ d, o.dst = some d → d < n)
    {wr : Wr} {rs : List Res} (h : (stepOp cx o).ev C F wr rs) : Sim cx n L I F a w o wr := by
  simp only [stepOp, ho] at h
  (replace h := rdV_ev hs h); obtain ⟨fv, rs1, hfv, h⟩ := h
  (replace h := rdVs_ev hs h); obtain ⟨vs, rs2, hvs, h⟩ := h
  unfold callP at h
  split at h
  · rename_i g caps
    have hsn : ∃ vs' ov rs', OvOk F ov ∧ All2 (VR L F.sh (frz L I ov) w) vs' (args.toList.map a.eval) ∧
        (reach 40 (idsL (vs' ++ caps)) [] ov fun objs =>
          .call g (renL (inRen (objs.map (·.1))) (vs' ++ caps)) (objs.map fun x => x.2.ren (inRen (objs.map (·.1)))) fun r H' =>
          .chk (Nat.ble (objs.map (·.1)).length H'.length && (Nat.beq H'.length (objs.map (·.1)).length || o.dst.isSome)) <|
          free (newIds (o.dst.getD 0) (H'.length - (objs.map (·.1)).length)) <|
          .ret { e := dstW o (r.ren (outRen (objs.map (·.1)) (o.dst.getD 0))), s := ov ++ List.zip (objs.map (·.1) ++ newIds (o.dst.getD 0) (H'.length - (objs.map (·.1)).length)) (H'.map fun x => x.ren (outRen (objs.map (·.1)) (o.dst.getD 0))) }).ev C F wr rs' := by
      obtain ⟨byRef, h⟩ := h
      dsimp only at h
      split at h
      · exact ⟨vs, [], _, (by intro x hx; cases hx), hvs.mono fun c y hc => hc.mono (frz_sub L I []) (fun _ _ _ => rfl) fun id _ s h => ⟨s, h, .refl _ _⟩, h⟩
      · obtain ⟨vs', ov, rs3, hok, _, hv', h⟩ := snaps_ev hs hvs h (by intro x hx; cases hx)
        exact ⟨vs', ov, rs3, hok, hv', h⟩
    clear h
    obtain ⟨vs', ov, rs3, hok, hv', h⟩ := hsn
    obtain ⟨hs1, st1⟩ := hs.freeze hok
    obtain ⟨objs, rs4, hnd, hgs, hcl, hT, _, h⟩ := reach_ev hok (idsL (vs' ++ caps)) 40 (idsL (vs' ++ caps)) [] h (by simp) (by simp) (by simp) (fun j hj => .inr hj)
    obtain ⟨r, H', hcall, h⟩ := h
    (replace h := chk_ev h); obtain ⟨hck, h⟩ := h
    simp only [Bool.and_eq_true, Bool.or_eq_true] at hck
    obtain ⟨hfree, rs5, h⟩ := free_ev h
    have hw := put_inv h
    subst hw
    have hle : (objs.map (·.1)).length ≤ H'.length := Nat.le_of_ble_eq_true hck.1
    obtain ⟨hp, hkey⟩ := into hs1 hnd hgs hcl
    obtain ⟨hclb, hsound⟩ := hC _ _ _ _ _ hcall
    -- the function value
    generalize hfe : a.eval f = fvv at hfv
    cases hfv with
    | @fn _ _ xs hl hcaps =>
      have hcaps1 : All2 (VR L F.sh (frz L I ov) w) caps xs.toList := All2.of_get (by simpa using hl.symm) fun i c x hi hx => (hcaps i c x hi (by simpa using hx)).mono (frz_sub L I ov) (fun _ _ _ => rfl) fun id _ s h => ⟨s, h, .refl _ _⟩
      have hall := hv'.append hcaps1
      have hren : All2 (VR (inL L (objs.map (·.1))) (HS (objs.map fun x => x.2.ren (inRen (objs.map (·.1))))).sh (frz L I ov) w) (renL (inRen (objs.map (·.1))) (vs' ++ caps)) (args.map a.eval ++ xs).toList := by
        refine All2.of_get (by rw [renL_length, hall.length]; simp) fun i c x hi hx => ?_
        rw [renL_get, Option.map_eq_some_iff] at hi
        obtain ⟨c', hc', rfl⟩ := hi
        refine (hall.get i c' x hc' (by simpa using hx)).ren fun id hid s hsh => ?_
        exact hkey id (hT id (idsL_get hc' hid)) s (by rw [ov_sh hok]; exact hsh)
      have hcalls := hsound _ _ w (args.map a.eval ++ xs) hp hren
      intro K Q hk
      have hrun : (execOp a.eval o).run cx.P w = .ok (.enter g (args.map a.eval ++ xs)) w := by
        simp [execOp, ho, resolve, hfe, Deferred.ofValue, invoke, hclb]
      unfold Oper.wp
      rw [hrun, Oper.upon_enter]
      refine Calls.mono hcalls fun e w'' he => ?_
      obtain ⟨v, L', I', rfl, hp', hv, st⟩ := he
      simp only
      refine hk _ _ ?_
      have hnn : (objs.map (·.1) ++ newIds (o.dst.getD 0) (H'.length - (objs.map (·.1)).length)).Nodup := by
        refine List.nodup_append.2 ⟨hnd, newIds_nodup _ _, fun x hx y hy he => ?_⟩
        subst he
        have h1 := ov_none hok (hfree x hy)
        obtain ⟨z, hz, rfl⟩ := List.mem_map.1 hx
        rw [hgs z hz] at h1
        cases h1
      have hll : (objs.map (·.1) ++ newIds (o.dst.getD 0) (H'.length - (objs.map (·.1)).length)).length = H'.length := by
        rw [List.length_append, newIds_length]; omega
      have hb := back (H := objs.map fun x => x.2.ren (inRen (objs.map (·.1)))) (out := outRen (objs.map (·.1)) (o.dst.getD 0)) hs1 hnn hll (by simp) (fun j id hj => by
          simp only [List.getElem?_map, Option.map_eq_some_iff] at hj
          obtain ⟨x, hx, rfl⟩ := hj
          exact ⟨x.2, x.2.ren (inRen (objs.map (·.1))), hgs x (List.mem_of_getElem? hx), by simp [hx], AO.ren_sh _ _⟩)
        (fun id hid => ov_none hok (hfree id hid)) (fun j id hj => by
          rw [List.getElem?_append] at hj
          split at hj
          · show ((objs.map (·.1))[j]?).getD _ = id
            rw [hj]
            rfl
          · rename_i hge
            have hlt : j - (objs.map (·.1)).length < H'.length - (objs.map (·.1)).length := by
              have := (List.getElem?_eq_some_iff.1 hj).1
              rwa [newIds_length] at this
            rw [newIds_get _ _ _ hlt] at hj
            have hnone : (objs.map (·.1))[j]? = none := List.getElem?_eq_none (by omega)
            show ((objs.map (·.1))[j]?).getD _ = id
            rw [hnone]
            exact Option.some.inj hj) hp' st hv
      obtain ⟨h1, h2, h3⟩ := hb
      refine ⟨outL L L' (objs.map (·.1) ++ newIds (o.dst.getD 0) (H'.length - (objs.map (·.1)).length)), I', ?_, ?_⟩
      · rw [app_ov, FS.app_split]
        exact h1.put h3 hd
      · rw [app_ov, FS.app_split]
        exact (st1.trans h2).put _
  · exact h.elim

theorem Ok1.sim {o : Oper} {wr : Wr} (h : Ok1 cx n L I F a w o wr) : Sim cx n L I F a w o wr := fun _ _ hk => h.wp hk

theorem sim_op (hcx : CxOk cx) (hC : CallSound cx C) (hs : SR cx n L I F a w) {o : Oper} (hd : ∀ d, o.dst = some d → d < n) {wr : Wr} {rs : List Res} (h : (stepOp cx o).ev C F wr rs) :
    Sim cx n L I F a w o wr := by
  have no : ∀ {rs : List Res}, (RP.fail : RP Wr).ev C F wr rs → Sim cx n L I F a w o wr := fun h => h.elim
  cases ho : o.op with
  | move x => exact (sim_move hs (.inl ho) hd h).sim
  | assign x => exact (sim_move hs (.inr ho) hd h).sim
  | pick c x y => exact (sim_pick hs ho hd h).sim
  | alloc T => exact (sim_alloc hcx hs ho hd h).sim
  | box T x => exact (sim_box hs ho hd h).sim
  | build T parts => exact (sim_build hcx hs ho hd h).sim
  | buildSlice T m parts => exact (sim_buildSlice hcx hs ho hd h).sim
  | load T x => exact (sim_load hcx hs ho hd h).sim
  | store T x y => exact (sim_store hcx hs ho hd h).sim
  | nilCheck x => exact (sim_nilCheck hs ho hd h).sim
  | binOp op t x y u => exact (sim_binOp hcx hs ho hd h).sim
  | unOp op t x => exact (sim_unOp hs ho hd h).sim
  | convert s d x => exact (sim_convert hcx hs ho hd h).sim
  | fieldAddr T x f => exact (sim_fieldAddr hcx hs ho hd h).sim
  | field T x f => exact (sim_field hcx hs ho hd h).sim
  | indexAddr T x i => exact (sim_indexAddr hcx hs ho hd h).sim
  | index T x i => exact (sim_index hcx hs ho hd h).sim
  | slice T x lo hi mx =>
    cases mx with
    | none => exact (sim_slice hcx hs ho hd h).sim
    | some m =>
      cases hi with
      | none => simp only [stepOp, ho] at h; exact no h
      | some hi => exact (sim_slice3 hcx hs ho hd h).sim
  | lookup T x i ok => exact (sim_lookup hcx hs ho hd h).sim
  | mapUpdate T m i x => exact (sim_mapUpdate hcx hs ho hd h).sim
  | range T x => exact (sim_range hcx hs ho hd h).sim
  | next it b =>
    cases b with
    | true => exact (sim_next hs ho hd h).sim
    | false => simp only [stepOp, ho] at h; exact no h
  | makeFunc fn first caps =>
    cases fn with
    | func f => exact (sim_makeFunc hs ho hd h).sim
    | _ => simp only [stepOp, ho] at h; exact no h
  | makeSlice T l c => exact (sim_makeSlice hcx hs ho hd h).sim
  | makeMap T r =>
    cases r with
    | none => exact (sim_makeMap hcx hs ho hd h).sim
    | some r => simp only [stepOp, ho] at h; exact no h
  | extract x i => exact (sim_extract hs ho hd h).sim
  | call c =>
    obtain ⟨callee, args, tys⟩ := c
    cases callee with
    | value f => exact sim_call hC hs ho hd h
    | invoke r m => simp only [stepOp, ho] at h; exact no h
    | builtin b =>
      cases b with
      | len => exact (sim_len hcx hs ho hd h).sim
      | append => exact (sim_append hcx hs ho hd h).sim
      | min => exact (sim_min hs ho hd h).sim
      | max => exact (sim_max hs ho hd h).sim
      | delete => exact (sim_delete hcx hs ho hd h).sim
      | clear => exact (sim_clear hcx hs ho hd h).sim
      | _ => simp only [stepOp, ho] at h; exact no h
  | _ => simp only [stepOp, ho] at h; exact no h

theorem sim_wpOp (hcx : CxOk cx) (hC : CallSound cx C) (hs : SR cx n L I F a w) {ops : Array Oper} {i : Nat} {o : Oper} (hi : ops[i]? = some o) (hd : ∀ d, o.dst = some d → d < n) {wr : Wr} {rs : List Res}
    (h : (stepG cx ops o).ev C F wr rs) {K : Act → World → Prop} {Q : Exit → Act → World → Prop}
    (hk : ∀ a' w', (∃ L' I', SR cx n L' I' (F.app wr) a' w' ∧ Stp L I F w L' I' (F.app wr) w') → K a' w') : wpOp cx.P ops Q i K a w := by
  unfold wpOp
  rw [hi]
  simp only
  unfold stepG at h
  split at h
  · rename_i hg
    have : Region.wanted o (yielded ops a.tmps) = true := by simp [Region.wanted, hg]
    rw [if_pos this]
    exact .inl (sim_op hcx hC hs hd h K Q hk)
  · rename_i j want hg
    split at h
    · rename_i d hdj
      obtain ⟨rs1, _, h⟩ := h
      have hv := hs.env d
      have hund : ∀ {w : World}, VR L F.sh I w (.tup []) undef := .tup (xs := #[]) rfl (fun i c x hc => by simp at hc)
      generalize hge : F.ge d = gv at h hv
      dsimp only at h
      split at h
      · rename_i vs
        have hy : yielded ops a.tmps j = none := by
          have hx : ∃ xs, a.tmps.getD d undef = .tuple xs := by
            generalize a.tmps.getD d undef = z at hv
            cases hv
            exact ⟨_, rfl⟩
          obtain ⟨xs, hx⟩ := hx
          rcases Nat.lt_or_ge d a.tmps.size with hlt | hge
          · have hg : a.tmps[d]? = some (.tuple xs) := by
              rw [Array.getD_eq_getD_getElem?, Array.getElem?_eq_getElem hlt] at hx
              rw [Array.getElem?_eq_getElem hlt]
              simpa using hx
            simp [yielded, hdj, hg]
          · simp [yielded, hdj, Array.getElem?_eq_none hge]
        have hw : Region.wanted o (yielded ops a.tmps) = false := by simp [Region.wanted, hg, hy]
        rw [if_neg (by rw [hw]; simp)]
        have hw := put_inv h
        subst hw
        exact hk _ _ ⟨L, I, hs.put hund hd, (Stp.refl _ _ _ _).put _⟩
      · rename_i hnt
        (replace h := asB_ev hv h); obtain ⟨b, hb1, hb2, h⟩ := h
        change ((if b == want then stepOp cx o else RP.ret { e := dstW o (.tup []) } : RP Wr)).ev C F wr _ at h
        have hy : yielded ops a.tmps j = some b := by
          have hlt : d < a.tmps.size := by
            rcases Nat.lt_or_ge d a.tmps.size with h | h
            · exact h
            · rw [Array.getD_eq_getD_getElem?, Array.getElem?_eq_none h] at hb2
              simp [undef] at hb2
          have hg : a.tmps[d]? = some (.bool b) := by
            rw [Array.getD_eq_getD_getElem?, Array.getElem?_eq_getElem hlt] at hb2
            rw [Array.getElem?_eq_getElem hlt]
            simpa using hb2
          simp [yielded, hdj, hg]
        have hw : Region.wanted o (yielded ops a.tmps) = (b == want) := by simp [Region.wanted, hg, hy]
        cases hbw : b == want with
        | true =>
          rw [hbw] at h hw
          simp only [if_true] at h
          rw [if_pos hw]
          exact .inl (sim_op hcx hC hs hd h K Q hk)
        | false =>
          rw [hbw] at h hw
          simp only [Bool.false_eq_true, if_false] at h
          rw [if_neg (by rw [hw]; simp)]
          have hw := put_inv h
          subst hw
          exact hk _ _ ⟨L, I, hs.put hund hd, (Stp.refl _ _ _ _).put _⟩
    · exact h.elim

end Go.Ev
end
section
/- Regions: in the order of the text, and in every order that their edges leave open. -/
namespace Go.Ev

variable {cx : Cx} {n : Nat} {L L' : Id → Loc} {I I' : Nat → Nat → Prop} {F F' : FS} {a : Act} {w w' : World} {C : Rel}

/-- Where a piece of a run may come to. -/
def Reach (cx : Cx) (n : Nat) (L : Id → Loc) (I : Nat → Nat → Prop) (F : FS) (w : World) (F' : FS) (a' : Act) (w' : World) : Prop :=
  ∃ L' I', SR cx n L' I' F' a' w' ∧ Stp L I F w L' I' F' w'

theorem evOps_steps {ops : Array Oper} : ∀ {os : List Oper} {σ σ' : St} {fps : List FP}, evOps cx C ops os σ fps σ' →
    ∃ ws : List Wr, ws.length = os.length ∧ fps.length = os.length ∧ σ'.fs = ws.foldl FS.app σ.fs ∧
      ∀ (i : Nat) (o : Oper), os[i]? = some o → ∃ (wr : Wr) (rs : List Res), ws[i]? = some wr ∧ fps[i]? = some ⟨rs, wr.res⟩ ∧ (stepG cx ops o).ev C ((ws.take i).foldl FS.app σ.fs) wr rs
  | [], σ, σ', fps, h => by
    obtain ⟨rfl, rfl⟩ := h
    exact ⟨[], rfl, rfl, rfl, fun i o h => by simp at h⟩
  | o :: os, σ, σ', fps, h => by
    obtain ⟨wr, rs, r, h1, rfl, h2⟩ := h
    obtain ⟨ws, g1, g2, g3, g4⟩ := evOps_steps h2
    refine ⟨wr :: ws, by simp [g1], by simp [g2], ?_, fun i o' ho => ?_⟩
    · rw [g3, St.fs_app]; rfl
    · cases i with
      | zero =>
        simp at ho
        subst ho
        exact ⟨wr, rs, rfl, rfl, h1⟩
      | succ i =>
        obtain ⟨wr', rs', k1, k2, k3⟩ := g4 i o' (by simpa using ho)
        rw [St.fs_app] at k3
        exact ⟨wr', rs', by simpa using k1, by simpa using k2, by simpa using k3⟩

theorem dsts_lt {ops : Array Oper} {i : Nat} {o : Oper} (hd : (ops.toList.all fun o => match o.dst with | some d => Nat.blt d n | none => true) = true) (hi : ops[i]? = some o) : ∀ d, o.dst = some d → d < n := by
  intro d hod
  rw [List.all_eq_true] at hd
  have := hd o (by rw [Array.mem_toList_iff]; exact Array.mem_of_getElem? hi)
  rw [hod] at this
  simpa [Nat.blt_eq] using this

/-- In the order of the text. -/
theorem sim_ops (hcx : CxOk cx) (hC : CallSound cx C) {ops : Array Oper} (hd : (ops.toList.all fun o => match o.dst with | some d => Nat.blt d n | none => true) = true) {Q : Exit → Act → World → Prop} :
    ∀ {os : List Oper} {k : Nat} {σ σ' : St} {fps : List FP} {L : Id → Loc} {I : Nat → Nat → Prop} {a : Act} {w : World}, ops.toList.drop k = os → evOps cx C ops os σ fps σ' → SR cx n L I σ.fs a w →
      (∀ a' w', Reach cx n L I σ.fs w σ'.fs a' w' → Q .normal a' w') → wpOps cx.P ops Q (List.range' k os.length) a w
  | [], k, σ, σ', fps, L, I, a, w, _, h, hs, hq => by
    obtain ⟨_, rfl⟩ := h
    exact hq a w ⟨L, I, hs, .refl _ _ _ _⟩
  | o :: os, k, σ, σ', fps, L, I, a, w, hdr, h, hs, hq => by
    obtain ⟨wr, rs, r, h1, rfl, h2⟩ := h
    have hk : ops[k]? = some o := by
      have : (ops.toList.drop k)[0]? = some o := by rw [hdr]; rfl
      rw [List.getElem?_drop] at this
      simpa using this
    have hdr' : ops.toList.drop (k + 1) = os := by
      have : (ops.toList.drop k).drop 1 = os := by rw [hdr]; rfl
      rw [List.drop_drop] at this
      exact this
    rw [List.length_cons, List.range'_succ, wpOps_cons]
    refine sim_wpOp hcx hC hs hk (dsts_lt hd hk) h1 fun a' w' hr => ?_
    obtain ⟨L1, I1, hs1, st1⟩ := hr
    rw [← St.fs_app] at hs1 st1
    refine sim_ops hcx hC hd hdr' h2 hs1 fun a2 w2 hr2 => hq a2 w2 ?_
    obtain ⟨L2, I2, hs2, st2⟩ := hr2
    exact ⟨L2, I2, hs2, st1.trans st2⟩

/- ---------------------------------------------------------------- any order -/
def agree (F F' : FS) : Res → Prop
  | .e t => F.ge t = F'.ge t
  | .s i => F.gs i = F'.gs i

theorem agree_refl (F : FS) (r : Res) : agree F F r := by cases r <;> rfl
theorem agree_trans {F1 F2 F3 : FS} {r : Res} (h : agree F1 F2 r) (k : agree F2 F3 r) : agree F1 F3 r := by
  cases r
  · exact Eq.trans h k
  · exact Eq.trans h k
theorem agree_symm {F1 F2 : FS} {r : Res} (h : agree F1 F2 r) : agree F2 F1 r := by
  cases r
  · exact Eq.symm h
  · exact Eq.symm h
theorem agree_ext {F1 F2 : FS} (h : ∀ r, agree F1 F2 r) : F1 = F2 := by
  cases F1; cases F2
  congr 1
  · funext t; exact h (.e t)
  · funext i; exact h (.s i)

theorem foldS_agree (l : List (Id × AO)) : ∀ {F F' : FS} {r : Res}, (agree F F' r ∨ ∃ x ∈ l, r = .s x.1) →
    agree (l.foldl (fun F (io : Id × AO) => F.setS io.1 io.2) F) (l.foldl (fun F (io : Id × AO) => F.setS io.1 io.2) F') r := by
  induction l with
  | nil =>
    intro F F' r h
    rcases h with h | ⟨x, hx, _⟩
    · exact h
    · cases hx
  | cons y l ih =>
    intro F F' r h
    simp only [List.foldl_cons]
    refine ih ?_
    by_cases hy : r = .s y.1
    · subst hy
      left
      simp [agree, FS.setS, idEq_refl]
    · rcases h with h | ⟨x, hx, rfl⟩
      · left
        cases r with
        | e t => exact h
        | s i =>
          have hne : y.1 ≠ i := fun he => hy (by rw [he])
          simp only [agree, FS.setS, idEq_false.2 hne, cond_false] at h ⊢
          exact h
      · rcases List.mem_cons.1 hx with rfl | hx
        · exact absurd rfl hy
        · exact .inr ⟨x, hx, rfl⟩
theorem foldE_agree (l : List (Nat × AV)) : ∀ {F F' : FS} {r : Res}, (agree F F' r ∨ ∃ x ∈ l, r = .e x.1) →
    agree (l.foldl (fun F (tv : Nat × AV) => F.setE tv.1 tv.2) F) (l.foldl (fun F (tv : Nat × AV) => F.setE tv.1 tv.2) F') r := by
  induction l with
  | nil =>
    intro F F' r h
    rcases h with h | ⟨x, hx, _⟩
    · exact h
    · cases hx
  | cons y l ih =>
    intro F F' r h
    simp only [List.foldl_cons]
    refine ih ?_
    by_cases hy : r = .e y.1
    · subst hy
      left
      simp [agree, FS.setE]
    · rcases h with h | ⟨x, hx, rfl⟩
      · left
        cases r with
        | s i => exact h
        | e t =>
          have hne : y.1 ≠ t := fun he => hy (by rw [he])
          simp only [agree, FS.setE] at h ⊢
          have : (y.1 == t) = false := by simpa using hne
          simp only [this, cond_false]
          exact h
      · rcases List.mem_cons.1 hx with rfl | hx
        · exact absurd rfl hy
        · exact .inr ⟨x, hx, rfl⟩

/-- Behind writes: what they write is the same, all else as before. -/
theorem app_agree {wr : Wr} {r : Res} (h : agree F F' r ∨ r ∈ wr.res) : agree (F.app wr) (F'.app wr) r := by
  refine foldE_agree _ ?_
  rcases h with h | h
  · exact .inl (foldS_agree _ (.inl h))
  · simp only [Wr.res, List.mem_append, List.mem_map] at h
    rcases h with ⟨x, hx, rfl⟩ | ⟨x, hx, rfl⟩
    · exact .inr ⟨x, hx, rfl⟩
    · exact .inl (foldS_agree _ (.inr ⟨x, hx, rfl⟩))

theorem app_keeps {wr : Wr} {r : Res} (h : r ∉ wr.res) : agree (F.app wr) F r := by
  have h1 : ∀ (l : List (Id × AO)) (F : FS), (∀ x ∈ l, r ≠ .s x.1) → agree (l.foldl (fun F (io : Id × AO) => F.setS io.1 io.2) F) F r := by
    intro l
    induction l with
    | nil => intro F _; exact agree_refl _ _
    | cons y l ih =>
      intro F hl
      simp only [List.foldl_cons]
      refine agree_trans (ih _ fun x hx => hl x (by simp [hx])) ?_
      have hy := hl y (by simp)
      cases r with
      | e t => rfl
      | s i =>
        have hne : y.1 ≠ i := fun he => hy (by rw [he])
        simp [agree, FS.setS, idEq_false.2 hne]
  have h2 : ∀ (l : List (Nat × AV)) (F : FS), (∀ x ∈ l, r ≠ .e x.1) → agree (l.foldl (fun F (tv : Nat × AV) => F.setE tv.1 tv.2) F) F r := by
    intro l
    induction l with
    | nil => intro F _; exact agree_refl _ _
    | cons y l ih =>
      intro F hl
      simp only [List.foldl_cons]
      refine agree_trans (ih _ fun x hx => hl x (by simp [hx])) ?_
      have hy := hl y (by simp)
      cases r with
      | s i => rfl
      | e t =>
        have hne : (y.1 == t) = false := by simp; exact fun he => hy (by rw [he])
        simp [agree, FS.setE, hne]
  simp only [Wr.res, List.mem_append, List.mem_map, not_or] at h
  refine agree_trans (h2 _ _ fun x hx he => h.1 ⟨x, hx, he.symm⟩) (h1 _ _ fun x hx he => h.2 ⟨x, hx, he.symm⟩)

theorem ev_agree {α : Type} (q : RP α) : ∀ {F F' : FS} {x : α} {rs : List Res}, q.ev C F x rs → (∀ r ∈ rs, agree F F' r) → q.ev C F' x rs := by
  induction q with
  | ret b => intro F F' x rs h _; exact h
  | rdE t k ih =>
    rintro F F' x rs ⟨r, rfl, h⟩ ha
    have : F.ge t = F'.ge t := ha (.e t) (by simp)
    exact ⟨r, rfl, by rw [← this]; exact ih _ h fun y hy => ha y (by simp [hy])⟩
  | rdS i k ih =>
    rintro F F' x rs ⟨r, rfl, h⟩ ha
    have : F.gs i = F'.gs i := ha (.s i) (by simp)
    exact ⟨r, rfl, by rw [← this]; exact ih _ h fun y hy => ha y (by simp [hy])⟩
  | br b k ih => intro F F' x rs h ha; exact ih _ h ha
  | need o k ih => rintro F F' x rs ⟨d, hd, h⟩ ha; exact ⟨d, hd, ih _ h ha⟩
  | norm y k ih => intro F F' x rs h ha; exact ih _ h ha
  | assert p k ih => rintro F F' x rs ⟨hp, h⟩ ha; exact ⟨hp, ih h ha⟩
  | call f args H k ih => rintro F F' x rs ⟨r, H', hc, h⟩ ha; exact ⟨r, H', hc, ih _ _ h ha⟩
  | alt h0 k ih => rintro F F' x rs ⟨b, h⟩ ha; exact ⟨b, ih _ h ha⟩
  | fail => intro F F' x rs h _; exact h

/-- The writes of some of the operations, in the order of the text. -/
def selApp (S : Nat → Bool) : List Wr → Nat → FS → FS
  | [], _, F => F
  | wr :: r, i, F => selApp S r (i + 1) (if S i then F.app wr else F)

theorem sel_agree {S T : Nat → Bool} {r : Res} : ∀ {ws : List Wr} {i : Nat} {F F' : FS}, (∀ (m : Nat) (wr : Wr), ws[m]? = some wr → r ∈ wr.res → S (i + m) = T (i + m)) → agree F F' r →
    agree (selApp S ws i F) (selApp T ws i F') r
  | [], i, F, F', _, h => h
  | wr :: ws, i, F, F', hst, h => by
    simp only [selApp]
    refine sel_agree (fun m wr' hm hr => ?_) ?_
    · have := hst (m + 1) wr' (by simpa using hm) hr
      have e : i + (m + 1) = i + 1 + m := by omega
      rwa [e] at this
    · by_cases hr : r ∈ wr.res
      · have := hst 0 wr (by simp) hr
        simp only [Nat.add_zero] at this
        rw [this]
        split
        · exact app_agree (.inr hr)
        · exact h
      · split <;> split
        · exact app_agree (.inl h)
        · exact agree_trans (app_keeps hr) h
        · exact agree_trans h (agree_symm (app_keeps hr))
        · exact h

theorem sel_take {k : Nat} : ∀ {ws : List Wr} {i : Nat} {F : FS}, selApp (fun m => decide (m < k)) ws i F = (ws.take (k - i)).foldl FS.app F
  | [], i, F => by simp [selApp]
  | wr :: ws, i, F => by
    simp only [selApp]
    rw [sel_take]
    by_cases h : i < k
    · have : k - i = (k - (i + 1)) + 1 := by omega
      simp [h, this]
    · have h1 : k - i = 0 := by omega
      have h2 : k - (i + 1) = 0 := by omega
      simp [h, h1, h2]

theorem sel_append {S : Nat → Bool} : ∀ {l1 l2 : List Wr} {i : Nat} {F : FS}, selApp S (l1 ++ l2) i F = selApp S l2 (i + l1.length) (selApp S l1 i F)
  | [], l2, i, F => by simp [selApp]
  | wr :: l1, l2, i, F => by
    simp only [List.cons_append, selApp, List.length_cons]
    rw [sel_append]
    congr 1
    omega

theorem sel_untouched {S : Nat → Bool} {r : Res} : ∀ {ws : List Wr} {i : Nat} {F : FS}, (∀ (m : Nat) (wr : Wr), ws[m]? = some wr → r ∈ wr.res → S (i + m) = false) → agree (selApp S ws i F) F r
  | [], i, F, _ => agree_refl _ _
  | wr :: ws, i, F, h => by
    simp only [selApp]
    refine agree_trans (sel_untouched fun m wr' hm hr => ?_) ?_
    · have := h (m + 1) wr' (by simpa using hm) hr
      have e : i + (m + 1) = i + 1 + m := by omega
      rwa [e] at this
    · by_cases hr : r ∈ wr.res
      · have := h 0 wr (by simp) hr
        simp only [Nat.add_zero] at this
        rw [this]
        exact agree_refl _ _
      · split
        · exact app_keeps hr
        · exact agree_refl _ _

theorem meets_false {x y : List Res} (h : meets x y = false) : ∀ r ∈ x, r ∉ y := by
  intro r hx hy
  have he : resEq r r = true := by
    cases r with
    | e t => simp [resEq]
    | s i => exact idEq_refl i
  have : meets x y = true := by
    simp only [meets, List.any_eq_true]
    exact ⟨r, hx, r, hy, he⟩
  rw [h] at this
  cases this

/-- One more operation of those that are ready. -/
theorem sel_step {ws : List Wr} {S : Nat → Bool} {i : Nat} {wr : Wr} {rs : List Res} {F0 : FS} (hi : ws[i]? = some wr) (hS : S i = false)
    (hlow : ∀ (m : Nat) (wm : Wr), ws[m]? = some wm → m < i → (∃ r, r ∈ wm.res ∧ (r ∈ rs ∨ r ∈ wr.res)) → S m = true)
    (hhigh : ∀ (m : Nat) (wm : Wr), ws[m]? = some wm → i < m → (∃ r, r ∈ wm.res ∧ (r ∈ rs ∨ r ∈ wr.res)) → S m = false) :
    (∀ r ∈ rs, agree ((ws.take i).foldl FS.app F0) (selApp S ws 0 F0) r) ∧ selApp (fun m => S m || m == i) ws 0 F0 = (selApp S ws 0 F0).app wr := by
  constructor
  · intro r hr
    have h1 := sel_take (k := i) (ws := ws) (i := 0) (F := F0)
    simp only [Nat.sub_zero] at h1
    rw [← h1]
    refine sel_agree (fun m wm hm hrm => ?_) (agree_refl _ _)
    simp only [Nat.zero_add]
    rcases Nat.lt_trichotomy m i with h | h | h
    · rw [hlow m wm hm h ⟨r, hrm, .inl hr⟩]; simpa using h
    · subst h; simp [hS]
    · rw [hhigh m wm hm h ⟨r, hrm, .inl hr⟩]; simp; omega
  · refine agree_ext fun r => ?_
    by_cases hr : r ∈ wr.res
    · have hlt := (List.getElem?_eq_some_iff.1 hi).1
      have hsplit : ws = ws.take i ++ wr :: ws.drop (i + 1) := by
        have h1 : ws.drop i = wr :: ws.drop (i + 1) := by
          rw [List.drop_eq_getElem_cons hlt]
          congr 1
          exact (List.getElem?_eq_some_iff.1 hi).2
        rw [← h1, List.take_append_drop]
      have hl : (ws.take i).length = i := by simp; omega
      rw [show selApp (fun m => S m || m == i) ws 0 F0 = selApp (fun m => S m || m == i) (ws.take i ++ wr :: ws.drop (i + 1)) 0 F0 by rw [← hsplit]]
      rw [sel_append, hl]
      simp only [Nat.zero_add, selApp, beq_self_eq_true, Bool.or_true, if_true]
      refine agree_trans (sel_untouched fun m wm hm hrm => ?_) (app_agree (.inr hr))
      rw [List.getElem?_drop] at hm
      have h2 := hhigh (i + 1 + m) wm hm (by omega) ⟨r, hrm, .inr hr⟩
      simp only [h2, Bool.false_or]
      simp; omega
    · refine agree_trans (sel_agree (T := S) (F' := F0) (fun m wm hm hrm => ?_) (agree_refl _ _)) (agree_symm (app_keeps hr))
      simp only [Nat.zero_add]
      have : m ≠ i := by
        intro he
        subst he
        rw [hi] at hm
        cases hm
        exact hr hrm
      simp [this]

end Go.Ev
end
section
/- Regions whose order is drawn. -/
namespace Go.Ev

variable {cx : Cx} {n : Nat} {L L' : Id → Loc} {I I' : Nat → Nat → Prop} {F F' : FS} {a : Act} {w w' : World} {C : Rel}

def Closed (ops : Array Oper) (S : Nat → Bool) : Prop := ∀ (k : Nat) (o : Oper), ops[k]? = some o → S k = true → ∀ e ∈ o.after, Region.binds .any e = true → S e.on = true

theorem anc_fold {acc : List (List Nat)} {j : Nat} : ∀ {es : List Edge} {l0 : List Nat}, j ∈ es.foldl (fun l e => if Region.binds .any e then e.on :: ((acc[e.on]?).getD [] ++ l) else l) l0 →
    j ∈ l0 ∨ ∃ e ∈ es, Region.binds .any e = true ∧ (j = e.on ∨ j ∈ (acc[e.on]?).getD [])
  | [], l0, h => .inl h
  | e :: es, l0, h => by
    simp only [List.foldl_cons] at h
    rcases anc_fold h with h | ⟨e', he', h1, h2⟩
    · split at h
      · rename_i hb
        rcases List.mem_cons.1 h with h | h
        · exact .inr ⟨e, by simp, hb, .inl h⟩
        · rcases List.mem_append.1 h with h | h
          · exact .inr ⟨e, by simp, hb, .inr h⟩
          · exact .inl h
      · exact .inl h
    · exact .inr ⟨e', by simp [he'], h1, h2⟩

theorem anc_prop {ops : Array Oper} {S : Nat → Bool} (hS : Closed ops S) : ∀ (os : List Oper) (acc : List (List Nat)), (∀ i o, os[i]? = some o → ops[acc.length + i]? = some o) →
    (∀ (k : Nat) (l : List Nat), acc[k]? = some l → ∀ j ∈ l, ∀ o, ops[k]? = some o → (∀ e ∈ o.after, Region.binds .any e = true → S e.on = true) → S j = true) → (acc.length ≤ ops.size) →
    ∀ (k : Nat) (l : List Nat), (os.foldl (fun acc o => acc ++ [o.after.toList.foldl (fun l e => if Region.binds .any e then e.on :: ((acc[e.on]?).getD [] ++ l) else l) []]) acc)[k]? = some l →
      ∀ j ∈ l, ∀ o, ops[k]? = some o → (∀ e ∈ o.after, Region.binds .any e = true → S e.on = true) → S j = true
  | [], acc, _, hinv, _ => hinv
  | o :: os, acc, hos, hinv, hsz => by
    have h0 := hos 0 o (by simp)
    simp only [Nat.add_zero] at h0
    have hlt : acc.length < ops.size := (Array.getElem?_eq_some_iff.1 h0).1
    simp only [List.foldl_cons]
    refine anc_prop hS os _ (fun i o' hi => ?_) (fun k l hk j hj o' ho' hpre => ?_) (by simp; omega)
    · have := hos (i + 1) o' (by simpa using hi)
      simp only [List.length_append, List.length_singleton]
      rwa [Nat.add_assoc, Nat.add_comm 1 i]
    · rw [List.getElem?_append] at hk
      split at hk
      · exact hinv k l hk j hj o' ho' hpre
      · rename_i hge
        have hk0 : k - acc.length = 0 := by
          have := (List.getElem?_eq_some_iff.1 hk).1
          simp at this
          omega
        rw [hk0] at hk
        simp only [List.getElem?_cons_zero, Option.some.injEq] at hk
        subst hk
        have hkk : k = acc.length := by omega
        subst hkk
        rw [h0] at ho'
        cases ho'
        rcases anc_fold hj with h | ⟨e, he, hb, h⟩
        · cases h
        · have he' : e ∈ o.after := Array.mem_toList_iff.1 he
          have hon := hpre e he' hb
          rcases h with rfl | h
          · exact hon
          · cases hl : acc[e.on]? with
            | none => rw [hl] at h; cases h
            | some l =>
              rw [hl] at h
              have hlt2 : e.on < acc.length := (List.getElem?_eq_some_iff.1 hl).1
              have ho2 : ops[e.on]? = some ops[e.on] := Array.getElem?_eq_getElem (by omega)
              exact hinv e.on l hl j h _ ho2 (hS e.on _ ho2 hon)

theorem anc_spec {ops : Array Oper} {S : Nat → Bool} (hS : Closed ops S) {i j : Nat} {o : Oper} (hi : ops[i]? = some o) (hpre : ∀ e ∈ o.after, Region.binds .any e = true → S e.on = true)
    (hj : ((ancs ops.toList)[i]?.getD []).contains j = true) : S j = true := by
  cases hl : (ancs ops.toList)[i]? with
  | none => rw [hl] at hj; simp at hj
  | some l =>
    rw [hl] at hj
    simp only [Option.getD_some] at hj
    exact anc_prop hS ops.toList [] (fun i o h => by simpa using h) (fun k l h => by simp at h) (Nat.zero_le _) i l hl j (by simpa using hj) o hi hpre

theorem countP_lt {p q : Nat → Bool} : ∀ {l : List Nat}, (∀ k ∈ l, q k = true → p k = true) → (∃ k ∈ l, p k = true ∧ q k = false) → l.countP q < l.countP p
  | [], _, h => by obtain ⟨k, hk, _⟩ := h; cases hk
  | x :: l, hle, h => by
    have hm : l.countP q ≤ l.countP p := List.countP_mono_left fun k hk h => hle k (by simp [hk]) h
    obtain ⟨k, hk, h1, h2⟩ := h
    rcases List.mem_cons.1 hk with rfl | hk
    · rw [List.countP_cons, List.countP_cons, h1, h2]
      simp
      omega
    · have ih := countP_lt (l := l) (fun k hk h => hle k (by simp [hk]) h) ⟨k, hk, h1, h2⟩
      rw [List.countP_cons, List.countP_cons]
      have := hle x (by simp)
      cases hq : q x <;> cases hp : p x <;> simp_all <;> omega

def listedS (listed : Array Bool) : Nat → Bool := fun m => listed.getD m false

theorem listedS_set {listed : Array Bool} {i : Nat} (hi : i < listed.size) : listedS (listed.setIfInBounds i true) = fun m => listedS listed m || m == i := by
  funext m
  unfold listedS
  by_cases h : i = m
  · subst h
    simp [hi]
  · rw [getD_set_ne false h]
    have : (m == i) = false := by simp; exact fun hh => h hh.symm
    simp [this]

theorem sim_any (hcx : CxOk cx) (hC : CallSound cx C) {ops : Array Oper} (hd : (ops.toList.all fun o => match o.dst with | some d => Nat.blt d n | none => true) = true) {Q : Exit → Act → World → Prop}
    {ws : List Wr} {fps : List FP} {F0 : FS} {L0 : Id → Loc} {I0 : Nat → Nat → Prop} {w0 : World} (hwl : ws.length = ops.size) (hfl : fps.length = ops.size) (hok : okDraw ops fps = true)
    (hst : ∀ (i : Nat) (o : Oper), ops[i]? = some o → ∃ (wr : Wr) (rs : List Res), ws[i]? = some wr ∧ fps[i]? = some ⟨rs, wr.res⟩ ∧ (stepG cx ops o).ev C ((ws.take i).foldl FS.app F0) wr rs)
    (hq : ∀ a' w', Reach cx n L0 I0 F0 w0 (ws.foldl FS.app F0) a' w' → Q .normal a' w') :
    ∀ (fuel : Nat) (listed : Array Bool) (a : Act) (w : World), listed.size = ops.size → Closed ops (listedS listed) → (List.range ops.size).countP (fun k => !listedS listed k) ≤ fuel →
      Reach cx n L0 I0 F0 w0 (selApp (listedS listed) ws 0 F0) a w → wpAny cx.P .any ops Q fuel listed a w := by
  simp only [okDraw, Bool.and_eq_true, List.all_eq_true, List.mem_range, Bool.or_eq_true] at hok
  obtain ⟨hedge, hpair⟩ := hok
  have hedge' : ∀ (i : Nat) (o : Oper), ops[i]? = some o → ∀ e ∈ o.after, Region.binds .any e = true → e.on < i := by
    intro i o hi e he hb
    have hm : (o, i) ∈ ops.toList.zipIdx := by
      rw [List.mem_zipIdx_iff_getElem?]
      simpa using hi
    rcases hedge (o, i) hm e (Array.mem_toList_iff.2 he) with h | h
    · rw [hb] at h; cases h
    · simpa [Nat.blt_eq] using h
  have hall : ∀ (listed : Array Bool) (a : Act) (w : World), (∀ k, k < ops.size → listedS listed k = true) → Reach cx n L0 I0 F0 w0 (selApp (listedS listed) ws 0 F0) a w → Q .normal a w := by
    intro listed a w hl hr
    refine hq a w ?_
    have : selApp (listedS listed) ws 0 F0 = ws.foldl FS.app F0 := by
      have h1 := sel_take (k := ws.length) (ws := ws) (i := 0) (F := F0)
      simp only [Nat.sub_zero, List.take_length] at h1
      rw [← h1]
      refine agree_ext fun r => sel_agree (fun m wm hm _ => ?_) (agree_refl _ _)
      have hlt := (List.getElem?_eq_some_iff.1 hm).1
      simp only [Nat.zero_add]
      rw [hl m (by omega)]
      simp [hlt]
    rwa [this] at hr
  intro fuel
  induction fuel with
  | zero =>
    intro listed a w hsz hcl hcnt hr
    have hl : ∀ k, k < ops.size → listedS listed k = true := by
      intro k hk
      have h0 : (List.range ops.size).countP (fun k => !listedS listed k) = 0 := by omega
      rw [List.countP_eq_zero] at h0
      have := h0 k (List.mem_range.2 hk)
      simpa using this
    refine ⟨?_, hall listed a w hl hr⟩
    rw [List.eq_nil_iff_forall_not_mem]
    intro j hj
    obtain ⟨h1, o, ho, _⟩ := mem_ready.1 hj
    have hlt : j < ops.size := (Array.getElem?_eq_some_iff.1 ho).1
    have h2 := hl j hlt
    unfold listedS at h2
    simp [show j < listed.size by omega] at h1 h2
    rw [h1] at h2
    cases h2
  | succ fuel ih =>
    intro listed a w hsz hcl hcnt hr
    refine ⟨fun hnil => hall listed a w ?_ hr, fun i hi => ?_⟩
    · intro k
      induction k using Nat.strongRecOn with
      | _ k ihk =>
        intro hk
        cases hs : listedS listed k with
        | true => rfl
        | false =>
          have : k ∈ Region.ready .any ops listed := by
            rw [mem_ready]
            refine ⟨?_, ops[k], Array.getElem?_eq_getElem hk, fun e he hb => ?_⟩
            · unfold listedS at hs
              simp [show k < listed.size by omega] at hs ⊢
              exact hs
            · have hlt := hedge' k _ (Array.getElem?_eq_getElem hk) e he hb
              exact ihk e.on hlt (by omega)
          rw [hnil] at this
          cases this
    · obtain ⟨hun, o, ho, hpre⟩ := mem_ready.1 hi
      have hlt : i < ops.size := (Array.getElem?_eq_some_iff.1 ho).1
      have hSi : listedS listed i = false := by
        unfold listedS
        simp [show i < listed.size by omega] at hun ⊢
        exact hun
      obtain ⟨wr, rs, hwi, hfi, hev⟩ := hst i o ho
      have clash_mem : ∀ {p q : FP} {r : Res}, (r ∈ p.ws ∧ (r ∈ q.rs ∨ r ∈ q.ws)) ∨ (r ∈ p.rs ∧ r ∈ q.ws) → clash p q = true := by
        intro p q r h
        cases hc : clash p q with
        | true => rfl
        | false =>
          simp only [clash, Bool.or_eq_false_iff] at hc
          obtain ⟨⟨c1, c2⟩, c3⟩ := hc
          rcases h with ⟨h1, h2 | h2⟩ | ⟨h1, h2⟩
          · exact absurd h2 (meets_false c1 r h1)
          · exact absurd h2 (meets_false c2 r h1)
          · exact absurd h2 (meets_false c3 r h1)
      have hfp : ∀ (m : Nat) (wm : Wr), ws[m]? = some wm → ∃ om rm, ops[m]? = some om ∧ fps[m]? = some ⟨rm, wm.res⟩ := by
        intro m wm hm
        have hml : m < ops.size := by rw [← hwl]; exact (List.getElem?_eq_some_iff.1 hm).1
        obtain ⟨wr', rs', h1, h2, _⟩ := hst m _ (Array.getElem?_eq_getElem hml)
        rw [hm] at h1
        cases h1
        exact ⟨_, rs', Array.getElem?_eq_getElem hml, h2⟩
      have hstep := sel_step (S := listedS listed) (F0 := F0) hwi hSi (rs := rs) (fun m wm hm hmi hr => by
          obtain ⟨om, rm, hom, hfm⟩ := hfp m wm hm
          obtain ⟨r, h1, h2⟩ := hr
          rcases hpair i (by omega) m hmi with h | h
          · exact anc_spec hcl ho hpre h
          · rw [hfm, hfi] at h
            simp only at h
            rw [clash_mem (.inl ⟨h1, h2⟩)] at h
            cases h) (fun m wm hm hmi hr => by
          obtain ⟨om, rm, hom, hfm⟩ := hfp m wm hm
          obtain ⟨r, h1, h2⟩ := hr
          cases hS : listedS listed m with
          | false => rfl
          | true =>
            rcases hpair m (by have := (List.getElem?_eq_some_iff.1 hm).1; omega) i hmi with h | h
            · have := anc_spec hcl hom (hcl m om hom hS) h
              rw [hSi] at this
              cases this
            · rw [hfm, hfi] at h
              simp only at h
              have hcl2 : clash ⟨rs, wr.res⟩ ⟨rm, wm.res⟩ = true := by
                rcases h2 with h2 | h2
                · exact clash_mem (.inr ⟨h2, h1⟩)
                · exact clash_mem (.inl ⟨h2, .inr h1⟩)
              rw [hcl2] at h
              cases h)
      obtain ⟨hag, hsel⟩ := hstep
      obtain ⟨L1, I1, hs1, st1⟩ := hr
      refine sim_wpOp hcx hC hs1 ho (dsts_lt hd ho) (ev_agree _ hev hag) fun a' w' hr' => ?_
      obtain ⟨L2, I2, hs2, st2⟩ := hr'
      have hset := listedS_set (listed := listed) (i := i) (by omega)
      refine ih _ _ _ (by simpa using hsz) (fun k ok hk hSk e he hb => ?_) ?_ ?_
      · rw [hset] at hSk ⊢
        simp only [Bool.or_eq_true] at hSk ⊢
        rcases hSk with h | h
        · exact .inl (hcl k ok hk h e he hb)
        · have : k = i := by simpa using h
          subst this
          rw [ho] at hk
          cases hk
          exact .inl (hpre e he hb)
      · have hlt' : (List.range ops.size).countP (fun k => !listedS (listed.setIfInBounds i true) k) < (List.range ops.size).countP (fun k => !listedS listed k) := by
          refine countP_lt (fun k _ h => ?_) ⟨i, List.mem_range.2 hlt, by simp [hSi], by simp [hset]⟩
          rw [hset] at h
          simp only [Bool.not_or, Bool.and_eq_true] at h
          exact h.1
        omega
      · refine ⟨L2, I2, ?_, ?_⟩
        · rw [hset, hsel]; exact hs2
        · rw [hset, hsel]; exact st1.trans st2

theorem sim_draw (hcx : CxOk cx) (hC : CallSound cx C) (hm : cx.P.follows .mixedOrders = true) {id : Nat} {ops : Array Oper} (hd : (ops.toList.all fun o => match o.dst with | some d => Nat.blt d n | none => true) = true)
    {Q : Exit → Act → World → Prop} {σ σ' : St} {fps : List FP} (h : evOps cx C ops ops.toList σ fps σ') (hok : okDraw ops fps = true) (hs : SR cx n L I σ.fs a w)
    (hq : ∀ a' w', Reach cx n L I σ.fs w σ'.fs a' w' → Q .normal a' w') : (Code.region id ops true).wp cx.P Q a w := by
  obtain ⟨ws, h1, h2, h3, h4⟩ := evOps_steps h
  refine wp_region_any hm ?_
  have hst : ∀ (i : Nat) (o : Oper), ops[i]? = some o → ∃ (wr : Wr) (rs : List Res), ws[i]? = some wr ∧ fps[i]? = some ⟨rs, wr.res⟩ ∧ (stepG cx ops o).ev C ((ws.take i).foldl FS.app σ.fs) wr rs := fun i o hi => h4 i o (by simpa using hi)
  have hrep : ∀ k, listedS (Array.replicate ops.size false) k = false := by
    intro k
    unfold listedS
    by_cases hk : k < ops.size <;> simp [hk]
  refine sim_any hcx hC hd (L0 := L) (I0 := I) (F0 := σ.fs) (w0 := { w with drawn := w.drawn + 1 }) (by simpa using h1) (by simpa using h2) hok hst (fun a' w' hr => ?_) ops.size _ a _ (by simp) (fun k o _ hk => by rw [hrep] at hk; cases hk) ?_ ?_
  · rw [← h3] at hr
    obtain ⟨L', I', g1, g2⟩ := hr
    exact hq a' w' ⟨L', I', g1, ⟨g2.os, g2.tape, g2.output, g2.size, g2.frame, g2.sub, g2.cell, g2.new, g2.trk, g2.arg⟩⟩
  · have := List.countP_le_length (p := fun k => !listedS (Array.replicate ops.size false) k) (l := List.range ops.size)
    simpa using this
  · have he : selApp (listedS (Array.replicate ops.size false)) ws 0 σ.fs = σ.fs := by
      refine agree_ext fun r => sel_untouched fun m wr _ _ => hrep _
    rw [he]
    exact ⟨L, I, hs.worldEq rfl, .refl _ _ _ _⟩

end Go.Ev
end
section
/- Code, the end of a call, calls. -/
namespace Go.Ev

variable {cx : Cx} {n : Nat} {L L' : Id → Loc} {I I' : Nat → Nat → Prop} {F F' : FS} {a : Act} {w w' : World} {C : Rel}

def AE.exit' : AE → Exit
  | .normal => .normal
  | .exit id => .exit id
  | .ret => .ret

theorem evB_eval (hs : SR cx n L I F a w) {σ : St} (hF : F = σ.fs) {c : Operand} {b : Bool} (h : evB σ c = some b) : a.eval c = .bool b := by
  unfold evB at h
  split at h
  · rename_i t
    split at h
    · rename_i d hd
      have := hs.env t
      rw [hF] at this
      simp only [St.fs, hd] at this
      simp only [Option.some.injEq] at h
      subst h
      exact this.scal.1
    · cases h
  · simp only [Option.some.injEq] at h; subst h; rfl
  · cases h

/- ---- keeping a part of a state -/
theorem lkE_keep (σ : St) : ∀ (ts : List Nat) (t : Nat), lkE (ts.map fun t => (t, σ.getE t)) t = σ.getE t ∧ t ∈ ts ∨ lkE (ts.map fun t => (t, σ.getE t)) t = .junk
  | [], t => .inr rfl
  | u :: ts, t => by
    simp only [List.map_cons, lkE]
    cases h : u == t with
    | true => rw [beq_iff_eq] at h; subst h; simp
    | false =>
      simp only [cond_false]
      rcases lkE_keep σ ts t with ⟨h1, h2⟩ | h1
      · exact .inl ⟨h1, by simp [h2]⟩
      · exact .inr h1

theorem lkS_keep (σ : St) : ∀ (is : List Id) (i : Id), lkS (is.filterMap fun i => (σ.getS i).map fun o => (i, o)) i = if i ∈ is then σ.getS i else none
  | [], i => rfl
  | j :: is, i => by
    have ih := lkS_keep σ is i
    cases hj : σ.getS j with
    | none =>
      simp only [List.filterMap_cons, hj, Option.map_none]
      rw [ih]
      by_cases hij : i = j
      · subst hij
        simp [hj]
      · simp [hij]
    | some o =>
      simp only [List.filterMap_cons, hj, Option.map_some, lkS]
      cases h : idEq j i with
      | true => rw [idEq_iff] at h; subst h; simp [hj]
      | false =>
        have hij : ¬ i = j := fun e => by rw [e, idEq_refl] at h; cases h
        simp only [cond_false]
        rw [ih]
        simp [hij]

theorem OR.only {sh sh' : Id → Option Sh} {l : Loc} {o : AO} (h : OR L sh I w l o) (he : ∀ id ∈ o.ids, ∀ s, sh id = some s → sh' id = some s) : OR L sh' I w l o := by
  cases o with
  | cells cs =>
    obtain ⟨xs, e, h1, h2, h3, h4⟩ := h
    exact ⟨xs, e, h1, h2, fun i c x hi hx => ⟨(h3 i c x hi hx).1, (h3 i c x hi hx).2.mono (fun _ _ h => h) (fun _ _ _ => rfl) fun id hid s hs => ⟨s, he id (idsL_get hi hid) s hs, .refl _ _⟩⟩, h4⟩
  | arr sz es fz => exact h
  | map g es => exact h
  | gm es pe ver => exact h
  | it s pos => exact h

theorem St.keep_ge (σ : St) (ts : List Nat) (is : List Id) (t : Nat) : (σ.keep ts is).fs.ge t = σ.fs.ge t ∧ t ∈ ts ∨ (σ.keep ts is).fs.ge t = .junk := lkE_keep σ ts t
theorem St.keep_gs (σ : St) (ts : List Nat) (is : List Id) (i : Id) : (σ.keep ts is).fs.gs i = if i ∈ is then σ.fs.gs i else none := lkS_keep σ is i

theorem lkS_mem' {l : List (Id × AO)} {i : Id} {o : AO} (h : lkS l i = some o) : (i, o) ∈ l := lkS_mem h

theorem SR.keep {σ : St} {ts : List Nat} {is : List Id} (hk : keepOk σ ts is = true) (hs : SR cx n L I σ.fs a w) :
    SR cx n L I (σ.keep ts is).fs a w ∧ Stp L I σ.fs w L I (σ.keep ts is).fs w := by
  simp only [keepOk, Bool.and_eq_true, List.all_eq_true, memId_iff] at hk
  obtain ⟨⟨h1, h2⟩, h3⟩ := hk
  have hsh : ∀ i ∈ is, (σ.keep ts is).fs.sh i = σ.fs.sh i := fun i hi => by simp [FS.sh, St.keep_gs, hi]
  have hsome : ∀ i o, (σ.keep ts is).fs.gs i = some o → i ∈ is ∧ σ.fs.gs i = some o := by
    intro i o h
    rw [St.keep_gs] at h
    split at h
    · exact ⟨by assumption, h⟩
    · cases h
  refine ⟨⟨fun t => ?_, fun id o ho => ?_, fun i j hi hj b hbi hbj => ?_, fun i hi b hb => ?_, hs.dom, fun g cs hg => ?_, hs.defers, hs.tsz, hs.gi⟩, ⟨rfl, rfl, rfl, Nat.le_refl _, fun _ _ _ => rfl, fun _ _ h => h, fun _ _ _ => rfl, fun _ _ h => .inl h, fun id hid b hb => ?_, fun i s hi => ?_⟩⟩
  · rcases St.keep_ge σ ts is t with ⟨h, ht⟩ | h
    · rw [h]
      refine (hs.env t).mono (fun _ _ h => h) (fun _ _ _ => rfl) fun id hid s hsid => ⟨s, ?_, .refl _ _⟩
      rw [hsh id (h1 id ?_)]
      · exact hsid
      · obtain ⟨k, hk⟩ := List.getElem?_of_mem ht
        exact idsL_get (cs := ts.map σ.getE) (i := k) (by simp [hk]; rfl) hid
    · rw [h]; exact .junk
  · obtain ⟨hi, ho'⟩ := hsome id o ho
    refine (hs.obj id o ho').only fun j hj s hsj => ?_
    rw [hsh j ?_]
    · exact hsj
    · have := h2 id hi
      rw [show σ.getS id = some o from ho'] at this
      simp only [List.all_eq_true, memId_iff] at this
      exact this j hj
  · obtain ⟨o1, ho1⟩ := Option.isSome_iff_exists.1 hi
    obtain ⟨o2, ho2⟩ := Option.isSome_iff_exists.1 hj
    exact hs.inj i j (by simp [(hsome i o1 ho1).2]) (by simp [(hsome j o2 ho2).2]) b hbi hbj
  · obtain ⟨o1, ho1⟩ := Option.isSome_iff_exists.1 hi
    exact hs.ownlt i (by simp [(hsome i o1 ho1).2]) b hb
  · exact (hs.glob g cs hg).mono (fun _ _ h => h) (fun _ _ _ => rfl) fun id hid => by simp [AV.ids] at hid
  · obtain ⟨o, ho⟩ := Option.isSome_iff_exists.1 hid
    exact .inr ⟨id, by simp [(hsome id o ho).2], hb⟩
  · refine ⟨s, ?_, .refl _ _⟩
    rw [hsh]
    · exact hi
    · simp only [FS.sh, Option.map_eq_some_iff] at hi
      obtain ⟨o, ho, rfl⟩ := hi
      have := h3 ((0, i), o) (lkS_mem ho)
      simpa [memId_iff] using this

theorem OR.moreI {sh sh' : Id → Option Sh} {l : Loc} {o : AO} (h : OR L sh I w l o) (hI : ∀ b o, I b o → I' b o) (hno : ∀ b, l.has b → ∀ o, I' b o → I b o)
    (he : ∀ id s, sh id = some s → ∃ s', sh' id = some s' ∧ Compat (L id) (L' id) s s') : OR L' sh' I' w l o := by
  cases o with
  | cells cs =>
    obtain ⟨xs, e, h1, h2, h3, h4⟩ := h
    exact ⟨xs, e, h1, h2, fun i c x hi hx => ⟨(h3 i c x hi hx).1, (h3 i c x hi hx).2.mono hI (fun _ _ _ => rfl) fun j _ s h => he j s h⟩, fun k hk => h4 k (hno _ l.has_b k hk)⟩
  | arr sz es fz =>
    obtain ⟨h0, h1, h2, xs, e, h3, h4, h5, h6, h7⟩ := h
    refine ⟨h0, h1, h2, xs, e, h3, h4, h5, fun i j row d hi hj => ?_, fun k hk => h7 k (hno _ l.has_b k hk)⟩
    obtain ⟨x, hx, hpr⟩ := h6 i j row d hi hj
    exact ⟨x, hx, hpr.mono hI (fun _ _ _ => rfl)⟩
  | map g es =>
    obtain ⟨ms, k, h1, h2, h3⟩ := h
    exact ⟨ms, k, h1, h2, fun i e m hi hm => (h3 i e m hi hm).mono hI (fun _ _ _ => rfl)⟩
  | gm es pe ver =>
    obtain ⟨ms, k, bs, h1, h2⟩ := h
    exact ⟨ms, k, bs, h1, h2.mono hI (fun _ _ _ => rfl) (Nat.le_refl _) fun b hb => ⟨rfl, fun o ho => (h2.free b hb).2.2 o (hno b (.inr hb) o ho)⟩⟩
  | it s pos => exact h
/-- A slice of one's own becomes pure data. -/
theorem SR.frzTmp (hs : SR cx n L I F a w) {t : Nat} {id : Id} {off m N sz fz : Nat} {es : List (List PV)} (ht : F.ge t = .ms id off m N) (hg : F.gs id = some (.arr sz es fz)) (hN : es.length = N) (hle : off + m ≤ N) :
    ∃ L' I', SR cx n L' I' ((F.setS id (.arr sz es es.length)).setE t (.p (.sl ((es.drop off).take m)))) a w ∧ Stp L I F w L' I' ((F.setS id (.arr sz es es.length)).setE t (.p (.sl ((es.drop off).take m)))) w := by
  obtain ⟨h1, h2⟩ := hs.freeze (ov := [(id, .arr sz es es.length)]) (fun x hx => by
    rw [List.mem_singleton.1 hx]
    exact ⟨sz, es, fz, hg, rfl⟩)
  have hv := hs.env t
  rw [ht] at hv
  have hp := ms_pure hs hv hg hN hle (frz_sub L I [(id, .arr sz es es.length)]) fun o ho => .inr ⟨_, List.mem_cons_self, _, _, _, rfl, rfl, ho⟩
  refine ⟨L, frz L I [(id, .arr sz es es.length)], ⟨fun u => ?_, h1.obj, h1.inj, h1.ownlt, h1.dom, h1.glob, h1.defers, h1.tsz, h1.gi⟩, ⟨h2.os, h2.tape, h2.output, h2.size, h2.frame, h2.sub, h2.cell, h2.new, h2.trk, h2.arg⟩⟩
  have he := h1.env u
  simp only [FS.setE]
  cases hb : t == u with
  | true =>
    have hb : t = u := by simpa using hb
    subst hb
    exact .p hp
  | false => exact he
/-- A map of slices becomes pure data. -/
theorem SR.frzMap (hs : SR cx n L I F a w) {id : Id} {es : List (Value × List PV)} {ver : Nat} (hes : F.gs id = some (.gm es none ver)) :
    ∃ L' I', SR cx n L' I' (F.setS id (.map false es)) a w ∧ Stp L I F w L' I' (F.setS id (.map false es)) w := by
  obtain ⟨ms, kk, bs, hmap, hG⟩ := hs.obj id _ hes
  have hsome : (F.gs id).isSome = true := by rw [hes]; rfl
  let I' : Nat → Nat → Prop := fun b o => I b o ∨ (L id).own b
  let L' := updL L id (mkLoc (L id).b (L id).size)
  have hgs : ∀ j, id ≠ j → (F.setS id (.map false es)).gs j = F.gs j := fun j hj => by simp [FS.setS, idEq_false.2 hj]
  have hgi : (F.setS id (.map false es)).gs id = some (.map false es) := by simp [FS.setS, idEq_refl]
  have hsub : ∀ b o, I b o → I' b o := fun _ _ h => .inl h
  have hL : ∀ j, id ≠ j → L' j = L j := fun j hj => updL_other L _ hj
  have hLi : L' id = mkLoc (L id).b (L id).size := updL_same L id _
  have hhas : ∀ j b, (L' j).has b → (L j).has b := by
    intro j b hb
    by_cases hj : id = j
    · subst hj
      rw [hLi] at hb
      rcases hb with hb | hb
      · exact .inl hb
      · exact hb.elim
    · rw [hL j hj] at hb; exact hb
  have hisS : ∀ j, ((F.setS id (.map false es)).gs j).isSome = true → (F.gs j).isSome = true := by
    intro j h
    by_cases hj : id = j
    · subst hj; exact hsome
    · rw [hgs j hj] at h; exact h
  have hext : ∀ j s, F.sh j = some s → ∃ s', (F.setS id (.map false es)).sh j = some s' ∧ Compat (L j) (L' j) s s' := by
    intro j s hj
    by_cases hji : id = j
    · subst hji
      simp only [FS.sh, hgi, Option.map_some]
      simp only [FS.sh, hes, Option.map_some, Option.some.injEq] at hj
      subst hj
      rw [hLi]
      exact ⟨_, rfl, rfl⟩
    · simp only [FS.sh, hgs j hji, hL j hji]
      exact ⟨s, hj, .refl _ _⟩
  refine ⟨L', I', ⟨fun t => (hs.env t).mono hsub (fun _ _ _ => rfl) fun j _ s h => hext j s h, fun j o ho => ?_, fun i j hi hj b hbi hbj => hs.inj i j (hisS i hi) (hisS j hj) b (hhas i b hbi) (hhas j b hbj), fun j hj b hb => hs.ownlt j (hisS j hj) b (hhas j b hb), fun b o h => ?_,
    fun g cs hg => (hs.glob g cs hg).mono hsub (fun _ _ _ => rfl) fun id hid => by simp [AV.ids] at hid, hs.defers, hs.tsz, hs.gi.mono hsub (fun _ _ _ => rfl)⟩,
    ⟨rfl, rfl, rfl, Nat.le_refl _, fun _ _ _ => rfl, hsub, fun _ _ _ => rfl, fun b o h => ?_, fun j hj b hb => .inr ⟨j, hisS j hj, hhas j b hb⟩, fun i s h => hext _ s h⟩⟩
  · by_cases hj : id = j
    · subst hj
      rw [hgi] at ho
      cases ho
      rw [hLi]
      refine ⟨ms, kk, hmap, hG.size, fun i e m he hm => ?_⟩
      obtain ⟨h1, _, rows, h3, h4, c, xs, e', q1, q2, q3, q4, q5⟩ := hG.ent i e m he hm
      have hown := hG.own i (List.getElem?_eq_some_iff.1 he).1
      refine ⟨h1, .inl ⟨rfl, .sl rows, h3, ?_⟩⟩
      rw [q1]
      have hrow : ∀ (i : Nat) (row : List PV), rows[i]? = some row → row.length = 1 := fun i row hr => by
        obtain ⟨d, y, r1, _, _⟩ := q5 i row hr
        rw [r1]; rfl
      have hj0 : ∀ (i j : Nat) (row : List PV) (d : PV), rows[i]? = some row → row[j]? = some d → j = 0 := fun i j row d hr hd => by
        have := (List.getElem?_eq_some_iff.1 hd).1
        rw [hrow i row hr] at this
        omega
      refine .sl 1 (fun i _ => (xs[i]?).getD undef) (fun _ => rfl) q3 Nat.one_pos hrow (fun i j row d hr hd => .inr hown) (fun i j row d hr hd => ?_) (fun i j row d hr hd => ?_)
      · obtain ⟨d', y, r1, r2, _⟩ := q5 i row hr
        have hj := hj0 i j row d hr hd
        subst hj
        rw [cell_of q2]
        simp [r2]
      · obtain ⟨d', y, r1, r2, r3⟩ := q5 i row hr
        have hj := hj0 i j row d hr hd
        subst hj
        subst r1
        cases hd
        simp only [r2, Option.getD_some]
        exact r3.mono hsub (fun _ _ _ => rfl)
    · rw [hgs j hj] at ho
      rw [hL j hj]
      have hsj : (F.gs j).isSome = true := by rw [ho]; rfl
      refine (hs.obj j o ho).moreI hsub (fun b hb o' h => ?_) hext
      rcases h with h | h
      · exact h
      · exact absurd (hs.inj id j hsome hsj b (.inr h) hb) hj
  · rcases h with h | h
    · exact hs.dom b o h
    · exact hs.ownlt id hsome b (.inr h)
  · rcases h with h | h
    · exact .inl h
    · exact .inr (.inr ⟨id, hsome, .inr h⟩)

theorem Reach.trans {F1 F2 F3 : FS} {w1 w2 : World} {L1 L2 : Id → Loc} {I1 I2 : Nat → Nat → Prop} {a' : Act} {w3 : World} (st : Stp L1 I1 F1 w1 L2 I2 F2 w2) (h : Reach cx n L2 I2 F2 w2 F3 a' w3) : Reach cx n L1 I1 F1 w1 F3 a' w3 := by
  obtain ⟨L', I', h1, h2⟩ := h
  exact ⟨L', I', h1, st.trans h2⟩

/-- What a piece of code promises. -/
def CodeSim (cx : Cx) (n : Nat) (c : Code) (σ : St) (e : AE) (σ' : St) : Prop :=
  (∀ (L : Id → Loc) (I : Nat → Nat → Prop) (a : Act) (w : World) (Q : Exit → Act → World → Prop), SR cx n L I σ.fs a w → (∀ a' w', Reach cx n L I σ.fs w σ'.fs a' w' → Q e.exit' a' w') → c.wp cx.P Q a w) ∧
  ∀ d, c = .loop d → ∃ m, ∀ (L : Id → Loc) (I : Nat → Nat → Prop) (a : Act) (w : World) (Q : Exit → Act → World → Prop), SR cx n L I σ.fs a w → (∀ a' w', Reach cx n L I σ.fs w σ'.fs a' w' → Q e.exit' a' w') → Code.rounds cx.P d Q m a w

theorem sim_code (hcx : CxOk cx) (hC : CallSound cx C) (hm : cx.P.follows .mixedOrders = true) {c : Code} {σ σ' : St} {e : AE} (h : EvCode cx C c σ e σ') (hd : dstsOk n c = true) : CodeSim cx n c σ e σ' := by
  induction h with
  | skip => exact ⟨fun L I a w Q hs hq => wp_skip (hq a w ⟨L, I, hs, .refl _ _ _ _⟩), fun d h => by cases h⟩
  | @region id ops σ fps σ' hev =>
    refine ⟨fun L I a w Q hs hq => wp_region ?_, fun d h => by cases h⟩
    have := sim_ops (k := 0) hcx hC hd (os := ops.toList) (Q := Q) (by simp) hev hs hq
    rwa [← List.range_eq_range', Array.length_toList] at this
  | @draw id ops σ fps σ' hev hok => exact ⟨fun L I a w Q hs hq => sim_draw hcx hC hm hd hev hok hs hq, fun d h => by cases h⟩
  | @seq x y σ σ1 e σ2 _ _ ih1 ih2 =>
    simp only [dstsOk, Bool.and_eq_true] at hd
    refine ⟨fun L I a w Q hs hq => wp_seq ((ih1 hd.1).1 L I a w _ hs fun a1 w1 hr => ?_), fun d h => by cases h⟩
    obtain ⟨L1, I1, hs1, st1⟩ := hr
    exact (ih2 hd.2).1 L1 I1 a1 w1 Q hs1 fun a2 w2 hr2 => hq a2 w2 (hr2.trans st1)
  | @seqE x y σ e σ1 _ hne ih =>
    simp only [dstsOk, Bool.and_eq_true] at hd
    refine ⟨fun L I a w Q hs hq => wp_seq ((ih hd.1).1 L I a w _ hs fun a1 w1 hr => ?_), fun d h => by cases h⟩
    cases e with
    | normal => exact absurd rfl hne
    | exit id => exact hq a1 w1 hr
    | ret => exact hq a1 w1 hr
  | @cond c x y σ b e σ' hb _ ih =>
    simp only [dstsOk, Bool.and_eq_true] at hd
    have hd' : dstsOk n (if b then x else y) = true := by cases b; exact hd.2; exact hd.1
    exact ⟨fun L I a w Q hs hq => wp_cond (evB_eval hs rfl hb) ((ih hd').1 L I a w Q hs hq), fun d h => by cases h⟩
  | @block id c σ e σ' _ ih =>
    refine ⟨fun L I a w Q hs hq => wp_block ((ih hd).1 L I a w _ hs fun a1 w1 hr => ?_), fun d h => by cases h⟩
    have := hq a1 w1 hr
    cases e with
    | normal => exact this
    | exit i =>
      by_cases hi : i = id
      · subst hi
        simp only [AE.unblock, if_true, AE.exit'] at this
        simp only [AE.exit', Exit.inBlock, if_true]
        exact this
      · simp only [AE.unblock, hi, if_false, AE.exit'] at this
        simp only [AE.exit', Exit.inBlock, hi, if_false]
        exact this
    | ret => exact this
  | @loop c σ σ1 e σ2 _ _ ih1 ih2 =>
    have key : ∃ m, ∀ (L : Id → Loc) (I : Nat → Nat → Prop) (a : Act) (w : World) (Q : Exit → Act → World → Prop), SR cx n L I σ.fs a w → (∀ a' w', Reach cx n L I σ.fs w σ2.fs a' w' → Q e.exit' a' w') → Code.rounds cx.P c Q m a w := by
      obtain ⟨m, hm⟩ := (ih2 hd).2 c rfl
      refine ⟨m + 1, fun L I a w Q hs hq => ?_⟩
      rw [rounds_succ]
      refine (ih1 hd).1 L I a w _ hs fun a1 w1 hr => ?_
      obtain ⟨L1, I1, hs1, st1⟩ := hr
      exact hm L1 I1 a1 w1 Q hs1 fun a2 w2 hr2 => hq a2 w2 (hr2.trans st1)
    exact ⟨fun L I a w Q hs hq => by obtain ⟨m, h⟩ := key; exact wp_loop_rounds m (h L I a w Q hs hq), fun d h => by cases h; exact key⟩
  | @loopE c σ e σ1 _ hne ih =>
    have key : ∃ m, ∀ (L : Id → Loc) (I : Nat → Nat → Prop) (a : Act) (w : World) (Q : Exit → Act → World → Prop), SR cx n L I σ.fs a w → (∀ a' w', Reach cx n L I σ.fs w σ1.fs a' w' → Q e.exit' a' w') → Code.rounds cx.P c Q m a w := by
      refine ⟨1, fun L I a w Q hs hq => ?_⟩
      rw [rounds_succ]
      refine (ih hd).1 L I a w _ hs fun a1 w1 hr => ?_
      cases e with
      | normal => exact absurd rfl hne
      | exit id => exact hq a1 w1 hr
      | ret => exact hq a1 w1 hr
    exact ⟨fun L I a w Q hs hq => by obtain ⟨m, h⟩ := key; exact wp_loop_rounds m (h L I a w Q hs hq), fun d h => by cases h; exact key⟩
  | exit => exact ⟨fun L I a w Q hs hq => wp_exit (hq a w ⟨L, I, hs, .refl _ _ _ _⟩), fun d h => by cases h⟩
  | ret => exact ⟨fun L I a w Q hs hq => wp_ret (hq a w ⟨L, I, hs, .refl _ _ _ _⟩), fun d h => by cases h⟩
  | @weak c σ ts is e σ' hk _ ih =>
    refine ⟨fun L I a w Q hs hq => ?_, fun d h => ?_⟩
    · obtain ⟨hs1, st1⟩ := hs.keep hk
      exact (ih hd).1 L I a w Q hs1 fun a' w' hr => hq a' w' (hr.trans st1)
    · obtain ⟨m, hm⟩ := (ih hd).2 d h
      refine ⟨m, fun L I a w Q hs hq => ?_⟩
      obtain ⟨hs1, st1⟩ := hs.keep hk
      exact hm L I a w Q hs1 fun a' w' hr => hq a' w' (hr.trans st1)
  | @weakR c σ ts is e σ' _ hk ih =>
    refine ⟨fun L I a w Q hs hq => (ih hd).1 L I a w Q hs fun a' w' hr => ?_, fun d h => ?_⟩
    · obtain ⟨L1, I1, hs1, st1⟩ := hr
      obtain ⟨hs2, st2⟩ := hs1.keep hk
      exact hq a' w' ⟨L1, I1, hs2, st1.trans st2⟩
    · obtain ⟨m, hm⟩ := (ih hd).2 d h
      refine ⟨m, fun L I a w Q hs hq => hm L I a w Q hs fun a' w' hr => ?_⟩
      obtain ⟨L1, I1, hs1, st1⟩ := hr
      obtain ⟨hs2, st2⟩ := hs1.keep hk
      exact hq a' w' ⟨L1, I1, hs2, st1.trans st2⟩
  | @frzR c σ e σ' id es ver _ hk ih =>
    refine ⟨fun L I a w Q hs hq => (ih hd).1 L I a w Q hs fun a' w' hr => ?_, fun d h => ?_⟩
    · obtain ⟨L1, I1, hs1, st1⟩ := hr
      obtain ⟨L2, I2, hs2, st2⟩ := hs1.frzMap hk
      exact hq a' w' ⟨L2, I2, by rw [St.fs_setS]; exact hs2, by rw [St.fs_setS]; exact st1.trans st2⟩
    · obtain ⟨m, hm⟩ := (ih hd).2 d h
      refine ⟨m, fun L I a w Q hs hq => hm L I a w Q hs fun a' w' hr => ?_⟩
      obtain ⟨L1, I1, hs1, st1⟩ := hr
      obtain ⟨L2, I2, hs2, st2⟩ := hs1.frzMap hk
      exact hq a' w' ⟨L2, I2, by rw [St.fs_setS]; exact hs2, by rw [St.fs_setS]; exact st1.trans st2⟩
  | @frzT c σ e σ' t id off m N sz es fz _ h1 h2 h3 h4 ih =>
    refine ⟨fun L I a w Q hs hq => (ih hd).1 L I a w Q hs fun a' w' hr => ?_, fun d h => ?_⟩
    · obtain ⟨L1, I1, hs1, st1⟩ := hr
      obtain ⟨L2, I2, hs2, st2⟩ := hs1.frzTmp (t := t) h1 h2 h3 h4
      exact hq a' w' ⟨L2, I2, by rw [St.fs_setE, St.fs_setS]; exact hs2, by rw [St.fs_setE, St.fs_setS]; exact st1.trans st2⟩
    · obtain ⟨m', hm⟩ := (ih hd).2 d h
      refine ⟨m', fun L I a w Q hs hq => hm L I a w Q hs fun a' w' hr => ?_⟩
      obtain ⟨L1, I1, hs1, st1⟩ := hr
      obtain ⟨L2, I2, hs2, st2⟩ := hs1.frzTmp (t := t) h1 h2 h3 h4
      exact hq a' w' ⟨L2, I2, by rw [St.fs_setE, St.fs_setS]; exact hs2, by rw [St.fs_setE, St.fs_setS]; exact st1.trans st2⟩

end Go.Ev
end
section
/- The end of a call; the call relation tells the truth. -/
namespace Go.Ev

variable {cx : Cx} {n : Nat} {L L' : Id → Loc} {I I' : Nat → Nat → Prop} {F F' : FS} {a : Act} {w w' : World} {C : Rel}

def oneOf (xs : List Value) : Value := match xs with
  | [x] => x
  | xs => .tuple xs.toArray

theorem rdRes_ev {α : Type} (hcx : CxOk cx) (hs : SR cx n L I F a w) :
    ∀ {rs : List ResultVar} {k : List AV → RP α} {r : α} {rr : List Res}, (rdRes cx rs k).ev C F r rr →
    ∃ vs xs rr', All2 (VR L F.sh I w) vs xs ∧ (∀ g : ResultVar → Sem Value, (∀ u, g (.tmp u) = pure (a.tmps.getD u undef)) → (∀ x t, g (.cell x t) = (do loadVar t (← asAddr (a.tmps.getD x undef)))) → (rs.mapM g).run cx.P w = .ok xs w) ∧ (k vs).ev C F r rr'
  | [], k, r, rr, h => ⟨[], [], rr, .nil, fun g _ _ => by simp, h⟩
  | .tmp t :: rs, k, r, rr, h => by
    obtain ⟨rr1, _, h⟩ := h
    obtain ⟨vs, xs, rr2, h1, h2, h3⟩ := rdRes_ev hcx hs h
    exact ⟨_, _, rr2, .cons (hs.env t) h1, fun g hg hg' => by simp [List.mapM_cons, hg, h2 g hg hg'], h3⟩
  | .cell x T :: rs, k, r, rr, h => by
    unfold rdRes at h
    obtain ⟨ti, hti, h⟩ := withTy_ev h
    have ht := hcx.ty _ _ hti
    obtain ⟨rr1, _, h⟩ := h
    have hx := hs.env x
    dsimp only at h
    split at h
    · rename_i id off hid
      rw [hid] at hx
      obtain ⟨rr2, _, h⟩ := h
      dsimp only at h
      split at h
      · rename_i cs hcs
        split at h
        · rename_i v hv
          generalize hax : a.tmps.getD x undef = y at hx
          cases hx with
          | ref hsh =>
            obtain ⟨ys, e, hb, hl, hall, hI⟩ := hs.obj id _ hcs
            have hA := ((all2_cells hl hall).drop off).take ti.sz
            obtain ⟨x', hr, hvr⟩ := run_load_rel (ad := ⟨(L id).b, off, none⟩) ht hA (ofCells_len ht.one hv) (fun j y hy => by
              rw [addr_add, cell_of hb]
              simp only [List.getElem?_take, List.getElem?_drop] at hy
              split at hy
              · simpa using hy
              · cases hy) hv
            obtain ⟨vs, xs, rr3, h1, h2, h3⟩ := rdRes_ev hcx hs h
            refine ⟨_, _, rr3, .cons hvr h1, fun g hg hg' => ?_, h3⟩
            rw [List.mapM_cons, hg', hax]
            simp [asAddr, hr, h2 g hg hg']
        · exact h.elim
      · exact h.elim
    · rename_i id i j N hid
      rw [hid] at hx
      obtain ⟨rr2, _, h⟩ := h
      dsimp only at h
      split at h
      · rename_i sz es fz hes
        obtain ⟨hN, row, hrow, h⟩ := h
        dsimp only at h
        split at h
        · rename_i v hv
          generalize hax : a.tmps.getD x undef = y at hx
          cases hx with
          | @er _ _ _ _ ad sz' N0 hsh hNN ha =>
            have hs0 : F.sh id = some (.arr sz es.length) := by simp [FS.sh, hes, AO.sh]
            rw [hs0] at hsh
            cases hsh
            have had := ha hN.symm
            obtain ⟨h0, hrl, hf, ys, e, hb, hl, hfit, hall, _⟩ := hs.obj id _ hes
            have hget : ∀ (k : Nat) (d : PV), ((row.drop j).take ti.sz)[k]? = some d → row[j + k]? = some d := by
              intro k d hk
              rw [List.getElem?_take] at hk
              split at hk
              · rw [List.getElem?_drop] at hk; exact hk
              · cases hk
            obtain ⟨hA, hB⟩ := row_rel (L := L) (F := F) (row := (row.drop j).take ti.sz) (ad := ad) (vs := fun k => (ys[i * sz + j + k]?).getD undef) (fun k d hk => by
                obtain ⟨x, hx, hp⟩ := hall i (j + k) row d hrow (hget k d hk)
                rw [had, cell_of hb]
                have : i * sz + j + k = i * sz + (j + k) := by omega
                simp [this, hx]) (fun k d hk => by
                obtain ⟨x, hx, hp⟩ := hall i (j + k) row d hrow (hget k d hk)
                have : i * sz + j + k = i * sz + (j + k) := by omega
                simp only [this, hx, Option.getD_some]
                exact hp) (by rw [had])
            obtain ⟨x', hr, hvr⟩ := run_load_rel ht hA (ofCells_len ht.one hv) hB hv
            obtain ⟨vs, xs, rr3, h1, h2, h3⟩ := rdRes_ev hcx hs h
            refine ⟨_, _, rr3, .cons hvr h1, fun g hg hg' => ?_, h3⟩
            rw [List.mapM_cons, hg', hax]
            simp [asAddr, hr, h2 g hg hg']
        · exact h.elim
      · exact h.elim
    · exact h.elim

theorem eqIds_iff : ∀ {x y : List Id}, eqIds x y = true → x = y
  | [], [], _ => rfl
  | a :: r, b :: q, h => by
    simp only [eqIds, Bool.and_eq_true, idEq_iff] at h
    rw [h.1, eqIds_iff h.2]
  | [], _ :: _, h => by cases h
  | _ :: _, [], h => by cases h

theorem results_run (hcx : CxOk cx) (hs : SR cx n L I F a w) {α : Type} {fn : Func} {k : List AV → RP α} {r : α} {rr : List Res} (h : (rdRes cx fn.results.toList k).ev C F r rr) :
    ∃ vs xs rr', All2 (VR L F.sh I w) vs xs ∧ (results fn a.tmps).run cx.P w = .ok (oneOf xs) w ∧ (k vs).ev C F r rr' := by
  obtain ⟨vs, xs, rr', h1, h2, h3⟩ := rdRes_ev hcx hs h
  refine ⟨vs, xs, rr', h1, ?_, h3⟩
  unfold results
  have he : fn.results = fn.results.toList.toArray := by simp
  rw [he, List.mapM_toArray]
  simp only [Sem.run_bind, Sem.run_map]
  rw [h2]
  · cases xs with
    | nil => simp [oneOf]
    | cons x xs => cases xs with
      | nil => simp [oneOf]
      | cons y ys => simp [oneOf]
  · intro u; rfl
  · intro x t; rfl

theorem Stp.from (h : Stp L I F w L' I' F' w') {F0 : FS} (hg : F0.gs = F.gs) : Stp L I F0 w L' I' F' w' := by
  have hsh : F0.sh = F.sh := by funext i; simp [FS.sh, hg]
  exact ⟨h.os, h.tape, h.output, h.size, by rw [hg]; exact h.frame, h.sub, h.cell, by rw [hg]; exact h.new, by rw [hg]; exact h.trk, by rw [hsh]; exact h.arg⟩

theorem sim_finish (hcx : CxOk cx) {H : List AO} {L0 : Id → Loc} {I0 : Nat → Nat → Prop} {w0 : World} (hs : SR cx n L I F a w) (st : Stp L0 I0 (HS H) w0 L I F w) {f : FuncId} {fn : Func} {r : AV} {H' : List AO} {rr : List Res}
    (h : (finish cx f fn.results.toList H.length).ev C F (r, H') rr) :
    ∃ v L' I', (results fn a.tmps).run cx.P w = .ok v w ∧ HP cx L' I' H' w ∧ VR L' (HS H').sh I' w r v ∧ Stp L0 I0 (HS H) w0 L' I' (HS H') w := by
  unfold finish at h
  obtain ⟨vs, xs, rr1, hvs, hrun, h⟩ := results_run hcx hs h
  have hsn : ∃ vs' ov rr2, OvOk F ov ∧ All2 (VR L F.sh (frz L I ov) w) vs' xs ∧ (reach 40 (argIds H.length ++ idsL vs') [] ov fun objs =>
      let L := objs.map (·.1)
      RP.chk (eqIds (L.take H.length) (argIds H.length)) <|
      .ret ((match vs' with | [v] => v | vs => .tup vs).ren (inRen L), objs.map fun x => x.2.ren (inRen L))).ev C F (r, H') rr2 := by
    obtain ⟨raw, h⟩ := h
    dsimp only at h
    split at h
    · exact ⟨vs, [], _, (by intro x hx; cases hx), hvs.mono fun c y hc => hc.mono (frz_sub L I []) (fun _ _ _ => rfl) fun id _ s h => ⟨s, h, .refl _ _⟩, h⟩
    · obtain ⟨vs', ov, rs3, hok, _, hv', h⟩ := snaps_ev hs hvs h (by intro x hx; cases hx)
      exact ⟨vs', ov, rs3, hok, hv', h⟩
  clear h
  obtain ⟨vs', ov, rr2, hok, hv', h⟩ := hsn
  obtain ⟨hs1, st1⟩ := hs.freeze hok
  obtain ⟨objs, rr3, hnd, hgs, hcl, hT, _, h⟩ := reach_ev hok (argIds H.length ++ idsL vs') 40 _ [] h (by simp) (by simp) (by simp) (fun j hj => .inr hj)
  (replace h := chk_ev h); obtain ⟨hck, h⟩ := h
  have heq := eqIds_iff hck
  have hw := put_inv h
  cases hw
  obtain ⟨hp, hkey⟩ := into hs1 hnd hgs hcl
  have st2 := st.trans st1
  refine ⟨_, _, _, hrun, hp, ?_, ⟨st2.os, st2.tape, st2.output, st2.size, st2.frame, st2.sub, st2.cell, st2.new, fun id hid b hb => ?_, fun i s hi => ?_⟩⟩
  · have hv2 : VR L F.sh (frz L I ov) w (match vs' with | [v] => v | vs => .tup vs) (oneOf xs) := by
      cases hv' with
      | nil => exact .tup rfl (by simp)
      | @cons v x vs xs h1 h2 => cases h2 with
        | nil => exact h1
        | cons h3 h4 => exact .tup (by simpa using ((h4.length).symm)) fun i c y hc hy => (All2.cons h1 (.cons h3 h4)).get i c y hc (by simpa using hy)
    have hids : ∀ id ∈ (match vs' with | [v] => v | vs => AV.tup vs).ids, id ∈ idsL vs' := by
      intro id hid
      cases vs' with
      | nil => exact hid
      | cons v vs => cases vs with
        | nil => simp only [idsL, List.append_nil]; exact hid
        | cons u us => exact hid
    exact hv2.ren fun id hid s hsid => hkey id (hT id (List.mem_append.2 (.inr (hids id hid)))) s (by rw [ov_sh hok]; exact hsid)
  · obtain ⟨o, ho⟩ := Option.isSome_iff_exists.1 hid
    obtain ⟨_, h1⟩ := HS_some ho
    simp only [List.getElem?_map, Option.map_eq_some_iff] at h1
    obtain ⟨x, hx, _⟩ := h1
    have hl : inL L (objs.map (·.1)) id = L x.1 := by simp [inL, hx]
    rw [hl] at hb
    exact st2.trk x.1 (by simp [hgs x (List.mem_of_getElem? hx)]) b hb
  · obtain ⟨s1, h1, c1⟩ := st2.arg i s hi
    have hlt : i < H.length := by
      simp only [FS.sh, Option.map_eq_some_iff] at hi
      obtain ⟨o, ho, _⟩ := hi
      rw [HS_gs] at ho
      exact (List.getElem?_eq_some_iff.1 ho).1
    have hat : (objs.map (·.1))[i]? = some (0, i) := by
      have : ((objs.map (·.1)).take H.length)[i]? = some (0, i) := by rw [heq]; simp [argIds, hlt]
      rw [List.getElem?_take] at this
      simpa [hlt] using this
    have hmem := List.mem_of_getElem? hat
    obtain ⟨k1, k2⟩ := hkey (0, i) hmem s1 h1
    obtain ⟨k, e1, e2⟩ := idxOf_spec 0 hmem
    have hki := nodup_get hnd hat e2
    subst hki
    have hr : inRen (objs.map (·.1)) (0, i) = (0, i) := by simp [inRen, e1]
    rw [hr] at k1 k2
    exact ⟨s1, k1, by rw [k2]; exact c1⟩

theorem lkE_initE : ∀ (args : List AV) (m t : Nat), lkE (initE args m) t = if m ≤ t then (args[t - m]?).getD .junk else .junk
  | [], m, t => by simp [initE, lkE]
  | v :: r, m, t => by
    simp only [initE, lkE]
    cases h : m == t with
    | true => rw [beq_iff_eq] at h; subst h; simp
    | false =>
      have hne : m ≠ t := by simpa using h
      simp only [cond_false]
      rw [lkE_initE r (m + 1) t]
      by_cases h1 : m ≤ t
      · have h2 : m + 1 ≤ t := by omega
        have h3 : t - m = (t - (m + 1)) + 1 := by omega
        simp [h1, h2, h3]
      · have h2 : ¬ m + 1 ≤ t := by omega
        simp [h1, h2]

theorem lkS_initS : ∀ (H : List AO) (m : Nat) (id : Id), lkS (initS H m) id = if id.1 = 0 ∧ m ≤ id.2 then H[id.2 - m]? else none
  | [], m, id => by simp [initS, lkS]
  | o :: r, m, id => by
    simp only [initS, lkS]
    obtain ⟨i, t⟩ := id
    cases h : idEq (0, m) (i, t) with
    | true =>
      rw [idEq_iff] at h
      cases h
      simp
    | false =>
      simp only [cond_false]
      rw [lkS_initS r (m + 1)]
      by_cases hi : i = 0
      · subst hi
        have hne : m ≠ t := fun e => by rw [e, idEq_refl] at h; cases h
        by_cases h1 : m ≤ t
        · have h2 : m + 1 ≤ t := by omega
          have h3 : t - m = (t - (m + 1)) + 1 := by omega
          simp [h1, h2, h3]
        · have h2 : ¬ m + 1 ≤ t := by omega
          simp [h1, h2]
      · simp [hi]

theorem init_gs (args : List AV) (H : List AO) : (HS H).gs = (St.init args H).fs.gs := by
  funext id
  show _ = lkS (initS H 0) id
  rw [lkS_initS]
  obtain ⟨i, j⟩ := id
  simp only [HS]
  cases h : i == 0 with
  | true => rw [beq_iff_eq] at h; subst h; simp
  | false => have : i ≠ 0 := by simpa using h
             simp [this]

theorem SR.init {args : List AV} {H : List AO} {vals : Array Value} (hp : HP cx L I H w) (hv : All2 (VR L (HS H).sh I w) args vals.toList) (hn : args.length ≤ n) :
    SR cx n L I (St.init args H).fs { tmps := vals ++ Array.replicate (n - vals.size) undef, defers := [] } w := by
  have hg := init_gs args H
  have hsh : (HS H).sh = (St.init args H).fs.sh := by funext i; simp [FS.sh, hg]
  have hlen : vals.size = args.length := by have := hv.length; simpa using this.symm
  refine ⟨fun t => ?_, fun id o ho => ?_, ?_, ?_, hp.dom, fun g cs hgl => ?_, rfl, by simp; omega, hp.gi⟩
  · have he : (St.init args H).fs.ge t = (args[t]?).getD .junk := by
      show lkE (initE args 0) t = _
      rw [lkE_initE]; simp
    rw [he, ← hsh]
    cases ha : args[t]? with
    | none => exact .junk
    | some v =>
      have hlt := (List.getElem?_eq_some_iff.1 ha).1
      have hx : vals.toList[t]? = some (vals[t]'(by omega)) := by simp [show t < vals.size by omega]
      have := hv.get t v _ ha hx
      rw [Array.getD_eq_getD_getElem?, Array.getElem?_append_left (by omega), Array.getElem?_eq_getElem (by omega)]
      exact this
  · rw [← hg] at ho
    rw [← hsh]
    exact hp.obj id o ho
  · rw [← hg]; exact hp.inj
  · rw [← hg]; exact hp.ownlt
  · rw [← hsh]; exact hp.glob g cs hgl

theorem All2.mid {α β : Type} {R : α → β → Prop} {x : α} {b : List α} : ∀ {a : List α} {m : List β}, All2 R (a ++ x :: b) m → ∃ m1 y m2, m = m1 ++ y :: m2 ∧ All2 R a m1 ∧ R x y ∧ All2 R b m2
  | [], _, .cons h k => ⟨[], _, _, rfl, .nil, h, k⟩
  | _ :: _, _, .cons h k => by
    obtain ⟨m1, y, m2, rfl, g1, g2, g3⟩ := All2.mid k
    exact ⟨_ :: m1, y, m2, rfl, .cons h g1, g2, g3⟩

theorem callN_sound (hcx : CxOk cx) (hP : CallSound cx cx.prim) (hm : cx.P.follows .mixedOrders = true) : ∀ k, CallSound cx (EvCallN cx k)
  | 0 => fun f args H r H' h => h.elim
  | k + 1 => fun f args H r H' h => by
    have ih := callN_sound hcx hP hm k
    rcases h with h | ⟨a1, b1, rfl, h1, h2⟩ | ⟨fn, c, σ', e, rs, hf, hb, hd, hn, hcl, hev, he, hfin⟩
    · exact hP f args H r H' h
    · obtain ⟨hcl, s1⟩ := ih _ _ _ _ _ h1
      obtain ⟨_, s2⟩ := ih _ _ _ _ _ h2
      refine ⟨hcl, fun L I w vals hp hv => ?_⟩
      obtain ⟨x1, y, x2, hxy, g1, g2, g3⟩ := All2.mid hv
      cases g2 with
      | p hpr =>
        cases hpr with
        | nil => exact s1 L I w vals hp (by rw [hxy]; exact g1.append (.cons (.p (.s rfl)) g3))
        | sl _ _ _ _ _ _ _ _ _ => exact s2 L I w vals hp (by rw [hxy]; exact g1.append (.cons (.p .ne) g3))
    · refine ⟨hcl, fun L I w vals hp hv => ?_⟩
      refine calls_of_wp hf hb ((sim_code hcx ih hm hev hd).1 L I _ w _ (SR.init hp hv hn) fun a' w' hr => ?_)
      obtain ⟨L1, I1, hs1, st1⟩ := hr
      obtain ⟨v, L', I', h1, h2, h3, h4⟩ := sim_finish hcx hs1 (st1.from (init_gs args H)) hfin
      have hpost : bodyPost cx.P fn (fun e w' => ∃ v L' I', e = .returned v ∧ HP cx L' I' H' w' ∧ VR L' (HS H').sh I' w' r v ∧ Stp L I (HS H) w L' I' (HS H') w') .ret a' w' :=
        ⟨hs1.defers, v, h1, v, L', I', rfl, h2, h3, h4⟩
      rcases he with rfl | rfl
      · exact hpost
      · exact hpost

/-- The call relation tells the truth. -/
theorem call_sound (hcx : CxOk cx) (hP : CallSound cx cx.prim) (hm : cx.P.follows .mixedOrders = true) : CallSound cx (EvCall cx) := fun f args H r H' ⟨k, h⟩ => callN_sound hcx hP hm k f args H r H' h

end Go.Ev
end
