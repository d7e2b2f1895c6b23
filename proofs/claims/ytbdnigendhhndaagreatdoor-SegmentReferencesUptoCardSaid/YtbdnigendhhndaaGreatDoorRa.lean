/- A part of the proofs of this seat's laws (abstract interpretation of the translated program, and contracts of its functions); no statement of its own. -/
import Derived.Test.YtbdnigendhhndaaGreatDoorBc
import Derived.Test.YtbdnigendhhndaaGreatDoorFc
import Derived.Test.YtbdnigendhhndaaGreatDoorBe
set_option linter.unusedVariables false
set_option linter.unusedSimpArgs false
section
/- flagstoneref1.Add. -/
namespace Go.Proofs.YtbdnigendhhndaaGreatDoor
open Go Go.Ev
set_option maxRecDepth 100000

/-- How many stand ahead of s. -/
def cntS (s : ByteArray) : List ByteArray → Nat
  | [] => 0
  | x :: r => bif ltS x s then cntS s r + 1 else 0
def addS (s : ByteArray) : List ByteArray → List ByteArray
  | [] => [s]
  | x :: r => bif ltS x s then x :: addS s r else bif x.toList == s.toList then x :: r else s :: x :: r

theorem add_loop (l : List ByteArray) (s : ByteArray) (hl : l.length ≤ 2 ^ 62) : ∀ (suf pre : List ByteArray), l = pre ++ suf →
    EvCode cx (EvCall cx) (.loop (loopBody Tryz.f49 0)) ⟨[(0, sl (strs l)), (1, str s), (5, int pre.length)], []⟩ (.exit 0) ⟨[(0, sl (strs l)), (1, str s), (5, int (pre.length + cntS s suf : Nat))], []⟩
  | [], pre, h => by
    have hp : pre.length = l.length := by rw [h]; simp
    simp only [cntS, Nat.add_zero]
    exact EvCode.out [F, .same, .same, .same, .same, .same, .same, .same, .same] [0, 1, 5] [] (.cons (vb (by simp [strs_length, rowsE_length]; omega : decide ((↑pre.length : Int) < (↑(strs l).length : Int)) = false)) .nil) (AE.ne_exit _) (by kernel_rfl)
  | x :: r, pre, h => by
    have hlt : pre.length < l.length := by rw [h]; simp
    have hx : l[pre.length]? = some x := get_of_split h
    have ih := add_loop l s hl r (pre ++ [x]) (by simp [h])
    simp only [List.length_append, List.length_singleton] at ih
    simp only [cntS]
    cases hb : ltS x s with
    | true =>
      have hb' : Op.bytesLess x.toList s.toList = true := hb
      simp only [cond_true]
      rw [show pre.length + (cntS s r + 1) = pre.length + 1 + cntS s r by omega]
      exact EvCode.round [T, .same, .same, .same, .row ([pS x]), .same, .same, .same, .same, T, .same, .same, .v (.int .i64 ((pre.length + 1 : Nat) : Int))] [0, 1, 5] [] (.cons (vb (by simp [strs_length, rowsE_length]; omega : decide ((↑pre.length : Int) < (↑(strs l).length : Int)) = true)) (.cons (rowI_strs hx : rowI (strs l) (↑pre.length : Int) = some [pS x]) (.cons (vb hb') (.cons (natVi64 (by omega) (by omega) (by omega) : Value.int .i64 (IntKind.i64.wrap ((↑pre.length : Int) + (1 : Int))) = .int .i64 ((pre.length + 1 : Nat) : Int)) .nil)))) (by kernel_rfl) ih
    | false =>
      have hb' : Op.bytesLess x.toList s.toList = false := hb
      simp only [cond_false, Nat.add_zero]
      exact EvCode.out [T, .same, .same, .same, .row ([pS x]), .same, .same, .same, .same, F, .same, .same] [0, 1, 5] [] (.cons (vb (by simp [strs_length, rowsE_length]; omega : decide ((↑pre.length : Int) < (↑(strs l).length : Int)) = true)) (.cons (rowI_strs hx : rowI (strs l) (↑pre.length : Int) = some [pS x]) (.cons (vb hb') .nil))) (AE.ne_exit _) (by kernel_rfl)
theorem cntS_split (s : ByteArray) : ∀ l : List ByteArray, ∃ P Q, l = P ++ Q ∧ cntS s l = P.length ∧ ((Q = [] ∧ addS s l = P ++ [s]) ∨ ∃ y t, Q = y :: t ∧ ltS y s = false ∧ addS s l = bif y.toList == s.toList then l else P ++ s :: Q)
  | [] => ⟨[], [], rfl, rfl, .inl ⟨rfl, rfl⟩⟩
  | x :: r => by
    simp only [cntS, addS]
    cases hb : ltS x s with
    | false => exact ⟨[], x :: r, rfl, rfl, .inr ⟨x, r, rfl, hb, by cases x.toList == s.toList <;> rfl⟩⟩
    | true =>
      obtain ⟨P, Q, h1, h2, h3⟩ := cntS_split s r
      refine ⟨x :: P, Q, by rw [h1]; rfl, by simp [h2], ?_⟩
      simp only [cond_true]
      rcases h3 with ⟨h3, h4⟩ | ⟨y, t, h3, h4, h5⟩
      · exact .inl ⟨h3, by rw [h4]; rfl⟩
      · refine .inr ⟨y, t, h3, h4, ?_⟩
        rw [h5]
        cases y.toList == s.toList <;> rfl
theorem rows_strs (l : List ByteArray) : RowsAre 1 (strs l) := by
  intro row h
  simp only [strs, List.mem_map] at h
  obtain ⟨x, _, rfl⟩ := h
  rfl
theorem cut_l (P Q : List ByteArray) : List.drop 0 (List.take P.length (strs (P ++ Q))) = strs P := by
  rw [List.drop_zero, ← strs_length P]
  simp only [strs, List.map_append]
  rw [List.take_left]
theorem cut_r (P Q : List ByteArray) : List.drop P.length (List.take (strs (P ++ Q)).length (strs (P ++ Q))) = strs Q := by
  rw [List.take_length, ← strs_length P]
  simp only [strs, List.map_append]
  rw [List.drop_left]
theorem add49 (l : List ByteArray) (s : ByteArray) (hl : l.length ≤ 2 ^ 30) : EvCall cx 49 [sl (strs l), str s] [] (sl (strs (addS s l))) [] := by
  have hlp := add_loop l s (by omega) l [] rfl
  obtain ⟨P, Q, h1, h2, h3⟩ := cntS_split s l
  rw [h2] at hlp
  simp only [List.length_nil, Nat.zero_add] at hlp
  rcases h3 with ⟨h3, h4⟩ | ⟨y, t, h3, h4, h5⟩
  · subst h3
    rw [h4]
    rw [List.append_nil] at h1
    subst h1
    cases l with
    | nil => exact EvCall.run Tryz.f49 Tryz.func49 Tryz.call49 [.loop [0, 1, 5] [] (AE.exit 0) ({ e := [(0, AV.p (PV.sl (strs []))), (1, AV.p (PV.s (Value.string s))), (5, AV.p (PV.s (Value.int IntKind.i64 (0 : Int))))], s := [] }), .same, .same, .same, .same, .same, .same, .same, .same, .same, .same, .same, .same, .same, .same, .val, .row [.sl (List.take 1 (List.drop 0 (List.map (fun (i : Nat) => List.take ti9.sz (List.drop (i * ti9.sz) [nrm (PV.s (Value.string s))])) (List.range 1))))]] (.cons hlp (.cons (⟨(rowsAre_map fun _ => rfl), ⟨(by omega), ⟨(by omega), (by omega)⟩⟩⟩ : RowsAre 1 (strs []) ∧ (0 : Int) ≤ (0 : Int) ∧ (0 : Int) ≤ (0 : Int) ∧ (0 : Int) ≤ (0 : Int)) (.cons ((by simp [RowsAre]) : RowsAre 1 (List.drop (Int.toNat (0 : Int)) (List.take ((some (0 : Int)).getD (↑(strs []).length : Int)).toNat (strs [])))) (.cons (⟨rfl, (by omega)⟩ : 1 = 1 ∧ 1 ≤ 1) (.cons (⟨(by simp), ⟨(by omega), (by omega)⟩⟩ : List.take 1 (List.drop 0 (List.map (fun (i : Nat) => List.take ti9.sz (List.drop (i * ti9.sz) [nrm (PV.s (Value.string s))])) (List.range 1))) ≠ [] ∧ 16 ≤ 140737488355328 ∧ 1 ≤ 4611686018427387904) (.cons (⟨(rowsAre_map fun _ => rfl), ⟨(by omega), ⟨(by omega), (by omega)⟩⟩⟩ : RowsAre 1 (strs []) ∧ (0 : Int) ≤ (0 : Int) ∧ (0 : Int) ≤ (0 : Int) ∧ (0 : Int) ≤ (0 : Int)) (.cons ((by decide) : RowsAre 1 (List.drop (Int.toNat (0 : Int)) (List.take (none.getD (↑(strs []).length : Int)).toNat (strs [])))) (.cons (rfl : 1 = 1) (.cons (⟨rfl, (by omega)⟩ : 1 = 1 ∧ 1 ≤ 1) (.cons (by simp : some [PV.sl (List.take (List.take 1 (List.drop 0 (List.map (fun (i : Nat) => List.take ti9.sz (List.drop (i * ti9.sz) [nrm (PV.s (Value.string s))])) (List.range 1)))).length (List.drop 0 (List.take 1 (List.drop 0 (List.map (fun (i : Nat) => List.take ti9.sz (List.drop (i * ti9.sz) [nrm (PV.s (Value.string s))])) (List.range 1))))))] = some [PV.sl (List.take 1 (List.drop 0 (List.map (fun (i : Nat) => List.take ti9.sz (List.drop (i * ti9.sz) [nrm (PV.s (Value.string s))])) (List.range 1))))]) .nil)))))))))) (by kernel_rfl)
    | cons a u =>
      have hsl : (strs (a :: u)).length = u.length + 1 := by simp [strs]
      have hX := cut_l (a :: u) []
      rw [List.append_nil] at hX
      have hr : RowsAre 1 (List.drop 0 (List.take (a :: u).length (strs (a :: u)))) := by rw [hX]; exact rows_strs _
      have hY : List.drop (a :: u).length (List.take (strs (a :: u)).length (strs (a :: u))) = [] := by rw [List.take_length]; simp [strs]
      have hye : (List.drop (a :: u).length (List.take (strs (a :: u)).length (strs (a :: u)))).isEmpty = true := by rw [hY]; rfl
      have hyr : RowsAre 1 (List.drop (a :: u).length (List.take (strs (a :: u)).length (strs (a :: u)))) := by rw [hY]; exact fun _ h => by cases h
      have hne : List.drop 0 (List.take (a :: u).length (strs (a :: u))) ≠ [] := by rw [hX]; simp [strs]
      have hl1 : (List.drop 0 (List.take (a :: u).length (strs (a :: u)))).length ≤ 2 ^ 30 := by rw [hX, strs_length]; exact hl
      have hfin : List.take ((List.drop 0 (List.take (a :: u).length (strs (a :: u)))).length + 1) (List.drop 0 (List.drop 0 (List.take (a :: u).length (strs (a :: u))) ++ [[pS s]])) = strs (a :: u ++ [s]) := by
        rw [hX, List.drop_zero, List.take_of_length_le (by simp)]; simp [strs]
      exact EvCall.run Tryz.f49 Tryz.func49 Tryz.call49 [.loop [0, 1, 5] [] (AE.exit 0) ({ e := [(0, AV.p (PV.sl (strs (a :: u)))), (1, AV.p (PV.s (Value.string s))), (5, AV.p (PV.s (Value.int IntKind.i64 (↑(a :: u).length : Int))))], s := [] }), F, .same, .same, .same, .same, .same, .same, .same, .same, .same, .same, .same, .val, .same, .b true, .val, .row [.sl (strs (a :: u ++ [s]))]] (.cons hlp (.cons (vb (by simp; omega : decide ((↑(a :: u).length : Int) < (↑(strs (a :: u)).length : Int)) = false)) (.cons (⟨(rowsAre_map fun _ => rfl), ⟨(by omega), ⟨(by simp [strs_length, rowsE_length]; omega), (by simp_all [strs_length, rowsE_length])⟩⟩⟩ : RowsAre 1 (strs (a :: u)) ∧ (0 : Int) ≤ (0 : Int) ∧ (0 : Int) ≤ (some (↑(a :: u).length : Int)).getD (↑(strs (a :: u)).length : Int) ∧ (some (↑(a :: u).length : Int)).getD (↑(strs (a :: u)).length : Int) ≤ (↑(strs (a :: u)).length : Int)) (.cons (hr : RowsAre 1 (List.drop (Int.toNat (0 : Int)) (List.take ((some (↑(a :: u).length : Int)).getD (↑(strs (a :: u)).length : Int)).toNat (strs (a :: u))))) (.cons (⟨hne, ⟨(by simp_all [strs_length, rowsE_length]; omega), (by simp_all [strs_length, rowsE_length]; omega)⟩⟩ : List.drop (Int.toNat (0 : Int)) (List.take ((some (↑(a :: u).length : Int)).getD (↑(strs (a :: u)).length : Int)).toNat (strs (a :: u))) ≠ [] ∧ (List.drop (Int.toNat (0 : Int)) (List.take ((some (↑(a :: u).length : Int)).getD (↑(strs (a :: u)).length : Int)).toNat (strs (a :: u)))).length * 16 ≤ 140737488355328 ∧ (List.drop (Int.toNat (0 : Int)) (List.take ((some (↑(a :: u).length : Int)).getD (↑(strs (a :: u)).length : Int)).toNat (strs (a :: u)))).length ≤ 4611686018427387904) (.cons (⟨rfl, (by omega)⟩ : 1 = 1 ∧ 1 ≤ 1) (.cons (⟨rfl, ⟨rfl, ⟨rfl, ⟨rfl, ⟨(by simp), ⟨(by simp_all [strs_length, rowsE_length]; omega), (by simp_all [strs_length, rowsE_length]; omega)⟩⟩⟩⟩⟩⟩ : (List.drop (Int.toNat (0 : Int)) (List.take ((some (↑(a :: u).length : Int)).getD (↑(strs (a :: u)).length : Int)).toNat (strs (a :: u)))).length = (List.drop (Int.toNat (0 : Int)) (List.take ((some (↑(a :: u).length : Int)).getD (↑(strs (a :: u)).length : Int)).toNat (strs (a :: u)))).length ∧ 0 = 0 ∧ (List.drop (Int.toNat (0 : Int)) (List.take ((some (↑(a :: u).length : Int)).getD (↑(strs (a :: u)).length : Int)).toNat (strs (a :: u)))).length = (List.drop (Int.toNat (0 : Int)) (List.take ((some (↑(a :: u).length : Int)).getD (↑(strs (a :: u)).length : Int)).toNat (strs (a :: u)))).length ∧ 1 = 1 ∧ List.take 1 (List.drop 0 (List.map (fun (i : Nat) => List.take ti9.sz (List.drop (i * ti9.sz) [nrm (PV.s (Value.string s))])) (List.range 1))) ≠ [] ∧ ((List.drop (Int.toNat (0 : Int)) (List.take ((some (↑(a :: u).length : Int)).getD (↑(strs (a :: u)).length : Int)).toNat (strs (a :: u)))).length + 1) * 16 ≤ 140737488355328 ∧ (List.drop (Int.toNat (0 : Int)) (List.take ((some (↑(a :: u).length : Int)).getD (↑(strs (a :: u)).length : Int)).toNat (strs (a :: u)))).length + 1 ≤ 4611686018427387904) (.cons (⟨(rowsAre_map fun _ => rfl), ⟨(by omega), ⟨(by simp_all [strs_length, rowsE_length]), (by simp)⟩⟩⟩ : RowsAre 1 (strs (a :: u)) ∧ (0 : Int) ≤ (↑(a :: u).length : Int) ∧ (↑(a :: u).length : Int) ≤ none.getD (↑(strs (a :: u)).length : Int) ∧ none.getD (↑(strs (a :: u)).length : Int) ≤ (↑(strs (a :: u)).length : Int)) (.cons (hyr : RowsAre 1 (List.drop (↑(a :: u).length : Int).toNat (List.take (none.getD (↑(strs (a :: u)).length : Int)).toNat (strs (a :: u))))) (.cons hye (.cons ((by simp) : (List.drop (Int.toNat (0 : Int)) (List.take ((some (↑(a :: u).length : Int)).getD (↑(strs (a :: u)).length : Int)).toNat (strs (a :: u))) ++ List.take 1 (List.drop 0 (List.map (fun (i : Nat) => List.take ti9.sz (List.drop (i * ti9.sz) [nrm (PV.s (Value.string s))])) (List.range 1)))).length = (List.drop (Int.toNat (0 : Int)) (List.take ((some (↑(a :: u).length : Int)).getD (↑(strs (a :: u)).length : Int)).toNat (strs (a :: u)))).length + 1) (.cons (⟨(by simp), (by omega)⟩ : (List.drop (Int.toNat (0 : Int)) (List.take ((some (↑(a :: u).length : Int)).getD (↑(strs (a :: u)).length : Int)).toNat (strs (a :: u))) ++ List.take 1 (List.drop 0 (List.map (fun (i : Nat) => List.take ti9.sz (List.drop (i * ti9.sz) [nrm (PV.s (Value.string s))])) (List.range 1)))).length = (List.drop (Int.toNat (0 : Int)) (List.take ((some (↑(a :: u).length : Int)).getD (↑(strs (a :: u)).length : Int)).toNat (strs (a :: u)))).length + 1 ∧ 0 + ((List.drop (Int.toNat (0 : Int)) (List.take ((some (↑(a :: u).length : Int)).getD (↑(strs (a :: u)).length : Int)).toNat (strs (a :: u)))).length + 1) ≤ (List.drop (Int.toNat (0 : Int)) (List.take ((some (↑(a :: u).length : Int)).getD (↑(strs (a :: u)).length : Int)).toNat (strs (a :: u)))).length + 1) (.cons (congrArg (fun z => some [PV.sl z]) hfin) .nil))))))))))))) (by kernel_rfl)
  · subst h3
    have hk : P.length < l.length := by rw [h1]; simp
    have hx : l[P.length]? = some y := get_of_split h1
    rw [h5]
    cases hb : y.toList == s.toList with
    | true => 
      simp only [cond_true]
      exact EvCall.run Tryz.f49 Tryz.func49 Tryz.call49 [.loop [0, 1, 5] [] (AE.exit 0) ({ e := [(0, AV.p (PV.sl (strs l))), (1, AV.p (PV.s (Value.string s))), (5, AV.p (PV.s (Value.int IntKind.i64 (↑P.length : Int))))], s := [] }), T, .same, .same, .same, .row ([pS y]), .same, .same, .same, .same, T, .same, .same, .val] (.cons hlp (.cons (vb (by simp [strs_length, rowsE_length]; omega : decide ((↑P.length : Int) < (↑(strs l).length : Int)) = true)) (.cons (rowI_strs hx : rowI (strs l) (↑P.length : Int) = some [pS y]) (.cons (vb hb) .nil)))) (by kernel_rfl)
    | false =>
      simp only [cond_false]
      have hX := cut_l P (y :: t)
      have hY := cut_r P (y :: t)
      rw [← h1] at hX hY
      have hr2 : RowsAre 1 (List.drop P.length (List.take (strs l).length (strs l))) := by rw [hY]; exact rows_strs _
      have hn2 : (List.drop P.length (List.take (strs l).length (strs l))).isEmpty = false := by rw [hY]; rfl
      have hl2 : (List.drop P.length (List.take (strs l).length (strs l))).length ≤ 2 ^ 30 := by rw [hY, strs_length]; rw [h1] at hl; simp at hl ⊢; omega
      have hne2 : List.drop P.length (List.take (strs l).length (strs l)) ≠ [] := by rw [hY]; simp [strs]
      cases P with
      | nil =>
        have hfin : List.take (1 + (List.drop 0 (List.take (strs l).length (strs l))).length) (List.drop 0 ([[pS s]] ++ List.drop 0 (List.take (strs l).length (strs l)))) = strs ([] ++ s :: y :: t) := by
          simp only [List.length_nil] at hY
          rw [hY, List.drop_zero, List.take_of_length_le (by simp [strs]; omega)]; simp [strs]
        exact EvCall.run Tryz.f49 Tryz.func49 Tryz.call49 [.loop [0, 1, 5] [] (AE.exit 0) ({ e := [(0, AV.p (PV.sl (strs l))), (1, AV.p (PV.s (Value.string s))), (5, AV.p (PV.s (Value.int IntKind.i64 (0 : Int))))], s := [] }), T, .same, .same, .same, .row ([pS y]), .same, .same, .same, .same, F, .same, .same, .same, .same, .same, .same, .b false, .val, .val, .row [.sl (strs ([] ++ s :: y :: t))]] (.cons hlp (.cons (vb (by simp [strs_length, rowsE_length]; omega : decide ((0 : Int) < (↑(strs l).length : Int)) = true)) (.cons (rowI_strs hx : rowI (strs l) (↑0 : Int) = some [pS y]) (.cons (vb hb) (.cons (⟨(rowsAre_map fun _ => rfl), ⟨(by omega), ⟨(by omega), (by omega)⟩⟩⟩ : RowsAre 1 (strs l) ∧ (0 : Int) ≤ (0 : Int) ∧ (0 : Int) ≤ (0 : Int) ∧ (0 : Int) ≤ (↑(strs l).length : Int)) (.cons ((by simp [RowsAre]) : RowsAre 1 (List.drop (Int.toNat (0 : Int)) (List.take ((some (0 : Int)).getD (↑(strs l).length : Int)).toNat (strs l)))) (.cons (⟨rfl, (by omega)⟩ : 1 = 1 ∧ 1 ≤ 1) (.cons (⟨(by simp), ⟨(by omega), (by omega)⟩⟩ : List.take 1 (List.drop 0 (List.map (fun (i : Nat) => List.take ti9.sz (List.drop (i * ti9.sz) [nrm (PV.s (Value.string s))])) (List.range 1))) ≠ [] ∧ 16 ≤ 140737488355328 ∧ 1 ≤ 4611686018427387904) (.cons (⟨(rowsAre_map fun _ => rfl), ⟨(by omega), ⟨(by simp), (by simp)⟩⟩⟩ : RowsAre 1 (strs l) ∧ (0 : Int) ≤ (0 : Int) ∧ (0 : Int) ≤ none.getD (↑(strs l).length : Int) ∧ none.getD (↑(strs l).length : Int) ≤ (↑(strs l).length : Int)) (.cons (hr2 : RowsAre 1 (List.drop (Int.toNat (0 : Int)) (List.take (none.getD (↑(strs l).length : Int)).toNat (strs l)))) (.cons hn2 (.cons (⟨rfl, ⟨rfl, ⟨rfl, ⟨rfl, ⟨hne2, ⟨(by simp [strs_length, rowsE_length]; omega), (by simp [strs_length, rowsE_length]; omega)⟩⟩⟩⟩⟩⟩ : 1 = 1 ∧ 0 = 0 ∧ 1 = 1 ∧ 1 = 1 ∧ List.drop (Int.toNat (0 : Int)) (List.take (none.getD (↑(strs l).length : Int)).toNat (strs l)) ≠ [] ∧ (1 + (List.drop (Int.toNat (0 : Int)) (List.take (none.getD (↑(strs l).length : Int)).toNat (strs l))).length) * 16 ≤ 140737488355328 ∧ 1 + (List.drop (Int.toNat (0 : Int)) (List.take (none.getD (↑(strs l).length : Int)).toNat (strs l))).length ≤ 4611686018427387904) (.cons (⟨(by simp [strs_length, rowsE_length]; omega), (by omega)⟩ : (List.take 1 (List.drop 0 (List.map (fun (i : Nat) => List.take ti9.sz (List.drop (i * ti9.sz) [nrm (PV.s (Value.string s))])) (List.range 1))) ++ List.drop (Int.toNat (0 : Int)) (List.take (none.getD (↑(strs l).length : Int)).toNat (strs l))).length = 1 + (List.drop (Int.toNat (0 : Int)) (List.take (none.getD (↑(strs l).length : Int)).toNat (strs l))).length ∧ 0 + (1 + (List.drop (Int.toNat (0 : Int)) (List.take (none.getD (↑(strs l).length : Int)).toNat (strs l))).length) ≤ 1 + (List.drop (Int.toNat (0 : Int)) (List.take (none.getD (↑(strs l).length : Int)).toNat (strs l))).length) (.cons (congrArg (fun z => some [PV.sl z]) hfin) .nil)))))))))))))) (by kernel_rfl)
      | cons a u =>
        have hr : RowsAre 1 (List.drop 0 (List.take (a :: u).length (strs l))) := by rw [hX]; exact rows_strs _
        have hn : (List.drop 0 (List.take (a :: u).length (strs l))).isEmpty = false := by rw [hX]; rfl
        have hne : List.drop 0 (List.take (a :: u).length (strs l)) ≠ [] := by rw [hX]; simp [strs]
        have hl1 : (List.drop 0 (List.take (a :: u).length (strs l))).length ≤ 2 ^ 30 := by rw [hX, strs_length]; omega
        have hfin : List.take ((List.drop 0 (List.take (a :: u).length (strs l))).length + 1 + (List.drop (a :: u).length (List.take (strs l).length (strs l))).length) (List.drop 0 (List.drop 0 (List.take (a :: u).length (strs l)) ++ [[pS s]] ++ List.drop (a :: u).length (List.take (strs l).length (strs l)))) = strs (a :: u ++ s :: y :: t) := by
          rw [hX, hY, List.drop_zero, List.take_of_length_le (by simp [strs]; omega)]; simp [strs]
        exact EvCall.run Tryz.f49 Tryz.func49 Tryz.call49 [.loop [0, 1, 5] [] (AE.exit 0) ({ e := [(0, AV.p (PV.sl (strs l))), (1, AV.p (PV.s (Value.string s))), (5, AV.p (PV.s (Value.int IntKind.i64 (↑(a :: u).length : Int))))], s := [] }), T, .same, .same, .same, .row ([pS y]), .same, .same, .same, .same, F, .same, .same, .same, .b false, .same, .val, .same, .b false, .val, .val, .row [.sl (strs (a :: u ++ s :: y :: t))]] (.cons hlp (.cons (vb (by simp_all [strs_length, rowsE_length]; omega : decide ((↑(a :: u).length : Int) < (↑(strs l).length : Int)) = true)) (.cons (rowI_strs hx : rowI (strs l) (↑(a :: u).length : Int) = some [pS y]) (.cons (vb hb) (.cons (⟨(rowsAre_map fun _ => rfl), ⟨(by omega), ⟨(by simp [strs_length, rowsE_length]; omega), (by simp_all [strs_length, rowsE_length]; omega)⟩⟩⟩ : RowsAre 1 (strs l) ∧ (0 : Int) ≤ (0 : Int) ∧ (0 : Int) ≤ (some (↑(a :: u).length : Int)).getD (↑(strs l).length : Int) ∧ (some (↑(a :: u).length : Int)).getD (↑(strs l).length : Int) ≤ (↑(strs l).length : Int)) (.cons (hr : RowsAre 1 (List.drop (Int.toNat (0 : Int)) (List.take ((some (↑(a :: u).length : Int)).getD (↑(strs l).length : Int)).toNat (strs l)))) (.cons hn (.cons (⟨hne, ⟨(by simp [strs_length, rowsE_length]; omega), (by simp [strs_length, rowsE_length]; omega)⟩⟩ : List.drop (Int.toNat (0 : Int)) (List.take ((some (↑(a :: u).length : Int)).getD (↑(strs l).length : Int)).toNat (strs l)) ≠ [] ∧ (List.drop (Int.toNat (0 : Int)) (List.take ((some (↑(a :: u).length : Int)).getD (↑(strs l).length : Int)).toNat (strs l))).length * 16 ≤ 140737488355328 ∧ (List.drop (Int.toNat (0 : Int)) (List.take ((some (↑(a :: u).length : Int)).getD (↑(strs l).length : Int)).toNat (strs l))).length ≤ 4611686018427387904) (.cons (⟨rfl, (by omega)⟩ : 1 = 1 ∧ 1 ≤ 1) (.cons (⟨rfl, ⟨rfl, ⟨rfl, ⟨rfl, ⟨(by simp), ⟨(by simp [strs_length, rowsE_length]; omega), (by simp [strs_length, rowsE_length]; omega)⟩⟩⟩⟩⟩⟩ : (List.drop (Int.toNat (0 : Int)) (List.take ((some (↑(a :: u).length : Int)).getD (↑(strs l).length : Int)).toNat (strs l))).length = (List.drop (Int.toNat (0 : Int)) (List.take ((some (↑(a :: u).length : Int)).getD (↑(strs l).length : Int)).toNat (strs l))).length ∧ 0 = 0 ∧ (List.drop (Int.toNat (0 : Int)) (List.take ((some (↑(a :: u).length : Int)).getD (↑(strs l).length : Int)).toNat (strs l))).length = (List.drop (Int.toNat (0 : Int)) (List.take ((some (↑(a :: u).length : Int)).getD (↑(strs l).length : Int)).toNat (strs l))).length ∧ 1 = 1 ∧ List.take 1 (List.drop 0 (List.map (fun (i : Nat) => List.take ti9.sz (List.drop (i * ti9.sz) [nrm (PV.s (Value.string s))])) (List.range 1))) ≠ [] ∧ ((List.drop (Int.toNat (0 : Int)) (List.take ((some (↑(a :: u).length : Int)).getD (↑(strs l).length : Int)).toNat (strs l))).length + 1) * 16 ≤ 140737488355328 ∧ (List.drop (Int.toNat (0 : Int)) (List.take ((some (↑(a :: u).length : Int)).getD (↑(strs l).length : Int)).toNat (strs l))).length + 1 ≤ 4611686018427387904) (.cons (⟨(rowsAre_map fun _ => rfl), ⟨(by omega), ⟨(by simp_all [strs_length, rowsE_length]; omega), (by simp)⟩⟩⟩ : RowsAre 1 (strs l) ∧ (0 : Int) ≤ (↑(a :: u).length : Int) ∧ (↑(a :: u).length : Int) ≤ none.getD (↑(strs l).length : Int) ∧ none.getD (↑(strs l).length : Int) ≤ (↑(strs l).length : Int)) (.cons (hr2 : RowsAre 1 (List.drop (↑(a :: u).length : Int).toNat (List.take (none.getD (↑(strs l).length : Int)).toNat (strs l)))) (.cons hn2 (.cons (⟨(by simp), ⟨rfl, ⟨rfl, ⟨rfl, ⟨hne2, ⟨(by simp [strs_length, rowsE_length]; omega), (by simp [strs_length, rowsE_length]; omega)⟩⟩⟩⟩⟩⟩ : (List.drop (Int.toNat (0 : Int)) (List.take ((some (↑(a :: u).length : Int)).getD (↑(strs l).length : Int)).toNat (strs l)) ++ List.take 1 (List.drop 0 (List.map (fun (i : Nat) => List.take ti9.sz (List.drop (i * ti9.sz) [nrm (PV.s (Value.string s))])) (List.range 1)))).length = (List.drop (Int.toNat (0 : Int)) (List.take ((some (↑(a :: u).length : Int)).getD (↑(strs l).length : Int)).toNat (strs l))).length + 1 ∧ 0 = 0 ∧ (List.drop (Int.toNat (0 : Int)) (List.take ((some (↑(a :: u).length : Int)).getD (↑(strs l).length : Int)).toNat (strs l))).length + 1 = (List.drop (Int.toNat (0 : Int)) (List.take ((some (↑(a :: u).length : Int)).getD (↑(strs l).length : Int)).toNat (strs l))).length + 1 ∧ 1 = 1 ∧ List.drop (↑(a :: u).length : Int).toNat (List.take (none.getD (↑(strs l).length : Int)).toNat (strs l)) ≠ [] ∧ ((List.drop (Int.toNat (0 : Int)) (List.take ((some (↑(a :: u).length : Int)).getD (↑(strs l).length : Int)).toNat (strs l))).length + 1 + (List.drop (↑(a :: u).length : Int).toNat (List.take (none.getD (↑(strs l).length : Int)).toNat (strs l))).length) * 16 ≤ 140737488355328 ∧ (List.drop (Int.toNat (0 : Int)) (List.take ((some (↑(a :: u).length : Int)).getD (↑(strs l).length : Int)).toNat (strs l))).length + 1 + (List.drop (↑(a :: u).length : Int).toNat (List.take (none.getD (↑(strs l).length : Int)).toNat (strs l))).length ≤ 4611686018427387904) (.cons (⟨(by simp [strs_length, rowsE_length]; omega), (by omega)⟩ : (List.drop (Int.toNat (0 : Int)) (List.take ((some (↑(a :: u).length : Int)).getD (↑(strs l).length : Int)).toNat (strs l)) ++ List.take 1 (List.drop 0 (List.map (fun (i : Nat) => List.take ti9.sz (List.drop (i * ti9.sz) [nrm (PV.s (Value.string s))])) (List.range 1))) ++ List.drop (↑(a :: u).length : Int).toNat (List.take (none.getD (↑(strs l).length : Int)).toNat (strs l))).length = (List.drop (Int.toNat (0 : Int)) (List.take ((some (↑(a :: u).length : Int)).getD (↑(strs l).length : Int)).toNat (strs l))).length + 1 + (List.drop (↑(a :: u).length : Int).toNat (List.take (none.getD (↑(strs l).length : Int)).toNat (strs l))).length ∧ 0 + ((List.drop (Int.toNat (0 : Int)) (List.take ((some (↑(a :: u).length : Int)).getD (↑(strs l).length : Int)).toNat (strs l))).length + 1 + (List.drop (↑(a :: u).length : Int).toNat (List.take (none.getD (↑(strs l).length : Int)).toNat (strs l))).length) ≤ (List.drop (Int.toNat (0 : Int)) (List.take ((some (↑(a :: u).length : Int)).getD (↑(strs l).length : Int)).toNat (strs l))).length + 1 + (List.drop (↑(a :: u).length : Int).toNat (List.take (none.getD (↑(strs l).length : Int)).toNat (strs l))).length) (.cons (congrArg (fun z => some [PV.sl z]) hfin) .nil)))))))))))))))) (by kernel_rfl)
end Go.Proofs.YtbdnigendhhndaaGreatDoor
end
section
/- flagstoneref11.Refers. -/
namespace Go.Proofs.YtbdnigendhhndaaGreatDoor
open Go Go.Ev
set_option maxRecDepth 100000

theorem addS_len (s : ByteArray) : ∀ l : List ByteArray, (addS s l).length ≤ l.length + 1
  | [] => by simp [addS]
  | x :: r => by
    simp only [addS]
    have := addS_len s r
    cases ltS x s with
    | true => simp; omega
    | false => cases x.toList == s.toList <;> simp
mutual
def refersL : Exp → List ByteArray → List ByteArray
  | .mk o _ n _ ks, l => refersLs ks (bif o == 5 then addS n l else l)
def refersLs : List Exp → List ByteArray → List ByteArray
  | [], l => l
  | k :: r, l => refersLs r (refersL k l)
end
theorem refersL_def (e : Exp) (l : List ByteArray) : refersL e l = refersLs e.kids (bif e.op == 5 then addS e.name l else l) := by cases e; simp [refersL, Exp.kids, Exp.op, Exp.name]
mutual
theorem refersL_len : ∀ (e : Exp) (l : List ByteArray), (refersL e l).length ≤ l.length + e.nodes
  | .mk o k n vs ks, l => by
    simp only [refersL, Exp.nodes]
    have h1 := refersLs_len ks (bif o == 5 then addS n l else l)
    have h2 := addS_len n l
    cases hb : o == 5 <;> rw [hb] at h1 <;> simp only [cond_true, cond_false] at h1 ⊢ <;> omega
theorem refersLs_len : ∀ (ks : List Exp) (l : List ByteArray), (refersLs ks l).length ≤ l.length + nodesL ks
  | [], l => by simp [refersLs, nodesL]
  | k :: r, l => by
    have h1 := refersLs_len r (refersL k l)
    have h2 := refersL_len k l
    simp only [refersLs, nodesL]
    omega
end
def RAt (e : Exp) : Prop := ∀ l : List ByteArray, l.length + e.nodes ≤ 2 ^ 30 → EvCall cx 32 [sl (strs l), ag e.row] [] (sl (strs (refersL e l))) []
theorem rr_loop (e : Exp) (ks : List Exp) (hel : e.kids = ks) (hl : ks.length ≤ 2 ^ 30) (hp : ∀ k ∈ ks, RAt k) : ∀ (suf pre : List Exp) (l : List ByteArray), ks = pre ++ suf → l.length + nodesL suf ≤ 2 ^ 30 →
    EvCode cx (EvCall cx) (.loop (loopBody Tryz.f32 0)) ⟨[(0, sl (strs l)), (3, .ref (4, 0) 0), (5, int pre.length)], [((4, 0), .cells (e.row.map .p))]⟩ (.exit 0) ⟨[(0, sl (strs (refersLs suf l)))], []⟩
  | [], pre, l, h, hn => by
    have hq : pre.length = ks.length := by rw [h]; simp
    have hge : ¬ (pre.length : Int) < ((rowsE e.kids).length : Nat) := by rw [rowsE_length, hel]; omega
    simp only [refersLs]
    exact EvCode.out [F, .same] [0] [] (.cons (vb (by simp; omega : decide ((↑pre.length : Int) < (↑(rowsE e.kids).length : Int)) = false)) .nil) (AE.ne_exit _) (by kernel_rfl)
  | x :: r, pre, l, h, hn => by
    have hlt : (pre.length : Int) < ((rowsE e.kids).length : Nat) := by rw [rowsE_length, hel, h]; simp; omega
    have hlt2 : pre.length < ks.length := by rw [h]; simp
    have hrow : rowI (rowsE e.kids) (pre.length : Int) = some x.row := by
      rw [hel]
      exact rowI_rowsE (get_of_split h)
    simp only [nodesL] at hn
    have hc := hp x (by rw [h]; simp) l (by omega)
    have hrl := refersL_len x l
    have ih := rr_loop e ks hel hl hp r (pre ++ [x]) (refersL x l) (by simp [h]) (by omega)
    simp only [List.length_append, List.length_singleton] at ih
    simp only [refersLs]
    clear hp
    exact EvCode.round [T, .same, .row (x.row), .same, .val, .call (sl (strs (refersL x l))) ([]), .v (.int .i64 ((pre.length + 1 : Nat) : Int))] [0, 3, 5] [(4, 0)] (.cons (vb (by simp; omega : decide ((↑pre.length : Int) < (↑(rowsE e.kids).length : Int)) = true)) (.cons hrow (.cons hc (.cons (natVi64 (by omega) (by omega) (by omega) : Value.int .i64 (IntKind.i64.wrap ((↑pre.length : Int) + (1 : Int))) = .int .i64 ((pre.length + 1 : Nat) : Int)) .nil)))) (by kernel_rfl) ih
theorem refers32 (e : Exp) (he : e.Ok) : RAt e := by
  induction he with
  | @mk e h1 h2 h3 h4 ih =>
    intro l hl
    rw [Exp.nodes_def] at hl
    have hb := addS_len e.name l
    have ha := add49 l e.name (by omega)
    have hlp := rr_loop e e.kids rfl h3 ih e.kids [] (bif e.op == 5 then addS e.name l else l) rfl (by cases e.op == 5 <;> simp only [cond_true, cond_false] <;> omega)
    rw [refersL_def]
    simp only [List.length_nil] at hlp
    clear ih
    cases hb5 : e.op == 5 with
    | true =>
      rw [hb5] at hlp
      simp only [cond_true] at hlp ⊢
      exact EvCall.run Tryz.f32 Tryz.func32 Tryz.call32 [T, .same, .val, .call (sl (strs (addS e.name l))) ([]), .loop [0, 3, 5] [(4, 0)] (AE.exit 0) ({ e := [(0, AV.p (PV.sl (strs (refersLs e.kids (addS e.name l)))))], s := [] }), .val] (.cons (vb hb5) (.cons ha (.cons hlp .nil))) (by kernel_rfl)
    | false =>
      rw [hb5] at hlp
      simp only [cond_false] at hlp ⊢
      exact EvCall.run Tryz.f32 Tryz.func32 Tryz.call32 [F, .same, .loop [0, 3, 5] [(4, 0)] (AE.exit 0) ({ e := [(0, AV.p (PV.sl (strs (refersLs e.kids l))))], s := [] }), .val] (.cons (vb hb5) (.cons hlp .nil)) (by kernel_rfl)
theorem refers14 (e : Exp) (he : e.Ok) (hn : e.nodes ≤ 2 ^ 30) : EvCall cx 14 [ag e.row] [] (sl (strs (refersL e []))) [] := by
  have h := refers32 e he [] (by simpa using hn)
  exact EvCall.run Tryz.f14 Tryz.func14 Tryz.call14 [.val, .call (sl (strs (refersL e []))) ([]), .val] (.cons h .nil) (by kernel_rfl)
end Go.Proofs.YtbdnigendhhndaaGreatDoor
end
section
/- flagstoneref11.Keys, Edges. -/
namespace Go.Proofs.YtbdnigendhhndaaGreatDoor
open Go Go.Ev
set_option maxRecDepth 100000

theorem keysR_loop (l : List Seg) (hl : l.length ≤ 2 ^ 20) : ∀ (suf pre : List Seg) (K : List ByteArray), l = pre ++ suf → K.length = pre.length →
    EvCode cx (EvCall cx) (.loop (loopBody Tryz.f35 0)) ⟨[(0, sl (l.map Seg.row)), (3, ownV (19, 0) (strs K)), (4, int pre.length)], ownS (19, 0) 1 (strs K)⟩
      (.exit 0) ⟨[(3, ownV (19, 0) (strs (K ++ suf.map Seg.key)))], ownS (19, 0) 1 (strs (K ++ suf.map Seg.key))⟩
  | [], pre, K, h, hK => by
    have hp : pre.length = l.length := by rw [h]; simp
    simp only [List.map_nil, List.append_nil]
    cases K with
    | nil => exact EvCode.out [F, .same] [3] [] (.cons (vb (by simp; omega : decide ((↑pre.length : Int) < (↑(List.map Seg.row l).length : Int)) = false)) .nil) (AE.ne_exit _) (by kernel_rfl)
    | cons a u =>
      simp only [ownS_cons, ownV_cons]
      exact EvCode.out [F, .same] [3] [(19, 0)] (.cons (vb (by simp; omega : decide ((↑pre.length : Int) < (↑(List.map Seg.row l).length : Int)) = false)) .nil) (AE.ne_exit _) (by kernel_rfl)
  | g :: r, pre, K, h, hK => by
    have hlt : pre.length < l.length := by rw [h]; simp
    have hx : l[pre.length]? = some g := get_of_split h
    have ih := keysR_loop l hl r (pre ++ [g]) (K ++ [g.key]) (by simp [h]) (by simp [hK])
    rw [ownV_snoc, ownS_snoc] at ih
    simp only [List.length_append, List.length_singleton, List.append_assoc, List.singleton_append] at ih
    simp only [List.map_cons]
    cases K with
    | nil => exact EvCode.round [T, .same, .row (g.row), .same, .same, .v (.int .i64 ((pre.length + 1 : Nat) : Int))] [0, 3, 4] [(19, 0)] (.cons (vb (by simp; omega : decide ((↑pre.length : Int) < (↑(List.map Seg.row l).length : Int)) = true)) (.cons (rowI_at hx : rowI (List.map Seg.row l) (↑pre.length : Int) = some g.row) (.cons (⟨rfl, (by omega)⟩ : 1 = 1 ∧ 1 ≤ 1) (.cons (⟨(by simp), ⟨(by omega), (by omega)⟩⟩ : List.take 1 (List.drop 0 (List.map (fun (i : Nat) => List.take ti9.sz (List.drop (i * ti9.sz) [nrm (pS g.key)])) (List.range 1))) ≠ [] ∧ 16 ≤ 140737488355328 ∧ 1 ≤ 4611686018427387904) (.cons (natVi64 (by omega) (by omega) (by omega) : Value.int .i64 (IntKind.i64.wrap ((↑pre.length : Int) + (1 : Int))) = .int .i64 ((pre.length + 1 : Nat) : Int)) .nil))))) (by kernel_rfl) ih
    | cons a u =>
      have hsl : (strs (a :: u)).length = u.length + 1 := by simp [strs]
      simp only [List.length_cons] at hK
      simp only [ownS_cons, ownV_cons]
      exact EvCode.round [T, .same, .row (g.row), .same, .same, .val, .v (.int .i64 ((pre.length + 1 : Nat) : Int))] [0, 3, 4] [(19, 0)] (.cons (vb (by simp; omega : decide ((↑pre.length : Int) < (↑(List.map Seg.row l).length : Int)) = true)) (.cons (rowI_at hx : rowI (List.map Seg.row l) (↑pre.length : Int) = some g.row) (.cons (⟨rfl, (by omega)⟩ : 1 = 1 ∧ 1 ≤ 1) (.cons (⟨hsl, ⟨rfl, ⟨rfl, ⟨rfl, ⟨(by simp), ⟨(by omega), (by omega)⟩⟩⟩⟩⟩⟩ : (strs (a :: u)).length = u.length + 1 ∧ 0 = 0 ∧ u.length + 1 = u.length + 1 ∧ 1 = 1 ∧ List.take 1 (List.drop 0 (List.map (fun (i : Nat) => List.take ti9.sz (List.drop (i * ti9.sz) [nrm (pS g.key)])) (List.range 1))) ≠ [] ∧ (u.length + 1 + 1) * 16 ≤ 140737488355328 ∧ u.length + 1 + 1 ≤ 4611686018427387904) (.cons (natVi64 (by omega) (by omega) (by omega) : Value.int .i64 (IntKind.i64.wrap ((↑pre.length : Int) + (1 : Int))) = .int .i64 ((pre.length + 1 : Nat) : Int)) .nil))))) (by kernel_rfl) ih
theorem keys35 (l : List Seg) (hl : l.length ≤ 2 ^ 20) : EvCall cx 35 [sl (l.map Seg.row)] [] (sl (strs (l.map Seg.key))) [] := by
  have hlp := keysR_loop l hl l [] [] rfl rfl
  simp only [List.length_nil, List.nil_append] at hlp
  generalize hm : l.map Seg.key = m at *
  cases m with
  | nil => exact EvCall.run Tryz.f35 Tryz.func35 Tryz.call35 [.loop [0, 3, 4] [] (AE.exit 0) ({ e := [(3, AV.p (PV.s (Value.slice none 0 0)))], s := [] }), .val] (.cons hlp .nil) (by kernel_rfl)
  | cons a u =>
    simp only [ownS_cons, ownV_cons] at hlp
    have hsl : (strs (a :: u)).length = u.length + 1 := by simp [strs]
    have htk : List.take (u.length + 1) (List.drop 0 (strs (a :: u))) = strs (a :: u) := by
      rw [List.drop_zero, List.take_of_length_le (Nat.le_of_eq hsl)]
    exact EvCall.run Tryz.f35 Tryz.func35 Tryz.call35 [.loop [0, 3, 4] [] (AE.exit 0) ({ e := [(3, AV.ms (19, 0) 0 (u.length + 1) (u.length + 1))], s := [((19, 0), AO.arr 1 (strs (a :: u)) 0)] }), .val, .row [.sl (strs (a :: u))]] (.cons hlp (.cons (⟨hsl, (by omega)⟩ : (strs (a :: u)).length = u.length + 1 ∧ 0 + (u.length + 1) ≤ u.length + 1) (.cons (congrArg (fun z => some [PV.sl z]) htk) .nil))) (by kernel_rfl)

/-- The needs of segments, as the reference lists them. -/
def segEdgesR : List Seg → List (ByteArray × ByteArray)
  | [] => []
  | g :: r => (refersL g.when []).map (fun x => (g.key, x)) ++ segEdgesR r
theorem edgesR_inner (l : List Seg) (hl : l.length ≤ 2 ^ 20) (g : Seg) (i : Nat) (hg : l[i]? = some g) (R : List ByteArray) (hR : R.length ≤ 2 ^ 20) : ∀ (suf pre : List ByteArray) (E : List (ByteArray × ByteArray)), R = pre ++ suf → E.length + suf.length ≤ 2 ^ 30 →
    EvCode cx (EvCall cx) (.loop (loopBody Tryz.f36 1)) ⟨[(0, sl (l.map Seg.row)), (3, ownV (38, 0) (edgR' E)), (4, int i), (5, sl (strs R)), (6, int pre.length)], ownS (38, 0) 2 (edgR' E)⟩
      (.exit 2) ⟨[(0, sl (l.map Seg.row)), (3, ownV (38, 0) (edgR' (E ++ suf.map fun r => (g.key, r)))), (4, int i)], ownS (38, 0) 2 (edgR' (E ++ suf.map fun r => (g.key, r)))⟩
  | [], pre, E, h, hE => by
    have hp : pre.length = R.length := by rw [h]; simp
    simp only [List.map_nil, List.append_nil]
    cases E with
    | nil => exact EvCode.out [F, .same] [0, 3, 4] [] (.cons (vb (by simp [strs_length, rowsE_length]; omega : decide ((↑pre.length : Int) < (↑(strs R).length : Int)) = false)) .nil) (AE.ne_exit _) (by kernel_rfl)
    | cons b v =>
      simp only [ownS_consE, ownV_consE]
      exact EvCode.out [F, .same] [0, 3, 4] [(38, 0)] (.cons (vb (by simp [strs_length, rowsE_length]; omega : decide ((↑pre.length : Int) < (↑(strs R).length : Int)) = false)) .nil) (AE.ne_exit _) (by kernel_rfl)
  | x :: r, pre, E, h, hE => by
    have hil : i < l.length := (List.getElem?_eq_some_iff.1 hg).1
    have hlt : pre.length < R.length := by rw [h]; simp
    have hx : R[pre.length]? = some x := get_of_split h
    have ih := edgesR_inner l hl g i hg R hR r (pre ++ [x]) (E ++ [(g.key, x)]) (by simp [h]) (by simp at hE ⊢; omega)
    rw [ownV_snocE, ownS_snocE] at ih
    simp only [List.length_append, List.length_singleton, List.append_assoc, List.singleton_append] at ih
    simp only [List.map_cons]
    cases E with
    | nil => exact EvCode.round [T, .same, .row (g.row), .same, .row ([pS x]), .same, .same, .v (.int .i64 ((pre.length + 1 : Nat) : Int))] [0, 3, 4, 5, 6] [(38, 0)] (.cons (vb (by simp [strs_length, rowsE_length]; omega : decide ((↑pre.length : Int) < (↑(strs R).length : Int)) = true)) (.cons (rowI_at hg : rowI (List.map Seg.row l) (↑i : Int) = some g.row) (.cons (rowI_strs hx : rowI (strs R) (↑pre.length : Int) = some [pS x]) (.cons (⟨rfl, (by omega)⟩ : 1 = 1 ∧ 1 ≤ 1) (.cons (⟨(by simp), ⟨(by omega), (by omega)⟩⟩ : List.take 1 (List.drop 0 (List.map (fun (i : Nat) => List.take ti79.sz (List.drop (i * ti79.sz) [nrm (pS g.key), nrm (pS x)])) (List.range 1))) ≠ [] ∧ 32 ≤ 140737488355328 ∧ 1 ≤ 4611686018427387904) (.cons (natVi64 (by omega) (by omega) (by omega) : Value.int .i64 (IntKind.i64.wrap ((↑pre.length : Int) + (1 : Int))) = .int .i64 ((pre.length + 1 : Nat) : Int)) .nil)))))) (by kernel_rfl) ih
    | cons b v =>
      have hsl : (edgR' (b :: v)).length = v.length + 1 := by rw [edgR_length]; simp
      simp only [List.length_cons] at hE
      simp only [ownS_consE, ownV_consE] at ih ⊢
      exact EvCode.round [T, .same, .row (g.row), .same, .row ([pS x]), .same, .same, .val, .v (.int .i64 ((pre.length + 1 : Nat) : Int))] [0, 3, 4, 5, 6] [(38, 0)] (.cons (vb (by simp [strs_length, rowsE_length]; omega : decide ((↑pre.length : Int) < (↑(strs R).length : Int)) = true)) (.cons (rowI_at hg : rowI (List.map Seg.row l) (↑i : Int) = some g.row) (.cons (rowI_strs hx : rowI (strs R) (↑pre.length : Int) = some [pS x]) (.cons (⟨rfl, (by omega)⟩ : 1 = 1 ∧ 1 ≤ 1) (.cons (⟨hsl, ⟨rfl, ⟨rfl, ⟨rfl, ⟨(by simp), ⟨(by omega), (by omega)⟩⟩⟩⟩⟩⟩ : (edgR' (b :: v)).length = v.length + 1 ∧ 0 = 0 ∧ v.length + 1 = v.length + 1 ∧ 2 = 2 ∧ List.take 1 (List.drop 0 (List.map (fun (i : Nat) => List.take ti79.sz (List.drop (i * ti79.sz) [nrm (pS g.key), nrm (pS x)])) (List.range 1))) ≠ [] ∧ (v.length + 1 + 1) * 32 ≤ 140737488355328 ∧ v.length + 1 + 1 ≤ 4611686018427387904) (.cons (natVi64 (by omega) (by omega) (by omega) : Value.int .i64 (IntKind.i64.wrap ((↑pre.length : Int) + (1 : Int))) = .int .i64 ((pre.length + 1 : Nat) : Int)) .nil)))))) (by kernel_rfl) ih
theorem edgesR_outer (l : List Seg) (hl : l.length ≤ 2 ^ 20) (hok : ∀ g ∈ l, g.when.Ok ∧ g.when.nodes ≤ 2 ^ 20) (hT : (segEdgesR l).length ≤ 2 ^ 20) : ∀ (suf pre : List Seg) (E : List (ByteArray × ByteArray)), l = pre ++ suf → segEdgesR l = E ++ segEdgesR suf →
    EvCode cx (EvCall cx) (.loop (loopBody Tryz.f36 0)) ⟨[(0, sl (l.map Seg.row)), (3, ownV (38, 0) (edgR' E)), (4, int pre.length)], ownS (38, 0) 2 (edgR' E)⟩
      (.exit 0) ⟨[(3, ownV (38, 0) (edgR' (E ++ segEdgesR suf)))], ownS (38, 0) 2 (edgR' (E ++ segEdgesR suf))⟩
  | [], pre, E, h, hE => by
    have hp : pre.length = l.length := by rw [h]; simp
    simp only [segEdgesR, List.append_nil]
    cases E with
    | nil => exact EvCode.out [F, .same] [3] [] (.cons (vb (by simp; omega : decide ((↑pre.length : Int) < (↑(List.map Seg.row l).length : Int)) = false)) .nil) (AE.ne_exit _) (by kernel_rfl)
    | cons b v =>
      simp only [ownS_consE, ownV_consE]
      exact EvCode.out [F, .same] [3] [(38, 0)] (.cons (vb (by simp; omega : decide ((↑pre.length : Int) < (↑(List.map Seg.row l).length : Int)) = false)) .nil) (AE.ne_exit _) (by kernel_rfl)
  | g :: r, pre, E, h, hE => by
    have hlt : pre.length < l.length := by rw [h]; simp
    have hx : l[pre.length]? = some g := get_of_split h
    obtain ⟨hg1, hg2⟩ := hok g (by rw [h]; simp)
    have hc := refers14 g.when hg1 (by omega)
    have hrl := refersL_len g.when []
    simp only [List.length_nil] at hrl
    have hEl := congrArg List.length hE
    simp only [segEdgesR, List.length_append, List.length_map] at hEl
    have ih := edgesR_outer l hl hok hT r (pre ++ [g]) (E ++ (refersL g.when []).map fun x => (g.key, x)) (by simp [h]) (by rw [hE]; simp [segEdgesR])
    have hin := edgesR_inner l hl g pre.length hx (refersL g.when []) (by omega) (refersL g.when []) [] E rfl (by omega)
    have e2 : E ++ (refersL g.when []).map (fun x => (g.key, x)) ++ segEdgesR r = E ++ segEdgesR (g :: r) := by simp [segEdgesR]
    rw [e2] at ih
    simp only [List.length_append, List.length_singleton, List.length_nil] at ih hin
    generalize hE2 : E ++ (refersL g.when []).map (fun x => (g.key, x)) = E2 at *
    cases E with
    | nil =>
      cases E2 with
      | nil => exact EvCode.round [T, .same, .row (g.row), .same, .val, .call (sl (strs (refersL g.when []))) ([]), .loop [0, 3, 4, 5, 6] [] (AE.exit 2) ({ e := [(0, AV.p (PV.sl (List.map Seg.row l))), (3, AV.p (PV.s (Value.slice none 0 0))), (4, AV.p (PV.s (Value.int IntKind.i64 (↑pre.length : Int))))], s := [] }), .v (.int .i64 ((pre.length + 1 : Nat) : Int))] [0, 3, 4] [] (.cons (vb (by simp; omega : decide ((↑pre.length : Int) < (↑(List.map Seg.row l).length : Int)) = true)) (.cons (rowI_at hx : rowI (List.map Seg.row l) (↑pre.length : Int) = some g.row) (.cons hc (.cons hin (.cons (natVi64 (by omega) (by omega) (by omega) : Value.int .i64 (IntKind.i64.wrap ((↑pre.length : Int) + (1 : Int))) = .int .i64 ((pre.length + 1 : Nat) : Int)) .nil))))) (by kernel_rfl) ih
      | cons c w =>
        simp only [ownS_consE, ownV_consE] at hin ih
        exact EvCode.round [T, .same, .row (g.row), .same, .val, .call (sl (strs (refersL g.when []))) ([]), .loop [0, 3, 4, 5, 6] [] (AE.exit 2) ({ e := [(0, AV.p (PV.sl (List.map Seg.row l))), (3, AV.ms (38, 0) 0 (w.length + 1) (w.length + 1)), (4, AV.p (PV.s (Value.int IntKind.i64 (↑pre.length : Int))))], s := [((38, 0), AO.arr 2 (edgR' (c :: w)) 0)] }), .v (.int .i64 ((pre.length + 1 : Nat) : Int))] [0, 3, 4] [(38, 0)] (.cons (vb (by simp; omega : decide ((↑pre.length : Int) < (↑(List.map Seg.row l).length : Int)) = true)) (.cons (rowI_at hx : rowI (List.map Seg.row l) (↑pre.length : Int) = some g.row) (.cons hc (.cons hin (.cons (natVi64 (by omega) (by omega) (by omega) : Value.int .i64 (IntKind.i64.wrap ((↑pre.length : Int) + (1 : Int))) = .int .i64 ((pre.length + 1 : Nat) : Int)) .nil))))) (by kernel_rfl) ih
    | cons b v =>
      cases E2 with
      | nil => simp at hE2
      | cons c w =>
        simp only [ownS_consE, ownV_consE] at hin ih ⊢
        exact EvCode.round [T, .same, .row (g.row), .same, .val, .call (sl (strs (refersL g.when []))) ([]), .loop [0, 3, 4, 5, 6] [(38, 0)] (AE.exit 2) ({ e := [(0, AV.p (PV.sl (List.map Seg.row l))), (3, AV.ms (38, 0) 0 (w.length + 1) (w.length + 1)), (4, AV.p (PV.s (Value.int IntKind.i64 (↑pre.length : Int))))], s := [((38, 0), AO.arr 2 (edgR' (c :: w)) 0)] }), .v (.int .i64 ((pre.length + 1 : Nat) : Int))] [0, 3, 4] [(38, 0)] (.cons (vb (by simp; omega : decide ((↑pre.length : Int) < (↑(List.map Seg.row l).length : Int)) = true)) (.cons (rowI_at hx : rowI (List.map Seg.row l) (↑pre.length : Int) = some g.row) (.cons hc (.cons hin (.cons (natVi64 (by omega) (by omega) (by omega) : Value.int .i64 (IntKind.i64.wrap ((↑pre.length : Int) + (1 : Int))) = .int .i64 ((pre.length + 1 : Nat) : Int)) .nil))))) (by kernel_rfl) ih
theorem edges36 (l : List Seg) (hl : l.length ≤ 2 ^ 20) (hok : ∀ g ∈ l, g.when.Ok ∧ g.when.nodes ≤ 2 ^ 20) (hT : (segEdgesR l).length ≤ 2 ^ 20) :
    EvCall cx 36 [sl (l.map Seg.row)] [] (sl ((segEdgesR l).map edgR)) [] := by
  have hlp := edgesR_outer l hl hok hT l [] [] rfl rfl
  simp only [List.length_nil, List.nil_append] at hlp
  generalize hm : segEdgesR l = m at *
  cases m with
  | nil => exact EvCall.run Tryz.f36 Tryz.func36 Tryz.call36 [.loop [0, 3, 4] [] (AE.exit 0) ({ e := [(3, AV.p (PV.s (Value.slice none 0 0)))], s := [] }), .val] (.cons hlp .nil) (by kernel_rfl)
  | cons c w =>
    simp only [ownS_consE, ownV_consE] at hlp
    have htk2 : List.take (w.length + 1) (List.drop 0 (edgR' (c :: w))) = List.map edgR (c :: w) := by
      rw [List.drop_zero, List.take_of_length_le (by simp [edgR'])]; rfl
    have hsl2 : (edgR' (c :: w)).length = w.length + 1 := by rw [edgR_length]; simp
    exact EvCall.run Tryz.f36 Tryz.func36 Tryz.call36 [.loop [0, 3, 4] [] (AE.exit 0) ({ e := [(3, AV.ms (38, 0) 0 (w.length + 1) (w.length + 1))], s := [((38, 0), AO.arr 2 (edgR' (c :: w)) 0)] }), .val, .row [.sl (List.map edgR (c :: w))]] (.cons hlp (.cons (⟨hsl2, (by omega)⟩ : (edgR' (c :: w)).length = w.length + 1 ∧ 0 + (w.length + 1) ≤ w.length + 1) (.cons (congrArg (fun z => some [PV.sl z]) htk2) .nil))) (by kernel_rfl)
end Go.Proofs.YtbdnigendhhndaaGreatDoor
end
section
/- The references of a condition: both ways list the same. -/
namespace Go.Proofs.YtbdnigendhhndaaGreatDoor
open Go Go.Ev
set_option maxRecDepth 100000

def ltB (a b : ByteArray) : Prop := dB a < dB b
theorem ltB_of (a b : ByteArray) : ltS a b = true ↔ ltB a b := by rw [ltS_iff]; simp [ltB]
theorem ltB_trans {a b c : ByteArray} (h : ltB a b) (h2 : ltB b c) : ltB a c := List.lt_trans h h2
theorem ltB_irrefl (a : ByteArray) : ¬ ltB a a := List.lt_irrefl _
theorem ltB_of_le_ne {a b : ByteArray} (h : leS a b) (hne : a ≠ b) : ltB a b := by
  rcases Decidable.em (dB a < dB b) with h2 | h2
  · exact h2
  · exact absurd (leS_anti h (List.not_lt.1 h2)) hne
theorem beqS {a b : ByteArray} : (a.toList == b.toList) = true ↔ a = b := by
  rw [toList_dB, toList_dB, beq_iff_eq]
  exact ⟨dB_inj, fun h => by rw [h]⟩
theorem beqS_f {a b : ByteArray} : (a.toList == b.toList) = false ↔ a ≠ b := by
  rw [Ne, ← beqS]
  cases a.toList == b.toList <;> simp
/-- Strictly ascending lists with the same members are one. -/
theorem strict_ext : ∀ {l m : List ByteArray}, l.Pairwise ltB → m.Pairwise ltB → (∀ z, z ∈ l ↔ z ∈ m) → l = m
  | [], [], _, _, _ => rfl
  | [], y :: m, _, _, h => by have := (h y).2 (by simp); cases this
  | x :: l, [], _, _, h => by have := (h x).1 (by simp); cases this
  | x :: l, y :: m, hl, hm, h => by
    obtain ⟨h1, h2⟩ := List.pairwise_cons.1 hl
    obtain ⟨g1, g2⟩ := List.pairwise_cons.1 hm
    have hxy : x = y := by
      rcases List.mem_cons.1 ((h x).1 (by simp)) with e | e
      · exact e
      · rcases List.mem_cons.1 ((h y).2 (by simp)) with e2 | e2
        · exact e2.symm
        · exact absurd (ltB_trans (h1 y e2) (g1 x e)) (ltB_irrefl x)
    subst hxy
    have : l = m := strict_ext h2 g2 fun z => by
      constructor
      · intro hz
        rcases List.mem_cons.1 ((h z).1 (List.mem_cons_of_mem _ hz)) with e | e
        · subst e; exact absurd (h1 z hz) (ltB_irrefl z)
        · exact e
      · intro hz
        rcases List.mem_cons.1 ((h z).2 (List.mem_cons_of_mem _ hz)) with e | e
        · subst e; exact absurd (g1 z hz) (ltB_irrefl z)
        · exact e
    rw [this]
theorem addS_mem (s z : ByteArray) : ∀ l : List ByteArray, z ∈ addS s l ↔ z ∈ l ∨ z = s
  | [] => by simp [addS]
  | x :: r => by
    have ih := addS_mem s z r
    simp only [addS]
    cases ltS x s with
    | true => simp only [cond_true, List.mem_cons, ih]; grind
    | false =>
      cases hb : x.toList == s.toList with
      | true =>
        have := beqS.1 hb
        subst this
        simp only [cond_true, cond_false, List.mem_cons]
        grind
      | false => simp only [cond_false, List.mem_cons]; grind
theorem addS_sorted (s : ByteArray) : ∀ {l : List ByteArray}, l.Pairwise ltB → (addS s l).Pairwise ltB
  | [], _ => by simp [addS]
  | x :: r, h => by
    obtain ⟨h1, h2⟩ := List.pairwise_cons.1 h
    simp only [addS]
    cases hb : ltS x s with
    | true =>
      simp only [cond_true]
      refine List.pairwise_cons.2 ⟨fun z hz => ?_, addS_sorted s h2⟩
      rcases (addS_mem s z r).1 hz with e | e
      · exact h1 z e
      · subst e; exact (ltB_of _ _).1 hb
    | false =>
      cases hc : x.toList == s.toList with
      | true => exact h
      | false =>
        simp only [cond_false]
        have hsx : ltB s x := ltB_of_le_ne (leS_of_nlt hb) (fun e => by rw [e] at hc; simp at hc)
        refine List.pairwise_cons.2 ⟨fun z hz => ?_, h⟩
        rcases List.mem_cons.1 hz with e | e
        · subst e; exact hsx
        · exact ltB_trans hsx (h1 z e)

mutual
def names5 : Exp → List ByteArray
  | .mk o _ n _ ks => (bif o == 5 then [n] else []) ++ names5s ks
def names5s : List Exp → List ByteArray
  | [] => []
  | k :: r => names5 k ++ names5s r
end
mutual
theorem refersL_mem (z : ByteArray) : ∀ (e : Exp) (l : List ByteArray), z ∈ refersL e l ↔ z ∈ l ∨ z ∈ names5 e
  | .mk o k n vs ks, l => by
    simp only [refersL, names5]
    rw [refersLs_mem z ks]
    cases o == 5 with
    | true => simp only [cond_true, addS_mem, List.mem_append, List.mem_singleton]; grind
    | false => simp
theorem refersLs_mem (z : ByteArray) : ∀ (ks : List Exp) (l : List ByteArray), z ∈ refersLs ks l ↔ z ∈ l ∨ z ∈ names5s ks
  | [], l => by simp [refersLs, names5s]
  | k :: r, l => by
    simp only [refersLs, names5s]
    rw [refersLs_mem z r, refersL_mem z k, List.mem_append]
    grind
end
mutual
theorem refersL_sorted : ∀ (e : Exp) {l : List ByteArray}, l.Pairwise ltB → (refersL e l).Pairwise ltB
  | .mk o k n vs ks, l, h => by
    simp only [refersL]
    refine refersLs_sorted ks ?_
    cases o == 5 with
    | true => exact addS_sorted n h
    | false => exact h
theorem refersLs_sorted : ∀ (ks : List Exp) {l : List ByteArray}, l.Pairwise ltB → (refersLs ks l).Pairwise ltB
  | [], l, h => by simpa [refersLs] using h
  | k :: r, l, h => by simp only [refersLs]; exact refersLs_sorted r (refersL_sorted k h)
end
/-- The names that a list of conditions refers to. -/
def Ref5 (l : List Exp) (z : ByteArray) : Prop := ∃ a ∈ l, a.op = 5 ∧ a.name = z
theorem addAtom_ref (e : Exp) (l : List Exp) (z : ByteArray) : Ref5 (addAtom e l) z ↔ Ref5 l z ∨ (e.op = 5 ∧ e.name = z) := by
  unfold addAtom
  cases hw : wants e.op && !(l.any fun x => eqE x e) with
  | true =>
    simp only [cond_true, Ref5]
    grind
  | false =>
    simp only [cond_false]
    refine ⟨.inl, fun h => h.elim id fun ⟨h5, hz⟩ => ?_⟩
    have hw5 : wants e.op = true := by rw [h5]; rfl
    rw [hw5, Bool.true_and] at hw
    have hany : (l.any fun x => eqE x e) = true := by simpa using hw
    obtain ⟨x, hx, he⟩ := List.any_eq_true.1 hany
    rw [eqE_def] at he
    simp only [Bool.and_eq_true] at he
    obtain ⟨e1, _, e3, _⟩ := he
    have e1 : x.op = e.op := by simpa using e1
    have e3 : x.name = e.name := beqS.1 e3
    exact ⟨x, hx, by rw [e1, h5], by rw [e3, hz]⟩
mutual
theorem atomsL_ref (z : ByteArray) : ∀ (e : Exp) (l : List Exp), Ref5 (atomsL e l) z ↔ Ref5 l z ∨ z ∈ names5 e
  | .mk o k n vs ks, l => by
    simp only [atomsL, names5]
    rw [atomsLs_ref z ks, addAtom_ref]
    simp only [Exp.op, Exp.name, List.mem_append]
    cases ho : o == 5 with
    | true =>
      have : o = 5 := by simpa using ho
      simp only [this, cond_true, List.mem_singleton, true_and]
      grind
    | false =>
      have : o ≠ 5 := by simpa using ho
      simp [this]
theorem atomsLs_ref (z : ByteArray) : ∀ (ks : List Exp) (l : List Exp), Ref5 (atomsLs ks l) z ↔ Ref5 l z ∨ z ∈ names5s ks
  | [], l => by simp [atomsLs, names5s]
  | k :: r, l => by
    simp only [atomsLs, names5s]
    rw [atomsLs_ref z r, atomsL_ref z k, List.mem_append]
    grind
end
theorem refsOf_mem (e : Exp) (z : ByteArray) : z ∈ refsOf e ↔ z ∈ names5 e := by
  have h := atomsL_ref z e []
  have h0 : ¬ Ref5 [] z := fun ⟨a, ha, _⟩ => by cases ha
  simp only [h0, false_or] at h
  rw [← h]
  unfold refsOf refsIn Ref5
  simp only [List.mem_map, List.mem_filter, beq_iff_eq]
  grind
theorem dedup_mem (z : ByteArray) : ∀ (r : List ByteArray) (y : ByteArray), z ∈ y :: dedup y r ↔ z ∈ y :: r
  | [], y => by simp [dedup]
  | x :: r, y => by
    simp only [dedup]
    have ih := dedup_mem z r x
    cases hb : x.toList == y.toList with
    | true =>
      have := beqS.1 hb
      subst this
      simp only [cond_true, List.mem_cons] at ih ⊢
      grind
    | false =>
      simp only [cond_false, List.mem_cons] at ih ⊢
      grind
theorem compactS_mem (l : List ByteArray) (z : ByteArray) : z ∈ compactS l ↔ z ∈ l := by
  cases l with
  | nil => simp [compactS]
  | cons x r => simp only [compactS]; exact dedup_mem z r x
theorem dedup_sorted : ∀ (r : List ByteArray) (y : ByteArray), (y :: r).Pairwise leS → (y :: dedup y r).Pairwise ltB
  | [], y, _ => by simp [dedup]
  | x :: r, y, h => by
    obtain ⟨h1, h2⟩ := List.pairwise_cons.1 h
    have ih := dedup_sorted r x h2
    simp only [dedup]
    cases hb : x.toList == y.toList with
    | true =>
      have := beqS.1 hb
      subst this
      exact ih
    | false =>
      have hyx : ltB y x := ltB_of_le_ne (h1 x (by simp)) fun e => by rw [e] at hb; simp at hb
      refine List.pairwise_cons.2 ⟨fun z hz => ?_, ih⟩
      rcases List.mem_cons.1 hz with e | e
      · subst e; exact hyx
      · exact ltB_trans hyx ((List.pairwise_cons.1 ih).1 z e)
theorem compactS_sorted {l : List ByteArray} (h : l.Pairwise leS) : (compactS l).Pairwise ltB := by
  cases l with
  | nil => exact .nil
  | cons x r => exact dedup_sorted r x h
/-- Both ways list the same references. -/
theorem refers_same (e : Exp) : refersS e = refersL e [] := by
  refine strict_ext (compactS_sorted (isort_sorted _)) (refersL_sorted e .nil) fun z => ?_
  unfold refersS
  rw [compactS_mem, (isort_perm _).mem_iff, refsOf_mem, refersL_mem]
  simp
end Go.Proofs.YtbdnigendhhndaaGreatDoor
end
section
/- flagstoneref9.Order. -/
namespace Go.Proofs.YtbdnigendhhndaaGreatDoor
open Go Go.Ev
set_option maxRecDepth 100000

def lacks (o : List ByteArray) (n : ByteArray) (e : ByteArray × ByteArray) : Bool := (e.1.toList == n.toList) && !hasS o e.2
def readyR (o : List ByteArray) (E : List (ByteArray × ByteArray)) (n : ByteArray) : Bool := !(E.any (lacks o n)) && !hasS o n
def rdyOut (o : List ByteArray) (n : ByteArray) (b : Bool) : AE × St := bif b then (.ret, ⟨[(6, bool false)], []⟩) else (.exit 0, ⟨[(0, sl (strs o)), (2, str n)], []⟩)

theorem ready_loop (o : List ByteArray) (ho : o.length ≤ 2 ^ 62) (n : ByteArray) (E : List (ByteArray × ByteArray)) (hE : E.length ≤ 2 ^ 62) : ∀ (suf pre : List (ByteArray × ByteArray)), E = pre ++ suf →
    EvCode cx (EvCall cx) (.loop (loopBody Tryz.f67 0)) ⟨[(0, sl (strs o)), (1, sl (E.map edgR)), (2, str n), (7, int pre.length)], []⟩ (rdyOut o n (suf.any (lacks o n))).1 (rdyOut o n (suf.any (lacks o n))).2
  | [], pre, h => by
    have hp : pre.length = E.length := by rw [h]; simp
    simp only [List.any_nil, rdyOut, cond_false]
    exact EvCode.out [F, .same] [0, 2] [] (.cons (vb (by simp; omega : decide ((↑pre.length : Int) < (↑(List.map edgR E).length : Int)) = false)) .nil) (AE.ne_exit _) (by kernel_rfl)
  | e :: r, pre, h => by
    have hlt : pre.length < E.length := by rw [h]; simp
    have hx : E[pre.length]? = some e := get_of_split h
    have hc := hasR o e.2 ho
    have ih := ready_loop o ho n E hE r (pre ++ [e]) (by simp [h])
    simp only [List.length_append, List.length_singleton] at ih
    simp only [List.any_cons]
    have hl : lacks o n e = ((e.1.toList == n.toList) && !hasS o e.2) := rfl
    rw [hl]
    cases b1 : e.1.toList == n.toList with
    | false =>
      simp only [Bool.false_and, Bool.false_or]
      generalize rdyOut o n (r.any (lacks o n)) = out at *
      exact EvCode.round [T, .same, .row (edgR e), .same, F, .same, .same, .same, .same, .same, .same, .same, .same, .same, .same, .v (.int .i64 ((pre.length + 1 : Nat) : Int))] [0, 1, 2, 7] [] (.cons (vb (by simp; omega : decide ((↑pre.length : Int) < (↑(List.map edgR E).length : Int)) = true)) (.cons (rowI_at hx : rowI (List.map edgR E) (↑pre.length : Int) = some (edgR e)) (.cons (vb b1) (.cons (natVi64 (by omega) (by omega) (by omega) : Value.int .i64 (IntKind.i64.wrap ((↑pre.length : Int) + (1 : Int))) = .int .i64 ((pre.length + 1 : Nat) : Int)) .nil)))) (by kernel_rfl) ih
    | true =>
      cases b2 : hasS o e.2 with
      | true =>
        rw [b2] at hc
        simp only [Bool.not_true, Bool.and_false, Bool.false_or]
        generalize rdyOut o n (r.any (lacks o n)) = out at *
        exact EvCode.round [T, .same, .row (edgR e), .same, T, .same, .same, .same, .same, .row (edgR e), .same, .same, .same, .same, .val, .call (Ev.bool true) ([]), .same, .same, .same, .same, .v (.int .i64 ((pre.length + 1 : Nat) : Int))] [0, 1, 2, 7] [] (.cons (vb (by simp; omega : decide ((↑pre.length : Int) < (↑(List.map edgR E).length : Int)) = true)) (.cons (rowI_at hx : rowI (List.map edgR E) (↑pre.length : Int) = some (edgR e)) (.cons (vb b1) (.cons (rowI_at hx : rowI (List.map edgR E) (↑pre.length : Int) = some (edgR e)) (.cons hc (.cons (natVi64 (by omega) (by omega) (by omega) : Value.int .i64 (IntKind.i64.wrap ((↑pre.length : Int) + (1 : Int))) = .int .i64 ((pre.length + 1 : Nat) : Int)) .nil)))))) (by kernel_rfl) ih
      | false =>
        rw [b2] at hc
        simp only [Bool.not_false, Bool.and_true, Bool.true_or, rdyOut, cond_true]
        exact EvCode.out [T, .same, .row (edgR e), .same, T, .same, .same, .same, .same, .row (edgR e), .same, .same, .same, .same, .val, .call (Ev.bool false) ([]), .same, .same, .same, .same] [6] [] (.cons (vb (by simp; omega : decide ((↑pre.length : Int) < (↑(List.map edgR E).length : Int)) = true)) (.cons (rowI_at hx : rowI (List.map edgR E) (↑pre.length : Int) = some (edgR e)) (.cons (vb b1) (.cons (rowI_at hx : rowI (List.map edgR E) (↑pre.length : Int) = some (edgR e)) (.cons hc .nil))))) AE.ne_ret (by kernel_rfl)
theorem ready67 (o : List ByteArray) (ho : o.length ≤ 2 ^ 62) (n : ByteArray) (E : List (ByteArray × ByteArray)) (hE : E.length ≤ 2 ^ 62) : EvCall cx 67 [sl (strs o), sl (E.map edgR), str n] [] (bool (readyR o E n)) [] := by
  have h := ready_loop o ho n E hE E [] rfl
  have hc := hasR o n ho
  unfold readyR
  cases hb : E.any (lacks o n) with
  | true =>
    rw [hb] at h
    exact EvCall.run Tryz.f67 Tryz.func67 Tryz.call67 [.loop [0, 1, 2, 7] [] (AE.ret) ({ e := [(6, AV.p (PV.s (Value.bool false)))], s := [] }), .val] (.cons h .nil) (by kernel_rfl)
  | false =>
    rw [hb] at h
    cases hb2 : hasS o n with
    | true =>
      rw [hb2] at hc
      exact EvCall.run Tryz.f67 Tryz.func67 Tryz.call67 [.loop [0, 1, 2, 7] [] (AE.exit 0) ({ e := [(0, AV.p (PV.sl (strs o))), (2, AV.p (PV.s (Value.string n)))], s := [] }), .val, .call (Ev.bool true) ([]), .same, .val] (.cons h (.cons hc .nil)) (by kernel_rfl)
    | false =>
      rw [hb2] at hc
      exact EvCall.run Tryz.f67 Tryz.func67 Tryz.call67 [.loop [0, 1, 2, 7] [] (AE.exit 0) ({ e := [(0, AV.p (PV.sl (strs o))), (2, AV.p (PV.s (Value.string n)))], s := [] }), .val, .call (Ev.bool false) ([]), .same, .val] (.cons h (.cons hc .nil)) (by kernel_rfl)

/- The least of what is ready. -/
def stepL (o : List ByteArray) (E : List (ByteArray × ByteArray)) (a : ByteArray × Bool) (n : ByteArray) : ByteArray × Bool := bif readyR o E n && (!a.2 || ltS n a.1) then (n, true) else a
def ordV (o : List ByteArray) : AV := match o with
  | [] => .p (.s nilS)
  | x :: r => sl (strs (x :: r))
theorem least_loop (ns : List ByteArray) (hn : ns.length ≤ 2 ^ 30) (o : List ByteArray) (ho : o.length ≤ 2 ^ 62) (E : List (ByteArray × ByteArray)) (hE : E.length ≤ 2 ^ 62) : ∀ (suf pre : List ByteArray) (a : ByteArray × Bool), ns = pre ++ suf →
    EvCode cx (EvCall cx) (.loop (loopBody Tryz.f34 3)) ⟨[(0, sl (strs ns)), (1, sl (E.map edgR)), (8, ordV o), (9, str a.1), (10, bool a.2), (11, int pre.length)], []⟩
      (.exit 6) ⟨[(0, sl (strs ns)), (1, sl (E.map edgR)), (8, ordV o), (9, str (suf.foldl (stepL o E) a).1), (10, bool (suf.foldl (stepL o E) a).2)], []⟩
  | [], pre, a, h => by
    have hp : pre.length = ns.length := by rw [h]; simp
    simp only [List.foldl_nil]
    cases o with
    | nil => exact EvCode.out [F, .same] [0, 1, 8, 9, 10] [] (.cons (vb (by simp [strs_length, rowsE_length]; omega : decide ((↑pre.length : Int) < (↑(strs ns).length : Int)) = false)) .nil) (AE.ne_exit _) (by kernel_rfl)
    | cons y t =>
      simp only [ordV]
      exact EvCode.out [F, .same] [0, 1, 8, 9, 10] [] (.cons (vb (by simp [strs_length, rowsE_length]; omega : decide ((↑pre.length : Int) < (↑(strs ns).length : Int)) = false)) .nil) (AE.ne_exit _) (by kernel_rfl)
  | n :: r, pre, (x, b), h => by
    have hlt : pre.length < ns.length := by rw [h]; simp
    have hx : ns[pre.length]? = some n := get_of_split h
    have hc := ready67 o ho n E hE
    have ih := least_loop ns hn o ho E hE r (pre ++ [n]) (stepL o E (x, b) n) (by simp [h])
    simp only [List.length_append, List.length_singleton] at ih
    simp only [List.foldl_cons]
    generalize (r.foldl (stepL o E) (stepL o E (x, b) n)) = out at *
    unfold stepL at ih
    cases hr : readyR o E n with
    | false =>
      rw [hr] at hc ih
      simp only [Bool.false_and, cond_false] at ih
      cases o with
      | nil => exact EvCode.round [T, .same, .row ([pS n]), .same, .val, .call (Ev.bool false) ([]), .same, .same, .same, .same, .same, .same, .v (.int .i64 ((pre.length + 1 : Nat) : Int))] [0, 1, 8, 9, 10, 11] [] (.cons (vb (by simp [strs_length, rowsE_length]; omega : decide ((↑pre.length : Int) < (↑(strs ns).length : Int)) = true)) (.cons (rowI_strs hx : rowI (strs ns) (↑pre.length : Int) = some [pS n]) (.cons hc (.cons (natVi64 (by omega) (by omega) (by omega) : Value.int .i64 (IntKind.i64.wrap ((↑pre.length : Int) + (1 : Int))) = .int .i64 ((pre.length + 1 : Nat) : Int)) .nil)))) (by kernel_rfl) ih
      | cons y t =>
        simp only [ordV] at ih ⊢
        exact EvCode.round [T, .same, .row ([pS n]), .same, .val, .call (Ev.bool false) ([]), .same, .same, .same, .same, .same, .same, .v (.int .i64 ((pre.length + 1 : Nat) : Int))] [0, 1, 8, 9, 10, 11] [] (.cons (vb (by simp [strs_length, rowsE_length]; omega : decide ((↑pre.length : Int) < (↑(strs ns).length : Int)) = true)) (.cons (rowI_strs hx : rowI (strs ns) (↑pre.length : Int) = some [pS n]) (.cons hc (.cons (natVi64 (by omega) (by omega) (by omega) : Value.int .i64 (IntKind.i64.wrap ((↑pre.length : Int) + (1 : Int))) = .int .i64 ((pre.length + 1 : Nat) : Int)) .nil)))) (by kernel_rfl) ih
    | true =>
      rw [hr] at hc ih
      cases b with
      | false =>
        simp only [Bool.not_false, Bool.true_or, Bool.true_and, cond_true] at ih
        cases o with
        | nil => exact EvCode.round [T, .same, .row ([pS n]), .same, .val, .call (Ev.bool true) ([]), .same, .same, .same, .same, .same, .same, .same, .same, .same, .same, .same, .same, .same, .same, .row ([pS n]), .same, .v (.int .i64 ((pre.length + 1 : Nat) : Int))] [0, 1, 8, 9, 10, 11] [] (.cons (vb (by simp [strs_length, rowsE_length]; omega : decide ((↑pre.length : Int) < (↑(strs ns).length : Int)) = true)) (.cons (rowI_strs hx : rowI (strs ns) (↑pre.length : Int) = some [pS n]) (.cons hc (.cons (rowI_strs hx : rowI (strs ns) (↑pre.length : Int) = some [pS n]) (.cons (natVi64 (by omega) (by omega) (by omega) : Value.int .i64 (IntKind.i64.wrap ((↑pre.length : Int) + (1 : Int))) = .int .i64 ((pre.length + 1 : Nat) : Int)) .nil))))) (by kernel_rfl) ih
        | cons y t =>
          simp only [ordV] at ih ⊢
          exact EvCode.round [T, .same, .row ([pS n]), .same, .val, .call (Ev.bool true) ([]), .same, .same, .same, .same, .same, .same, .same, .same, .same, .same, .same, .same, .same, .same, .row ([pS n]), .same, .v (.int .i64 ((pre.length + 1 : Nat) : Int))] [0, 1, 8, 9, 10, 11] [] (.cons (vb (by simp [strs_length, rowsE_length]; omega : decide ((↑pre.length : Int) < (↑(strs ns).length : Int)) = true)) (.cons (rowI_strs hx : rowI (strs ns) (↑pre.length : Int) = some [pS n]) (.cons hc (.cons (rowI_strs hx : rowI (strs ns) (↑pre.length : Int) = some [pS n]) (.cons (natVi64 (by omega) (by omega) (by omega) : Value.int .i64 (IntKind.i64.wrap ((↑pre.length : Int) + (1 : Int))) = .int .i64 ((pre.length + 1 : Nat) : Int)) .nil))))) (by kernel_rfl) ih
      | true =>
        simp only [Bool.not_true, Bool.false_or, Bool.true_and] at ih
        cases hl : ltS n x with
        | true =>
          have hl' : Op.bytesLess n.toList x.toList = true := hl
          rw [hl] at ih
          simp only [cond_true] at ih
          cases o with
          | nil => exact EvCode.round [T, .same, .row ([pS n]), .same, .val, .call (Ev.bool true) ([]), .same, .same, .same, .same, .same, .same, .same, .row ([pS n]), .same, .same, .same, .same, T, .same, .same, .same, .same, .row ([pS n]), .same, .v (.int .i64 ((pre.length + 1 : Nat) : Int))] [0, 1, 8, 9, 10, 11] [] (.cons (vb (by simp [strs_length, rowsE_length]; omega : decide ((↑pre.length : Int) < (↑(strs ns).length : Int)) = true)) (.cons (rowI_strs hx : rowI (strs ns) (↑pre.length : Int) = some [pS n]) (.cons hc (.cons (rowI_strs hx : rowI (strs ns) (↑pre.length : Int) = some [pS n]) (.cons (vb hl') (.cons (rowI_strs hx : rowI (strs ns) (↑pre.length : Int) = some [pS n]) (.cons (natVi64 (by omega) (by omega) (by omega) : Value.int .i64 (IntKind.i64.wrap ((↑pre.length : Int) + (1 : Int))) = .int .i64 ((pre.length + 1 : Nat) : Int)) .nil))))))) (by kernel_rfl) ih
          | cons y t =>
            simp only [ordV] at ih ⊢
            exact EvCode.round [T, .same, .row ([pS n]), .same, .val, .call (Ev.bool true) ([]), .same, .same, .same, .same, .same, .same, .same, .row ([pS n]), .same, .same, .same, .same, T, .same, .same, .same, .same, .row ([pS n]), .same, .v (.int .i64 ((pre.length + 1 : Nat) : Int))] [0, 1, 8, 9, 10, 11] [] (.cons (vb (by simp [strs_length, rowsE_length]; omega : decide ((↑pre.length : Int) < (↑(strs ns).length : Int)) = true)) (.cons (rowI_strs hx : rowI (strs ns) (↑pre.length : Int) = some [pS n]) (.cons hc (.cons (rowI_strs hx : rowI (strs ns) (↑pre.length : Int) = some [pS n]) (.cons (vb hl') (.cons (rowI_strs hx : rowI (strs ns) (↑pre.length : Int) = some [pS n]) (.cons (natVi64 (by omega) (by omega) (by omega) : Value.int .i64 (IntKind.i64.wrap ((↑pre.length : Int) + (1 : Int))) = .int .i64 ((pre.length + 1 : Nat) : Int)) .nil))))))) (by kernel_rfl) ih
        | false =>
          have hl' : Op.bytesLess n.toList x.toList = false := hl
          rw [hl] at ih
          simp only [cond_false] at ih
          cases o with
          | nil => exact EvCode.round [T, .same, .row ([pS n]), .same, .val, .call (Ev.bool true) ([]), .same, .same, .same, .same, .same, .same, .same, .row ([pS n]), .same, .same, .same, .same, F, .same, .same, .same, .same, .v (.int .i64 ((pre.length + 1 : Nat) : Int))] [0, 1, 8, 9, 10, 11] [] (.cons (vb (by simp [strs_length, rowsE_length]; omega : decide ((↑pre.length : Int) < (↑(strs ns).length : Int)) = true)) (.cons (rowI_strs hx : rowI (strs ns) (↑pre.length : Int) = some [pS n]) (.cons hc (.cons (rowI_strs hx : rowI (strs ns) (↑pre.length : Int) = some [pS n]) (.cons (vb hl') (.cons (natVi64 (by omega) (by omega) (by omega) : Value.int .i64 (IntKind.i64.wrap ((↑pre.length : Int) + (1 : Int))) = .int .i64 ((pre.length + 1 : Nat) : Int)) .nil)))))) (by kernel_rfl) ih
          | cons y t =>
            simp only [ordV] at ih ⊢
            exact EvCode.round [T, .same, .row ([pS n]), .same, .val, .call (Ev.bool true) ([]), .same, .same, .same, .same, .same, .same, .same, .row ([pS n]), .same, .same, .same, .same, F, .same, .same, .same, .same, .v (.int .i64 ((pre.length + 1 : Nat) : Int))] [0, 1, 8, 9, 10, 11] [] (.cons (vb (by simp [strs_length, rowsE_length]; omega : decide ((↑pre.length : Int) < (↑(strs ns).length : Int)) = true)) (.cons (rowI_strs hx : rowI (strs ns) (↑pre.length : Int) = some [pS n]) (.cons hc (.cons (rowI_strs hx : rowI (strs ns) (↑pre.length : Int) = some [pS n]) (.cons (vb hl') (.cons (natVi64 (by omega) (by omega) (by omega) : Value.int .i64 (IntKind.i64.wrap ((↑pre.length : Int) + (1 : Int))) = .int .i64 ((pre.length + 1 : Nat) : Int)) .nil)))))) (by kernel_rfl) ih
end Go.Proofs.YtbdnigendhhndaaGreatDoor
end
section
/- flagstoneref9.Order, flagstoneref11.Order. -/
namespace Go.Proofs.YtbdnigendhhndaaGreatDoor
open Go Go.Ev
set_option maxRecDepth 100000

def dupF : List ByteArray → List ByteArray → Bool
  | _, [] => false
  | pre, x :: r => hasS pre x || dupF (pre ++ [x]) r
def dupOut (ns : List ByteArray) (E : List (ByteArray × ByteArray)) (b : Bool) : AE × St := bif b then (.ret, ⟨[(4, .p (.s nilS)), (5, int 10)], []⟩) else (.exit 0, ⟨[(0, sl (strs ns)), (1, sl (E.map edgR))], []⟩)
theorem dup_loop (ns : List ByteArray) (hn : ns.length ≤ 2 ^ 30) (E : List (ByteArray × ByteArray)) : ∀ (suf pre : List ByteArray), ns = pre ++ suf →
    EvCode cx (EvCall cx) (.loop (loopBody Tryz.f34 0)) ⟨[(0, sl (strs ns)), (1, sl (E.map edgR)), (6, int pre.length)], []⟩ (dupOut ns E (dupF pre suf)).1 (dupOut ns E (dupF pre suf)).2
  | [], pre, h => by
    have hp : pre.length = ns.length := by rw [h]; simp
    simp only [dupF, dupOut, cond_false]
    exact EvCode.out [F, .same] [0, 1] [] (.cons (vb (by simp [strs_length, rowsE_length]; omega : decide ((↑pre.length : Int) < (↑(strs ns).length : Int)) = false)) .nil) (AE.ne_exit _) (by kernel_rfl)
  | x :: r, pre, h => by
    have hlt : pre.length < ns.length := by rw [h]; simp
    have hx : ns[pre.length]? = some x := get_of_split h
    have hc := hasR pre x (by omega)
    have hcut := cut_l pre (x :: r)
    rw [← h] at hcut
    rw [← hcut] at hc
    have ih := dup_loop ns hn E r (pre ++ [x]) (by simp [h])
    simp only [List.length_append, List.length_singleton] at ih
    simp only [dupF]
    cases hb : hasS pre x with
    | true =>
      rw [hb] at hc
      simp only [Bool.true_or, dupOut, cond_true]
      exact EvCode.out [T, .same, .same, .row ([pS x]), .same, .val, .call (Ev.bool true) ([]), .same] [4, 5] [] (.cons (vb (by simp [strs_length, rowsE_length]; omega : decide ((↑pre.length : Int) < (↑(strs ns).length : Int)) = true)) (.cons (⟨(rowsAre_map fun _ => rfl), ⟨(by omega), ⟨(by simp), (by simp [strs_length, rowsE_length]; omega)⟩⟩⟩ : RowsAre 1 (strs ns) ∧ (0 : Int) ≤ (0 : Int) ∧ (0 : Int) ≤ (some (↑pre.length : Int)).getD (↑(strs ns).length : Int) ∧ (some (↑pre.length : Int)).getD (↑(strs ns).length : Int) ≤ (↑(strs ns).length : Int)) (.cons (rowI_strs hx : rowI (strs ns) (↑pre.length : Int) = some [pS x]) (.cons hc .nil)))) AE.ne_ret (by kernel_rfl)
    | false =>
      rw [hb] at hc
      simp only [Bool.false_or]
      generalize dupOut ns E (dupF (pre ++ [x]) r) = out at *
      exact EvCode.round [T, .same, .same, .row ([pS x]), .same, .val, .call (Ev.bool false) ([]), .same, .v (.int .i64 ((pre.length + 1 : Nat) : Int))] [0, 1, 6] [] (.cons (vb (by simp [strs_length, rowsE_length]; omega : decide ((↑pre.length : Int) < (↑(strs ns).length : Int)) = true)) (.cons (⟨(rowsAre_map fun _ => rfl), ⟨(by omega), ⟨(by simp), (by simp [strs_length, rowsE_length]; omega)⟩⟩⟩ : RowsAre 1 (strs ns) ∧ (0 : Int) ≤ (0 : Int) ∧ (0 : Int) ≤ (some (↑pre.length : Int)).getD (↑(strs ns).length : Int) ∧ (some (↑pre.length : Int)).getD (↑(strs ns).length : Int) ≤ (↑(strs ns).length : Int)) (.cons (rowI_strs hx : rowI (strs ns) (↑pre.length : Int) = some [pS x]) (.cons hc (.cons (natVi64 (by omega) (by omega) (by omega) : Value.int .i64 (IntKind.i64.wrap ((↑pre.length : Int) + (1 : Int))) = .int .i64 ((pre.length + 1 : Nat) : Int)) .nil))))) (by kernel_rfl) ih
def edgeOkR (ns : List ByteArray) (e : ByteArray × ByteArray) : Bool := hasS ns e.1 && hasS ns e.2
def nfOut (ns : List ByteArray) (E : List (ByteArray × ByteArray)) (b : Bool) : AE × St := bif b then (.exit 2, ⟨[(0, sl (strs ns)), (1, sl (E.map edgR))], []⟩) else (.ret, ⟨[(4, .p (.s nilS)), (5, int 11)], []⟩)
theorem nf_loop (ns : List ByteArray) (hn : ns.length ≤ 2 ^ 30) (E : List (ByteArray × ByteArray)) (hE : E.length ≤ 2 ^ 62) : ∀ (suf pre : List (ByteArray × ByteArray)), E = pre ++ suf →
    EvCode cx (EvCall cx) (.loop (loopBody Tryz.f34 1)) ⟨[(0, sl (strs ns)), (1, sl (E.map edgR)), (7, int pre.length)], []⟩ (nfOut ns E (suf.all (edgeOkR ns))).1 (nfOut ns E (suf.all (edgeOkR ns))).2
  | [], pre, h => by
    have hp : pre.length = E.length := by rw [h]; simp
    simp only [List.all_nil, nfOut, cond_true]
    exact EvCode.out [F, .same] [0, 1] [] (.cons (vb (by simp; omega : decide ((↑pre.length : Int) < (↑(List.map edgR E).length : Int)) = false)) .nil) (AE.ne_exit _) (by kernel_rfl)
  | e :: r, pre, h => by
    have hlt : pre.length < E.length := by rw [h]; simp
    have hx : E[pre.length]? = some e := get_of_split h
    have hc1 := hasR ns e.1 (by omega)
    have hc2 := hasR ns e.2 (by omega)
    have ih := nf_loop ns hn E hE r (pre ++ [e]) (by simp [h])
    simp only [List.length_append, List.length_singleton] at ih
    simp only [List.all_cons]
    have hl : edgeOkR ns e = (hasS ns e.1 && hasS ns e.2) := rfl
    rw [hl]
    cases b1 : hasS ns e.1 with
    | false =>
      rw [b1] at hc1
      simp only [Bool.false_and, nfOut, cond_false]
      exact EvCode.out [T, .same, .row (edgR e), .same, .val, .call (Ev.bool false) ([]), .same, .same, .same, .same, .same, .same, .same, .same, .same, .same, .same] [4, 5] [] (.cons (vb (by simp; omega : decide ((↑pre.length : Int) < (↑(List.map edgR E).length : Int)) = true)) (.cons (rowI_at hx : rowI (List.map edgR E) (↑pre.length : Int) = some (edgR e)) (.cons hc1 .nil))) AE.ne_ret (by kernel_rfl)
    | true =>
      rw [b1] at hc1
      cases b2 : hasS ns e.2 with
      | false =>
        rw [b2] at hc2
        simp only [Bool.and_false, Bool.false_and, nfOut, cond_false]
        exact EvCode.out [T, .same, .row (edgR e), .same, .val, .call (Ev.bool true) ([]), .same, .same, .same, .same, .same, .row (edgR e), .same, .same, .same, .same, .val, .call (Ev.bool false) ([]), .same, .same, .same, .same] [4, 5] [] (.cons (vb (by simp; omega : decide ((↑pre.length : Int) < (↑(List.map edgR E).length : Int)) = true)) (.cons (rowI_at hx : rowI (List.map edgR E) (↑pre.length : Int) = some (edgR e)) (.cons hc1 (.cons (rowI_at hx : rowI (List.map edgR E) (↑pre.length : Int) = some (edgR e)) (.cons hc2 .nil))))) AE.ne_ret (by kernel_rfl)
      | true =>
        rw [b2] at hc2
        simp only [Bool.true_and]
        generalize nfOut ns E (r.all (edgeOkR ns)) = out at *
        exact EvCode.round [T, .same, .row (edgR e), .same, .val, .call (Ev.bool true) ([]), .same, .same, .same, .same, .same, .row (edgR e), .same, .same, .same, .same, .val, .call (Ev.bool true) ([]), .same, .same, .same, .same, .v (.int .i64 ((pre.length + 1 : Nat) : Int))] [0, 1, 7] [] (.cons (vb (by simp; omega : decide ((↑pre.length : Int) < (↑(List.map edgR E).length : Int)) = true)) (.cons (rowI_at hx : rowI (List.map edgR E) (↑pre.length : Int) = some (edgR e)) (.cons hc1 (.cons (rowI_at hx : rowI (List.map edgR E) (↑pre.length : Int) = some (edgR e)) (.cons hc2 (.cons (natVi64 (by omega) (by omega) (by omega) : Value.int .i64 (IntKind.i64.wrap ((↑pre.length : Int) + (1 : Int))) = .int .i64 ((pre.length + 1 : Nat) : Int)) .nil)))))) (by kernel_rfl) ih
/-- The order; none: it stops. -/
def ordR (ns : List ByteArray) (E : List (ByteArray × ByteArray)) : Nat → List ByteArray → Option (List ByteArray)
  | 0, o => some o
  | f + 1, o => bif decide (o.length < ns.length) then (match ns.foldl (stepL o E) (⟨#[]⟩, false) with
    | (x, true) => ordR ns E f (o ++ [x])
    | (_, false) => none) else some o
def ordOut (r : Option (List ByteArray)) : AE × St := match r with
  | some o => (.exit 4, ⟨[(8, ordV o)], []⟩)
  | none => (.ret, ⟨[(4, .p (.s nilS)), (5, int 12)], []⟩)
theorem ord_loop (ns : List ByteArray) (hn : ns.length ≤ 2 ^ 30) (E : List (ByteArray × ByteArray)) (hE : E.length ≤ 2 ^ 62) : ∀ (f : Nat) (o : List ByteArray), ns.length < o.length + f → o.length ≤ ns.length →
    EvCode cx (EvCall cx) (.loop (loopBody Tryz.f34 2)) ⟨[(0, sl (strs ns)), (1, sl (E.map edgR)), (8, ordV o)], []⟩ (ordOut (ordR ns E f o)).1 (ordOut (ordR ns E f o)).2
  | 0, o, h, h2 => by omega
  | f + 1, o, h, h2 => by
    simp only [ordR]
    have hlp := least_loop ns hn o (by omega) E hE ns [] (⟨#[]⟩, false) rfl
    simp only [List.length_nil] at hlp
    cases hd : decide (o.length < ns.length) with
    | false =>
      have hge : ¬ o.length < ns.length := by simpa using hd
      simp only [cond_false, ordOut]
      cases o with
      | nil => exact EvCode.out [F, .same] [8] [] (.cons (vb (by simp_all [strs_length, rowsE_length] : decide ((0 : Int) < (↑(strs ns).length : Int)) = false)) .nil) (AE.ne_exit _) (by kernel_rfl)
      | cons y t =>
        simp only [ordV]
        have hsl : (strs (y :: t)).length = t.length + 1 := by simp [strs]
        simp only [List.length_cons] at hge h2
        exact EvCode.out [F, .same] [8] [] (.cons (vb (by simp [strs_length, rowsE_length]; omega : decide ((↑(strs (y :: t)).length : Int) < (↑(strs ns).length : Int)) = false)) .nil) (AE.ne_exit _) (by kernel_rfl)
    | true =>
      have hlt : o.length < ns.length := by simpa using hd
      simp only [cond_true]
      generalize ns.foldl (stepL o E) (⟨#[]⟩, false) = a at *
      obtain ⟨x, b⟩ := a
      cases b with
      | false =>
        simp only [ordOut]
        cases o with
        | nil => exact EvCode.out [T, .same, .loop [0, 1, 8, 9, 10, 11] [] (AE.exit 6) ({ e := [(0, AV.p (PV.sl (strs ns))), (1, AV.p (PV.sl (List.map edgR E))), (8, AV.p (PV.s (Value.slice none 0 0))), (9, AV.p (PV.s (Value.string (x, false).fst))), (10, AV.p (PV.s (Value.bool false)))], s := [] }), .same, .same] [4, 5] [] (.cons (vb (by simp [strs_length, rowsE_length]; omega : decide ((0 : Int) < (↑(strs ns).length : Int)) = true)) (.cons hlp .nil)) AE.ne_ret (by kernel_rfl)
        | cons y t =>
          simp only [ordV] at hlp ⊢
          simp only [List.length_cons] at hlt
          exact EvCode.out [T, .same, .loop [0, 1, 8, 9, 10, 11] [] (AE.exit 6) ({ e := [(0, AV.p (PV.sl (strs ns))), (1, AV.p (PV.sl (List.map edgR E))), (8, AV.p (PV.sl (strs (y :: t)))), (9, AV.p (PV.s (Value.string x))), (10, AV.p (PV.s (Value.bool false)))], s := [] }), .same, .same] [4, 5] [] (.cons (vb (by simp [strs_length, rowsE_length]; omega : decide ((↑(strs (y :: t)).length : Int) < (↑(strs ns).length : Int)) = true)) (.cons hlp .nil)) AE.ne_ret (by kernel_rfl)
      | true =>
        have ih := ord_loop ns hn E hE f (o ++ [x]) (by simp; omega) (by simp; omega)
        cases o with
        | nil =>
          have hbody : EvCode cx (EvCall cx) (loopBody Tryz.f34 2) ⟨[(0, sl (strs ns)), (1, sl (E.map edgR)), (8, ordV [])], []⟩ .normal
              ⟨[(0, sl (strs ns)), (1, sl (E.map edgR)), (8, .ms (91, 0) 0 1 1)], [((91, 0), .arr 1 [[pS x]] 0)]⟩ := by
            exact EvCode.tail [T, .same, .loop [0, 1, 8, 9, 10, 11] [] (AE.exit 6) ({ e := [(0, AV.p (PV.sl (strs ns))), (1, AV.p (PV.sl (List.map edgR E))), (8, AV.p (PV.s (Value.slice none 0 0))), (9, AV.p (PV.s (Value.string (x, true).fst))), (10, AV.p (PV.s (Value.bool true)))], s := [] }), .same, .same, .same, .same] [0, 1, 8] [(91, 0)] (.cons (vb (by simp [strs_length, rowsE_length]; omega : decide ((0 : Int) < (↑(strs ns).length : Int)) = true)) (.cons hlp (.cons (⟨rfl, (by omega)⟩ : 1 = 1 ∧ 1 ≤ 1) (.cons (⟨(by simp), ⟨(by omega), (by omega)⟩⟩ : List.take 1 (List.drop 0 (List.map (fun (i : Nat) => List.take ti9.sz (List.drop (i * ti9.sz) [nrm (PV.s (Value.string (x, true).fst))])) (List.range 1))) ≠ [] ∧ 16 ≤ 140737488355328 ∧ 1 ≤ 4611686018427387904) .nil)))) (by kernel_rfl)
          exact .loop ((EvCode.frzT (t := 8) hbody rfl rfl rfl (by omega)).kept (ts := [0, 1, 8]) (is := []) rfl) ih
        | cons y t =>
          have hbody : EvCode cx (EvCall cx) (loopBody Tryz.f34 2) ⟨[(0, sl (strs ns)), (1, sl (E.map edgR)), (8, ordV (y :: t))], []⟩ .normal
              ⟨[(0, sl (strs ns)), (1, sl (E.map edgR)), (8, .ms (88, 0) 0 ((strs (y :: t)).length + 1) ((strs (y :: t)).length + 1))], [((88, 0), .arr 1 (strs (y :: t) ++ [[pS x]]) 0)]⟩ := by
            have hsl : (strs (y :: t)).length = t.length + 1 := by simp [strs]
            have hne : strs (y :: t) ≠ [] := by simp [strs]
            simp only [ordV] at hlp ⊢
            simp only [List.length_cons] at hlt
            exact EvCode.tail [T, .same, .loop [0, 1, 8, 9, 10, 11] [] (AE.exit 6) ({ e := [(0, AV.p (PV.sl (strs ns))), (1, AV.p (PV.sl (List.map edgR E))), (8, AV.p (PV.sl (strs (y :: t)))), (9, AV.p (PV.s (Value.string x))), (10, AV.p (PV.s (Value.bool true)))], s := [] }), .same, .same, .same, .same, .val] [0, 1, 8] [(88, 0)] (.cons (vb (by simp [strs_length, rowsE_length]; omega : decide ((↑(strs (y :: t)).length : Int) < (↑(strs ns).length : Int)) = true)) (.cons hlp (.cons ((rowsAre_map fun _ => rfl) : RowsAre 1 (strs (y :: t))) (.cons (⟨hne, ⟨(by omega), (by omega)⟩⟩ : strs (y :: t) ≠ [] ∧ (strs (y :: t)).length * 16 ≤ 140737488355328 ∧ (strs (y :: t)).length ≤ 4611686018427387904) (.cons (⟨rfl, (by omega)⟩ : 1 = 1 ∧ 1 ≤ 1) (.cons (⟨rfl, ⟨rfl, ⟨rfl, ⟨rfl, ⟨(by simp), ⟨(by omega), (by omega)⟩⟩⟩⟩⟩⟩ : (strs (y :: t)).length = (strs (y :: t)).length ∧ 0 = 0 ∧ (strs (y :: t)).length = (strs (y :: t)).length ∧ 1 = 1 ∧ List.take 1 (List.drop 0 (List.map (fun (i : Nat) => List.take ti9.sz (List.drop (i * ti9.sz) [nrm (PV.s (Value.string x))])) (List.range 1))) ≠ [] ∧ ((strs (y :: t)).length + 1) * 16 ≤ 140737488355328 ∧ (strs (y :: t)).length + 1 ≤ 4611686018427387904) .nil)))))) (by kernel_rfl)
          have e : List.take ((strs (y :: t)).length + 1) (List.drop 0 (strs (y :: t) ++ [[pS x]])) = strs (y :: t ++ [x]) := by
            rw [List.drop_zero, List.take_of_length_le (by simp [strs])]; simp [strs]
          have h1 : EvCode cx (EvCall cx) (loopBody Tryz.f34 2) ⟨[(0, sl (strs ns)), (1, sl (E.map edgR)), (8, ordV (y :: t))], []⟩ .normal
              ⟨[(0, sl (strs ns)), (1, sl (E.map edgR)), (8, sl (List.take ((strs (y :: t)).length + 1) (List.drop 0 (strs (y :: t) ++ [[pS x]]))))], []⟩ :=
            (EvCode.frzT (t := 8) hbody rfl rfl (by simp [strs]) (by omega)).kept (ts := [0, 1, 8]) (is := []) rfl
          rw [e] at h1
          exact .loop h1 ih
/-- What flagstoneref9.Order answers. -/
def orderR (ns : List ByteArray) (E : List (ByteArray × ByteArray)) : List ByteArray × Int :=
  bif dupF [] ns then ([], 10) else bif E.all (edgeOkR ns) then (match ordR ns E (ns.length + 1) [] with | none => ([], 12) | some o => (o, 0)) else ([], 11)
theorem order34 (ns : List ByteArray) (hn : ns.length ≤ 2 ^ 30) (E : List (ByteArray × ByteArray)) (hE : E.length ≤ 2 ^ 62) : EvCall cx 34 [sl (strs ns), sl (E.map edgR)] [] (.tup [sl (strs (orderR ns E).1), int (orderR ns E).2]) [] := by
  have h1 := dup_loop ns hn E ns [] rfl
  have h2 := nf_loop ns hn E hE E [] rfl
  have h3 := ord_loop ns hn E hE (ns.length + 1) [] (by simp) (by simp)
  simp only [List.length_nil] at h1 h2
  unfold orderR
  cases hd : dupF [] ns with
  | true =>
    rw [hd] at h1
    simp only [cond_true]
    simp only [dupOut, cond_true] at h1
    exact EvCall.run Tryz.f34 Tryz.func34 Tryz.call34 [.loop [0, 1, 6] [] (AE.ret) ({ e := [(4, AV.p (PV.s (Value.slice none 0 0))), (5, AV.p (PV.s (Value.int IntKind.i64 (10 : Int))))], s := [] }), .val] (.cons h1 .nil) (by kernel_rfl)
  | false =>
    rw [hd] at h1
    simp only [dupOut, cond_false] at h1
    simp only [cond_false]
    cases ha : E.all (edgeOkR ns) with
    | false =>
      rw [ha] at h2
      simp only [nfOut, cond_false] at h2
      simp only [cond_false]
      exact EvCall.run Tryz.f34 Tryz.func34 Tryz.call34 [.loop [0, 1, 6] [] (AE.exit 0) ({ e := [(0, AV.p (PV.sl (strs ns))), (1, AV.p (PV.sl (List.map edgR E)))], s := [] }), .loop [0, 1, 7] [] (AE.ret) ({ e := [(4, AV.p (PV.s (Value.slice none 0 0))), (5, AV.p (PV.s (Value.int IntKind.i64 (11 : Int))))], s := [] }), .val] (.cons h1 (.cons h2 .nil)) (by kernel_rfl)
    | true =>
      rw [ha] at h2
      simp only [nfOut, cond_true] at h2
      simp only [cond_true]
      cases ho : ordR ns E (ns.length + 1) [] with
      | none =>
        rw [ho] at h3
        simp only [ordOut] at h3
        exact EvCall.run Tryz.f34 Tryz.func34 Tryz.call34 [.loop [0, 1, 6] [] (AE.exit 0) ({ e := [(0, AV.p (PV.sl (strs ns))), (1, AV.p (PV.sl (List.map edgR E)))], s := [] }), .loop [0, 1, 7] [] (AE.exit 2) ({ e := [(0, AV.p (PV.sl (strs ns))), (1, AV.p (PV.sl (List.map edgR E)))], s := [] }), .loop [0, 1, 8] [] (AE.ret) ({ e := [(4, AV.p (PV.s (Value.slice none 0 0))), (5, AV.p (PV.s (Value.int IntKind.i64 (12 : Int))))], s := [] }), .val] (.cons h1 (.cons h2 (.cons h3 .nil))) (by kernel_rfl)
      | some o =>
        rw [ho] at h3
        simp only [ordOut] at h3
        cases o with
        | nil => exact EvCall.run Tryz.f34 Tryz.func34 Tryz.call34 [.loop [0, 1, 6] [] (AE.exit 0) ({ e := [(0, AV.p (PV.sl (strs ns))), (1, AV.p (PV.sl (List.map edgR E)))], s := [] }), .loop [0, 1, 7] [] (AE.exit 2) ({ e := [(0, AV.p (PV.sl (strs ns))), (1, AV.p (PV.sl (List.map edgR E)))], s := [] }), .loop [0, 1, 8] [] (AE.exit 4) ({ e := [(8, AV.p (PV.s (Value.slice none 0 0)))], s := [] }), .val] (.cons h1 (.cons h2 (.cons h3 .nil))) (by kernel_rfl)
        | cons y t =>
          simp only [ordV] at h3
          exact EvCall.run Tryz.f34 Tryz.func34 Tryz.call34 [.loop [0, 1, 6] [] (AE.exit 0) ({ e := [(0, AV.p (PV.sl (strs ns))), (1, AV.p (PV.sl (List.map edgR E)))], s := [] }), .loop [0, 1, 7] [] (AE.exit 2) ({ e := [(0, AV.p (PV.sl (strs ns))), (1, AV.p (PV.sl (List.map edgR E)))], s := [] }), .loop [0, 1, 8] [] (AE.exit 4) ({ e := [(8, AV.p (PV.sl (strs (y :: t))))], s := [] }), .val] (.cons h1 (.cons h2 (.cons h3 .nil))) (by kernel_rfl)
/-- What flagstoneref11.Order answers. -/
theorem order16 (l : List Seg) (hl : l.length ≤ 2 ^ 20) (hok : ∀ g ∈ l, g.when.Ok ∧ g.when.nodes ≤ 2 ^ 20) (hT : (segEdgesR l).length ≤ 2 ^ 20) :
    EvCall cx 16 [sl (l.map Seg.row)] [] (.tup [sl (strs (orderR (l.map Seg.key) (segEdgesR l)).1), int (orderR (l.map Seg.key) (segEdgesR l)).2]) [] := by
  have h1 := keys35 l hl
  have h2 := edges36 l hl hok hT
  have h3 := order34 (l.map Seg.key) (by simp; omega) (segEdgesR l) (by omega)
  exact EvCall.run Tryz.f16 Tryz.func16 Tryz.call16 [.val, .call (sl (strs (List.map Seg.key l))) ([]), .val, .call (sl (List.map edgR (segEdgesR l))) ([]), .val, .call (AV.tup [sl (strs (orderR (List.map Seg.key l) (segEdgesR l)).fst), int (orderR (List.map Seg.key l) (segEdgesR l)).snd]) ([]), .val] (.cons h1 (.cons h2 (.cons h3 .nil))) (by kernel_rfl)
end Go.Proofs.YtbdnigendhhndaaGreatDoor
end
section
/- Both orders are one. -/
namespace Go.Proofs.YtbdnigendhhndaaGreatDoor
open Go Go.Ev
set_option maxRecDepth 100000

theorem hasS_mem {l : List ByteArray} {x : ByteArray} : hasS l x = true ↔ x ∈ l := by
  unfold hasS
  rw [List.any_eq_true]
  constructor
  · rintro ⟨u, hu, h⟩; rw [← beqS.1 h]; exact hu
  · intro h; exact ⟨x, h, beqS.2 rfl⟩
theorem inL_mem {l : List ByteArray} {x : ByteArray} : inL l x = true ↔ x ∈ l := by
  unfold inL
  rw [List.any_eq_true]
  constructor
  · rintro ⟨u, hu, h⟩; rw [beqS.1 h]; exact hu
  · intro h; exact ⟨x, h, beqS.2 rfl⟩
theorem inL_hasS (l m : List ByteArray) (h : ∀ z, z ∈ l ↔ z ∈ m) (x : ByteArray) : inL l x = hasS m x := by
  rw [Bool.eq_iff_iff, inL_mem, hasS_mem, h]
theorem inD_inL (D : List ByteArray) (x : ByteArray) : inD D x = inL D x := rfl

theorem dupF_iff : ∀ (suf pre : List ByteArray), pre.Nodup → (dupF pre suf = false ↔ (pre ++ suf).Nodup)
  | [], pre, h => by simp [dupF, h]
  | x :: r, pre, h => by
    simp only [dupF]
    cases hb : hasS pre x with
    | true =>
      have := hasS_mem.1 hb
      simp only [Bool.true_or, Bool.true_eq_false, false_iff]
      intro hn
      exact (List.nodup_append.1 hn).2.2 x this x (by simp) rfl
    | false =>
      have hx : x ∉ pre := fun hm => by rw [hasS_mem.2 hm] at hb; cases hb
      have := dupF_iff r (pre ++ [x]) (by
        rw [List.nodup_append]
        exact ⟨h, by simp, fun a ha b hb => by rw [List.mem_singleton.1 hb]; exact fun e => hx (e ▸ ha)⟩)
      simpa using this
theorem dedup_len_eq : ∀ (r : List ByteArray) (y : ByteArray), (dedup y r).length = r.length → (y :: r).Pairwise leS → (y :: r).Pairwise ltB
  | [], y, _, _ => by simp
  | x :: r, y, h, hs => by
    obtain ⟨h1, h2⟩ := List.pairwise_cons.1 hs
    simp only [dedup] at h
    have hl := dedup_len r x
    cases hb : x.toList == y.toList with
    | true => rw [hb] at h; simp only [cond_true, List.length_cons] at h; omega
    | false =>
      rw [hb] at h
      simp only [cond_false, List.length_cons] at h
      have ih := dedup_len_eq r x (by omega) h2
      have hyx : ltB y x := ltB_of_le_ne (h1 x (by simp)) fun e => by rw [e] at hb; simp at hb
      refine List.pairwise_cons.2 ⟨fun z hz => ?_, ih⟩
      rcases List.mem_cons.1 hz with e | e
      · subst e; exact hyx
      · exact ltB_trans hyx ((List.pairwise_cons.1 ih).1 z e)
theorem nodup_of_lt {l : List ByteArray} (h : l.Pairwise ltB) : l.Nodup := List.Pairwise.imp (fun {a b} (hab : ltB a b) (e : a = b) => by subst e; exact ltB_irrefl a hab) h
theorem lt_of_nodup {l : List ByteArray} (h : l.Pairwise leS) (hn : l.Nodup) : l.Pairwise ltB := (List.pairwise_and_iff.2 ⟨h, hn⟩).imp fun ⟨a, b⟩ => ltB_of_le_ne a b
theorem compact_len {l : List ByteArray} (h : l.Pairwise leS) : (compactS l).length = l.length ↔ l.Nodup := by
  constructor
  · intro hl
    cases l with
    | nil => simp
    | cons x r => exact nodup_of_lt (dedup_len_eq r x (by simpa [compactS] using hl) h)
  · intro hn
    have : compactS l = l := strict_ext (compactS_sorted h) (lt_of_nodup h hn) (compactS_mem l)
    rw [this]

theorem ready_eq (E : List (ByteArray × ByteArray)) (D o : List ByteArray) (hD : ∀ z, z ∈ D ↔ z ∈ o) (x : ByteArray) (hx : x ∉ o) : ready (needM E) D x = readyR o E x := by
  have h1 : hasS o x = false := by
    cases hb : hasS o x with
    | false => rfl
    | true => exact absurd (hasS_mem.1 hb) hx
  unfold ready readyR
  rw [h1, needM_of, Bool.not_false, Bool.and_true]
  congr 1
  rw [List.any_map, List.any_filter]
  congr 1
  funext e
  have h2 : inD D e.2 = hasS o e.2 := by rw [inD_inL]; exact inL_hasS D o hD e.2
  have h3 : (x.toList == e.1.toList) = (e.1.toList == x.toList) := by
    rw [Bool.eq_iff_iff, beqS, beqS]; exact eq_comm
  simp only [Function.comp, lacks, h2, h3]

/-- What the fold finds. -/
theorem fold_spec (o : List ByteArray) (E : List (ByteArray × ByteArray)) : ∀ (s : List ByteArray) (a : ByteArray × Bool),
    (s.foldl (stepL o E) a = a ∧ (∀ n ∈ s, readyR o E n = true → a.2 = true ∧ leS a.1 n)) ∨
    ∃ x, s.foldl (stepL o E) a = (x, true) ∧ x ∈ s ∧ readyR o E x = true ∧ (∀ n ∈ s, readyR o E n = true → leS x n) ∧ (a.2 = true → leS x a.1)
  | [], a => .inl ⟨rfl, by simp⟩
  | n :: r, (y, b) => by
    simp only [List.foldl_cons]
    have hstep : stepL o E (y, b) n = (y, b) ∧ (readyR o E n = true → b = true ∧ leS y n) ∨ stepL o E (y, b) n = (n, true) ∧ readyR o E n = true ∧ (b = true → leS n y) := by
      unfold stepL
      cases hr : readyR o E n with
      | false => exact .inl ⟨rfl, by simp⟩
      | true =>
        cases b with
        | false => exact .inr ⟨rfl, rfl, by simp⟩
        | true =>
          cases hl : ltS n y with
          | true => exact .inr ⟨by simp, rfl, fun _ => leS_of_lt hl⟩
          | false => exact .inl ⟨by simp, fun _ => ⟨rfl, leS_of_nlt hl⟩⟩
    rcases hstep with ⟨h1, h2⟩ | ⟨h1, h2, h3⟩
    · rw [h1]
      rcases fold_spec o E r (y, b) with ⟨g1, g2⟩ | ⟨x, g1, g2, g3, g4, g5⟩
      · refine .inl ⟨g1, fun m hm hr => ?_⟩
        rcases List.mem_cons.1 hm with e | e
        · subst e; exact h2 hr
        · exact g2 m e hr
      · refine .inr ⟨x, g1, List.mem_cons_of_mem _ g2, g3, fun m hm hr => ?_, g5⟩
        rcases List.mem_cons.1 hm with e | e
        · subst e
          obtain ⟨k1, k2⟩ := h2 hr
          exact leS_trans (g5 k1) k2
        · exact g4 m e hr
    · rw [h1]
      rcases fold_spec o E r (n, true) with ⟨g1, g2⟩ | ⟨x, g1, g2, g3, g4, g5⟩
      · refine .inr ⟨n, g1, by simp, h2, fun m hm hr => ?_, h3⟩
        rcases List.mem_cons.1 hm with e | e
        · subst e; exact leS_refl _
        · exact (g2 m e hr).2
      · refine .inr ⟨x, g1, List.mem_cons_of_mem _ g2, g3, fun m hm hr => ?_, fun hb => leS_trans (g5 rfl) (h3 hb)⟩
        rcases List.mem_cons.1 hm with e | e
        · subst e; exact g5 rfl
        · exact g4 m e hr
theorem pick_spec (p : ByteArray → Bool) : ∀ (l : List ByteArray), l.Pairwise leS →
    (pick p l = none ∧ ∀ n ∈ l, p n = false) ∨ ∃ P x R, pick p l = some (P, x, R) ∧ l = P ++ x :: R ∧ p x = true ∧ ∀ n ∈ l, p n = true → leS x n
  | [], _ => .inl ⟨rfl, by simp⟩
  | y :: r, h => by
    obtain ⟨h1, h2⟩ := List.pairwise_cons.1 h
    simp only [pick]
    cases hp : p y with
    | true =>
      refine .inr ⟨[], y, r, rfl, rfl, hp, fun n hn _ => ?_⟩
      rcases List.mem_cons.1 hn with e | e
      · subst e; exact leS_refl _
      · exact h1 n e
    | false =>
      simp only [cond_false]
      rcases pick_spec p r h2 with ⟨g1, g2⟩ | ⟨P, x, R, g1, g2, g3, g4⟩
      · refine .inl ⟨by rw [g1]; rfl, fun n hn => ?_⟩
        rcases List.mem_cons.1 hn with e | e
        · subst e; exact hp
        · exact g2 n e
      · refine .inr ⟨y :: P, x, R, by rw [g1]; rfl, by rw [g2]; rfl, g3, fun n hn hpn => ?_⟩
        rcases List.mem_cons.1 hn with e | e
        · subst e; rw [hp] at hpn; cases hpn
        · exact g4 n e hpn
theorem addD_mem (D : List ByteArray) (x z : ByteArray) : z ∈ addD D x ↔ z ∈ D ∨ z = x := by
  unfold addD
  cases hb : inD D x with
  | true =>
    have := inL_mem.1 (inD_inL D x ▸ hb)
    simp only [cond_true]
    constructor
    · exact .inl
    · rintro (h | rfl) <;> assumption
  | false => simp
theorem topo_ord (ns : List ByteArray) (E : List (ByteArray × ByteArray)) : ∀ (f : Nat) (l o D : List ByteArray), l.Pairwise ltB → (∀ z, z ∈ l ↔ z ∈ ns ∧ z ∉ o) → (∀ z, z ∈ D ↔ z ∈ o) → l.length + o.length = ns.length →
    topo (needM E) f l o D = ordR ns E f o
  | 0, l, o, D, hl, hm, hD, hlen => rfl
  | f + 1, [], o, D, hl, hm, hD, hlen => by
    have : ¬ o.length < ns.length := by simp at hlen; omega
    simp [topo, ordR, this]
  | f + 1, y :: t, o, D, hl, hm, hD, hlen => by
    have hlt : o.length < ns.length := by simp at hlen; omega
    have hmr : ∀ n, readyR o E n = true → n ∉ o := by
      intro n hr hn
      unfold readyR at hr
      rw [hasS_mem.2 hn] at hr
      simp at hr
    have hrd : ∀ n ∈ y :: t, ready (needM E) D n = readyR o E n := fun n hn => ready_eq E D o hD n ((hm n).1 hn).2
    simp only [topo, ordR, hlt, decide_true, cond_true]
    rcases pick_spec (ready (needM E) D) (y :: t) (hl.imp fun {a b} h => List.le_of_lt h) with ⟨g1, g2⟩ | ⟨P, x, R, g1, g2, g3, g4⟩
    · rw [g1]
      rcases fold_spec o E ns (⟨#[]⟩, false) with ⟨k1, _⟩ | ⟨x, k1, k2, k3, k4, k5⟩
      · rw [k1]
      · have hx : x ∈ y :: t := (hm x).2 ⟨k2, hmr x k3⟩
        have := g2 x hx
        rw [hrd x hx, k3] at this
        cases this
    · rw [g1]
      have hx : x ∈ y :: t := by rw [g2]; simp
      obtain ⟨hxn, hxo⟩ := (hm x).1 hx
      have hxr : readyR o E x = true := by rw [← hrd x hx]; exact g3
      rcases fold_spec o E ns (⟨#[]⟩, false) with ⟨k1, k2⟩ | ⟨z, k1, k2, k3, k4, k5⟩
      · have := (k2 x hxn hxr).1
        cases this
      · have hz : z ∈ y :: t := (hm z).2 ⟨k2, hmr z k3⟩
        have e : z = x := leS_anti (k4 x hxn hxr) (g4 z hz (by rw [hrd z hz]; exact k3))
        subst e
        rw [k1]
        simp only
        rw [g2] at hl hm hlen
        have hnd := nodup_of_lt hl
        refine topo_ord ns E f (P ++ R) (o ++ [z]) (addD D z) ?_ (fun u => ?_) (fun u => ?_) (by simp at hlen ⊢; omega)
        · exact hl.sublist (List.Sublist.append_left (List.sublist_cons_self z R) P)
        · have hu := hm u
          have hne : u = z → u ∉ P ++ R := by
            intro e hin
            subst e
            rw [List.nodup_append] at hnd
            obtain ⟨n1, n2, n3⟩ := hnd
            rcases List.mem_append.1 hin with h | h
            · exact n3 u h u (by simp) rfl
            · exact (List.nodup_cons.1 n2).1 h
          simp only [List.mem_append, List.mem_cons, List.mem_singleton, List.not_mem_nil, or_false] at hu hne ⊢
          grind
        · rw [addD_mem, hD]; simp
theorem order_same (ns : List ByteArray) (E : List (ByteArray × ByteArray)) : orderG ns E = orderR ns E := by
  have hp := isort_perm ns
  have hs := isort_sorted ns
  have hmem : ∀ z, z ∈ isort ns ↔ z ∈ ns := fun z => hp.mem_iff
  have hd : ((compactS (isort ns)).length != ns.length) = dupF [] ns := by
    rw [Bool.eq_iff_iff, ← Bool.not_eq_false (b := dupF [] ns), dupF_iff ns [] (by simp)]
    simp only [List.nil_append, bne_iff_ne]
    rw [← hp.length_eq, Ne, compact_len hs, hp.nodup_iff]
  have ha : E.all (edgeOk (isort ns)) = E.all (edgeOkR ns) := by
    congr 1
    funext e
    unfold edgeOk edgeOkR
    rw [inL_hasS _ _ hmem, inL_hasS _ _ hmem]
  unfold orderG orderR
  rw [hd, ha]
  cases hb : dupF [] ns with
  | true => rfl
  | false =>
    have hn : (isort ns).Nodup := hp.nodup_iff.2 (by simpa using (dupF_iff ns [] (by simp)).1 hb)
    rw [topo_ord ns E (ns.length + 1) (isort ns) [] [] (lt_of_nodup hs hn) (fun z => by simp [hmem]) (by simp) (by simp [hp.length_eq])]
    cases E.all (edgeOkR ns) <;> cases ordR ns E (ns.length + 1) [] <;> rfl
end Go.Proofs.YtbdnigendhhndaaGreatDoor
end
