/- A part of the proofs of this seat's laws (abstract interpretation of the translated program, and contracts of its functions); no statement of its own. -/
import Derived.Test.YtbdnigendhhndaaGreatDoorBa
set_option linter.unusedVariables false
set_option linter.unusedSimpArgs false
section
/- Closed runs at drawn values: text.Valid, value.parts, value.Check. -/
namespace Go.Proofs.YtbdnigendhhndaaGreatDoor
open Go Go.Ev
set_option maxRecDepth 100000

/-- Calls that are known. -/
def known : XC := fun f args H => match args, H with
  | [.p (.s (.string s)), .p (.s (.string t))], [] => bif Nat.beq f 221 then
      (bif Nat.blt s.size 4294967281 && (Nat.ble 1 t.size && Nat.beq (splitS s t).length (Lib.countB s t + 1)) then some (.ms ((0, 0) : Nat × Nat) 0 (Lib.countB s t + 1) (Lib.countB s t + 1), [.arr 1 (strs (splitS s t)) 0]) else none) else none
  | [.p (.s (.string s))], [] => bif Nat.beq f 231 then (match Lib.atoi s.data.toList with
      | some n => bif Nat.ble s.size 18 then some (.tup [.p (.s (.int .i64 n)), .p (.s .nilIface)], []) else none
      | none => none) else none
  | _, _ => none
theorem known_ok : XSound known (EvCall cx) := by
  intro f args H r H' h
  unfold known at h
  split at h
  · rename_i s t
    cases hf : Nat.beq f 221 with
    | false => rw [hf] at h; cases h
    | true =>
      rw [hf] at h
      have hf' := Nat.eq_of_beq_eq_true hf
      subst hf'
      simp only [cond_true] at h
      cases hb : Nat.blt s.size 4294967281 && (Nat.ble 1 t.size && Nat.beq (splitS s t).length (Lib.countB s t + 1)) with
      | false => rw [hb] at h; cases h
      | true =>
        rw [hb] at h
        simp only [cond_true, Option.some.injEq, Prod.mk.injEq] at h
        obtain ⟨rfl, rfl⟩ := h
        simp only [Bool.and_eq_true] at hb
        obtain ⟨h1, h2, h3⟩ := hb
        exact EvCall.prim2 (.split s t (by simp [Nat.blt] at h1; omega) (Nat.le_of_ble_eq_true h2) (Nat.eq_of_beq_eq_true h3))
  · rename_i s
    cases hf : Nat.beq f 231 with
    | false => rw [hf] at h; cases h
    | true =>
      rw [hf] at h
      have hf' := Nat.eq_of_beq_eq_true hf
      subst hf'
      simp only [cond_true] at h
      split at h
      · rename_i n hn
        cases hb : Nat.ble s.size 18 with
        | false => rw [hb] at h; cases h
        | true =>
          rw [hb] at h
          simp only [cond_true, Option.some.injEq, Prod.mk.injEq] at h
          obtain ⟨rfl, rfl⟩ := h
          exact EvCall.prim3 (.mk s n (Nat.le_of_ble_eq_true hb) hn)
      · cases h
  · cases h
noncomputable def fT : FnTab := [(219, Tryz.f219), (200, Tryz.f200), (223, Tryz.f223), (222, Tryz.f222), (230, Tryz.f230), (237, Tryz.f237), (192, Tryz.f192), (198, Tryz.f198), (218, Tryz.f218), (195, Tryz.f195)]
theorem fT_ok : ∀ p ∈ fT, FnOk cx p.1 p.2 := by
  intro p hp
  simp only [fT, List.mem_cons, List.not_mem_nil, or_false] at hp
  rcases hp with rfl | rfl | rfl | rfl | rfl | rfl | rfl | rfl | rfl | rfl
  · exact ⟨Tryz.func219, Tryz.call219⟩
  · exact ⟨Tryz.func200, Tryz.call200⟩
  · exact ⟨Tryz.func223, Tryz.call223⟩
  · exact ⟨Tryz.func222, Tryz.call222⟩
  · exact ⟨Tryz.func230, Tryz.call230⟩
  · exact ⟨Tryz.func237, Tryz.call237⟩
  · exact ⟨Tryz.func192, Tryz.call192⟩
  · exact ⟨Tryz.func198, Tryz.call198⟩
  · exact ⟨Tryz.func218, Tryz.call218⟩
  · exact ⟨Tryz.func195, Tryz.call195⟩
noncomputable def xRun (f : Nat) (args : List AV) : Option (AV × List AO) := xCallK cx fT known 60 8 f args []
theorem xRun_ev {f : Nat} {args : List AV} {r : AV} {H' : List AO} (h : xRun f args = some (r, H')) : EvCall cx f args [] r H' := xCallK_sound fT_ok known_ok 60 8 _ _ _ _ _ h
def isOk : Option (AV × List AO) → Bool
  | some (.p (.s (.int .i64 n)), []) => decide (n = 0)
  | _ => false
theorem isOk_eq {o : Option (AV × List AO)} (h : isOk o = true) : o = some (int 0, []) := by
  unfold isOk at h
  split at h
  · rw [of_decide_eq_true h]
  · cases h
theorem check_all : (dvals.all fun v => isOk (xRun 195 [ag v.row])) = true := by kernel_rfl
theorem check195 (v : Val) (hv : v ∈ dvals) : EvCall cx 195 [ag v.row] [] (int 0) [] := by
  have h := check_all
  rw [List.all_eq_true] at h
  exact xRun_ev (isOk_eq (h v hv))
/-- The numbers of a version. -/
def is3 : Option (AV × List AO) → Option (Int × Int × Int)
  | some (.tup [.agg [.p (.s (.int .i64 a)), .p (.s (.int .i64 b)), .p (.s (.int .i64 c))], .p (.s (.bool true))], []) => some (a, b, c)
  | _ => none
theorem is3_eq {o : Option (AV × List AO)} {a b c : Int} (h : is3 o = some (a, b, c)) : o = some (.tup [.agg [int a, int b, int c], bool true], []) := by
  unfold is3 at h
  split at h
  · cases h; rfl
  · cases h
theorem parts_all : (versL.all fun s => (is3 (xRun 198 [str s])).isSome) = true := by kernel_rfl
theorem parts198 (s : ByteArray) (hs : s ∈ versL) : ∃ a b c, EvCall cx 198 [str s] [] (.tup [.agg [int a, int b, int c], bool true]) [] := by
  have h := parts_all
  rw [List.all_eq_true] at h
  have h1 := h s hs
  obtain ⟨⟨a, b, c⟩, h2⟩ := Option.isSome_iff_exists.1 h1
  exact ⟨a, b, c, xRun_ev (is3_eq h2)⟩
end Go.Proofs.YtbdnigendhhndaaGreatDoor
end
