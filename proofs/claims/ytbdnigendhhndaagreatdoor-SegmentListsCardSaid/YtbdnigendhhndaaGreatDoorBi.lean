/- A part of the proofs of this seat's laws (abstract interpretation of the translated program, and contracts of its functions); no statement of its own. -/
import Derived.Test.YtbdnigendhhndaaGreatDoorBg
set_option linter.unusedVariables false
set_option linter.unusedSimpArgs false
section
/- Closed runs of the reference at drawn values: Check, parts. -/
namespace Go.Proofs.YtbdnigendhhndaaGreatDoor
open Go Go.Ev
set_option maxRecDepth 100000

noncomputable def fR : FnTab := [(126, Tryz.f126), (174, Tryz.f174), (128, Tryz.f128), (176, Tryz.f176), (175, Tryz.f175), (177, Tryz.f177), (200, Tryz.f200), (223, Tryz.f223)]
theorem fR_ok : ∀ p ∈ fR, FnOk cx p.1 p.2 := by
  intro p hp
  simp only [fR, List.mem_cons, List.not_mem_nil, or_false] at hp
  rcases hp with rfl | rfl | rfl | rfl | rfl | rfl | rfl | rfl
  · exact ⟨Tryz.func126, Tryz.call126⟩
  · exact ⟨Tryz.func174, Tryz.call174⟩
  · exact ⟨Tryz.func128, Tryz.call128⟩
  · exact ⟨Tryz.func176, Tryz.call176⟩
  · exact ⟨Tryz.func175, Tryz.call175⟩
  · exact ⟨Tryz.func177, Tryz.call177⟩
  · exact ⟨Tryz.func200, Tryz.call200⟩
  · exact ⟨Tryz.func223, Tryz.call223⟩
noncomputable def xRef (f : Nat) (args : List AV) : Option (AV × List AO) := xCallK cx fR known 60 8 f args []
theorem xRef_ev {f : Nat} {args : List AV} {r : AV} {H' : List AO} (h : xRef f args = some (r, H')) : EvCall cx f args [] r H' := xCallK_sound fR_ok known_ok 60 8 _ _ _ _ _ h
def dchunk (i : Nat) : List Val := (dvals.drop (i * 5)).take 5
theorem dvals_chunks : dvals = dchunk 0 ++ (dchunk 1 ++ (dchunk 2 ++ (dchunk 3 ++ (dchunk 4 ++ (dchunk 5 ++ (dchunk 6 ++ (dchunk 7 ++ (dchunk 8)))))))) := by kernel_rfl
theorem checkR_0 : ((dchunk 0).all fun v => isOk (xRef 126 [ag v.row])) = true := by kernel_rfl
theorem checkR_1 : ((dchunk 1).all fun v => isOk (xRef 126 [ag v.row])) = true := by kernel_rfl
theorem checkR_2 : ((dchunk 2).all fun v => isOk (xRef 126 [ag v.row])) = true := by kernel_rfl
theorem checkR_3 : ((dchunk 3).all fun v => isOk (xRef 126 [ag v.row])) = true := by kernel_rfl
theorem checkR_4 : ((dchunk 4).all fun v => isOk (xRef 126 [ag v.row])) = true := by kernel_rfl
theorem checkR_5 : ((dchunk 5).all fun v => isOk (xRef 126 [ag v.row])) = true := by kernel_rfl
theorem checkR_6 : ((dchunk 6).all fun v => isOk (xRef 126 [ag v.row])) = true := by kernel_rfl
theorem checkR_7 : ((dchunk 7).all fun v => isOk (xRef 126 [ag v.row])) = true := by kernel_rfl
theorem checkR_8 : ((dchunk 8).all fun v => isOk (xRef 126 [ag v.row])) = true := by kernel_rfl
theorem checkR_all : (dvals.all fun v => isOk (xRef 126 [ag v.row])) = true := by
  rw [dvals_chunks]
  simp only [List.all_append, checkR_0, checkR_1, checkR_2, checkR_3, checkR_4, checkR_5, checkR_6, checkR_7, checkR_8, Bool.and_true]
theorem check126 (v : Val) (hv : v ∈ dvals) : EvCall cx 126 [ag v.row] [] (int 0) [] := by
  have h := checkR_all
  rw [List.all_eq_true] at h
  exact xRef_ev (isOk_eq (h v hv))
def same3 (a b : Option (Int × Int × Int)) : Bool := match a, b with
  | some (a, b, c), some (d, e, f) => a == d && (b == e && c == f)
  | _, _ => false
theorem partsR_all : (versL.all fun s => same3 (is3 (xRun 198 [str s])) (is3 (xRef 128 [str s]))) = true := by kernel_rfl
theorem parts128 (s : ByteArray) (hs : s ∈ versL) : EvCall cx 128 [str s] [] (.tup [.agg [int (partsF s).1, int (partsF s).2.1, int (partsF s).2.2], bool true]) [] := by
  have h := partsR_all
  rw [List.all_eq_true] at h
  have h1 := h s hs
  unfold partsF
  generalize is3 (xRun 198 [str s]) = o at h1 ⊢
  generalize h2 : is3 (xRef 128 [str s]) = o2 at h1
  unfold same3 at h1
  split at h1
  · simp only [Bool.and_eq_true, beq_iff_eq] at h1
    obtain ⟨rfl, rfl, rfl⟩ := h1
    exact xRef_ev (is3_eq h2)
  · cases h1
end Go.Proofs.YtbdnigendhhndaaGreatDoor
end
