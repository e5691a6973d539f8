/- A machine: find, End. -/
import Derived.Test.YtfdhofabgdkkkaaGreatDoorZ36
namespace Go.Proofs.YtfdhofabgdkkkaaGreatDoor
open Go.RowKit Go.Fm Go.BigFrame Go.Shelf Go.Maps
set_option linter.unusedVariables false
set_option linter.unusedSimpArgs false
set_option maxRecDepth 100000
section
variable {w w' : World} {S : Nat → Prop}
def idOf (v : Value) : Int := match v with | .agg a => intOf (a.getD 0 undef) | _ => 0
theorem idOf_one (i p : Int) : idOf (oneV i p) = i := rfl
def findP (L : List (Place × PartD)) (p : Place) : Option PartD := (L.find? fun x => x.1 = p).map (·.2)
def findM (m : MachD) (name : ByteArray) (index : Int) : Option PartD := (getG m.TL name).bind fun v => findP m.L ⟨idOf v, index⟩
def pptr (o : Option PartD) : Value := match o with | some d => .pointer (some ⟨d.xb, 0, none⟩) | none => .pointer none
theorem prows_get (L : List (Place × PartD)) (p : Place) : (getG (prows L) p).getD (.pointer none) = pptr (findP L p) := by
 unfold getG prows findP
 rw [List.find?_map]
 cases h : L.find? ((fun r : Place × Value => decide (r.1 = p)) ∘ fun x => (x.1, Value.pointer (some ⟨x.2.xb, 0, none⟩))) with
 | none =>
  have h2 : L.find? (fun x => decide (x.1 = p)) = none := h
  rw [h2]; rfl
 | some x =>
  have h2 : L.find? (fun x => decide (x.1 = p)) = some x := h
  rw [h2]; rfl
theorem findP_mem {L : List (Place × PartD)} {p : Place} {d : PartD} (h : findP L p = some d) : (p, d) ∈ L := by
 unfold findP at h
 cases hf : L.find? fun x => x.1 = p with
 | none => rw [hf] at h; cases h
 | some r =>
  rw [hf] at h
  have h1 := List.find?_some hf
  have h2 := List.mem_of_find?_eq_some hf
  simp at h h1
  obtain ⟨a, y⟩ := r
  simp at h h1
  subst h h1
  exact h2
theorem findM_mem {m : MachD} {name : ByteArray} {index : Int} {d : PartD} (h : findM m name index = some d) : ∃ p, (p, d) ∈ m.L := by
 unfold findM at h
 cases hg : getG m.TL name with
 | none => rw [hg] at h; cases h
 | some v => rw [hg] at h; exact ⟨_, findP_mem h⟩
theorem zeroPP (w : World) : (zeroValue 87).run Tryz.prog w = .ok (.pointer none) w := by kernel_rfl
set_option maxHeartbeats 16000000 in
theorem mfind_walk {m : MachD} (h : MachA w m) (name : ByteArray) (index : Int) (hn : name.size ≤ maxLen) (hi : (Lit.int .i64 index).wf = true) : Calls Tryz.prog 33 #[.pointer (some ⟨m.mb, 0, none⟩), .string name, .int .i64 index] w fun e w' => e = .returned (pptr (findM m name index)) ∧ Fr (fun _ => False) w w' := by
 have dd := fun j => cell_of h.b j
 have H := Lib.hid h
 have HI := Lib.hid hi
 have CW := Lib.hid (tfind_walk h.top name hn)
 clear h hi
 go_enter Tryz.func33, Tryz.ntmps33
 go_wp2_with fail
 refine CW.out.mono ?_
 rintro e w2 ⟨hcase, hf2⟩
 have F2 := Lib.hid hf2
 have H2 := Lib.hid (H.out.old hf2)
 clear hf2 dd CW
 rcases hcase with ⟨i, p, hg, rfl⟩ | ⟨hg, rfl⟩
 ·obtain ⟨i', p', he, h0, h1⟩ := H.out.ids _ (getG_some hg)
  have he : oneV i p = oneV i' p' := he
  have hii : i = i' := by have := congrArg idOf he; simpa [idOf_one] using this
  subst hii
  have ht := H.out.tn
  have PK : PlaceOK ⟨i, index⟩ := ⟨by simp [Lit.wf, IntKind.min, IntKind.max, IntKind.signed, IntKind.bits]; omega, HI.out⟩
  have hlk := H2.out.map.look1 placeLaw Tryz.underlying81 (zeroPP w2) PK
  rw [prows_get] at hlk
  have RES := Lib.hid (show findM m name index = findP m.L ⟨i, index⟩ by unfold findM; rw [hg]; rfl)
  have dd := fun j => cell_of H2.out.b j
  dsimp only [placeK, placeV] at hlk
  clear he h0 h1 ht PK hg
  cases hf : findP m.L ⟨i, index⟩ with
  | none =>
   rw [hf] at hlk RES
   dsimp only [pptr] at hlk
   clear hf
   go_wp2_with fail
   go_ret
   exact ⟨by rw [RES.out]; rfl, F2.out⟩
  | some d =>
   rw [hf] at hlk RES
   dsimp only [pptr] at hlk
   clear hf
   go_wp2_with fail
   go_ret
   exact ⟨by rw [RES.out]; rfl, F2.out⟩
 ·have RES := Lib.hid (show findM m name index = none by unfold findM; rw [hg]; rfl)
  clear hg
  go_wp2_with fail
  go_ret
  exact ⟨by rw [RES.out]; rfl, F2.out⟩
def endM (m : MachD) (name : ByteArray) (index : Int) : Int := match findM m name index with | some d => d.en | none => -1
set_option maxHeartbeats 16000000 in
theorem mend_walk {m : MachD} (h : MachA w m) (name : ByteArray) (index : Int) (hn : name.size ≤ maxLen) (hi : (Lit.int .i64 index).wf = true) : Calls Tryz.prog 16 #[.pointer (some ⟨m.mb, 0, none⟩), .string name, .int .i64 index] w fun e w' => e = .returned (.int .i64 (endM m name index)) ∧ Fr (fun _ => False) w w' := by
 have CW := Lib.hid (mfind_walk h name index hn hi)
 have H := Lib.hid h
 clear h
 go_enter Tryz.func16, Tryz.ntmps16
 go_wp2_with fail
 refine CW.out.mono ?_
 rintro e w2 ⟨rfl, hf2⟩
 have F2 := Lib.hid hf2
 have H2 := Lib.hid (H.out.old hf2)
 clear hf2 CW
 cases hf : findM m name index with
 | none =>
  have RES := Lib.hid (show endM m name index = -1 by unfold endM; rw [hf])
  dsimp only [pptr]
  clear hf
  go_wp2_with fail
  go_ret
  exact ⟨by rw [RES.out]; rfl, F2.out⟩
 | some d =>
  obtain ⟨p, hm⟩ := findM_mem hf
  have dd := fun j => cell_of (H2.out.part _ hm).b j
  have RES := Lib.hid (show endM m name index = d.en by unfold endM; rw [hf])
  dsimp only [pptr] at dd ⊢
  clear hf hm
  go_wp2_with fail
  go_ret
  exact ⟨by rw [RES.out]; rfl, F2.out⟩
end
end Go.Proofs.YtfdhofabgdkkkaaGreatDoor
