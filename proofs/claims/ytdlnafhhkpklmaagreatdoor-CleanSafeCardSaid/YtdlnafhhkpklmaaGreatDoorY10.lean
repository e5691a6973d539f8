/-
  DERIVED: THE SHELF's CONTRACTS AT THIS DUMP, IN PLAIN WORDS (tools/lay-plain.mjs out of 'TryzShelf.lean', which tools/lay-shelf.mjs wrote): THE SAME DECLARATIONS UNDER THE SAME NAMES: 'import', 'namespace', 'open', 'def', 'theorem' AND NOTHING ELSE: no command of the shelf's: FOR A HAND-IN. Each laying: the table of numbers ('.._ren') and one theorem, a field a fact of the dump's own or the kernel's comparison; each contract: ONE APPLICATION.
-/
import Derived.Shelf.Strings.Builder1
import Derived.Shelf.Small.Bits
import Derived.Shelf.Small.Wraps
import Derived.Shelf.Strings.BuilderF
import Derived.Shelf.Strings.BuilderK
import Derived.Shelf.Strconv.Itoa0
import Derived.Shelf.Sort.Plain
import Derived.Shelf.Strings.Prefix
import Derived.Shelf.Strings.BuilderCap
import Derived.Shelf.Slices.In.SortNone
import Derived.Test.YtdlnafhhkpklmaaGreatDoorProg
import Derived.Test.YtdlnafhhkpklmaaGreatDoorY9
import Derived.Lib.Builder
import Derived.Lib.Strings
import Derived.Lib.AppendStr
import Derived.Laws.Externs
namespace Go.Proofs
open Go.Shelf
def Tryz.lays169_ren : Go.Shelf.Ren := ⟨fun | 169 => 136 | n => n, fun | 70 => 188 | 9 => 9 | 0 => 0 | 72 => 190 | 37 => 146 | 127 => 215 | 3 => 3 | 5 => 5 | n => n, fun | n => n⟩
theorem Tryz.lays169 : Go.Proofs.Lays.n169 Tryz.prog Tryz.lays169_ren := {
 mixed := by kernel_rfl
 f169 := Tryz.func136.trans (congrArg some (by kernel_rfl))
 t0 := Tryz.underlying0
 a0 := Tryz.isAgg0
 z0 := Tryz.sizeOf0
 v0 := Tryz.zeroValue0
 t3 := Tryz.underlying3
 a3 := Tryz.isAgg3
 z3 := Tryz.sizeOf3
 v3 := Tryz.zeroValue3
 t9 := Tryz.underlying9
 a9 := Tryz.isAgg9
 z9 := Tryz.sizeOf9
 v9 := Tryz.zeroValue9
 t37 := Tryz.underlying146
 a37 := Tryz.isAgg146
 z37 := Tryz.sizeOf146
 v37 := Tryz.zeroValue146
 t70 := Tryz.underlying188
 a70 := Tryz.isAgg188
 z70 := Tryz.sizeOf188
 v70 := Tryz.zeroValue188
 t72 := Tryz.underlying190
 a72 := Tryz.isAgg190
 z72 := Tryz.sizeOf190
 v72 := Tryz.zeroValue190
 t127 := Tryz.underlying215
 a127 := Tryz.isAgg215
 z127 := Tryz.sizeOf215
 v127 := Tryz.zeroValue215 }
theorem Tryz.Builder_Extra_169 : Builder.Extra Tryz.prog Tryz.lays169_ren := {
 sizeBuilder := by kernel_rfl
 liesBuilder := by kernel_rfl
 t5 := Tryz.underlying5
 a5 := Tryz.isAgg5
 z5 := Tryz.sizeOf5
 v5 := Tryz.zeroValue5
 infoByte := by kernel_rfl
 cellsByte := by kernel_rfl
 sizeByte := by kernel_rfl
 neB5 := by decide }
open Go.RowKit in
/-- (*strings.Builder).String: "String returns the accumulated string.": WHATEVER THE BUILDER HOLDS. (LAID: no walk: one application.) -/
theorem Tryz.Builder_String_any (B b : Nat) (l : List UInt8) (w : World) (h : Lib.IsBuilder 190 5 B b (Lib.byteCells l) w) (hBw : B ≤ w.heap.size) :
  Calls Tryz.prog 136 #[.pointer (some ⟨b, 0, none⟩)] w fun e w' => e = .returned (.string ⟨l.toArray⟩) ∧ Below B w w' := Any.Builder_String_any Tryz.lays169 Tryz.Builder_Extra_169 B b l w h hBw
def Tryz.lays103_ren : Go.Shelf.Ren := ⟨fun | 103 => 106 | 210 => 132 | 206 => 154 | n => n, fun | 9 => 9 | 4 => 4 | 24 => 133 | 3 => 3 | n => n, fun | n => n⟩
theorem Tryz.lays103 : Go.Proofs.Lays.n103 Tryz.prog Tryz.lays103_ren := {
 mixed := by kernel_rfl
 f103 := Tryz.func106.trans (congrArg some (by kernel_rfl))
 f206 := Tryz.func154.trans (congrArg some (by kernel_rfl))
 f210 := Tryz.func132.trans (congrArg some (by kernel_rfl))
 t3 := Tryz.underlying3
 a3 := Tryz.isAgg3
 z3 := Tryz.sizeOf3
 v3 := Tryz.zeroValue3
 t4 := Tryz.underlying4
 a4 := Tryz.isAgg4
 z4 := Tryz.sizeOf4
 v4 := Tryz.zeroValue4
 t9 := Tryz.underlying9
 a9 := Tryz.isAgg9
 z9 := Tryz.sizeOf9
 v9 := Tryz.zeroValue9
 t24 := Tryz.underlying133
 a24 := Tryz.isAgg133
 z24 := Tryz.sizeOf133
 v24 := Tryz.zeroValue133 }
open Go.RowKit in
/-- strings.CutPrefix: "CutPrefix returns s without the provided leading prefix string and reports whether it found the prefix. If s doesn't start with prefix, CutPrefix returns s, false. If prefix is the empty string, CutPrefix returns s, true.": IT RETURNS '(Lib.trimPrefix s p, Lib.hasPrefix s p)'; the world is as it was. (LAID: no walk: one application.) -/
theorem Tryz.strings_CutPrefix (s p : ByteArray) (w : World) :
  Calls Tryz.prog 106 #[.string s, .string p] w fun e w' => e = .returned (.tuple #[.string ⟨(Lib.trimPrefix s.data.toList p.data.toList).toArray⟩, .bool (Lib.hasPrefix s.data.toList p.data.toList)]) ∧ w' = w := Any.strings_CutPrefix Tryz.lays103 s p w
def Tryz.lays190_ren : Go.Shelf.Ren := ⟨fun | 190 => 96 | 125 => 129 | 258 => 128 | 128 => 151 | 129 => 152 | 302 => 142 | 303 => 143 | 304 => 144 | 305 => 145 | 306 => 146 | 307 => 147 | 308 => 148 | 309 => 149 | 310 => 150 | 333 => 159 | 329 => 160 | 330 => 161 | 334 => 162 | 335 => 163 | 336 => 164 | 344 => 167 | n => n, fun | 31 => 104 | 9 => 9 | 3 => 3 | 46 => 53 | 0 => 0 | 51 => 153 | 53 => 163 | 4 => 4 | 183 => 207 | 182 => 206 | 131 => 58 | 5 => 5 | 218 => 220 | 222 => 196 | 228 => 229 | 229 => 230 | n => n, fun | n => n⟩
theorem Tryz.lays190 : Go.Proofs.Lays.n190 Tryz.prog Tryz.lays190_ren := {
 mixed := by kernel_rfl
 f125 := Tryz.func129.trans (congrArg some (by kernel_rfl))
 f128 := Tryz.func151.trans (congrArg some (by kernel_rfl))
 f129 := Tryz.func152.trans (congrArg some (by kernel_rfl))
 f190 := Tryz.func96.trans (congrArg some (by kernel_rfl))
 f258 := Tryz.func128.trans (congrArg some (by kernel_rfl))
 f302 := Tryz.func142.trans (congrArg some (by kernel_rfl))
 f303 := Tryz.func143.trans (congrArg some (by kernel_rfl))
 f304 := Tryz.func144.trans (congrArg some (by kernel_rfl))
 f305 := Tryz.func145.trans (congrArg some (by kernel_rfl))
 f306 := Tryz.func146.trans (congrArg some (by kernel_rfl))
 f307 := Tryz.func147.trans (congrArg some (by kernel_rfl))
 f308 := Tryz.func148.trans (congrArg some (by kernel_rfl))
 f309 := Tryz.func149.trans (congrArg some (by kernel_rfl))
 f310 := Tryz.func150.trans (congrArg some (by kernel_rfl))
 f329 := Tryz.func160.trans (congrArg some (by kernel_rfl))
 f330 := Tryz.func161.trans (congrArg some (by kernel_rfl))
 f333 := Tryz.func159.trans (congrArg some (by kernel_rfl))
 f334 := Tryz.func162.trans (congrArg some (by kernel_rfl))
 f335 := Tryz.func163.trans (congrArg some (by kernel_rfl))
 f336 := Tryz.func164.trans (congrArg some (by kernel_rfl))
 f344 := Tryz.func167.trans (congrArg some (by kernel_rfl))
 t0 := Tryz.underlying0
 a0 := Tryz.isAgg0
 z0 := Tryz.sizeOf0
 v0 := Tryz.zeroValue0
 t3 := Tryz.underlying3
 a3 := Tryz.isAgg3
 z3 := Tryz.sizeOf3
 v3 := Tryz.zeroValue3
 t4 := Tryz.underlying4
 a4 := Tryz.isAgg4
 z4 := Tryz.sizeOf4
 v4 := Tryz.zeroValue4
 t5 := Tryz.underlying5
 a5 := Tryz.isAgg5
 z5 := Tryz.sizeOf5
 v5 := Tryz.zeroValue5
 t9 := Tryz.underlying9
 a9 := Tryz.isAgg9
 z9 := Tryz.sizeOf9
 v9 := Tryz.zeroValue9
 t31 := Tryz.underlying104
 a31 := Tryz.isAgg104
 z31 := Tryz.sizeOf104
 v31 := Tryz.zeroValue104
 t46 := Tryz.underlying53
 a46 := Tryz.isAgg53
 z46 := Tryz.sizeOf53
 v46 := Tryz.zeroValue53
 t51 := Tryz.underlying153
 a51 := Tryz.isAgg153
 z51 := Tryz.sizeOf153
 v51 := Tryz.zeroValue153
 t53 := Tryz.underlying163
 a53 := Tryz.isAgg163
 z53 := Tryz.sizeOf163
 v53 := Tryz.zeroValue163
 t131 := Tryz.underlying58
 a131 := Tryz.isAgg58
 z131 := Tryz.sizeOf58
 v131 := Tryz.zeroValue58
 t182 := Tryz.underlying206
 a182 := Tryz.isAgg206
 z182 := Tryz.sizeOf206
 v182 := Tryz.zeroValue206
 t183 := Tryz.underlying207
 a183 := Tryz.isAgg207
 z183 := Tryz.sizeOf207
 v183 := Tryz.zeroValue207
 t218 := Tryz.underlying220
 a218 := Tryz.isAgg220
 z218 := Tryz.sizeOf220
 v218 := Tryz.zeroValue220
 t222 := Tryz.underlying196
 a222 := Tryz.isAgg196
 z222 := Tryz.sizeOf196
 v222 := Tryz.zeroValue196
 t228 := Tryz.underlying229
 a228 := Tryz.isAgg229
 z228 := Tryz.sizeOf229
 v228 := Tryz.zeroValue229
 t229 := Tryz.underlying230
 a229 := Tryz.isAgg230
 z229 := Tryz.sizeOf230
 v229 := Tryz.zeroValue230 }
open Go.Sort Go.RowKit in
theorem Tryz.slices_Sort_string (blk off cap : Nat) (ss : List (List UInt8)) (w : World) (hH : Holds encStr w blk off ss.toArray) (hblk : blk < w.heap.size) (hsz : ss.length < 4611686018427387904) :
  Calls Tryz.prog 96 #[.slice (some ⟨blk, off, none⟩) ss.length cap] w fun e w' =>
   e = .returned (.tuple #[]) ∧ ∃ n os, w' = grow (putRow encStr (Sort.ahead w n) blk off (ss.mergeSort fun x y => decide (x ≤ y)).toArray) os := Any.slices_Sort_string Tryz.lays190 blk off cap ss w hH hblk hsz
open Go.RowKit Go.Sort in
/-- .. and plain. (LAID: no walk: one application.) -/
theorem Tryz.slices_Sort_string_none (p : Option Addr) (cap : Nat) (w : World) :
  Calls Tryz.prog 96 #[.slice p 0 cap] w fun e w' => e = .returned (.tuple #[]) ∧ w' = w := Any.slices_Sort_string_none Tryz.lays190 p cap w
end Go.Proofs
/- A builder of strings that the call has made: written on, read out: the walks. -/
namespace Go.Proofs.YtdlnafhhkpklmaaGreatDoor
open Go.RowKit Go.Fm Go.BigFrame Go.Shelf
set_option linter.unusedVariables false
set_option linter.unusedSimpArgs false
theorem below_tr {w a b : World} {B : Nat} (h : Fr (fun _ => False) w a) (k : Below B a b) (hB : w.heap.size ≤ B) : Fr (fun _ => False) w b :=
 ⟨k.os.trans h.os, k.tape.trans h.tape, k.output.trans h.output, Nat.le_trans h.size k.size, fun i hi hn => (k.block i (by omega)).trans (h.block i hi hn)⟩
theorem sizeBld : (Tryz.prog.info? 190).map (·.size) = some 2 := by kernel_rfl
theorem liesBld : liesAt Tryz.prog Tryz.prog.depth 190 (2 / Tryz.prog.cellsOf 190) 0 190 1 = true := by kernel_rfl
set_option maxHeartbeats 1000000 in
set_option maxRecDepth 100000 in
theorem copyCheck_used (b : Nat) (w : World) (h0 : w.cell? ⟨b, 0, none⟩ = some (.pointer (some ⟨b, 0, none⟩))) :
  Calls Tryz.prog 155 #[.pointer (some ⟨b, 0, none⟩)] w fun e w' => e = .returned (.tuple #[]) ∧ w' = w := by
 obtain ⟨j, hj, _⟩ := Option.map_eq_some_iff.1 sizeBld
 go_enter Tryz.func155, Tryz.ntmps155
 go_wp2
 rw [Lib.run_neq_ptr_same w _ Tryz.underlying188 hj]
 go_wp2
 go_end0
 exact ⟨rfl, rfl⟩
set_option maxHeartbeats 1000000 in
set_option maxRecDepth 100000 in
theorem copyCheck_fresh (b : Nat) (w : World) (h0 : w.cell? ⟨b, 0, none⟩ = some (.pointer none)) (hsh : w.shape? b = some (190, 2)) (hfz : w.frozen? ⟨b, 0, none⟩ = false) :
  Calls Tryz.prog 155 #[.pointer (some ⟨b, 0, none⟩)] w fun e w' => e = .returned (.tuple #[]) ∧ w' = w.setCell ⟨b, 0, none⟩ (.pointer (some ⟨b, 0, none⟩)) := by
 obtain ⟨j, hj, hjs⟩ := Option.map_eq_some_iff.1 sizeBld
 go_enter Tryz.func155, Tryz.ntmps155
 go_wp2
 rw [Lib.run_to_unsafe w ⟨b, 0, none⟩ Tryz.underlying188 Tryz.underlying225 hj (by rw [hjs]; decide) hsh (Nat.zero_lt_succ 1)]
 simp only [Result.andThen]
 rw [Oper.upon_value]
 go_wp2
 rw [run_callFunc_extern Tryz.func165 (by kernel_rfl) (by kernel_rfl) (by kernel_rfl) (e := Extern.AbiNoEscape.same) (by kernel_rfl)]
 rw [Lib.run_noEscape]
 simp only [Result.andThen]
 rw [Oper.upon_value]
 go_wp2
 rw [Lib.run_from_unsafe w ⟨b, 0, none⟩ Tryz.underlying225 Tryz.underlying188 hj hsh liesBld]
 simp only [Result.andThen]
 rw [Oper.upon_value]
 go_wp2
 go_end0
 exact ⟨rfl, rfl⟩
/-- What is no row of bytes, and not the builder, stands. -/
def Kept (b : Nat) (w w' : World) : Prop := ∀ (i : Nat) (c : Array Value) (e : TypeId) (f : Nat × Nat), i ≠ b → e ≠ 5 → w.heap[i]? = some (.cells c e f) → w'.heap[i]? = some (.cells c e f)
theorem Kept.refl (b : Nat) (w : World) : Kept b w w := fun _ _ _ _ _ _ h => h
theorem Kept.trans {b : Nat} {x y z : World} (h : Kept b x y) (k : Kept b y z) : Kept b x z := fun i c e f h1 h2 h3 => k i c e f h1 h2 (h i c e f h1 h2 h3)
theorem copyCheck_walk (B b : Nat) (bs : List Value) (w : World) (h : Lib.IsBuilder 190 5 B b bs w) :
  Calls Tryz.prog 155 #[.pointer (some ⟨b, 0, none⟩)] w fun e w' => e = .returned (.tuple #[]) ∧ (Lib.BuilderAt 190 5 B b (.pointer (some ⟨b, 0, none⟩)) bs w' ∧ Below B w w' ∧ Kept b w w') := by
 rcases h with h | h
 ·refine (copyCheck_fresh b w h.cell0 h.shape h.frozen0).mono ?_
  rintro e w' ⟨rfl, rfl⟩
  exact ⟨rfl, h.used _, (Below.refl B w).setCell (p := ⟨b, 0, none⟩) h.1 _, fun i c e f h1 _ h3 => (heap_setCell_ne w h1 _).trans h3⟩
 ·refine (copyCheck_used b w h.cell0).mono ?_
  rintro e w' ⟨rfl, rfl⟩
  exact ⟨rfl, h, Below.refl B _, Kept.refl _ _⟩
set_option maxHeartbeats 2000000 in
set_option maxRecDepth 100000 in
theorem write_walk (B b : Nat) (bs : List Value) (s : ByteArray) (w : World) (h : Lib.IsBuilder 190 5 B b bs w) (hlen : bs.length + s.size ≤ 140737488355328) (hBw : B ≤ w.heap.size) :
  Calls Tryz.prog 134 #[.pointer (some ⟨b, 0, none⟩), .string s] w fun e w' => e = .returned (.tuple #[.int .i64 s.size, .nilIface]) ∧ (Lib.BuilderAt 190 5 B b (.pointer (some ⟨b, 0, none⟩)) (bs ++ Lib.strCells s) w' ∧ Below B w w' ∧ Kept b w w') := by
 obtain ⟨i0, hi, hz0, hz1, hz2⟩ := info_parts info5
 go_enter Tryz.func134, Tryz.ntmps134
 go_wp2_with (go_at_call 155; refine (copyCheck_walk B b bs _ h).mono ?_)
 rintro e w1 ⟨rfl, h1, hb1, hk1⟩
 obtain ⟨hB, v, hbk, hown, hne⟩ := h1
 have c0 : w1.cell? ⟨b, 0, none⟩ = some (.pointer (some ⟨b, 0, none⟩)) := by rw [Lib.cell_of_heap hbk]; rfl
 have c1 : w1.cell? ⟨b, 1, none⟩ = some v := by rw [Lib.cell_of_heap hbk]; rfl
 go_wp2_with (at_builtin; refine Lib.wpList_append_own_string _ rfl _ _ 146 9 rfl B 5 i0 Tryz.underlying146 Tryz.underlying9 hi hz0 hz1 hz2 _ _ _ rfl hown s rfl ?c3 ?c4 ?c5 ?_)
 case c3 => unfold maxLen; omega
 case c4 => omega
 case c5 => have := hb1.size; omega
 intro v' w2 hown' hgrow _
 have hlt : b < w1.heap.size := by
  rcases Nat.lt_or_ge b w1.heap.size with h' | h'
  ·exact h'
  ·simp [Array.getElem?_eq_none h'] at hbk
 have hb2 : w2.heap[b]? = some (.cells #[.pointer (some ⟨b, 0, none⟩), v] 190 (0, 0)) := by
  rw [hgrow.block b hlt (fun e => hne e.symm)]
  exact hbk
 have d0 : w2.cell? ⟨b, 0, none⟩ = some (.pointer (some ⟨b, 0, none⟩)) := by rw [Lib.cell_of_heap hb2]; rfl
 have d1 : w2.cell? ⟨b, 1, none⟩ = some v := by rw [Lib.cell_of_heap hb2]; rfl
 have f1 : w2.frozen? ⟨b, 1, none⟩ = false := Lib.frozen_of_heap hb2 1
 obtain ⟨ao, n', cap, rfl⟩ : ∃ ao n' cap, v' = .slice ao n' cap := by
  rcases hown'.2 with ⟨hv, _⟩ | ⟨g, cap, cur, hv, _⟩
  ·exact ⟨_, _, _, hv⟩
  ·exact ⟨_, _, _, hv⟩
 go_wp2
 go_ret2
 refine ⟨rfl, ?_, ?_, ?_⟩
 ·exact Lib.BuilderAt.put (T := 190) (e := 5) hB hb2 (bs' := bs ++ Lib.strCells s) (by simpa [Lib.strCells_length] using hown') (by decide)
 ·exact (hb1.grown hgrow (by have := hb1.size; omega) (fun k hk => (hown.lt k hk).1)).setCell (p := ⟨b, 1, none⟩) hB _
 ·refine hk1.trans fun i c e f g1 g2 g3 => (heap_setCell_ne w2 g1 _).trans ((hgrow.block i (lt_of_heap g3) fun hr => ?_).trans g3)
  rcases hown.2 with ⟨hv, _⟩ | ⟨g, cap2, cur, hv, _, hg, _⟩
  ·rw [hv] at hr; cases hr
  ·rw [hv] at hr
   have e1 : i = g := by simpa [Value.ownBlock] using hr
   subst e1
   rw [hg] at g3
   injection g3 with g3
   injection g3 with _ g3 _
   exact g2 g3.symm
end Go.Proofs.YtdlnafhhkpklmaaGreatDoor
