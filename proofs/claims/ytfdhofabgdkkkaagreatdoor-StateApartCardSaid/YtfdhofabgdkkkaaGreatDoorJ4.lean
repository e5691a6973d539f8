/- A part of the proof that what the machine is told keeps its bounds. -/
import Derived.Shelf.Strings.Builder1
import Derived.Shelf.Small.Bits
import Derived.Shelf.Small.Wraps
import Derived.Shelf.Strings.BuilderF
import Derived.Shelf.Strings.BuilderK
import Derived.Shelf.Strconv.Itoa0
import Derived.Shelf.Strings.Prefix
import Derived.Shelf.Unicode.Decode
import Derived.Shelf.Unicode.DecodeSlow
import Derived.Shelf.Unicode.DecodeAny
import Derived.Shelf.Strings.BuilderCap
import Derived.Shelf.Slices.Turned
import Derived.Ground.Names2Prog
import Derived.Shelf.Slices.Clone
import Derived.Shelf.Slices.SearchI
import Derived.Shelf.Slices.Empties
import Derived.Ground.SlgnProg
import Derived.Shelf.SlicesE.Clone
import Derived.Test.YtfdhofabgdkkkaaGreatDoorProg
import Derived.Test.YtfdhofabgdkkkaaGreatDoorJ3
import Derived.Test.YtfdhofabgdkkkaaGreatDoorJ1
import Derived.Maps.OwnSet
import Derived.DeepKeys4
import Derived.BigQuiet
import Derived.Test.YtfdhofabgdkkkaaGreatDoorChecked
import Derived.Lib.Hide
import Derived.WalkKit
import Derived.Lib.SliceRun
import Derived.WalkSpells
import Derived.WalkLawsBesides
import Derived.OwnWalk
import Derived.Deep.QuietTactic
import Derived.Laws.IdiomStrings
set_option maxHeartbeats 128000000
set_option maxRecDepth 100000
namespace Go.Proofs
open Go.Shelf
def Tryz.lays169_ren:Go.Shelf.Ren:=⟨fun | 169=>246 | n=>n,fun | 70=>356 | 9=>9 | 0=>0 | 72=>358 | 37=>305 | 127=>393 | 3=>3 | 5=>5 | n=>n,fun | n=>n⟩
theorem Tryz.lays169:Go.Proofs.Lays.n169 Tryz.prog Tryz.lays169_ren:= {
 mixed:=by kernel_rfl
 f169:=Tryz.func246.trans (congrArg some (by kernel_rfl))
 t0:=Tryz.underlying0
 a0:=Tryz.isAgg0
 z0:=Tryz.sizeOf0
 v0:=Tryz.zeroValue0
 t3:=Tryz.underlying3
 a3:=Tryz.isAgg3
 z3:=Tryz.sizeOf3
 v3:=Tryz.zeroValue3
 t9:=Tryz.underlying9
 a9:=Tryz.isAgg9
 z9:=Tryz.sizeOf9
 v9:=Tryz.zeroValue9
 t37:=Tryz.underlying305
 a37:=Tryz.isAgg305
 z37:=Tryz.sizeOf305
 v37:=Tryz.zeroValue305
 t70:=Tryz.underlying356
 a70:=Tryz.isAgg356
 z70:=Tryz.sizeOf356
 v70:=Tryz.zeroValue356
 t72:=Tryz.underlying358
 a72:=Tryz.isAgg358
 z72:=Tryz.sizeOf358
 v72:=Tryz.zeroValue358
 t127:=Tryz.underlying393
 a127:=Tryz.isAgg393
 z127:=Tryz.sizeOf393
 v127:=Tryz.zeroValue393 }
theorem Tryz.Builder_Extra_169:Builder.Extra Tryz.prog Tryz.lays169_ren:= {
 sizeBuilder:=by kernel_rfl
 liesBuilder:=by kernel_rfl
 t5:=Tryz.underlying5
 a5:=Tryz.isAgg5
 z5:=Tryz.sizeOf5
 v5:=Tryz.zeroValue5
 infoByte:=by kernel_rfl
 cellsByte:=by kernel_rfl
 sizeByte:=by kernel_rfl
 neB5:=by decide }
open Go.RowKit in
theorem Tryz.Builder_String_any (B b:Nat) (l:List UInt8) (w:World) (h:Lib.IsBuilder 358 5 B b (Lib.byteCells l) w) (hBw:B≤w.heap.size):
  Calls Tryz.prog 246 #[.pointer (some ⟨b,0,none⟩)] w fun e w'=>e=.returned (.string ⟨l.toArray⟩)∧Below B w w':=Any.Builder_String_any Tryz.lays169 Tryz.Builder_Extra_169 B b l w h hBw
def Tryz.lays99_ren:Go.Shelf.Ren:=⟨fun | 99=>153 | 206=>216 | n=>n,fun | 9=>9 | 4=>4 | 3=>3 | n=>n,fun | n=>n⟩
theorem Tryz.lays99:Go.Proofs.Lays.n99 Tryz.prog Tryz.lays99_ren:= {
 mixed:=by kernel_rfl
 f99:=Tryz.func153.trans (congrArg some (by kernel_rfl))
 f206:=Tryz.func216.trans (congrArg some (by kernel_rfl))
 t3:=Tryz.underlying3
 a3:=Tryz.isAgg3
 z3:=Tryz.sizeOf3
 v3:=Tryz.zeroValue3
 t4:=Tryz.underlying4
 a4:=Tryz.isAgg4
 z4:=Tryz.sizeOf4
 v4:=Tryz.zeroValue4
 t9:=Tryz.underlying9
 a9:=Tryz.isAgg9
 z9:=Tryz.sizeOf9
 v9:=Tryz.zeroValue9 }
open Go.RowKit Go.Lib in
theorem Tryz.strings_HasPrefix (s p:ByteArray) (w:World):
  Calls Tryz.prog 153 #[.string s,.string p] w fun e w'=>e=.returned (.bool (Lib.hasPrefix s.data.toList p.data.toList))∧w'=w:=Any.strings_HasPrefix Tryz.lays99 s p w
def Tryz.lays197_ren:Go.Shelf.Ren:=⟨fun | 197=>264 | 260=>296 | n=>n,fun | 9=>9 | 21=>21 | 3=>3 | 4=>4 | 5=>5 | 105=>376 | 119=>410 | 0=>0 | 46=>309 | 139=>413 | 138=>412 | n=>n,fun | 3=>1 | 4=>2 | n=>n⟩
theorem Tryz.lays197:Go.Proofs.Lays.n197 Tryz.prog Tryz.lays197_ren:= {
 mixed:=by kernel_rfl
 f197:=Tryz.func264.trans (congrArg some (by kernel_rfl))
 f260:=Tryz.func296.trans (congrArg some (by kernel_rfl))
 t0:=Tryz.underlying0
 a0:=Tryz.isAgg0
 z0:=Tryz.sizeOf0
 v0:=Tryz.zeroValue0
 t3:=Tryz.underlying3
 a3:=Tryz.isAgg3
 z3:=Tryz.sizeOf3
 v3:=Tryz.zeroValue3
 t4:=Tryz.underlying4
 a4:=Tryz.isAgg4
 z4:=Tryz.sizeOf4
 v4:=Tryz.zeroValue4
 t5:=Tryz.underlying5
 a5:=Tryz.isAgg5
 z5:=Tryz.sizeOf5
 v5:=Tryz.zeroValue5
 t9:=Tryz.underlying9
 a9:=Tryz.isAgg9
 z9:=Tryz.sizeOf9
 v9:=Tryz.zeroValue9
 t21:=Tryz.underlying21
 a21:=Tryz.isAgg21
 z21:=Tryz.sizeOf21
 v21:=Tryz.zeroValue21
 t46:=Tryz.underlying309
 a46:=Tryz.isAgg309
 z46:=Tryz.sizeOf309
 v46:=Tryz.zeroValue309
 t105:=Tryz.underlying376
 a105:=Tryz.isAgg376
 z105:=Tryz.sizeOf376
 v105:=Tryz.zeroValue376
 t119:=Tryz.underlying410
 a119:=Tryz.isAgg410
 z119:=Tryz.sizeOf410
 t138:=Tryz.underlying412
 a138:=Tryz.isAgg412
 z138:=Tryz.sizeOf412
 v138:=Tryz.zeroValue412
 t139:=Tryz.underlying413
 a139:=Tryz.isAgg413
 z139:=Tryz.sizeOf413
 v139:=Tryz.zeroValue413
 g3:=by kernel_rfl
 g4:=by kernel_rfl }
def Tryz.lays260_ren:Go.Shelf.Ren:=⟨fun | 260=>296 | n=>n,fun | 9=>9 | 21=>21 | 3=>3 | 4=>4 | 5=>5 | 119=>410 | 0=>0 | 46=>309 | 139=>413 | 138=>412 | n=>n,fun | 3=>1 | 4=>2 | n=>n⟩
theorem Tryz.lays260:Go.Proofs.Lays.n260 Tryz.prog Tryz.lays260_ren:= {
 mixed:=by kernel_rfl
 f260:=Tryz.func296.trans (congrArg some (by kernel_rfl))
 t0:=Tryz.underlying0
 a0:=Tryz.isAgg0
 z0:=Tryz.sizeOf0
 v0:=Tryz.zeroValue0
 t3:=Tryz.underlying3
 a3:=Tryz.isAgg3
 z3:=Tryz.sizeOf3
 v3:=Tryz.zeroValue3
 t4:=Tryz.underlying4
 a4:=Tryz.isAgg4
 z4:=Tryz.sizeOf4
 v4:=Tryz.zeroValue4
 t5:=Tryz.underlying5
 a5:=Tryz.isAgg5
 z5:=Tryz.sizeOf5
 v5:=Tryz.zeroValue5
 t9:=Tryz.underlying9
 a9:=Tryz.isAgg9
 z9:=Tryz.sizeOf9
 v9:=Tryz.zeroValue9
 t21:=Tryz.underlying21
 a21:=Tryz.isAgg21
 z21:=Tryz.sizeOf21
 v21:=Tryz.zeroValue21
 t46:=Tryz.underlying309
 a46:=Tryz.isAgg309
 z46:=Tryz.sizeOf309
 v46:=Tryz.zeroValue309
 t119:=Tryz.underlying410
 a119:=Tryz.isAgg410
 z119:=Tryz.sizeOf410
 t138:=Tryz.underlying412
 a138:=Tryz.isAgg412
 z138:=Tryz.sizeOf412
 v138:=Tryz.zeroValue412
 t139:=Tryz.underlying413
 a139:=Tryz.isAgg413
 z139:=Tryz.sizeOf413
 v139:=Tryz.zeroValue413
 g3:=by kernel_rfl
 g4:=by kernel_rfl }
open Go.RowKit Go.Lib in
theorem Tryz.utf8_DecodeRuneInString (s:ByteArray) (w:World) (hT:Lib.Utf8Tabs 1 2 w):
  Calls Tryz.prog 264 #[.string s] w fun e w'=>e=.returned (.tuple #[.int .i32 (Lib.decodeGo s).1,.int .i64 (Lib.decodeGo s).2])∧Below w.heap.size w w':=Any.utf8_DecodeRuneInString Tryz.lays197 s w hT
def Tryz.laysNm225_ren:Go.Shelf.Ren:=⟨fun | 25=>295 | 31=>309 | 32=>310 | 37=>315 | n=>n,fun | 22=>47 | 3=>3 | 4=>4 | 40=>309 | 0=>0 | n=>n,fun | n=>n⟩
theorem Tryz.laysNm225:Go.Proofs.Lays2.n25 Tryz.prog Tryz.laysNm225_ren:= {
 mixed:=by kernel_rfl
 f25:=Tryz.func295.trans (congrArg some (by kernel_rfl))
 f31:=Tryz.func309.trans (congrArg some (by kernel_rfl))
 f32:=Tryz.func310.trans (congrArg some (by kernel_rfl))
 f37:=Tryz.func315.trans (congrArg some (by kernel_rfl))
 t0:=Tryz.underlying0
 a0:=Tryz.isAgg0
 z0:=Tryz.sizeOf0
 v0:=Tryz.zeroValue0
 t3:=Tryz.underlying3
 a3:=Tryz.isAgg3
 z3:=Tryz.sizeOf3
 v3:=Tryz.zeroValue3
 t4:=Tryz.underlying4
 a4:=Tryz.isAgg4
 z4:=Tryz.sizeOf4
 v4:=Tryz.zeroValue4
 t22:=Tryz.underlying47
 a22:=Tryz.isAgg47
 z22:=Tryz.sizeOf47
 v22:=Tryz.zeroValue47
 t40:=Tryz.underlying309
 a40:=Tryz.isAgg309
 z40:=Tryz.sizeOf309
 v40:=Tryz.zeroValue309 }
open Go.RowKit Go.Lib in
theorem Tryz.slices_BinarySearch_int (b off n c:Nat) (zs:List Int) (x:Int) (w:World) (hz:n≤zs.length) (hbig:n < 4611686018427387904) (hc:∀j,j < zs.length→w.cell? ⟨b,off+j,none⟩=some (.int .i64 (zs.getD j 0))) (hs:(zs.take n).Pairwise (· ≤·)):
  Calls Tryz.prog 295 #[.slice (some ⟨b,off,none⟩) n c,.int .i64 x] w fun e w'=>e=.returned (.tuple #[.int .i64 ((zs.take n).countP (· < x):Nat),.bool ((zs.take n).contains x)])∧∃q,w'=w.drewN q:=Any.slices_BinarySearch_int Tryz.laysNm225 b off n c zs x w hz hbig hc hs
end Go.Proofs
namespace Go.Proofs.YtfdhofabgdkkkaaGreatDoor
open Go.RowKit Go.Fm Go.BigFrame Go.Shelf Go.Maps
set_option linter.unusedVariables false
set_option linter.unusedSimpArgs false
structure KK (K:Type) where
 kt:TypeId
 kv:K→Value
 kl:K→Lit
 ok:K→Prop
structure zBd {K:Type} (q:KK K):Prop where
 keyed:Keyed Tryz.prog q.kt
 key:∀k,q.ok k→keyOf Tryz.prog q.kt (q.kv k)=some (q.kl k)
 inj:∀a b,q.ok a→q.ok b→q.kl a=q.kl b→a=b
 isk:∀k,WideAt.IsKeyLit (q.kl k)
def kZ:Value→Option (DataW Value × List MemPlace):=fun v=>some (.held v,[])
section
variable {K:Type} {q:KK K}
theorem zGd {w:World} {b n:Nat} {D:DataW Value} (h:w.ownsMap Tryz.prog q.kt kZ b n D):w.ownsMap Tryz.prog q.kt kZ b (Maps.size D) D:=by
 obtain ⟨es,clock,h1,h2,h3,h4⟩:=h;exact ⟨es,clock,h1,h2,by rw [h4]; simp [Maps.size,length_sorted],h4⟩
end
section
variable {K:Type} [DecidableEq K] {q:KK K}
def zk (L:List (K × Value)) (k:K):Option Value:=(L.find? fun r=>r.1=k).map (·.2)
structure zBe (q:KK K) (L:List (K × Value)):Prop where
 nodup:(L.map (·.1)).Nodup
 ok:∀r∈L,q.ok r.1
def xT (q:KK K) (w:World) (b:Nat) (L:List (K × Value)):Prop:=
 zBe q L∧∃D:DataW Value,w.ownsMap Tryz.prog q.kt kZ b (Maps.size D) D∧Maps.size D=L.length∧
  (∀k:K,q.ok k→∀z,D.atKey (q.kl k) z=match zk L k with | some a=>.held a | none=>z)
theorem xH {L:List (K × Value)} {k:K} {a:Value} (h:zk L k=some a):(k,a)∈L:=by
 unfold zk at h;cases hf:L.find? fun r=>r.1=k with
 | none=>rw [hf] at h; cases h
 | some r=>
  rw [hf] at h;have h1:=List.find?_some hf;have h2:=List.mem_of_find?_eq_some hf;simp at h h1;obtain ⟨x,y⟩:=r;simp at h h1;subst h h1;exact h2
theorem xT.lt {w:World} {b:Nat} {L:List (K × Value)} (h:xT q w b L):b < w.heap.size:=by
 obtain ⟨-,D,h1,-⟩:=h; exact h1.lt
theorem xT.to {w w':World} {b:Nat} {L:List (K × Value)} (h:xT q w b L) (hb:w'.heap[b]?=w.heap[b]?):xT q w' b L:=by
 obtain ⟨h0,D,⟨es,clock,h1,h2⟩,h3⟩:=h;exact ⟨h0,D,⟨es,clock,hb.trans h1,h2⟩,h3⟩
theorem xT.fr {w w':World} {b:Nat} {L:List (K × Value)} {S:Nat→Prop} (h:xT q w b L) (hf:Fr S w w') (hb:¬S b):xT q w' b L:=h.to (hf.block b h.lt hb)
theorem xT.made (q:KK K) (w:World):xT q (w.alloc (.map #[] 0)) w.heap.size []:=
 ⟨⟨List.nodup_nil,by simp⟩,.map [],World.ownsMap_made w Tryz.prog q.kt _,rfl,fun _ _ _=>rfl⟩
theorem xT.has {L:List (K × Value)} {D:DataW Value} (h3:∀k:K,q.ok k→∀z,D.atKey (q.kl k) z=match zk L k with | some a=>.held a | none=>z) {k:K} (hk:q.ok k):Maps.has D (q.kl k)=(zk L k).isSome:=by
 cases hf:zk L k with
 | none=>exact has_false_of_atKey fun z=>by rw [h3 k hk,hf]
 | some x=>exact has_true_of_atKey (y:=.held x) fun z=>by rw [h3 k hk,hf]
theorem zCe {v x:Value} {ps:List MemPlace} (h:kZ v=some (.held x,ps)):v=x:=by
 unfold kZ at h;simp at h;exact h.1
theorem xT.look (Q:zBd q) {w:World} {b:Nat} {L:List (K × Value)} {mt et:TypeId} {z:Value} (h:xT q w b L) (ht:Tryz.prog.underlying mt=some (.map q.kt et)) (hz:(zeroValue et).run Tryz.prog w=.ok z w) {k:K} (hk:q.ok k):
  (Instr.lookup mt (.map (some b)) (q.kv k) true).run Tryz.prog w=.ok (.tuple #[(zk L k).getD z,.bool (zk L k).isSome]) w:=by
 obtain ⟨h0,D,h1,h2,h3⟩:=h;obtain ⟨v,ps,hr,hv⟩:=h1.look_ok Q.keyed ht hz (show kZ z=some (.held z,[]) from rfl) (Q.key k hk);rw [hr,xT.has h3 hk];rw [h3 k hk] at hv;cases hf:zk L k with
 | none=>rw [hf] at hv; rw [zCe hv]; rfl
 | some x=>rw [hf] at hv; rw [zCe hv]; rfl
theorem xT.look1 (Q:zBd q) {w:World} {b:Nat} {L:List (K × Value)} {mt et:TypeId} {z:Value} (h:xT q w b L) (ht:Tryz.prog.underlying mt=some (.map q.kt et)) (hz:(zeroValue et).run Tryz.prog w=.ok z w) {k:K} (hk:q.ok k):
  (Instr.lookup mt (.map (some b)) (q.kv k) false).run Tryz.prog w=.ok ((zk L k).getD z) w:=by
 obtain ⟨h0,D,h1,h2,h3⟩:=h;obtain ⟨v,ps,hr,hv⟩:=h1.lookup Q.keyed ht hz (show kZ z=some (.held z,[]) from rfl) (Q.key k hk);rw [hr];rw [h3 k hk] at hv;cases hf:zk L k with
 | none=>rw [hf] at hv; rw [zCe hv]; rfl
 | some x=>rw [hf] at hv; rw [zCe hv]; rfl
def jb (L:List (K × Value)) (k:K) (a:Value):List (K × Value):=(k,a)::L.filter fun r=>r.1≠k
def vZ (L:List (K × Value)) (k:K):List (K × Value):=L.filter fun r=>r.1≠k
theorem zEk (L:List (K × Value)) (p:K→Bool) (k:K):zk (L.filter fun r=>p r.1) k=if p k then zk L k else none:=by
 unfold zk;induction L with
 | nil=>simp
 | cons x r ih=>
  by_cases hx:x.1=k
  ·subst hx
   by_cases hp:p x.1
   ·simp [hp]
   ·simp [hp] at ih ⊢
    exact ih
  ·by_cases hp:p x.1=true <;> simp only [List.filter_cons,hp,if_true,List.find?_cons,hx,decide_false,Bool.false_eq_true,if_false] <;> exact ih
theorem va (L:List (K × Value)) (k:K) (a:Value) (k':K):zk (jb L k a) k'=if k'=k then some a else zk L k':=by
 unfold jb;by_cases e:k'=k
 ·subst e; simp [zk]
 ·have h1:zk ((k,a)::L.filter fun r=>r.1≠k) k'=zk (L.filter fun r=>r.1≠k) k':=by
   unfold zk;rw [List.find?_cons_of_neg];simp; exact fun h=>e h.symm
  rw [h1,if_neg e]
  have:=zEk L (fun x=>x≠k) k'
  simp only [e,ne_eq,not_false_eq_true,decide_true,if_true] at this;exact this
theorem zEl {L:List (K × Value)} (hn:(L.map (·.1)).Nodup) (k:K):(vZ L k).length+(if (zk L k).isSome then 1 else 0)=L.length:=by
 induction L with
 | nil=>simp [vZ,zk]
 | cons x r ih=>
  obtain ⟨h1,h2⟩:=List.nodup_cons.1 hn;have ih:=ih h2;by_cases hx:x.1=k
  ·subst hx
   have:zk r x.1=none:=by
    cases hg:zk r x.1 with
    | none=>rfl
    | some a=>exact absurd (List.mem_map.2 ⟨_,xH hg,rfl⟩) h1
   rw [this] at ih;simp [vZ,zk] at ih ⊢;exact ih
  ·have e1:zk (x::r) k=zk r k:=by unfold zk; rw [List.find?_cons_of_neg]; simpa using hx
   rw [e1];simp [vZ,hx] at ih ⊢;omega
theorem zDn {L:List (K × Value)} (h:zBe q L) (k:K):zBe q (vZ L k):=
 ⟨h.nodup.sublist (List.filter_sublist.map _),fun r hr=>h.ok r (List.mem_filter.1 hr).1⟩
theorem zUr {L:List (K × Value)} (h:zBe q L) {k:K} (hk:q.ok k) {a:Value} :zBe q (jb L k a):=by
 refine ⟨?_,fun r hr=>?_⟩
 ·unfold jb
  rw [List.map_cons,List.nodup_cons];refine ⟨fun hm=>?_,(zDn h k).nodup⟩;obtain ⟨r,hr,e⟩:=List.mem_map.1 hm
  have:=(List.mem_filter.1 hr).2
  simp at this;exact this e
 ·rcases List.mem_cons.1 hr with rfl | hr
  ·exact hk
  ·exact (zDn h k).ok r hr
theorem xT.put (Q:zBd q) {w w':World} {b n:Nat} {L:List (K × Value)} {D:DataW Value} (h0:zBe q L) (h1:w.ownsMap Tryz.prog q.kt kZ b n D) (h2:Maps.size D=L.length)
  (h3:∀k:K,q.ok k→∀z,D.atKey (q.kl k) z=match zk L k with | some a=>.held a | none=>z) {k:K} (hk:q.ok k) {x:Value}
  {m:Nat} (h4:w'.ownsMap Tryz.prog q.kt kZ b m (D.put (q.kl k) (.held x))):xT q w' b (jb L k x):=by
 have isk:WideAt.IsKeyLit (q.kl k):=Q.isk k;refine ⟨zUr h0 hk,_,zGd h4,?_,fun k' hk' z=>?_⟩
 ·rw [size_put (h1.tidy Q.keyed),xT.has h3 hk,h2]
  have:=zEl h0.nodup k
  have e:(jb L k x).length=(vZ L k).length+1:=rfl;rw [e];cases hs:(zk L k).isSome <;> rw [hs] at this <;> simp at this ⊢ <;> omega
 ·rw [va]
  by_cases e:k'=k
  ·subst e
   rw [atKey_put_same h1.isMap isk]; simp
  ·rw [atKey_put_other (fun h=>e (Q.inj _ _ hk' hk h)),h3 k' hk',if_neg e]
end
section
variable {K:Type} [DecidableEq K] {q:KK K} {ops:Array Oper} {rest:List Oper} {o:Oper} {a:Act} {Q:Exit→Act→World→Prop}
theorem uJ (ql:zBd q) (w:World) (hg:o.guard=none) (mt et:TypeId) (ht:Tryz.prog.underlying mt=some (.map q.kt et)) (m x v:Operand) (hop:o.op=Op.mapUpdate mt m x v) (b:Nat) (L:List (K × Value)) (hm:a.eval m=.map (some b)) (hM:xT q w b L) (hn:L.length < 1000000)
  (k:K) (hx:a.eval x=q.kv k) (hk:q.ok k) (u:Value) (hv:a.eval v=u)
  (hK:∀w',xT q w' b (jb L k u)→w.grownBy w' (some b)→wpList Tryz.prog ops Q rest (a.put o.dst undef) w'):wpList Tryz.prog ops Q (o::rest) a w:=by
 obtain ⟨h0,D,h1,h2,h3⟩:=hM;refine wpList_mapUpdate_own w hg m x v mt hop q.kt et ql.keyed ht kZ b _ D hm h1 (by rw [h2]; unfold maxLen; omega) (q.kv k) u _ hx hv (ql.key k hk) (.held u) [] rfl fun w' h7 h8=>hK w' (xT.put ql h0 h1 h2 h3 hk h7) h8
end
def jF:KK ByteArray:=⟨9,fun s=>.string s,fun s=>.string s.data.toList,fun s=>s.size≤maxLen⟩
theorem vz:zBd jF:=⟨string_keyed Tryz.underlying9,fun k h=>WideMaps.keyOf_string_mk Tryz.underlying9 h,fun a b _ _ h=>by
 unfold jF at h;injection h with h
 cases a; cases b; simp_all [←Array.toList_inj],fun k=>trivial⟩
theorem gLaidOut:laidOutB Tryz.prog=true:=by kernel_rfl
theorem g3:Tryz.prog.cellsOf 3=1:=by kernel_rfl
theorem gPlace:Tryz.prog.cellsOf 150=2:=by kernel_rfl
theorem gSize:∃d,Tryz.prog.types.size+1=d+1+1:=⟨432,by kernel_rfl⟩
theorem gKeyP:Tryz.prog.keyType 150=true:=by kernel_rfl
theorem gl3 (d:Nat) (v:Value):Tryz.prog.keyLits (d+1) 3 [v]=match v with | .int q n=>if q=.i64∧(Lit.int .i64 n).wf=true then some [.int .i64 n] else none | _=>none:=by
 unfold Program.keyLits;simp only [Tryz.underlying3];cases v <;> rfl
theorem glP' (d:Nat) (v u:Value) (A B:Option (List Lit)) (h1:Tryz.prog.keyLits d 3 [v]=A) (h2:Tryz.prog.keyLits d 3 [u]=B):Tryz.prog.keyLits (d+1) 150 [v,u]=A.bind fun x=>B.bind fun y=>some (x++y):=by
 unfold Program.keyLits;simp only [Tryz.underlying150,gPlace];cases A <;> cases B <;> simp [g3,h1,h2]
theorem glP (d:Nat) (v u:Value):Tryz.prog.keyLits (d+1) 150 [v,u]=(Tryz.prog.keyLits d 3 [v]).bind fun x=>(Tryz.prog.keyLits d 3 [u]).bind fun y=>some (x++y):=glP' d v u _ _ rfl rfl
theorem kLawP:Keyed Tryz.prog 150:=Keyed.of_law (deep_law_laid gLaidOut (m:=3) (by omega) (of_decide_eq_true (by kernel_rfl)) (by kernel_rfl) (by rw [Tryz.underlying150]))
structure zY where
 id:Int
 ix:Int
deriving DecidableEq
structure zFr (p:zY):Prop where
 id:(Lit.int .i64 p.id).wf=true
 ix:(Lit.int .i64 p.ix).wf=true
def zBr (p:zY):Value:=.agg #[.int .i64 p.id,.int .i64 p.ix]
def zGe (p:zY):Lit:=.string (keyBytes [.int .i64 p.id,.int .i64 p.ix])
theorem ke {k:zY} (h:zFr k):keyOf Tryz.prog 150 (zBr k)=some (zGe k):=by
 unfold keyOf;rw [Tryz.underlying150];obtain ⟨d,hd⟩:=gSize;simp only [gKeyP,zBr,Value.formed,Tryz.underlying150,gPlace,List.size_toArray,List.length_cons,List.length_nil,Nat.zero_add,Nat.reduceAdd,BEq.rfl,Bool.true_and,if_true,Value.cells,hd];rw [glP,gl3,gl3];simp [h.id,h.ix,zGe]
theorem zPx {a b:zY} (h:zBr a=zBr b):a=b:=by
 cases a; cases b
 simp [zBr] at h;simp [h]
def kf:KK zY:=⟨150,zBr,zGe,zFr⟩
theorem zGf:zBd kf:=⟨kLawP,fun k h=>ke h,fun a b ha hb h=>zPx (kLawP.inj (ke ha) (by rw [show zGe a=zGe b from h]; exact ke hb)),fun k=>trivial⟩
def zUs:KK Int:=⟨3,fun n=>.int .i64 n,fun n=>.int .i64 n,fun n=>(Lit.int .i64 n).wf=true⟩
theorem uk:zBd zUs:=⟨int_keyed Tryz.underlying3,fun k h=>keyOf_int_mk Tryz.underlying3 h,fun a b _ _ h=>by
 have h2:Lit.int .i64 a=Lit.int .i64 b:=h;injection h2,fun k=>trivial⟩
def dig (k:Nat):UInt8:=UInt8.ofNat k
def yo (m:Nat):List UInt8:=if m < 128 then [dig m] else dig (m % 128+128)::yo (m / 128)
termination_by m
decreasing_by omega
def zig (n:Int):Nat:=if n < 0 then 2 * (-(n+1)).toNat+1 else 2 * n.toNat
def zM (n:Int):ByteArray:=⟨(yo (zig n)).toArray⟩
theorem zq {m:Nat} (h:m < 128):yo m=[dig m]:=by rw [yo,if_pos h]
theorem yu {m:Nat} (h:128≤m):yo m=dig (m % 128+128)::yo (m / 128):=by rw [yo,if_neg (by omega)]
theorem ul:∀(k m:Nat),m < 128 ^ (k+1)→(yo m).length≤k+1
 | 0,m,h=>by rw [zq (by simpa using h)]; simp
 | k+1,m,h=>by
  by_cases hm:m < 128
  ·rw [zq hm]; simp
  ·rw [yu (by omega)]
   have:m / 128 < 128 ^ (k+1):=by
    rw [Nat.pow_succ] at h;exact Nat.div_lt_of_lt_mul (by rw [Nat.mul_comm]; exact h)
   have:=ul k (m / 128) this
   simp; omega
theorem kg {n:Int} (h:(Lit.int .i64 n).wf=true):zig n < 18446744073709551616:=by
 simp [Lit.wf,IntKind.min,IntKind.max,IntKind.signed,IntKind.bits] at h;unfold zig;split <;> omega
theorem zb {n:Int} (h:(Lit.int .i64 n).wf=true):(zM n).size≤10:=by
 have h1:=kg h;have h2:=ul 9 (zig n) (by omega);simpa [zM,ByteArray.size] using h2
def zL (b:UInt8):Value:=.int .u8 (b.toNat:Int)
theorem yK {k:Nat} (h:k < 256):zL (dig k)=.int .u8 (k:Int):=by
 unfold zL dig;rw [UInt8.toNat_ofNat_of_lt' h]
theorem zMm:(Tryz.prog.info? 5).map (fun i=>(i.zero,i.size,i.bytes))=some (some (.int .u8 0),1,1):=by kernel_rfl
def zI (s:ByteArray):ByteArray:=zM s.size++s
theorem vT {n:Nat} (h:n≤1000000000):(Lit.int .i64 (n:Int)).wf=true:=by
 simp [Lit.wf,IntKind.min,IntKind.max,IntKind.signed,IntKind.bits]; omega
theorem zp {s:ByteArray} (h:s.size≤1000000000):(zI s).size≤10+s.size:=by
 have:=zb (vT h)
 unfold zI;rw [ByteArray.size_append];omega
end Go.Proofs.YtfdhofabgdkkkaaGreatDoor
